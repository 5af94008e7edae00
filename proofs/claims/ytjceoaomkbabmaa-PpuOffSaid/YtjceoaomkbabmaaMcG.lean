/- The contracts of a line, as the program draws it. -/
import Derived.Test.YtjceoaomkbabmaaMcA
import Derived.Test.YtjceoaomkbabmaaMcC
import Derived.Test.YtjceoaomkbabmaaMcD
import Derived.Test.YtjceoaomkbabmaaMcF
namespace Go.Proofs.Ytjceoaomkbabmaa
open Go Go.VV Go.Proofs
set_option linter.unusedSimpArgs false
set_option linter.unusedVariables false
set_option maxRecDepth 100000
theorem of_fn (a : Option Addr) (cap : Nat) (l : List Int) (hl : Byts l) (n : Int) (hn : 0 ≤ n ∧ n < 40) (hcap : l.length ≤ cap) (w : World) (hB : Ns w .u8 a l) :
    Does Try.prog 59 [.slice a l.length cap, .int .i64 n] w [] (fun v H => H = [] ∧ v = .agg #[.int .i64 n, .int .i64 (oB l n 0 - 16), .int .i64 (oB l n 1 - 8), .int .i64 (oB l n 2), .int .u8 (oB l n 3)]) := by
  refine does_of Try.func59 rfl rfl rfl (St.refl w) ?_
  refine c_seq ?_
  refine c_region ?_
  refine l_x (x_alloc rfl) rfl rfl ?_
  rintro _ _ ⟨b4, rfl, rfl⟩
  refine l_nil ?_
  refine c_seq ?_
  refine c_region ?_
  refine l_x (x_alloc rfl) rfl rfl ?_
  rintro _ _ ⟨b5, rfl, rfl⟩
  refine l_nil ?_
  refine c_seq ?_
  refine c_seq ?_
  refine c_region ?_
  refine l_l rfl rfl rfl ?_
  refine l_l rfl rfl rfl ?_
  rw [wrap_i64 (n := 4 * n) (by omega) (by omega)]
  refine l_l rfl rfl rfl ?_
  refine l_nil ?_
  refine c_seq ?_
  refine c_region ?_
  refine l_l rfl rfl rfl ?_
  refine l_l rfl rfl rfl ?_
  refine l_l (by first | exact light_len rfl rfl | exact light_lens rfl rfl | rfl) rfl rfl ?_
  refine l_l rfl rfl rfl ?_
  refine l_nil ?_
  refine c_cond rfl (fun h1 => ?_) (fun h1 => ?_)
  · obtain ⟨b, off, rfl, hr⟩ := hB.row (i := (4 * n).toNat) (by simp at *; omega)
    refine c_draw _ [] (.step true 0 (.step true 1 (.step true 2 (.step true 3 (.step false 4 .done))))) rfl (by kernel_rfl) (by kernel_rfl) (fun _ h => h) ?_
    refine d_light rfl (cut_array1 0 4 rfl rfl rfl rfl rfl rfl (by decide) (by decide)) rfl rfl rfl ?_
    refine d_light rfl rfl rfl rfl rfl ?_
    refine d_light rfl rfl rfl rfl rfl ?_
    refine d_light rfl (cut_slice1 (4 * n).toNat l.length rfl rfl rfl rfl (by show 4 * n = _; omega) rfl (by simp at *; omega) hcap) rfl rfl rfl ?_
    refine d_x rfl (x_copy (off := 0) (dl := 4) (m := l.length - (4 * n).toNat) 0 rfl rfl rfl rfl rfl (fun w hw => .row _ _ _ _ _ (by simp) ((row_old hr (by simp) w hw).cut1 (k := l.length - (4 * n).toNat) (c := cap) (by simp at *; omega))) (ones_cut _ _ _ _) (by simp; omega)) rfl rfl (by intro h; cases h) ?_
    rintro _ _ ⟨rfl, rfl⟩
    simp only [List.set_cons_zero, four_law hn (by simp at *; omega)]
    refine d_nil ?_
    refine c_seq ?_
    refine c_region ?_
    refine l_l rfl rfl rfl ?_
    refine l_l (by first | exact idx_array1 0 rfl rfl rfl rfl (by decide) | exact idx_slice1 0 rfl rfl rfl rfl (by decide) | exact idx_array 0 rfl rfl rfl rfl (by decide) | exact idx_slice 0 rfl rfl rfl rfl (by decide)) rfl rfl ?_
    refine l_x (x_load rfl rfl (at_own (by repeat (first | exact .head _ | refine .tail _ ?_ | refine List.mem_append_right _ ?_)) (by rfl))) rfl rfl ?_
    rintro _ _ ⟨rfl, rfl⟩
    refine l_l rfl rfl rfl ?_
    refine l_l rfl rfl rfl ?_
    refine l_l (by first | exact idx_array1 1 rfl rfl rfl rfl (by decide) | exact idx_slice1 1 rfl rfl rfl rfl (by decide) | exact idx_array 1 rfl rfl rfl rfl (by decide) | exact idx_slice 1 rfl rfl rfl rfl (by decide)) rfl rfl ?_
    refine l_x (x_load rfl rfl (at_own (by repeat (first | exact .head _ | refine .tail _ ?_ | refine List.mem_append_right _ ?_)) (by rfl))) rfl rfl ?_
    rintro _ _ ⟨rfl, rfl⟩
    refine l_l rfl rfl rfl ?_
    refine l_l rfl rfl rfl ?_
    refine l_l (by first | exact idx_array1 2 rfl rfl rfl rfl (by decide) | exact idx_slice1 2 rfl rfl rfl rfl (by decide) | exact idx_array 2 rfl rfl rfl rfl (by decide) | exact idx_slice 2 rfl rfl rfl rfl (by decide)) rfl rfl ?_
    refine l_x (x_load rfl rfl (at_own (by repeat (first | exact .head _ | refine .tail _ ?_ | refine List.mem_append_right _ ?_)) (by rfl))) rfl rfl ?_
    rintro _ _ ⟨rfl, rfl⟩
    refine l_l rfl rfl rfl ?_
    refine l_l (by first | exact idx_array1 3 rfl rfl rfl rfl (by decide) | exact idx_slice1 3 rfl rfl rfl rfl (by decide) | exact idx_array 3 rfl rfl rfl rfl (by decide) | exact idx_slice 3 rfl rfl rfl rfl (by decide)) rfl rfl ?_
    refine l_x (x_load rfl rfl (at_own (by repeat (first | exact .head _ | refine .tail _ ?_ | refine List.mem_append_right _ ?_)) (by rfl))) rfl rfl ?_
    rintro _ _ ⟨rfl, rfl⟩
    refine l_l (light_struct rfl rfl rfl rfl) rfl rfl ?_
    refine l_x (by first | exact x_store 0 rfl rfl rfl rfl rfl rfl (by first | rfl | exact Nat.le_of_ble_eq_true rfl | (simp; done)) | exact x_store 1 rfl rfl rfl rfl rfl rfl (by first | rfl | exact Nat.le_of_ble_eq_true rfl | (simp; done)) | exact x_store 2 rfl rfl rfl rfl rfl rfl (by first | rfl | exact Nat.le_of_ble_eq_true rfl | (simp; done)) | exact x_store 3 rfl rfl rfl rfl rfl rfl (by first | rfl | exact Nat.le_of_ble_eq_true rfl | (simp; done))) rfl rfl ?_
    rintro _ _ ⟨rfl, rfl⟩
    refine l_nil ?_
    refine c_ret ?_
    exact l_end0 (fun w hw => rets_cell rfl rfl rfl (row_own (by repeat (first | exact .head _ | refine .tail _ ?_ | refine List.mem_append_right _ ?_)) w hw)) ⟨rfl, of_law hl n⟩
  · refine c_skip ?_
    refine c_seq ?_
    rw [four_none' hn (by simp at *; omega)]
    refine c_region ?_
    refine l_l rfl rfl rfl ?_
    refine l_l (by first | exact idx_array1 0 rfl rfl rfl rfl (by decide) | exact idx_slice1 0 rfl rfl rfl rfl (by decide) | exact idx_array 0 rfl rfl rfl rfl (by decide) | exact idx_slice 0 rfl rfl rfl rfl (by decide)) rfl rfl ?_
    refine l_x (x_load rfl rfl (at_own (by repeat (first | exact .head _ | refine .tail _ ?_ | refine List.mem_append_right _ ?_)) (by rfl))) rfl rfl ?_
    rintro _ _ ⟨rfl, rfl⟩
    refine l_l rfl rfl rfl ?_
    refine l_l rfl rfl rfl ?_
    refine l_l (by first | exact idx_array1 1 rfl rfl rfl rfl (by decide) | exact idx_slice1 1 rfl rfl rfl rfl (by decide) | exact idx_array 1 rfl rfl rfl rfl (by decide) | exact idx_slice 1 rfl rfl rfl rfl (by decide)) rfl rfl ?_
    refine l_x (x_load rfl rfl (at_own (by repeat (first | exact .head _ | refine .tail _ ?_ | refine List.mem_append_right _ ?_)) (by rfl))) rfl rfl ?_
    rintro _ _ ⟨rfl, rfl⟩
    refine l_l rfl rfl rfl ?_
    refine l_l rfl rfl rfl ?_
    refine l_l (by first | exact idx_array1 2 rfl rfl rfl rfl (by decide) | exact idx_slice1 2 rfl rfl rfl rfl (by decide) | exact idx_array 2 rfl rfl rfl rfl (by decide) | exact idx_slice 2 rfl rfl rfl rfl (by decide)) rfl rfl ?_
    refine l_x (x_load rfl rfl (at_own (by repeat (first | exact .head _ | refine .tail _ ?_ | refine List.mem_append_right _ ?_)) (by rfl))) rfl rfl ?_
    rintro _ _ ⟨rfl, rfl⟩
    refine l_l rfl rfl rfl ?_
    refine l_l (by first | exact idx_array1 3 rfl rfl rfl rfl (by decide) | exact idx_slice1 3 rfl rfl rfl rfl (by decide) | exact idx_array 3 rfl rfl rfl rfl (by decide) | exact idx_slice 3 rfl rfl rfl rfl (by decide)) rfl rfl ?_
    refine l_x (x_load rfl rfl (at_own (by repeat (first | exact .head _ | refine .tail _ ?_ | refine List.mem_append_right _ ?_)) (by rfl))) rfl rfl ?_
    rintro _ _ ⟨rfl, rfl⟩
    refine l_l (light_struct rfl rfl rfl rfl) rfl rfl ?_
    refine l_x (by first | exact x_store 0 rfl rfl rfl rfl rfl rfl (by first | rfl | exact Nat.le_of_ble_eq_true rfl | (simp; done)) | exact x_store 1 rfl rfl rfl rfl rfl rfl (by first | rfl | exact Nat.le_of_ble_eq_true rfl | (simp; done)) | exact x_store 2 rfl rfl rfl rfl rfl rfl (by first | rfl | exact Nat.le_of_ble_eq_true rfl | (simp; done)) | exact x_store 3 rfl rfl rfl rfl rfl rfl (by first | rfl | exact Nat.le_of_ble_eq_true rfl | (simp; done))) rfl rfl ?_
    rintro _ _ ⟨rfl, rfl⟩
    refine l_nil ?_
    refine c_ret ?_
    exact l_end0 (fun w hw => rets_cell rfl rfl rfl (row_own (by repeat (first | exact .head _ | refine .tail _ ?_ | refine List.mem_append_right _ ?_)) w hw)) ⟨rfl, of_law hl n⟩

theorem sdot_fn (c cb cf cs : Int) (hc : 0 ≤ c ∧ c < 256) (a : Option Addr) (cap : Nat) (l : List Int) (hl : Byts l) (n y x0 tile how x line : Int)
    (hy : -16 ≤ y ∧ y ≤ 240) (hx : -8 ≤ x0 ∧ x0 ≤ 248) (ht : 0 ≤ tile ∧ tile < 256) (hh : 0 ≤ how ∧ how < 256) (w : World) (hB : Ns w .u8 a l) :
    Does Try.prog 77 [.agg #[.int .u8 c, .int .u8 cb, .int .u8 cf, .int .u8 cs], .slice a l.length cap, .agg #[.int .i64 n, .int .i64 y, .int .i64 x0, .int .i64 tile, .int .u8 how], .int .i64 x, .int .i64 line] w [] (fun v H => H = [] ∧ v = .int .u8 (sDot l c y x0 tile how x line)) := by
  refine does_of Try.func77 rfl rfl rfl (St.refl w) ?_
  refine c_seq ?_
  refine c_region ?_
  refine l_x (x_box rfl rfl) rfl rfl ?_
  rintro _ _ ⟨b5, rfl, rfl⟩
  refine l_x (x_box rfl rfl) rfl rfl ?_
  rintro _ _ ⟨b7, rfl, rfl⟩
  refine l_l rfl rfl rfl ?_
  refine l_nil ?_
  refine c_seq ?_
  refine c_region ?_
  refine l_x (x_loadA rfl rfl rfl (by first | exact row_own (by repeat (first | exact .head _ | refine .tail _ ?_ | refine List.mem_append_right _ ?_)) | exact row_own_at (by repeat (first | exact .head _ | refine .tail _ ?_ | refine List.mem_append_right _ ?_)) _ 4 rfl)) rfl rfl ?_
  rintro _ _ ⟨rfl, rfl⟩
  refine l_x (x_val call_74 rfl (fun w hw => height_fn c cb cf cs hc w)) rfl rfl ?_
  rintro _ _ ⟨rfl, rfl⟩
  refine l_l rfl rfl rfl ?_
  refine l_nil ?_
  refine c_seq ?_
  refine c_seq ?_
  refine c_region ?_
  refine l_l rfl rfl rfl ?_
  refine l_l (light_fa rfl rfl) rfl rfl ?_
  refine l_x (x_load rfl rfl (at_own (by repeat (first | exact .head _ | refine .tail _ ?_ | refine List.mem_append_right _ ?_)) (by rfl))) rfl rfl ?_
  rintro _ _ ⟨rfl, rfl⟩
  refine l_l rfl rfl rfl ?_
  refine l_x (x_val call_73 rfl (fun w hw => within_fn _ _ _ w)) rfl rfl ?_
  rintro _ _ ⟨rfl, rfl⟩
  refine l_l rfl rfl rfl ?_
  refine l_b rfl rfl rfl (fun h1 => ?_) (fun h1 => ?_)
  · refine l_p rfl rfl ?_
    refine l_p rfl rfl ?_
    refine l_p rfl rfl ?_
    refine l_p rfl rfl ?_
    refine l_p rfl rfl ?_
    refine l_l rfl rfl rfl ?_
    refine l_nil ?_
    refine c_true rfl ?_
    refine c_seq ?_
    refine c_region ?_
    refine l_l rfl rfl rfl ?_
    refine l_nil ?_
    refine c_ret ?_
    exact l_end0 (fun _ _ => rets_v rfl) ⟨rfl, congrArg _ (psdot_none hy hx (by simp at *; omega))⟩
  · refine l_l rfl rfl rfl ?_
    refine l_l (light_fa rfl rfl) rfl rfl ?_
    refine l_x (x_load rfl rfl (at_own (by repeat (first | exact .head _ | refine .tail _ ?_ | refine List.mem_append_right _ ?_)) (by rfl))) rfl rfl ?_
    rintro _ _ ⟨rfl, rfl⟩
    refine l_x (x_val call_73 rfl (fun w hw => within_fn _ _ _ w)) rfl rfl ?_
    rintro _ _ ⟨rfl, rfl⟩
    refine l_l rfl rfl rfl ?_
    refine l_l rfl rfl rfl ?_
    refine l_nil ?_
    refine c_cond rfl (fun h2 => ?_) (fun h2 => ?_)
    · refine c_seq ?_
      refine c_region ?_
      refine l_l rfl rfl rfl ?_
      refine l_nil ?_
      refine c_ret ?_
      exact l_end0 (fun _ _ => rets_v rfl) ⟨rfl, congrArg _ (psdot_none hy hx (by simp at *; omega))⟩
    · refine c_skip ?_
      refine c_seq ?_
      refine c_draw _ [4, 5, 6, 7, 8] (.step true 0 (.step true 1 (.step true 2 (.step true 3 (.step true 4 (.step true 5 (.step true 6 (.step true 7 (.step true 8 (.step true 9 .done)))))))))) rfl (by kernel_rfl) (by kernel_rfl) (fun _ h => h) ?_
      refine d_light rfl rfl rfl rfl rfl ?_
      refine d_light rfl (light_fa rfl rfl) rfl rfl rfl ?_
      refine d_load rfl rfl rfl (s_own (by repeat (first | exact .head _ | refine .tail _ ?_ | refine List.mem_append_right _ ?_)) (by rfl)) rfl rfl ?_
      refine d_light rfl rfl rfl rfl rfl ?_
      refine d_light rfl rfl rfl rfl rfl ?_
      refine d_light rfl (light_fa rfl rfl) rfl rfl rfl ?_
      refine d_load rfl rfl rfl (s_own (by repeat (first | exact .head _ | refine .tail _ ?_ | refine List.mem_append_right _ ?_)) (by rfl)) rfl rfl ?_
      refine d_light rfl rfl rfl rfl rfl ?_
      refine d_light rfl rfl rfl rfl rfl ?_
      refine d_light rfl rfl rfl rfl rfl ?_
      refine d_nil ?_
      refine c_seq ?_
      refine c_seq ?_
      refine c_region ?_
      refine l_l (light_fa rfl rfl) rfl rfl ?_
      refine l_x (x_load rfl rfl (at_own (by repeat (first | exact .head _ | refine .tail _ ?_ | refine List.mem_append_right _ ?_)) (by rfl))) rfl rfl ?_
      rintro _ _ ⟨rfl, rfl⟩
      refine l_l rfl rfl rfl ?_
      refine l_l rfl rfl rfl ?_
      refine l_nil ?_
      refine c_cond rfl (fun h3 => ?_) (fun h3 => ?_)
      · refine c_region ?_
        refine l_l rfl rfl rfl ?_
        refine l_l rfl rfl rfl ?_
        refine l_l rfl rfl rfl ?_
        refine l_l rfl rfl rfl ?_
        refine l_l rfl rfl rfl ?_
        refine l_nil ?_
        refine c_seq ?_
        refine c_seq ?_
        refine c_region ?_
        refine l_l (light_fa rfl rfl) rfl rfl ?_
        refine l_x (x_load rfl rfl (at_own (by repeat (first | exact .head _ | refine .tail _ ?_ | refine List.mem_append_right _ ?_)) (by rfl))) rfl rfl ?_
        rintro _ _ ⟨rfl, rfl⟩
        refine l_l rfl rfl rfl ?_
        refine l_l rfl rfl rfl ?_
        refine l_nil ?_
        refine c_cond rfl (fun h4 => ?_) (fun h4 => ?_)
        · refine c_region ?_
          refine l_l rfl rfl rfl ?_
          refine l_l rfl rfl rfl ?_
          refine l_l rfl rfl rfl ?_
          refine l_nil ?_
          refine c_seq ?_
          refine c_region ?_
          refine l_l (light_fa rfl rfl) rfl rfl ?_
          refine l_x (x_load rfl rfl (at_own (by repeat (first | exact .head _ | refine .tail _ ?_ | refine List.mem_append_right _ ?_)) (by rfl))) rfl rfl ?_
          rintro _ _ ⟨rfl, rfl⟩
          refine l_l rfl rfl rfl ?_
          refine l_nil ?_
          refine c_seq ?_
          refine c_seq ?_
          refine c_region ?_
          refine l_l rfl rfl rfl ?_
          refine l_l rfl rfl rfl ?_
          refine l_nil ?_
          refine c_cond rfl (fun h5 => ?_) (fun h5 => ?_)
          · refine c_region ?_
            refine l_l rfl rfl rfl ?_
            refine l_l rfl rfl rfl ?_
            refine l_l rfl rfl rfl ?_
            refine l_l rfl rfl rfl ?_
            refine l_l rfl rfl rfl ?_
            refine l_l rfl rfl rfl ?_
            refine l_nil ?_
            refine c_seq ?_
            refine c_region ?_
            refine l_l rfl rfl rfl ?_
            refine l_l rfl rfl rfl ?_
            refine l_l rfl rfl rfl ?_
            refine l_l rfl rfl rfl ?_
            refine l_x (x_val call_84 rfl (fun w hw => dot_fn _ _ l hl _ _ _ w (hB.later0 hw))) rfl rfl ?_
            rintro _ _ ⟨rfl, rfl⟩
            refine l_l rfl rfl rfl ?_
            refine l_nil ?_
            refine c_ret ?_
            exact l_end0 (fun _ _ => rets_v rfl) ⟨rfl, congrArg _ (psdot_law hy hx ht hh (by simp at *; omega) (by simp at *; omega) (bu := true) (bt := true) (bh := true) h3 h4 h5)⟩
          · refine c_skip ?_
            refine c_seq ?_
            refine c_region ?_
            refine l_l rfl rfl rfl ?_
            refine l_l rfl rfl rfl ?_
            refine l_l rfl rfl rfl ?_
            refine l_l rfl rfl rfl ?_
            refine l_x (x_val call_84 rfl (fun w hw => dot_fn _ _ l hl _ _ _ w (hB.later0 hw))) rfl rfl ?_
            rintro _ _ ⟨rfl, rfl⟩
            refine l_l rfl rfl rfl ?_
            refine l_nil ?_
            refine c_ret ?_
            exact l_end0 (fun _ _ => rets_v rfl) ⟨rfl, congrArg _ (psdot_law hy hx ht hh (by simp at *; omega) (by simp at *; omega) (bu := true) (bt := true) (bh := false) h3 h4 h5)⟩
        · refine c_skip ?_
          refine c_seq ?_
          refine c_region ?_
          refine l_l (light_fa rfl rfl) rfl rfl ?_
          refine l_x (x_load rfl rfl (at_own (by repeat (first | exact .head _ | refine .tail _ ?_ | refine List.mem_append_right _ ?_)) (by rfl))) rfl rfl ?_
          rintro _ _ ⟨rfl, rfl⟩
          refine l_l rfl rfl rfl ?_
          refine l_nil ?_
          refine c_seq ?_
          refine c_seq ?_
          refine c_region ?_
          refine l_l rfl rfl rfl ?_
          refine l_l rfl rfl rfl ?_
          refine l_nil ?_
          refine c_cond rfl (fun h6 => ?_) (fun h6 => ?_)
          · refine c_region ?_
            refine l_l rfl rfl rfl ?_
            refine l_l rfl rfl rfl ?_
            refine l_l rfl rfl rfl ?_
            refine l_l rfl rfl rfl ?_
            refine l_l rfl rfl rfl ?_
            refine l_l rfl rfl rfl ?_
            refine l_nil ?_
            refine c_seq ?_
            refine c_region ?_
            refine l_l rfl rfl rfl ?_
            refine l_l rfl rfl rfl ?_
            refine l_l rfl rfl rfl ?_
            refine l_l rfl rfl rfl ?_
            refine l_x (x_val call_84 rfl (fun w hw => dot_fn _ _ l hl _ _ _ w (hB.later0 hw))) rfl rfl ?_
            rintro _ _ ⟨rfl, rfl⟩
            refine l_l rfl rfl rfl ?_
            refine l_nil ?_
            refine c_ret ?_
            exact l_end0 (fun _ _ => rets_v rfl) ⟨rfl, congrArg _ (psdot_law hy hx ht hh (by simp at *; omega) (by simp at *; omega) (bu := true) (bt := false) (bh := true) h3 h4 h6)⟩
          · refine c_skip ?_
            refine c_seq ?_
            refine c_region ?_
            refine l_l rfl rfl rfl ?_
            refine l_l rfl rfl rfl ?_
            refine l_l rfl rfl rfl ?_
            refine l_l rfl rfl rfl ?_
            refine l_x (x_val call_84 rfl (fun w hw => dot_fn _ _ l hl _ _ _ w (hB.later0 hw))) rfl rfl ?_
            rintro _ _ ⟨rfl, rfl⟩
            refine l_l rfl rfl rfl ?_
            refine l_nil ?_
            refine c_ret ?_
            exact l_end0 (fun _ _ => rets_v rfl) ⟨rfl, congrArg _ (psdot_law hy hx ht hh (by simp at *; omega) (by simp at *; omega) (bu := true) (bt := false) (bh := false) h3 h4 h6)⟩
      · refine c_skip ?_
        refine c_seq ?_
        refine c_seq ?_
        refine c_region ?_
        refine l_l (light_fa rfl rfl) rfl rfl ?_
        refine l_x (x_load rfl rfl (at_own (by repeat (first | exact .head _ | refine .tail _ ?_ | refine List.mem_append_right _ ?_)) (by rfl))) rfl rfl ?_
        rintro _ _ ⟨rfl, rfl⟩
        refine l_l rfl rfl rfl ?_
        refine l_l rfl rfl rfl ?_
        refine l_nil ?_
        refine c_cond rfl (fun h7 => ?_) (fun h7 => ?_)
        · refine c_region ?_
          refine l_l rfl rfl rfl ?_
          refine l_l rfl rfl rfl ?_
          refine l_l rfl rfl rfl ?_
          refine l_nil ?_
          refine c_seq ?_
          refine c_region ?_
          refine l_l (light_fa rfl rfl) rfl rfl ?_
          refine l_x (x_load rfl rfl (at_own (by repeat (first | exact .head _ | refine .tail _ ?_ | refine List.mem_append_right _ ?_)) (by rfl))) rfl rfl ?_
          rintro _ _ ⟨rfl, rfl⟩
          refine l_l rfl rfl rfl ?_
          refine l_nil ?_
          refine c_seq ?_
          refine c_seq ?_
          refine c_region ?_
          refine l_l rfl rfl rfl ?_
          refine l_l rfl rfl rfl ?_
          refine l_nil ?_
          refine c_cond rfl (fun h8 => ?_) (fun h8 => ?_)
          · refine c_region ?_
            refine l_l rfl rfl rfl ?_
            refine l_l rfl rfl rfl ?_
            refine l_l rfl rfl rfl ?_
            refine l_l rfl rfl rfl ?_
            refine l_l rfl rfl rfl ?_
            refine l_l rfl rfl rfl ?_
            refine l_nil ?_
            refine c_seq ?_
            refine c_region ?_
            refine l_l rfl rfl rfl ?_
            refine l_l rfl rfl rfl ?_
            refine l_l rfl rfl rfl ?_
            refine l_l rfl rfl rfl ?_
            refine l_x (x_val call_84 rfl (fun w hw => dot_fn _ _ l hl _ _ _ w (hB.later0 hw))) rfl rfl ?_
            rintro _ _ ⟨rfl, rfl⟩
            refine l_l rfl rfl rfl ?_
            refine l_nil ?_
            refine c_ret ?_
            exact l_end0 (fun _ _ => rets_v rfl) ⟨rfl, congrArg _ (psdot_law hy hx ht hh (by simp at *; omega) (by simp at *; omega) (bu := false) (bt := true) (bh := true) h3 h7 h8)⟩
          · refine c_skip ?_
            refine c_seq ?_
            refine c_region ?_
            refine l_l rfl rfl rfl ?_
            refine l_l rfl rfl rfl ?_
            refine l_l rfl rfl rfl ?_
            refine l_l rfl rfl rfl ?_
            refine l_x (x_val call_84 rfl (fun w hw => dot_fn _ _ l hl _ _ _ w (hB.later0 hw))) rfl rfl ?_
            rintro _ _ ⟨rfl, rfl⟩
            refine l_l rfl rfl rfl ?_
            refine l_nil ?_
            refine c_ret ?_
            exact l_end0 (fun _ _ => rets_v rfl) ⟨rfl, congrArg _ (psdot_law hy hx ht hh (by simp at *; omega) (by simp at *; omega) (bu := false) (bt := true) (bh := false) h3 h7 h8)⟩
        · refine c_skip ?_
          refine c_seq ?_
          refine c_region ?_
          refine l_l (light_fa rfl rfl) rfl rfl ?_
          refine l_x (x_load rfl rfl (at_own (by repeat (first | exact .head _ | refine .tail _ ?_ | refine List.mem_append_right _ ?_)) (by rfl))) rfl rfl ?_
          rintro _ _ ⟨rfl, rfl⟩
          refine l_l rfl rfl rfl ?_
          refine l_nil ?_
          refine c_seq ?_
          refine c_seq ?_
          refine c_region ?_
          refine l_l rfl rfl rfl ?_
          refine l_l rfl rfl rfl ?_
          refine l_nil ?_
          refine c_cond rfl (fun h9 => ?_) (fun h9 => ?_)
          · refine c_region ?_
            refine l_l rfl rfl rfl ?_
            refine l_l rfl rfl rfl ?_
            refine l_l rfl rfl rfl ?_
            refine l_l rfl rfl rfl ?_
            refine l_l rfl rfl rfl ?_
            refine l_l rfl rfl rfl ?_
            refine l_nil ?_
            refine c_seq ?_
            refine c_region ?_
            refine l_l rfl rfl rfl ?_
            refine l_l rfl rfl rfl ?_
            refine l_l rfl rfl rfl ?_
            refine l_l rfl rfl rfl ?_
            refine l_x (x_val call_84 rfl (fun w hw => dot_fn _ _ l hl _ _ _ w (hB.later0 hw))) rfl rfl ?_
            rintro _ _ ⟨rfl, rfl⟩
            refine l_l rfl rfl rfl ?_
            refine l_nil ?_
            refine c_ret ?_
            exact l_end0 (fun _ _ => rets_v rfl) ⟨rfl, congrArg _ (psdot_law hy hx ht hh (by simp at *; omega) (by simp at *; omega) (bu := false) (bt := false) (bh := true) h3 h7 h9)⟩
          · refine c_skip ?_
            refine c_seq ?_
            refine c_region ?_
            refine l_l rfl rfl rfl ?_
            refine l_l rfl rfl rfl ?_
            refine l_l rfl rfl rfl ?_
            refine l_l rfl rfl rfl ?_
            refine l_x (x_val call_84 rfl (fun w hw => dot_fn _ _ l hl _ _ _ w (hB.later0 hw))) rfl rfl ?_
            rintro _ _ ⟨rfl, rfl⟩
            refine l_l rfl rfl rfl ?_
            refine l_nil ?_
            refine c_ret ?_
            exact l_end0 (fun _ _ => rets_v rfl) ⟨rfl, congrArg _ (psdot_law hy hx ht hh (by simp at *; omega) (by simp at *; omega) (bu := false) (bt := false) (bh := false) h3 h7 h9)⟩


theorem oat_fn (a : Option Addr) (cap : Nat) (l : List Int) (n : Int) (k : Nat) (hn : 0 ≤ n ∧ n < 40) (hk : k < 4) (hl : Byts l) (w : World) (hB : Ns w .u8 a l) :
    Does Try.prog 68 [.slice a l.length cap, .int .i64 n, .int .i64 k] w [] (fun v H => H = [] ∧ v = .int .i64 (oB l n k)) := by
  refine does_of Try.func68 rfl rfl rfl (St.refl w) ?_
  refine c_seq ?_
  refine c_region ?_
  refine l_l rfl rfl rfl ?_
  refine l_nil ?_
  refine c_seq ?_
  refine c_region ?_
  refine l_l rfl rfl rfl ?_
  refine l_l rfl rfl rfl ?_
  refine l_l rfl rfl rfl ?_
  refine l_l rfl rfl rfl ?_
  rw [oat_law hn hk]
  refine l_l rfl rfl rfl ?_
  refine l_nil ?_
  refine c_seq ?_
  refine c_seq ?_
  refine c_region ?_
  refine l_l rfl rfl rfl ?_
  refine l_l rfl rfl rfl ?_
  refine l_l (by first | exact light_len rfl rfl | exact light_lens rfl rfl | rfl) rfl rfl ?_
  refine l_l rfl rfl rfl ?_
  refine l_nil ?_
  refine c_cond rfl (fun h1 => ?_) (fun h1 => ?_)
  · refine c_seq ?_
    refine c_region ?_
    refine l_l rfl rfl rfl ?_
    refine l_nil ?_
    refine c_ret ?_
    exact l_end0 (fun _ _ => rets_v rfl) ⟨rfl, congrArg _ (oat_none' hn hk (by simp at *; omega))⟩
  · refine c_skip ?_
    refine c_seq ?_
    obtain ⟨b, off, rfl, hr⟩ := hB.row (i := (4 * n + k).toNat) (by simp at *; omega)
    refine c_region ?_
    refine l_l rfl rfl rfl ?_
    refine l_l rfl rfl rfl ?_
    refine l_l (idx_slice1 (4 * n + k).toNat rfl rfl rfl (by show 4 * n + (k : Int) = _; omega) (by simp at *; omega)) rfl rfl ?_
    refine l_x (x_load rfl rfl (at_old (hr.int (by simp at *; omega)) (by simp))) rfl rfl ?_
    rintro _ _ ⟨rfl, rfl⟩
    refine l_l rfl rfl rfl ?_
    refine l_l rfl rfl rfl ?_
    refine l_nil ?_
    refine c_ret ?_
    exact l_end0 (fun _ _ => rets_v rfl) ⟨rfl, congrArg _ (oat_some' hl hn hk)⟩

theorem rspdot_fn (c cb cf cs : Int) (hc : 0 ≤ c ∧ c < 256) (a a2 : Option Addr) (cap cap2 : Nat) (l oam : List Int) (hl : Byts l) (ho : Byts oam) (n x line : Int)
    (w : World) (hB : Ns w .u8 a l) (hO : Ns w .u8 a2 oam) :
    Does Try.prog 69 [.agg #[.int .u8 c, .int .u8 cb, .int .u8 cf, .int .u8 cs], .slice a l.length cap, .slice a2 oam.length cap2, .int .i64 n, .int .i64 x, .int .i64 line] w [] (fun v H => H = [] ∧ v = .tuple #[.int .u8 (spDot l oam c n x line), .bool (spDot l oam c n x line != 0)]) := by
  refine does_of Try.func69 rfl rfl rfl (St.refl w) ?_
  refine c_seq ?_
  refine c_region ?_
  refine l_x (x_box rfl rfl) rfl rfl ?_
  rintro _ _ ⟨b6, rfl, rfl⟩
  refine l_l rfl rfl rfl ?_
  refine l_l rfl rfl rfl ?_
  refine l_nil ?_
  refine c_seq ?_
  refine c_seq ?_
  refine c_region ?_
  refine l_l rfl rfl rfl ?_
  refine l_l rfl rfl rfl ?_
  refine l_b rfl rfl rfl (fun h1 => ?_) (fun h1 => ?_)
  · refine l_p rfl rfl ?_
    refine l_p rfl rfl ?_
    refine l_l rfl rfl rfl ?_
    refine l_l rfl rfl rfl ?_
    refine l_p rfl rfl ?_
    refine l_p rfl rfl ?_
    refine l_l rfl rfl rfl ?_
    refine l_l rfl rfl rfl ?_
    refine l_p rfl rfl ?_
    refine l_p rfl rfl ?_
    refine l_l rfl rfl rfl ?_
    refine l_l rfl rfl rfl ?_
    refine l_p rfl rfl ?_
    refine l_p rfl rfl ?_
    refine l_l rfl rfl rfl ?_
    refine l_l rfl rfl rfl ?_
    refine l_p rfl rfl ?_
    refine l_p rfl rfl ?_
    refine l_l rfl rfl rfl ?_
    refine l_nil ?_
    refine c_true rfl ?_
    refine c_seq ?_
    refine c_region ?_
    refine l_l rfl rfl rfl ?_
    refine l_l rfl rfl rfl ?_
    refine l_nil ?_
    refine c_ret ?_
    exact l_end0 (fun _ _ => rets_v2 rfl rfl) ⟨rfl, spd_far ho (by simp at *; omega)⟩
  · refine l_l rfl rfl rfl ?_
    refine l_l rfl rfl rfl ?_
    refine l_l rfl rfl rfl ?_
    refine l_b rfl rfl rfl (fun h2 => ?_) (fun h2 => ?_)
    · refine l_p rfl rfl ?_
      refine l_p rfl rfl ?_
      refine l_l rfl rfl rfl ?_
      refine l_l rfl rfl rfl ?_
      refine l_p rfl rfl ?_
      refine l_p rfl rfl ?_
      refine l_l rfl rfl rfl ?_
      refine l_l rfl rfl rfl ?_
      refine l_p rfl rfl ?_
      refine l_p rfl rfl ?_
      refine l_l rfl rfl rfl ?_
      refine l_l rfl rfl rfl ?_
      refine l_p rfl rfl ?_
      refine l_p rfl rfl ?_
      refine l_l rfl rfl rfl ?_
      refine l_nil ?_
      refine c_true rfl ?_
      refine c_seq ?_
      refine c_region ?_
      refine l_l rfl rfl rfl ?_
      refine l_l rfl rfl rfl ?_
      refine l_nil ?_
      refine c_ret ?_
      exact l_end0 (fun _ _ => rets_v2 rfl rfl) ⟨rfl, spd_far ho (by simp at *; omega)⟩
    · refine l_l rfl rfl rfl ?_
      refine l_l rfl rfl rfl ?_
      refine l_l rfl rfl rfl ?_
      refine l_b rfl rfl rfl (fun h3 => ?_) (fun h3 => ?_)
      · refine l_p rfl rfl ?_
        refine l_p rfl rfl ?_
        refine l_l rfl rfl rfl ?_
        refine l_l rfl rfl rfl ?_
        refine l_p rfl rfl ?_
        refine l_p rfl rfl ?_
        refine l_l rfl rfl rfl ?_
        refine l_l rfl rfl rfl ?_
        refine l_p rfl rfl ?_
        refine l_p rfl rfl ?_
        refine l_l rfl rfl rfl ?_
        refine l_nil ?_
        refine c_true rfl ?_
        refine c_seq ?_
        refine c_region ?_
        refine l_l rfl rfl rfl ?_
        refine l_l rfl rfl rfl ?_
        refine l_nil ?_
        refine c_ret ?_
        exact l_end0 (fun _ _ => rets_v2 rfl rfl) ⟨rfl, spd_far ho (by simp at *; omega)⟩
      · refine l_l rfl rfl rfl ?_
        refine l_l rfl rfl rfl ?_
        refine l_l rfl rfl rfl ?_
        refine l_b rfl rfl rfl (fun h4 => ?_) (fun h4 => ?_)
        · refine l_p rfl rfl ?_
          refine l_p rfl rfl ?_
          refine l_l rfl rfl rfl ?_
          refine l_l rfl rfl rfl ?_
          refine l_p rfl rfl ?_
          refine l_p rfl rfl ?_
          refine l_l rfl rfl rfl ?_
          refine l_nil ?_
          refine c_true rfl ?_
          refine c_seq ?_
          refine c_region ?_
          refine l_l rfl rfl rfl ?_
          refine l_l rfl rfl rfl ?_
          refine l_nil ?_
          refine c_ret ?_
          exact l_end0 (fun _ _ => rets_v2 rfl rfl) ⟨rfl, spd_far ho (by simp at *; omega)⟩
        · refine l_l rfl rfl rfl ?_
          refine l_l rfl rfl rfl ?_
          refine l_l rfl rfl rfl ?_
          refine l_b rfl rfl rfl (fun h5 => ?_) (fun h5 => ?_)
          · refine l_p rfl rfl ?_
            refine l_p rfl rfl ?_
            refine l_l rfl rfl rfl ?_
            refine l_nil ?_
            refine c_true rfl ?_
            refine c_seq ?_
            refine c_region ?_
            refine l_l rfl rfl rfl ?_
            refine l_l rfl rfl rfl ?_
            refine l_nil ?_
            refine c_ret ?_
            exact l_end0 (fun _ _ => rets_v2 rfl rfl) ⟨rfl, spd_far ho (by simp at *; omega)⟩
          · refine l_l rfl rfl rfl ?_
            refine l_l rfl rfl rfl ?_
            refine l_l rfl rfl rfl ?_
            refine l_nil ?_
            refine c_cond rfl (fun h6 => ?_) (fun h6 => ?_)
            · refine c_seq ?_
              refine c_region ?_
              refine l_l rfl rfl rfl ?_
              refine l_l rfl rfl rfl ?_
              refine l_nil ?_
              refine c_ret ?_
              exact l_end0 (fun _ _ => rets_v2 rfl rfl) ⟨rfl, spd_far ho (by simp at *; omega)⟩
            · refine c_skip ?_
              refine c_seq ?_
              refine c_region ?_
              refine l_l rfl rfl rfl ?_
              refine l_l rfl rfl rfl ?_
              refine l_l rfl rfl rfl ?_
              refine l_x (x_val call_68 rfl (fun w hw => oat_fn _ _ oam n 0 (by simp at *; omega) (by decide) ho w (hO.later0 hw))) rfl rfl ?_
              rintro _ _ ⟨rfl, rfl⟩
              refine l_l rfl rfl rfl ?_
              refine l_l rfl rfl rfl ?_
              refine l_l rfl rfl rfl ?_
              refine l_l rfl rfl rfl ?_
              refine l_l rfl rfl rfl ?_
              refine l_x (x_val call_68 rfl (fun w hw => oat_fn _ _ oam n 1 (by simp at *; omega) (by decide) ho w (hO.later0 hw))) rfl rfl ?_
              rintro _ _ ⟨rfl, rfl⟩
              refine l_l rfl rfl rfl ?_
              refine l_l rfl rfl rfl ?_
              refine l_l rfl rfl rfl ?_
              refine l_l rfl rfl rfl ?_
              refine l_nil ?_
              refine c_seq ?_
              refine c_seq ?_
              refine c_region ?_
              refine l_l rfl rfl rfl ?_
              refine l_l rfl rfl rfl ?_
              refine l_b rfl rfl rfl (fun h7 => ?_) (fun h7 => ?_)
              · refine l_p rfl rfl ?_
                refine l_p rfl rfl ?_
                refine l_p rfl rfl ?_
                refine l_p rfl rfl ?_
                refine l_l rfl rfl rfl ?_
                refine l_l rfl rfl rfl ?_
                refine l_p rfl rfl ?_
                refine l_p rfl rfl ?_
                refine l_l rfl rfl rfl ?_
                refine l_l rfl rfl rfl ?_
                refine l_p rfl rfl ?_
                refine l_p rfl rfl ?_
                refine l_l rfl rfl rfl ?_
                refine l_nil ?_
                refine c_true rfl ?_
                refine c_seq ?_
                refine c_region ?_
                refine l_l rfl rfl rfl ?_
                refine l_l rfl rfl rfl ?_
                refine l_nil ?_
                refine c_ret ?_
                exact l_end0 (fun _ _ => rets_v2 rfl rfl) ⟨rfl, spd_zero ho (by simp at *; omega) (by simp at *; omega)⟩
              · refine l_l rfl rfl rfl ?_
                refine l_x (x_loadA rfl rfl rfl (by first | exact row_own (by repeat (first | exact .head _ | refine .tail _ ?_ | refine List.mem_append_right _ ?_)) | exact row_own_at (by repeat (first | exact .head _ | refine .tail _ ?_ | refine List.mem_append_right _ ?_)) _ 4 rfl)) rfl rfl ?_
                rintro _ _ ⟨rfl, rfl⟩
                refine l_x (x_val call_79 rfl (fun w hw => rheight_fn c cb cf cs hc w)) rfl rfl ?_
                rintro _ _ ⟨rfl, rfl⟩
                refine l_l rfl rfl rfl ?_
                refine l_l rfl rfl rfl ?_
                refine l_b rfl rfl rfl (fun h8 => ?_) (fun h8 => ?_)
                · refine l_p rfl rfl ?_
                  refine l_p rfl rfl ?_
                  refine l_l rfl rfl rfl ?_
                  refine l_l rfl rfl rfl ?_
                  refine l_p rfl rfl ?_
                  refine l_p rfl rfl ?_
                  refine l_l rfl rfl rfl ?_
                  refine l_nil ?_
                  refine c_true rfl ?_
                  refine c_seq ?_
                  refine c_region ?_
                  refine l_l rfl rfl rfl ?_
                  refine l_l rfl rfl rfl ?_
                  refine l_nil ?_
                  refine c_ret ?_
                  exact l_end0 (fun _ _ => rets_v2 rfl rfl) ⟨rfl, spd_zero ho (by simp at *; omega) (by simp at *; omega)⟩
                · refine l_l rfl rfl rfl ?_
                  refine l_l rfl rfl rfl ?_
                  refine l_l rfl rfl rfl ?_
                  refine l_b rfl rfl rfl (fun h9 => ?_) (fun h9 => ?_)
                  · refine l_p rfl rfl ?_
                    refine l_p rfl rfl ?_
                    refine l_l rfl rfl rfl ?_
                    refine l_nil ?_
                    refine c_true rfl ?_
                    refine c_seq ?_
                    refine c_region ?_
                    refine l_l rfl rfl rfl ?_
                    refine l_l rfl rfl rfl ?_
                    refine l_nil ?_
                    refine c_ret ?_
                    exact l_end0 (fun _ _ => rets_v2 rfl rfl) ⟨rfl, spd_zero ho (by simp at *; omega) (by simp at *; omega)⟩
                  · refine l_l rfl rfl rfl ?_
                    refine l_l rfl rfl rfl ?_
                    refine l_l rfl rfl rfl ?_
                    refine l_nil ?_
                    refine c_cond rfl (fun h10 => ?_) (fun h10 => ?_)
                    · refine c_seq ?_
                      refine c_region ?_
                      refine l_l rfl rfl rfl ?_
                      refine l_l rfl rfl rfl ?_
                      refine l_nil ?_
                      refine c_ret ?_
                      exact l_end0 (fun _ _ => rets_v2 rfl rfl) ⟨rfl, spd_zero ho (by simp at *; omega) (by simp at *; omega)⟩
                    · refine c_skip ?_
                      refine c_seq ?_
                      refine c_region ?_
                      refine l_l rfl rfl rfl ?_
                      refine l_l rfl rfl rfl ?_
                      refine l_x (x_val call_68 rfl (fun w hw => oat_fn _ _ oam n 3 (by simp at *; omega) (by decide) ho w (hO.later0 hw))) rfl rfl ?_
                      rintro _ _ ⟨rfl, rfl⟩
                      refine l_l rfl rfl rfl ?_
                      refine l_l rfl rfl rfl ?_
                      refine l_nil ?_
                      refine c_seq ?_
                      refine c_seq ?_
                      refine c_region ?_
                      refine l_l rfl rfl rfl ?_
                      refine l_x (x_val call_67 rfl (fun w hw => bit_fn _ _ (byte8 _) ⟨by decide, by decide⟩ w)) rfl rfl ?_
                      rintro _ _ ⟨rfl, rfl⟩
                      refine l_l rfl rfl rfl ?_
                      refine l_nil ?_
                      refine c_cond rfl (fun h11 => ?_) (fun h11 => ?_)
                      · refine c_region ?_
                        refine l_x (x_loadA rfl rfl rfl (by first | exact row_own (by repeat (first | exact .head _ | refine .tail _ ?_ | refine List.mem_append_right _ ?_)) | exact row_own_at (by repeat (first | exact .head _ | refine .tail _ ?_ | refine List.mem_append_right _ ?_)) _ 4 rfl)) rfl rfl ?_
                        rintro _ _ ⟨rfl, rfl⟩
                        refine l_x (x_val call_79 rfl (fun w hw => rheight_fn c cb cf cs hc w)) rfl rfl ?_
                        rintro _ _ ⟨rfl, rfl⟩
                        refine l_l rfl rfl rfl ?_
                        refine l_l rfl rfl rfl ?_
                        refine l_l rfl rfl rfl ?_
                        refine l_l rfl rfl rfl ?_
                        refine l_nil ?_
                        refine c_seq ?_
                        refine c_seq ?_
                        refine c_region ?_
                        refine l_l rfl rfl rfl ?_
                        refine l_x (x_val call_67 rfl (fun w hw => bit_fn _ _ (byte8 _) ⟨by decide, by decide⟩ w)) rfl rfl ?_
                        rintro _ _ ⟨rfl, rfl⟩
                        refine l_l rfl rfl rfl ?_
                        refine l_nil ?_
                        refine c_cond rfl (fun h12 => ?_) (fun h12 => ?_)
                        · refine c_region ?_
                          refine l_l rfl rfl rfl ?_
                          refine l_l rfl rfl rfl ?_
                          refine l_l rfl rfl rfl ?_
                          refine l_nil ?_
                          refine c_seq ?_
                          refine c_region ?_
                          refine l_l rfl rfl rfl ?_
                          refine l_l rfl rfl rfl ?_
                          refine l_x (x_val call_68 rfl (fun w hw => oat_fn _ _ oam n 2 (by simp at *; omega) (by decide) ho w (hO.later0 hw))) rfl rfl ?_
                          rintro _ _ ⟨rfl, rfl⟩
                          refine l_l rfl rfl rfl ?_
                          refine l_nil ?_
                          refine c_seq ?_
                          refine c_seq ?_
                          refine c_region ?_
                          refine l_x (x_loadA rfl rfl rfl (by first | exact row_own (by repeat (first | exact .head _ | refine .tail _ ?_ | refine List.mem_append_right _ ?_)) | exact row_own_at (by repeat (first | exact .head _ | refine .tail _ ?_ | refine List.mem_append_right _ ?_)) _ 4 rfl)) rfl rfl ?_
                          rintro _ _ ⟨rfl, rfl⟩
                          refine l_x (x_val call_79 rfl (fun w hw => rheight_fn c cb cf cs hc w)) rfl rfl ?_
                          rintro _ _ ⟨rfl, rfl⟩
                          refine l_l rfl rfl rfl ?_
                          refine l_nil ?_
                          refine c_cond rfl (fun h13 => ?_) (fun h13 => ?_)
                          · refine c_region ?_
                            refine l_l rfl rfl rfl ?_
                            refine l_l rfl rfl rfl ?_
                            refine l_l rfl rfl rfl ?_
                            refine l_l rfl rfl rfl ?_
                            refine l_nil ?_
                            refine c_seq ?_
                            refine c_seq ?_
                            refine c_region ?_
                            refine l_l rfl rfl rfl ?_
                            refine l_l rfl rfl rfl ?_
                            refine l_nil ?_
                            refine c_cond rfl (fun h14 => ?_) (fun h14 => ?_)
                            · refine c_seq ?_
                              refine c_region ?_
                              refine l_l rfl rfl rfl ?_
                              refine l_l rfl rfl rfl ?_
                              refine l_l rfl rfl rfl ?_
                              refine l_nil ?_
                              refine c_region ?_
                              refine l_l rfl rfl rfl ?_
                              refine l_l rfl rfl rfl ?_
                              refine l_l rfl rfl rfl ?_
                              refine l_nil ?_
                              refine c_seq ?_
                              refine c_region ?_
                              refine l_l rfl rfl rfl ?_
                              refine l_l rfl rfl rfl ?_
                              refine l_l rfl rfl rfl ?_
                              refine l_l rfl rfl rfl ?_
                              refine l_x (x_val call_80 rfl (fun w hw => rdot_fn _ _ l hl _ _ _ w (hB.later0 hw))) rfl rfl ?_
                              rintro _ _ ⟨rfl, rfl⟩
                              refine l_l rfl rfl rfl ?_
                              refine l_nil ?_
                              refine c_seq ?_
                              refine c_region ?_
                              refine l_l rfl rfl rfl ?_
                              refine l_l rfl rfl rfl ?_
                              refine l_l rfl rfl rfl ?_
                              refine l_l rfl rfl rfl ?_
                              refine l_l rfl rfl rfl ?_
                              refine l_nil ?_
                              refine c_ret ?_
                              exact l_end0 (fun _ _ => rets_v2 rfl rfl) ⟨rfl, spd_law (rsdot_law ho (by simp at *; omega) (by simp at *; omega) (by simp at *; omega) (by simp at *; omega) (by simp at *; omega) (bu := true) (bt := true) (bh := true) (b7 := true) h11 h12 h13 rfl rfl h14)⟩
                            · refine c_skip ?_
                              refine c_seq ?_
                              refine c_region ?_
                              refine l_l rfl rfl rfl ?_
                              refine l_l rfl rfl rfl ?_
                              refine l_l rfl rfl rfl ?_
                              refine l_l rfl rfl rfl ?_
                              refine l_x (x_val call_80 rfl (fun w hw => rdot_fn _ _ l hl _ _ _ w (hB.later0 hw))) rfl rfl ?_
                              rintro _ _ ⟨rfl, rfl⟩
                              refine l_l rfl rfl rfl ?_
                              refine l_nil ?_
                              refine c_seq ?_
                              refine c_region ?_
                              refine l_l rfl rfl rfl ?_
                              refine l_l rfl rfl rfl ?_
                              refine l_l rfl rfl rfl ?_
                              refine l_l rfl rfl rfl ?_
                              refine l_l rfl rfl rfl ?_
                              refine l_nil ?_
                              refine c_ret ?_
                              exact l_end0 (fun _ _ => rets_v2 rfl rfl) ⟨rfl, spd_law (rsdot_law ho (by simp at *; omega) (by simp at *; omega) (by simp at *; omega) (by simp at *; omega) (by simp at *; omega) (bu := true) (bt := true) (bh := true) (b7 := false) h11 h12 h13 rfl rfl h14)⟩
                          · refine c_skip ?_
                            refine c_seq ?_
                            refine c_seq ?_
                            refine c_region ?_
                            refine l_l rfl rfl rfl ?_
                            refine l_l rfl rfl rfl ?_
                            refine l_nil ?_
                            refine c_cond rfl (fun h15 => ?_) (fun h15 => ?_)
                            · refine c_seq ?_
                              refine c_region ?_
                              refine l_l rfl rfl rfl ?_
                              refine l_l rfl rfl rfl ?_
                              refine l_l rfl rfl rfl ?_
                              refine l_nil ?_
                              refine c_region ?_
                              refine l_l rfl rfl rfl ?_
                              refine l_l rfl rfl rfl ?_
                              refine l_l rfl rfl rfl ?_
                              refine l_nil ?_
                              refine c_seq ?_
                              refine c_region ?_
                              refine l_l rfl rfl rfl ?_
                              refine l_l rfl rfl rfl ?_
                              refine l_l rfl rfl rfl ?_
                              refine l_l rfl rfl rfl ?_
                              refine l_x (x_val call_80 rfl (fun w hw => rdot_fn _ _ l hl _ _ _ w (hB.later0 hw))) rfl rfl ?_
                              rintro _ _ ⟨rfl, rfl⟩
                              refine l_l rfl rfl rfl ?_
                              refine l_nil ?_
                              refine c_seq ?_
                              refine c_region ?_
                              refine l_l rfl rfl rfl ?_
                              refine l_l rfl rfl rfl ?_
                              refine l_l rfl rfl rfl ?_
                              refine l_l rfl rfl rfl ?_
                              refine l_l rfl rfl rfl ?_
                              refine l_nil ?_
                              refine c_ret ?_
                              exact l_end0 (fun _ _ => rets_v2 rfl rfl) ⟨rfl, spd_law (rsdot_law ho (by simp at *; omega) (by simp at *; omega) (by simp at *; omega) (by simp at *; omega) (by simp at *; omega) (bu := true) (bt := true) (bh := false) (b7 := true) h11 h12 h13 rfl rfl h15)⟩
                            · refine c_skip ?_
                              refine c_seq ?_
                              refine c_region ?_
                              refine l_l rfl rfl rfl ?_
                              refine l_l rfl rfl rfl ?_
                              refine l_l rfl rfl rfl ?_
                              refine l_l rfl rfl rfl ?_
                              refine l_x (x_val call_80 rfl (fun w hw => rdot_fn _ _ l hl _ _ _ w (hB.later0 hw))) rfl rfl ?_
                              rintro _ _ ⟨rfl, rfl⟩
                              refine l_l rfl rfl rfl ?_
                              refine l_nil ?_
                              refine c_seq ?_
                              refine c_region ?_
                              refine l_l rfl rfl rfl ?_
                              refine l_l rfl rfl rfl ?_
                              refine l_l rfl rfl rfl ?_
                              refine l_l rfl rfl rfl ?_
                              refine l_l rfl rfl rfl ?_
                              refine l_nil ?_
                              refine c_ret ?_
                              exact l_end0 (fun _ _ => rets_v2 rfl rfl) ⟨rfl, spd_law (rsdot_law ho (by simp at *; omega) (by simp at *; omega) (by simp at *; omega) (by simp at *; omega) (by simp at *; omega) (bu := true) (bt := true) (bh := false) (b7 := false) h11 h12 h13 rfl rfl h15)⟩
                        · refine c_skip ?_
                          refine c_seq ?_
                          refine c_region ?_
                          refine l_l rfl rfl rfl ?_
                          refine l_l rfl rfl rfl ?_
                          refine l_x (x_val call_68 rfl (fun w hw => oat_fn _ _ oam n 2 (by simp at *; omega) (by decide) ho w (hO.later0 hw))) rfl rfl ?_
                          rintro _ _ ⟨rfl, rfl⟩
                          refine l_l rfl rfl rfl ?_
                          refine l_nil ?_
                          refine c_seq ?_
                          refine c_seq ?_
                          refine c_region ?_
                          refine l_x (x_loadA rfl rfl rfl (by first | exact row_own (by repeat (first | exact .head _ | refine .tail _ ?_ | refine List.mem_append_right _ ?_)) | exact row_own_at (by repeat (first | exact .head _ | refine .tail _ ?_ | refine List.mem_append_right _ ?_)) _ 4 rfl)) rfl rfl ?_
                          rintro _ _ ⟨rfl, rfl⟩
                          refine l_x (x_val call_79 rfl (fun w hw => rheight_fn c cb cf cs hc w)) rfl rfl ?_
                          rintro _ _ ⟨rfl, rfl⟩
                          refine l_l rfl rfl rfl ?_
                          refine l_nil ?_
                          refine c_cond rfl (fun h16 => ?_) (fun h16 => ?_)
                          · refine c_region ?_
                            refine l_l rfl rfl rfl ?_
                            refine l_l rfl rfl rfl ?_
                            refine l_l rfl rfl rfl ?_
                            refine l_l rfl rfl rfl ?_
                            refine l_nil ?_
                            refine c_seq ?_
                            refine c_seq ?_
                            refine c_region ?_
                            refine l_l rfl rfl rfl ?_
                            refine l_l rfl rfl rfl ?_
                            refine l_nil ?_
                            refine c_cond rfl (fun h17 => ?_) (fun h17 => ?_)
                            · refine c_seq ?_
                              refine c_region ?_
                              refine l_l rfl rfl rfl ?_
                              refine l_l rfl rfl rfl ?_
                              refine l_l rfl rfl rfl ?_
                              refine l_nil ?_
                              refine c_region ?_
                              refine l_l rfl rfl rfl ?_
                              refine l_l rfl rfl rfl ?_
                              refine l_l rfl rfl rfl ?_
                              refine l_nil ?_
                              refine c_seq ?_
                              refine c_region ?_
                              refine l_l rfl rfl rfl ?_
                              refine l_l rfl rfl rfl ?_
                              refine l_l rfl rfl rfl ?_
                              refine l_l rfl rfl rfl ?_
                              refine l_x (x_val call_80 rfl (fun w hw => rdot_fn _ _ l hl _ _ _ w (hB.later0 hw))) rfl rfl ?_
                              rintro _ _ ⟨rfl, rfl⟩
                              refine l_l rfl rfl rfl ?_
                              refine l_nil ?_
                              refine c_seq ?_
                              refine c_region ?_
                              refine l_l rfl rfl rfl ?_
                              refine l_l rfl rfl rfl ?_
                              refine l_l rfl rfl rfl ?_
                              refine l_l rfl rfl rfl ?_
                              refine l_l rfl rfl rfl ?_
                              refine l_nil ?_
                              refine c_ret ?_
                              exact l_end0 (fun _ _ => rets_v2 rfl rfl) ⟨rfl, spd_law (rsdot_law ho (by simp at *; omega) (by simp at *; omega) (by simp at *; omega) (by simp at *; omega) (by simp at *; omega) (bu := true) (bt := false) (bh := true) (b7 := true) h11 h12 h16 rfl rfl h17)⟩
                            · refine c_skip ?_
                              refine c_seq ?_
                              refine c_region ?_
                              refine l_l rfl rfl rfl ?_
                              refine l_l rfl rfl rfl ?_
                              refine l_l rfl rfl rfl ?_
                              refine l_l rfl rfl rfl ?_
                              refine l_x (x_val call_80 rfl (fun w hw => rdot_fn _ _ l hl _ _ _ w (hB.later0 hw))) rfl rfl ?_
                              rintro _ _ ⟨rfl, rfl⟩
                              refine l_l rfl rfl rfl ?_
                              refine l_nil ?_
                              refine c_seq ?_
                              refine c_region ?_
                              refine l_l rfl rfl rfl ?_
                              refine l_l rfl rfl rfl ?_
                              refine l_l rfl rfl rfl ?_
                              refine l_l rfl rfl rfl ?_
                              refine l_l rfl rfl rfl ?_
                              refine l_nil ?_
                              refine c_ret ?_
                              exact l_end0 (fun _ _ => rets_v2 rfl rfl) ⟨rfl, spd_law (rsdot_law ho (by simp at *; omega) (by simp at *; omega) (by simp at *; omega) (by simp at *; omega) (by simp at *; omega) (bu := true) (bt := false) (bh := true) (b7 := false) h11 h12 h16 rfl rfl h17)⟩
                          · refine c_skip ?_
                            refine c_seq ?_
                            refine c_seq ?_
                            refine c_region ?_
                            refine l_l rfl rfl rfl ?_
                            refine l_l rfl rfl rfl ?_
                            refine l_nil ?_
                            refine c_cond rfl (fun h18 => ?_) (fun h18 => ?_)
                            · refine c_seq ?_
                              refine c_region ?_
                              refine l_l rfl rfl rfl ?_
                              refine l_l rfl rfl rfl ?_
                              refine l_l rfl rfl rfl ?_
                              refine l_nil ?_
                              refine c_region ?_
                              refine l_l rfl rfl rfl ?_
                              refine l_l rfl rfl rfl ?_
                              refine l_l rfl rfl rfl ?_
                              refine l_nil ?_
                              refine c_seq ?_
                              refine c_region ?_
                              refine l_l rfl rfl rfl ?_
                              refine l_l rfl rfl rfl ?_
                              refine l_l rfl rfl rfl ?_
                              refine l_l rfl rfl rfl ?_
                              refine l_x (x_val call_80 rfl (fun w hw => rdot_fn _ _ l hl _ _ _ w (hB.later0 hw))) rfl rfl ?_
                              rintro _ _ ⟨rfl, rfl⟩
                              refine l_l rfl rfl rfl ?_
                              refine l_nil ?_
                              refine c_seq ?_
                              refine c_region ?_
                              refine l_l rfl rfl rfl ?_
                              refine l_l rfl rfl rfl ?_
                              refine l_l rfl rfl rfl ?_
                              refine l_l rfl rfl rfl ?_
                              refine l_l rfl rfl rfl ?_
                              refine l_nil ?_
                              refine c_ret ?_
                              exact l_end0 (fun _ _ => rets_v2 rfl rfl) ⟨rfl, spd_law (rsdot_law ho (by simp at *; omega) (by simp at *; omega) (by simp at *; omega) (by simp at *; omega) (by simp at *; omega) (bu := true) (bt := false) (bh := false) (b7 := true) h11 h12 h16 rfl rfl h18)⟩
                            · refine c_skip ?_
                              refine c_seq ?_
                              refine c_region ?_
                              refine l_l rfl rfl rfl ?_
                              refine l_l rfl rfl rfl ?_
                              refine l_l rfl rfl rfl ?_
                              refine l_l rfl rfl rfl ?_
                              refine l_x (x_val call_80 rfl (fun w hw => rdot_fn _ _ l hl _ _ _ w (hB.later0 hw))) rfl rfl ?_
                              rintro _ _ ⟨rfl, rfl⟩
                              refine l_l rfl rfl rfl ?_
                              refine l_nil ?_
                              refine c_seq ?_
                              refine c_region ?_
                              refine l_l rfl rfl rfl ?_
                              refine l_l rfl rfl rfl ?_
                              refine l_l rfl rfl rfl ?_
                              refine l_l rfl rfl rfl ?_
                              refine l_l rfl rfl rfl ?_
                              refine l_nil ?_
                              refine c_ret ?_
                              exact l_end0 (fun _ _ => rets_v2 rfl rfl) ⟨rfl, spd_law (rsdot_law ho (by simp at *; omega) (by simp at *; omega) (by simp at *; omega) (by simp at *; omega) (by simp at *; omega) (bu := true) (bt := false) (bh := false) (b7 := false) h11 h12 h16 rfl rfl h18)⟩
                      · refine c_skip ?_
                        refine c_seq ?_
                        refine c_seq ?_
                        refine c_region ?_
                        refine l_l rfl rfl rfl ?_
                        refine l_x (x_val call_67 rfl (fun w hw => bit_fn _ _ (byte8 _) ⟨by decide, by decide⟩ w)) rfl rfl ?_
                        rintro _ _ ⟨rfl, rfl⟩
                        refine l_l rfl rfl rfl ?_
                        refine l_nil ?_
                        refine c_cond rfl (fun h19 => ?_) (fun h19 => ?_)
                        · refine c_region ?_
                          refine l_l rfl rfl rfl ?_
                          refine l_l rfl rfl rfl ?_
                          refine l_l rfl rfl rfl ?_
                          refine l_nil ?_
                          refine c_seq ?_
                          refine c_region ?_
                          refine l_l rfl rfl rfl ?_
                          refine l_l rfl rfl rfl ?_
                          refine l_x (x_val call_68 rfl (fun w hw => oat_fn _ _ oam n 2 (by simp at *; omega) (by decide) ho w (hO.later0 hw))) rfl rfl ?_
                          rintro _ _ ⟨rfl, rfl⟩
                          refine l_l rfl rfl rfl ?_
                          refine l_nil ?_
                          refine c_seq ?_
                          refine c_seq ?_
                          refine c_region ?_
                          refine l_x (x_loadA rfl rfl rfl (by first | exact row_own (by repeat (first | exact .head _ | refine .tail _ ?_ | refine List.mem_append_right _ ?_)) | exact row_own_at (by repeat (first | exact .head _ | refine .tail _ ?_ | refine List.mem_append_right _ ?_)) _ 4 rfl)) rfl rfl ?_
                          rintro _ _ ⟨rfl, rfl⟩
                          refine l_x (x_val call_79 rfl (fun w hw => rheight_fn c cb cf cs hc w)) rfl rfl ?_
                          rintro _ _ ⟨rfl, rfl⟩
                          refine l_l rfl rfl rfl ?_
                          refine l_nil ?_
                          refine c_cond rfl (fun h20 => ?_) (fun h20 => ?_)
                          · refine c_region ?_
                            refine l_l rfl rfl rfl ?_
                            refine l_l rfl rfl rfl ?_
                            refine l_l rfl rfl rfl ?_
                            refine l_l rfl rfl rfl ?_
                            refine l_nil ?_
                            refine c_seq ?_
                            refine c_seq ?_
                            refine c_region ?_
                            refine l_l rfl rfl rfl ?_
                            refine l_l rfl rfl rfl ?_
                            refine l_nil ?_
                            refine c_cond rfl (fun h21 => ?_) (fun h21 => ?_)
                            · refine c_seq ?_
                              refine c_region ?_
                              refine l_l rfl rfl rfl ?_
                              refine l_l rfl rfl rfl ?_
                              refine l_l rfl rfl rfl ?_
                              refine l_nil ?_
                              refine c_region ?_
                              refine l_l rfl rfl rfl ?_
                              refine l_l rfl rfl rfl ?_
                              refine l_l rfl rfl rfl ?_
                              refine l_nil ?_
                              refine c_seq ?_
                              refine c_region ?_
                              refine l_l rfl rfl rfl ?_
                              refine l_l rfl rfl rfl ?_
                              refine l_l rfl rfl rfl ?_
                              refine l_l rfl rfl rfl ?_
                              refine l_x (x_val call_80 rfl (fun w hw => rdot_fn _ _ l hl _ _ _ w (hB.later0 hw))) rfl rfl ?_
                              rintro _ _ ⟨rfl, rfl⟩
                              refine l_l rfl rfl rfl ?_
                              refine l_nil ?_
                              refine c_seq ?_
                              refine c_region ?_
                              refine l_l rfl rfl rfl ?_
                              refine l_l rfl rfl rfl ?_
                              refine l_l rfl rfl rfl ?_
                              refine l_l rfl rfl rfl ?_
                              refine l_l rfl rfl rfl ?_
                              refine l_nil ?_
                              refine c_ret ?_
                              exact l_end0 (fun _ _ => rets_v2 rfl rfl) ⟨rfl, spd_law (rsdot_law ho (by simp at *; omega) (by simp at *; omega) (by simp at *; omega) (by simp at *; omega) (by simp at *; omega) (bu := false) (bt := true) (bh := true) (b7 := true) h11 h19 h20 rfl rfl h21)⟩
                            · refine c_skip ?_
                              refine c_seq ?_
                              refine c_region ?_
                              refine l_l rfl rfl rfl ?_
                              refine l_l rfl rfl rfl ?_
                              refine l_l rfl rfl rfl ?_
                              refine l_l rfl rfl rfl ?_
                              refine l_x (x_val call_80 rfl (fun w hw => rdot_fn _ _ l hl _ _ _ w (hB.later0 hw))) rfl rfl ?_
                              rintro _ _ ⟨rfl, rfl⟩
                              refine l_l rfl rfl rfl ?_
                              refine l_nil ?_
                              refine c_seq ?_
                              refine c_region ?_
                              refine l_l rfl rfl rfl ?_
                              refine l_l rfl rfl rfl ?_
                              refine l_l rfl rfl rfl ?_
                              refine l_l rfl rfl rfl ?_
                              refine l_l rfl rfl rfl ?_
                              refine l_nil ?_
                              refine c_ret ?_
                              exact l_end0 (fun _ _ => rets_v2 rfl rfl) ⟨rfl, spd_law (rsdot_law ho (by simp at *; omega) (by simp at *; omega) (by simp at *; omega) (by simp at *; omega) (by simp at *; omega) (bu := false) (bt := true) (bh := true) (b7 := false) h11 h19 h20 rfl rfl h21)⟩
                          · refine c_skip ?_
                            refine c_seq ?_
                            refine c_seq ?_
                            refine c_region ?_
                            refine l_l rfl rfl rfl ?_
                            refine l_l rfl rfl rfl ?_
                            refine l_nil ?_
                            refine c_cond rfl (fun h22 => ?_) (fun h22 => ?_)
                            · refine c_seq ?_
                              refine c_region ?_
                              refine l_l rfl rfl rfl ?_
                              refine l_l rfl rfl rfl ?_
                              refine l_l rfl rfl rfl ?_
                              refine l_nil ?_
                              refine c_region ?_
                              refine l_l rfl rfl rfl ?_
                              refine l_l rfl rfl rfl ?_
                              refine l_l rfl rfl rfl ?_
                              refine l_nil ?_
                              refine c_seq ?_
                              refine c_region ?_
                              refine l_l rfl rfl rfl ?_
                              refine l_l rfl rfl rfl ?_
                              refine l_l rfl rfl rfl ?_
                              refine l_l rfl rfl rfl ?_
                              refine l_x (x_val call_80 rfl (fun w hw => rdot_fn _ _ l hl _ _ _ w (hB.later0 hw))) rfl rfl ?_
                              rintro _ _ ⟨rfl, rfl⟩
                              refine l_l rfl rfl rfl ?_
                              refine l_nil ?_
                              refine c_seq ?_
                              refine c_region ?_
                              refine l_l rfl rfl rfl ?_
                              refine l_l rfl rfl rfl ?_
                              refine l_l rfl rfl rfl ?_
                              refine l_l rfl rfl rfl ?_
                              refine l_l rfl rfl rfl ?_
                              refine l_nil ?_
                              refine c_ret ?_
                              exact l_end0 (fun _ _ => rets_v2 rfl rfl) ⟨rfl, spd_law (rsdot_law ho (by simp at *; omega) (by simp at *; omega) (by simp at *; omega) (by simp at *; omega) (by simp at *; omega) (bu := false) (bt := true) (bh := false) (b7 := true) h11 h19 h20 rfl rfl h22)⟩
                            · refine c_skip ?_
                              refine c_seq ?_
                              refine c_region ?_
                              refine l_l rfl rfl rfl ?_
                              refine l_l rfl rfl rfl ?_
                              refine l_l rfl rfl rfl ?_
                              refine l_l rfl rfl rfl ?_
                              refine l_x (x_val call_80 rfl (fun w hw => rdot_fn _ _ l hl _ _ _ w (hB.later0 hw))) rfl rfl ?_
                              rintro _ _ ⟨rfl, rfl⟩
                              refine l_l rfl rfl rfl ?_
                              refine l_nil ?_
                              refine c_seq ?_
                              refine c_region ?_
                              refine l_l rfl rfl rfl ?_
                              refine l_l rfl rfl rfl ?_
                              refine l_l rfl rfl rfl ?_
                              refine l_l rfl rfl rfl ?_
                              refine l_l rfl rfl rfl ?_
                              refine l_nil ?_
                              refine c_ret ?_
                              exact l_end0 (fun _ _ => rets_v2 rfl rfl) ⟨rfl, spd_law (rsdot_law ho (by simp at *; omega) (by simp at *; omega) (by simp at *; omega) (by simp at *; omega) (by simp at *; omega) (bu := false) (bt := true) (bh := false) (b7 := false) h11 h19 h20 rfl rfl h22)⟩
                        · refine c_skip ?_
                          refine c_seq ?_
                          refine c_region ?_
                          refine l_l rfl rfl rfl ?_
                          refine l_l rfl rfl rfl ?_
                          refine l_x (x_val call_68 rfl (fun w hw => oat_fn _ _ oam n 2 (by simp at *; omega) (by decide) ho w (hO.later0 hw))) rfl rfl ?_
                          rintro _ _ ⟨rfl, rfl⟩
                          refine l_l rfl rfl rfl ?_
                          refine l_nil ?_
                          refine c_seq ?_
                          refine c_seq ?_
                          refine c_region ?_
                          refine l_x (x_loadA rfl rfl rfl (by first | exact row_own (by repeat (first | exact .head _ | refine .tail _ ?_ | refine List.mem_append_right _ ?_)) | exact row_own_at (by repeat (first | exact .head _ | refine .tail _ ?_ | refine List.mem_append_right _ ?_)) _ 4 rfl)) rfl rfl ?_
                          rintro _ _ ⟨rfl, rfl⟩
                          refine l_x (x_val call_79 rfl (fun w hw => rheight_fn c cb cf cs hc w)) rfl rfl ?_
                          rintro _ _ ⟨rfl, rfl⟩
                          refine l_l rfl rfl rfl ?_
                          refine l_nil ?_
                          refine c_cond rfl (fun h23 => ?_) (fun h23 => ?_)
                          · refine c_region ?_
                            refine l_l rfl rfl rfl ?_
                            refine l_l rfl rfl rfl ?_
                            refine l_l rfl rfl rfl ?_
                            refine l_l rfl rfl rfl ?_
                            refine l_nil ?_
                            refine c_seq ?_
                            refine c_seq ?_
                            refine c_region ?_
                            refine l_l rfl rfl rfl ?_
                            refine l_l rfl rfl rfl ?_
                            refine l_nil ?_
                            refine c_cond rfl (fun h24 => ?_) (fun h24 => ?_)
                            · refine c_seq ?_
                              refine c_region ?_
                              refine l_l rfl rfl rfl ?_
                              refine l_l rfl rfl rfl ?_
                              refine l_l rfl rfl rfl ?_
                              refine l_nil ?_
                              refine c_region ?_
                              refine l_l rfl rfl rfl ?_
                              refine l_l rfl rfl rfl ?_
                              refine l_l rfl rfl rfl ?_
                              refine l_nil ?_
                              refine c_seq ?_
                              refine c_region ?_
                              refine l_l rfl rfl rfl ?_
                              refine l_l rfl rfl rfl ?_
                              refine l_l rfl rfl rfl ?_
                              refine l_l rfl rfl rfl ?_
                              refine l_x (x_val call_80 rfl (fun w hw => rdot_fn _ _ l hl _ _ _ w (hB.later0 hw))) rfl rfl ?_
                              rintro _ _ ⟨rfl, rfl⟩
                              refine l_l rfl rfl rfl ?_
                              refine l_nil ?_
                              refine c_seq ?_
                              refine c_region ?_
                              refine l_l rfl rfl rfl ?_
                              refine l_l rfl rfl rfl ?_
                              refine l_l rfl rfl rfl ?_
                              refine l_l rfl rfl rfl ?_
                              refine l_l rfl rfl rfl ?_
                              refine l_nil ?_
                              refine c_ret ?_
                              exact l_end0 (fun _ _ => rets_v2 rfl rfl) ⟨rfl, spd_law (rsdot_law ho (by simp at *; omega) (by simp at *; omega) (by simp at *; omega) (by simp at *; omega) (by simp at *; omega) (bu := false) (bt := false) (bh := true) (b7 := true) h11 h19 h23 rfl rfl h24)⟩
                            · refine c_skip ?_
                              refine c_seq ?_
                              refine c_region ?_
                              refine l_l rfl rfl rfl ?_
                              refine l_l rfl rfl rfl ?_
                              refine l_l rfl rfl rfl ?_
                              refine l_l rfl rfl rfl ?_
                              refine l_x (x_val call_80 rfl (fun w hw => rdot_fn _ _ l hl _ _ _ w (hB.later0 hw))) rfl rfl ?_
                              rintro _ _ ⟨rfl, rfl⟩
                              refine l_l rfl rfl rfl ?_
                              refine l_nil ?_
                              refine c_seq ?_
                              refine c_region ?_
                              refine l_l rfl rfl rfl ?_
                              refine l_l rfl rfl rfl ?_
                              refine l_l rfl rfl rfl ?_
                              refine l_l rfl rfl rfl ?_
                              refine l_l rfl rfl rfl ?_
                              refine l_nil ?_
                              refine c_ret ?_
                              exact l_end0 (fun _ _ => rets_v2 rfl rfl) ⟨rfl, spd_law (rsdot_law ho (by simp at *; omega) (by simp at *; omega) (by simp at *; omega) (by simp at *; omega) (by simp at *; omega) (bu := false) (bt := false) (bh := true) (b7 := false) h11 h19 h23 rfl rfl h24)⟩
                          · refine c_skip ?_
                            refine c_seq ?_
                            refine c_seq ?_
                            refine c_region ?_
                            refine l_l rfl rfl rfl ?_
                            refine l_l rfl rfl rfl ?_
                            refine l_nil ?_
                            refine c_cond rfl (fun h25 => ?_) (fun h25 => ?_)
                            · refine c_seq ?_
                              refine c_region ?_
                              refine l_l rfl rfl rfl ?_
                              refine l_l rfl rfl rfl ?_
                              refine l_l rfl rfl rfl ?_
                              refine l_nil ?_
                              refine c_region ?_
                              refine l_l rfl rfl rfl ?_
                              refine l_l rfl rfl rfl ?_
                              refine l_l rfl rfl rfl ?_
                              refine l_nil ?_
                              refine c_seq ?_
                              refine c_region ?_
                              refine l_l rfl rfl rfl ?_
                              refine l_l rfl rfl rfl ?_
                              refine l_l rfl rfl rfl ?_
                              refine l_l rfl rfl rfl ?_
                              refine l_x (x_val call_80 rfl (fun w hw => rdot_fn _ _ l hl _ _ _ w (hB.later0 hw))) rfl rfl ?_
                              rintro _ _ ⟨rfl, rfl⟩
                              refine l_l rfl rfl rfl ?_
                              refine l_nil ?_
                              refine c_seq ?_
                              refine c_region ?_
                              refine l_l rfl rfl rfl ?_
                              refine l_l rfl rfl rfl ?_
                              refine l_l rfl rfl rfl ?_
                              refine l_l rfl rfl rfl ?_
                              refine l_l rfl rfl rfl ?_
                              refine l_nil ?_
                              refine c_ret ?_
                              exact l_end0 (fun _ _ => rets_v2 rfl rfl) ⟨rfl, spd_law (rsdot_law ho (by simp at *; omega) (by simp at *; omega) (by simp at *; omega) (by simp at *; omega) (by simp at *; omega) (bu := false) (bt := false) (bh := false) (b7 := true) h11 h19 h23 rfl rfl h25)⟩
                            · refine c_skip ?_
                              refine c_seq ?_
                              refine c_region ?_
                              refine l_l rfl rfl rfl ?_
                              refine l_l rfl rfl rfl ?_
                              refine l_l rfl rfl rfl ?_
                              refine l_l rfl rfl rfl ?_
                              refine l_x (x_val call_80 rfl (fun w hw => rdot_fn _ _ l hl _ _ _ w (hB.later0 hw))) rfl rfl ?_
                              rintro _ _ ⟨rfl, rfl⟩
                              refine l_l rfl rfl rfl ?_
                              refine l_nil ?_
                              refine c_seq ?_
                              refine c_region ?_
                              refine l_l rfl rfl rfl ?_
                              refine l_l rfl rfl rfl ?_
                              refine l_l rfl rfl rfl ?_
                              refine l_l rfl rfl rfl ?_
                              refine l_l rfl rfl rfl ?_
                              refine l_nil ?_
                              refine c_ret ?_
                              exact l_end0 (fun _ _ => rets_v2 rfl rfl) ⟨rfl, spd_law (rsdot_law ho (by simp at *; omega) (by simp at *; omega) (by simp at *; omega) (by simp at *; omega) (by simp at *; omega) (bu := false) (bt := false) (bh := false) (b7 := false) h11 h19 h23 rfl rfl h25)⟩

end Go.Proofs.Ytjceoaomkbabmaa
namespace Go.Proofs.Ytjceoaomkbabmaa
open Go Go.VV Go.Proofs
set_option linter.unusedSimpArgs false
set_option linter.unusedVariables false
set_option maxRecDepth 100000
theorem scan_fn (c cb cf cs : Int) (hc : 0 ≤ c ∧ c < 256) (a2 : Option Addr) (cap2 : Nat) (oam : List Int) (ho : Byts oam) (line : Int) (hcap : oam.length ≤ cap2) (w : World) (hO : Ns w .u8 a2 oam) :
    Does Try.prog 58 [.agg #[.int .u8 c, .int .u8 cb, .int .u8 cf, .int .u8 cs], .slice a2 oam.length cap2, .int .i64 line] w [] (fun v H => Lst .i64 (scan oam c line) v H) := by
  refine does_of Try.func58 rfl rfl rfl (St.refl w) ?_
  refine c_seq ?_
  refine c_region ?_
  refine l_x (x_box rfl rfl) rfl rfl ?_
  rintro _ _ ⟨b3, rfl, rfl⟩
  refine l_l rfl rfl rfl ?_
  refine l_nil ?_
  refine c_seq ?_
  refine c_region ?_
  refine l_l rfl rfl rfl ?_
  refine l_nil ?_
  refine c_seq ?_
  refine c_seq ?_
  refine c_region ?_
  refine l_l rfl rfl rfl ?_
  refine l_nil ?_
  refine c_block ?_
  refine c_loop (σ := Nat × Value × Heap) [7, 8, 9, 10, 11, 12, 13, 14, 15, 16, 17, 18, 19, 20, 21, 22, 23, 24] (fun s => [(7, s.2.1), (9, .int .i64 s.1)]) (fun s => s.2.2 ++ [(b3, blk [.int .u8 c, .int .u8 cb, .int .u8 cf, .int .u8 cs] 74)]) (fun s => s.1 ≤ 40 ∧ Vec 3 1 s.2.1 (scanK oam c line s.1).length ((scanK oam c line s.1).map (.int .i64)) s.2.2) (fun s => 40 - s.1) (0, .slice none 0 0, []) ?_ ?_ ?_ ?_
  · exact ⟨by omega, vec_zero oam c line⟩
  · exact .cons rfl (.cons rfl .nil)
  · exact fun _ h => h
  · rintro ⟨k, v, G⟩ y ⟨hk, hV⟩
    have hlen := scanK_len oam c line k
    simp only at hk hV ⊢
    refine c_seq ?_
    refine c_region ?_
    refine l_l rfl rfl rfl ?_
    refine l_nil ?_
    refine c_seq ?_
    refine c_cond rfl (fun h1 => ?_) (fun h1 => ?_)
    · refine c_skip ?_
      refine c_seq ?_
      refine c_block ?_
      refine c_seq ?_
      refine c_region ?_
      refine l_l rfl rfl rfl ?_
      refine l_l rfl rfl rfl ?_
      refine l_nil ?_
      refine c_seq ?_
      refine c_draw _ [3, 4] (.step true 0 (.step true 1 (.step true 2 (.step true 5 (.step false 3 (.step true 4 (.step false 6 (.step false 7 .done)))))))) rfl (by kernel_rfl) (by kernel_rfl) (fun _ h => h) ?_
      refine d_light rfl rfl rfl rfl rfl ?_
      refine d_light rfl rfl rfl rfl rfl ?_
      refine d_light rfl rfl rfl rfl rfl ?_
      refine d_loadA rfl rfl rfl rfl (by first | exact srow_own (by repeat (first | exact .head _ | refine .tail _ ?_ | refine List.mem_append_right _ ?_)) | exact srow_own_at (by repeat (first | exact .head _ | refine .tail _ ?_ | refine List.mem_append_right _ ?_)) _ 4 rfl) rfl rfl ?_
      refine d_x rfl (x_val call_59 rfl (fun w hw => of_fn _ _ oam ho k (by simp at *; omega) hcap w (hO.later0 hw))) rfl rfl (by intro _ _ _ hK x hx; obtain ⟨rfl, rfl⟩ := hK; repeat (first | exact hx | exact List.mem_append_left _ hx | refine List.mem_append_right _ ?_ | refine .tail _ ?_)) ?_
      rintro _ _ ⟨rfl, rfl⟩
      refine d_light rfl (light_fs rfl rfl rfl rfl rfl) rfl rfl rfl ?_
      refine d_x rfl (x_val call_74 rfl (fun w hw => height_fn c cb cf cs hc w)) rfl rfl (by intro h; cases h) ?_
      rintro _ _ ⟨rfl, rfl⟩
      refine d_x rfl (x_val call_73 rfl (fun w hw => within_fn _ _ _ w)) rfl rfl (by intro h; cases h) ?_
      rintro _ _ ⟨rfl, rfl⟩
      refine d_nil ?_
      refine c_cond rfl (fun h2 => ?_) (fun h2 => ?_)
      · refine c_region ?_
        refine l_mv (v := v) rfl rfl rfl ?_
        refine l_l rfl rfl rfl ?_
        refine l_x (x_slc rfl rfl rfl rfl rfl rfl) rfl rfl ?_
        rintro _ _ ⟨b22, rfl, rfl⟩
        refine l_x (x_append (A := [_]) (G := G) (R := [_]) (v := v) (m := 1) (by_ := 8) rfl rfl rfl rfl hV (fun w hw => .row _ _ _ _ _ rfl (row_own (.head _) w hw)) rfl (by omega) (by omega)) rfl rfl ?_
        rintro v23 _ ⟨G', hV', hnil, rfl⟩
        refine l_as' (v := v23) rfl rfl rfl ?_
        refine l_nil ?_
        refine c_region ?_
        refine l_l rfl rfl rfl ?_
        refine l_l rfl rfl rfl ?_
        refine l_nil ?_
        exact ⟨(k + 1, v23, G'), ⟨by simp at *; omega, vec_yes (has_law ho h2) hV'⟩, by simp at *; omega, .cons rfl (.cons (congrArg _ (succ_law (by omega))) .nil), (by repeat (first | exact Agree.refl _ _ | exact Agree.mix rfl | refine Agree.put rfl ?_ | refine Agree.keep rfl ?_)), (fun _ h => h.sub (by first | exact List.Sublist.refl _ | exact (List.Sublist.refl _).append (List.sublist_append_right _ _) | exact List.sublist_append_right _ _ | exact List.sublist_cons_self _ _))⟩
      · refine c_skip ?_
        refine c_region ?_
        refine l_l rfl rfl rfl ?_
        refine l_l rfl rfl rfl ?_
        refine l_nil ?_
        exact ⟨(k + 1, v, G), ⟨by simp at *; omega, vec_no (has_law ho h2) hV⟩, by simp at *; omega, .cons rfl (.cons (congrArg _ (succ_law (by omega))) .nil), (by repeat (first | exact Agree.refl _ _ | exact Agree.mix rfl | refine Agree.put rfl ?_ | refine Agree.keep rfl ?_)), (fun _ h => h.sub (by first | exact List.Sublist.refl _ | exact (List.Sublist.refl _).append (List.sublist_append_right _ _) | exact List.sublist_append_right _ _ | exact List.sublist_cons_self _ _))⟩
    · refine c_exit rfl ?_
      refine c_seq ?_
      obtain rfl : k = 40 := by simp at *; omega
      generalize hm : (scanK oam c line 40).length = m at hV
      generalize hx : (scanK oam c line 40).map (Value.int .i64) = xs at hV
      clear hlen
      rcases hV with _ | ⟨b, n, cap, xs, sp, hn, hcc, hmx, hle⟩
      · refine c_region ?_
        refine l_l rfl rfl rfl ?_
        refine l_l rfl rfl rfl ?_
        refine l_l (by first | exact light_len rfl rfl | exact light_lens rfl rfl | rfl) rfl rfl ?_
        refine l_l (light_min rfl rfl) rfl rfl ?_
        refine l_l rfl rfl rfl ?_
        refine l_l rfl rfl rfl ?_
        refine l_nil ?_
        refine c_ret ?_
        exact l_end0 (fun _ _ => rets_v rfl) (scan_nil hm)
      · refine c_region ?_
        refine l_l rfl rfl rfl ?_
        refine l_l rfl rfl rfl ?_
        refine l_l (by first | exact light_len rfl rfl | exact light_lens rfl rfl | rfl) rfl rfl ?_
        refine l_l (light_min rfl rfl) rfl rfl ?_
        refine l_l (cut_slice1 0 (min m 10) rfl rfl rfl rfl rfl (by show min (m : Int) 10 = _; omega) (by omega) (by omega)) rfl rfl ?_
        refine l_l rfl rfl rfl ?_
        refine l_nil ?_
        refine c_ret ?_
        exact l_end (fun _ _ => rets_v rfl) (List.sublist_append_left _ _) (scan_row hm hx hle)

theorem rscan_fn (c cb cf cs : Int) (hc : 0 ≤ c ∧ c < 256) (a2 : Option Addr) (cap2 : Nat) (oam : List Int) (ho : Byts oam) (line : Int) (hcap : oam.length ≤ cap2) (w : World) (hO : Ns w .u8 a2 oam) :
    Does Try.prog 64 [.agg #[.int .u8 c, .int .u8 cb, .int .u8 cf, .int .u8 cs], .slice a2 oam.length cap2, .int .i64 line] w [] (fun v H => Lst .i64 (scan oam c line) v H) := by
  refine does_of Try.func64 rfl rfl rfl (St.refl w) ?_
  refine c_seq ?_
  refine c_region ?_
  refine l_x (x_box rfl rfl) rfl rfl ?_
  rintro _ _ ⟨b3, rfl, rfl⟩
  refine l_l rfl rfl rfl ?_
  refine l_nil ?_
  refine c_seq ?_
  refine c_region ?_
  refine l_l rfl rfl rfl ?_
  refine l_nil ?_
  refine c_seq ?_
  refine c_seq ?_
  refine c_region ?_
  refine l_l rfl rfl rfl ?_
  refine l_l rfl rfl rfl ?_
  refine l_b rfl rfl rfl (fun h1 => ?_) (fun h1 => ?_)
  · refine l_p rfl rfl ?_
    refine l_p rfl rfl ?_
    refine l_l rfl rfl rfl ?_
    refine l_nil ?_
    refine c_true rfl ?_
    refine c_seq ?_
    refine c_region ?_
    refine l_l rfl rfl rfl ?_
    refine l_nil ?_
    refine c_ret ?_
    exact l_end0 (fun _ _ => rets_v rfl) (by rw [scan_far ho (by simp at *; omega)]; exact .nil)
  · refine l_l rfl rfl rfl ?_
    refine l_l rfl rfl rfl ?_
    refine l_l rfl rfl rfl ?_
    refine l_nil ?_
    refine c_cond rfl (fun h2 => ?_) (fun h2 => ?_)
    · refine c_seq ?_
      refine c_region ?_
      refine l_l rfl rfl rfl ?_
      refine l_nil ?_
      refine c_ret ?_
      exact l_end0 (fun _ _ => rets_v rfl) (by rw [scan_far ho (by simp at *; omega)]; exact .nil)
    · refine c_skip ?_
      refine c_seq ?_
      refine c_seq ?_
      refine c_region ?_
      refine l_l rfl rfl rfl ?_
      refine l_nil ?_
      refine c_block ?_
      refine c_loop (σ := Nat × Value × Heap) [7, 8, 9, 16, 17, 18, 19, 20, 21, 22, 23, 24, 25, 26, 27, 28, 29, 30, 31, 32, 33, 34, 35, 36, 37, 38, 39, 40, 41, 42, 43] (fun s => [(7, s.2.1), (8, .int .i64 s.1)]) (fun s => s.2.2 ++ [(b3, blk [.int .u8 c, .int .u8 cb, .int .u8 cf, .int .u8 cs] 79)]) (fun s => s.1 ≤ 40 ∧ Vec 3 1 s.2.1 ((scanK oam c line s.1).take 10).length (((scanK oam c line s.1).take 10).map (.int .i64)) s.2.2) (fun s => 40 - s.1) (0, .slice none 0 0, []) ?_ ?_ ?_ ?_
      · exact ⟨by omega, rvec_zero oam c line⟩
      · exact .cons rfl (.cons rfl .nil)
      · exact fun _ h => h
      · rintro ⟨k, v, G⟩ y ⟨hk, hV⟩
        have hlen := scanK_len oam c line k
        simp only at hk hV ⊢
        obtain ⟨a7, c7, rfl⟩ := hV.slice
        have hl10 := List.length_take_le 10 (scanK oam c line k)
        refine c_seq ?_
        refine c_seq ?_
        refine c_region ?_
        refine l_l rfl rfl rfl ?_
        refine l_l rfl rfl rfl ?_
        refine l_nil ?_
        refine c_cond rfl (fun h3 => ?_) (fun h3 => ?_)
        · refine c_skip ?_
          refine c_seq ?_
          refine c_block ?_
          refine c_seq ?_
          refine c_region ?_
          refine l_l rfl rfl rfl ?_
          refine l_l rfl rfl rfl ?_
          refine l_x (x_val call_68 rfl (fun w hw => oat_fn _ _ oam k 0 (by simp at *; omega) (by decide) ho w (hO.later0 hw))) rfl rfl ?_
          rintro _ _ ⟨rfl, rfl⟩
          refine l_l rfl rfl rfl ?_
          refine l_l rfl rfl rfl ?_
          refine l_nil ?_
          refine c_seq ?_
          refine c_region ?_
          refine l_l rfl rfl rfl ?_
          refine l_l rfl rfl rfl ?_
          refine l_l rfl rfl rfl ?_
          refine l_b rfl rfl rfl (fun h4 => ?_) (fun h4 => ?_)
          · refine l_l rfl rfl rfl ?_
            refine l_l rfl rfl rfl ?_
            refine l_x (x_loadA rfl rfl rfl (by first | exact row_own (by repeat (first | exact .head _ | refine .tail _ ?_ | refine List.mem_append_right _ ?_)) | exact row_own_at (by repeat (first | exact .head _ | refine .tail _ ?_ | refine List.mem_append_right _ ?_)) _ 4 rfl)) rfl rfl ?_
            rintro _ _ ⟨rfl, rfl⟩
            refine l_x (x_val call_79 rfl (fun w hw => rheight_fn c cb cf cs hc w)) rfl rfl ?_
            rintro _ _ ⟨rfl, rfl⟩
            refine l_l rfl rfl rfl ?_
            refine l_l rfl rfl rfl ?_
            refine l_l rfl rfl rfl ?_
            refine l_b rfl rfl rfl (fun h5 => ?_) (fun h5 => ?_)
            · refine l_l rfl rfl rfl ?_
              refine l_l (by first | exact light_len rfl rfl | exact light_lens rfl rfl | rfl) rfl rfl ?_
              refine l_l rfl rfl rfl ?_
              refine l_l rfl rfl rfl ?_
              refine l_nil ?_
              refine c_cond rfl (fun h6 => ?_) (fun h6 => ?_)
              · refine c_region ?_
                refine l_l rfl rfl rfl ?_
                refine l_l rfl rfl rfl ?_
                refine l_x (x_slc rfl rfl rfl rfl rfl rfl) rfl rfl ?_
                rintro _ _ ⟨b42, rfl, rfl⟩
                refine l_x (x_append (A := [_]) (G := G) (R := [_]) (v := .slice a7 ((scanK oam c line k).take 10).length c7) (m := 1) (by_ := 8) rfl rfl rfl rfl hV (fun w hw => .row _ _ _ _ _ rfl (row_own (.head _) w hw)) rfl (by omega) (by omega)) rfl rfl ?_
                rintro v43 _ ⟨G', hV', hnil, rfl⟩
                refine l_as' (v := v43) rfl rfl rfl ?_
                refine l_nil ?_
                refine c_region ?_
                refine l_l rfl rfl rfl ?_
                refine l_l rfl rfl rfl ?_
                refine l_l rfl rfl rfl ?_
                refine l_nil ?_
                exact ⟨(k + 1, v43, G'), ⟨by simp at *; omega, rvec_yes (by rw [rhas_law ho]; simp at *; omega) (by simp at *; omega) hV'⟩, by simp at *; omega, .cons rfl (.cons (congrArg _ (succ_law (by omega))) .nil), (by repeat (first | exact Agree.refl _ _ | exact Agree.mix rfl | refine Agree.put rfl ?_ | refine Agree.keep rfl ?_)), (fun _ h => h.sub (by first | exact List.Sublist.refl _ | exact (List.Sublist.refl _).append (List.sublist_append_right _ _) | exact List.sublist_append_right _ _ | exact List.sublist_cons_self _ _))⟩
              · refine c_skip ?_
                refine c_region ?_
                refine l_l rfl rfl rfl ?_
                refine l_l rfl rfl rfl ?_
                refine l_l rfl rfl rfl ?_
                refine l_nil ?_
                exact ⟨(k + 1, _, G), ⟨by simp at *; omega, rvec_no (.inr (by simp at *; omega)) hV⟩, by simp at *; omega, .cons rfl (.cons (congrArg _ (succ_law (by omega))) .nil), (by repeat (first | exact Agree.refl _ _ | exact Agree.mix rfl | refine Agree.put rfl ?_ | refine Agree.keep rfl ?_)), (fun _ h => h.sub (by first | exact List.Sublist.refl _ | exact (List.Sublist.refl _).append (List.sublist_append_right _ _) | exact List.sublist_append_right _ _ | exact List.sublist_cons_self _ _))⟩
            · refine l_p rfl rfl ?_
              refine l_p rfl rfl ?_
              refine l_p rfl rfl ?_
              refine l_l rfl rfl rfl ?_
              refine l_nil ?_
              refine c_false rfl ?_
              refine c_skip ?_
              refine c_region ?_
              refine l_l rfl rfl rfl ?_
              refine l_l rfl rfl rfl ?_
              refine l_l rfl rfl rfl ?_
              refine l_nil ?_
              exact ⟨(k + 1, _, G), ⟨by simp at *; omega, rvec_no (.inl (by rw [rhas_law ho]; simp at *; omega)) hV⟩, by simp at *; omega, .cons rfl (.cons (congrArg _ (succ_law (by omega))) .nil), (by repeat (first | exact Agree.refl _ _ | exact Agree.mix rfl | refine Agree.put rfl ?_ | refine Agree.keep rfl ?_)), (fun _ h => h.sub (by first | exact List.Sublist.refl _ | exact (List.Sublist.refl _).append (List.sublist_append_right _ _) | exact List.sublist_append_right _ _ | exact List.sublist_cons_self _ _))⟩
          · refine l_p rfl rfl ?_
            refine l_p rfl rfl ?_
            refine l_p rfl rfl ?_
            refine l_p rfl rfl ?_
            refine l_p rfl rfl ?_
            refine l_p rfl rfl ?_
            refine l_l rfl rfl rfl ?_
            refine l_l rfl rfl rfl ?_
            refine l_p rfl rfl ?_
            refine l_p rfl rfl ?_
            refine l_p rfl rfl ?_
            refine l_l rfl rfl rfl ?_
            refine l_nil ?_
            refine c_false rfl ?_
            refine c_skip ?_
            refine c_region ?_
            refine l_l rfl rfl rfl ?_
            refine l_l rfl rfl rfl ?_
            refine l_l rfl rfl rfl ?_
            refine l_nil ?_
            exact ⟨(k + 1, _, G), ⟨by simp at *; omega, rvec_no (.inl (by rw [rhas_law ho]; simp at *; omega)) hV⟩, by simp at *; omega, .cons rfl (.cons (congrArg _ (succ_law (by omega))) .nil), (by repeat (first | exact Agree.refl _ _ | exact Agree.mix rfl | refine Agree.put rfl ?_ | refine Agree.keep rfl ?_)), (fun _ h => h.sub (by first | exact List.Sublist.refl _ | exact (List.Sublist.refl _).append (List.sublist_append_right _ _) | exact List.sublist_append_right _ _ | exact List.sublist_cons_self _ _))⟩
        · refine c_exit rfl ?_
          refine c_seq ?_
          refine c_region ?_
          refine l_l rfl rfl rfl ?_
          refine l_l rfl rfl rfl ?_
          refine l_nil ?_
          refine c_ret ?_
          obtain rfl : k = 40 := by simp at *; omega
          exact l_end (fun _ _ => rets_v rfl) (List.sublist_append_left _ _) (Lst.of_vec hV)

end Go.Proofs.Ytjceoaomkbabmaa
namespace Go.Proofs.Ytjceoaomkbabmaa
open Go Go.VV Go.Proofs
set_option linter.unusedSimpArgs false
set_option linter.unusedVariables false
set_option maxRecDepth 100000

theorem isnan_fn (x : Int) (w : World) : Does Try.prog 76 [.int .i64 x] w [] (fun v H => H = [] ∧ v = .bool false) := by
  refine does_of Try.func76 rfl rfl rfl (St.refl w) ?_
  refine c_seq ?_
  refine c_region ?_
  refine l_l rfl rfl rfl ?_
  refine l_nil ?_
  refine c_seq ?_
  refine c_region ?_
  refine l_l rfl rfl rfl ?_
  refine l_l rfl rfl rfl ?_
  refine l_l rfl rfl rfl ?_
  refine l_l rfl rfl rfl ?_
  refine l_nil ?_
  refine c_ret ?_
  exact l_end0 (fun _ _ => rets_v rfl) ⟨rfl, (congrArg _ (by simp))⟩

theorem compare_fn (x y : Int) (w : World) : Does Try.prog 62 [.int .i64 x, .int .i64 y] w [] (fun v H => H = [] ∧ v = .int .i64 (cmpI x y)) := by
  refine does_of Try.func62 rfl rfl rfl (St.refl w) ?_
  refine c_seq ?_
  refine c_region ?_
  refine l_l rfl rfl rfl ?_
  refine l_nil ?_
  refine c_seq ?_
  refine c_region ?_
  refine l_l rfl rfl rfl ?_
  refine l_x (x_val call_76 rfl (fun w hw => isnan_fn _ w)) rfl rfl ?_
  rintro _ _ ⟨rfl, rfl⟩
  refine l_l rfl rfl rfl ?_
  refine l_nil ?_
  refine c_seq ?_
  refine c_region ?_
  refine l_l rfl rfl rfl ?_
  refine l_x (x_val call_76 rfl (fun w hw => isnan_fn _ w)) rfl rfl ?_
  rintro _ _ ⟨rfl, rfl⟩
  refine l_l rfl rfl rfl ?_
  refine l_nil ?_
  refine c_seq ?_
  refine c_seq ?_
  refine c_region ?_
  refine l_l rfl rfl rfl ?_
  refine l_nil ?_
  refine c_false rfl ?_
  refine c_skip ?_
  refine c_seq ?_
  refine c_seq ?_
  refine c_region ?_
  refine l_l rfl rfl rfl ?_
  refine l_nil ?_
  refine c_false rfl ?_
  refine c_skip ?_
  refine c_seq ?_
  refine c_seq ?_
  refine c_region ?_
  refine l_l rfl rfl rfl ?_
  refine l_l rfl rfl rfl ?_
  refine l_l rfl rfl rfl ?_
  refine l_nil ?_
  refine c_cond rfl (fun h1 => ?_) (fun h1 => ?_)
  · refine c_seq ?_
    refine c_region ?_
    refine l_l rfl rfl rfl ?_
    refine l_nil ?_
    refine c_ret ?_
    exact l_end0 (fun _ _ => rets_v rfl) ⟨rfl, (congrArg _ (by simp at *; unfold cmpI; split <;> (try split) <;> omega))⟩
  · refine c_skip ?_
    refine c_seq ?_
    refine c_seq ?_
    refine c_region ?_
    refine l_l rfl rfl rfl ?_
    refine l_l rfl rfl rfl ?_
    refine l_l rfl rfl rfl ?_
    refine l_nil ?_
    refine c_cond rfl (fun h2 => ?_) (fun h2 => ?_)
    · refine c_seq ?_
      refine c_region ?_
      refine l_l rfl rfl rfl ?_
      refine l_nil ?_
      refine c_ret ?_
      exact l_end0 (fun _ _ => rets_v rfl) ⟨rfl, (congrArg _ (by simp at *; unfold cmpI; split <;> (try split) <;> omega))⟩
    · refine c_skip ?_
      refine c_seq ?_
      refine c_region ?_
      refine l_l rfl rfl rfl ?_
      refine l_nil ?_
      refine c_ret ?_
      exact l_end0 (fun _ _ => rets_v rfl) ⟨rfl, (congrArg _ (by simp at *; unfold cmpI; split <;> (try split) <;> omega))⟩

theorem line1_fn (a b : Sp) (w : World) : Does Try.prog 61 [.agg (spc a).toArray, .agg (spc b).toArray] w [] (fun v H => H = [] ∧ v = .int .i64 (cmpI a.x b.x)) := by
  refine does_of Try.func61 rfl rfl rfl (St.refl w) ?_
  refine c_seq ?_
  refine c_region ?_
  refine l_x (x_box rfl rfl) rfl rfl ?_
  rintro _ _ ⟨b2, rfl, rfl⟩
  refine l_x (x_box rfl rfl) rfl rfl ?_
  rintro _ _ ⟨b3, rfl, rfl⟩
  refine l_l rfl rfl rfl ?_
  refine l_nil ?_
  refine c_seq ?_
  refine c_region ?_
  refine l_l (light_fa rfl rfl) rfl rfl ?_
  refine l_x (x_load rfl rfl (at_own (by repeat (first | exact .head _ | refine .tail _ ?_ | refine List.mem_append_right _ ?_)) (by rfl))) rfl rfl ?_
  rintro _ _ ⟨rfl, rfl⟩
  refine l_l (light_fa rfl rfl) rfl rfl ?_
  refine l_x (x_load rfl rfl (at_own (by repeat (first | exact .head _ | refine .tail _ ?_ | refine List.mem_append_right _ ?_)) (by rfl))) rfl rfl ?_
  rintro _ _ ⟨rfl, rfl⟩
  refine l_x (x_val call_62 rfl (fun w hw => compare_fn _ _ w)) rfl rfl ?_
  rintro _ _ ⟨rfl, rfl⟩
  refine l_l rfl rfl rfl ?_
  refine l_nil ?_
  refine c_ret ?_
  exact l_end0 (fun _ _ => rets_v rfl) ⟨rfl, rfl⟩

theorem ins_fn (b n cap : Nat) (l : List Sp) (sp' : List Value) (hn : l.length = n) (h10 : n ≤ 1000) (w : World) (hb : w.heap[b]? = some (blk (flat spc l ++ sp') 91)) :
    Does Try.prog 86 [.slice (some ⟨b, 0, none⟩) n cap, .int .i64 0, .int .i64 n, .func (.func 61) #[] #[]] w [b] (fun v H => v = .tuple #[] ∧ H = [(b, blk (flat spc (isort l) ++ sp') 91)]) := by
  refine does_of Try.func86 rfl rfl rfl (St.lent1 hb) ?_
  refine c_seq ?_
  refine c_region ?_
  refine l_l rfl rfl rfl ?_
  refine l_l rfl rfl rfl ?_
  refine l_l rfl rfl rfl ?_
  refine l_nil ?_
  refine c_block ?_
  refine c_loop (σ := Nat) [8, 9, 12, 13, 14, 15, 16, 17, 18, 19, 20, 21, 22, 23, 24, 25, 26, 27, 28, 29, 30, 31, 32, 33, 34, 35, 36, 37, 38, 39, 40, 41, 42, 43, 44, 45, 46, 47, 48, 49, 50, 51, 52] (fun i => [(8, .int .i64 i)]) (fun i => [(b, blk (flat spc (isort (l.take i) ++ l.drop i) ++ sp') 91)]) (fun i => 1 ≤ i ∧ (i ≤ n ∨ i = 1)) (fun i => n - i) 1 ?_ ?_ ?_ ?_
  · exact ⟨by omega, .inr rfl⟩
  · exact .cons rfl .nil
  · exact fun w h => by rw [isort_one]; exact h
  · rintro i y ⟨hi1, hi2⟩
    refine c_seq ?_
    refine c_seq ?_
    refine c_region ?_
    refine l_l rfl rfl rfl ?_
    refine l_l rfl rfl rfl ?_
    refine l_l rfl rfl rfl ?_
    refine l_nil ?_
    refine c_cond rfl (fun h1 => ?_) (fun h1 => ?_)
    · refine c_skip ?_
      refine c_seq ?_
      refine c_block ?_
      refine c_seq ?_
      have hin : i < n := by simp at *; omega
      have hlt : i < l.length := by omega
      obtain ⟨e, R, hd, hR, hI⟩ : ∃ e R, l.drop i = e :: R ∧ R = l.drop (i + 1) ∧ isort (l.take (i + 1)) = insB e (isort (l.take i)).reverse [] := ⟨l[i], l.drop (i + 1), List.drop_eq_getElem_cons hlt, rfl, isort_next hlt⟩
      have hS : (isort (l.take i)).length = i := by rw [isort_len, List.length_take]; omega
      refine c_region ?_
      refine l_l rfl rfl rfl ?_
      refine l_l rfl rfl rfl ?_
      refine l_nil ?_
      refine c_block ?_
      refine c_loop (σ := List Sp × List Sp) [9, 18, 19, 20, 21, 22, 23, 24, 25, 26, 27, 28, 29, 30, 31, 32, 33, 34, 35, 36, 37, 38, 39, 40, 41, 42, 43, 44, 45, 46, 47, 48, 49, 50, 51, 52] (fun s => [(9, .int .i64 s.1.length)]) (fun s => [(b, blk (flat spc (s.1 ++ e :: (s.2 ++ R)) ++ sp') 91)]) (fun s => insB e s.1.reverse s.2 = insB e (isort (l.take i)).reverse [] ∧ s.1.length + s.2.length = i) (fun s => s.1.length) (isort (l.take i), []) ?_ ?_ ?_ ?_
      · exact ⟨rfl, hS⟩
      · exact .cons (congrArg (fun k : Nat => Value.int .i64 k) hS.symm) .nil
      · exact fun w h => by rw [hd] at h; exact h
      · rintro ⟨A, B⟩ y2 ⟨hI2, hAB⟩
        simp only at hI2 hAB ⊢
        refine c_seq ?_
        refine c_seq ?_
        refine c_draw _ [9, 10, 11, 12, 13] (.step true 0 (.step true 1 (.step true 2 (.step true 3 (.step true 4 (.step true 5 (.step true 6 (.step true 7 (.step true 8 (.step true 9 (.step true 10 (.step true 11 (.step true 12 (.step true 13 (.step false 14 (.step true 15 (.step true 16 .done))))))))))))))))) rfl (by kernel_rfl) (by kernel_rfl) (fun _ h => h) ?_
        refine d_light rfl rfl rfl rfl rfl ?_
        refine d_light rfl rfl rfl rfl rfl ?_
        refine d_light rfl rfl rfl rfl rfl ?_
        refine d_bool rfl rfl rfl rfl (fun h2 => ?_) (fun h2 => ?_)
        · obtain ⟨A', x, rfl⟩ := snoc_of (l := A) (by simp at *; omega)
          refine d_light rfl rfl rfl rfl rfl ?_
          refine d_light rfl rfl rfl rfl rfl ?_
          refine d_light rfl rfl rfl rfl rfl ?_
          refine d_light rfl (idx_slice (s := 5) (A' ++ [x]).length rfl rfl rfl rfl (by simp at *; omega)) rfl rfl rfl ?_
          refine d_loadA rfl rfl rfl rfl (fun w hS => Row.elem spc_len (srow_own (.head _) w hS)) rfl rfl ?_
          refine d_light rfl rfl rfl rfl rfl ?_
          refine d_light rfl rfl rfl rfl rfl ?_
          refine d_as (v := (.int .i64 (A'.length : Int))) rfl rfl rfl rfl rfl (congrArg _ (pred_len (by simp at *; omega))) ?_
          refine d_light rfl (idx_slice (s := 5) A'.length rfl rfl rfl rfl (by simp at *; omega)) rfl rfl rfl ?_
          refine d_loadA rfl rfl rfl rfl (fun w hS => Row.elem2 spc_len (srow_own (.head _) w hS)) rfl rfl ?_
          refine d_x rfl (x_valV (A := []) (B := []) rfl call_61 rfl (fun w hw => line1_fn e x w)) rfl rfl (by intro h; cases h) ?_
          rintro _ _ ⟨rfl, rfl⟩
          refine d_light rfl rfl rfl rfl rfl ?_
          refine d_light rfl rfl rfl rfl rfl ?_
          refine d_nil ?_
          refine c_cond rfl (fun h3 => ?_) (fun h3 => ?_)
          · refine c_skip ?_
            refine c_seq ?_
            refine c_block ?_
            refine c_draw _ [10, 11, 12, 13] (.step true 0 (.step true 1 (.step true 2 (.step true 3 (.step true 4 (.step true 5 (.step true 6 (.step true 7 (.step true 8 (.step true 9 (.step true 10 (.step true 11 (.step true 12 (.step true 13 (.step true 14 (.step false 15 (.step true 16 (.step false 17 .done)))))))))))))))))) rfl (by kernel_rfl) (by kernel_rfl) (fun _ h => h) ?_
            refine d_light rfl rfl rfl rfl rfl ?_
            refine d_light rfl rfl rfl rfl rfl ?_
            refine d_light rfl rfl rfl rfl rfl ?_
            refine d_light rfl rfl rfl rfl rfl ?_
            refine d_as (v := (.int .i64 (A'.length : Int))) rfl rfl rfl rfl rfl (congrArg _ (pred_len (by simp at *; omega))) ?_
            refine d_light rfl rfl rfl rfl rfl ?_
            refine d_light rfl rfl rfl rfl rfl ?_
            refine d_as (v := (.int .i64 (A'.length : Int))) rfl rfl rfl rfl rfl (congrArg _ (pred_len (by simp at *; omega))) ?_
            refine d_light rfl (idx_slice (s := 5) A'.length rfl rfl rfl rfl (by simp at *; omega)) rfl rfl rfl ?_
            refine d_loadA rfl rfl rfl rfl (fun w hS => Row.elem2 spc_len (srow_own (.head _) w hS)) rfl rfl ?_
            refine d_light rfl rfl rfl rfl rfl ?_
            refine d_light rfl rfl rfl rfl rfl ?_
            refine d_light rfl (idx_slice (s := 5) (A' ++ [x]).length rfl rfl rfl rfl (by simp at *; omega)) rfl rfl rfl ?_
            refine d_loadA rfl rfl rfl rfl (fun w hS => Row.elem spc_len (srow_own (.head _) w hS)) rfl rfl ?_
            refine d_light rfl (idx_slice (s := 5) (A' ++ [x]).length rfl rfl rfl rfl (by simp at *; omega)) rfl rfl rfl ?_
            refine d_x rfl (x_store (vs := spc x) 0 rfl rfl rfl rfl rfl rfl (flat_fits spc_len _ _ _ _ _)) rfl rfl (by intro h; cases h) ?_
            rintro _ _ ⟨rfl, rfl⟩
            rw [List.set_cons_zero, putL_flat2 spc_len]
            refine d_light rfl (idx_slice (s := 5) A'.length rfl rfl rfl rfl (by simp at *; omega)) rfl rfl rfl ?_
            refine d_x rfl (x_store (vs := spc e) 0 rfl rfl rfl rfl rfl rfl (flat_fits spc_len _ _ _ _ _)) rfl rfl (by intro h; cases h) ?_
            rintro _ _ ⟨rfl, rfl⟩
            rw [List.set_cons_zero, putL_flat spc_len]
            refine d_nil ?_
            refine c_region ?_
            refine l_l rfl rfl rfl ?_
            refine l_as (v := (.int .i64 (A'.length : Int))) rfl rfl rfl (congrArg _ (pred_len (by simp at *; omega))) ?_
            refine l_l rfl rfl rfl ?_
            refine l_nil ?_
            exact ⟨(A', x :: B), ⟨by rw [← insB_step e x A' B (by have h0 := h3; rw [cmpI_lt] at h0; simpa using h0)]; exact hI2, by simp at *; omega⟩, by simp, .cons rfl .nil, (by repeat (first | exact Agree.refl _ _ | exact Agree.mix rfl | refine Agree.put rfl ?_ | refine Agree.keep rfl ?_)), fun _ h => h⟩
          · refine c_exit rfl ?_
            refine c_region ?_
            refine l_l rfl rfl rfl ?_
            refine l_l rfl rfl rfl ?_
            refine l_l rfl rfl rfl ?_
            refine l_nil ?_
            exact ⟨i + 1, ⟨by omega, .inl (by omega)⟩, by omega, .cons (congrArg _ (succ_law (by omega))) .nil, (by repeat (first | exact Agree.refl _ _ | exact Agree.mix rfl | refine Agree.put rfl ?_ | refine Agree.keep rfl ?_)), fun w h => by rw [ins_done (.inr ⟨A', x, rfl, by have h0 := h3; rw [cmpI_lt] at h0; simpa using h0⟩) hI2, ← hI, hR] at h; exact h⟩
        · refine d_pass rfl rfl rfl ?_
          refine d_pass rfl rfl rfl ?_
          refine d_pass rfl rfl rfl ?_
          refine d_pass rfl rfl rfl ?_
          refine d_pass rfl rfl rfl ?_
          refine d_pass rfl rfl rfl ?_
          refine d_pass rfl rfl rfl ?_
          refine d_pass rfl rfl rfl ?_
          refine d_pass rfl rfl rfl ?_
          refine d_pass rfl rfl rfl ?_
          refine d_passH rfl rfl rfl ?_
          refine d_pass rfl rfl rfl ?_
          refine d_light rfl rfl rfl rfl rfl ?_
          refine d_nil ?_
          refine c_false rfl ?_
          refine c_exit rfl ?_
          refine c_region ?_
          refine l_l rfl rfl rfl ?_
          refine l_l rfl rfl rfl ?_
          refine l_l rfl rfl rfl ?_
          refine l_nil ?_
          exact ⟨i + 1, ⟨by omega, .inl (by omega)⟩, by omega, .cons (congrArg _ (succ_law (by omega))) .nil, (by repeat (first | exact Agree.refl _ _ | exact Agree.mix rfl | refine Agree.put rfl ?_ | refine Agree.keep rfl ?_)), fun w h => by rw [ins_done (.inl (List.eq_nil_of_length_eq_zero (by simp at *; omega))) hI2, ← hI, hR] at h; exact h⟩
    · refine c_exit rfl ?_
      exact l_end (fun _ _ => rets_none) (List.Sublist.refl _) ⟨rfl, by rw [isort_end (by simp at *; omega)]⟩

theorem insnil_fn (w : World) :
    Does Try.prog 86 [.slice none 0 0, .int .i64 0, .int .i64 0, .func (.func 61) #[] #[]] w [] (fun v H => H = [] ∧ v = .tuple #[]) := by
  refine does_of Try.func86 rfl rfl rfl (St.refl w) ?_
  refine c_seq ?_
  refine c_region ?_
  refine l_l rfl rfl rfl ?_
  refine l_l rfl rfl rfl ?_
  refine l_l rfl rfl rfl ?_
  refine l_nil ?_
  refine c_block ?_
  refine c_loopk (σ := Unit) [8, 9, 12, 13, 14, 15, 16, 17, 18, 19, 20, 21, 22, 23, 24, 25, 26, 27, 28, 29, 30, 31, 32, 33, 34, 35, 36, 37, 38, 39, 40, 41, 42, 43, 44, 45, 46, 47, 48, 49, 50, 51, 52] (fun _ => [(8, .int .i64 1)]) (fun _ => True) (fun _ => 0) () ?_ ?_ ?_
  · trivial
  · exact .cons rfl .nil
  · rintro _ y _
    refine c_seq ?_
    refine c_seq ?_
    refine c_region ?_
    refine l_l rfl rfl rfl ?_
    refine l_l rfl rfl rfl ?_
    refine l_sure false rfl rfl rfl (by decide) ?_
    refine l_nil ?_
    refine c_false rfl ?_
    refine c_exit rfl ?_
    exact l_end0 (fun _ _ => rets_none) ⟨rfl, rfl⟩

theorem stable_fn (b n cap : Nat) (l : List Sp) (sp' : List Value) (hn : l.length = n) (h10 : n ≤ 10) (w : World) (hb : w.heap[b]? = some (blk (flat spc l ++ sp') 91)) :
    Does Try.prog 75 [.slice (some ⟨b, 0, none⟩) n cap, .int .i64 n, .func (.func 61) #[] #[]] w [b] (fun v H => v = .tuple #[] ∧ H = [(b, blk (flat spc (isort l) ++ sp') 91)]) := by
  refine does_of Try.func75 rfl rfl rfl (St.lent1 hb) ?_
  refine c_seq ?_
  refine c_region ?_
  refine l_l rfl rfl rfl ?_
  refine l_nil ?_
  refine c_seq ?_
  refine c_region ?_
  refine l_l rfl rfl rfl ?_
  refine l_l rfl rfl rfl ?_
  refine l_l rfl rfl rfl ?_
  refine l_nil ?_
  refine c_seq ?_
  refine c_block ?_
  refine c_loopk (σ := Unit) [7, 8, 11, 12, 13, 14, 15, 16, 17, 18, 19, 20, 21, 22] (fun _ => [(7, .int .i64 0), (8, .int .i64 20)]) (fun _ => True) (fun _ => 0) () ?_ ?_ ?_
  · trivial
  · exact .cons rfl (.cons rfl .nil)
  · rintro _ y _
    refine c_seq ?_
    refine c_seq ?_
    refine c_region ?_
    refine l_l rfl rfl rfl ?_
    refine l_l rfl rfl rfl ?_
    refine l_sure false rfl rfl rfl (by simp; omega) ?_
    refine l_nil ?_
    refine c_false rfl ?_
    refine c_exit rfl ?_
    refine c_seq ?_
    refine c_region ?_
    refine l_l rfl rfl rfl ?_
    refine l_l rfl rfl rfl ?_
    refine l_l rfl rfl rfl ?_
    refine l_l rfl rfl rfl ?_
    refine l_x (x_callF (A := [_]) (G := []) [b] call_86 rfl (by simp) (fun w hw => ins_fn b n cap l sp' hn (by omega) w (hw.own_blk (.head _)))) rfl rfl ?_
    rintro _ _ ⟨_, ⟨rfl, rfl⟩, rfl⟩
    refine l_nil ?_
    refine c_block ?_
    refine c_loopk (σ := Unit) [6, 7, 8, 9, 28, 29, 30, 31, 32, 33, 34, 35, 36, 37, 38, 39, 40, 41, 42, 43, 44, 45, 46, 47, 48, 49, 50, 51, 52, 53, 54, 55, 56, 57, 58, 59, 60, 61, 62] (fun _ => [(6, .int .i64 20)]) (fun _ => True) (fun _ => 0) () ?_ ?_ ?_
    · trivial
    · exact .cons rfl .nil
    · rintro _ y _
      refine c_seq ?_
      refine c_seq ?_
      refine c_region ?_
      refine l_l rfl rfl rfl ?_
      refine l_l rfl rfl rfl ?_
      refine l_sure false rfl rfl rfl (by simp; omega) ?_
      refine l_nil ?_
      refine c_false rfl ?_
      refine c_exit rfl ?_
      exact l_end (fun _ _ => rets_none) (List.Sublist.refl _) ⟨rfl, rfl⟩

theorem stablenil_fn (w : World) :
    Does Try.prog 75 [.slice none 0 0, .int .i64 0, .func (.func 61) #[] #[]] w [] (fun v H => H = [] ∧ v = .tuple #[]) := by
  refine does_of Try.func75 rfl rfl rfl (St.refl w) ?_
  refine c_seq ?_
  refine c_region ?_
  refine l_l rfl rfl rfl ?_
  refine l_nil ?_
  refine c_seq ?_
  refine c_region ?_
  refine l_l rfl rfl rfl ?_
  refine l_l rfl rfl rfl ?_
  refine l_l rfl rfl rfl ?_
  refine l_nil ?_
  refine c_seq ?_
  refine c_block ?_
  refine c_loopk (σ := Unit) [7, 8, 11, 12, 13, 14, 15, 16, 17, 18, 19, 20, 21, 22] (fun _ => [(7, .int .i64 0), (8, .int .i64 20)]) (fun _ => True) (fun _ => 0) () ?_ ?_ ?_
  · trivial
  · exact .cons rfl (.cons rfl .nil)
  · rintro _ y _
    refine c_seq ?_
    refine c_seq ?_
    refine c_region ?_
    refine l_l rfl rfl rfl ?_
    refine l_l rfl rfl rfl ?_
    refine l_sure false rfl rfl rfl (by decide) ?_
    refine l_nil ?_
    refine c_false rfl ?_
    refine c_exit rfl ?_
    refine c_seq ?_
    refine c_region ?_
    refine l_l rfl rfl rfl ?_
    refine l_l rfl rfl rfl ?_
    refine l_l rfl rfl rfl ?_
    refine l_l rfl rfl rfl ?_
    refine l_x (x_val call_86 rfl (fun w hw => insnil_fn w)) rfl rfl ?_
    rintro _ _ ⟨rfl, rfl⟩
    refine l_nil ?_
    refine c_block ?_
    refine c_loopk (σ := Unit) [6, 7, 8, 9, 28, 29, 30, 31, 32, 33, 34, 35, 36, 37, 38, 39, 40, 41, 42, 43, 44, 45, 46, 47, 48, 49, 50, 51, 52, 53, 54, 55, 56, 57, 58, 59, 60, 61, 62] (fun _ => [(6, .int .i64 20)]) (fun _ => True) (fun _ => 0) () ?_ ?_ ?_
    · trivial
    · exact .cons rfl .nil
    · rintro _ y _
      refine c_seq ?_
      refine c_seq ?_
      refine c_region ?_
      refine l_l rfl rfl rfl ?_
      refine l_l rfl rfl rfl ?_
      refine l_sure false rfl rfl rfl (by decide) ?_
      refine l_nil ?_
      refine c_false rfl ?_
      refine c_exit rfl ?_
      exact l_end0 (fun _ _ => rets_none) ⟨rfl, rfl⟩

theorem sortrow_fn (b n cap : Nat) (l : List Sp) (sp' : List Value) (hn : l.length = n) (h10 : n ≤ 10) (w : World) (hb : w.heap[b]? = some (blk (flat spc l ++ sp') 91)) :
    Does Try.prog 60 [.slice (some ⟨b, 0, none⟩) n cap, .func (.func 61) #[] #[]] w [b] (fun v H => v = .tuple #[] ∧ H = [(b, blk (flat spc (isort l) ++ sp') 91)]) := by
  refine does_of Try.func60 rfl rfl rfl (St.lent1 hb) ?_
  refine c_region ?_
  refine l_l rfl rfl rfl ?_
  refine l_l rfl rfl rfl ?_
  refine l_l (by first | exact light_len rfl rfl | exact light_lens rfl rfl | rfl) rfl rfl ?_
  refine l_l rfl rfl rfl ?_
  refine l_x (x_callF (A := [_]) (G := []) [b] call_75 rfl (by simp) (fun w hw => stable_fn b n cap l sp' hn h10 w (hw.own_blk (.head _)))) rfl rfl ?_
  rintro _ _ ⟨_, ⟨rfl, rfl⟩, rfl⟩
  refine l_nil ?_
  exact l_end (fun _ _ => rets_none) (List.Sublist.refl _) ⟨rfl, rfl⟩

theorem sortnil_fn (w : World) :
    Does Try.prog 60 [.slice none 0 0, .func (.func 61) #[] #[]] w [] (fun v H => H = [] ∧ v = .tuple #[]) := by
  refine does_of Try.func60 rfl rfl rfl (St.refl w) ?_
  refine c_region ?_
  refine l_l rfl rfl rfl ?_
  refine l_l rfl rfl rfl ?_
  refine l_l (by first | exact light_len rfl rfl | exact light_lens rfl rfl | rfl) rfl rfl ?_
  refine l_l rfl rfl rfl ?_
  refine l_x (x_val call_75 rfl (fun w hw => stablenil_fn w)) rfl rfl ?_
  rintro _ _ ⟨rfl, rfl⟩
  refine l_nil ?_
  exact l_end0 (fun _ _ => rets_none) ⟨rfl, rfl⟩

theorem sort_fn {v : Value} {n : Nat} {l : List Sp} {G : Heap} (hV : Vec 91 5 v n (flat spc l) G) (h10 : n ≤ 10) (w : World) (hG : ∀ x ∈ G, w.heap[x.1]? = some x.2) :
    Does Try.prog 60 [v, .func (.func 61) #[] #[]] w (G.map (·.1)) (fun u H => u = .tuple #[] ∧ Vec 91 5 v n (flat spc (isort l)) H) := by
  have hl := hV.len
  rw [flat_len spc_len] at hl
  generalize hx : flat spc l = xs at hV
  cases hV with
  | nil =>
    have : l = [] := List.eq_nil_of_length_eq_zero (by omega)
    subst this
    exact (sortnil_fn w).mono fun u H ⟨h1, h2⟩ => by subst h1; exact ⟨h2, .nil⟩
  | row b _ cap _ sp h1 h2 h3 h4 =>
    subst hx
    refine (sortrow_fn b n cap l sp (by omega) h10 w (hG _ (.head _))).mono fun u H ⟨h5, h6⟩ => ?_
    subst h6
    have hi := isort_len l
    have h7 := flat_len spc_len (isort l)
    have h8 := flat_len spc_len l
    exact ⟨h5, .row b n cap _ sp (by rw [h7, hi]; omega) (by rw [List.length_append, h7, hi] ; rw [List.length_append, h8] at h2; omega) h3 h4⟩

end Go.Proofs.Ytjceoaomkbabmaa
namespace Go.Proofs.Ytjceoaomkbabmaa
open Go Go.VV Go.Proofs
set_option linter.unusedSimpArgs false
set_option linter.unusedVariables false
set_option maxRecDepth 100000
theorem shadeS_fn (c cb cf cs : Int) (hc : 0 ≤ c ∧ c < 256) (hcb : 0 ≤ cb ∧ cb < 256) (hcf : 0 ≤ cf ∧ cf < 256) (hcs : 0 ≤ cs ∧ cs < 256) (a a2 : Option Addr) (cap cap2 n : Nat) (l : List Int) (hl : Byts l) (L : List Sp) (hL : L.length = n) (hok : ∀ s ∈ L, SpOk s) (h1000 : n ≤ 1000) (x line below : Int) (hb : 0 ≤ below ∧ below < 256)
    (w : World) (hB : Ns w .u8 a l) (hE : Els w spc a2 L) :
    Does Try.prog 63 [.agg #[.int .u8 c, .int .u8 cb, .int .u8 cf, .int .u8 cs], .slice a l.length cap, .slice a2 n cap2, .int .i64 x, .int .i64 line, .int .u8 below] w [] (fun v H => H = [] ∧ v = .int .u8 (seenS l c cb cf cs x line below (L.find? (hit l c x line)))) := by
  refine does_of Try.func63 rfl rfl rfl (St.refl w) ?_
  refine c_seq ?_
  refine c_region ?_
  refine l_x (x_box rfl rfl) rfl rfl ?_
  rintro _ _ ⟨b6, rfl, rfl⟩
  refine l_l rfl rfl rfl ?_
  refine l_nil ?_
  refine c_seq ?_
  refine c_seq ?_
  refine c_region ?_
  refine l_l rfl rfl rfl ?_
  refine l_l (by first | exact light_len rfl rfl | exact light_lens rfl rfl | rfl) rfl rfl ?_
  refine l_l rfl rfl rfl ?_
  refine l_nil ?_
  refine c_block ?_
  refine c_loop (σ := Nat) [12, 14, 15, 18, 19, 20, 21, 22, 23, 24, 25, 26, 27, 28, 29, 30, 31, 32, 33, 34, 35, 36, 37, 38, 39, 40, 41, 42, 43, 44, 45, 46, 47, 48, 49, 50, 51, 52, 53, 54, 55, 56, 57, 58] (fun k => [(18, .int .i64 k)]) (fun _ => [(b6, blk [.int .u8 c, .int .u8 cb, .int .u8 cf, .int .u8 cs] 74)]) (fun k => k ≤ n ∧ (L.take k).find? (hit l c x line) = none) (fun k => n - k) 0 ?_ ?_ ?_ ?_
  · exact ⟨Nat.zero_le _, rfl⟩
  · exact .cons rfl .nil
  · exact fun _ h => h
  · rintro k y ⟨hk, hk2⟩
    refine c_seq ?_
    refine c_region ?_
    refine l_l rfl rfl rfl ?_
    refine l_nil ?_
    refine c_seq ?_
    refine c_cond rfl (fun h1 => ?_) (fun h1 => ?_)
    · refine c_skip ?_
      refine c_seq ?_
      refine c_block ?_
      refine c_seq ?_
      have hkn : k < n := by simp at *; omega
      obtain ⟨b, off, rfl, hr⟩ := hE.row (i := k) (by omega)
      obtain ⟨s, hs⟩ : ∃ s, L[k]? = some s := ⟨_, List.getElem?_eq_getElem (by omega)⟩
      have hso := hok s (List.mem_of_getElem? hs)
      refine c_region ?_
      refine l_l (idx_slice (s := 5) k rfl rfl rfl rfl hkn) rfl rfl ?_
      refine l_x (x_loadA rfl rfl rfl (row_old (hr.nth' spc_len hs) (by simp))) rfl rfl ?_
      rintro _ _ ⟨rfl, rfl⟩
      refine l_x (x_alloc rfl) rfl rfl ?_
      rintro _ _ ⟨b14, rfl, rfl⟩
      refine l_x (by first | exact x_store 0 rfl rfl rfl rfl rfl rfl (by first | rfl | exact Nat.le_of_ble_eq_true rfl | (simp; done)) | exact x_store 1 rfl rfl rfl rfl rfl rfl (by first | rfl | exact Nat.le_of_ble_eq_true rfl | (simp; done)) | exact x_store 2 rfl rfl rfl rfl rfl rfl (by first | rfl | exact Nat.le_of_ble_eq_true rfl | (simp; done)) | exact x_store 3 rfl rfl rfl rfl rfl rfl (by first | rfl | exact Nat.le_of_ble_eq_true rfl | (simp; done))) rfl rfl ?_
      rintro _ _ ⟨rfl, rfl⟩
      refine l_nil ?_
      refine c_seq ?_
      refine c_region ?_
      refine l_x (x_loadA rfl rfl rfl (by first | exact row_own (by repeat (first | exact .head _ | refine .tail _ ?_ | refine List.mem_append_right _ ?_)) | exact row_own_at (by repeat (first | exact .head _ | refine .tail _ ?_ | refine List.mem_append_right _ ?_)) _ 4 rfl)) rfl rfl ?_
      rintro _ _ ⟨rfl, rfl⟩
      refine l_l rfl rfl rfl ?_
      refine l_x (x_loadA rfl rfl rfl (by first | exact row_own (by repeat (first | exact .head _ | refine .tail _ ?_ | refine List.mem_append_right _ ?_)) | exact row_own_at (by repeat (first | exact .head _ | refine .tail _ ?_ | refine List.mem_append_right _ ?_)) _ 5 rfl)) rfl rfl ?_
      rintro _ _ ⟨rfl, rfl⟩
      refine l_l rfl rfl rfl ?_
      refine l_l rfl rfl rfl ?_
      refine l_x (x_val call_77 rfl (fun w hw => sdot_fn c cb cf cs hc _ _ l hl s.n s.y s.x s.t s.h x line hso.1 hso.2.1 hso.2.2.1 hso.2.2.2 w (hB.later0 hw))) rfl rfl ?_
      rintro _ _ ⟨rfl, rfl⟩
      refine l_l rfl rfl rfl ?_
      refine l_nil ?_
      refine c_seq ?_
      refine c_block ?_
      refine c_seq ?_
      refine c_region ?_
      refine l_l rfl rfl rfl ?_
      refine l_l rfl rfl rfl ?_
      refine l_l rfl rfl rfl ?_
      refine l_nil ?_
      refine c_cond rfl (fun h2 => ?_) (fun h2 => ?_)
      · refine c_exit rfl ?_
        refine c_region ?_
        refine l_l rfl rfl rfl ?_
        refine l_l rfl rfl rfl ?_
        refine l_nil ?_
        exact ⟨k + 1, ⟨by omega, find_on hk2 hs (by have h0 := h2; simp at h0; simp [hit, h0])⟩, by omega, .cons (congrArg _ (succ_law (by omega))) .nil, (by repeat (first | exact Agree.refl _ _ | exact Agree.mix rfl | refine Agree.put rfl ?_ | refine Agree.keep rfl ?_)), (fun _ h => h.sub (by first | exact List.Sublist.refl _ | exact (List.Sublist.refl _).append (List.sublist_append_right _ _) | exact List.sublist_append_right _ _ | exact List.sublist_cons_self _ _))⟩
      · refine c_seq ?_
        refine c_region ?_
        refine l_l (light_fa rfl rfl) rfl rfl ?_
        refine l_x (x_load rfl rfl (at_own (by repeat (first | exact .head _ | refine .tail _ ?_ | refine List.mem_append_right _ ?_)) (by rfl))) rfl rfl ?_
        rintro _ _ ⟨rfl, rfl⟩
        refine l_l rfl rfl rfl ?_
        refine l_l rfl rfl rfl ?_
        refine l_b rfl rfl rfl (fun h3 => ?_) (fun h3 => ?_)
        · refine l_l rfl rfl rfl ?_
          refine l_l rfl rfl rfl ?_
          refine l_l rfl rfl rfl ?_
          refine l_l rfl rfl rfl ?_
          refine l_l rfl rfl rfl ?_
          refine l_nil ?_
          refine c_cond rfl (fun h4 => ?_) (fun h4 => ?_)
          · refine c_seq ?_
            refine c_region ?_
            refine l_l (light_fa rfl rfl) rfl rfl ?_
            refine l_x (x_load rfl rfl (at_own (by repeat (first | exact .head _ | refine .tail _ ?_ | refine List.mem_append_right _ ?_)) (by rfl))) rfl rfl ?_
            rintro _ _ ⟨rfl, rfl⟩
            refine l_l rfl rfl rfl ?_
            refine l_x (x_val call_78 rfl (fun w hw => shade_fn cb _ hcb hb w)) rfl rfl ?_
            rintro _ _ ⟨rfl, rfl⟩
            refine l_l rfl rfl rfl ?_
            refine l_nil ?_
            refine c_ret ?_
            exact l_end0 (fun _ _ => rets_v rfl) ⟨rfl, (congrArg _ (shade_far hs hso hb hk2 h2 h3 h4))⟩
          · refine c_seq ?_
            refine c_region ?_
            refine l_l (light_fa rfl rfl) rfl rfl ?_
            refine l_x (x_load rfl rfl (at_own (by repeat (first | exact .head _ | refine .tail _ ?_ | refine List.mem_append_right _ ?_)) (by rfl))) rfl rfl ?_
            rintro _ _ ⟨rfl, rfl⟩
            refine l_l rfl rfl rfl ?_
            refine l_l rfl rfl rfl ?_
            refine l_l rfl rfl rfl ?_
            refine l_nil ?_
            refine c_cond rfl (fun h5 => ?_) (fun h5 => ?_)
            · refine c_seq ?_
              refine c_region ?_
              refine l_l (light_fa rfl rfl) rfl rfl ?_
              refine l_x (x_load rfl rfl (at_own (by repeat (first | exact .head _ | refine .tail _ ?_ | refine List.mem_append_right _ ?_)) (by rfl))) rfl rfl ?_
              rintro _ _ ⟨rfl, rfl⟩
              refine l_l rfl rfl rfl ?_
              refine l_x (x_val call_78 rfl (fun w hw => shade_fn cs _ hcs (sDot_four _ _ _ _ _ _ _ _) w)) rfl rfl ?_
              rintro _ _ ⟨rfl, rfl⟩
              refine l_l rfl rfl rfl ?_
              refine l_nil ?_
              refine c_ret ?_
              exact l_end0 (fun _ _ => rets_v rfl) ⟨rfl, (congrArg _ (shade_near (b4 := true) hs hso hb hk2 h2 (.inr h4) h5))⟩
            · refine c_skip ?_
              refine c_seq ?_
              refine c_region ?_
              refine l_l (light_fa rfl rfl) rfl rfl ?_
              refine l_x (x_load rfl rfl (at_own (by repeat (first | exact .head _ | refine .tail _ ?_ | refine List.mem_append_right _ ?_)) (by rfl))) rfl rfl ?_
              rintro _ _ ⟨rfl, rfl⟩
              refine l_l rfl rfl rfl ?_
              refine l_x (x_val call_78 rfl (fun w hw => shade_fn cf _ hcf (sDot_four _ _ _ _ _ _ _ _) w)) rfl rfl ?_
              rintro _ _ ⟨rfl, rfl⟩
              refine l_l rfl rfl rfl ?_
              refine l_nil ?_
              refine c_ret ?_
              exact l_end0 (fun _ _ => rets_v rfl) ⟨rfl, (congrArg _ (shade_near (b4 := false) hs hso hb hk2 h2 (.inr h4) h5))⟩
        · refine l_p rfl rfl ?_
          refine l_p rfl rfl ?_
          refine l_p rfl rfl ?_
          refine l_l rfl rfl rfl ?_
          refine l_l rfl rfl rfl ?_
          refine l_nil ?_
          refine c_false rfl ?_
          refine c_seq ?_
          refine c_region ?_
          refine l_l (light_fa rfl rfl) rfl rfl ?_
          refine l_x (x_load rfl rfl (at_own (by repeat (first | exact .head _ | refine .tail _ ?_ | refine List.mem_append_right _ ?_)) (by rfl))) rfl rfl ?_
          rintro _ _ ⟨rfl, rfl⟩
          refine l_l rfl rfl rfl ?_
          refine l_l rfl rfl rfl ?_
          refine l_l rfl rfl rfl ?_
          refine l_nil ?_
          refine c_cond rfl (fun h6 => ?_) (fun h6 => ?_)
          · refine c_seq ?_
            refine c_region ?_
            refine l_l (light_fa rfl rfl) rfl rfl ?_
            refine l_x (x_load rfl rfl (at_own (by repeat (first | exact .head _ | refine .tail _ ?_ | refine List.mem_append_right _ ?_)) (by rfl))) rfl rfl ?_
            rintro _ _ ⟨rfl, rfl⟩
            refine l_l rfl rfl rfl ?_
            refine l_x (x_val call_78 rfl (fun w hw => shade_fn cs _ hcs (sDot_four _ _ _ _ _ _ _ _) w)) rfl rfl ?_
            rintro _ _ ⟨rfl, rfl⟩
            refine l_l rfl rfl rfl ?_
            refine l_nil ?_
            refine c_ret ?_
            exact l_end0 (fun _ _ => rets_v rfl) ⟨rfl, (congrArg _ (shade_near (b4 := true) hs hso hb hk2 h2 (.inl h3) h6))⟩
          · refine c_skip ?_
            refine c_seq ?_
            refine c_region ?_
            refine l_l (light_fa rfl rfl) rfl rfl ?_
            refine l_x (x_load rfl rfl (at_own (by repeat (first | exact .head _ | refine .tail _ ?_ | refine List.mem_append_right _ ?_)) (by rfl))) rfl rfl ?_
            rintro _ _ ⟨rfl, rfl⟩
            refine l_l rfl rfl rfl ?_
            refine l_x (x_val call_78 rfl (fun w hw => shade_fn cf _ hcf (sDot_four _ _ _ _ _ _ _ _) w)) rfl rfl ?_
            rintro _ _ ⟨rfl, rfl⟩
            refine l_l rfl rfl rfl ?_
            refine l_nil ?_
            refine c_ret ?_
            exact l_end0 (fun _ _ => rets_v rfl) ⟨rfl, (congrArg _ (shade_near (b4 := false) hs hso hb hk2 h2 (.inl h3) h6))⟩
    · refine c_exit rfl ?_
      refine c_seq ?_
      refine c_region ?_
      refine l_l (light_fa rfl rfl) rfl rfl ?_
      refine l_x (x_load rfl rfl (at_own (by repeat (first | exact .head _ | refine .tail _ ?_ | refine List.mem_append_right _ ?_)) (by rfl))) rfl rfl ?_
      rintro _ _ ⟨rfl, rfl⟩
      refine l_l rfl rfl rfl ?_
      refine l_x (x_val call_78 rfl (fun w hw => shade_fn cb _ hcb hb w)) rfl rfl ?_
      rintro _ _ ⟨rfl, rfl⟩
      refine l_l rfl rfl rfl ?_
      refine l_nil ?_
      refine c_ret ?_
      exact l_end0 (fun _ _ => rets_v rfl) ⟨rfl, (congrArg _ (shade_none (k := k) (by simp at *; omega) hk2))⟩

set_option maxRecDepth 100000 in
theorem line_fn (c cb cf cs : Int) (hc : 0 ≤ c ∧ c < 256) (hcb : 0 ≤ cb ∧ cb < 256) (hcf : 0 ≤ cf ∧ cf < 256) (hcs : 0 ≤ cs ∧ cs < 256) (a a2 : Option Addr) (cap cap2 : Nat) (l oam : List Int) (hl : Byts l) (ho : Byts oam) (hcap : oam.length ≤ cap2) (line : Int) (bl : List Int) (hbl : bl.length = 160) (hbb : Byts bl)
    (w : World) (hB : Ns w .u8 a l) (hO : Ns w .u8 a2 oam) :
    Does Try.prog 47 [.agg #[.int .u8 c, .int .u8 cb, .int .u8 cf, .int .u8 cs], .slice a l.length cap, .slice a2 oam.length cap2, .int .i64 line, .agg (bl.map (.int .u8)).toArray] w [] (fun v H => H = [] ∧ v = .agg (lineL l oam c cb cf cs line bl).toArray) := by
  refine does_of Try.func47 rfl rfl rfl (St.refl w) ?_
  refine c_seq ?_
  refine c_region ?_
  refine l_x (x_box rfl rfl) rfl rfl ?_
  rintro _ _ ⟨b5, rfl, rfl⟩
  refine l_x (x_box (l := bl.map (.int .u8)) rfl rfl) rfl rfl ?_
  rintro _ _ ⟨b9, rfl, rfl⟩
  refine l_x (x_alloc (l := List.replicate 160 (.int .u8 0)) (by kernel_rfl)) rfl rfl ?_
  rintro _ _ ⟨b10, rfl, rfl⟩
  refine l_nil ?_
  refine c_seq ?_
  refine c_region ?_
  refine l_l rfl rfl rfl ?_
  refine l_nil ?_
  refine c_cut (σ := Value × Heap) [11, 13, 16, 17, 18, 19, 20, 21, 22, 23, 24, 25, 26, 27, 28, 29, 30, 31, 32, 33, 34, 35] (fun s => [(11, s.1)]) (fun s => s.2 ++ [(b10, blk (List.replicate 160 (.int .u8 0)) 43), (b9, blk (bl.map (.int .u8)) 43), (b5, blk [.int .u8 c, .int .u8 cb, .int .u8 cf, .int .u8 cs] 74)]) (fun s => Vec 91 5 s.1 (shownS oam c line).length (flat spc (shownS oam c line)) s.2) ?_ ?_
  · refine c_seq ?_
    refine c_region ?_
    refine l_l (light_fa rfl rfl) rfl rfl ?_
    refine l_x (x_load rfl rfl (at_own (by repeat (first | exact .head _ | refine .tail _ ?_ | refine List.mem_append_right _ ?_)) (by rfl))) rfl rfl ?_
    rintro _ _ ⟨rfl, rfl⟩
    refine l_l rfl rfl rfl ?_
    refine l_l rfl rfl rfl ?_
    refine l_nil ?_
    refine c_cond rfl (fun h1 => ?_) (fun h1 => ?_)
    · refine c_seq ?_
      refine c_region ?_
      refine l_x (x_loadA rfl rfl rfl (by first | exact row_own (by repeat (first | exact .head _ | refine .tail _ ?_ | refine List.mem_append_right _ ?_)) | exact row_own_at (by repeat (first | exact .head _ | refine .tail _ ?_ | refine List.mem_append_right _ ?_)) _ 4 rfl)) rfl rfl ?_
      rintro _ _ ⟨rfl, rfl⟩
      refine l_l rfl rfl rfl ?_
      refine l_l rfl rfl rfl ?_
      refine l_x (x_call call_58 rfl (fun w hw => scan_fn c cb cf cs hc _ _ oam ho line hcap w (hO.later0 hw))) rfl rfl ?_
      rintro _ _ ⟨G23, ⟨a23, c23, rfl, hc23, hL23⟩, rfl⟩
      refine l_l (by first | exact light_len rfl rfl | exact light_lens rfl rfl | rfl) rfl rfl ?_
      refine l_l rfl rfl rfl ?_
      refine l_nil ?_
      refine c_block ?_
      refine c_loop (σ := Nat × Value × Heap) [11, 13, 25, 26, 27, 28, 29, 30, 31, 32, 33, 34, 35] (fun s => [(11, s.2.1), (25, .int .i64 s.1)]) (fun s => s.2.2 ++ (G23 ++ [(b10, blk (List.replicate 160 (.int .u8 0)) 43), (b9, blk (bl.map (.int .u8)) 43), (b5, blk [.int .u8 c, .int .u8 cb, .int .u8 cf, .int .u8 cs] 74)])) (fun s => s.1 ≤ (scan oam c line).length ∧ Vec 91 5 s.2.1 s.1 (flat spc (((scan oam c line).take s.1).map (sp oam))) s.2.2) (fun s => (scan oam c line).length - s.1) (0, .slice none 0 0, []) ?_ ?_ ?_ ?_
      · exact ⟨Nat.zero_le _, .nil⟩
      · exact .cons rfl (.cons rfl .nil)
      · exact fun _ h => h
      · rintro ⟨k, v, G⟩ y ⟨hk, hV⟩
        simp only at hk hV ⊢
        have h10 := scan_ten oam c line
        refine c_seq ?_
        refine c_region ?_
        refine l_l rfl rfl rfl ?_
        refine l_nil ?_
        refine c_seq ?_
        refine c_cond rfl (fun h2 => ?_) (fun h2 => ?_)
        · refine c_skip ?_
          refine c_seq ?_
          refine c_block ?_
          refine c_seq ?_
          have hkn : k < (scan oam c line).length := by simp at *; omega
          obtain ⟨b, off, rfl, hr⟩ := hL23.row (i := k) hkn
          refine c_region ?_
          refine l_l (idx_slice1 k rfl rfl rfl rfl hkn) rfl rfl ?_
          refine l_x (x_load rfl rfl (at_gives hr (by intro x hx; simp [hx]) hkn)) rfl rfl ?_
          rintro _ _ ⟨rfl, rfl⟩
          refine l_l rfl rfl rfl ?_
          refine l_nil ?_
          refine c_region ?_
          refine l_mv (v := v) rfl rfl rfl ?_
          refine l_l rfl rfl rfl ?_
          refine l_l rfl rfl rfl ?_
          refine l_x (x_val call_59 rfl (fun w hw => of_fn _ _ oam ho _ (scan_range _ (getD_mem hkn)) hcap w (hO.later0 hw))) rfl rfl ?_
          rintro _ _ ⟨rfl, rfl⟩
          refine l_x (x_slc rfl rfl rfl rfl rfl rfl) rfl rfl ?_
          rintro _ _ ⟨b33, rfl, rfl⟩
          refine l_x (x_append (A := [_]) (G := G) (R := _) (v := v) (m := 1) (by_ := 40) rfl rfl rfl rfl hV (fun w hw => .row _ _ _ _ _ rfl (row_own (.head _) w hw)) rfl (by omega) (by omega)) rfl rfl ?_
          rintro v34 _ ⟨G', hV', hnil, rfl⟩
          refine l_as' (v := v34) rfl rfl rfl ?_
          refine l_nil ?_
          refine c_region ?_
          refine l_l rfl rfl rfl ?_
          refine l_l rfl rfl rfl ?_
          refine l_nil ?_
          exact ⟨(k + 1, v34, G'), ⟨by omega, by rw [flat_next hkn]; exact hV'⟩, by omega, .cons rfl (.cons (congrArg _ (succ_law (by omega))) .nil), (by repeat (first | exact Agree.refl _ _ | exact Agree.mix rfl | refine Agree.put rfl ?_ | refine Agree.keep rfl ?_)), (fun _ h => h.sub (by first | exact List.Sublist.refl _ | exact (List.Sublist.refl _).append (List.sublist_append_right _ _) | exact List.sublist_append_right _ _ | exact List.sublist_cons_self _ _))⟩
        · refine c_exit rfl ?_
          obtain rfl : k = (scan oam c line).length := by simp at *; omega
          exact ⟨(v, G), by rw [shown_yes hc h1, List.length_map]; rw [List.take_length] at hV; exact hV, .cons rfl .nil, (by repeat (first | exact Agree.refl _ _ | exact Agree.mix rfl | refine Agree.put rfl ?_ | refine Agree.keep rfl ?_)), fun w h => h.sub ((List.Sublist.refl _).append (List.sublist_append_right _ _))⟩
    · refine c_skip ?_
      exact ⟨(.slice none 0 0, []), by rw [shown_no hc h1]; exact .nil, .cons rfl .nil, (by repeat (first | exact Agree.refl _ _ | exact Agree.mix rfl | refine Agree.put rfl ?_ | refine Agree.keep rfl ?_)), fun w h => h⟩
  · rintro ⟨v, G⟩ y2 hV
    simp only at hV ⊢
    obtain ⟨a11, c11, rfl⟩ := hV.slice
    refine c_seq ?_
    refine c_region ?_
    refine l_l rfl rfl rfl ?_
    refine l_x (x_callF (A := G) (G := _) (G.map (·.1)) call_60 rfl (fun b h => mem_fst h) (fun w hw => sort_fn hV (shown_ten oam c line) w (fun x hx => hw.holds x (by simp [hx])))) rfl rfl ?_
    rintro _ _ ⟨G', ⟨rfl, hV'⟩, rfl⟩
    obtain ⟨a1', c1', he, hn11, hc11, hE⟩ := hV'.gives spc_len (by decide)
    cases he
    refine l_nil ?_
    refine c_seq ?_
    refine c_heap (fun w h => h.perm List.perm_append_comm) ?_
    refine c_region ?_
    refine l_x (x_alloc (l := List.replicate 160 (.int .u8 0)) (by kernel_rfl)) rfl rfl ?_
    rintro _ _ ⟨b14, rfl, rfl⟩
    refine l_nil ?_
    refine c_seq ?_
    refine c_seq ?_
    refine c_region ?_
    refine l_l rfl rfl rfl ?_
    refine l_nil ?_
    refine c_block ?_
    refine c_loop (σ := Nat) [15, 38, 39, 40, 41, 42, 43, 44, 45, 46, 47, 48, 49, 50, 51, 52] (fun k => [(38, .int .i64 k)]) (fun k => (b14, blk (upTo .u8 (lineS l oam c cb cf cs line bl) 160 k) 43) :: ([(b10, blk (List.replicate 160 (.int .u8 0)) 43), (b9, blk (bl.map (.int .u8)) 43), (b5, blk [.int .u8 c, .int .u8 cb, .int .u8 cf, .int .u8 cs] 74)] ++ G')) (fun k => k ≤ 160) (fun k => 160 - k) 0 ?_ ?_ ?_ ?_
    · show 0 ≤ 160; omega
    · exact .cons rfl .nil
    · exact fun w h => by rw [← upTo_zero]; exact h
    · intro k y hk
      refine c_seq ?_
      refine c_region ?_
      refine l_l rfl rfl rfl ?_
      refine l_nil ?_
      refine c_seq ?_
      refine c_cond rfl (fun h3 => ?_) (fun h3 => ?_)
      · refine c_skip ?_
        refine c_seq ?_
        refine c_block ?_
        refine c_seq ?_
        refine c_region ?_
        refine l_l rfl rfl rfl ?_
        refine l_l rfl rfl rfl ?_
        refine l_nil ?_
        refine c_draw _ [2, 3, 4, 5, 6, 7, 8] (.step true 0 (.step true 1 (.step true 2 (.step true 3 (.step true 4 (.step true 5 (.step true 6 (.step true 7 (.step true 8 (.step false 9 (.step true 10 (.step false 11 .done)))))))))))) rfl (by kernel_rfl) (by kernel_rfl) (fun _ h => h) ?_
        refine d_light rfl rfl rfl rfl rfl ?_
        refine d_loadA rfl rfl rfl rfl (by first | exact srow_own (by repeat (first | exact .head _ | refine .tail _ ?_ | refine List.mem_append_right _ ?_)) | exact srow_own_at (by repeat (first | exact .head _ | refine .tail _ ?_ | refine List.mem_append_right _ ?_)) _ 4 rfl) rfl rfl ?_
        refine d_light rfl rfl rfl rfl rfl ?_
        refine d_light rfl rfl rfl rfl rfl ?_
        refine d_light rfl rfl rfl rfl rfl ?_
        refine d_light rfl rfl rfl rfl rfl ?_
        refine d_light rfl rfl rfl rfl rfl ?_
        refine d_light rfl (idx_array0 k rfl rfl rfl rfl (by simp at *; omega)) rfl rfl rfl ?_
        refine d_load rfl rfl rfl (s_own (.tail _ (.tail _ (.head _))) (map_get (by simp at *; omega))) rfl rfl ?_
        refine d_x rfl (x_val call_63 rfl (fun w hw => shadeS_fn c cb cf cs hc hcb hcf hcs _ _ _ _ _ l hl (isort (shownS oam c line)) hn11 (shown_ok ho c line) (by have := shown_ten oam c line; omega) (k : Int) line _ (hbb.get k) w (hB.later0 hw) (hE.els hw (by intro x hx; simp [hx])))) rfl rfl (by intro h; cases h) ?_
        rintro _ _ ⟨rfl, rfl⟩
        refine d_light rfl (idx_array0 k rfl rfl rfl rfl (by simp at *; omega)) rfl rfl rfl ?_
        refine d_x rfl (x_store 0 rfl rfl rfl rfl rfl rfl (by rw [upTo_len (by simp at *; omega)]; simp at *; omega)) rfl rfl (by intro h; cases h) ?_
        rintro _ _ ⟨rfl, rfl⟩
        rw [List.set_cons_zero, upTo_put (f := lineS l oam c cb cf cs line bl) (by simp at *; omega) (seenS l c cb cf cs (k : Int) line (bl.getD k 0) ((isort (shownS oam c line)).find? (hit l c (k : Int) line))) rfl]
        refine d_nil ?_
        refine c_region ?_
        refine l_l rfl rfl rfl ?_
        refine l_l rfl rfl rfl ?_
        refine l_nil ?_
        exact ⟨k + 1, by simp at *; omega, by simp at *; omega, .cons (congrArg _ (succ_law (by omega))) .nil, (by repeat (first | exact Agree.refl _ _ | exact Agree.mix rfl | refine Agree.put rfl ?_ | refine Agree.keep rfl ?_)), fun _ h => h⟩
      · refine c_exit rfl ?_
        refine c_seq ?_
        obtain rfl : k = 160 := by simp at *; omega
        refine c_region ?_
        refine l_x (x_loadA rfl rfl (by rw [upTo_len (Nat.le_refl _)]; rfl) (row_own (.head _))) rfl rfl ?_
        rintro _ _ ⟨rfl, rfl⟩
        refine l_x (x_store (vs := (upTo .u8 (lineS l oam c cb cf cs line bl) 160 160)) (l := List.replicate 160 (.int .u8 0)) 1 rfl rfl rfl (by rw [upTo_len (Nat.le_refl _)]; rfl) (upTo_ones _ _ _ _) rfl (by rw [upTo_len (Nat.le_refl _)]; simp)) rfl rfl ?_
        rintro _ _ ⟨rfl, rfl⟩
        rw [putL_all (by rw [upTo_len (Nat.le_refl _)]; simp)]
        refine l_nil ?_
        refine c_ret ?_
        exact l_end0 (fun w hw => rets_cell (l := (upTo .u8 (lineS l oam c cb cf cs line bl) 160 160)) rfl rfl (by rw [upTo_len (Nat.le_refl _)]; rfl) (row_own (.tail _ (.head _)) w hw)) ⟨rfl, by rw [upTo_all]; rfl⟩

end Go.Proofs.Ytjceoaomkbabmaa
