/- The words of orders. -/
import Derived.Test.YtmihilhmdcndfaaOpsA
import Derived.Test.YtmihilhmdcndfaaProg
import Derived.Test.YtmihilhmdcndfaaCalls
namespace Go.Proofs.Ytmihilhmdcndfaa
open Go Go.VV Go.Proofs
set_option linter.unusedSimpArgs false
set_option linter.unusedVariables false
set_option maxRecDepth 100000
theorem pick_fn (n : Int) (ws : List (List UInt8)) (a : Option Addr) (c : Nat) (hl : ws.length < 1000000) (w : World) (hE : Els w cW a ws) :
    Does Try.prog 24 [.int .i64 n, .slice a ws.length c] w [] (fun v H => H = [] ∧ v = .string (bs (pickL n ws))) := by
  refine does_of Try.func24 rfl rfl rfl (St.refl w) ?_
  refine c_seq ?_
  refine c_region ?_
  refine l_l rfl rfl rfl ?_
  refine l_nil ?_
  refine c_seq ?_
  refine c_seq ?_
  refine c_region ?_
  refine l_l rfl rfl rfl ?_
  refine l_l rfl rfl rfl ?_
  refine l_b rfl rfl rfl (fun h1 => ?_) (fun h1 => ?_)
  · refine l_p rfl rfl ?_
    refine l_p rfl rfl ?_
    refine l_p rfl rfl ?_
    refine l_p rfl rfl ?_
    refine l_l rfl rfl rfl ?_
    refine l_nil ?_
    refine c_true rfl ?_
    refine c_seq ?_
    refine c_region ?_
    refine l_l rfl rfl rfl ?_
    refine l_nil ?_
    refine c_ret ?_
    exact l_end0 (fun _ _ => rets_v rfl) ⟨rfl, congrArg (fun l => Value.string (bs l)) (pick_no (by (try simp only [decide_eq_true_eq, decide_eq_false_iff_not, beq_iff_eq, beq_eq_false_iff_ne, bne_iff_ne, bne_eq_false_iff_eq, ne_eq] at *); omega)).symm⟩
  · refine l_l rfl rfl rfl ?_
    refine l_l rfl rfl rfl ?_
    refine l_l (by first | exact light_len rfl rfl | exact light_lens rfl rfl | rfl) rfl rfl ?_
    refine l_l rfl rfl rfl ?_
    refine l_l rfl rfl rfl ?_
    refine l_nil ?_
    refine c_cond rfl (fun h2 => ?_) (fun h2 => ?_)
    · refine c_seq ?_
      refine c_region ?_
      refine l_l rfl rfl rfl ?_
      refine l_nil ?_
      refine c_ret ?_
      exact l_end0 (fun _ _ => rets_v rfl) ⟨rfl, congrArg (fun l => Value.string (bs l)) (pick_no (by (try simp only [decide_eq_true_eq, decide_eq_false_iff_not, beq_iff_eq, beq_eq_false_iff_ne, bne_iff_ne, bne_eq_false_iff_eq, ne_eq] at *); omega)).symm⟩
    · refine c_skip ?_
      refine c_seq ?_
      obtain ⟨m, rfl⟩ : ∃ m : Nat, n = m := ⟨n.toNat, by (try simp only [decide_eq_true_eq, decide_eq_false_iff_not, beq_iff_eq, beq_eq_false_iff_ne, bne_iff_ne, bne_eq_false_iff_eq, ne_eq] at *); omega⟩
      obtain ⟨s, hs⟩ : ∃ s, ws[m]? = some s := ⟨_, get_some (by (try simp only [decide_eq_true_eq, decide_eq_false_iff_not, beq_iff_eq, beq_eq_false_iff_ne, bne_iff_ne, bne_eq_false_iff_eq, ne_eq] at *); omega)⟩
      obtain ⟨b9, o9, rfl, hr9⟩ := hE.row (i := m) (by (try simp only [decide_eq_true_eq, decide_eq_false_iff_not, beq_iff_eq, beq_eq_false_iff_ne, bne_iff_ne, bne_eq_false_iff_eq, ne_eq] at *); omega)
      refine c_region ?_
      refine l_l rfl rfl rfl ?_
      refine l_l rfl rfl rfl ?_
      refine l_l (idx_slice (s := 1) m rfl rfl rfl rfl (by (try simp only [decide_eq_true_eq, decide_eq_false_iff_not, beq_iff_eq, beq_eq_false_iff_ne, bne_iff_ne, bne_eq_false_iff_eq, ne_eq] at *); omega)) rfl rfl ?_
      refine l_x (x_load rfl rfl (fun w hw => (row_old hr9 (by simp) w hw).at cW_len hs 0 rfl)) rfl rfl ?_
      rintro _ _ ⟨rfl, rfl⟩
      refine l_l rfl rfl rfl ?_
      refine l_nil ?_
      refine c_ret ?_
      exact l_end0 (fun _ _ => rets_v rfl) ⟨rfl, congrArg (fun l => Value.string (bs l)) (pick_at rfl hs).symm⟩

theorem one_fn (n : Int) (w : World) :
    Does Try.prog 21 [.int .i64 n] w [] (fun v H => H = [] ∧ v = .string (bs (pickL n oneW))) := by
  refine does_of Try.func21 rfl rfl rfl (St.refl w) ?_
  refine c_seq ?_
  refine c_region ?_
  refine l_l rfl rfl rfl ?_
  refine l_nil ?_
  refine c_seq ?_
  refine c_region ?_
  refine l_l rfl rfl rfl ?_
  refine l_x (x_slc (z := [.string (bs [])]) (l := [.string (bs [98]), .string (bs [99]), .string (bs [100]), .string (bs [101]), .string (bs [104]), .string (bs [108]), .string (bs [40, 104, 108, 41]), .string (bs [97])]) (ps := [(0, .string (bs [98])), (1, .string (bs [99])), (2, .string (bs [100])), (3, .string (bs [101])), (4, .string (bs [104])), (5, .string (bs [108])), (6, .string (bs [40, 104, 108, 41])), (7, .string (bs [97]))]) rfl rfl rfl rfl (by kernel_rfl) (by kernel_rfl)) rfl rfl ?_
  rintro _ _ ⟨b4, rfl, rfl⟩
  refine l_x (x_val call_24 rfl (fun w hw => pick_fn n oneW _ _ (by decide) w (fun _ => ⟨_, 0, rfl, row_own (by repeat (first | exact .head _ | refine .tail _ ?_ | refine List.mem_append_right _ ?_)) w hw⟩))) rfl rfl ?_
  rintro _ _ ⟨rfl, rfl⟩
  refine l_l rfl rfl rfl ?_
  refine l_nil ?_
  refine c_ret ?_
  exact l_end0 (fun _ _ => rets_v rfl) ⟨rfl, rfl⟩

theorem two_fn (n : Int) (w : World) :
    Does Try.prog 22 [.int .i64 n] w [] (fun v H => H = [] ∧ v = .string (bs (pickL n twoW))) := by
  refine does_of Try.func22 rfl rfl rfl (St.refl w) ?_
  refine c_seq ?_
  refine c_region ?_
  refine l_l rfl rfl rfl ?_
  refine l_nil ?_
  refine c_seq ?_
  refine c_region ?_
  refine l_l rfl rfl rfl ?_
  refine l_x (x_slc (z := [.string (bs [])]) (l := [.string (bs [98, 99]), .string (bs [100, 101]), .string (bs [104, 108]), .string (bs [115, 112]), .string (bs [97, 102])]) (ps := [(0, .string (bs [98, 99])), (1, .string (bs [100, 101])), (2, .string (bs [104, 108])), (3, .string (bs [115, 112])), (4, .string (bs [97, 102]))]) rfl rfl rfl rfl (by kernel_rfl) (by kernel_rfl)) rfl rfl ?_
  rintro _ _ ⟨b4, rfl, rfl⟩
  refine l_x (x_val call_24 rfl (fun w hw => pick_fn n twoW _ _ (by decide) w (fun _ => ⟨_, 0, rfl, row_own (by repeat (first | exact .head _ | refine .tail _ ?_ | refine List.mem_append_right _ ?_)) w hw⟩))) rfl rfl ?_
  rintro _ _ ⟨rfl, rfl⟩
  refine l_l rfl rfl rfl ?_
  refine l_nil ?_
  refine c_ret ?_
  exact l_end0 (fun _ _ => rets_v rfl) ⟨rfl, rfl⟩

theorem far_fn (n : Int) (w : World) :
    Does Try.prog 41 [.int .i64 n] w [] (fun v H => H = [] ∧ v = .string (bs (pickL n farW))) := by
  refine does_of Try.func41 rfl rfl rfl (St.refl w) ?_
  refine c_seq ?_
  refine c_region ?_
  refine l_l rfl rfl rfl ?_
  refine l_nil ?_
  refine c_seq ?_
  refine c_region ?_
  refine l_l rfl rfl rfl ?_
  refine l_x (x_slc (z := [.string (bs [])]) (l := [.string (bs [40, 98, 99, 41]), .string (bs [40, 100, 101, 41]), .string (bs [40, 104, 108, 43, 41]), .string (bs [40, 104, 108, 45, 41])]) (ps := [(0, .string (bs [40, 98, 99, 41])), (1, .string (bs [40, 100, 101, 41])), (2, .string (bs [40, 104, 108, 43, 41])), (3, .string (bs [40, 104, 108, 45, 41]))]) rfl rfl rfl rfl (by kernel_rfl) (by kernel_rfl)) rfl rfl ?_
  rintro _ _ ⟨b4, rfl, rfl⟩
  refine l_x (x_val call_24 rfl (fun w hw => pick_fn n farW _ _ (by decide) w (fun _ => ⟨_, 0, rfl, row_own (by repeat (first | exact .head _ | refine .tail _ ?_ | refine List.mem_append_right _ ?_)) w hw⟩))) rfl rfl ?_
  rintro _ _ ⟨rfl, rfl⟩
  refine l_l rfl rfl rfl ?_
  refine l_nil ?_
  refine c_ret ?_
  exact l_end0 (fun _ _ => rets_v rfl) ⟨rfl, rfl⟩

theorem sum_fn (n : Int) (w : World) :
    Does Try.prog 23 [.int .i64 n] w [] (fun v H => H = [] ∧ v = .string (bs (pickL n sumW))) := by
  refine does_of Try.func23 rfl rfl rfl (St.refl w) ?_
  refine c_seq ?_
  refine c_region ?_
  refine l_l rfl rfl rfl ?_
  refine l_nil ?_
  refine c_seq ?_
  refine c_region ?_
  refine l_l rfl rfl rfl ?_
  refine l_x (x_slc (z := [.string (bs [])]) (l := [.string (bs [97, 100, 100]), .string (bs [97, 100, 99]), .string (bs [115, 117, 98]), .string (bs [115, 98, 99]), .string (bs [97, 110, 100]), .string (bs [120, 111, 114]), .string (bs [111, 114]), .string (bs [99, 112])]) (ps := [(0, .string (bs [97, 100, 100])), (1, .string (bs [97, 100, 99])), (2, .string (bs [115, 117, 98])), (3, .string (bs [115, 98, 99])), (4, .string (bs [97, 110, 100])), (5, .string (bs [120, 111, 114])), (6, .string (bs [111, 114])), (7, .string (bs [99, 112]))]) rfl rfl rfl rfl (by kernel_rfl) (by kernel_rfl)) rfl rfl ?_
  rintro _ _ ⟨b4, rfl, rfl⟩
  refine l_x (x_val call_24 rfl (fun w hw => pick_fn n sumW _ _ (by decide) w (fun _ => ⟨_, 0, rfl, row_own (by repeat (first | exact .head _ | refine .tail _ ?_ | refine List.mem_append_right _ ?_)) w hw⟩))) rfl rfl ?_
  rintro _ _ ⟨rfl, rfl⟩
  refine l_l rfl rfl rfl ?_
  refine l_nil ?_
  refine c_ret ?_
  exact l_end0 (fun _ _ => rets_v rfl) ⟨rfl, rfl⟩

theorem bit_fn (n : Int) (w : World) :
    Does Try.prog 42 [.int .i64 n] w [] (fun v H => H = [] ∧ v = .string (bs (pickL n bitW))) := by
  refine does_of Try.func42 rfl rfl rfl (St.refl w) ?_
  refine c_seq ?_
  refine c_region ?_
  refine l_l rfl rfl rfl ?_
  refine l_nil ?_
  refine c_seq ?_
  refine c_region ?_
  refine l_l rfl rfl rfl ?_
  refine l_x (x_slc (z := [.string (bs [])]) (l := [.string (bs [48]), .string (bs [49]), .string (bs [50]), .string (bs [51]), .string (bs [52]), .string (bs [53]), .string (bs [54]), .string (bs [55])]) (ps := [(0, .string (bs [48])), (1, .string (bs [49])), (2, .string (bs [50])), (3, .string (bs [51])), (4, .string (bs [52])), (5, .string (bs [53])), (6, .string (bs [54])), (7, .string (bs [55]))]) rfl rfl rfl rfl (by kernel_rfl) (by kernel_rfl)) rfl rfl ?_
  rintro _ _ ⟨b4, rfl, rfl⟩
  refine l_x (x_val call_24 rfl (fun w hw => pick_fn n bitW _ _ (by decide) w (fun _ => ⟨_, 0, rfl, row_own (by repeat (first | exact .head _ | refine .tail _ ?_ | refine List.mem_append_right _ ?_)) w hw⟩))) rfl rfl ?_
  rintro _ _ ⟨rfl, rfl⟩
  refine l_l rfl rfl rfl ?_
  refine l_nil ?_
  refine c_ret ?_
  exact l_end0 (fun _ _ => rets_v rfl) ⟨rfl, rfl⟩

theorem rpick_fn (n : Int) (ws : List (List UInt8)) (a : Option Addr) (c : Nat) (hl : ws.length < 1000000) (w : World) (hE : Els w cW a ws) :
    Does Try.prog 32 [.int .i64 n, .slice a ws.length c] w [] (fun v H => H = [] ∧ v = .string (bs (pickL n ws))) := by
  refine does_of Try.func32 rfl rfl rfl (St.refl w) ?_
  refine c_seq ?_
  refine c_region ?_
  refine l_l rfl rfl rfl ?_
  refine l_nil ?_
  refine c_seq ?_
  refine c_seq ?_
  refine c_region ?_
  refine l_l rfl rfl rfl ?_
  refine l_l rfl rfl rfl ?_
  refine l_b rfl rfl rfl (fun h1 => ?_) (fun h1 => ?_)
  · refine l_p rfl rfl ?_
    refine l_p rfl rfl ?_
    refine l_p rfl rfl ?_
    refine l_p rfl rfl ?_
    refine l_l rfl rfl rfl ?_
    refine l_nil ?_
    refine c_true rfl ?_
    refine c_seq ?_
    refine c_region ?_
    refine l_l rfl rfl rfl ?_
    refine l_nil ?_
    refine c_ret ?_
    exact l_end0 (fun _ _ => rets_v rfl) ⟨rfl, congrArg (fun l => Value.string (bs l)) (pick_no (by (try simp only [decide_eq_true_eq, decide_eq_false_iff_not, beq_iff_eq, beq_eq_false_iff_ne, bne_iff_ne, bne_eq_false_iff_eq, ne_eq] at *); omega)).symm⟩
  · refine l_l rfl rfl rfl ?_
    refine l_l rfl rfl rfl ?_
    refine l_l (by first | exact light_len rfl rfl | exact light_lens rfl rfl | rfl) rfl rfl ?_
    refine l_l rfl rfl rfl ?_
    refine l_l rfl rfl rfl ?_
    refine l_nil ?_
    refine c_cond rfl (fun h2 => ?_) (fun h2 => ?_)
    · refine c_seq ?_
      refine c_region ?_
      refine l_l rfl rfl rfl ?_
      refine l_nil ?_
      refine c_ret ?_
      exact l_end0 (fun _ _ => rets_v rfl) ⟨rfl, congrArg (fun l => Value.string (bs l)) (pick_no (by (try simp only [decide_eq_true_eq, decide_eq_false_iff_not, beq_iff_eq, beq_eq_false_iff_ne, bne_iff_ne, bne_eq_false_iff_eq, ne_eq] at *); omega)).symm⟩
    · refine c_skip ?_
      refine c_seq ?_
      obtain ⟨m, rfl⟩ : ∃ m : Nat, n = m := ⟨n.toNat, by (try simp only [decide_eq_true_eq, decide_eq_false_iff_not, beq_iff_eq, beq_eq_false_iff_ne, bne_iff_ne, bne_eq_false_iff_eq, ne_eq] at *); omega⟩
      obtain ⟨s, hs⟩ : ∃ s, ws[m]? = some s := ⟨_, get_some (by (try simp only [decide_eq_true_eq, decide_eq_false_iff_not, beq_iff_eq, beq_eq_false_iff_ne, bne_iff_ne, bne_eq_false_iff_eq, ne_eq] at *); omega)⟩
      obtain ⟨b9, o9, rfl, hr9⟩ := hE.row (i := m) (by (try simp only [decide_eq_true_eq, decide_eq_false_iff_not, beq_iff_eq, beq_eq_false_iff_ne, bne_iff_ne, bne_eq_false_iff_eq, ne_eq] at *); omega)
      refine c_region ?_
      refine l_l rfl rfl rfl ?_
      refine l_l rfl rfl rfl ?_
      refine l_l (idx_slice (s := 1) m rfl rfl rfl rfl (by (try simp only [decide_eq_true_eq, decide_eq_false_iff_not, beq_iff_eq, beq_eq_false_iff_ne, bne_iff_ne, bne_eq_false_iff_eq, ne_eq] at *); omega)) rfl rfl ?_
      refine l_x (x_load rfl rfl (fun w hw => (row_old hr9 (by simp) w hw).at cW_len hs 0 rfl)) rfl rfl ?_
      rintro _ _ ⟨rfl, rfl⟩
      refine l_l rfl rfl rfl ?_
      refine l_nil ?_
      refine c_ret ?_
      exact l_end0 (fun _ _ => rets_v rfl) ⟨rfl, congrArg (fun l => Value.string (bs l)) (pick_at rfl hs).symm⟩

theorem rone_fn (n : Int) (w : World) :
    Does Try.prog 28 [.int .i64 n] w [] (fun v H => H = [] ∧ v = .string (bs (pickL n oneW))) := by
  refine does_of Try.func28 rfl rfl rfl (St.refl w) ?_
  refine c_seq ?_
  refine c_region ?_
  refine l_l rfl rfl rfl ?_
  refine l_nil ?_
  refine c_seq ?_
  refine c_region ?_
  refine l_l rfl rfl rfl ?_
  refine l_x (x_slc (z := [.string (bs [])]) (l := [.string (bs [98]), .string (bs [99]), .string (bs [100]), .string (bs [101]), .string (bs [104]), .string (bs [108]), .string (bs [40, 104, 108, 41]), .string (bs [97])]) (ps := [(0, .string (bs [98])), (1, .string (bs [99])), (2, .string (bs [100])), (3, .string (bs [101])), (4, .string (bs [104])), (5, .string (bs [108])), (6, .string (bs [40, 104, 108, 41])), (7, .string (bs [97]))]) rfl rfl rfl rfl (by kernel_rfl) (by kernel_rfl)) rfl rfl ?_
  rintro _ _ ⟨b4, rfl, rfl⟩
  refine l_x (x_val call_32 rfl (fun w hw => rpick_fn n oneW _ _ (by decide) w (fun _ => ⟨_, 0, rfl, row_own (by repeat (first | exact .head _ | refine .tail _ ?_ | refine List.mem_append_right _ ?_)) w hw⟩))) rfl rfl ?_
  rintro _ _ ⟨rfl, rfl⟩
  refine l_l rfl rfl rfl ?_
  refine l_nil ?_
  refine c_ret ?_
  exact l_end0 (fun _ _ => rets_v rfl) ⟨rfl, rfl⟩

theorem rtwo_fn (n : Int) (w : World) :
    Does Try.prog 29 [.int .i64 n] w [] (fun v H => H = [] ∧ v = .string (bs (pickL n twoW))) := by
  refine does_of Try.func29 rfl rfl rfl (St.refl w) ?_
  refine c_seq ?_
  refine c_region ?_
  refine l_l rfl rfl rfl ?_
  refine l_nil ?_
  refine c_seq ?_
  refine c_region ?_
  refine l_l rfl rfl rfl ?_
  refine l_x (x_slc (z := [.string (bs [])]) (l := [.string (bs [98, 99]), .string (bs [100, 101]), .string (bs [104, 108]), .string (bs [115, 112]), .string (bs [97, 102])]) (ps := [(0, .string (bs [98, 99])), (1, .string (bs [100, 101])), (2, .string (bs [104, 108])), (3, .string (bs [115, 112])), (4, .string (bs [97, 102]))]) rfl rfl rfl rfl (by kernel_rfl) (by kernel_rfl)) rfl rfl ?_
  rintro _ _ ⟨b4, rfl, rfl⟩
  refine l_x (x_val call_32 rfl (fun w hw => rpick_fn n twoW _ _ (by decide) w (fun _ => ⟨_, 0, rfl, row_own (by repeat (first | exact .head _ | refine .tail _ ?_ | refine List.mem_append_right _ ?_)) w hw⟩))) rfl rfl ?_
  rintro _ _ ⟨rfl, rfl⟩
  refine l_l rfl rfl rfl ?_
  refine l_nil ?_
  refine c_ret ?_
  exact l_end0 (fun _ _ => rets_v rfl) ⟨rfl, rfl⟩

theorem rfar_fn (n : Int) (w : World) :
    Does Try.prog 34 [.int .i64 n] w [] (fun v H => H = [] ∧ v = .string (bs (pickL n farW))) := by
  refine does_of Try.func34 rfl rfl rfl (St.refl w) ?_
  refine c_seq ?_
  refine c_region ?_
  refine l_l rfl rfl rfl ?_
  refine l_nil ?_
  refine c_seq ?_
  refine c_region ?_
  refine l_l rfl rfl rfl ?_
  refine l_x (x_slc (z := [.string (bs [])]) (l := [.string (bs [40, 98, 99, 41]), .string (bs [40, 100, 101, 41]), .string (bs [40, 104, 108, 43, 41]), .string (bs [40, 104, 108, 45, 41])]) (ps := [(0, .string (bs [40, 98, 99, 41])), (1, .string (bs [40, 100, 101, 41])), (2, .string (bs [40, 104, 108, 43, 41])), (3, .string (bs [40, 104, 108, 45, 41]))]) rfl rfl rfl rfl (by kernel_rfl) (by kernel_rfl)) rfl rfl ?_
  rintro _ _ ⟨b4, rfl, rfl⟩
  refine l_x (x_val call_32 rfl (fun w hw => rpick_fn n farW _ _ (by decide) w (fun _ => ⟨_, 0, rfl, row_own (by repeat (first | exact .head _ | refine .tail _ ?_ | refine List.mem_append_right _ ?_)) w hw⟩))) rfl rfl ?_
  rintro _ _ ⟨rfl, rfl⟩
  refine l_l rfl rfl rfl ?_
  refine l_nil ?_
  refine c_ret ?_
  exact l_end0 (fun _ _ => rets_v rfl) ⟨rfl, rfl⟩

theorem rsum_fn (n : Int) (w : World) :
    Does Try.prog 30 [.int .i64 n] w [] (fun v H => H = [] ∧ v = .string (bs (pickL n sumW))) := by
  refine does_of Try.func30 rfl rfl rfl (St.refl w) ?_
  refine c_seq ?_
  refine c_region ?_
  refine l_l rfl rfl rfl ?_
  refine l_nil ?_
  refine c_seq ?_
  refine c_region ?_
  refine l_l rfl rfl rfl ?_
  refine l_x (x_slc (z := [.string (bs [])]) (l := [.string (bs [97, 100, 100]), .string (bs [97, 100, 99]), .string (bs [115, 117, 98]), .string (bs [115, 98, 99]), .string (bs [97, 110, 100]), .string (bs [120, 111, 114]), .string (bs [111, 114]), .string (bs [99, 112])]) (ps := [(0, .string (bs [97, 100, 100])), (1, .string (bs [97, 100, 99])), (2, .string (bs [115, 117, 98])), (3, .string (bs [115, 98, 99])), (4, .string (bs [97, 110, 100])), (5, .string (bs [120, 111, 114])), (6, .string (bs [111, 114])), (7, .string (bs [99, 112]))]) rfl rfl rfl rfl (by kernel_rfl) (by kernel_rfl)) rfl rfl ?_
  rintro _ _ ⟨b4, rfl, rfl⟩
  refine l_x (x_val call_32 rfl (fun w hw => rpick_fn n sumW _ _ (by decide) w (fun _ => ⟨_, 0, rfl, row_own (by repeat (first | exact .head _ | refine .tail _ ?_ | refine List.mem_append_right _ ?_)) w hw⟩))) rfl rfl ?_
  rintro _ _ ⟨rfl, rfl⟩
  refine l_l rfl rfl rfl ?_
  refine l_nil ?_
  refine c_ret ?_
  exact l_end0 (fun _ _ => rets_v rfl) ⟨rfl, rfl⟩

theorem rbits_fn (n : Int) (w : World) :
    Does Try.prog 35 [.int .i64 n] w [] (fun v H => H = [] ∧ v = .string (bs (pickL n bitW))) := by
  refine does_of Try.func35 rfl rfl rfl (St.refl w) ?_
  refine c_seq ?_
  refine c_region ?_
  refine l_l rfl rfl rfl ?_
  refine l_nil ?_
  refine c_seq ?_
  refine c_region ?_
  refine l_l rfl rfl rfl ?_
  refine l_x (x_slc (z := [.string (bs [])]) (l := [.string (bs [48]), .string (bs [49]), .string (bs [50]), .string (bs [51]), .string (bs [52]), .string (bs [53]), .string (bs [54]), .string (bs [55])]) (ps := [(0, .string (bs [48])), (1, .string (bs [49])), (2, .string (bs [50])), (3, .string (bs [51])), (4, .string (bs [52])), (5, .string (bs [53])), (6, .string (bs [54])), (7, .string (bs [55]))]) rfl rfl rfl rfl (by kernel_rfl) (by kernel_rfl)) rfl rfl ?_
  rintro _ _ ⟨b4, rfl, rfl⟩
  refine l_x (x_val call_32 rfl (fun w hw => rpick_fn n bitW _ _ (by decide) w (fun _ => ⟨_, 0, rfl, row_own (by repeat (first | exact .head _ | refine .tail _ ?_ | refine List.mem_append_right _ ?_)) w hw⟩))) rfl rfl ?_
  rintro _ _ ⟨rfl, rfl⟩
  refine l_l rfl rfl rfl ?_
  refine l_nil ?_
  refine c_ret ?_
  exact l_end0 (fun _ _ => rets_v rfl) ⟨rfl, rfl⟩

theorem rturn_fn (n : Int) (w : World) :
    Does Try.prog 31 [.int .i64 n] w [] (fun v H => H = [] ∧ v = .string (bs (pickL n turnW))) := by
  refine does_of Try.func31 rfl rfl rfl (St.refl w) ?_
  refine c_seq ?_
  refine c_region ?_
  refine l_l rfl rfl rfl ?_
  refine l_nil ?_
  refine c_seq ?_
  refine c_region ?_
  refine l_l rfl rfl rfl ?_
  refine l_x (x_slc (z := [.string (bs [])]) (l := [.string (bs [114, 108, 99]), .string (bs [114, 114, 99]), .string (bs [114, 108]), .string (bs [114, 114]), .string (bs [115, 108, 97]), .string (bs [115, 114, 97]), .string (bs [115, 119, 97, 112]), .string (bs [115, 114, 108])]) (ps := [(0, .string (bs [114, 108, 99])), (1, .string (bs [114, 114, 99])), (2, .string (bs [114, 108])), (3, .string (bs [114, 114])), (4, .string (bs [115, 108, 97])), (5, .string (bs [115, 114, 97])), (6, .string (bs [115, 119, 97, 112])), (7, .string (bs [115, 114, 108]))]) rfl rfl rfl rfl (by kernel_rfl) (by kernel_rfl)) rfl rfl ?_
  rintro _ _ ⟨b4, rfl, rfl⟩
  refine l_x (x_val call_32 rfl (fun w hw => rpick_fn n turnW _ _ (by decide) w (fun _ => ⟨_, 0, rfl, row_own (by repeat (first | exact .head _ | refine .tail _ ?_ | refine List.mem_append_right _ ?_)) w hw⟩))) rfl rfl ?_
  rintro _ _ ⟨rfl, rfl⟩
  refine l_l rfl rfl rfl ?_
  refine l_nil ?_
  refine c_ret ?_
  exact l_end0 (fun _ _ => rets_v rfl) ⟨rfl, rfl⟩

end Go.Proofs.Ytmihilhmdcndfaa
