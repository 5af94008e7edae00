/- The contracts of a cycle. -/
import Derived.Test.YtldehodcfajpjaaGreatQcM
set_option linter.unusedSimpArgs false
set_option linter.unusedVariables false
set_option maxRecDepth 100000
namespace Go.Proofs.YtldehodcfajpjaaGreat
open Go Go.VV Go.Proofs
theorem of_fn (a : Option Addr) (cap : Nat) (l : List Int) (hl : Byts l) (n : Int) (hn : 0 ≤ n ∧ n < 40) (hcap : l.length ≤ cap) (w : World) (hB : Ns w .u8 a l) :
  Does Tryz.prog 365 [.slice a l.length cap, .int .i64 n] w [] (fun v H => H = [] ∧ v = .agg #[.int .i64 n, .int .i64 (oB l n 0 - 16), .int .i64 (oB l n 1 - 8), .int .i64 (oB l n 2), .int .u8 (oB l n 3)]) := by
 refine does_of Tryz.func365 rfl rfl rfl (St.refl w) ?_
 refine c_seq ?_
 refine c_region ?_
 refine RX (x_alloc rfl) rfl ?_
 rintro _ _ ⟨b4, rfl, rfl⟩
 refine l_nil ?_
 refine c_seq ?_
 refine c_region ?_
 refine RX (x_alloc rfl) rfl ?_
 rintro _ _ ⟨b5, rfl, rfl⟩
 refine l_nil ?_
 refine c_seq ?_
 refine c_seq ?_
 refine c_region ?_
 refine L_2 ?_
 rw [wrap_i64 (n := 4 * n) o_m o_m]
 refine Rl ?_
 refine l_nil ?_
 refine c_seq ?_
 refine c_region ?_
 refine L_2 ?_
 refine RY l_n rfl ?_
 refine Rl ?_
 refine l_nil ?_
 refine KC (fun h1 h1n => ?_) (fun h1 h1n => ?_)
 ·obtain ⟨b, off, rfl, hr⟩ := hB.row (i := (4 * n).toNat) y_B
  refine DR [] (pln [0, 2, 4, 6, 9]) ?_
  refine DY rfl (cut_array1 0 4 rfl rfl rfl rfl rfl rfl y_c y_c) rfl ?_
  refine D_2 ?_
  refine DY rfl (cut_slice1 (4 * n).toNat l.length rfl rfl rfl rfl (by show 4 * n = _; omega) rfl y_B hcap) rfl ?_
  refine DZ rfl (x_copy (off := 0) (dl := 4) (m := l.length - (4 * n).toNat) 0 rfl rfl rfl rfl rfl (fun w hw => .row _ _ _ _ _ y_z ((row_old hr y_z w hw).cut1 (k := l.length - (4 * n).toNat) (c := cap) y_B)) (ones_cut _ _ _ _) y_bz) rfl n_h ?_
  simp only [List.set_cons_zero, four_law hn y_B]
  refine d_nil ?_
  refine c_seq ?_
  refine c_region ?_
  refine Rl ?_
  refine RY y_dN rfl ?_
  refine L_3 ?_
  refine RY y_dU rfl ?_
  refine L_3 ?_
  refine RY y_dX rfl ?_
  refine L_2 ?_
  refine RY y_dS rfl ?_
  refine RLo ?_
  refine RS ?_
  refine RZ s_t rfl ?_
  refine l_nil ?_
  refine c_ret ?_
  exact l_end0 (fun w hw => rets_cell rfl rfl rfl (row_own m_m w hw)) ⟨rfl, of_law hl n⟩
 ·refine c_skip ?_
  refine c_seq ?_
  rw [four_none' hn y_B]
  refine c_region ?_
  refine Rl ?_
  refine RY y_dN rfl ?_
  refine L_3 ?_
  refine RY y_dU rfl ?_
  refine L_3 ?_
  refine RY y_dX rfl ?_
  refine L_2 ?_
  refine RY y_dS rfl ?_
  refine RLo ?_
  refine RS ?_
  refine RZ s_t rfl ?_
  refine l_nil ?_
  refine c_ret ?_
  exact l_end0 (fun w hw => rets_cell rfl rfl rfl (row_own m_m w hw)) ⟨rfl, of_law hl n⟩
theorem sdot_fn (c cb cf cs : Int) (hc : 0 ≤ c ∧ c < 256) (a : Option Addr) (cap : Nat) (l : List Int) (hl : Byts l) (n y x0 tile how x line : Int)
  (hy : -16 ≤ y ∧ y ≤ 240) (hx : -8 ≤ x0 ∧ x0 ≤ 248) (ht : 0 ≤ tile ∧ tile < 256) (hh : 0 ≤ how ∧ how < 256) (w : World) (hB : Ns w .u8 a l) :
  Does Tryz.prog 377 [.agg #[.int .u8 c, .int .u8 cb, .int .u8 cf, .int .u8 cs], .slice a l.length cap, .agg #[.int .i64 n, .int .i64 y, .int .i64 x0, .int .i64 tile, .int .u8 how], .int .i64 x, .int .i64 line] w [] (fun v H => H = [] ∧ v = .int .u8 (sDot l c y x0 tile how x line)) := by
 refine does_of Tryz.func377 rfl rfl rfl (St.refl w) ?_
 refine c_seq ?_
 refine c_region ?_
 refine RX (x_box rfl rfl) rfl ?_
 rintro _ _ ⟨b5, rfl, rfl⟩
 refine RX (x_box rfl rfl) rfl ?_
 rintro _ _ ⟨b7, rfl, rfl⟩
 refine Rl ?_
 refine l_nil ?_
 refine c_seq ?_
 refine c_region ?_
 refine RZ (x_loadA rfl rfl rfl y_bi) rfl ?_
 refine RLv call_374 (fun w hw => height_fn c cb cf cs hc w) ?_
 refine Rl ?_
 refine l_nil ?_
 refine c_seq ?_
 refine c_seq ?_
 refine c_region ?_
 refine L_4 ?_
 refine RLv call_373 (fun w hw => within_fn _ _ _ w) ?_
 refine Rl ?_
 refine KL (fun h1 h1n => ?_) (fun h1 h1n => ?_)
 ·refine L_6 ?_
  refine l_nil ?_
  refine c_true rfl ?_
  refine c_seq ?_
  refine c_region ?_
  refine Rl ?_
  refine l_nil ?_
  refine c_ret ?_
  exact E0 rfl ⟨rfl, congrArg _ (psdot_none hy hx y_B)⟩
 ·refine L_3 ?_
  refine RLv call_373 (fun w hw => within_fn _ _ _ w) ?_
  refine L_2 ?_
  refine l_nil ?_
  refine KC (fun h2 h2n => ?_) (fun h2 h2n => ?_)
  ·refine c_seq ?_
   refine c_region ?_
   refine Rl ?_
   refine l_nil ?_
   refine c_ret ?_
   exact E0 rfl ⟨rfl, congrArg _ (psdot_none hy hx y_B)⟩
  ·refine c_skip ?_
   refine c_seq ?_
   refine DR [4, 5, 6, 7, 8] (pln [0, 2, 4, 6, 8, 10, 12, 14, 16, 18]) ?_
   refine D_10 ?_
   refine d_nil ?_
   refine c_seq ?_
   refine c_seq ?_
   refine c_region ?_
   refine L_4 ?_
   refine l_nil ?_
   refine KC (fun h3 h3n => ?_) (fun h3 h3n => ?_)
   ·refine c_region ?_
    iterate 5 refine Rl ?_
    refine l_nil ?_
    refine c_seq ?_
    refine c_seq ?_
    refine c_region ?_
    refine L_4 ?_
    refine l_nil ?_
    refine KC (fun h4 h4n => ?_) (fun h4 h4n => ?_)
    ·refine c_region ?_
     iterate 3 refine Rl ?_
     refine l_nil ?_
     refine c_seq ?_
     refine c_region ?_
     refine L_3 ?_
     refine l_nil ?_
     refine c_seq ?_
     refine c_seq ?_
     refine c_region ?_
     refine L_2 ?_
     refine l_nil ?_
     refine KC (fun h5 h5n => ?_) (fun h5 h5n => ?_)
     ·refine c_region ?_
      iterate 6 refine Rl ?_
      refine l_nil ?_
      refine c_seq ?_
      refine c_region ?_
      iterate 4 refine Rl ?_
      refine RLv call_380 (fun w hw => dot_fn _ _ l hl _ _ _ w (hB.later0 hw)) ?_
      refine Rl ?_
      refine l_nil ?_
      refine c_ret ?_
      exact E0 rfl ⟨rfl, congrArg _ (psdot_law hy hx ht hh y_B y_B (bu := true) (bt := true) (bh := true) h3 h4 h5)⟩
     ·refine c_skip ?_
      refine c_seq ?_
      refine c_region ?_
      iterate 4 refine Rl ?_
      refine RLv call_380 (fun w hw => dot_fn _ _ l hl _ _ _ w (hB.later0 hw)) ?_
      refine Rl ?_
      refine l_nil ?_
      refine c_ret ?_
      exact E0 rfl ⟨rfl, congrArg _ (psdot_law hy hx ht hh y_B y_B (bu := true) (bt := true) (bh := false) h3 h4 h5)⟩
    ·refine c_skip ?_
     refine c_seq ?_
     refine c_region ?_
     refine L_3 ?_
     refine l_nil ?_
     refine c_seq ?_
     refine c_seq ?_
     refine c_region ?_
     refine L_2 ?_
     refine l_nil ?_
     refine KC (fun h6 h6n => ?_) (fun h6 h6n => ?_)
     ·refine c_region ?_
      iterate 6 refine Rl ?_
      refine l_nil ?_
      refine c_seq ?_
      refine c_region ?_
      iterate 4 refine Rl ?_
      refine RLv call_380 (fun w hw => dot_fn _ _ l hl _ _ _ w (hB.later0 hw)) ?_
      refine Rl ?_
      refine l_nil ?_
      refine c_ret ?_
      exact E0 rfl ⟨rfl, congrArg _ (psdot_law hy hx ht hh y_B y_B (bu := true) (bt := false) (bh := true) h3 h4 h6)⟩
     ·refine c_skip ?_
      refine c_seq ?_
      refine c_region ?_
      iterate 4 refine Rl ?_
      refine RLv call_380 (fun w hw => dot_fn _ _ l hl _ _ _ w (hB.later0 hw)) ?_
      refine Rl ?_
      refine l_nil ?_
      refine c_ret ?_
      exact E0 rfl ⟨rfl, congrArg _ (psdot_law hy hx ht hh y_B y_B (bu := true) (bt := false) (bh := false) h3 h4 h6)⟩
   ·refine c_skip ?_
    refine c_seq ?_
    refine c_seq ?_
    refine c_region ?_
    refine L_4 ?_
    refine l_nil ?_
    refine KC (fun h7 h7n => ?_) (fun h7 h7n => ?_)
    ·refine c_region ?_
     iterate 3 refine Rl ?_
     refine l_nil ?_
     refine c_seq ?_
     refine c_region ?_
     refine L_3 ?_
     refine l_nil ?_
     refine c_seq ?_
     refine c_seq ?_
     refine c_region ?_
     refine L_2 ?_
     refine l_nil ?_
     refine KC (fun h8 h8n => ?_) (fun h8 h8n => ?_)
     ·refine c_region ?_
      iterate 6 refine Rl ?_
      refine l_nil ?_
      refine c_seq ?_
      refine c_region ?_
      iterate 4 refine Rl ?_
      refine RLv call_380 (fun w hw => dot_fn _ _ l hl _ _ _ w (hB.later0 hw)) ?_
      refine Rl ?_
      refine l_nil ?_
      refine c_ret ?_
      exact E0 rfl ⟨rfl, congrArg _ (psdot_law hy hx ht hh y_B y_B (bu := false) (bt := true) (bh := true) h3 h7 h8)⟩
     ·refine c_skip ?_
      refine c_seq ?_
      refine c_region ?_
      iterate 4 refine Rl ?_
      refine RLv call_380 (fun w hw => dot_fn _ _ l hl _ _ _ w (hB.later0 hw)) ?_
      refine Rl ?_
      refine l_nil ?_
      refine c_ret ?_
      exact E0 rfl ⟨rfl, congrArg _ (psdot_law hy hx ht hh y_B y_B (bu := false) (bt := true) (bh := false) h3 h7 h8)⟩
    ·refine c_skip ?_
     refine c_seq ?_
     refine c_region ?_
     refine L_3 ?_
     refine l_nil ?_
     refine c_seq ?_
     refine c_seq ?_
     refine c_region ?_
     refine L_2 ?_
     refine l_nil ?_
     refine KC (fun h9 h9n => ?_) (fun h9 h9n => ?_)
     ·refine c_region ?_
      iterate 6 refine Rl ?_
      refine l_nil ?_
      refine c_seq ?_
      refine c_region ?_
      iterate 4 refine Rl ?_
      refine RLv call_380 (fun w hw => dot_fn _ _ l hl _ _ _ w (hB.later0 hw)) ?_
      refine Rl ?_
      refine l_nil ?_
      refine c_ret ?_
      exact E0 rfl ⟨rfl, congrArg _ (psdot_law hy hx ht hh y_B y_B (bu := false) (bt := false) (bh := true) h3 h7 h9)⟩
     ·refine c_skip ?_
      refine c_seq ?_
      refine c_region ?_
      iterate 4 refine Rl ?_
      refine RLv call_380 (fun w hw => dot_fn _ _ l hl _ _ _ w (hB.later0 hw)) ?_
      refine Rl ?_
      refine l_nil ?_
      refine c_ret ?_
      exact E0 rfl ⟨rfl, congrArg _ (psdot_law hy hx ht hh y_B y_B (bu := false) (bt := false) (bh := false) h3 h7 h9)⟩
theorem scan_fn (c cb cf cs : Int) (hc : 0 ≤ c ∧ c < 256) (a2 : Option Addr) (cap2 : Nat) (oam : List Int) (ho : Byts oam) (line : Int) (hcap : oam.length ≤ cap2) (w : World) (hO : Ns w .u8 a2 oam) :
  Does Tryz.prog 364 [.agg #[.int .u8 c, .int .u8 cb, .int .u8 cf, .int .u8 cs], .slice a2 oam.length cap2, .int .i64 line] w [] (fun v H => Lst .i64 (scan oam c line) v H) := by
 refine does_of Tryz.func364 rfl rfl rfl (St.refl w) ?_
 refine c_seq ?_
 refine c_region ?_
 refine RX (x_box rfl rfl) rfl ?_
 rintro _ _ ⟨b3, rfl, rfl⟩
 refine Rl ?_
 refine l_nil ?_
 refine c_seq ?_
 refine c_region ?_
 refine Rl ?_
 refine l_nil ?_
 refine c_seq ?_
 refine c_seq ?_
 refine c_region ?_
 refine Rl ?_
 refine l_nil ?_
 refine c_block ?_
 refine c_loop (σ := Nat × Value × Heap) [7, 8, 9, 10, 11, 12, 13, 14, 15, 16, 17, 18, 19, 20, 21, 22, 23, 24] (fun s => [(7, s.2.1), (9, .int .i64 s.1)]) (fun s => s.2.2 ++ [(b3, blk [.int .u8 c, .int .u8 cb, .int .u8 cf, .int .u8 cs] 405)]) (fun s => s.1 ≤ 40 ∧ Vec 3 1 s.2.1 (scanK oam c line s.1).length ((scanK oam c line s.1).map (.int .i64)) s.2.2) (fun s => 40 - s.1) (0, .slice none 0 0, []) ?_ ?_ ?_ ?_
 ·exact ⟨y_D, vec_zero oam c line⟩
 ·exact .cons rfl (.cons rfl .nil)
 ·exact fun _ h => h
 ·rintro ⟨k, v, G⟩ y ⟨hk, hV⟩
  have hlen := scanK_len oam c line k
  simp only at hk hV ⊢
  refine c_seq ?_
  refine c_region ?_
  refine Rl ?_
  refine l_nil ?_
  refine c_seq ?_
  refine KC (fun h1 h1n => ?_) (fun h1 h1n => ?_)
  ·refine c_skip ?_
   refine c_seq ?_
   refine c_block ?_
   refine c_seq ?_
   refine c_region ?_
   refine L_2 ?_
   refine l_nil ?_
   refine c_seq ?_
   refine DR [3, 4] (pln [0, 2, 4, 10, 7, 8, 13, 15]) ?_
   iterate 3 refine RD ?_
   refine d_loadA rfl rfl rfl rfl y_bF rfl rfl ?_
   refine DZ rfl (x_val call_365 rfl (fun w hw => of_fn _ _ oam ho k y_B hcap w (hO.later0 hw))) rfl y_b ?_
   refine DY rfl (light_fs rfl rfl rfl rfl rfl) rfl ?_
   refine DZ rfl (x_val call_374 rfl (fun w hw => height_fn c cb cf cs hc w)) rfl n_h ?_
   refine DZ rfl (x_val call_373 rfl (fun w hw => within_fn _ _ _ w)) rfl n_h ?_
   refine d_nil ?_
   refine KC (fun h2 h2n => ?_) (fun h2 h2n => ?_)
   ·refine c_region ?_
    refine l_mv (v := v) rfl rfl rfl ?_
    refine Rl ?_
    refine RX (x_slc rfl rfl rfl rfl rfl rfl) rfl ?_
    rintro _ _ ⟨b22, rfl, rfl⟩
    refine RX (x_append (A := [_]) (G := G) (R := [_]) (v := v) (m := 1) (by_ := 8) rfl rfl rfl rfl hV (fun w hw => .row _ _ _ _ _ rfl (row_own (.head _) w hw)) rfl o_m o_m) rfl ?_
    rintro v23 _ ⟨G', hV', hnil, rfl⟩
    refine l_as' (v := v23) rfl rfl rfl ?_
    refine l_nil ?_
    refine c_region ?_
    refine L_2 ?_
    refine l_nil ?_
    exact ⟨(k + 1, v23, G'), ⟨y_ew, vec_yes (has_law ho h2) hV'⟩, y_ew, .cons rfl (.cons (congrArg _ (succ_law o_m)) .nil), a_g, (fun _ h => h.sub y_P)⟩
   ·refine c_skip ?_
    refine c_region ?_
    refine L_2 ?_
    refine l_nil ?_
    exact ⟨(k + 1, v, G), ⟨y_ew, vec_no (has_law ho h2) hV⟩, y_ew, .cons rfl (.cons (congrArg _ (succ_law o_m)) .nil), a_g, (fun _ h => h.sub y_P)⟩
  ·refine c_exit rfl ?_
   refine c_seq ?_
   obtain rfl : k = 40 := by simp at *; omega
   generalize hm : (scanK oam c line 40).length = m at hV
   generalize hx : (scanK oam c line 40).map (Value.int .i64) = xs at hV
   clear hlen
   rcases hV with _ | ⟨b, n, cap, xs, sp, hn, hcc, hmx, hle⟩
   ·refine c_region ?_
    refine L_2 ?_
    refine RY l_n rfl ?_
    refine RY (light_min rfl rfl) rfl ?_
    refine L_2 ?_
    refine l_nil ?_
    refine c_ret ?_
    exact E0 rfl (scan_nil hm)
   ·refine c_region ?_
    refine L_2 ?_
    refine RY l_n rfl ?_
    refine RY (light_min rfl rfl) rfl ?_
    refine RY (cut_slice1 0 (min m 10) rfl rfl rfl rfl rfl (by show min (m : Int) 10 = _; omega) o_m o_m) rfl ?_
    refine Rl ?_
    refine l_nil ?_
    refine c_ret ?_
    exact EV rfl (List.sublist_append_left _ _) (scan_row hm hx hle)
theorem isnan_fn (x : Int) (w : World) : Does Tryz.prog 376 [.int .i64 x] w [] (fun v H => H = [] ∧ v = .bool false) := by
 refine does_of Tryz.func376 rfl rfl rfl (St.refl w) ?_
 refine ZAa ?_
 refine ZAA ?_
 refine ZCE ?_
 refine c_ret ?_
 exact E0 rfl ⟨rfl, (congrArg _ y_z)⟩
theorem compare_fn (x y : Int) (w : World) : Does Tryz.prog 368 [.int .i64 x, .int .i64 y] w [] (fun v H => H = [] ∧ v = .int .i64 (cmpI x y)) := by
 refine does_of Tryz.func368 rfl rfl rfl (St.refl w) ?_
 refine ZAa ?_
 refine ZAV ?_
 refine RLv call_376 (fun w hw => isnan_fn _ w) ?_
 refine ZEl ?_
 refine RLv call_376 (fun w hw => isnan_fn _ w) ?_
 refine ZAB ?_
 refine ZAG ?_
 refine ZAB ?_
 refine ZAK ?_
 refine ZAG ?_
 refine ZAB ?_
 refine ZAK ?_
 refine ZAG ?_
 refine ZAR ?_
 refine KC (fun q0 q0n => ?_) (fun q0 q0n => ?_)
 ·refine ZAY ?_
  exact E0 rfl ⟨rfl, (congrArg _ y_cs)⟩
 ·refine ZAx ?_
  refine ZAG ?_
  refine ZAR ?_
  refine KC (fun q1 q1n => ?_) (fun q1 q1n => ?_)
  ·refine ZAY ?_
   exact E0 rfl ⟨rfl, (congrArg _ y_cs)⟩
  ·refine ZAx ?_
   refine ZAY ?_
   exact E0 rfl ⟨rfl, (congrArg _ y_cs)⟩
theorem line1_fn (a b : Sp) (w : World) : Does Tryz.prog 367 [.agg (spc a).toArray, .agg (spc b).toArray] w [] (fun v H => H = [] ∧ v = .int .i64 (cmpI a.x b.x)) := by
 refine does_of Tryz.func367 rfl rfl rfl (St.refl w) ?_
 refine ZAA ?_
 refine RX (x_box rfl rfl) rfl ?_
 refine ZC8 fun b0 => ?_
 refine RX (x_box rfl rfl) rfl ?_
 rintro _ _ ⟨b1, rfl, rfl⟩
 refine ZAB ?_
 refine ZBl ?_
 refine RLv call_368 (fun w hw => compare_fn _ _ w) ?_
 exact ZBU
theorem ins_fn (b n cap : Nat) (l : List Sp) (sp' : List Value) (hn : l.length = n) (h10 : n ≤ 1000) (w : World) (hb : w.heap[b]? = some (blk (flat spc l ++ sp') 411)) :
  Does Tryz.prog 382 [.slice (some ⟨b, 0, none⟩) n cap, .int .i64 0, .int .i64 n, .func (.func 367) #[] #[]] w [b] (fun v H => v = .tuple #[] ∧ H = [(b, blk (flat spc (isort l) ++ sp') 411)]) := by
 refine does_of Tryz.func382 rfl rfl rfl (St.lent1 hb) ?_
 refine c_seq ?_
 refine c_region ?_
 iterate 3 refine Rl ?_
 refine l_nil ?_
 refine c_block ?_
 refine c_loop (σ := Nat) [8, 9, 12, 13, 14, 15, 16, 17, 18, 19, 20, 21, 22, 23, 24, 25, 26, 27, 28, 29, 30, 31, 32, 33, 34, 35, 36, 37, 38, 39, 40, 41, 42, 43, 44, 45, 46, 47, 48, 49, 50, 51, 52] (fun i => [(8, .int .i64 i)]) (fun i => [(b, blk (flat spc (isort (l.take i) ++ l.drop i) ++ sp') 411)]) (fun i => 1 ≤ i ∧ (i ≤ n ∨ i = 1)) (fun i => n - i) 1 ?_ ?_ ?_ ?_
 ·exact ⟨y_D, .inr rfl⟩
 ·exact .cons rfl .nil
 ·exact fun w h => by rw [isort_one]; exact h
 ·rintro i y ⟨hi1, hi2⟩
  refine c_seq ?_
  refine c_seq ?_
  refine c_region ?_
  iterate 3 refine Rl ?_
  refine l_nil ?_
  refine KC (fun h1 h1n => ?_) (fun h1 h1n => ?_)
  ·refine c_skip ?_
   refine c_seq ?_
   refine c_block ?_
   refine c_seq ?_
   have hin : i < n := by simp at *; omega
   have hlt : i < l.length := by omega
   obtain ⟨e, R, hd, hR, hI⟩ : ∃ e R, l.drop i = e :: R ∧ R = l.drop (i + 1) ∧ isort (l.take (i + 1)) = insB e (isort (l.take i)).reverse [] := ⟨l[i], l.drop (i + 1), List.drop_eq_getElem_cons hlt, rfl, isort_next hlt⟩
   have hS : (isort (l.take i)).length = i := by rw [isort_len, List.length_take]; omega
   refine c_region ?_
   refine L_2 ?_
   refine l_nil ?_
   refine c_block ?_
   refine c_loop (σ := List Sp × List Sp) [9, 18, 19, 20, 21, 22, 23, 24, 25, 26, 27, 28, 29, 30, 31, 32, 33, 34, 35, 36, 37, 38, 39, 40, 41, 42, 43, 44, 45, 46, 47, 48, 49, 50, 51, 52] (fun s => [(9, .int .i64 s.1.length)]) (fun s => [(b, blk (flat spc (s.1 ++ e :: (s.2 ++ R)) ++ sp') 411)]) (fun s => insB e s.1.reverse s.2 = insB e (isort (l.take i)).reverse [] ∧ s.1.length + s.2.length = i) (fun s => s.1.length) (isort (l.take i), []) ?_ ?_ ?_ ?_
   ·exact ⟨rfl, hS⟩
   ·exact .cons (congrArg (fun k : Nat => Value.int .i64 k) hS.symm) .nil
   ·exact fun w h => by rw [hd] at h; exact h
   ·rintro ⟨A, B⟩ y2 ⟨hI2, hAB⟩
    simp only at hI2 hAB ⊢
    refine c_seq ?_
    refine c_seq ?_
    refine DR [9, 10, 11, 12, 13] (pln [0, 2, 4, 6, 8, 10, 12, 14, 16, 18, 20, 22, 24, 26, 29, 30, 32]) ?_
    iterate 3 refine RD ?_
    refine KE (fun h2 h2n => ?_) (fun h2 h2n => ?_)
    ·obtain ⟨A', x, rfl⟩ := snoc_of (l := A) y_B
     iterate 3 refine RD ?_
     refine DY rfl (idx_slice (s := 5) (A' ++ [x]).length rfl rfl rfl rfl y_B) rfl ?_
     refine d_loadA rfl rfl rfl rfl (fun w hS => Row.elem spc_len (srow_own (.head _) w hS)) rfl rfl ?_
     refine D_2 ?_
     refine DW (v := (.int .i64 (A'.length : Int))) rfl rfl rfl (congrArg _ (pred_len y_B)) ?_
     refine DY rfl (idx_slice (s := 5) A'.length rfl rfl rfl rfl y_B) rfl ?_
     refine d_loadA rfl rfl rfl rfl (fun w hS => Row.elem2 spc_len (srow_own (.head _) w hS)) rfl rfl ?_
     refine DZ rfl (x_valV (A := []) (B := []) rfl call_367 rfl (fun w hw => line1_fn e x w)) rfl n_h ?_
     refine D_2 ?_
     refine d_nil ?_
     refine KC (fun h3 h3n => ?_) (fun h3 h3n => ?_)
     ·refine c_skip ?_
      refine c_seq ?_
      refine c_block ?_
      refine DR [10, 11, 12, 13] (pln [0, 2, 4, 6, 8, 10, 12, 14, 16, 18, 20, 22, 24, 26, 28, 31, 32, 35]) ?_
      iterate 4 refine RD ?_
      refine DW (v := (.int .i64 (A'.length : Int))) rfl rfl rfl (congrArg _ (pred_len y_B)) ?_
      refine D_2 ?_
      refine DW (v := (.int .i64 (A'.length : Int))) rfl rfl rfl (congrArg _ (pred_len y_B)) ?_
      refine DY rfl (idx_slice (s := 5) A'.length rfl rfl rfl rfl y_B) rfl ?_
      refine d_loadA rfl rfl rfl rfl (fun w hS => Row.elem2 spc_len (srow_own (.head _) w hS)) rfl rfl ?_
      refine D_2 ?_
      refine DY rfl (idx_slice (s := 5) (A' ++ [x]).length rfl rfl rfl rfl y_B) rfl ?_
      refine d_loadA rfl rfl rfl rfl (fun w hS => Row.elem spc_len (srow_own (.head _) w hS)) rfl rfl ?_
      refine DY rfl (idx_slice (s := 5) (A' ++ [x]).length rfl rfl rfl rfl y_B) rfl ?_
      refine DZ rfl (x_store (vs := spc x) 0 rfl rfl rfl rfl rfl rfl (flat_fits spc_len _ _ _ _ _)) rfl n_h ?_
      rw [List.set_cons_zero, putL_flat2 spc_len]
      refine DY rfl (idx_slice (s := 5) A'.length rfl rfl rfl rfl y_B) rfl ?_
      refine DZ rfl (x_store (vs := spc e) 0 rfl rfl rfl rfl rfl rfl (flat_fits spc_len _ _ _ _ _)) rfl n_h ?_
      rw [List.set_cons_zero, putL_flat spc_len]
      refine d_nil ?_
      refine c_region ?_
      refine Rl ?_
      refine RW (v := (.int .i64 (A'.length : Int))) rfl rfl (congrArg _ (pred_len y_B)) ?_
      refine Rl ?_
      refine l_nil ?_
      exact ⟨(A', x :: B), ⟨by rw [← insB_step e x A' B (by have h0 := h3; rw [cmpI_lt] at h0; simpa using h0)]; exact hI2, y_ew⟩, by simp, .cons rfl .nil, a_g, fun _ h => h⟩
     ·refine c_exit rfl ?_
      refine c_region ?_
      iterate 3 refine Rl ?_
      refine l_nil ?_
      exact ⟨i + 1, ⟨y_D, .inl o_m⟩, y_D, .cons (congrArg _ (succ_law o_m)) .nil, a_g, fun w h => by rw [ins_done (.inr ⟨A', x, rfl, by have h0 := h3; rw [cmpI_lt] at h0; simpa using h0⟩) hI2, ← hI, hR] at h; exact h⟩
    ·refine D_10 ?_
     refine d_passH rfl rfl rfl ?_
     refine D_2 ?_
     refine d_nil ?_
     refine c_false rfl ?_
     refine c_exit rfl ?_
     refine c_region ?_
     iterate 3 refine Rl ?_
     refine l_nil ?_
     exact ⟨i + 1, ⟨y_D, .inl o_m⟩, y_D, .cons (congrArg _ (succ_law o_m)) .nil, a_g, fun w h => by rw [ins_done (.inl (List.eq_nil_of_length_eq_zero y_B)) hI2, ← hI, hR] at h; exact h⟩
  ·refine c_exit rfl ?_
   exact EN (List.Sublist.refl _) ⟨rfl, by rw [isort_end y_B]⟩
theorem insnil_fn (w : World) :
  Does Tryz.prog 382 [.slice none 0 0, .int .i64 0, .int .i64 0, .func (.func 367) #[] #[]] w [] (fun v H => H = [] ∧ v = .tuple #[]) := by
 refine does_of Tryz.func382 rfl rfl rfl (St.refl w) ?_
 refine c_seq ?_
 refine c_region ?_
 iterate 3 refine Rl ?_
 refine l_nil ?_
 refine c_block ?_
 refine c_loopk (σ := Unit) [8, 9, 12, 13, 14, 15, 16, 17, 18, 19, 20, 21, 22, 23, 24, 25, 26, 27, 28, 29, 30, 31, 32, 33, 34, 35, 36, 37, 38, 39, 40, 41, 42, 43, 44, 45, 46, 47, 48, 49, 50, 51, 52] (fun _ => [(8, .int .i64 1)]) (fun _ => True) (fun _ => 0) () ?_ ?_ ?_
 ·trivial
 ·exact .cons rfl .nil
 ·rintro _ y _
  refine c_seq ?_
  refine c_seq ?_
  refine c_region ?_
  refine L_2 ?_
  refine l_sure false rfl rfl rfl y_c ?_
  refine l_nil ?_
  refine c_false rfl ?_
  refine c_exit rfl ?_
  exact l_end0 (fun _ _ => rets_none) ⟨rfl, rfl⟩
theorem stable_fn (b n cap : Nat) (l : List Sp) (sp' : List Value) (hn : l.length = n) (h10 : n ≤ 10) (w : World) (hb : w.heap[b]? = some (blk (flat spc l ++ sp') 411)) :
  Does Tryz.prog 375 [.slice (some ⟨b, 0, none⟩) n cap, .int .i64 n, .func (.func 367) #[] #[]] w [b] (fun v H => v = .tuple #[] ∧ H = [(b, blk (flat spc (isort l) ++ sp') 411)]) := by
 refine does_of Tryz.func375 rfl rfl rfl (St.lent1 hb) ?_
 refine c_seq ?_
 refine c_region ?_
 refine Rl ?_
 refine l_nil ?_
 refine c_seq ?_
 refine c_region ?_
 iterate 3 refine Rl ?_
 refine l_nil ?_
 refine c_seq ?_
 refine c_block ?_
 refine c_loopk (σ := Unit) [7, 8, 11, 12, 13, 14, 15, 16, 17, 18, 19, 20, 21, 22] (fun _ => [(7, .int .i64 0), (8, .int .i64 20)]) (fun _ => True) (fun _ => 0) () ?_ ?_ ?_
 ·trivial
 ·exact .cons rfl (.cons rfl .nil)
 ·rintro _ y _
  refine c_seq ?_
  refine c_seq ?_
  refine c_region ?_
  refine L_2 ?_
  refine l_sure false rfl rfl rfl y_bz ?_
  refine l_nil ?_
  refine c_false rfl ?_
  refine c_exit rfl ?_
  refine c_seq ?_
  refine c_region ?_
  iterate 4 refine Rl ?_
  refine RX (x_callF (A := [_]) (G := []) [b] call_382 rfl y_z (fun w hw => ins_fn b n cap l sp' hn o_m w (hw.own_blk (.head _)))) rfl ?_
  rintro _ _ ⟨_, ⟨rfl, rfl⟩, rfl⟩
  refine l_nil ?_
  refine c_block ?_
  refine c_loopk (σ := Unit) [6, 7, 8, 9, 28, 29, 30, 31, 32, 33, 34, 35, 36, 37, 38, 39, 40, 41, 42, 43, 44, 45, 46, 47, 48, 49, 50, 51, 52, 53, 54, 55, 56, 57, 58, 59, 60, 61, 62] (fun _ => [(6, .int .i64 20)]) (fun _ => True) (fun _ => 0) () ?_ ?_ ?_
  ·trivial
  ·exact .cons rfl .nil
  ·rintro _ y _
   refine c_seq ?_
   refine c_seq ?_
   refine c_region ?_
   refine L_2 ?_
   refine l_sure false rfl rfl rfl y_bz ?_
   refine l_nil ?_
   refine c_false rfl ?_
   refine c_exit rfl ?_
   exact EN (List.Sublist.refl _) ⟨rfl, rfl⟩
theorem stablenil_fn (w : World) :
  Does Tryz.prog 375 [.slice none 0 0, .int .i64 0, .func (.func 367) #[] #[]] w [] (fun v H => H = [] ∧ v = .tuple #[]) := by
 refine does_of Tryz.func375 rfl rfl rfl (St.refl w) ?_
 refine c_seq ?_
 refine c_region ?_
 refine Rl ?_
 refine l_nil ?_
 refine c_seq ?_
 refine c_region ?_
 iterate 3 refine Rl ?_
 refine l_nil ?_
 refine c_seq ?_
 refine c_block ?_
 refine c_loopk (σ := Unit) [7, 8, 11, 12, 13, 14, 15, 16, 17, 18, 19, 20, 21, 22] (fun _ => [(7, .int .i64 0), (8, .int .i64 20)]) (fun _ => True) (fun _ => 0) () ?_ ?_ ?_
 ·trivial
 ·exact .cons rfl (.cons rfl .nil)
 ·rintro _ y _
  refine c_seq ?_
  refine c_seq ?_
  refine c_region ?_
  refine L_2 ?_
  refine l_sure false rfl rfl rfl y_c ?_
  refine l_nil ?_
  refine c_false rfl ?_
  refine c_exit rfl ?_
  refine c_seq ?_
  refine c_region ?_
  iterate 4 refine Rl ?_
  refine RLv call_382 (fun w hw => insnil_fn w) ?_
  refine l_nil ?_
  refine c_block ?_
  refine c_loopk (σ := Unit) [6, 7, 8, 9, 28, 29, 30, 31, 32, 33, 34, 35, 36, 37, 38, 39, 40, 41, 42, 43, 44, 45, 46, 47, 48, 49, 50, 51, 52, 53, 54, 55, 56, 57, 58, 59, 60, 61, 62] (fun _ => [(6, .int .i64 20)]) (fun _ => True) (fun _ => 0) () ?_ ?_ ?_
  ·trivial
  ·exact .cons rfl .nil
  ·rintro _ y _
   refine c_seq ?_
   refine c_seq ?_
   refine c_region ?_
   refine L_2 ?_
   refine l_sure false rfl rfl rfl y_c ?_
   refine l_nil ?_
   refine c_false rfl ?_
   refine c_exit rfl ?_
   exact l_end0 (fun _ _ => rets_none) ⟨rfl, rfl⟩
theorem sortrow_fn (b n cap : Nat) (l : List Sp) (sp' : List Value) (hn : l.length = n) (h10 : n ≤ 10) (w : World) (hb : w.heap[b]? = some (blk (flat spc l ++ sp') 411)) :
  Does Tryz.prog 366 [.slice (some ⟨b, 0, none⟩) n cap, .func (.func 367) #[] #[]] w [b] (fun v H => v = .tuple #[] ∧ H = [(b, blk (flat spc (isort l) ++ sp') 411)]) := by
 refine does_of Tryz.func366 rfl rfl rfl (St.lent1 hb) ?_
 refine c_region ?_
 refine L_2 ?_
 refine RY l_n rfl ?_
 refine Rl ?_
 refine RX (x_callF (A := [_]) (G := []) [b] call_375 rfl y_z (fun w hw => stable_fn b n cap l sp' hn h10 w (hw.own_blk (.head _)))) rfl ?_
 rintro _ _ ⟨_, ⟨rfl, rfl⟩, rfl⟩
 refine l_nil ?_
 exact EN (List.Sublist.refl _) ⟨rfl, rfl⟩
theorem sortnil_fn (w : World) :
  Does Tryz.prog 366 [.slice none 0 0, .func (.func 367) #[] #[]] w [] (fun v H => H = [] ∧ v = .tuple #[]) := by
 refine does_of Tryz.func366 rfl rfl rfl (St.refl w) ?_
 refine c_region ?_
 refine L_2 ?_
 refine RY l_n rfl ?_
 refine Rl ?_
 refine RLv call_375 (fun w hw => stablenil_fn w) ?_
 refine l_nil ?_
 exact l_end0 (fun _ _ => rets_none) ⟨rfl, rfl⟩
theorem sort_fn {v : Value} {n : Nat} {l : List Sp} {G : Heap} (hV : Vec 411 5 v n (flat spc l) G) (h10 : n ≤ 10) (w : World) (hG : ∀ x ∈ G, w.heap[x.1]? = some x.2) :
  Does Tryz.prog 366 [v, .func (.func 367) #[] #[]] w (G.map (·.1)) (fun u H => u = .tuple #[] ∧ Vec 411 5 v n (flat spc (isort l)) H) := by
 have hl := hV.len
 rw [flat_len spc_len] at hl
 generalize hx : flat spc l = xs at hV
 cases hV with
 | nil =>
  have : l = [] := List.eq_nil_of_length_eq_zero o_m
  subst this
  exact (sortnil_fn w).mono fun u H ⟨h1, h2⟩ => by subst h1; exact ⟨h2, .nil⟩
 | row b _ cap _ sp h1 h2 h3 h4 =>
  subst hx
  refine (sortrow_fn b n cap l sp o_m h10 w (hG _ (.head _))).mono fun u H ⟨h5, h6⟩ => ?_
  subst h6
  have hi := isort_len l
  have h7 := flat_len spc_len (isort l)
  have h8 := flat_len spc_len l
  exact ⟨h5, .row b n cap _ sp (by rw [h7, hi]; omega) (by rw [List.length_append, h7, hi] ; rw [List.length_append, h8] at h2; omega) h3 h4⟩
theorem shadeS_fn (c cb cf cs : Int) (hc : 0 ≤ c ∧ c < 256) (hcb : 0 ≤ cb ∧ cb < 256) (hcf : 0 ≤ cf ∧ cf < 256) (hcs : 0 ≤ cs ∧ cs < 256) (a a2 : Option Addr) (cap cap2 n : Nat) (l : List Int) (hl : Byts l) (L : List Sp) (hL : L.length = n) (hok : ∀ s ∈ L, SpOk s) (h1000 : n ≤ 1000) (x line below : Int) (hb : 0 ≤ below ∧ below < 256)
  (w : World) (hB : Ns w .u8 a l) (hE : Els w spc a2 L) :
  Does Tryz.prog 369 [.agg #[.int .u8 c, .int .u8 cb, .int .u8 cf, .int .u8 cs], .slice a l.length cap, .slice a2 n cap2, .int .i64 x, .int .i64 line, .int .u8 below] w [] (fun v H => H = [] ∧ v = .int .u8 (seenS l c cb cf cs x line below (L.find? (hit l c x line)))) := by
 refine does_of Tryz.func369 rfl rfl rfl (St.refl w) ?_
 refine c_seq ?_
 refine c_region ?_
 refine RX (x_box rfl rfl) rfl ?_
 rintro _ _ ⟨b6, rfl, rfl⟩
 refine Rl ?_
 refine l_nil ?_
 refine c_seq ?_
 refine c_seq ?_
 refine c_region ?_
 refine Rl ?_
 refine RY l_n rfl ?_
 refine Rl ?_
 refine l_nil ?_
 refine c_block ?_
 refine c_loop (σ := Nat) [12, 14, 15, 18, 19, 20, 21, 22, 23, 24, 25, 26, 27, 28, 29, 30, 31, 32, 33, 34, 35, 36, 37, 38, 39, 40, 41, 42, 43, 44, 45, 46, 47, 48, 49, 50, 51, 52, 53, 54, 55, 56, 57, 58] (fun k => [(18, .int .i64 k)]) (fun _ => [(b6, blk [.int .u8 c, .int .u8 cb, .int .u8 cf, .int .u8 cs] 405)]) (fun k => k ≤ n ∧ (L.take k).find? (hit l c x line) = none) (fun k => n - k) 0 ?_ ?_ ?_ ?_
 ·exact ⟨Nat.zero_le _, rfl⟩
 ·exact .cons rfl .nil
 ·exact fun _ h => h
 ·rintro k y ⟨hk, hk2⟩
  refine c_seq ?_
  refine c_region ?_
  refine Rl ?_
  refine l_nil ?_
  refine c_seq ?_
  refine KC (fun h1 h1n => ?_) (fun h1 h1n => ?_)
  ·refine c_skip ?_
   refine c_seq ?_
   refine c_block ?_
   refine c_seq ?_
   have hkn : k < n := by simp at *; omega
   obtain ⟨b, off, rfl, hr⟩ := hE.row (i := k) o_m
   obtain ⟨s, hs⟩ : ∃ s, L[k]? = some s := ⟨_, List.getElem?_eq_getElem o_m⟩
   have hso := hok s (List.mem_of_getElem? hs)
   refine c_region ?_
   refine RY (idx_slice (s := 5) k rfl rfl rfl rfl hkn) rfl ?_
   refine RZ (x_loadA rfl rfl rfl (row_old (hr.nth' spc_len hs) y_z)) rfl ?_
   refine RX (x_alloc rfl) rfl ?_
   rintro _ _ ⟨b14, rfl, rfl⟩
   refine RZ s_t rfl ?_
   refine l_nil ?_
   refine c_seq ?_
   refine c_region ?_
   refine RZ (x_loadA rfl rfl rfl y_bi) rfl ?_
   refine Rl ?_
   refine RZ (x_loadA rfl rfl rfl y_h) rfl ?_
   refine L_2 ?_
   refine RLv call_377 (fun w hw => sdot_fn c cb cf cs hc _ _ l hl s.n s.y s.x s.t s.h x line hso.1 hso.2.1 hso.2.2.1 hso.2.2.2 w (hB.later0 hw)) ?_
   refine Rl ?_
   refine l_nil ?_
   refine c_seq ?_
   refine c_block ?_
   refine c_seq ?_
   refine c_region ?_
   iterate 3 refine Rl ?_
   refine l_nil ?_
   refine KC (fun h2 h2n => ?_) (fun h2 h2n => ?_)
   ·refine c_exit rfl ?_
    refine c_region ?_
    refine L_2 ?_
    refine l_nil ?_
    exact ⟨k + 1, ⟨y_D, find_on hk2 hs (by have h0 := h2; simp at h0; simp [hit, h0])⟩, y_D, .cons (congrArg _ (succ_law o_m)) .nil, a_g, (fun _ h => h.sub y_P)⟩
   ·refine c_seq ?_
    refine c_region ?_
    refine L_4 ?_
    refine KL (fun h3 h3n => ?_) (fun h3 h3n => ?_)
    ·iterate 5 refine Rl ?_
     refine l_nil ?_
     refine KC (fun h4 h4n => ?_) (fun h4 h4n => ?_)
     ·refine c_seq ?_
      refine c_region ?_
      refine L_3 ?_
      refine RLv call_378 (fun w hw => shade_fn cb _ hcb hb w) ?_
      refine Rl ?_
      refine l_nil ?_
      refine c_ret ?_
      exact E0 rfl ⟨rfl, (congrArg _ (shade_far hs hso hb hk2 h2 h3 h4))⟩
     ·refine c_seq ?_
      refine c_region ?_
      refine L_5 ?_
      refine l_nil ?_
      refine KC (fun h5 h5n => ?_) (fun h5 h5n => ?_)
      ·refine c_seq ?_
       refine c_region ?_
       refine L_3 ?_
       refine RLv call_378 (fun w hw => shade_fn cs _ hcs (sDot_four _ _ _ _ _ _ _ _) w) ?_
       refine Rl ?_
       refine l_nil ?_
       refine c_ret ?_
       exact E0 rfl ⟨rfl, (congrArg _ (shade_near (b4 := true) hs hso hb hk2 h2 (.inr h4) h5))⟩
      ·refine c_skip ?_
       refine c_seq ?_
       refine c_region ?_
       refine L_3 ?_
       refine RLv call_378 (fun w hw => shade_fn cf _ hcf (sDot_four _ _ _ _ _ _ _ _) w) ?_
       refine Rl ?_
       refine l_nil ?_
       refine c_ret ?_
       exact E0 rfl ⟨rfl, (congrArg _ (shade_near (b4 := false) hs hso hb hk2 h2 (.inr h4) h5))⟩
    ·refine L_5 ?_
     refine l_nil ?_
     refine c_false rfl ?_
     refine c_seq ?_
     refine c_region ?_
     refine L_5 ?_
     refine l_nil ?_
     refine KC (fun h6 h6n => ?_) (fun h6 h6n => ?_)
     ·refine c_seq ?_
      refine c_region ?_
      refine L_3 ?_
      refine RLv call_378 (fun w hw => shade_fn cs _ hcs (sDot_four _ _ _ _ _ _ _ _) w) ?_
      refine Rl ?_
      refine l_nil ?_
      refine c_ret ?_
      exact E0 rfl ⟨rfl, (congrArg _ (shade_near (b4 := true) hs hso hb hk2 h2 (.inl h3) h6))⟩
     ·refine c_skip ?_
      refine c_seq ?_
      refine c_region ?_
      refine L_3 ?_
      refine RLv call_378 (fun w hw => shade_fn cf _ hcf (sDot_four _ _ _ _ _ _ _ _) w) ?_
      refine Rl ?_
      refine l_nil ?_
      refine c_ret ?_
      exact E0 rfl ⟨rfl, (congrArg _ (shade_near (b4 := false) hs hso hb hk2 h2 (.inl h3) h6))⟩
  ·refine c_exit rfl ?_
   refine c_seq ?_
   refine c_region ?_
   refine L_3 ?_
   refine RLv call_378 (fun w hw => shade_fn cb _ hcb hb w) ?_
   refine Rl ?_
   refine l_nil ?_
   refine c_ret ?_
   exact E0 rfl ⟨rfl, (congrArg _ (shade_none (k := k) y_B hk2))⟩
set_option maxHeartbeats 2000000 in
theorem line_fn (c cb cf cs : Int) (hc : 0 ≤ c ∧ c < 256) (hcb : 0 ≤ cb ∧ cb < 256) (hcf : 0 ≤ cf ∧ cf < 256) (hcs : 0 ≤ cs ∧ cs < 256) (a a2 : Option Addr) (cap cap2 : Nat) (l oam : List Int) (hl : Byts l) (ho : Byts oam) (hcap : oam.length ≤ cap2) (line : Int) (bl : List Int) (hbl : bl.length = 160) (hbb : Byts bl)
  (w : World) (hB : Ns w .u8 a l) (hO : Ns w .u8 a2 oam) :
  Does Tryz.prog 357 [.agg #[.int .u8 c, .int .u8 cb, .int .u8 cf, .int .u8 cs], .slice a l.length cap, .slice a2 oam.length cap2, .int .i64 line, .agg (bl.map (.int .u8)).toArray] w [] (fun v H => H = [] ∧ v = .agg (lineL l oam c cb cf cs line bl).toArray) := by
 refine does_of Tryz.func357 rfl rfl rfl (St.refl w) ?_
 refine c_seq ?_
 refine c_region ?_
 refine RX (x_box rfl rfl) rfl ?_
 rintro _ _ ⟨b5, rfl, rfl⟩
 refine RX (x_box (l := bl.map (.int .u8)) rfl rfl) rfl ?_
 rintro _ _ ⟨b9, rfl, rfl⟩
 refine RX (x_alloc (l := List.replicate 160 (.int .u8 0)) y_g) rfl ?_
 rintro _ _ ⟨b10, rfl, rfl⟩
 refine l_nil ?_
 refine c_seq ?_
 refine c_region ?_
 refine Rl ?_
 refine l_nil ?_
 refine c_cut (σ := Value × Heap) [11, 13, 16, 17, 18, 19, 20, 21, 22, 23, 24, 25, 26, 27, 28, 29, 30, 31, 32, 33, 34, 35] (fun s => [(11, s.1)]) (fun s => s.2 ++ [(b10, blk (List.replicate 160 (.int .u8 0)) 174), (b9, blk (bl.map (.int .u8)) 174), (b5, blk [.int .u8 c, .int .u8 cb, .int .u8 cf, .int .u8 cs] 405)]) (fun s => Vec 411 5 s.1 (shownS oam c line).length (flat spc (shownS oam c line)) s.2) ?_ ?_
 ·refine c_seq ?_
  refine c_region ?_
  refine L_4 ?_
  refine l_nil ?_
  refine KC (fun h1 h1n => ?_) (fun h1 h1n => ?_)
  ·refine c_seq ?_
   refine c_region ?_
   refine RZ (x_loadA rfl rfl rfl y_bi) rfl ?_
   refine L_2 ?_
   refine RX (x_call call_364 rfl (fun w hw => scan_fn c cb cf cs hc _ _ oam ho line hcap w (hO.later0 hw))) rfl ?_
   rintro _ _ ⟨G23, ⟨a23, c23, rfl, hc23, hL23⟩, rfl⟩
   refine RY l_n rfl ?_
   refine Rl ?_
   refine l_nil ?_
   refine c_block ?_
   refine c_loop (σ := Nat × Value × Heap) [11, 13, 25, 26, 27, 28, 29, 30, 31, 32, 33, 34, 35] (fun s => [(11, s.2.1), (25, .int .i64 s.1)]) (fun s => s.2.2 ++ (G23 ++ [(b10, blk (List.replicate 160 (.int .u8 0)) 174), (b9, blk (bl.map (.int .u8)) 174), (b5, blk [.int .u8 c, .int .u8 cb, .int .u8 cf, .int .u8 cs] 405)])) (fun s => s.1 ≤ (scan oam c line).length ∧ Vec 411 5 s.2.1 s.1 (flat spc (((scan oam c line).take s.1).map (sp oam))) s.2.2) (fun s => (scan oam c line).length - s.1) (0, .slice none 0 0, []) ?_ ?_ ?_ ?_
   ·exact ⟨Nat.zero_le _, .nil⟩
   ·exact .cons rfl (.cons rfl .nil)
   ·exact fun _ h => h
   ·rintro ⟨k, v, G⟩ y ⟨hk, hV⟩
    simp only at hk hV ⊢
    have h10 := scan_ten oam c line
    refine c_seq ?_
    refine c_region ?_
    refine Rl ?_
    refine l_nil ?_
    refine c_seq ?_
    refine KC (fun h2 h2n => ?_) (fun h2 h2n => ?_)
    ·refine c_skip ?_
     refine c_seq ?_
     refine c_block ?_
     refine c_seq ?_
     have hkn : k < (scan oam c line).length := by simp at *; omega
     obtain ⟨b, off, rfl, hr⟩ := hL23.row (i := k) hkn
     refine c_region ?_
     refine RY (idx_slice1 k rfl rfl rfl rfl hkn) rfl ?_
     refine RZ (x_load rfl rfl (at_gives hr (by intro x hx; simp [hx]) hkn)) rfl ?_
     refine Rl ?_
     refine l_nil ?_
     refine c_region ?_
     refine l_mv (v := v) rfl rfl rfl ?_
     refine L_2 ?_
     refine RLv call_365 (fun w hw => of_fn _ _ oam ho _ (scan_range _ (getD_mem hkn)) hcap w (hO.later0 hw)) ?_
     refine RX (x_slc rfl rfl rfl rfl rfl rfl) rfl ?_
     rintro _ _ ⟨b33, rfl, rfl⟩
     refine RX (x_append (A := [_]) (G := G) (R := _) (v := v) (m := 1) (by_ := 40) rfl rfl rfl rfl hV (fun w hw => .row _ _ _ _ _ rfl (row_own (.head _) w hw)) rfl o_m o_m) rfl ?_
     rintro v34 _ ⟨G', hV', hnil, rfl⟩
     refine l_as' (v := v34) rfl rfl rfl ?_
     refine l_nil ?_
     refine c_region ?_
     refine L_2 ?_
     refine l_nil ?_
     exact ⟨(k + 1, v34, G'), ⟨y_D, by rw [flat_next hkn]; exact hV'⟩, y_D, .cons rfl (.cons (congrArg _ (succ_law o_m)) .nil), a_g, (fun _ h => h.sub y_P)⟩
    ·refine c_exit rfl ?_
     obtain rfl : k = (scan oam c line).length := by simp at *; omega
     exact ⟨(v, G), by rw [shown_yes hc h1, List.length_map]; rw [List.take_length] at hV; exact hV, .cons rfl .nil, a_g, fun w h => h.sub ((List.Sublist.refl _).append (List.sublist_append_right _ _))⟩
  ·refine c_skip ?_
   exact ⟨(.slice none 0 0, []), by rw [shown_no hc h1]; exact .nil, .cons rfl .nil, a_g, fun w h => h⟩
 ·rintro ⟨v, G⟩ y2 hV
  simp only at hV ⊢
  obtain ⟨a11, c11, rfl⟩ := hV.slice
  refine c_seq ?_
  refine c_region ?_
  refine Rl ?_
  refine RX (x_callF (A := G) (G := _) (G.map (·.1)) call_366 rfl (fun b h => mem_fst h) (fun w hw => sort_fn hV (shown_ten oam c line) w (fun x hx => hw.holds x (by simp [hx])))) rfl ?_
  rintro _ _ ⟨G', ⟨rfl, hV'⟩, rfl⟩
  obtain ⟨a1', c1', he, hn11, hc11, hE⟩ := hV'.gives spc_len y_c
  cases he
  refine l_nil ?_
  refine c_seq ?_
  refine c_heap (fun w h => h.perm List.perm_append_comm) ?_
  refine c_region ?_
  refine RX (x_alloc (l := List.replicate 160 (.int .u8 0)) y_g) rfl ?_
  rintro _ _ ⟨b14, rfl, rfl⟩
  refine l_nil ?_
  refine c_seq ?_
  refine c_seq ?_
  refine c_region ?_
  refine Rl ?_
  refine l_nil ?_
  refine c_block ?_
  refine c_loop (σ := Nat) [15, 38, 39, 40, 41, 42, 43, 44, 45, 46, 47, 48, 49, 50, 51, 52] (fun k => [(38, .int .i64 k)]) (fun k => (b14, blk (upTo .u8 (lineS l oam c cb cf cs line bl) 160 k) 174) :: ([(b10, blk (List.replicate 160 (.int .u8 0)) 174), (b9, blk (bl.map (.int .u8)) 174), (b5, blk [.int .u8 c, .int .u8 cb, .int .u8 cf, .int .u8 cs] 405)] ++ G')) (fun k => k ≤ 160) (fun k => 160 - k) 0 ?_ ?_ ?_ ?_
  ·show 0 ≤ 160; omega
  ·exact .cons rfl .nil
  ·exact fun w h => by rw [← upTo_zero]; exact h
  ·intro k y hk
   refine c_seq ?_
   refine c_region ?_
   refine Rl ?_
   refine l_nil ?_
   refine c_seq ?_
   refine KC (fun h3 h3n => ?_) (fun h3 h3n => ?_)
   ·refine c_skip ?_
    refine c_seq ?_
    refine c_block ?_
    refine c_seq ?_
    refine c_region ?_
    refine L_2 ?_
    refine l_nil ?_
    refine DR [2, 3, 4, 5, 6, 7, 8] (pln [0, 2, 4, 6, 8, 10, 12, 14, 16, 19, 20, 23]) ?_
    refine RD ?_
    refine d_loadA rfl rfl rfl rfl y_bF rfl rfl ?_
    iterate 5 refine RD ?_
    refine DY rfl (idx_array0 k rfl rfl rfl rfl y_B) rfl ?_
    refine DL rfl rfl rfl (s_own (.tail _ (.tail _ (.head _))) (map_get y_B)) rfl ?_
    refine DZ rfl (x_val call_369 rfl (fun w hw => shadeS_fn c cb cf cs hc hcb hcf hcs _ _ _ _ _ l hl (isort (shownS oam c line)) hn11 (shown_ok ho c line) (by have := shown_ten oam c line; omega) (k : Int) line _ (hbb.get k) w (hB.later0 hw) (hE.els hw (by intro x hx; simp [hx])))) rfl n_h ?_
    refine DY rfl (idx_array0 k rfl rfl rfl rfl y_B) rfl ?_
    refine DZ rfl (x_store 0 rfl rfl rfl rfl rfl rfl (by rw [upTo_len y_B]; simp at *; omega)) rfl n_h ?_
    rw [List.set_cons_zero, upTo_put (f := lineS l oam c cb cf cs line bl) y_B (seenS l c cb cf cs (k : Int) line (bl.getD k 0) ((isort (shownS oam c line)).find? (hit l c (k : Int) line))) rfl]
    refine d_nil ?_
    refine c_region ?_
    refine L_2 ?_
    refine l_nil ?_
    exact ⟨k + 1, y_ew, y_ew, .cons (congrArg _ (succ_law o_m)) .nil, a_g, fun _ h => h⟩
   ·refine c_exit rfl ?_
    refine c_seq ?_
    obtain rfl : k = 160 := by simp at *; omega
    refine c_region ?_
    refine RZ (x_loadA rfl rfl y_bJ (row_own (.head _))) rfl ?_
    refine RZ (x_store (vs := (upTo .u8 (lineS l oam c cb cf cs line bl) 160 160)) (l := List.replicate 160 (.int .u8 0)) 1 rfl rfl rfl y_bJ (upTo_ones _ _ _ _) rfl y_cv) rfl ?_
    rw [putL_all y_cv]
    refine l_nil ?_
    refine c_ret ?_
    exact l_end0 (fun w hw => rets_cell (l := (upTo .u8 (lineS l oam c cb cf cs line bl) 160 160)) rfl rfl y_bJ (row_own (.tail _ (.head _)) w hw)) ⟨rfl, by rw [upTo_all]; rfl⟩
set_option maxHeartbeats 2000000 in
theorem paint_fn (b : Nat) (u : PU) (hu : u.Wf) (w : World) (hst : St w [b] [(b, blk (cU u) 178)] w) (hl : u.line < 144) (ho : u.own < 600) : Does Tryz.prog 304 [.pointer (some ⟨b, 0, none⟩)] w [b] (fun v H => v = .tuple #[] ∧ H = [(b, blk (cU (paintU u)) 178)]) := by
 have hlb := hu.line
 have hob := hu.own
 refine does_of Tryz.func304 rfl rfl rfl hst ?_
 refine ZBl ?_
 refine ZAb ?_
 refine ZA0 ?_
 refine DR [4, 5, 6, 7, 8, 9, 10, 11, 12, 13, 14, 15, 16, 17, 18, 19, 21] (pln [0, 2, 4, 6, 8, 10, 12, 14, 16, 18, 20, 22, 24, 26, 28, 30, 32, 34, 36, 38, 40, 43, 45]) ?_
 refine D_2 ?_
 refine DY rfl y_dN rfl ?_
 refine DL rfl rfl rfl (s_own m_m (cU_R hu (j := 0) y_c)) rfl ?_
 refine D_2 ?_
 refine DY rfl y_dS rfl ?_
 refine DL rfl rfl rfl (s_own m_m (cU_R hu (j := 3) y_c)) rfl ?_
 refine D_2 ?_
 refine DY rfl y_dX rfl ?_
 refine DL rfl rfl rfl (s_own m_m (cU_R hu (j := 2) y_c)) rfl ?_
 refine D_2 ?_
 refine DY rfl (by first | exact idx_array1 11 rfl rfl rfl rfl y_c | exact idx_slice1 11 rfl rfl rfl rfl y_c | exact idx_array 11 rfl rfl rfl rfl y_c | exact idx_slice 11 rfl rfl rfl rfl y_c) rfl ?_
 refine DL rfl rfl rfl (s_own m_m (cU_R hu (j := 11) y_c)) rfl ?_
 refine D_2 ?_
 refine DY rfl (by first | exact idx_array1 10 rfl rfl rfl rfl y_c | exact idx_slice1 10 rfl rfl rfl rfl y_c | exact idx_array 10 rfl rfl rfl rfl y_c | exact idx_slice 10 rfl rfl rfl rfl y_c) rfl ?_
 refine DL rfl rfl rfl (s_own m_m (cU_R hu (j := 10) y_c)) rfl ?_
 refine ZEL ?_
 refine DX rfl (x_alloc rfl) rfl y_q ?_
 refine ZC8 fun b0 => ?_
 refine DZ rfl s_t rfl n_h ?_
 refine ZEb ?_
 refine ZA0 ?_
 refine DR [4, 5, 6, 7, 8, 9, 10, 11, 12, 13, 14, 15, 17] (pln [0, 2, 4, 6, 8, 10, 12, 14, 16, 18, 20, 22, 24, 26, 28, 30, 32, 35, 37]) ?_
 refine D_2 ?_
 refine DY rfl y_dN rfl ?_
 refine DL rfl rfl rfl (s_own m_m (cU_R hu (j := 0) y_c)) rfl ?_
 refine D_2 ?_
 refine DY rfl (by first | exact idx_array1 7 rfl rfl rfl rfl y_c | exact idx_slice1 7 rfl rfl rfl rfl y_c | exact idx_array 7 rfl rfl rfl rfl y_c | exact idx_slice 7 rfl rfl rfl rfl y_c) rfl ?_
 refine DL rfl rfl rfl (s_own m_m (cU_R hu (j := 7) y_c)) rfl ?_
 refine D_2 ?_
 refine DY rfl (by first | exact idx_array1 8 rfl rfl rfl rfl y_c | exact idx_slice1 8 rfl rfl rfl rfl y_c | exact idx_array 8 rfl rfl rfl rfl y_c | exact idx_slice 8 rfl rfl rfl rfl y_c) rfl ?_
 refine DL rfl rfl rfl (s_own m_m (cU_R hu (j := 8) y_c)) rfl ?_
 refine D_2 ?_
 refine DY rfl (by first | exact idx_array1 9 rfl rfl rfl rfl y_c | exact idx_slice1 9 rfl rfl rfl rfl y_c | exact idx_array 9 rfl rfl rfl rfl y_c | exact idx_slice 9 rfl rfl rfl rfl y_c) rfl ?_
 refine DL rfl rfl rfl (s_own m_m (cU_R hu (j := 9) y_c)) rfl ?_
 refine ZEL ?_
 refine DX rfl (x_alloc rfl) rfl y_q ?_
 rintro _ _ ⟨b1, rfl, rfl⟩
 refine DZ rfl s_t rfl n_h ?_
 refine ZEb ?_
 refine ZA0 ?_
 refine DR [1, 2, 3, 4, 5, 6, 7, 8, 9, 10, 11, 12, 17] (.step true 0 (.step true 1 (.step true 2 (.step true 3 (.step true 4 (.step true 5 (.step true 6 (.step true 7 (.step true 8 (.step true 9 (.step true 10 (.step true 11 (.step true 12 (.fork 13 (.step true 14 (.step true 15 (.step true 16 (.step false 17 (.step false 18 (.step true 19 .done)))))) (.fork 17 (.step false 13 (.step true 14 (.step true 15 (.step true 16 (.step false 18 (.step true 19 .done)))))) .stop))))))))))))))) ?_
 refine d_loadA rfl rfl rfl rfl y_cj rfl rfl ?_
 refine ZCF ?_
 refine D_3 ?_
 refine DL rfl rfl rfl (s_own m_m (cU_line hu)) rfl ?_
 refine D_3 ?_
 refine DL rfl rfl rfl (s_own m_m (cU_own hu)) rfl ?_
 refine d_fork ?_ ?_
 ·refine DZ rfl (x_val call_356 rfl (fun w hw => tline_fn _ _ u.V hu.bV (viewU u) (viewU_ok hu) u.line u.own w (Ns.of (rowV (row_own m_m w hw))))) rfl n_h ?_
  refine ZCX ?_
  refine D_2 ?_
  refine DX rfl (x_alloc rfl) rfl y_q ?_
  rintro _ _ ⟨b2, rfl, rfl⟩
  refine DZ rfl s_t rfl n_h ?_
  refine ZC9 ?_
  refine ZA0 ?_
  refine ZEj ?_
  refine DL rfl rfl rfl (s_own m_m (cU_line hu)) rfl ?_
  refine d_loadA rfl rfl rfl rfl y_bF rfl rfl ?_
  refine ZCF ?_
  refine ZCw ?_
  refine D_3 ?_
  refine DL rfl rfl rfl (s_own m_m (cU_line hu)) rfl ?_
  refine d_loadA rfl rfl rfl rfl y_dj rfl rfl ?_
  refine D_2 ?_
  refine ZCe ?_
  refine ZDs ?_
  refine ZA3 ?_
  refine ZEb ?_
  exact ZA8
 refine d_fork ?_ ?_
 ·refine DX rfl (x_alloc rfl) rfl y_q ?_
  rintro _ _ ⟨b2, rfl, rfl⟩
  refine DZ rfl (x_val call_356 rfl (fun w hw => tline_fn _ _ u.V hu.bV (viewU u) (viewU_ok hu) u.line u.own w (Ns.of (rowV (row_own m_m w hw))))) rfl n_h ?_
  refine ZCX ?_
  refine D_2 ?_
  refine DZ rfl s_t rfl n_h ?_
  refine ZC9 ?_
  refine ZA0 ?_
  refine ZEj ?_
  refine DL rfl rfl rfl (s_own m_m (cU_line hu)) rfl ?_
  refine d_loadA rfl rfl rfl rfl y_bF rfl rfl ?_
  refine ZCF ?_
  refine ZCw ?_
  refine D_3 ?_
  refine DL rfl rfl rfl (s_own m_m (cU_line hu)) rfl ?_
  refine d_loadA rfl rfl rfl rfl y_dj rfl rfl ?_
  refine D_2 ?_
  refine ZCe ?_
  refine ZDs ?_
  refine ZA3 ?_
  refine ZEb ?_
  exact ZA8
 exact d_stop
theorem next_fn (b : Nat) (u : PU) (hu : u.Wf) (w : World) (hst : St w [b] [(b, blk (cU u) 178)] w) (hl : u.line < 154) : Does Tryz.prog 355 [.pointer (some ⟨b, 0, none⟩)] w [b] (fun v H => v = .int .u8 (nextV u) ∧ H = [(b, blk (cU (nextU u)) 178)]) := by
 have hlb := hu.line
 have hfb := hu.frames
 refine does_of Tryz.func355 rfl rfl rfl hst ?_
 refine ZAa ?_
 refine ZA6 ?_
 refine RZ (x_storeTo (l' := cU { u with dot := 0 }) 0 rfl rfl rfl rfl rfl rfl y_k (putU_dot hu _)) rfl ?_
 refine ZAH ?_
 refine ZA6 ?_
 refine RZ (x_load rfl rfl (at_own m_m (cU_line (hu.dot_ (x := 0) y_c)))) rfl ?_
 refine RW (v := (.int .i64 (u.line + 1))) rfl rfl (congrArg _ (wrap_i64 y_d8 y_d8)) ?_
 refine L_2 ?_
 refine RZ (x_storeTo (l' := cU { u with dot := 0, line := u.line + 1 }) 0 rfl rfl rfl rfl rfl rfl (by rw [cU_len (hu.dot_ (x := 0) y_c)]; simp only [List.length_cons, List.length_nil]; (try simp only [decide_eq_true_eq, decide_eq_false_iff_not, beq_iff_eq, beq_eq_false_iff_ne, bne_iff_ne, bne_eq_false_iff_eq, ne_eq] at *); omega) (putU_line (hu.dot_ (x := 0) y_c) _)) rfl ?_
 refine ZAH ?_
 refine ZD6 ?_
 refine RZ (x_load rfl rfl (at_own m_m (cU_line ((hu.dot_ (x := 0) y_c).line_ (x := u.line + 1) o_m)))) rfl ?_
 refine ZAb ?_
 refine c_block ?_
 refine ZAS ?_
 refine KC (fun q0 q0n => ?_) (fun q0 q0n => ?_)
 ·refine ZBl ?_
  refine RZ (x_load rfl rfl (at_own m_m (cU_frames ((hu.dot_ (x := 0) y_c).line_ (x := u.line + 1) o_m)))) rfl ?_
  refine RW (v := (.int .i64 (u.frames + 1))) rfl rfl (congrArg _ (wrap_i64 y_d8 y_d8)) ?_
  refine RW (v := (.int .i64 ((u.frames + 1) % 65536))) rfl rfl (congrArg _ (Int.tmod_eq_emod_of_nonneg o_m)) ?_
  refine L_2 ?_
  refine RZ (x_storeTo (l' := cU { u with dot := 0, line := u.line + 1, frames := (u.frames + 1) % 65536 }) 0 rfl rfl rfl rfl rfl rfl y_d6 (putU_frames ((hu.dot_ (x := 0) y_c).line_ (x := u.line + 1) o_m) _)) rfl ?_
  refine ZAH ?_
  refine ZAY ?_
  exact EV rfl (List.Sublist.refl _) ⟨congrArg _ (by unfold nextV; rw [if_pos y_a]), by rw [next_1 y_a, show u.line + 1 = 144 by (try simp only [decide_eq_true_eq, decide_eq_false_iff_not, beq_iff_eq, beq_eq_false_iff_ne, bne_iff_ne, bne_eq_false_iff_eq, ne_eq] at *); omega]⟩
 ·refine ZAS ?_
  refine KC (fun q1 q1n => ?_) (fun q1 q1n => ?_)
  ·refine ZBj ?_
   refine RZ (x_storeTo (l' := cU { u with dot := 0, line := 0 }) 0 rfl rfl rfl rfl rfl rfl y_d6 (putU_line ((hu.dot_ (x := 0) y_c).line_ (x := u.line + 1) o_m) _)) rfl ?_
   refine ZA3 ?_
   refine L_2 ?_
   refine RZ (x_storeTo (l' := cU { u with dot := 0, line := 0, own := 0 }) 0 rfl rfl rfl rfl rfl rfl (by rw [cU_len ((hu.dot_ (x := 0) y_c).line_ (x := 0) y_c)]; simp only [List.length_cons, List.length_nil]; (try simp only [decide_eq_true_eq, decide_eq_false_iff_not, beq_iff_eq, beq_eq_false_iff_ne, bne_iff_ne, bne_eq_false_iff_eq, ne_eq] at *); omega) (putU_own ((hu.dot_ (x := 0) y_c).line_ (x := 0) y_c) _)) rfl ?_
   refine ZAH ?_
   refine ZAY ?_
   exact EV rfl (List.Sublist.refl _) ⟨congrArg _ (by unfold nextV; rw [if_neg y_a]), by rw [next_2 y_a]⟩
  ·refine ZAx ?_
   refine ZAY ?_
   exact EV rfl (List.Sublist.refl _) ⟨congrArg _ (by unfold nextV; rw [if_neg y_a]), by rw [next_3 y_a y_a]⟩
set_option maxHeartbeats 2000000 in
theorem tick_fn (b : Nat) (u : PU) (hok : u.Ok) (w : World) (hst : St w [b] [(b, blk (cU u) 178)] w) : Does Tryz.prog 346 [.pointer (some ⟨b, 0, none⟩)] w [b] (fun v H => v = .int .u8 (tickV u) ∧ H = [(b, blk (cU (tickU u)) 178)]) := by
 have hu := hok.wf
 have hd := hok.dot
 have hlb := hu.line
 have hl154 := hok.line
 have hdb := hu.dot
 have hws := hok.step
 refine does_of Tryz.func346 rfl rfl rfl hst ?_
 refine ZAa ?_
 refine ZAG ?_
 iterate 4 refine Rl ?_
 refine RLv call_189 (fun w hw => lit_fn b u hu w (row_own m_m w hw)) ?_
 refine ZAE ?_
 refine KC (fun q0 q0n => ?_) (fun q0 q0n => ?_)
 ·refine ZAY ?_
  exact EV rfl (List.Sublist.refl _) ⟨congrArg _ (by unfold tickV; rw [if_neg y_ck]), by unfold tickU; rw [if_neg y_ck]⟩
 ·refine ZAx ?_
  refine ZAa ?_
  refine ZA6 ?_
  refine RZ (x_load rfl rfl (at_own m_m (cU_dot hu))) rfl ?_
  refine RW (v := (.int .i64 (u.dot + 1))) rfl rfl (congrArg _ (wrap_i64 o_m o_m)) ?_
  refine L_2 ?_
  refine RZ (x_storeTo (l' := cU (oneU u)) 0 rfl rfl rfl rfl rfl rfl y_k (putU_dot hu _)) rfl ?_
  refine ZAH ?_
  refine ZAQ ?_
  refine ZDQ ?_
  refine Rl ?_
  refine KL (fun q1 q1n => ?_) (fun q1 q1n => ?_)
  ·refine L_3 ?_
   refine RZ (x_load rfl rfl (at_own m_m (show (cU (oneU u))[8364]? = some (.int .i64 u.line) from cU_line (hu.one hd)))) rfl ?_
   refine ZAR ?_
   refine KC (fun q2 q2n => ?_) (fun q2 q2n => ?_)
   ·refine ZAZ ?_
    refine RZ (x_callA call_304 rfl (fun w hw => paint_fn b (oneU u) (hu.one hd) w (St.lentA hw) (show u.line < 144 by (try simp only [decide_eq_true_eq, decide_eq_false_iff_not, beq_iff_eq, beq_eq_false_iff_ne, bne_iff_ne, bne_eq_false_iff_eq, ne_eq] at *); omega) hok.own599)) rfl ?_
    refine ZAb ?_
    refine ZAU ?_
    have hs9 : stepU u = paintU (oneU u) := step_paint y_a y_a
    refine ZBs ?_
    refine ZAs ?_
    have hlit : litU u = true := by simp_all
    have hnv : 0 = stepV u := by unfold stepV; rw [if_neg y_a]
    exact EV rfl (List.Sublist.refl _) ⟨congrArg _ y_9, y_cm⟩
   ·refine ZDQ ?_
    refine ZAE ?_
    refine KC (fun q3 q3n => ?_) (fun q3 q3n => ?_)
    ·refine ZDK ?_
     refine ZEC ?_
     have hs9 : stepU u = nextU (oneU u) := step_next y_a
     refine ZBs ?_
     refine ZAs ?_
     have hlit : litU u = true := by simp_all
     have hnv : nextV (oneU u) = stepV u := by
      have q4 : u.dot = 113 := y_a
      unfold nextV stepV oneU; simp [q4]
     exact EV rfl (List.Sublist.refl _) ⟨congrArg _ y_9, y_cm⟩
    ·refine ZAx ?_
     refine ZAU ?_
     have hs9 : stepU u = oneU u := step_one y_a y_a
     refine ZBs ?_
     refine ZAs ?_
     have hlit : litU u = true := by simp_all
     have hnv : 0 = stepV u := by unfold stepV; rw [if_neg y_a]
     exact EV rfl (List.Sublist.refl _) ⟨congrArg _ y_9, y_cm⟩
  ·refine L_7 ?_
   refine ZDY ?_
   refine ZDQ ?_
   refine ZAE ?_
   refine KC (fun q2 q2n => ?_) (fun q2 q2n => ?_)
   ·refine ZDK ?_
    refine ZEC ?_
    have hs9 : stepU u = nextU (oneU u) := step_next y_a
    refine ZBs ?_
    refine ZAs ?_
    have hlit : litU u = true := by simp_all
    have hnv : nextV (oneU u) = stepV u := by
     have q3 : u.dot = 113 := y_a
     unfold nextV stepV oneU; simp [q3]
    exact EV rfl (List.Sublist.refl _) ⟨congrArg _ y_9, y_cm⟩
   ·refine ZAx ?_
    refine ZAU ?_
    have hs9 : stepU u = oneU u := step_one y_a y_a
    refine ZBs ?_
    refine ZAs ?_
    have hlit : litU u = true := by simp_all
    have hnv : 0 = stepV u := by unfold stepV; rw [if_neg y_a]
    exact EV rfl (List.Sublist.refl _) ⟨congrArg _ y_9, y_cm⟩
theorem new_fn (w : World) : Does Tryz.prog 42 [] w [] (fun v H => ∃ b, v = .pointer (some ⟨b, 0, none⟩) ∧ H = [(b, blk (cU zeroU) 178)]) := by
 refine does_of Tryz.func42 rfl rfl rfl (St.refl w) ?_
 refine ZAa ?_
 refine ZAA ?_
 refine RY (light_struct (l := cU zeroU) (z := cU zeroU) (ps := []) rfl y_g rfl rfl) rfl ?_
 refine RX (x_box (l := cU zeroU) rfl rfl) rfl ?_
 refine ZC8 fun b0 => ?_
 refine ZAI ?_
 exact EV rfl (List.Sublist.refl _) ⟨b0, rfl, rfl⟩
end Go.Proofs.YtldehodcfajpjaaGreat
