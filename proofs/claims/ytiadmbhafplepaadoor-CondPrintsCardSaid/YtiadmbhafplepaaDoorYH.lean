/- The library's contract of strconv.Itoa laid at this program: the functions' and types' numbers, and that each body is the one that the contract was proved of. Written by the kit's lay-shelf tools (plain mode). -/
import Derived.Lib.ItoaLen
import Derived.Lib.ItoaMem
import Derived.Lib.LaidTab
import Derived.Shelf.Strconv.Itoa3
import Derived.Test.YtiadmbhafplepaaDoorProg
import Derived.Test.YtiadmbhafplepaaDoorYB
import Derived.Test.YtiadmbhafplepaaDoorYC
import Derived.Test.YtiadmbhafplepaaDoorYD
import Derived.Test.YtiadmbhafplepaaDoorYF
import Derived.Test.YtiadmbhafplepaaDoorYG
namespace Go.Proofs.YtiadmbhafplepaaDoor
open Go Go.VV Go.Proofs Go.RowKit
set_option linter.unusedSimpArgs false
set_option linter.unusedVariables false
set_option maxRecDepth 100000
theorem space_fn (rb : Nat) (t r : Tx) (hs : ∃ p, t = p ++ r) (ht : t.length ≤ 300) (va : Value) (d : Nat) (e : Int) (w : World) (hst : St w [rb] [(rb, blk (cRd t r va d e) 50)] w) : Does Tryd.prog 23 [.pointer (some ⟨rb, 0, none⟩)] w [rb] (fun v H => v = .bool (decide (spc r ≠ [])) ∧ H = [(rb, blk (cRd t (spc r) va d e) 50)]) := by
 have hl9 := suf_len hs
 refine does_of Tryd.func23 rfl rfl rfl hst ?_
 refine c_seq ?_
 refine c_region ?_
 refine RL ?_
 refine l_nil ?_
 refine c_seq ?_
 refine c_block ?_
 refine c_loop (σ := Tx) [3, 4, 5, 6, 7, 8, 9, 10, 11, 12, 13, 14, 15, 16, 17, 18, 19, 20, 21, 22, 23, 24, 25, 26, 27, 28, 29, 30, 31] (fun _ => []) (fun x => [(rb, blk (cRd t x va d e) 50)]) (fun x => (∃ p, t = p ++ x) ∧ spc x = spc r) (fun x => x.length) r ?_ ?_ ?_ ?_
 ·exact ⟨hs, rfl⟩
 ·exact .nil
 ·exact fun _ h => h
 ·rintro x y1 hx
  refine c_seq ?_
  refine c_seq ?_
  refine c_draw _ [4, 5, 6, 7, 8, 15, 16, 17, 18] (.step true 0 (.step true 1 (.step true 2 (.step true 3 (.step true 4 (.step true 5 (.step true 6 (.step true 7 (.step true 8 (.step true 9 (.step true 10 (.step true 11 (.step true 12 (.step true 13 (.step true 14 (.step true 15 (.step true 16 (.step true 17 (.step true 18 (.step true 19 (.step true 20 (.step true 21 .done)))))))))))))))))))))) rfl (by kernel_rfl) (by kernel_rfl) (fun _ h => h) ?_
  refine RD ?_
  refine RD ?_
  refine RDa ?_
  refine d_load rfl rfl rfl (s_own (v := .int .i64 ((t.length : Int) - x.length)) m_m (by rfl)) rfl rfl ?_
  refine RD ?_
  refine RD ?_
  refine RDa ?_
  refine d_load rfl rfl rfl (s_own (v := .string (bs t)) m_m (by rfl)) rfl rfl ?_
  refine d_light rfl (light_lenstr rfl rfl) rfl rfl rfl ?_
  refine RD ?_
  refine d_bool rfl rfl rfl rfl (fun h1 => ?_) (fun h1 => ?_)
  ·have h1n := r_f h1
   obtain ⟨c, u, rfl⟩ := List.exists_cons_of_ne_nil (l := x) (by rintro rfl; simp at h1n)
   refine RD ?_
   refine RD ?_
   refine RDa ?_
   refine d_load rfl rfl rfl (s_own (v := .string (bs t)) m_m (by rfl)) rfl rfl ?_
   refine RD ?_
   refine RD ?_
   refine RDa ?_
   refine d_load rfl rfl rfl (s_own (v := .int .i64 ((t.length : Int) - (c :: u).length)) m_m (by rfl)) rfl rfl ?_
   refine d_light rfl (light_idxstr (t.length - (u.length + 1)) rfl rfl rfl (by have := suf_len hx.1; simp at this ⊢; omega) (at_suf hx.1)) rfl rfl rfl ?_
   refine RD ?_
   refine RD ?_
   refine d_nil ?_
   refine c_cond rfl (fun h2 => ?_) (fun h2 => ?_)
   ·have h2n := r_f h2
    refine c_skip ?_
    refine c_block ?_
    refine c_region ?_
    refine RL ?_
    refine RL ?_
    refine RLa ?_
    refine l_x (x_load rfl rfl (at_own (v := .int .i64 ((t.length : Int) - (c :: u).length)) m_m (by rfl))) rfl rfl ?_
    rintro _ _ ⟨rfl, rfl⟩
    refine l_as (v := (.int .i64 ((t.length : Int) - u.length))) rfl rfl rfl ((as_i64 (by have := suf_len hx.1; simp at this ⊢; omega) (by simp; omega)).trans (congrArg _ (by simp; omega))) ?_
    refine RL ?_
    refine RLa ?_
    refine l_x (x_storeTo (l' := cRd t u va d e) 0 rfl rfl rfl rfl rfl rfl (Nat.le_of_ble_eq_true rfl) rfl) rfl rfl ?_
    rintro _ _ ⟨rfl, rfl⟩
    refine c_u ?_
    refine l_nil ?_
    obtain rfl : c = 32 := u8_eq (k := 32) h2n
    exact ⟨u, ⟨suf_tail hx.1, by rw [← spc_32]; exact hx.2⟩, by simp, .nil, a_g, fun _ h => h⟩
   ·have h2n := r_f h2
    refine c_exit rfl ?_
    refine c_seq ?_
    have e9 : spc (c :: u) = c :: u := spc_not (fun h => h2n (by rw [h]; rfl))
    rw [hx.2] at e9
    refine c_draw _ [4, 5, 6, 7, 8] (.step true 0 (.step true 1 (.step true 2 (.step true 3 (.step true 4 (.step true 5 (.step true 6 (.step true 7 (.step true 8 (.step true 9 (.step true 10 .done))))))))))) rfl (by kernel_rfl) (by kernel_rfl) (fun _ h => h) ?_
    refine RD ?_
    refine RD ?_
    refine RDa ?_
    refine d_load rfl rfl rfl (s_own (v := .int .i64 ((t.length : Int) - (c :: u).length)) m_m (by rfl)) rfl rfl ?_
    refine RD ?_
    refine RD ?_
    refine RDa ?_
    refine d_load rfl rfl rfl (s_own (v := .string (bs t)) m_m (by rfl)) rfl rfl ?_
    refine d_light rfl (light_lenstr rfl rfl) rfl rfl rfl ?_
    refine RD ?_
    refine RD ?_
    refine d_nil ?_
    refine c_ret ?_
    rw [e9]
    exact l_end (fun _ _ => rets_v rfl) (List.Sublist.refl _) ⟨congrArg Value.bool (by simp; omega), rfl⟩
  ·have h1n := r_f h1
   refine d_pass rfl rfl rfl ?_
   refine d_pass rfl rfl rfl ?_
   refine d_pass rfl rfl rfl ?_
   refine d_pass rfl rfl rfl ?_
   refine d_pass rfl rfl rfl ?_
   refine d_pass rfl rfl rfl ?_
   refine d_pass rfl rfl rfl ?_
   refine d_pass rfl rfl rfl ?_
   refine d_pass rfl rfl rfl ?_
   refine d_pass rfl rfl rfl ?_
   refine RD ?_
   refine d_nil ?_
   refine c_false rfl ?_
   refine c_exit rfl ?_
   refine c_seq ?_
   obtain rfl : x = [] := List.eq_nil_of_length_eq_zero (by have := suf_len hx.1; omega)
   have e9 : spc [] = [] := rfl
   rw [hx.2] at e9
   refine c_draw _ [4, 5, 6, 7, 8] (.step true 0 (.step true 1 (.step true 2 (.step true 3 (.step true 4 (.step true 5 (.step true 6 (.step true 7 (.step true 8 (.step true 9 (.step true 10 .done))))))))))) rfl (by kernel_rfl) (by kernel_rfl) (fun _ h => h) ?_
   refine RD ?_
   refine RD ?_
   refine RDa ?_
   refine d_load rfl rfl rfl (s_own (v := .int .i64 ((t.length : Int) - [].length)) m_m (by rfl)) rfl rfl ?_
   refine RD ?_
   refine RD ?_
   refine RDa ?_
   refine d_load rfl rfl rfl (s_own (v := .string (bs t)) m_m (by rfl)) rfl rfl ?_
   refine d_light rfl (light_lenstr rfl rfl) rfl rfl rfl ?_
   refine RD ?_
   refine RD ?_
   refine d_nil ?_
   refine c_ret ?_
   rw [e9]
   exact l_end (fun _ _ => rets_v rfl) (List.Sublist.refl _) ⟨congrArg Value.bool (by simp), rfl⟩

theorem fail_fn (rb : Nat) (t r : Tx) (hs : ∃ p, t = p ++ r) (ht : t.length ≤ 300) (va : Value) (d : Nat) (e : Int) (k : Int) (w : World) (hst : St w [rb] [(rb, blk (cRd t r va d e) 50)] w) : Does Tryd.prog 24 [.pointer (some ⟨rb, 0, none⟩), .int .i64 k] w [rb] (fun v H => v = .bool false ∧ H = [(rb, blk (cRd t r va d k) 50)]) := by
 refine does_of Tryd.func24 rfl rfl rfl hst ?_
 refine c_seq ?_
 refine c_region ?_
 refine RL ?_
 refine l_nil ?_
 refine c_seq ?_
 refine c_region ?_
 iterate 3 refine RL ?_
 refine RLa ?_
 refine l_x (x_storeTo (l' := cRd t r va d k) 0 rfl rfl rfl rfl rfl rfl (Nat.le_of_ble_eq_true rfl) rfl) rfl rfl ?_
 rintro _ _ ⟨rfl, rfl⟩
 refine c_u ?_
 refine l_nil ?_
 refine c_seq ?_
 refine c_region ?_
 refine RL ?_
 refine l_nil ?_
 refine c_ret ?_
 exact l_end (fun _ _ => rets_v rfl) (List.Sublist.refl _) ⟨rfl, rfl⟩

theorem put_fn (rb : Nat) (t r : Tx) (d : Nat) (e : Int) (out : List Cd) (ho : out.length ≤ 1000000) (va : Value) (G : Heap) (hV : Vec 43 2 va out.length (flat cCd out) G) (op n : Int) (w : World) (hst : St w (rb :: G.map (·.1)) ((rb, blk (cRd t r va d e) 50) :: G) w) : Does Tryd.prog 29 [.pointer (some ⟨rb, 0, none⟩), .int .i64 op, .int .i64 n] w (rb :: G.map (·.1)) (fun v H => v = .bool true ∧ ∃ va' G', Vec 43 2 va' (out.length + 1) (flat cCd (out ++ [⟨op, n⟩])) G' ∧ H = (rb, blk (cRd t r va' d e) 50) :: G') := by
 obtain ⟨a9, c9, rfl⟩ := hV.slice
 refine does_of Tryd.func29 rfl rfl rfl hst ?_
 refine c_seq ?_
 refine c_region ?_
 refine RL ?_
 refine l_nil ?_
 refine c_seq ?_
 refine c_region ?_
 iterate 3 refine RL ?_
 refine RLa ?_
 refine l_x (x_load rfl rfl (at_own (v := .slice a9 out.length c9) m_m (by rfl))) rfl rfl ?_
 rintro _ _ ⟨rfl, rfl⟩
 refine RL ?_
 refine RL ?_
 refine l_l (light_struct rfl rfl rfl rfl) rfl rfl ?_
 refine l_x (x_slc (z := [.int .i64 0, .int .i64 0]) (l := cCd ⟨op, n⟩) (ps := [(0, .agg (cCd ⟨op, n⟩).toArray)]) rfl rfl rfl rfl rfl rfl) rfl rfl ?_
 rintro _ _ ⟨b15, rfl, rfl⟩
 refine l_x (x_appendE (A := [(b15, _), (rb, _)]) (G := G) (v := .slice a9 out.length c9) (n := out.length) (xs := flat cCd out) (m := 1) (T := 43) (s := 2) (by_ := 16) (ys := cCd ⟨op, n⟩) rfl rfl rfl rfl hV (fun w hw => .row _ _ _ _ _ rfl (row_own (b := b15) (.head _) w hw)) rfl o_m o_m) rfl rfl ?_
 rintro v9 _ ⟨G9, hV9, _, rfl⟩
 obtain ⟨a8, c8, rfl⟩ := hV9.slice
 refine l_heap (fun w hw => hw.perm List.perm_append_comm) ?_
 refine c_u ?_
 refine RL ?_
 refine RLa ?_
 refine l_x (x_storeTo (l' := cRd t r (.slice a8 (out.length + 1) c8) d e) 1 rfl rfl rfl rfl rfl rfl (Nat.le_of_ble_eq_true rfl) rfl) rfl rfl ?_
 rintro _ _ ⟨rfl, rfl⟩
 refine c_u ?_
 refine l_nil ?_
 refine c_seq ?_
 refine c_region ?_
 refine RL ?_
 refine l_nil ?_
 refine c_ret ?_
 exact l_end (fun _ _ => rets_v rfl) (.cons _ (List.Sublist.refl _)) ⟨rfl, _, G9, hV9.as rfl (flat_snocd _ _), rfl⟩

theorem signs_fn (w : World) : Does Tryd.prog 31 [] w [] (fun v H => ∃ b, v = .slice (some ⟨b, 0, none⟩) 18 18 ∧ H = [(b, blk (flat cSg sgs) 55)]) := by
 refine does_of Tryd.func31 rfl rfl rfl (St.refl w) ?_
 refine c_seq ?_
 refine c_region ?_
 refine RL ?_
 refine l_nil ?_
 refine c_seq ?_
 refine c_region ?_
 refine l_l (light_struct rfl rfl rfl rfl) rfl rfl ?_
 refine l_l (light_struct rfl rfl rfl rfl) rfl rfl ?_
 refine l_l (light_struct rfl rfl rfl rfl) rfl rfl ?_
 refine l_l (light_struct rfl rfl rfl rfl) rfl rfl ?_
 refine l_l (light_struct rfl rfl rfl rfl) rfl rfl ?_
 refine l_l (light_struct rfl rfl rfl rfl) rfl rfl ?_
 refine l_l (light_struct rfl rfl rfl rfl) rfl rfl ?_
 refine l_l (light_struct rfl rfl rfl rfl) rfl rfl ?_
 refine l_l (light_struct rfl rfl rfl rfl) rfl rfl ?_
 refine l_l (light_struct rfl rfl rfl rfl) rfl rfl ?_
 refine l_l (light_struct rfl rfl rfl rfl) rfl rfl ?_
 refine l_l (light_struct rfl rfl rfl rfl) rfl rfl ?_
 refine l_l (light_struct rfl rfl rfl rfl) rfl rfl ?_
 refine l_l (light_struct rfl rfl rfl rfl) rfl rfl ?_
 refine l_l (light_struct rfl rfl rfl rfl) rfl rfl ?_
 refine l_l (light_struct rfl rfl rfl rfl) rfl rfl ?_
 refine l_l (light_struct rfl rfl rfl rfl) rfl rfl ?_
 refine l_l (light_struct rfl rfl rfl rfl) rfl rfl ?_
 refine l_x (x_slc (z := [.string (bs []), .int .i64 0, .int .i64 0]) (l := flat cSg sgs) (ps := [(0, .agg (cSg ⟨[124, 124], 7, 1⟩).toArray), (1, .agg (cSg ⟨[38, 38], 8, 2⟩).toArray), (2, .agg (cSg ⟨[61, 61], 12, 6⟩).toArray), (3, .agg (cSg ⟨[33, 61], 13, 6⟩).toArray), (4, .agg (cSg ⟨[60, 61], 15, 7⟩).toArray), (5, .agg (cSg ⟨[62, 61], 17, 7⟩).toArray), (6, .agg (cSg ⟨[60, 60], 18, 8⟩).toArray), (7, .agg (cSg ⟨[62, 62], 19, 8⟩).toArray), (8, .agg (cSg ⟨[124], 9, 3⟩).toArray), (9, .agg (cSg ⟨[94], 10, 4⟩).toArray), (10, .agg (cSg ⟨[38], 11, 5⟩).toArray), (11, .agg (cSg ⟨[60], 14, 7⟩).toArray), (12, .agg (cSg ⟨[62], 16, 7⟩).toArray), (13, .agg (cSg ⟨[43], 20, 9⟩).toArray), (14, .agg (cSg ⟨[45], 21, 9⟩).toArray), (15, .agg (cSg ⟨[42], 22, 10⟩).toArray), (16, .agg (cSg ⟨[47], 23, 10⟩).toArray), (17, .agg (cSg ⟨[37], 24, 10⟩).toArray)]) rfl rfl rfl rfl rfl (by kernel_rfl)) rfl rfl ?_
 rintro _ _ ⟨b19, rfl, rfl⟩
 refine RL ?_
 refine l_nil ?_
 refine c_ret ?_
 exact l_end (fun _ _ => rets_v rfl) (List.Sublist.refl _) ⟨b19, rfl, rfl⟩

theorem names_fn (w : World) : Does Tryd.prog 17 [] w [] (fun v H => ∃ b, v = .slice (some ⟨b, 0, none⟩) 18 18 ∧ H = [(b, blk (nms.map strV) 9)]) := by
 refine does_of Tryd.func17 rfl rfl rfl (St.refl w) ?_
 refine c_seq ?_
 refine c_region ?_
 refine RL ?_
 refine l_nil ?_
 refine c_seq ?_
 refine c_region ?_
 refine l_x (x_slc (z := [.string (bs [])]) (l := [.string (bs [97]), .string (bs [102]), .string (bs [98]), .string (bs [99]), .string (bs [100]), .string (bs [101]), .string (bs [104]), .string (bs [108]), .string (bs [97, 102]), .string (bs [98, 99]), .string (bs [100, 101]), .string (bs [104, 108]), .string (bs [115, 112]), .string (bs [112, 99]), .string (bs [97, 100, 100, 114]), .string (bs [118, 97, 108, 117, 101]), .string (bs [107, 105, 110, 100]), .string (bs [98, 97, 110, 107])]) (ps := [(0, .string (bs [97])), (1, .string (bs [102])), (2, .string (bs [98])), (3, .string (bs [99])), (4, .string (bs [100])), (5, .string (bs [101])), (6, .string (bs [104])), (7, .string (bs [108])), (8, .string (bs [97, 102])), (9, .string (bs [98, 99])), (10, .string (bs [100, 101])), (11, .string (bs [104, 108])), (12, .string (bs [115, 112])), (13, .string (bs [112, 99])), (14, .string (bs [97, 100, 100, 114])), (15, .string (bs [118, 97, 108, 117, 101])), (16, .string (bs [107, 105, 110, 100])), (17, .string (bs [98, 97, 110, 107]))]) rfl rfl rfl rfl (by kernel_rfl) (by kernel_rfl)) rfl rfl ?_
 rintro _ _ ⟨b1, rfl, rfl⟩
 refine RL ?_
 refine l_nil ?_
 refine c_ret ?_
 exact l_end (fun _ _ => rets_v rfl) (List.Sublist.refl _) ⟨b1, rfl, rfl⟩

theorem next_fn (rb : Nat) (t r : Tx) (hs : ∃ p, t = p ++ r) (ht : t.length ≤ 300) (va : Value) (d : Nat) (e : Int) (w : World) (hst : St w [rb] [(rb, blk (cRd t r va d e) 50)] w) : Does Tryd.prog 28 [.pointer (some ⟨rb, 0, none⟩)] w [rb] (fun v H => v = (match sgn (spc r) with | some s => .tuple #[.agg (cSg s).toArray, .bool true] | none => .tuple #[.agg (cSg s0).toArray, .bool false]) ∧ H = [(rb, blk (cRd t (spc r) va d e) 50)]) := by
 have hl9 := suf_len (suf_trans hs (spc_suf r))
 have hs9 := suf_trans hs (spc_suf r)
 refine does_of Tryd.func28 rfl rfl rfl hst ?_
 refine c_seq ?_
 refine c_region ?_
 refine l_x (x_alloc rfl) rfl rfl ?_
 rintro _ _ ⟨b2, rfl, rfl⟩
 refine RL ?_
 refine l_nil ?_
 refine c_seq ?_
 refine c_region ?_
 refine RL ?_
 refine l_x (x_callM (F := [(b2, _)]) (A := [(rb, _)]) (G := []) [rb] call_23 rfl (fun _ hb => mem_fst (G := [(rb, _)]) hb) (fun w hw => space_fn rb t r hs ht va d e w (St.lentV hw))) rfl rfl ?_
 rintro _ _ ⟨_, ⟨rfl, rfl⟩, rfl⟩
 refine c_u ?_
 refine l_nil ?_
 refine c_seq ?_
 refine c_seq ?_
 refine c_region ?_
 refine l_x (x_call call_31 rfl (fun w hw => signs_fn w)) rfl rfl ?_
 rintro _ _ ⟨_, ⟨b8, rfl, rfl⟩, rfl⟩
 refine c_u ?_
 refine l_l l_n rfl rfl ?_
 refine RL ?_
 refine l_nil ?_
 refine c_block ?_
 refine c_loop (σ := Nat) [3, 5, 10, 11, 12, 13, 14, 15, 16, 17, 18, 19, 20, 21, 22, 23, 24, 25, 26, 27] (fun i => [(10, .int .i64 i)]) (fun _ => [(b8, blk (flat cSg sgs) 55), (b2, blk (cSg s0) 55), (rb, blk (cRd t (spc r) va d e) 50)]) (fun i => i ≤ 18 ∧ ∀ j s', j < i → sgs[j]? = some s' → s'.text.isPrefixOf (spc r) = false) (fun i => 18 - i) 0 ?_ ?_ ?_ ?_
 ·exact ⟨Nat.zero_le _, fun j _ hj => absurd hj (Nat.not_lt_zero _)⟩
 ·exact .cons rfl .nil
 ·exact fun _ h => h
 ·rintro i y3 ⟨hi, hj9⟩
  refine c_seq ?_
  refine c_region ?_
  refine RL ?_
  refine l_nil ?_
  refine c_seq ?_
  refine c_cond rfl (fun h1 => ?_) (fun h1 => ?_)
  ·have h1n := r_f h1
   refine c_skip ?_
   refine c_seq ?_
   refine c_block ?_
   refine c_seq ?_
   obtain ⟨s, hi9⟩ : ∃ s, sgs[i]? = some s := ⟨_, List.getElem?_eq_getElem (show i < sgs.length by show i < 18; omega)⟩
   refine c_region ?_
   refine l_l (idx_slice (s := 3) i rfl rfl rfl rfl o_m) rfl rfl ?_
   refine l_x (x_loadA rfl rfl rfl (fun w hw => (row_own (b := b8) (l := flat cSg sgs) m_m w hw).nth' cSg_len hi9)) rfl rfl ?_
   rintro _ _ ⟨rfl, rfl⟩
   refine l_x (x_alloc rfl) rfl rfl ?_
   rintro _ _ ⟨b5, rfl, rfl⟩
   refine l_x (x_storeTo (l' := cSg s) 0 rfl rfl rfl rfl rfl rfl (Nat.le_of_ble_eq_true rfl) rfl) rfl rfl ?_
   rintro _ _ ⟨rfl, rfl⟩
   refine c_u ?_
   refine l_nil ?_
   refine c_seq ?_
   refine c_draw _ [4, 5, 6, 7, 9, 10] (.step true 0 (.step true 1 (.step true 2 (.step true 3 (.step true 4 (.step true 5 (.step true 6 (.step true 7 (.step true 8 (.step true 9 (.step true 10 (.step false 11 .done)))))))))))) rfl (by kernel_rfl) (by kernel_rfl) (fun _ h => h) ?_
   refine RD ?_
   refine RD ?_
   refine RDa ?_
   refine d_load rfl rfl rfl (s_own (v := .string (bs t)) m_m (by rfl)) rfl rfl ?_
   refine RD ?_
   refine RD ?_
   refine RDa ?_
   refine d_load rfl rfl rfl (s_own (v := .int .i64 ((t.length : Int) - (spc r).length)) m_m (by rfl)) rfl rfl ?_
   refine d_as (v := (.string (bs (spc r)))) rfl (light_cutS (t.length - (spc r).length) t.length rfl rfl rfl rfl (by simp; omega) rfl o_m (Nat.le_refl _)) rfl rfl rfl (congrArg (fun x => Value.string (bs x)) (cut_end hs9)) ?_
   refine RDa ?_
   refine d_load rfl rfl rfl (s_own (v := .string (bs s.text)) m_m (by rfl)) rfl rfl ?_
   refine d_x rfl (x_val call_42 rfl (fun w hw => hasP_fn (spc r) s.text w)) rfl rfl (by first | (intro h; cases h; done) | (intro _ _ _ hK x hx; obtain ⟨_, rfl⟩ := hK; exact hx)) ?_
   rintro _ _ ⟨rfl, rfl⟩
   refine d_nil ?_
   refine c_cond rfl (fun h2 => ?_) (fun h2 => ?_)
   ·have h2n := r_f h2
    refine c_seq ?_
    refine c_region ?_
    refine l_x (x_loadA rfl rfl rfl (row_own (l := cSg s) m_m)) rfl rfl ?_
    rintro _ _ ⟨rfl, rfl⟩
    refine l_x (x_storeTo (l' := cSg s) 2 rfl rfl rfl rfl rfl rfl (Nat.le_of_ble_eq_true rfl) rfl) rfl rfl ?_
    rintro _ _ ⟨rfl, rfl⟩
    refine c_u ?_
    refine RL ?_
    refine l_nil ?_
    refine c_ret ?_
    rw [sgn_at hj9 hi9 h2]
    exact l_end (fun w hw => rets_cell2 rfl rfl rfl (row_own (b := b2) (l := cSg s) m_m w hw) rfl) (.cons _ (.cons _ (.cons _ (List.Sublist.refl _)))) ⟨rfl, rfl⟩
   ·have h2n := r_f h2
    refine c_skip ?_
    refine c_region ?_
    refine l_as (v := (.int .i64 ((i + 1 : Nat) : Int))) rfl rfl rfl (congrArg _ (succ_law o_m)) ?_
    refine RL ?_
    refine l_nil ?_
    exact ⟨i + 1, ⟨by omega, fun j s' hj hs' => by rcases Nat.lt_succ_iff_lt_or_eq.1 hj with h | rfl; exact hj9 j s' h hs'; rw [hi9] at hs'; cases hs'; exact h2⟩, by omega, .cons rfl .nil, a_g, fun _ h => h.sub (.cons _ (List.Sublist.refl _))⟩
  ·have h1n := r_f h1
   refine c_exit rfl ?_
   refine c_seq ?_
   refine c_region ?_
   refine l_l (light_struct rfl rfl rfl rfl) rfl rfl ?_
   refine l_x (x_storeTo (l' := cSg s0) 1 rfl rfl rfl rfl rfl rfl (Nat.le_of_ble_eq_true rfl) rfl) rfl rfl ?_
   rintro _ _ ⟨rfl, rfl⟩
   refine c_u ?_
   refine RL ?_
   refine l_nil ?_
   refine c_ret ?_
   rw [sgn_no (fun j s' hj hs' => hj9 j s' o_m hs')]
   exact l_end (fun w hw => rets_cell2 rfl rfl rfl (row_own (b := b2) (l := cSg s0) m_m w hw) rfl) (.cons _ (.cons _ (List.Sublist.refl _))) ⟨rfl, rfl⟩

end Go.Proofs.YtiadmbhafplepaaDoor
namespace Go.Proofs.YtiadmbhafplepaaDoor
open Go Go.VV Go.Proofs Go.RowKit
set_option linter.unusedSimpArgs false
set_option linter.unusedVariables false
set_option maxRecDepth 100000
/-- The reader in memory: what is left of the text, the orders, the depth, the error. -/
def RdH (rb : Nat) (t r : Tx) (out : List Cd) (d : Nat) (e : Int) (H : Heap) : Prop := ∃ va G, Vec 43 2 va out.length (flat cCd out) G ∧ H = (rb, blk (cRd t r va d e) 50) :: G
/-- What a call of the reader answers, and leaves. -/
def AnsH (rb : Nat) (t : Tx) (d : Nat) (q : Rs) (v : Value) (H : Heap) : Prop := match q with
 | .ok r o => v = .bool true ∧ RdH rb t r o d 0 H
 | .no r e => v = .bool false ∧ ∃ o, RdH rb t r o d e H
 | .dry => False
theorem GlE.lt {w : World} (h : GlE w) : 2 < w.heap.size := by
 obtain ⟨T, p, hc⟩ := h
 rcases Nat.lt_or_ge 2 w.heap.size with h | h
 ·exact h
 ·exfalso
  unfold World.cell? at hc
  simp only at hc
  rw [Array.getElem?_eq_none h] at hc
  cases hc
theorem GlE.out {w0 w : World} {ms : List Nat} {H : Heap} (h : GlE w0) (hm : 2 ∉ ms) (hw : St w0 ms H w) : 2 ∉ H.map (·.1) := fun hx => by
 obtain ⟨x, hx1, hx2⟩ := List.mem_map.1 hx
 rcases hw.own x hx1 with h1 | h1
 ·exact hm (hx2 ▸ h1)
 ·have := h.lt; omega
theorem pu_some {c : UInt8} {base d : Nat} (hb : base = 10 ∨ base = 16) (h : digV base c = some d) (w : World) (hG : GlE w) : Does Tryd.prog 45 [.string (bs [c]), .int .i64 base, .int .i64 8] w [] (fun v H => H = [] ∧ v = .tuple #[.int .u64 (d : Int), .nilIface]) := by
 have h9 := pu_fn c base hb w hG
 rw [h] at h9
 exact h9
theorem pu_none {c : UInt8} {base : Nat} (hb : base = 10 ∨ base = 16) (h : digV base c = none) (w : World) (hG : GlE w) : Does Tryd.prog 45 [.string (bs [c]), .int .i64 base, .int .i64 8] w [] (fun v H => ∃ b, v = .tuple #[.int .u64 0, .iface 89 (.pointer (some ⟨b, 0, none⟩))]) := by
 have h9 := pu_fn c base hb w hG
 rw [h] at h9
 exact h9

theorem number_fn (rb : Nat) (t r : Tx) (hs : ∃ p, t = p ++ r) (ht : t.length ≤ 300) (a : Tx) (ha : ∃ p, t = p ++ a) (base : Nat) (hb : base = 10 ∨ base = 16) (out : List Cd) (ho : out.length ≤ 100000) (va : Value) (G : Heap) (hV : Vec 43 2 va out.length (flat cCd out) G) (d : Nat) (hm : 2 ∉ rb :: G.map (·.1)) (w : World) (hGl : GlE w) (hst : St w (rb :: G.map (·.1)) ((rb, blk (cRd t a va d 0) 50) :: G) w) : Does Tryd.prog 39 [.pointer (some ⟨rb, 0, none⟩), .int .i64 ((t.length : Int) - r.length), .int .i64 base] w (rb :: G.map (·.1)) (fun v H => AnsH rb t d (numR base r a out) v H) := by
 have hrl9 := suf_len hs
 refine does_of Tryd.func39 rfl rfl rfl hst ?_
 refine c_seq ?_
 refine c_region ?_
 refine RL ?_
 refine l_nil ?_
 refine c_seq ?_
 rcases hb with rfl | rfl
 ·refine c_region ?_
  iterate 3 refine RL ?_
  refine l_nil ?_
  refine c_seq ?_
  refine c_block ?_
  refine c_loop (σ := Tx × Nat) [7, 8, 9, 10, 12, 13, 14, 15, 16, 17, 18, 19, 20, 21, 22, 23, 24, 25, 26, 27, 28, 29, 30, 31, 32, 33, 34, 35, 36, 37, 38, 39, 40, 41, 42] (fun q => [(7, .int .i64 q.2), (8, .int .i64 ((t.length : Int) - q.1.length))]) (fun _ => (rb, blk (cRd t a va d 0) 50) :: G) (fun q => (∃ p, t = p ++ q.1) ∧ numL 10 r 0 = numL 10 q.1 q.2 ∧ q.2 ≤ 1099511627776 ∧ q.1.length ≤ r.length) (fun q => q.1.length) (r, 0) ?_ ?_ ?_ ?_
  ·exact ⟨hs, rfl, Nat.zero_le _, Nat.le_refl _⟩
  ·exact .cons rfl (.cons rfl .nil)
  ·exact fun _ h => h
  ·rintro ⟨x, n⟩ y2 hx
   dsimp only at hx ⊢
   refine c_seq ?_
   refine c_seq ?_
   refine c_region ?_
   iterate 3 refine RL ?_
   refine RLa ?_
   refine l_x (x_load rfl rfl (at_own (v := .string (bs t)) m_m (by rfl))) rfl rfl ?_
   rintro _ _ ⟨rfl, rfl⟩
   refine l_l (light_lenstr rfl rfl) rfl rfl ?_
   refine RL ?_
   refine l_nil ?_
   refine c_cond rfl (fun h1 => ?_) (fun h1 => ?_)
   ·have h1n := r_f h1
    refine c_skip ?_
    refine c_seq ?_
    refine c_block ?_
    refine c_seq ?_
    obtain ⟨c, u, rfl⟩ := List.exists_cons_of_ne_nil (l := x) (by rintro rfl; simp at h1)
    have hxl9 := suf_len hx.1
    simp only [List.length_cons] at hxl9
    rcases hd9 : digV 10 c with _ | dv
    ·refine c_region ?_
     refine RL ?_
     refine RL ?_
     refine RLa ?_
     refine l_x (x_load rfl rfl (at_own (v := .string (bs t)) m_m (by rfl))) rfl rfl ?_
     rintro _ _ ⟨rfl, rfl⟩
     refine RL ?_
     refine RL ?_
     refine l_as (v := (.int .i64 ((t.length : Int) - u.length))) rfl rfl rfl ((as_i64 (by simp; omega) (by simp; omega)).trans (congrArg _ (by simp; omega))) ?_
     refine l_as (v := (.string (bs [c]))) (light_cutstr (t.length - (u.length + 1)) (t.length - u.length) rfl rfl rfl rfl (by simp; omega) o_m o_m o_m) rfl rfl (congrArg (fun x => Value.string (bs x)) (cut_one hx.1 _ o_m)) ?_
     refine RL ?_
     refine l_x (x_call call_45 rfl (fun w hw => pu_none (by decide) hd9 w (later_in hGl hm hw))) rfl rfl ?_
     rintro _ _ ⟨G31, ⟨b31, rfl⟩, rfl⟩
     refine l_heap (fun w h => h.sub (List.sublist_append_right _ _)) ?_
     iterate 5 refine RL ?_
     refine l_nil ?_
     refine c_seq ?_
     refine c_seq ?_
     refine c_region ?_
     refine RL ?_
     refine l_sure true rfl rfl rfl rfl ?_
     refine l_nil ?_
     refine c_true rfl ?_
     refine c_exit rfl ?_
     refine c_seq ?_
     refine c_seq ?_
     have hq9 : numL 10 r 0 = (n, c :: u) := hx.2.1.trans (numL_none hd9 u n)
     have hxl8 := hx.2.2.2
     refine c_region ?_
     iterate 3 refine RL ?_
     refine l_nil ?_
     refine c_cond rfl (fun h2 => ?_) (fun h2 => ?_)
     ·have h2n := r_f h2
      refine c_seq ?_
      have hel9 : (c :: u).length = r.length := by simp at h2n ⊢; omega
      refine c_region ?_
      iterate 3 refine RL ?_
      refine RLa ?_
      refine l_x (x_storeTo (l' := cRd t r va d 0) 0 rfl rfl rfl rfl rfl rfl (Nat.le_of_ble_eq_true rfl) rfl) rfl rfl ?_
      rintro _ _ ⟨rfl, rfl⟩
      refine c_u ?_
      refine l_nil ?_
      refine c_seq ?_
      refine c_region ?_
      refine RL ?_
      refine l_x (x_callM (F := []) (A := [(rb, _)]) (G := _) [rb] call_24 rfl (fun _ hb => mem_fst (G := [(rb, _)]) hb) (fun w hw => fail_fn rb t r hs ht _ d 0 11 w (St.lentV hw))) rfl rfl ?_
      rintro _ _ ⟨_, ⟨rfl, rfl⟩, rfl⟩
      refine c_u ?_
      refine RL ?_
      refine l_nil ?_
      refine c_ret ?_
      rw [numR_same hq9 o_m]
      exact l_end (fun _ _ => rets_v rfl) (List.Sublist.refl _) ⟨rfl, out, va, G, hV, rfl⟩
     ·have h2n := r_f h2
      refine c_skip ?_
      refine c_seq ?_
      refine c_seq ?_
      have hel9 : ¬ (c :: u).length = r.length := by simp at h2n ⊢; omega
      refine c_region ?_
      refine RL ?_
      refine RL ?_
      refine l_nil ?_
      refine c_cond rfl (fun h3 => ?_) (fun h3 => ?_)
      ·have h3n := r_f h3
       refine c_seq ?_
       refine c_region ?_
       refine RL ?_
       refine l_x (x_callM (F := []) (A := [(rb, _)]) (G := _) [rb] call_24 rfl (fun _ hb => mem_fst (G := [(rb, _)]) hb) (fun w hw => fail_fn rb t a ha ht _ d 0 11 w (St.lentV hw))) rfl rfl ?_
       rintro _ _ ⟨_, ⟨rfl, rfl⟩, rfl⟩
       refine c_u ?_
       refine RL ?_
       refine l_nil ?_
       refine c_ret ?_
       rw [numR_big hq9 o_m o_m]
       exact l_end (fun _ _ => rets_v rfl) (List.Sublist.refl _) ⟨rfl, out, va, G, hV, rfl⟩
      ·have h3n := r_f h3
       refine c_skip ?_
       refine c_seq ?_
       refine c_region ?_
       iterate 3 refine RL ?_
       refine RLa ?_
       refine l_x (x_storeTo (l' := cRd t (c :: u) va d 0) 0 rfl rfl rfl rfl rfl rfl (Nat.le_of_ble_eq_true rfl) rfl) rfl rfl ?_
       rintro _ _ ⟨rfl, rfl⟩
       refine c_u ?_
       refine l_nil ?_
       refine c_seq ?_
       refine c_region ?_
       refine RL ?_
       refine RL ?_
       refine l_x (x_callT (F := []) (A := (rb, _) :: _) call_29 rfl (fun w hw => put_fn rb t (c :: u) d 0 out o_m va G hV 1 n w (St.lentV hw))) rfl rfl ?_
       rintro _ _ ⟨_, ⟨rfl, va2, G2, hV2, rfl⟩, rfl⟩
       refine RL ?_
       refine l_nil ?_
       refine c_ret ?_
       rw [numR_is hq9 o_m o_m]
       exact l_end (fun _ _ => rets_v rfl) (List.Sublist.refl _) ⟨rfl, va2, G2, by rw [List.length_append]; exact hV2, rfl⟩
    ·refine c_region ?_
     refine RL ?_
     refine RL ?_
     refine RLa ?_
     refine l_x (x_load rfl rfl (at_own (v := .string (bs t)) m_m (by rfl))) rfl rfl ?_
     rintro _ _ ⟨rfl, rfl⟩
     refine RL ?_
     refine RL ?_
     refine l_as (v := (.int .i64 ((t.length : Int) - u.length))) rfl rfl rfl ((as_i64 (by simp; omega) (by simp; omega)).trans (congrArg _ (by simp; omega))) ?_
     refine l_as (v := (.string (bs [c]))) (light_cutstr (t.length - (u.length + 1)) (t.length - u.length) rfl rfl rfl rfl (by simp; omega) o_m o_m o_m) rfl rfl (congrArg (fun x => Value.string (bs x)) (cut_one hx.1 _ o_m)) ?_
     refine RL ?_
     refine RLv call_45 (fun w hw => pu_some (by decide) hd9 w (later_in hGl hm hw)) ?_
     iterate 5 refine RL ?_
     refine l_nil ?_
     refine c_seq ?_
     refine c_seq ?_
     refine c_region ?_
     refine RL ?_
     refine l_sure false rfl rfl rfl rfl ?_
     refine l_nil ?_
     refine c_false rfl ?_
     refine c_skip ?_
     refine c_region ?_
     refine RL ?_
     refine RL ?_
     have hdl9 := dig_lt hd9
     refine l_as (v := (.int .i64 ((n * 10 : Nat) : Int))) (l_mul rfl rfl) rfl rfl ((as_i64 o_m o_m).trans (congrArg _ o_m)) ?_
     refine RL ?_
     refine l_as (v := (.int .i64 (dv : Int))) rfl rfl rfl (as_i64 o_m o_m) ?_
     refine l_as (v := (.int .i64 ((n * 10 + dv : Nat) : Int))) rfl rfl rfl ((as_i64 o_m o_m).trans (congrArg _ o_m)) ?_
     refine l_as (v := (.int .i64 ((min (n * 10 + dv) 1099511627776 : Nat) : Int))) (light_min rfl rfl) rfl rfl (congrArg _ o_m) ?_
     refine RL ?_
     refine l_nil ?_
     refine c_region ?_
     refine RL ?_
     refine l_as (v := (.int .i64 ((t.length : Int) - u.length))) rfl rfl rfl ((as_i64 (by simp; omega) (by simp; omega)).trans (congrArg _ (by simp; omega))) ?_
     refine RL ?_
     refine l_nil ?_
     exact ⟨(u, min (n * 10 + dv) 1099511627776), ⟨suf_tail hx.1, by rw [hx.2.1, numL_some hd9], Nat.min_le_right _ _, by have := hx.2.2.2; simp at this ⊢; omega⟩, by simp, .cons rfl (.cons rfl .nil), a_g, fun _ h => h⟩
   ·have h1n := r_f h1
    refine c_exit rfl ?_
    refine c_seq ?_
    refine c_seq ?_
    obtain rfl : x = [] := List.eq_nil_of_length_eq_zero (by have := suf_len hx.1; omega)
    have hq9 : numL 10 r 0 = (n, []) := hx.2.1.trans (numL_nil 10 n)
    have hxl8 := hx.2.2.2
    refine c_region ?_
    iterate 3 refine RL ?_
    refine l_nil ?_
    refine c_cond rfl (fun h4 => ?_) (fun h4 => ?_)
    ·have h4n := r_f h4
     refine c_seq ?_
     have hel9 : ([] : Tx).length = r.length := by simp at h4n ⊢; omega
     refine c_region ?_
     iterate 3 refine RL ?_
     refine RLa ?_
     refine l_x (x_storeTo (l' := cRd t r va d 0) 0 rfl rfl rfl rfl rfl rfl (Nat.le_of_ble_eq_true rfl) rfl) rfl rfl ?_
     rintro _ _ ⟨rfl, rfl⟩
     refine c_u ?_
     refine l_nil ?_
     refine c_seq ?_
     refine c_region ?_
     refine RL ?_
     refine l_x (x_callM (F := []) (A := [(rb, _)]) (G := _) [rb] call_24 rfl (fun _ hb => mem_fst (G := [(rb, _)]) hb) (fun w hw => fail_fn rb t r hs ht _ d 0 11 w (St.lentV hw))) rfl rfl ?_
     rintro _ _ ⟨_, ⟨rfl, rfl⟩, rfl⟩
     refine c_u ?_
     refine RL ?_
     refine l_nil ?_
     refine c_ret ?_
     rw [numR_same hq9 o_m]
     exact l_end (fun _ _ => rets_v rfl) (List.Sublist.refl _) ⟨rfl, out, va, G, hV, rfl⟩
    ·have h4n := r_f h4
     refine c_skip ?_
     refine c_seq ?_
     refine c_seq ?_
     have hel9 : ¬ ([] : Tx).length = r.length := by simp at h4n ⊢; omega
     refine c_region ?_
     refine RL ?_
     refine RL ?_
     refine l_nil ?_
     refine c_cond rfl (fun h5 => ?_) (fun h5 => ?_)
     ·have h5n := r_f h5
      refine c_seq ?_
      refine c_region ?_
      refine RL ?_
      refine l_x (x_callM (F := []) (A := [(rb, _)]) (G := _) [rb] call_24 rfl (fun _ hb => mem_fst (G := [(rb, _)]) hb) (fun w hw => fail_fn rb t a ha ht _ d 0 11 w (St.lentV hw))) rfl rfl ?_
      rintro _ _ ⟨_, ⟨rfl, rfl⟩, rfl⟩
      refine c_u ?_
      refine RL ?_
      refine l_nil ?_
      refine c_ret ?_
      rw [numR_big hq9 o_m o_m]
      exact l_end (fun _ _ => rets_v rfl) (List.Sublist.refl _) ⟨rfl, out, va, G, hV, rfl⟩
     ·have h5n := r_f h5
      refine c_skip ?_
      refine c_seq ?_
      refine c_region ?_
      iterate 3 refine RL ?_
      refine RLa ?_
      refine l_x (x_storeTo (l' := cRd t ([] : Tx) va d 0) 0 rfl rfl rfl rfl rfl rfl (Nat.le_of_ble_eq_true rfl) rfl) rfl rfl ?_
      rintro _ _ ⟨rfl, rfl⟩
      refine c_u ?_
      refine l_nil ?_
      refine c_seq ?_
      refine c_region ?_
      refine RL ?_
      refine RL ?_
      refine l_x (x_callT (F := []) (A := (rb, _) :: _) call_29 rfl (fun w hw => put_fn rb t ([] : Tx) d 0 out o_m va G hV 1 n w (St.lentV hw))) rfl rfl ?_
      rintro _ _ ⟨_, ⟨rfl, va2, G2, hV2, rfl⟩, rfl⟩
      refine RL ?_
      refine l_nil ?_
      refine c_ret ?_
      rw [numR_is hq9 o_m o_m]
      exact l_end (fun _ _ => rets_v rfl) (List.Sublist.refl _) ⟨rfl, va2, G2, by rw [List.length_append]; exact hV2, rfl⟩
 ·refine c_region ?_
  iterate 3 refine RL ?_
  refine l_nil ?_
  refine c_seq ?_
  refine c_block ?_
  refine c_loop (σ := Tx × Nat) [7, 8, 9, 10, 12, 13, 14, 15, 16, 17, 18, 19, 20, 21, 22, 23, 24, 25, 26, 27, 28, 29, 30, 31, 32, 33, 34, 35, 36, 37, 38, 39, 40, 41, 42] (fun q => [(7, .int .i64 q.2), (8, .int .i64 ((t.length : Int) - q.1.length))]) (fun _ => (rb, blk (cRd t a va d 0) 50) :: G) (fun q => (∃ p, t = p ++ q.1) ∧ numL 16 r 0 = numL 16 q.1 q.2 ∧ q.2 ≤ 1099511627776 ∧ q.1.length ≤ r.length) (fun q => q.1.length) (r, 0) ?_ ?_ ?_ ?_
  ·exact ⟨hs, rfl, Nat.zero_le _, Nat.le_refl _⟩
  ·exact .cons rfl (.cons rfl .nil)
  ·exact fun _ h => h
  ·rintro ⟨x, n⟩ y2 hx
   dsimp only at hx ⊢
   refine c_seq ?_
   refine c_seq ?_
   refine c_region ?_
   iterate 3 refine RL ?_
   refine RLa ?_
   refine l_x (x_load rfl rfl (at_own (v := .string (bs t)) m_m (by rfl))) rfl rfl ?_
   rintro _ _ ⟨rfl, rfl⟩
   refine l_l (light_lenstr rfl rfl) rfl rfl ?_
   refine RL ?_
   refine l_nil ?_
   refine c_cond rfl (fun h6 => ?_) (fun h6 => ?_)
   ·have h6n := r_f h6
    refine c_skip ?_
    refine c_seq ?_
    refine c_block ?_
    refine c_seq ?_
    obtain ⟨c, u, rfl⟩ := List.exists_cons_of_ne_nil (l := x) (by rintro rfl; simp at h6)
    have hxl9 := suf_len hx.1
    simp only [List.length_cons] at hxl9
    rcases hd9 : digV 16 c with _ | dv
    ·refine c_region ?_
     refine RL ?_
     refine RL ?_
     refine RLa ?_
     refine l_x (x_load rfl rfl (at_own (v := .string (bs t)) m_m (by rfl))) rfl rfl ?_
     rintro _ _ ⟨rfl, rfl⟩
     refine RL ?_
     refine RL ?_
     refine l_as (v := (.int .i64 ((t.length : Int) - u.length))) rfl rfl rfl ((as_i64 (by simp; omega) (by simp; omega)).trans (congrArg _ (by simp; omega))) ?_
     refine l_as (v := (.string (bs [c]))) (light_cutstr (t.length - (u.length + 1)) (t.length - u.length) rfl rfl rfl rfl (by simp; omega) o_m o_m o_m) rfl rfl (congrArg (fun x => Value.string (bs x)) (cut_one hx.1 _ o_m)) ?_
     refine RL ?_
     refine l_x (x_call call_45 rfl (fun w hw => pu_none (by decide) hd9 w (later_in hGl hm hw))) rfl rfl ?_
     rintro _ _ ⟨G31, ⟨b31, rfl⟩, rfl⟩
     refine l_heap (fun w h => h.sub (List.sublist_append_right _ _)) ?_
     iterate 5 refine RL ?_
     refine l_nil ?_
     refine c_seq ?_
     refine c_seq ?_
     refine c_region ?_
     refine RL ?_
     refine l_sure true rfl rfl rfl rfl ?_
     refine l_nil ?_
     refine c_true rfl ?_
     refine c_exit rfl ?_
     refine c_seq ?_
     refine c_seq ?_
     have hq9 : numL 16 r 0 = (n, c :: u) := hx.2.1.trans (numL_none hd9 u n)
     have hxl8 := hx.2.2.2
     refine c_region ?_
     iterate 3 refine RL ?_
     refine l_nil ?_
     refine c_cond rfl (fun h7 => ?_) (fun h7 => ?_)
     ·have h7n := r_f h7
      refine c_seq ?_
      have hel9 : (c :: u).length = r.length := by simp at h7n ⊢; omega
      refine c_region ?_
      iterate 3 refine RL ?_
      refine RLa ?_
      refine l_x (x_storeTo (l' := cRd t r va d 0) 0 rfl rfl rfl rfl rfl rfl (Nat.le_of_ble_eq_true rfl) rfl) rfl rfl ?_
      rintro _ _ ⟨rfl, rfl⟩
      refine c_u ?_
      refine l_nil ?_
      refine c_seq ?_
      refine c_region ?_
      refine RL ?_
      refine l_x (x_callM (F := []) (A := [(rb, _)]) (G := _) [rb] call_24 rfl (fun _ hb => mem_fst (G := [(rb, _)]) hb) (fun w hw => fail_fn rb t r hs ht _ d 0 11 w (St.lentV hw))) rfl rfl ?_
      rintro _ _ ⟨_, ⟨rfl, rfl⟩, rfl⟩
      refine c_u ?_
      refine RL ?_
      refine l_nil ?_
      refine c_ret ?_
      rw [numR_same hq9 o_m]
      exact l_end (fun _ _ => rets_v rfl) (List.Sublist.refl _) ⟨rfl, out, va, G, hV, rfl⟩
     ·have h7n := r_f h7
      refine c_skip ?_
      refine c_seq ?_
      refine c_seq ?_
      have hel9 : ¬ (c :: u).length = r.length := by simp at h7n ⊢; omega
      refine c_region ?_
      refine RL ?_
      refine RL ?_
      refine l_nil ?_
      refine c_cond rfl (fun h8 => ?_) (fun h8 => ?_)
      ·have h8n := r_f h8
       refine c_seq ?_
       refine c_region ?_
       refine RL ?_
       refine l_x (x_callM (F := []) (A := [(rb, _)]) (G := _) [rb] call_24 rfl (fun _ hb => mem_fst (G := [(rb, _)]) hb) (fun w hw => fail_fn rb t a ha ht _ d 0 11 w (St.lentV hw))) rfl rfl ?_
       rintro _ _ ⟨_, ⟨rfl, rfl⟩, rfl⟩
       refine c_u ?_
       refine RL ?_
       refine l_nil ?_
       refine c_ret ?_
       rw [numR_big hq9 o_m o_m]
       exact l_end (fun _ _ => rets_v rfl) (List.Sublist.refl _) ⟨rfl, out, va, G, hV, rfl⟩
      ·have h8n := r_f h8
       refine c_skip ?_
       refine c_seq ?_
       refine c_region ?_
       iterate 3 refine RL ?_
       refine RLa ?_
       refine l_x (x_storeTo (l' := cRd t (c :: u) va d 0) 0 rfl rfl rfl rfl rfl rfl (Nat.le_of_ble_eq_true rfl) rfl) rfl rfl ?_
       rintro _ _ ⟨rfl, rfl⟩
       refine c_u ?_
       refine l_nil ?_
       refine c_seq ?_
       refine c_region ?_
       refine RL ?_
       refine RL ?_
       refine l_x (x_callT (F := []) (A := (rb, _) :: _) call_29 rfl (fun w hw => put_fn rb t (c :: u) d 0 out o_m va G hV 1 n w (St.lentV hw))) rfl rfl ?_
       rintro _ _ ⟨_, ⟨rfl, va2, G2, hV2, rfl⟩, rfl⟩
       refine RL ?_
       refine l_nil ?_
       refine c_ret ?_
       rw [numR_is hq9 o_m o_m]
       exact l_end (fun _ _ => rets_v rfl) (List.Sublist.refl _) ⟨rfl, va2, G2, by rw [List.length_append]; exact hV2, rfl⟩
    ·refine c_region ?_
     refine RL ?_
     refine RL ?_
     refine RLa ?_
     refine l_x (x_load rfl rfl (at_own (v := .string (bs t)) m_m (by rfl))) rfl rfl ?_
     rintro _ _ ⟨rfl, rfl⟩
     refine RL ?_
     refine RL ?_
     refine l_as (v := (.int .i64 ((t.length : Int) - u.length))) rfl rfl rfl ((as_i64 (by simp; omega) (by simp; omega)).trans (congrArg _ (by simp; omega))) ?_
     refine l_as (v := (.string (bs [c]))) (light_cutstr (t.length - (u.length + 1)) (t.length - u.length) rfl rfl rfl rfl (by simp; omega) o_m o_m o_m) rfl rfl (congrArg (fun x => Value.string (bs x)) (cut_one hx.1 _ o_m)) ?_
     refine RL ?_
     refine RLv call_45 (fun w hw => pu_some (by decide) hd9 w (later_in hGl hm hw)) ?_
     iterate 5 refine RL ?_
     refine l_nil ?_
     refine c_seq ?_
     refine c_seq ?_
     refine c_region ?_
     refine RL ?_
     refine l_sure false rfl rfl rfl rfl ?_
     refine l_nil ?_
     refine c_false rfl ?_
     refine c_skip ?_
     refine c_region ?_
     refine RL ?_
     refine RL ?_
     have hdl9 := dig_lt hd9
     refine l_as (v := (.int .i64 ((n * 16 : Nat) : Int))) (l_mul rfl rfl) rfl rfl ((as_i64 o_m o_m).trans (congrArg _ o_m)) ?_
     refine RL ?_
     refine l_as (v := (.int .i64 (dv : Int))) rfl rfl rfl (as_i64 o_m o_m) ?_
     refine l_as (v := (.int .i64 ((n * 16 + dv : Nat) : Int))) rfl rfl rfl ((as_i64 o_m o_m).trans (congrArg _ o_m)) ?_
     refine l_as (v := (.int .i64 ((min (n * 16 + dv) 1099511627776 : Nat) : Int))) (light_min rfl rfl) rfl rfl (congrArg _ o_m) ?_
     refine RL ?_
     refine l_nil ?_
     refine c_region ?_
     refine RL ?_
     refine l_as (v := (.int .i64 ((t.length : Int) - u.length))) rfl rfl rfl ((as_i64 (by simp; omega) (by simp; omega)).trans (congrArg _ (by simp; omega))) ?_
     refine RL ?_
     refine l_nil ?_
     exact ⟨(u, min (n * 16 + dv) 1099511627776), ⟨suf_tail hx.1, by rw [hx.2.1, numL_some hd9], Nat.min_le_right _ _, by have := hx.2.2.2; simp at this ⊢; omega⟩, by simp, .cons rfl (.cons rfl .nil), a_g, fun _ h => h⟩
   ·have h6n := r_f h6
    refine c_exit rfl ?_
    refine c_seq ?_
    refine c_seq ?_
    obtain rfl : x = [] := List.eq_nil_of_length_eq_zero (by have := suf_len hx.1; omega)
    have hq9 : numL 16 r 0 = (n, []) := hx.2.1.trans (numL_nil 16 n)
    have hxl8 := hx.2.2.2
    refine c_region ?_
    iterate 3 refine RL ?_
    refine l_nil ?_
    refine c_cond rfl (fun h9 => ?_) (fun h9 => ?_)
    ·have h9n := r_f h9
     refine c_seq ?_
     have hel9 : ([] : Tx).length = r.length := by simp at h9n ⊢; omega
     refine c_region ?_
     iterate 3 refine RL ?_
     refine RLa ?_
     refine l_x (x_storeTo (l' := cRd t r va d 0) 0 rfl rfl rfl rfl rfl rfl (Nat.le_of_ble_eq_true rfl) rfl) rfl rfl ?_
     rintro _ _ ⟨rfl, rfl⟩
     refine c_u ?_
     refine l_nil ?_
     refine c_seq ?_
     refine c_region ?_
     refine RL ?_
     refine l_x (x_callM (F := []) (A := [(rb, _)]) (G := _) [rb] call_24 rfl (fun _ hb => mem_fst (G := [(rb, _)]) hb) (fun w hw => fail_fn rb t r hs ht _ d 0 11 w (St.lentV hw))) rfl rfl ?_
     rintro _ _ ⟨_, ⟨rfl, rfl⟩, rfl⟩
     refine c_u ?_
     refine RL ?_
     refine l_nil ?_
     refine c_ret ?_
     rw [numR_same hq9 o_m]
     exact l_end (fun _ _ => rets_v rfl) (List.Sublist.refl _) ⟨rfl, out, va, G, hV, rfl⟩
    ·have h9n := r_f h9
     refine c_skip ?_
     refine c_seq ?_
     refine c_seq ?_
     have hel9 : ¬ ([] : Tx).length = r.length := by simp at h9n ⊢; omega
     refine c_region ?_
     refine RL ?_
     refine RL ?_
     refine l_nil ?_
     refine c_cond rfl (fun h10 => ?_) (fun h10 => ?_)
     ·have h10n := r_f h10
      refine c_seq ?_
      refine c_region ?_
      refine RL ?_
      refine l_x (x_callM (F := []) (A := [(rb, _)]) (G := _) [rb] call_24 rfl (fun _ hb => mem_fst (G := [(rb, _)]) hb) (fun w hw => fail_fn rb t a ha ht _ d 0 11 w (St.lentV hw))) rfl rfl ?_
      rintro _ _ ⟨_, ⟨rfl, rfl⟩, rfl⟩
      refine c_u ?_
      refine RL ?_
      refine l_nil ?_
      refine c_ret ?_
      rw [numR_big hq9 o_m o_m]
      exact l_end (fun _ _ => rets_v rfl) (List.Sublist.refl _) ⟨rfl, out, va, G, hV, rfl⟩
     ·have h10n := r_f h10
      refine c_skip ?_
      refine c_seq ?_
      refine c_region ?_
      iterate 3 refine RL ?_
      refine RLa ?_
      refine l_x (x_storeTo (l' := cRd t ([] : Tx) va d 0) 0 rfl rfl rfl rfl rfl rfl (Nat.le_of_ble_eq_true rfl) rfl) rfl rfl ?_
      rintro _ _ ⟨rfl, rfl⟩
      refine c_u ?_
      refine l_nil ?_
      refine c_seq ?_
      refine c_region ?_
      refine RL ?_
      refine RL ?_
      refine l_x (x_callT (F := []) (A := (rb, _) :: _) call_29 rfl (fun w hw => put_fn rb t ([] : Tx) d 0 out o_m va G hV 1 n w (St.lentV hw))) rfl rfl ?_
      rintro _ _ ⟨_, ⟨rfl, va2, G2, hV2, rfl⟩, rfl⟩
      refine RL ?_
      refine l_nil ?_
      refine c_ret ?_
      rw [numR_is hq9 o_m o_m]
      exact l_end (fun _ _ => rets_v rfl) (List.Sublist.refl _) ⟨rfl, va2, G2, by rw [List.length_append]; exact hV2, rfl⟩

theorem name_fn (rb : Nat) (t r : Tx) (hs : ∃ p, t = p ++ r) (ht : t.length ≤ 300) (out : List Cd) (ho : out.length ≤ 100000) (va : Value) (G : Heap) (hV : Vec 43 2 va out.length (flat cCd out) G) (d : Nat) (hm : 2 ∉ rb :: G.map (·.1)) (w : World) (hGl : GlE w) (hst : St w (rb :: G.map (·.1)) ((rb, blk (cRd t r va d 0) 50) :: G) w) : Does Tryd.prog 41 [.pointer (some ⟨rb, 0, none⟩)] w (rb :: G.map (·.1)) (fun v H => AnsH rb t d (nameR r out) v H) := by
 have hrl9 := suf_len hs
 refine does_of Tryd.func41 rfl rfl rfl hst ?_
 refine c_seq ?_
 refine c_region ?_
 refine RL ?_
 refine l_nil ?_
 refine c_seq ?_
 refine c_region ?_
 refine RL ?_
 refine RL ?_
 refine RLa ?_
 refine l_x (x_load rfl rfl (at_own (v := .int .i64 ((t.length : Int) - r.length)) m_m (by rfl))) rfl rfl ?_
 rintro _ _ ⟨rfl, rfl⟩
 refine RL ?_
 refine l_nil ?_
 refine c_seq ?_
 refine c_block ?_
 refine c_loopk (σ := Tx) [3, 9, 10, 11, 12, 13, 14, 15, 16, 17, 18, 19, 20, 21, 22, 23, 24, 25, 26] (fun x => [(3, .int .i64 ((t.length : Int) - x.length))]) (fun x => (∃ p, t = p ++ x) ∧ ∃ q, r = q ++ x ∧ ∀ c ∈ q, small c = true) (fun x => x.length) r ?_ ?_ ?_
 ·exact ⟨hs, [], rfl, fun _ h => by cases h⟩
 ·exact .cons rfl .nil
 ·rintro x y2 hx
  refine c_seq ?_
  refine c_seq ?_
  refine c_region ?_
  iterate 3 refine RL ?_
  refine RLa ?_
  refine l_x (x_load rfl rfl (at_own (v := .string (bs t)) m_m (by rfl))) rfl rfl ?_
  rintro _ _ ⟨rfl, rfl⟩
  refine l_l (light_lenstr rfl rfl) rfl rfl ?_
  refine RL ?_
  refine RLb (fun h1 => ?_) (fun h1 => ?_)
  ·have h1n := r_f h1
   obtain ⟨c, u, rfl⟩ := List.exists_cons_of_ne_nil (l := x) (by rintro rfl; simp at h1)
   have hxl9 := suf_len hx.1
   simp only [List.length_cons] at hxl9
   refine RL ?_
   refine RL ?_
   refine RLa ?_
   refine l_x (x_load rfl rfl (at_own (v := .string (bs t)) m_m (by rfl))) rfl rfl ?_
   rintro _ _ ⟨rfl, rfl⟩
   refine RL ?_
   refine l_l (light_idxstr (t.length - (u.length + 1)) rfl rfl rfl (by simp; omega) (at_suf hx.1)) rfl rfl ?_
   refine RLv call_40 (fun w hw => small_fn c w) ?_
   refine RL ?_
   refine l_nil ?_
   refine c_cond rfl (fun h2 => ?_) (fun h2 => ?_)
   ·have h2n := r_f h2
    refine c_skip ?_
    refine c_block ?_
    refine c_region ?_
    refine RL ?_
    refine l_as (v := (.int .i64 ((t.length : Int) - u.length))) rfl rfl rfl ((as_i64 (by simp; omega) (by simp; omega)).trans (congrArg _ (by simp; omega))) ?_
    refine RL ?_
    refine l_nil ?_
    obtain ⟨q, hq1, hq2⟩ := hx.2
    exact ⟨u, ⟨suf_tail hx.1, q ++ [c], by rw [hq1, List.append_assoc]; rfl, fun z hz => by rcases List.mem_append.1 hz with hz | hz; exact hq2 z hz; rw [List.mem_singleton.1 hz]; exact h2⟩, by simp, .cons rfl .nil, a_g, fun _ h => h⟩
   ·have h2n := r_f h2
    refine c_exit rfl ?_
    refine c_seq ?_
    obtain ⟨q, hx9, hq9⟩ := hx.2
    have hst9 : ∀ c' u', (c :: u) = c' :: u' → small c' = false := fun c' u' h => by cases h; exact h2
    have hql9 := congrArg List.length hx9
    rw [List.length_append] at hql9
    simp only [List.length_cons, List.length_nil] at hql9
    refine c_draw _ [0, 5, 6, 7, 8, 9] (.step true 1 (.step true 2 (.step true 3 (.step true 4 (.step true 5 (.step true 6 (.step true 7 (.step true 8 (.step true 9 (.step true 10 (.step false 0 (.step false 11 (.step true 12 .done))))))))))))) rfl (by kernel_rfl) (by kernel_rfl) (fun _ h => h) ?_
    refine RD ?_
    refine RD ?_
    refine RDa ?_
    refine d_load rfl rfl rfl (s_own (v := .string (bs t)) m_m (by rfl)) rfl rfl ?_
    refine RD ?_
    refine RD ?_
    refine RDa ?_
    refine d_load rfl rfl rfl (s_own (v := .int .i64 ((t.length : Int) - r.length)) m_m (by rfl)) rfl rfl ?_
    refine RD ?_
    refine d_as (v := .string (bs q)) rfl (light_cutstr (t.length - r.length) (t.length - (c :: u).length) rfl rfl rfl rfl (by first | omega | (simp; done) | (simp; omega)) (by first | omega | (simp; done) | (simp; omega)) (by first | omega | (simp; done) | (simp; omega)) (by first | omega | (simp; done) | (simp; omega))) rfl rfl rfl (congrArg (fun x => Value.string (bs x)) (cut_pre' hx9 hs _ (by first | omega | (simp; done) | (simp; omega)))) ?_
    refine d_x rfl (x_call call_17 rfl (fun w hw => names_fn w)) rfl rfl (by intro _ _ _ hK x hx; obtain ⟨G27, ⟨_, rfl, rfl⟩, rfl⟩ := hK; repeat (first | exact hx | exact List.mem_append_left _ hx | refine List.mem_append_right _ ?_ | refine .tail _ ?_)) ?_
    rintro _ _ ⟨G27, ⟨b27, rfl, rfl⟩, rfl⟩
    refine d_x rfl (x_val call_46 rfl (fun w hw => index_fn nms b27 18 q w (row_own (b := b27) m_m w hw) (by decide))) rfl rfl n_h ?_
    rintro _ _ ⟨rfl, rfl⟩
    refine RD ?_
    refine d_nil ?_
    refine c_seq ?_
    refine c_seq ?_
    refine c_region ?_
    refine RL ?_
    refine RL ?_
    refine l_nil ?_
    refine c_cond rfl (fun h3 => ?_) (fun h3 => ?_)
    ·have h3n := r_f h3
     refine c_seq ?_
     refine c_region ?_
     refine RL ?_
     refine l_x (x_callM (F := [(b27, _)]) (A := [(rb, _)]) (G := _) [rb] call_24 rfl (fun _ hb => mem_fst (G := [(rb, _)]) hb) (fun w hw => fail_fn rb t r hs ht _ d 0 11 w (St.lentV hw))) rfl rfl ?_
     rintro _ _ ⟨_, ⟨rfl, rfl⟩, rfl⟩
     refine c_u ?_
     refine RL ?_
     refine l_nil ?_
     refine c_ret ?_
     rw [nameR_no' hx9 hq9 hst9 h3n]
     exact l_end (fun _ _ => rets_v rfl) (.cons _ (List.Sublist.refl _)) ⟨rfl, out, va, G, hV, rfl⟩
    ·have h3n := r_f h3
     refine c_skip ?_
     refine c_seq ?_
     refine c_region ?_
     iterate 3 refine RL ?_
     refine RLa ?_
     refine l_x (x_storeTo (l' := cRd t (c :: u) va d 0) 1 rfl rfl rfl rfl rfl rfl (Nat.le_of_ble_eq_true rfl) rfl) rfl rfl ?_
     rintro _ _ ⟨rfl, rfl⟩
     refine c_u ?_
     refine l_nil ?_
     refine c_seq ?_
     refine c_region ?_
     refine RL ?_
     refine RL ?_
     refine l_x (x_callT (F := [(b27, _)]) (A := (rb, _) :: _) call_29 rfl (fun w hw => put_fn rb t (c :: u) d 0 out o_m va G hV 2 (ixS nms q) w (St.lentV hw))) rfl rfl ?_
     rintro _ _ ⟨_, ⟨rfl, va2, G2, hV2, rfl⟩, rfl⟩
     refine RL ?_
     refine l_nil ?_
     refine c_ret ?_
     rw [nameR_is hx9 hq9 hst9 h3n]
     exact l_end (fun _ _ => rets_v rfl) (.cons _ (List.Sublist.refl _)) ⟨rfl, va2, G2, by rw [List.length_append]; exact hV2, rfl⟩
  ·have h1n := r_f h1
   iterate 7 refine RLp ?_
   refine RL ?_
   refine l_nil ?_
   refine c_false rfl ?_
   refine c_exit rfl ?_
   refine c_seq ?_
   obtain rfl : x = [] := List.eq_nil_of_length_eq_zero (by have := suf_len hx.1; omega)
   obtain ⟨q, hx9, hq9⟩ := hx.2
   have hst9 : ∀ c' u', ([] : Tx) = c' :: u' → small c' = false := fun c' u' h => by cases h
   have hql9 := congrArg List.length hx9
   rw [List.length_append] at hql9
   simp only [List.length_cons, List.length_nil] at hql9
   refine c_draw _ [0, 5, 6, 7, 8, 9] (.step true 1 (.step true 2 (.step true 3 (.step true 4 (.step true 5 (.step true 6 (.step true 7 (.step true 8 (.step true 9 (.step true 10 (.step false 0 (.step false 11 (.step true 12 .done))))))))))))) rfl (by kernel_rfl) (by kernel_rfl) (fun _ h => h) ?_
   refine RD ?_
   refine RD ?_
   refine RDa ?_
   refine d_load rfl rfl rfl (s_own (v := .string (bs t)) m_m (by rfl)) rfl rfl ?_
   refine RD ?_
   refine RD ?_
   refine RDa ?_
   refine d_load rfl rfl rfl (s_own (v := .int .i64 ((t.length : Int) - r.length)) m_m (by rfl)) rfl rfl ?_
   refine RD ?_
   refine d_as (v := .string (bs q)) rfl (light_cutstr (t.length - r.length) (t.length - ([] : Tx).length) rfl rfl rfl rfl (by first | omega | (simp; done) | (simp; omega)) (by first | omega | (simp; done) | (simp; omega)) (by first | omega | (simp; done) | (simp; omega)) (by first | omega | (simp; done) | (simp; omega))) rfl rfl rfl (congrArg (fun x => Value.string (bs x)) (cut_pre' hx9 hs _ (by first | omega | (simp; done) | (simp; omega)))) ?_
   refine d_x rfl (x_call call_17 rfl (fun w hw => names_fn w)) rfl rfl (by intro _ _ _ hK x hx; obtain ⟨G27, ⟨_, rfl, rfl⟩, rfl⟩ := hK; repeat (first | exact hx | exact List.mem_append_left _ hx | refine List.mem_append_right _ ?_ | refine .tail _ ?_)) ?_
   rintro _ _ ⟨G27, ⟨b27, rfl, rfl⟩, rfl⟩
   refine d_x rfl (x_val call_46 rfl (fun w hw => index_fn nms b27 18 q w (row_own (b := b27) m_m w hw) (by decide))) rfl rfl n_h ?_
   rintro _ _ ⟨rfl, rfl⟩
   refine RD ?_
   refine d_nil ?_
   refine c_seq ?_
   refine c_seq ?_
   refine c_region ?_
   refine RL ?_
   refine RL ?_
   refine l_nil ?_
   refine c_cond rfl (fun h4 => ?_) (fun h4 => ?_)
   ·have h4n := r_f h4
    refine c_seq ?_
    refine c_region ?_
    refine RL ?_
    refine l_x (x_callM (F := [(b27, _)]) (A := [(rb, _)]) (G := _) [rb] call_24 rfl (fun _ hb => mem_fst (G := [(rb, _)]) hb) (fun w hw => fail_fn rb t r hs ht _ d 0 11 w (St.lentV hw))) rfl rfl ?_
    rintro _ _ ⟨_, ⟨rfl, rfl⟩, rfl⟩
    refine c_u ?_
    refine RL ?_
    refine l_nil ?_
    refine c_ret ?_
    rw [nameR_no' hx9 hq9 hst9 h4n]
    exact l_end (fun _ _ => rets_v rfl) (.cons _ (List.Sublist.refl _)) ⟨rfl, out, va, G, hV, rfl⟩
   ·have h4n := r_f h4
    refine c_skip ?_
    refine c_seq ?_
    refine c_region ?_
    iterate 3 refine RL ?_
    refine RLa ?_
    refine l_x (x_storeTo (l' := cRd t ([] : Tx) va d 0) 1 rfl rfl rfl rfl rfl rfl (Nat.le_of_ble_eq_true rfl) rfl) rfl rfl ?_
    rintro _ _ ⟨rfl, rfl⟩
    refine c_u ?_
    refine l_nil ?_
    refine c_seq ?_
    refine c_region ?_
    refine RL ?_
    refine RL ?_
    refine l_x (x_callT (F := [(b27, _)]) (A := (rb, _) :: _) call_29 rfl (fun w hw => put_fn rb t ([] : Tx) d 0 out o_m va G hV 2 (ixS nms q) w (St.lentV hw))) rfl rfl ?_
    rintro _ _ ⟨_, ⟨rfl, va2, G2, hV2, rfl⟩, rfl⟩
    refine RL ?_
    refine l_nil ?_
    refine c_ret ?_
    rw [nameR_is hx9 hq9 hst9 h4n]
    exact l_end (fun _ _ => rets_v rfl) (.cons _ (List.Sublist.refl _)) ⟨rfl, va2, G2, by rw [List.length_append]; exact hV2, rfl⟩

end Go.Proofs.YtiadmbhafplepaaDoor
namespace Go.Proofs.YtiadmbhafplepaaDoor
open Go Go.VV

def Md.out : Md → List Cd
  | .thing _ _ o => o
  | .whole _ _ _ o => o
  | .loop _ _ _ o => o
  | .closed _ _ _ o => o
theorem numR_room {base : Nat} {t a r : Tx} {out o : List Cd} (h : numR base t a out = .ok r o) : o.length + r.length ≤ out.length + t.length := by
  have h1 := suf_lt (numR_ok h)
  unfold numR at h
  split at h
  · cases h
  · split at h
    · cases h
    · injection h with h2 h3
      subst h3
      rw [List.length_append, List.length_singleton]
      omega
theorem nameR_room {t r : Tx} {out o : List Cd} (h : nameR t out = .ok r o) : o.length + r.length ≤ out.length + t.length := by
  have h1 := suf_lt (nameR_ok h)
  unfold nameR at h
  split at h
  · cases h
  · injection h with h2 h3
    subst h3
    rw [List.length_append, List.length_singleton]
    omega
theorem put_room {q : Rs} {op : Int} {r : Tx} {o : List Cd} {k : Nat} (h : q.put op = .ok r o) (hq : ∀ r o, q = .ok r o → o.length + r.length + 1 ≤ k) : o.length + r.length ≤ k := by
  obtain ⟨o', h1, rfl⟩ := put_ok h
  have := hq r o' h1
  rw [List.length_append, List.length_singleton]
  omega
theorem run_room : ∀ (n : Nat) (m : Md) (r : Tx) (o : List Cd), run n m = .ok r o → o.length + r.length ≤ m.out.length + m.text.length
  | 0, _, _, _, h => by cases h
  | n + 1, .thing d t out, r, o, h => by
    have hs := suf_len (spc_suf t)
    show o.length + r.length ≤ out.length + t.length
    rw [run_thing] at h
    split at h
    · cases h
    · rename_i c u hc
      rw [hc, List.length_cons] at hs
      split at h
      · split at h
        · cases h
        · exact put_room h fun r' o' h' => by have := run_room n _ r' o' h'; simp only [Md.out, Md.text] at this; omega
      · split at h
        · split at h
          · cases h
          · have := run_room n _ r o h; simp only [Md.out, Md.text] at this; omega
        · split at h
          · split at h
            · cases h
            · exact put_room h fun r' o' h' => by have := run_room n _ r' o' h'; simp only [Md.out, Md.text] at this; omega
          · split at h
            · have := numR_room h; omega
            · split at h
              · have := nameR_room h; simp only [List.length_cons] at this; omega
              · have := numR_room h; simp only [List.length_cons] at this; omega
  | n + 1, .whole b d t out, r, o, h => by
    show o.length + r.length ≤ out.length + t.length
    rw [run_whole] at h
    split at h
    · rename_i r1 o1 h1
      have := run_room n _ r1 o1 h1
      have h2 := run_room n _ r o h
      simp only [Md.out, Md.text] at this h2
      omega
    · rename_i x hx
      exact absurd h (hx r o)
  | n + 1, .loop b d t out, r, o, h => by
    have hs := suf_len (spc_suf t)
    show o.length + r.length ≤ out.length + t.length
    rw [run_loop] at h
    split at h
    · injection h with h1 h2; subst h1 h2; omega
    · rename_i s hg
      obtain ⟨hm, u, hu⟩ := sgn_spec hg
      have hp := List.length_pos_iff.2 (sgs_pos s hm).1
      have hl := congrArg List.length hu
      rw [List.length_append] at hl
      split at h
      · injection h with h1 h2; subst h1 h2; omega
      · split at h
        · rename_i r1 o1 h1
          have := run_room n _ r1 o1 h1
          have h2 := run_room n _ r o h
          simp only [Md.out, Md.text, List.length_append, List.length_singleton, List.length_drop] at this h2
          omega
        · rename_i x hx
          exact absurd h (hx r o)
  | n + 1, .closed by_ d t out, r, o, h => by
    show o.length + r.length ≤ out.length + t.length
    rw [run_closed] at h
    split at h
    · rename_i r1 o1 h1
      have := run_room n _ r1 o1 h1
      have hs := suf_len (spc_suf r1)
      simp only [Md.out, Md.text] at this
      split at h
      · cases h
      · rename_i c u hc
        rw [hc, List.length_cons] at hs
        split at h
        · injection h with h1 h2; subst h1 h2; omega
        · cases h
    · rename_i x hx
      exact absurd h (hx r o)
theorem run_suf {n : Nat} {m : Md} {t r : Tx} {o : List Cd} (hs : ∃ p, t = p ++ m.text) (h : run n m = .ok r o) : ∃ p, t = p ++ r := suf_trans hs ((run_eats n m).1 _ _ h).1
theorem run_sufn {n : Nat} {m : Md} {t r : Tx} {e : Int} (hs : ∃ p, t = p ++ m.text) (h : run n m = .no r e) : ∃ p, t = p ++ r := suf_trans hs ((run_eats n m).2 _ _ h)
end Go.Proofs.YtiadmbhafplepaaDoor
namespace Go.Proofs.YtiadmbhafplepaaDoor
open Go Go.VV Go.Proofs Go.RowKit
set_option linter.unusedSimpArgs false
set_option linter.unusedVariables false
set_option maxRecDepth 100000
theorem GlE.outA {w0 w : World} {ms : List Nat} {A F : Heap} (h : GlE w0) (hm : 2 ∉ ms) (hw : St w0 ms (A ++ F) w) : 2 ∉ A.map (·.1) := fun hx => h.out hm hw (by rw [List.map_append]; exact List.mem_append_left _ hx)
theorem binds : ∀ s ∈ sgs, 1 ≤ s.bind ∧ s.bind ≤ 10 := by decide
/-- What is read, with so many steps: the contracts. -/
def ThingC (n : Nat) : Prop := ∀ (rb : Nat) (t r : Tx) (_ : ∃ p, t = p ++ r) (_ : t.length ≤ 300) (out : List Cd) (_ : out.length + r.length ≤ 100000) (va : Value) (G : Heap) (_ : Vec 43 2 va out.length (flat cCd out) G) (d : Nat) (_ : d ≤ 20) (_ : 2 ∉ rb :: G.map (·.1)) (w : World) (_ : GlE w) (_ : St w (rb :: G.map (·.1)) ((rb, blk (cRd t r va d 0) 50) :: G) w) (_ : run n (.thing d r out) ≠ .dry),
 Does Tryd.prog 27 [.pointer (some ⟨rb, 0, none⟩)] w (rb :: G.map (·.1)) (fun v H => AnsH rb t d (run n (.thing d r out)) v H)
def WholeC (n : Nat) : Prop := ∀ (rb : Nat) (t r : Tx) (_ : ∃ p, t = p ++ r) (_ : t.length ≤ 300) (out : List Cd) (_ : out.length + r.length ≤ 100000) (va : Value) (G : Heap) (_ : Vec 43 2 va out.length (flat cCd out) G) (d : Nat) (_ : d ≤ 20) (_ : 2 ∉ rb :: G.map (·.1)) (w : World) (_ : GlE w) (_ : St w (rb :: G.map (·.1)) ((rb, blk (cRd t r va d 0) 50) :: G) w) (b : Int) (_ : 0 ≤ b ∧ b ≤ 11) (_ : run n (.whole b d r out) ≠ .dry),
 Does Tryd.prog 22 [.pointer (some ⟨rb, 0, none⟩), .int .i64 b] w (rb :: G.map (·.1)) (fun v H => AnsH rb t d (run n (.whole b d r out)) v H)
def ClosedC (n : Nat) : Prop := ∀ (rb : Nat) (t r : Tx) (_ : ∃ p, t = p ++ r) (_ : t.length ≤ 300) (out : List Cd) (_ : out.length + r.length ≤ 100000) (va : Value) (G : Heap) (_ : Vec 43 2 va out.length (flat cCd out) G) (d : Nat) (_ : d ≤ 20) (_ : 2 ∉ rb :: G.map (·.1)) (w : World) (_ : GlE w) (_ : St w (rb :: G.map (·.1)) ((rb, blk (cRd t r va d 0) 50) :: G) w) (by_ : UInt8) (_ : run n (.closed by_ d r out) ≠ .dry),
 Does Tryd.prog 37 [.pointer (some ⟨rb, 0, none⟩), .int .u8 by_.toNat] w (rb :: G.map (·.1)) (fun v H => AnsH rb t d (run n (.closed by_ d r out)) v H)

theorem deeper_fn (rb : Nat) (t u : Tx) (c : UInt8) (hs : ∃ p, t = p ++ c :: u) (ht : t.length ≤ 300) (out : List Cd) (va : Value) (G : Heap) (hV : Vec 43 2 va out.length (flat cCd out) G) (d : Nat) (hd : d ≤ 20) (f : Nat) (A B : List Value) (hf : callable Tryd.prog f = true) (q : Rs) (w : World) (hst : St w (rb :: G.map (·.1)) ((rb, blk (cRd t (c :: u) va d 0) 50) :: G) w) (hread : d ≠ 20 → ∀ w', St w (rb :: G.map (·.1)) ((rb, blk (cRd t u va (d + 1) 0) 50) :: G) w' → Does Tryd.prog f (A ++ [] ++ B) w' (rb :: G.map (·.1)) (fun v H => AnsH rb t (d + 1) q v H)) : Does Tryd.prog 34 [.pointer (some ⟨rb, 0, none⟩), .func (.func f) A.toArray B.toArray] w (rb :: G.map (·.1)) (fun v H => AnsH rb t d (if d = 20 then .no (c :: u) 12 else q) v H) := by
 have hl9 := suf_len hs
 simp only [List.length_cons] at hl9
 refine does_of Tryd.func34 rfl rfl rfl hst ?_
 refine c_seq ?_
 refine c_region ?_
 refine RL ?_
 refine l_nil ?_
 refine c_seq ?_
 refine c_seq ?_
 refine c_region ?_
 refine RL ?_
 refine RL ?_
 refine RLa ?_
 refine l_x (x_load rfl rfl (at_own (v := .int .i64 (d : Int)) m_m (by rfl))) rfl rfl ?_
 rintro _ _ ⟨rfl, rfl⟩
 refine RL ?_
 refine l_nil ?_
 refine c_cond rfl (fun h1 => ?_) (fun h1 => ?_)
 ·have h1n := r_f h1
  refine c_seq ?_
  refine c_region ?_
  refine RL ?_
  refine l_x (x_callM (F := []) (A := [(rb, _)]) (G := _) [rb] call_24 rfl (fun _ hb => mem_fst (G := [(rb, _)]) hb) (fun w hw => fail_fn rb t (c :: u) hs ht _ d 0 12 w (St.lentV hw))) rfl rfl ?_
  rintro _ _ ⟨_, ⟨rfl, rfl⟩, rfl⟩
  refine c_u ?_
  refine RL ?_
  refine l_nil ?_
  refine c_ret ?_
  rw [if_pos o_m]
  exact l_end (fun _ _ => rets_v rfl) (List.Sublist.refl _) ⟨rfl, out, va, G, hV, rfl⟩
 ·have h1n := r_f h1
  refine c_skip ?_
  refine c_seq ?_
  refine c_region ?_
  refine RL ?_
  refine RL ?_
  refine RLa ?_
  refine l_x (x_load rfl rfl (at_own (v := .int .i64 (d : Int)) m_m (by rfl))) rfl rfl ?_
  rintro _ _ ⟨rfl, rfl⟩
  refine l_as (v := (.int .i64 ((d + 1 : Nat) : Int))) rfl rfl rfl ((as_i64 o_m o_m).trans (congrArg _ o_m)) ?_
  refine RL ?_
  refine RLa ?_
  refine l_x (x_storeTo (l' := cRd t (c :: u) va (d + 1) 0) 0 rfl rfl rfl rfl rfl rfl (Nat.le_of_ble_eq_true rfl) rfl) rfl rfl ?_
  rintro _ _ ⟨rfl, rfl⟩
  refine c_u ?_
  refine l_nil ?_
  refine c_seq ?_
  refine c_region ?_
  refine RL ?_
  refine RL ?_
  refine RLa ?_
  refine l_x (x_load rfl rfl (at_own (v := .int .i64 ((t.length : Int) - (c :: u).length)) m_m (by rfl))) rfl rfl ?_
  rintro _ _ ⟨rfl, rfl⟩
  refine l_as (v := (.int .i64 ((t.length : Int) - u.length))) rfl rfl rfl ((as_i64 (by simp; omega) (by simp; omega)).trans (congrArg _ (by simp; omega))) ?_
  refine RL ?_
  refine RLa ?_
  refine l_x (x_storeTo (l' := cRd t u va (d + 1) 0) 0 rfl rfl rfl rfl rfl rfl (Nat.le_of_ble_eq_true rfl) rfl) rfl rfl ?_
  rintro _ _ ⟨rfl, rfl⟩
  refine c_u ?_
  refine l_nil ?_
  refine c_seq ?_
  have hd9 : d ≠ 20 := by omega
  rcases q with ⟨r2, o2⟩ | ⟨r2, e2⟩ | _
  ·refine c_region ?_
   refine RL ?_
   refine l_x (x_callVA rfl hf rfl (fun w hw => hread hd9 w hw)) rfl rfl ?_
   rintro _ _ ⟨rfl, va2, G2, hV2, rfl⟩
   refine RL ?_
   refine l_nil ?_
   refine c_seq ?_
   refine c_region ?_
   refine RL ?_
   refine RL ?_
   refine RLa ?_
   refine l_x (x_load rfl rfl (at_own (v := .int .i64 ((d + 1 : Nat) : Int)) m_m (by rfl))) rfl rfl ?_
   rintro _ _ ⟨rfl, rfl⟩
   refine l_as (v := (.int .i64 (d : Int))) rfl rfl rfl ((as_i64 o_m o_m).trans (congrArg _ o_m)) ?_
   refine RL ?_
   refine RLa ?_
   refine l_x (x_storeTo (l' := cRd t r2 va2 d 0) 0 rfl rfl rfl rfl rfl rfl (Nat.le_of_ble_eq_true rfl) rfl) rfl rfl ?_
   rintro _ _ ⟨rfl, rfl⟩
   refine c_u ?_
   refine l_nil ?_
   refine c_seq ?_
   refine c_region ?_
   refine RL ?_
   refine RL ?_
   refine l_nil ?_
   refine c_ret ?_
   rw [if_neg hd9]
   exact l_end (fun _ _ => rets_v rfl) (List.Sublist.refl _) ⟨rfl, va2, G2, hV2, rfl⟩
  ·refine c_region ?_
   refine RL ?_
   refine l_x (x_callVA rfl hf rfl (fun w hw => hread hd9 w hw)) rfl rfl ?_
   rintro _ _ ⟨rfl, o2, va2, G2, hV2, rfl⟩
   refine RL ?_
   refine l_nil ?_
   refine c_seq ?_
   refine c_region ?_
   refine RL ?_
   refine RL ?_
   refine RLa ?_
   refine l_x (x_load rfl rfl (at_own (v := .int .i64 ((d + 1 : Nat) : Int)) m_m (by rfl))) rfl rfl ?_
   rintro _ _ ⟨rfl, rfl⟩
   refine l_as (v := (.int .i64 (d : Int))) rfl rfl rfl ((as_i64 o_m o_m).trans (congrArg _ o_m)) ?_
   refine RL ?_
   refine RLa ?_
   refine l_x (x_storeTo (l' := cRd t r2 va2 d e2) 0 rfl rfl rfl rfl rfl rfl (Nat.le_of_ble_eq_true rfl) rfl) rfl rfl ?_
   rintro _ _ ⟨rfl, rfl⟩
   refine c_u ?_
   refine l_nil ?_
   refine c_seq ?_
   refine c_region ?_
   refine RL ?_
   refine RL ?_
   refine l_nil ?_
   refine c_ret ?_
   rw [if_neg hd9]
   exact l_end (fun _ _ => rets_v rfl) (List.Sublist.refl _) ⟨rfl, o2, va2, G2, hV2, rfl⟩
  ·refine c_region ?_
   refine RL ?_
   refine l_x (x_callVA rfl hf rfl (fun w hw => hread hd9 w hw)) rfl rfl ?_
   exact fun _ _ h => h.elim

theorem closed_fn (n : Nat) (ih : WholeC n) (rb : Nat) (t r : Tx) (hs : ∃ p, t = p ++ r) (ht : t.length ≤ 300) (out : List Cd) (ho : out.length + r.length ≤ 100000) (va : Value) (G : Heap) (hV : Vec 43 2 va out.length (flat cCd out) G) (d : Nat) (hd : d ≤ 20) (hm : 2 ∉ rb :: G.map (·.1)) (w : World) (hGl : GlE w) (hst : St w (rb :: G.map (·.1)) ((rb, blk (cRd t r va d 0) 50) :: G) w) (by_ : UInt8) (hn : run (n + 1) (.closed by_ d r out) ≠ .dry) : Does Tryd.prog 37 [.pointer (some ⟨rb, 0, none⟩), .int .u8 by_.toNat] w (rb :: G.map (·.1)) (fun v H => AnsH rb t d (run (n + 1) (.closed by_ d r out)) v H) := by
 have hq9 : run n (.whole 0 d r out) ≠ .dry := fun h => hn (by rw [run_closed, h])
 refine does_of Tryd.func37 rfl rfl rfl hst ?_
 refine c_seq ?_
 refine c_region ?_
 refine RL ?_
 refine l_nil ?_
 refine c_seq ?_
 refine c_seq ?_
 rcases q9 : run n (.whole 0 d r out) with ⟨r2, o2⟩ | ⟨r2, e2⟩ | _
 ·refine c_region ?_
  refine RL ?_
  refine l_x (x_callA call_22 rfl (fun w hw => ih rb t r hs ht out ho va G hV d hd (hGl.out hm hw) w (later_in hGl hm hw) (St.lentA hw) 0 (by decide) hq9)) rfl rfl ?_
  rw [q9]
  rintro _ _ ⟨rfl, va2, G2, hV2, rfl⟩
  refine RL ?_
  refine l_nil ?_
  refine c_false rfl ?_
  refine c_skip ?_
  refine c_seq ?_
  refine c_seq ?_
  have hs2 := run_suf (m := .whole 0 d r out) hs q9
  have hs3 := suf_trans hs2 (spc_suf r2)
  refine c_draw [] [] (.step true 0 (.step false 1 (.step true 2 (.step true 3 (.step true 4 (.step true 5 (.step true 6 (.step true 8 (.step true 9 (.step true 10 (.step true 13 (.fork 7 (.step false 11 (.step true 12 (.step true 14 (.step true 15 .done)))) (.fork 11 (.step false 7 (.step true 12 (.step true 14 (.step true 15 .done)))) .stop))))))))))))) rfl (by kernel_rfl) (by kernel_rfl) (fun _ h => by cases h) ?_
  refine RD ?_
  refine d_x rfl (x_callM (F := []) (A := [(rb, _)]) (G := _) [rb] call_23 rfl (fun _ hb => mem_fst (G := [(rb, _)]) hb) (fun w hw => space_fn rb t r2 hs2 ht va2 d 0 w (St.lentV hw))) rfl rfl n_h ?_
  rintro _ _ ⟨_, ⟨rfl, rfl⟩, rfl⟩
  refine c_u ?_
  refine RD ?_
  refine d_bool rfl rfl rfl rfl (fun h1 => ?_) (fun h1 => ?_)
  ·have h1n := r_f h1
   refine d_pass rfl rfl rfl ?_
   refine d_pass rfl rfl rfl ?_
   refine d_pass rfl rfl rfl ?_
   refine d_pass rfl rfl rfl ?_
   refine d_pass rfl rfl rfl ?_
   refine d_pass rfl rfl rfl ?_
   refine d_pass rfl rfl rfl ?_
   refine d_fork ?_ ?_
   ·refine d_passH rfl rfl rfl ?_
    refine d_passH rfl rfl rfl ?_
    refine d_pass rfl rfl rfl ?_
    refine d_pass rfl rfl rfl ?_
    refine RD ?_
    refine d_nil ?_
    refine c_true rfl ?_
    refine c_seq ?_
    refine c_region ?_
    have hcu : spc r2 = [] := by simpa using h1
    rw [hcu]
    refine RL ?_
    refine l_x (x_callM (F := []) (A := [(rb, _)]) (G := _) [rb] call_24 rfl (fun _ hb => mem_fst (G := [(rb, _)]) hb) (fun w hw => fail_fn rb t [] ⟨t, by simp⟩ ht _ d 0 11 w (St.lentV hw))) rfl rfl ?_
    rintro _ _ ⟨_, ⟨rfl, rfl⟩, rfl⟩
    refine c_u ?_
    refine RL ?_
    refine l_nil ?_
    refine c_ret ?_
    rw [run_closed, q9]
    dsimp only
    rw [hcu]
    exact l_end (fun _ _ => rets_v rfl) (List.Sublist.refl _) ⟨rfl, o2, va2, G2, hV2, rfl⟩
   refine d_fork ?_ ?_
   ·refine d_passH rfl rfl rfl ?_
    refine d_passH rfl rfl rfl ?_
    refine d_pass rfl rfl rfl ?_
    refine d_pass rfl rfl rfl ?_
    refine RD ?_
    refine d_nil ?_
    refine c_true rfl ?_
    refine c_seq ?_
    refine c_region ?_
    have hcu : spc r2 = [] := by simpa using h1
    rw [hcu]
    refine RL ?_
    refine l_x (x_callM (F := []) (A := [(rb, _)]) (G := _) [rb] call_24 rfl (fun _ hb => mem_fst (G := [(rb, _)]) hb) (fun w hw => fail_fn rb t [] ⟨t, by simp⟩ ht _ d 0 11 w (St.lentV hw))) rfl rfl ?_
    rintro _ _ ⟨_, ⟨rfl, rfl⟩, rfl⟩
    refine c_u ?_
    refine RL ?_
    refine l_nil ?_
    refine c_ret ?_
    rw [run_closed, q9]
    dsimp only
    rw [hcu]
    exact l_end (fun _ _ => rets_v rfl) (List.Sublist.refl _) ⟨rfl, o2, va2, G2, hV2, rfl⟩
   exact d_stop
  ·have h1n := r_f h1
   obtain ⟨c, u, hcu⟩ := List.exists_cons_of_ne_nil (l := spc r2) (by simpa using h1)
   rw [hcu] at hs3 ⊢
   have hl9 := suf_len hs3
   simp only [List.length_cons] at hl9
   refine RD ?_
   refine RD ?_
   refine RDa ?_
   refine RD ?_
   refine RD ?_
   refine RDa ?_
   refine RD ?_
   refine d_fork ?_ ?_
   ·refine d_x rfl (x_load rfl rfl (at_own (v := .string (bs t)) m_m (by rfl))) rfl rfl n_h ?_
    rintro _ _ ⟨rfl, rfl⟩
    refine d_x rfl (x_load rfl rfl (at_own (v := .int .i64 ((t.length : Int) - (c :: u).length)) m_m (by rfl))) rfl rfl n_h ?_
    rintro _ _ ⟨rfl, rfl⟩
    refine d_light rfl (light_idxstr (t.length - (u.length + 1)) rfl rfl rfl (by simp; omega) (at_suf hs3)) rfl rfl rfl ?_
    refine RD ?_
    refine RD ?_
    refine d_nil ?_
    refine c_cond rfl (fun h2 => ?_) (fun h2 => ?_)
    ·have h2n := r_f h2
     refine c_seq ?_
     refine c_region ?_
     refine RL ?_
     refine l_x (x_callM (F := []) (A := [(rb, _)]) (G := _) [rb] call_24 rfl (fun _ hb => mem_fst (G := [(rb, _)]) hb) (fun w hw => fail_fn rb t (c :: u) hs3 ht _ d 0 11 w (St.lentV hw))) rfl rfl ?_
     rintro _ _ ⟨_, ⟨rfl, rfl⟩, rfl⟩
     refine c_u ?_
     refine RL ?_
     refine l_nil ?_
     refine c_ret ?_
     rw [run_closed, q9]
     dsimp only
     rw [hcu]
     dsimp only
     rw [if_neg (fun h => h2n (by rw [h]))]
     exact l_end (fun _ _ => rets_v rfl) (List.Sublist.refl _) ⟨rfl, o2, va2, G2, hV2, rfl⟩
    ·have h2n := r_f h2
     refine c_skip ?_
     refine c_seq ?_
     refine c_region ?_
     refine RL ?_
     refine RL ?_
     refine RLa ?_
     refine l_x (x_load rfl rfl (at_own (v := .int .i64 ((t.length : Int) - (c :: u).length)) m_m (by rfl))) rfl rfl ?_
     rintro _ _ ⟨rfl, rfl⟩
     refine l_as (v := (.int .i64 ((t.length : Int) - u.length))) rfl rfl rfl ((as_i64 (by simp; omega) (by simp; omega)).trans (congrArg _ (by simp; omega))) ?_
     refine RL ?_
     refine RLa ?_
     refine l_x (x_storeTo (l' := cRd t u va2 d 0) 0 rfl rfl rfl rfl rfl rfl (Nat.le_of_ble_eq_true rfl) rfl) rfl rfl ?_
     rintro _ _ ⟨rfl, rfl⟩
     refine c_u ?_
     refine l_nil ?_
     refine c_seq ?_
     refine c_region ?_
     refine RL ?_
     refine l_nil ?_
     refine c_ret ?_
     rw [run_closed, q9]
     dsimp only
     rw [hcu]
     dsimp only
     rw [if_pos (u8_eq h2n)]
     exact l_end (fun _ _ => rets_v rfl) (List.Sublist.refl _) ⟨rfl, va2, G2, hV2, rfl⟩
   refine d_fork ?_ ?_
   ·refine d_x rfl (x_load rfl rfl (at_own (v := .int .i64 ((t.length : Int) - (c :: u).length)) m_m (by rfl))) rfl rfl n_h ?_
    rintro _ _ ⟨rfl, rfl⟩
    refine d_x rfl (x_load rfl rfl (at_own (v := .string (bs t)) m_m (by rfl))) rfl rfl n_h ?_
    rintro _ _ ⟨rfl, rfl⟩
    refine d_light rfl (light_idxstr (t.length - (u.length + 1)) rfl rfl rfl (by simp; omega) (at_suf hs3)) rfl rfl rfl ?_
    refine RD ?_
    refine RD ?_
    refine d_nil ?_
    refine c_cond rfl (fun h3 => ?_) (fun h3 => ?_)
    ·have h3n := r_f h3
     refine c_seq ?_
     refine c_region ?_
     refine RL ?_
     refine l_x (x_callM (F := []) (A := [(rb, _)]) (G := _) [rb] call_24 rfl (fun _ hb => mem_fst (G := [(rb, _)]) hb) (fun w hw => fail_fn rb t (c :: u) hs3 ht _ d 0 11 w (St.lentV hw))) rfl rfl ?_
     rintro _ _ ⟨_, ⟨rfl, rfl⟩, rfl⟩
     refine c_u ?_
     refine RL ?_
     refine l_nil ?_
     refine c_ret ?_
     rw [run_closed, q9]
     dsimp only
     rw [hcu]
     dsimp only
     rw [if_neg (fun h => h3n (by rw [h]))]
     exact l_end (fun _ _ => rets_v rfl) (List.Sublist.refl _) ⟨rfl, o2, va2, G2, hV2, rfl⟩
    ·have h3n := r_f h3
     refine c_skip ?_
     refine c_seq ?_
     refine c_region ?_
     refine RL ?_
     refine RL ?_
     refine RLa ?_
     refine l_x (x_load rfl rfl (at_own (v := .int .i64 ((t.length : Int) - (c :: u).length)) m_m (by rfl))) rfl rfl ?_
     rintro _ _ ⟨rfl, rfl⟩
     refine l_as (v := (.int .i64 ((t.length : Int) - u.length))) rfl rfl rfl ((as_i64 (by simp; omega) (by simp; omega)).trans (congrArg _ (by simp; omega))) ?_
     refine RL ?_
     refine RLa ?_
     refine l_x (x_storeTo (l' := cRd t u va2 d 0) 0 rfl rfl rfl rfl rfl rfl (Nat.le_of_ble_eq_true rfl) rfl) rfl rfl ?_
     rintro _ _ ⟨rfl, rfl⟩
     refine c_u ?_
     refine l_nil ?_
     refine c_seq ?_
     refine c_region ?_
     refine RL ?_
     refine l_nil ?_
     refine c_ret ?_
     rw [run_closed, q9]
     dsimp only
     rw [hcu]
     dsimp only
     rw [if_pos (u8_eq h3n)]
     exact l_end (fun _ _ => rets_v rfl) (List.Sublist.refl _) ⟨rfl, va2, G2, hV2, rfl⟩
   exact d_stop
 ·refine c_region ?_
  refine RL ?_
  refine l_x (x_callA call_22 rfl (fun w hw => ih rb t r hs ht out ho va G hV d hd (hGl.out hm hw) w (later_in hGl hm hw) (St.lentA hw) 0 (by decide) hq9)) rfl rfl ?_
  rw [q9]
  rintro _ _ ⟨rfl, o2, va2, G2, hV2, rfl⟩
  refine RL ?_
  refine l_nil ?_
  refine c_true rfl ?_
  refine c_seq ?_
  refine c_region ?_
  refine RL ?_
  refine l_nil ?_
  refine c_ret ?_
  rw [run_closed, q9]
  exact l_end (fun _ _ => rets_v rfl) (List.Sublist.refl _) ⟨rfl, o2, va2, G2, hV2, rfl⟩
 ·refine c_region ?_
  refine RL ?_
  exact absurd q9 hq9

set_option maxHeartbeats 1000000 in
theorem whole_fn (n : Nat) (iht : ThingC n) (ihw : ∀ k, k ≤ n → WholeC k) (rb : Nat) (t r : Tx) (hs : ∃ p, t = p ++ r) (ht : t.length ≤ 300) (out : List Cd) (ho : out.length + r.length ≤ 100000) (va : Value) (G : Heap) (hV : Vec 43 2 va out.length (flat cCd out) G) (d : Nat) (hd : d ≤ 20) (hm : 2 ∉ rb :: G.map (·.1)) (w : World) (hGl : GlE w) (hst : St w (rb :: G.map (·.1)) ((rb, blk (cRd t r va d 0) 50) :: G) w) (b : Int) (hb : 0 ≤ b ∧ b ≤ 11) (hn : run (n + 1) (.whole b d r out) ≠ .dry) : Does Tryd.prog 22 [.pointer (some ⟨rb, 0, none⟩), .int .i64 b] w (rb :: G.map (·.1)) (fun v H => AnsH rb t d (run (n + 1) (.whole b d r out)) v H) := by
 have hq9 : run n (.thing d r out) ≠ .dry := fun h => hn (by rw [run_whole, h])
 refine does_of Tryd.func22 rfl rfl rfl hst ?_
 refine c_seq ?_
 refine c_region ?_
 refine RL ?_
 refine l_nil ?_
 refine c_seq ?_
 refine c_seq ?_
 rcases q9 : run n (.thing d r out) with ⟨r2, o2⟩ | ⟨r2, e2⟩ | _
 ·refine c_region ?_
  refine RL ?_
  refine l_x (x_callA call_27 rfl (fun w hw => iht rb t r hs ht out ho va G hV d hd (hGl.out hm hw) w (later_in hGl hm hw) (St.lentA hw) hq9)) rfl rfl ?_
  rw [q9]
  rintro _ _ ⟨rfl, va2, G2, hV2, rfl⟩
  refine RL ?_
  refine l_nil ?_
  refine c_false rfl ?_
  refine c_skip ?_
  refine c_block ?_
  refine c_loop (σ := Nat × Tx × List Cd × Value × Heap) [4, 5, 6, 10, 11, 12, 13, 14, 15, 16, 17, 18, 19, 20, 21, 22, 23, 24, 25, 26, 27, 28, 29, 30, 31, 32, 33, 34, 35, 36, 37, 38, 39, 40, 41, 42] (fun _ => []) (fun q => (rb, blk (cRd t q.2.1 q.2.2.2.1 d 0) 50) :: q.2.2.2.2) (fun q => q.1 ≤ n ∧ run n (.loop b d r2 o2) = run q.1 (.loop b d q.2.1 q.2.2.1) ∧ (∃ p, t = p ++ q.2.1) ∧ q.2.2.1.length + q.2.1.length ≤ 100000 ∧ Vec 43 2 q.2.2.2.1 q.2.2.1.length (flat cCd q.2.2.1) q.2.2.2.2) (fun q => q.1) (n, r2, o2, va2, G2) ?_ ?_ ?_ ?_
  ·exact ⟨Nat.le_refl _, rfl, run_suf (m := .thing d r out) hs q9, by have := run_room n (.thing d r out) r2 o2 q9; simp only [Md.out, Md.text] at this; show o2.length + r2.length ≤ 100000; omega, hV2⟩
  ·exact .nil
  ·exact fun _ h => h
  ·rintro ⟨k, x, o, vi, Gi⟩ y3 ⟨hk9, hL9, hx9, hr9, hVi⟩
   dsimp only at hk9 hL9 hx9 hr9 hVi ⊢
   have hrw9 : run (n + 1) (.whole b d r out) = run n (.loop b d r2 o2) := by rw [run_whole, q9]
   rw [hrw9]
   refine c_block ?_
   refine c_seq ?_
   obtain ⟨j, rfl⟩ := run_pos (n := k) rfl (show run k (.loop b d x o) ≠ .dry by rw [← hL9, ← hrw9]; exact hn)
   rcases hg9 : sgn (spc x) with _ | sg
   ·refine c_region ?_
    refine RL ?_
    refine l_x (x_callM (F := []) (A := [(rb, _)]) (G := _) [rb] call_28 rfl (fun _ hb => mem_fst (G := [(rb, _)]) hb) (fun w hw => (by have h9 := next_fn rb t x hx9 ht vi d 0 w (St.lentV hw); rw [hg9] at h9; exact h9))) rfl rfl ?_
    rintro _ _ ⟨_, ⟨rfl, rfl⟩, rfl⟩
    refine c_u ?_
    iterate 3 refine RL ?_
    refine l_x (x_alloc rfl) rfl rfl ?_
    rintro _ _ ⟨b5, rfl, rfl⟩
    refine l_x (x_storeTo (l' := cSg s0) 0 rfl rfl rfl rfl rfl rfl (Nat.le_of_ble_eq_true rfl) rfl) rfl rfl ?_
    rintro _ _ ⟨rfl, rfl⟩
    refine c_u ?_
    refine RL ?_
    refine l_nil ?_
    refine c_seq ?_
    refine c_seq ?_
    refine c_region ?_
    refine RL ?_
    refine l_sure true rfl rfl rfl rfl ?_
    refine RL ?_
    iterate 4 refine RLp ?_
    refine RL ?_
    refine l_nil ?_
    refine c_true rfl ?_
    refine c_seq ?_
    refine c_region ?_
    refine RL ?_
    refine l_nil ?_
    refine c_ret ?_
    rw [hL9, run_loop, hg9]
    exact l_end (fun _ _ => rets_v rfl) (.cons _ (List.Sublist.refl _)) ⟨rfl, vi, Gi, hVi, rfl⟩
   ·refine c_region ?_
    refine RL ?_
    refine l_x (x_callM (F := []) (A := [(rb, _)]) (G := _) [rb] call_28 rfl (fun _ hb => mem_fst (G := [(rb, _)]) hb) (fun w hw => (by have h9 := next_fn rb t x hx9 ht vi d 0 w (St.lentV hw); rw [hg9] at h9; exact h9))) rfl rfl ?_
    rintro _ _ ⟨_, ⟨rfl, rfl⟩, rfl⟩
    refine c_u ?_
    iterate 3 refine RL ?_
    refine l_x (x_alloc rfl) rfl rfl ?_
    rintro _ _ ⟨b5, rfl, rfl⟩
    refine l_x (x_storeTo (l' := cSg sg) 0 rfl rfl rfl rfl rfl rfl (Nat.le_of_ble_eq_true rfl) rfl) rfl rfl ?_
    rintro _ _ ⟨rfl, rfl⟩
    refine c_u ?_
    refine RL ?_
    refine l_nil ?_
    refine c_seq ?_
    refine c_seq ?_
    obtain ⟨hm9, u, hu9⟩ := sgn_spec hg9
    have hbd9 := binds sg hm9
    refine c_region ?_
    refine RL ?_
    refine l_sure false rfl rfl rfl rfl ?_
    refine RL ?_
    refine RLa ?_
    refine l_x (x_load rfl rfl (at_own (v := .int .i64 sg.bind) m_m (by rfl))) rfl rfl ?_
    rintro _ _ ⟨rfl, rfl⟩
    iterate 3 refine RL ?_
    refine l_nil ?_
    refine c_cond rfl (fun h1 => ?_) (fun h1 => ?_)
    ·have h1n := r_f h1
     refine c_seq ?_
     refine c_region ?_
     refine RL ?_
     refine l_nil ?_
     refine c_ret ?_
     rw [hL9, run_loop, hg9]
     dsimp only
     rw [if_pos h1n]
     exact l_end (fun _ _ => rets_v rfl) (.cons _ (List.Sublist.refl _)) ⟨rfl, vi, Gi, hVi, rfl⟩
    ·have h1n := r_f h1
     refine c_skip ?_
     refine c_seq ?_
     have hul9 := congrArg List.length hu9
     rw [List.length_append] at hul9
     have hxs9 := suf_len (suf_trans hx9 (spc_suf x))
     have hxr9 := suf_len (spc_suf x)
     have hp9 := List.length_pos_iff.2 (sgs_pos sg hm9).1
     have hsu9 : ∃ p, t = p ++ u := suf_trans (suf_trans hx9 (spc_suf x)) ⟨sg.text, hu9⟩
     have hq8 : run j (.whole (sg.bind + 1) d u o) ≠ .dry := fun h => hn (by rw [hrw9, hL9, run_loop, hg9]; dsimp only; rw [if_neg h1n, hu9, List.drop_left, h])
     refine c_draw _ [4, 5, 6] (.step true 0 (.step true 1 (.step true 2 (.step true 3 (.step true 4 (.step true 5 (.step true 6 (.step true 7 (.step true 8 (.step true 9 (.step false 10 .done))))))))))) rfl (by kernel_rfl) (by kernel_rfl) (fun _ h => h) ?_
     refine RD ?_
     refine RD ?_
     refine RDa ?_
     refine d_load rfl rfl rfl (s_own (v := .int .i64 ((t.length : Int) - (spc x).length)) m_m (by rfl)) rfl rfl ?_
     refine RDa ?_
     refine d_load rfl rfl rfl (s_own (v := .string (bs sg.text)) m_m (by rfl)) rfl rfl ?_
     refine d_light rfl (light_lenstr rfl rfl) rfl rfl rfl ?_
     refine d_as (v := (.int .i64 ((t.length : Int) - u.length))) rfl rfl rfl rfl rfl ((as_i64 o_m o_m).trans (congrArg _ o_m)) ?_
     refine RD ?_
     refine RDa ?_
     refine d_x rfl (x_storeTo (l' := cRd t u vi d 0) 1 rfl rfl rfl rfl rfl rfl (Nat.le_of_ble_eq_true rfl) rfl) rfl rfl n_h ?_
     rintro _ _ ⟨rfl, rfl⟩
     refine c_u ?_
     refine d_nil ?_
     refine c_seq ?_
     refine c_seq ?_
     rcases q8 : run j (.whole (sg.bind + 1) d u o) with ⟨r3, o3⟩ | ⟨r3, e3⟩ | _
     ·refine c_region ?_
      refine RL ?_
      refine RLa ?_
      refine l_x (x_load rfl rfl (at_own (v := .int .i64 sg.bind) m_m (by rfl))) rfl rfl ?_
      rintro _ _ ⟨rfl, rfl⟩
      refine l_as (v := (.int .i64 (sg.bind + 1))) rfl rfl rfl (as_i64 o_m o_m) ?_
      refine l_x (x_callT (F := [(b5, _)]) (A := (rb, _) :: _) call_22 rfl (fun w hw => ihw j o_m rb t u hsu9 ht o o_m vi Gi hVi d hd (hGl.outA hm hw) w (later_in hGl hm hw) (St.lentV hw) (sg.bind + 1) o_m hq8)) rfl rfl ?_
      rw [q8]
      rintro _ _ ⟨_, ⟨rfl, va3, G3, hV3, rfl⟩, rfl⟩
      refine RL ?_
      refine l_nil ?_
      refine c_false rfl ?_
      refine c_skip ?_
      have hrm9 := run_room j (.whole (sg.bind + 1) d u o) r3 o3 q8
      simp only [Md.out, Md.text] at hrm9
      refine c_region ?_
      refine RL ?_
      refine RLa ?_
      refine l_x (x_load rfl rfl (at_own (v := .int .i64 sg.op) m_m (by rfl))) rfl rfl ?_
      rintro _ _ ⟨rfl, rfl⟩
      refine l_x (x_callT (F := [(b5, _)]) (A := (rb, _) :: _) call_29 rfl (fun w hw => put_fn rb t r3 d 0 o3 o_m va3 G3 hV3 sg.op 0 w (St.lentV hw))) rfl rfl ?_
      rintro _ _ ⟨_, ⟨rfl, va4, G4, hV4, rfl⟩, rfl⟩
      refine l_nil ?_
      exact ⟨(j, r3, o3 ++ [⟨sg.op, 0⟩], va4, G4), ⟨by omega, by rw [hL9, run_loop, hg9]; dsimp only; rw [if_neg h1n, hu9, List.drop_left, q8], run_suf (m := .whole (sg.bind + 1) d u o) hsu9 q8, by show (o3 ++ [_]).length + r3.length ≤ 100000; rw [List.length_append, List.length_singleton]; omega, by rw [List.length_append]; exact hV4⟩, Nat.lt_succ_self j, .nil, a_g, fun _ h => h.sub (.cons _ (List.Sublist.refl _))⟩
     ·refine c_region ?_
      refine RL ?_
      refine RLa ?_
      refine l_x (x_load rfl rfl (at_own (v := .int .i64 sg.bind) m_m (by rfl))) rfl rfl ?_
      rintro _ _ ⟨rfl, rfl⟩
      refine l_as (v := (.int .i64 (sg.bind + 1))) rfl rfl rfl (as_i64 o_m o_m) ?_
      refine l_x (x_callT (F := [(b5, _)]) (A := (rb, _) :: _) call_22 rfl (fun w hw => ihw j o_m rb t u hsu9 ht o o_m vi Gi hVi d hd (hGl.outA hm hw) w (later_in hGl hm hw) (St.lentV hw) (sg.bind + 1) o_m hq8)) rfl rfl ?_
      rw [q8]
      rintro _ _ ⟨_, ⟨rfl, o3, va3, G3, hV3, rfl⟩, rfl⟩
      refine RL ?_
      refine l_nil ?_
      refine c_true rfl ?_
      refine c_seq ?_
      refine c_region ?_
      refine RL ?_
      refine l_nil ?_
      refine c_ret ?_
      rw [hL9, run_loop, hg9]
      dsimp only
      rw [if_neg h1n, hu9, List.drop_left, q8]
      exact l_end (fun _ _ => rets_v rfl) (.cons _ (List.Sublist.refl _)) ⟨rfl, o3, va3, G3, hV3, rfl⟩
     ·refine c_region ?_
      refine RL ?_
      refine RLa ?_
      refine l_x (x_load rfl rfl (at_own (v := .int .i64 sg.bind) m_m (by rfl))) rfl rfl ?_
      rintro _ _ ⟨rfl, rfl⟩
      refine l_as (v := (.int .i64 (sg.bind + 1))) rfl rfl rfl (as_i64 o_m o_m) ?_
      exact absurd q8 hq8
 ·refine c_region ?_
  refine RL ?_
  refine l_x (x_callA call_27 rfl (fun w hw => iht rb t r hs ht out ho va G hV d hd (hGl.out hm hw) w (later_in hGl hm hw) (St.lentA hw) hq9)) rfl rfl ?_
  rw [q9]
  rintro _ _ ⟨rfl, o2, va2, G2, hV2, rfl⟩
  refine RL ?_
  refine l_nil ?_
  refine c_true rfl ?_
  refine c_seq ?_
  refine c_region ?_
  refine RL ?_
  refine l_nil ?_
  refine c_ret ?_
  rw [run_whole, q9]
  exact l_end (fun _ _ => rets_v rfl) (List.Sublist.refl _) ⟨rfl, o2, va2, G2, hV2, rfl⟩
 ·refine c_region ?_
  refine RL ?_
  exact absurd q9 hq9

end Go.Proofs.YtiadmbhafplepaaDoor
namespace Go.Proofs.YtiadmbhafplepaaDoor
open Go Go.VV
section
variable {n d : Nat} {r u : Tx} {c : UInt8} {out : List Cd}
theorem thing_nil (h : spc r = []) : run (n + 1) (.thing d r out) = .no [] 11 := by rw [run_thing, h]
theorem thing_pre {op : Int} (h : spc r = c :: u) (hp : pre1 c = some op) : run (n + 1) (.thing d r out) = (if d = 20 then Rs.no (c :: u) 12 else run n (.thing (d + 1) u out)).put op := by
  rw [run_thing, h]
  dsimp only
  rw [hp]
  dsimp only
  split <;> rfl
theorem thing_par (h : spc r = 40 :: u) : run (n + 1) (.thing d r out) = if d = 20 then Rs.no (40 :: u) 12 else run n (.closed 41 (d + 1) u out) := by
  rw [run_thing, h]; rfl
theorem thing_sq (h : spc r = 91 :: u) : run (n + 1) (.thing d r out) = (if d = 20 then Rs.no (91 :: u) 12 else run n (.closed 93 (d + 1) u out)).put 3 := by
  rw [run_thing, h]
  show (if d = 20 then Rs.no (91 :: u) 12 else (run n (.closed 93 (d + 1) u out)).put 3) = _
  split <;> rfl
theorem thing_hex (h : spc r = 36 :: u) : run (n + 1) (.thing d r out) = numR 16 u (36 :: u) out := by
  rw [run_thing, h]; rfl
theorem pre1_no (h1 : ¬ (c.toNat : Int) = 45) (h2 : ¬ (c.toNat : Int) = 33) (h3 : ¬ (c.toNat : Int) = 126) : pre1 c = none := by
  unfold pre1
  rw [if_neg (fun h => h1 (by rw [h]; rfl)), if_neg (fun h => h2 (by rw [h]; rfl)), if_neg (fun h => h3 (by rw [h]; rfl))]
theorem thing_more (h : spc r = c :: u) (h1 : ¬ (c.toNat : Int) = 45) (h2 : ¬ (c.toNat : Int) = 33) (h3 : ¬ (c.toNat : Int) = 126) (h4 : ¬ (c.toNat : Int) = 40) (h5 : ¬ (c.toNat : Int) = 91) (h6 : ¬ (c.toNat : Int) = 36) :
    run (n + 1) (.thing d r out) = if small c = true then nameR (c :: u) out else numR 10 (c :: u) (c :: u) out := by
  rw [run_thing, h]
  dsimp only
  rw [pre1_no h1 h2 h3]
  dsimp only
  rw [if_neg (fun h => h4 (by rw [h]; rfl)), if_neg (fun h => h5 (by rw [h]; rfl)), if_neg (fun h => h6 (by rw [h]; rfl))]
theorem put_nd {q : Rs} {op : Int} (h : q.put op ≠ .dry) : q ≠ .dry := fun h' => h (by rw [h']; rfl)
theorem ite_nd {p : Prop} [Decidable p] {a b : Rs} (h : (if p then a else b) ≠ .dry) (hp : ¬ p) : b ≠ .dry := by rwa [if_neg hp] at h
end
theorem ite_room {n d : Nat} {m : Md} {x r : Tx} {o : List Cd} (h : (if d = 20 then Rs.no x 12 else run n m) = .ok r o) : o.length + r.length ≤ m.out.length + m.text.length := by
  split at h
  · cases h
  · exact run_room n m r o h
theorem last_out {w0 w : World} {ms : List Nat} {A : Heap} {b : Nat} {o : Obj} (h : St w0 ms (A ++ [(b, o)]) w) : b ∉ A.map (·.1) := St.apart h (List.mem_singleton.2 rfl)
theorem cRd_0 (t : Tx) : [Value.string (bs t), .int .i64 0, .slice none 0 0, .int .i64 0, .int .i64 0] = cRd t t (.slice none 0 0) 0 0 := by
  unfold cRd
  rw [Int.sub_self]; rfl
end Go.Proofs.YtiadmbhafplepaaDoor
namespace Go.Proofs.YtiadmbhafplepaaDoor
open Go Go.VV Go.Proofs Go.RowKit
set_option linter.unusedSimpArgs false
set_option linter.unusedVariables false
set_option maxRecDepth 100000
theorem close1_fn (n : Nat) (ih : ClosedC n) (rb : Nat) (t r : Tx) (hs : ∃ p, t = p ++ r) (ht : t.length ≤ 300) (out : List Cd) (ho : out.length + r.length ≤ 100000) (va : Value) (G : Heap) (hV : Vec 43 2 va out.length (flat cCd out) G) (d : Nat) (hd : d ≤ 20) (hm : 2 ∉ rb :: G.map (·.1)) (w : World) (hGl : GlE w) (hst : St w (rb :: G.map (·.1)) ((rb, blk (cRd t r va d 0) 50) :: G) w) (b1 : Nat) (hb1 : b1 ∉ rb :: G.map (·.1)) (hc : w.cell? ⟨b1, 0, none⟩ = some (.pointer (some ⟨rb, 0, none⟩))) (hn : run n (.closed 41 d r out) ≠ .dry) : Does Tryd.prog 36 [.pointer (some ⟨b1, 0, none⟩)] w (rb :: G.map (·.1)) (fun v H => AnsH rb t d (run n (.closed 41 d r out)) v H) := by
 refine does_of Tryd.func36 rfl rfl rfl hst ?_
 refine c_seq ?_
 refine c_region ?_
 refine RL ?_
 refine l_nil ?_
 refine c_seq ?_
 rcases q9 : run n (.closed 41 d r out) with ⟨r2, o2⟩ | ⟨r2, e2⟩ | _
 ·refine c_region ?_
  refine l_x (x_load rfl rfl (at_old hc hb1)) rfl rfl ?_
  rintro _ _ ⟨rfl, rfl⟩
  refine l_x (x_callA call_37 rfl (fun w hw => ih rb t r hs ht out ho va G hV d hd (hGl.out hm hw) w (later_in hGl hm hw) (St.lentA hw) 41 hn)) rfl rfl ?_
  rw [q9]
  rintro _ _ ⟨rfl, va2, G2, hV2, rfl⟩
  refine RL ?_
  refine l_nil ?_
  refine c_ret ?_
  exact l_end (fun _ _ => rets_v rfl) (List.Sublist.refl _) ⟨rfl, va2, G2, hV2, rfl⟩
 ·refine c_region ?_
  refine l_x (x_load rfl rfl (at_old hc hb1)) rfl rfl ?_
  rintro _ _ ⟨rfl, rfl⟩
  refine l_x (x_callA call_37 rfl (fun w hw => ih rb t r hs ht out ho va G hV d hd (hGl.out hm hw) w (later_in hGl hm hw) (St.lentA hw) 41 hn)) rfl rfl ?_
  rw [q9]
  rintro _ _ ⟨rfl, o2, va2, G2, hV2, rfl⟩
  refine RL ?_
  refine l_nil ?_
  refine c_ret ?_
  exact l_end (fun _ _ => rets_v rfl) (List.Sublist.refl _) ⟨rfl, o2, va2, G2, hV2, rfl⟩
 ·refine c_region ?_
  refine l_x (x_load rfl rfl (at_old hc hb1)) rfl rfl ?_
  rintro _ _ ⟨rfl, rfl⟩
  exact absurd q9 hn

theorem close2_fn (n : Nat) (ih : ClosedC n) (rb : Nat) (t r : Tx) (hs : ∃ p, t = p ++ r) (ht : t.length ≤ 300) (out : List Cd) (ho : out.length + r.length ≤ 100000) (va : Value) (G : Heap) (hV : Vec 43 2 va out.length (flat cCd out) G) (d : Nat) (hd : d ≤ 20) (hm : 2 ∉ rb :: G.map (·.1)) (w : World) (hGl : GlE w) (hst : St w (rb :: G.map (·.1)) ((rb, blk (cRd t r va d 0) 50) :: G) w) (b1 : Nat) (hb1 : b1 ∉ rb :: G.map (·.1)) (hc : w.cell? ⟨b1, 0, none⟩ = some (.pointer (some ⟨rb, 0, none⟩))) (hn : run n (.closed 93 d r out) ≠ .dry) : Does Tryd.prog 38 [.pointer (some ⟨b1, 0, none⟩)] w (rb :: G.map (·.1)) (fun v H => AnsH rb t d (run n (.closed 93 d r out)) v H) := by
 refine does_of Tryd.func38 rfl rfl rfl hst ?_
 refine c_seq ?_
 refine c_region ?_
 refine RL ?_
 refine l_nil ?_
 refine c_seq ?_
 rcases q9 : run n (.closed 93 d r out) with ⟨r2, o2⟩ | ⟨r2, e2⟩ | _
 ·refine c_region ?_
  refine l_x (x_load rfl rfl (at_old hc hb1)) rfl rfl ?_
  rintro _ _ ⟨rfl, rfl⟩
  refine l_x (x_callA call_37 rfl (fun w hw => ih rb t r hs ht out ho va G hV d hd (hGl.out hm hw) w (later_in hGl hm hw) (St.lentA hw) 93 hn)) rfl rfl ?_
  rw [q9]
  rintro _ _ ⟨rfl, va2, G2, hV2, rfl⟩
  refine RL ?_
  refine l_nil ?_
  refine c_ret ?_
  exact l_end (fun _ _ => rets_v rfl) (List.Sublist.refl _) ⟨rfl, va2, G2, hV2, rfl⟩
 ·refine c_region ?_
  refine l_x (x_load rfl rfl (at_old hc hb1)) rfl rfl ?_
  rintro _ _ ⟨rfl, rfl⟩
  refine l_x (x_callA call_37 rfl (fun w hw => ih rb t r hs ht out ho va G hV d hd (hGl.out hm hw) w (later_in hGl hm hw) (St.lentA hw) 93 hn)) rfl rfl ?_
  rw [q9]
  rintro _ _ ⟨rfl, o2, va2, G2, hV2, rfl⟩
  refine RL ?_
  refine l_nil ?_
  refine c_ret ?_
  exact l_end (fun _ _ => rets_v rfl) (List.Sublist.refl _) ⟨rfl, o2, va2, G2, hV2, rfl⟩
 ·refine c_region ?_
  refine l_x (x_load rfl rfl (at_old hc hb1)) rfl rfl ?_
  rintro _ _ ⟨rfl, rfl⟩
  exact absurd q9 hn

set_option maxHeartbeats 2000000 in
theorem thing_fn (n : Nat) (iht : ThingC n) (ihc : ClosedC n) (rb : Nat) (t r : Tx) (hs : ∃ p, t = p ++ r) (ht : t.length ≤ 300) (out : List Cd) (ho : out.length + r.length ≤ 100000) (va : Value) (G : Heap) (hV : Vec 43 2 va out.length (flat cCd out) G) (d : Nat) (hd : d ≤ 20) (hm : 2 ∉ rb :: G.map (·.1)) (w : World) (hGl : GlE w) (hst : St w (rb :: G.map (·.1)) ((rb, blk (cRd t r va d 0) 50) :: G) w) (hn : run (n + 1) (.thing d r out) ≠ .dry) : Does Tryd.prog 27 [.pointer (some ⟨rb, 0, none⟩)] w (rb :: G.map (·.1)) (fun v H => AnsH rb t d (run (n + 1) (.thing d r out)) v H) := by
 refine does_of Tryd.func27 rfl rfl rfl hst ?_
 refine c_seq ?_
 refine c_region ?_
 refine l_x (x_box (l := [.pointer (some ⟨rb, 0, none⟩)]) rfl rfl) rfl rfl ?_
 rintro _ _ ⟨b1, rfl, rfl⟩
 refine RL ?_
 refine l_nil ?_
 refine c_seq ?_
 refine c_seq ?_
 refine c_region ?_
 refine l_x (x_load rfl rfl (at_own (l := [.pointer (some ⟨rb, 0, none⟩)]) (v := .pointer (some ⟨rb, 0, none⟩)) m_m rfl)) rfl rfl ?_
 rintro _ _ ⟨rfl, rfl⟩
 refine l_x (x_callM (F := [(b1, _)]) (A := [(rb, _)]) (G := _) [rb] call_23 rfl (fun _ hb => mem_fst (G := [(rb, _)]) hb) (fun w hw => space_fn rb t r hs ht va d 0 w (St.lentV hw))) rfl rfl ?_
 rintro _ _ ⟨_, ⟨rfl, rfl⟩, rfl⟩
 refine c_u ?_
 refine RL ?_
 refine l_nil ?_
 refine c_cond rfl (fun h1 => ?_) (fun h1 => ?_)
 ·have h1n := r_f h1
  refine c_seq ?_
  have hcu : spc r = [] := by simpa using h1
  rw [thing_nil hcu]
  rw [hcu]
  refine c_region ?_
  refine l_x (x_load rfl rfl (at_own (l := [.pointer (some ⟨rb, 0, none⟩)]) (v := .pointer (some ⟨rb, 0, none⟩)) m_m rfl)) rfl rfl ?_
  rintro _ _ ⟨rfl, rfl⟩
  refine l_x (x_callM (F := [(b1, _)]) (A := [(rb, _)]) (G := _) [rb] call_24 rfl (fun _ hb => mem_fst (G := [(rb, _)]) hb) (fun w hw => fail_fn rb t [] ⟨t, by simp⟩ ht _ d 0 11 w (St.lentV hw))) rfl rfl ?_
  rintro _ _ ⟨_, ⟨rfl, rfl⟩, rfl⟩
  refine c_u ?_
  refine RL ?_
  refine l_nil ?_
  refine c_ret ?_
  exact l_end (fun _ _ => rets_v rfl) (.cons _ (List.Sublist.refl _)) ⟨rfl, out, va, G, hV, rfl⟩
 ·have h1n := r_f h1
  refine c_skip ?_
  refine c_seq ?_
  obtain ⟨c, u, hcu⟩ := List.exists_cons_of_ne_nil (l := spc r) (by simpa using h1)
  have hs3 := suf_trans hs (spc_suf r)
  have hsl9 := suf_len (spc_suf r)
  rw [hcu] at hs3 hsl9 ⊢
  have hl9 := suf_len hs3
  have hsu9 := suf_tail hs3
  simp only [List.length_cons] at hl9 hsl9
  have hou9 : out.length + u.length ≤ 100000 := by omega
  refine c_draw _ [4, 5, 6, 7] (.step true 0 (.step true 1 (.step true 2 (.step true 3 (.step true 4 (.step true 5 (.step true 6 (.step true 7 (.step true 8 (.step true 9 .done)))))))))) rfl (by kernel_rfl) (by kernel_rfl) (fun _ h => h) ?_
  refine d_load rfl rfl rfl (s_own (l := [.pointer (some ⟨rb, 0, none⟩)]) (v := .pointer (some ⟨rb, 0, none⟩)) m_m rfl) rfl rfl ?_
  refine RD ?_
  refine RDa ?_
  refine d_load rfl rfl rfl (s_own (v := .string (bs t)) m_m (by rfl)) rfl rfl ?_
  refine d_load rfl rfl rfl (s_own (l := [.pointer (some ⟨rb, 0, none⟩)]) (v := .pointer (some ⟨rb, 0, none⟩)) m_m rfl) rfl rfl ?_
  refine RD ?_
  refine RDa ?_
  refine d_load rfl rfl rfl (s_own (v := .int .i64 ((t.length : Int) - (c :: u).length)) m_m (by rfl)) rfl rfl ?_
  refine d_light rfl (light_idxstr (t.length - (u.length + 1)) rfl rfl rfl (by simp; omega) (at_suf hs3)) rfl rfl rfl ?_
  refine RD ?_
  refine d_nil ?_
  refine c_seq ?_
  refine c_seq ?_
  refine c_region ?_
  refine RL ?_
  refine l_nil ?_
  refine c_block ?_
  refine c_seq ?_
  refine c_seq ?_
  refine c_region ?_
  refine RL ?_
  refine RL ?_
  refine l_nil ?_
  refine c_cond rfl (fun h2 => ?_) (fun h2 => ?_)
  ·have h2n := r_f h2
   refine c_skip ?_
   refine c_sure true rfl h2 ?_
   refine c_seq ?_
   obtain rfl : c = 45 := u8_eq (k := 45) h2n
   rw [thing_pre (op := 4) hcu rfl] at hn ⊢
   have hq9 : (if d = 20 then Rs.no (45 :: u) 12 else run n (.thing (d + 1) u out)) ≠ .dry := put_nd hn
   rcases q9 : (if d = 20 then Rs.no (45 :: u) 12 else run n (.thing (d + 1) u out)) with ⟨r2, o2⟩ | ⟨r2, e2⟩ | _
   ·refine c_draw [(b1, blk [.pointer (some ⟨rb, 0, none⟩)] 48)] [1, 2, 3, 6, 7, 8] (.step true 0 (.step true 1 (.step true 2 (.step false 3 (.step true 4 (.step true 5 (.step true 6 (.step false 7 (.step true 8 (.step false 9 (.step true 10 (.step true 11 .done)))))))))))) rfl (by kernel_rfl) (by kernel_rfl) (fun x hx => by obtain rfl := List.mem_singleton.1 hx; exact .head _) ?_
    refine d_load rfl rfl rfl (s_own (l := [.pointer (some ⟨rb, 0, none⟩)]) (v := .pointer (some ⟨rb, 0, none⟩)) m_m rfl) rfl rfl ?_
    refine d_load rfl rfl rfl (s_own (l := [.pointer (some ⟨rb, 0, none⟩)]) (v := .pointer (some ⟨rb, 0, none⟩)) m_m rfl) rfl rfl ?_
    refine d_as (v := (.func (.func 27) #[.pointer (some ⟨rb, 0, none⟩)] #[])) rfl rfl rfl rfl rfl (by simp only [List.map_toArray, List.map_cons, List.map_nil]; rfl) ?_
    refine d_x rfl (x_callT (F := [(b1, _)]) (A := (rb, _) :: _) call_34 rfl (fun w' hw => deeper_fn rb t u _ hs3 ht out va G hV d hd 27 [.pointer (some ⟨rb, 0, none⟩)] [] call_27 (run n (.thing (d + 1) u out)) w' (St.lentV hw) (fun hd9 w2 hst2 => iht rb t u hsu9 ht out hou9 va G hV (d + 1) o_m (hGl.outA hm hw) w2 (later_in (later_in hGl hm hw) (hGl.outA hm hw) hst2) (St.lentA hst2) (ite_nd hq9 hd9)))) rfl rfl (by first | (intro h; cases h; done) | (intro _ _ _ hK x hx; obtain ⟨_, _, rfl⟩ := hK; obtain rfl := List.mem_singleton.1 hx; exact List.mem_append_left _ (.head _))) ?_
    rw [q9]
    rintro _ _ ⟨_, ⟨rfl, va2, G2, hV2, rfl⟩, rfl⟩
    refine RD ?_
    refine d_load rfl rfl rfl (s_own (l := [.pointer (some ⟨rb, 0, none⟩)]) (v := .pointer (some ⟨rb, 0, none⟩)) m_m rfl) rfl rfl ?_
    refine RD ?_
    refine d_x rfl (x_val call_35 rfl (fun w hw => ixb_fn 0 (by decide) w)) rfl rfl (by intro _ _ _ hK x hx; obtain ⟨rfl, rfl⟩ := hK; repeat (first | exact hx | exact List.mem_append_left _ hx | refine List.mem_append_right _ ?_ | refine .tail _ ?_)) ?_
    rintro _ _ ⟨rfl, rfl⟩
    refine d_as (v := (.int .i64 4)) rfl rfl rfl rfl rfl rfl ?_
    have hrm9 := ite_room q9
    simp only [Md.out, Md.text] at hrm9
    refine d_x rfl (x_callT (F := [(b1, _)]) (A := (rb, _) :: _) call_29 rfl (fun w hw => put_fn rb t r2 d 0 o2 o_m va2 G2 hV2 4 0 w (St.lentV hw))) rfl rfl n_h ?_
    rintro _ _ ⟨_, ⟨rfl, va4, G4, hV4, rfl⟩, rfl⟩
    refine RD ?_
    refine RD ?_
    refine d_nil ?_
    refine c_ret ?_
    exact l_end (fun _ _ => rets_v rfl) (.cons _ (List.Sublist.refl _)) ⟨rfl, va4, G4, by rw [List.length_append]; exact hV4, rfl⟩
   ·refine c_draw [(b1, blk [.pointer (some ⟨rb, 0, none⟩)] 48)] [1, 2, 3, 6, 7, 8] (.step true 0 (.step true 1 (.step true 2 (.step false 3 (.step true 4 (.step true 5 (.step true 6 (.step false 7 (.step true 8 (.step false 9 (.step true 10 (.step true 11 .done)))))))))))) rfl (by kernel_rfl) (by kernel_rfl) (fun x hx => by obtain rfl := List.mem_singleton.1 hx; exact .head _) ?_
    refine d_load rfl rfl rfl (s_own (l := [.pointer (some ⟨rb, 0, none⟩)]) (v := .pointer (some ⟨rb, 0, none⟩)) m_m rfl) rfl rfl ?_
    refine d_load rfl rfl rfl (s_own (l := [.pointer (some ⟨rb, 0, none⟩)]) (v := .pointer (some ⟨rb, 0, none⟩)) m_m rfl) rfl rfl ?_
    refine d_as (v := (.func (.func 27) #[.pointer (some ⟨rb, 0, none⟩)] #[])) rfl rfl rfl rfl rfl (by simp only [List.map_toArray, List.map_cons, List.map_nil]; rfl) ?_
    refine d_x rfl (x_callT (F := [(b1, _)]) (A := (rb, _) :: _) call_34 rfl (fun w' hw => deeper_fn rb t u _ hs3 ht out va G hV d hd 27 [.pointer (some ⟨rb, 0, none⟩)] [] call_27 (run n (.thing (d + 1) u out)) w' (St.lentV hw) (fun hd9 w2 hst2 => iht rb t u hsu9 ht out hou9 va G hV (d + 1) o_m (hGl.outA hm hw) w2 (later_in (later_in hGl hm hw) (hGl.outA hm hw) hst2) (St.lentA hst2) (ite_nd hq9 hd9)))) rfl rfl (by first | (intro h; cases h; done) | (intro _ _ _ hK x hx; obtain ⟨_, _, rfl⟩ := hK; obtain rfl := List.mem_singleton.1 hx; exact List.mem_append_left _ (.head _))) ?_
    rw [q9]
    rintro _ _ ⟨_, ⟨rfl, o2, va2, G2, hV2, rfl⟩, rfl⟩
    refine RD ?_
    refine d_pass rfl rfl rfl ?_
    refine d_pass rfl rfl rfl ?_
    refine d_passH rfl rfl rfl ?_
    refine d_pass rfl rfl rfl ?_
    refine d_passH rfl rfl rfl ?_
    refine RD ?_
    refine RD ?_
    refine d_nil ?_
    refine c_ret ?_
    exact l_end (fun _ _ => rets_v rfl) (.cons _ (List.Sublist.refl _)) ⟨rfl, o2, va2, G2, hV2, rfl⟩
   ·refine c_draw [(b1, blk [.pointer (some ⟨rb, 0, none⟩)] 48)] [1, 2, 3, 6, 7, 8] (.step true 0 (.step true 1 (.step true 2 (.step false 3 (.step true 4 (.step true 5 (.step true 6 (.step false 7 (.step true 8 (.step false 9 (.step true 10 (.step true 11 .done)))))))))))) rfl (by kernel_rfl) (by kernel_rfl) (fun x hx => by obtain rfl := List.mem_singleton.1 hx; exact .head _) ?_
    refine d_load rfl rfl rfl (s_own (l := [.pointer (some ⟨rb, 0, none⟩)]) (v := .pointer (some ⟨rb, 0, none⟩)) m_m rfl) rfl rfl ?_
    refine d_load rfl rfl rfl (s_own (l := [.pointer (some ⟨rb, 0, none⟩)]) (v := .pointer (some ⟨rb, 0, none⟩)) m_m rfl) rfl rfl ?_
    refine d_as (v := (.func (.func 27) #[.pointer (some ⟨rb, 0, none⟩)] #[])) rfl rfl rfl rfl rfl (by simp only [List.map_toArray, List.map_cons, List.map_nil]; rfl) ?_
    exact absurd q9 hq9
  ·have h2n := r_f h2
   refine c_seq ?_
   refine c_region ?_
   refine RL ?_
   refine RL ?_
   refine l_nil ?_
   refine c_cond rfl (fun h3 => ?_) (fun h3 => ?_)
   ·have h3n := r_f h3
    refine c_skip ?_
    refine c_sure true rfl h3 ?_
    refine c_seq ?_
    obtain rfl : c = 33 := u8_eq (k := 33) h3n
    rw [thing_pre (op := 5) hcu rfl] at hn ⊢
    have hq9 : (if d = 20 then Rs.no (33 :: u) 12 else run n (.thing (d + 1) u out)) ≠ .dry := put_nd hn
    rcases q9 : (if d = 20 then Rs.no (33 :: u) 12 else run n (.thing (d + 1) u out)) with ⟨r2, o2⟩ | ⟨r2, e2⟩ | _
    ·refine c_draw [(b1, blk [.pointer (some ⟨rb, 0, none⟩)] 48)] [1, 2, 3, 6, 7, 8] (.step true 0 (.step true 1 (.step true 2 (.step false 3 (.step true 4 (.step true 5 (.step true 6 (.step false 7 (.step true 8 (.step false 9 (.step true 10 (.step true 11 .done)))))))))))) rfl (by kernel_rfl) (by kernel_rfl) (fun x hx => by obtain rfl := List.mem_singleton.1 hx; exact .head _) ?_
     refine d_load rfl rfl rfl (s_own (l := [.pointer (some ⟨rb, 0, none⟩)]) (v := .pointer (some ⟨rb, 0, none⟩)) m_m rfl) rfl rfl ?_
     refine d_load rfl rfl rfl (s_own (l := [.pointer (some ⟨rb, 0, none⟩)]) (v := .pointer (some ⟨rb, 0, none⟩)) m_m rfl) rfl rfl ?_
     refine d_as (v := (.func (.func 27) #[.pointer (some ⟨rb, 0, none⟩)] #[])) rfl rfl rfl rfl rfl (by simp only [List.map_toArray, List.map_cons, List.map_nil]; rfl) ?_
     refine d_x rfl (x_callT (F := [(b1, _)]) (A := (rb, _) :: _) call_34 rfl (fun w' hw => deeper_fn rb t u _ hs3 ht out va G hV d hd 27 [.pointer (some ⟨rb, 0, none⟩)] [] call_27 (run n (.thing (d + 1) u out)) w' (St.lentV hw) (fun hd9 w2 hst2 => iht rb t u hsu9 ht out hou9 va G hV (d + 1) o_m (hGl.outA hm hw) w2 (later_in (later_in hGl hm hw) (hGl.outA hm hw) hst2) (St.lentA hst2) (ite_nd hq9 hd9)))) rfl rfl (by first | (intro h; cases h; done) | (intro _ _ _ hK x hx; obtain ⟨_, _, rfl⟩ := hK; obtain rfl := List.mem_singleton.1 hx; exact List.mem_append_left _ (.head _))) ?_
     rw [q9]
     rintro _ _ ⟨_, ⟨rfl, va2, G2, hV2, rfl⟩, rfl⟩
     refine RD ?_
     refine d_load rfl rfl rfl (s_own (l := [.pointer (some ⟨rb, 0, none⟩)]) (v := .pointer (some ⟨rb, 0, none⟩)) m_m rfl) rfl rfl ?_
     refine RD ?_
     refine d_x rfl (x_val call_35 rfl (fun w hw => ixb_fn 1 (by decide) w)) rfl rfl (by intro _ _ _ hK x hx; obtain ⟨rfl, rfl⟩ := hK; repeat (first | exact hx | exact List.mem_append_left _ hx | refine List.mem_append_right _ ?_ | refine .tail _ ?_)) ?_
     rintro _ _ ⟨rfl, rfl⟩
     refine d_as (v := (.int .i64 5)) rfl rfl rfl rfl rfl rfl ?_
     have hrm9 := ite_room q9
     simp only [Md.out, Md.text] at hrm9
     refine d_x rfl (x_callT (F := [(b1, _)]) (A := (rb, _) :: _) call_29 rfl (fun w hw => put_fn rb t r2 d 0 o2 o_m va2 G2 hV2 5 0 w (St.lentV hw))) rfl rfl n_h ?_
     rintro _ _ ⟨_, ⟨rfl, va4, G4, hV4, rfl⟩, rfl⟩
     refine RD ?_
     refine RD ?_
     refine d_nil ?_
     refine c_ret ?_
     exact l_end (fun _ _ => rets_v rfl) (.cons _ (List.Sublist.refl _)) ⟨rfl, va4, G4, by rw [List.length_append]; exact hV4, rfl⟩
    ·refine c_draw [(b1, blk [.pointer (some ⟨rb, 0, none⟩)] 48)] [1, 2, 3, 6, 7, 8] (.step true 0 (.step true 1 (.step true 2 (.step false 3 (.step true 4 (.step true 5 (.step true 6 (.step false 7 (.step true 8 (.step false 9 (.step true 10 (.step true 11 .done)))))))))))) rfl (by kernel_rfl) (by kernel_rfl) (fun x hx => by obtain rfl := List.mem_singleton.1 hx; exact .head _) ?_
     refine d_load rfl rfl rfl (s_own (l := [.pointer (some ⟨rb, 0, none⟩)]) (v := .pointer (some ⟨rb, 0, none⟩)) m_m rfl) rfl rfl ?_
     refine d_load rfl rfl rfl (s_own (l := [.pointer (some ⟨rb, 0, none⟩)]) (v := .pointer (some ⟨rb, 0, none⟩)) m_m rfl) rfl rfl ?_
     refine d_as (v := (.func (.func 27) #[.pointer (some ⟨rb, 0, none⟩)] #[])) rfl rfl rfl rfl rfl (by simp only [List.map_toArray, List.map_cons, List.map_nil]; rfl) ?_
     refine d_x rfl (x_callT (F := [(b1, _)]) (A := (rb, _) :: _) call_34 rfl (fun w' hw => deeper_fn rb t u _ hs3 ht out va G hV d hd 27 [.pointer (some ⟨rb, 0, none⟩)] [] call_27 (run n (.thing (d + 1) u out)) w' (St.lentV hw) (fun hd9 w2 hst2 => iht rb t u hsu9 ht out hou9 va G hV (d + 1) o_m (hGl.outA hm hw) w2 (later_in (later_in hGl hm hw) (hGl.outA hm hw) hst2) (St.lentA hst2) (ite_nd hq9 hd9)))) rfl rfl (by first | (intro h; cases h; done) | (intro _ _ _ hK x hx; obtain ⟨_, _, rfl⟩ := hK; obtain rfl := List.mem_singleton.1 hx; exact List.mem_append_left _ (.head _))) ?_
     rw [q9]
     rintro _ _ ⟨_, ⟨rfl, o2, va2, G2, hV2, rfl⟩, rfl⟩
     refine RD ?_
     refine d_pass rfl rfl rfl ?_
     refine d_pass rfl rfl rfl ?_
     refine d_passH rfl rfl rfl ?_
     refine d_pass rfl rfl rfl ?_
     refine d_passH rfl rfl rfl ?_
     refine RD ?_
     refine RD ?_
     refine d_nil ?_
     refine c_ret ?_
     exact l_end (fun _ _ => rets_v rfl) (.cons _ (List.Sublist.refl _)) ⟨rfl, o2, va2, G2, hV2, rfl⟩
    ·refine c_draw [(b1, blk [.pointer (some ⟨rb, 0, none⟩)] 48)] [1, 2, 3, 6, 7, 8] (.step true 0 (.step true 1 (.step true 2 (.step false 3 (.step true 4 (.step true 5 (.step true 6 (.step false 7 (.step true 8 (.step false 9 (.step true 10 (.step true 11 .done)))))))))))) rfl (by kernel_rfl) (by kernel_rfl) (fun x hx => by obtain rfl := List.mem_singleton.1 hx; exact .head _) ?_
     refine d_load rfl rfl rfl (s_own (l := [.pointer (some ⟨rb, 0, none⟩)]) (v := .pointer (some ⟨rb, 0, none⟩)) m_m rfl) rfl rfl ?_
     refine d_load rfl rfl rfl (s_own (l := [.pointer (some ⟨rb, 0, none⟩)]) (v := .pointer (some ⟨rb, 0, none⟩)) m_m rfl) rfl rfl ?_
     refine d_as (v := (.func (.func 27) #[.pointer (some ⟨rb, 0, none⟩)] #[])) rfl rfl rfl rfl rfl (by simp only [List.map_toArray, List.map_cons, List.map_nil]; rfl) ?_
     exact absurd q9 hq9
   ·have h3n := r_f h3
    refine c_region ?_
    refine RL ?_
    refine RL ?_
    refine l_nil ?_
    refine c_cond rfl (fun h4 => ?_) (fun h4 => ?_)
    ·have h4n := r_f h4
     refine c_seq ?_
     obtain rfl : c = 126 := u8_eq (k := 126) h4n
     rw [thing_pre (op := 6) hcu rfl] at hn ⊢
     have hq9 : (if d = 20 then Rs.no (126 :: u) 12 else run n (.thing (d + 1) u out)) ≠ .dry := put_nd hn
     rcases q9 : (if d = 20 then Rs.no (126 :: u) 12 else run n (.thing (d + 1) u out)) with ⟨r2, o2⟩ | ⟨r2, e2⟩ | _
     ·refine c_draw [(b1, blk [.pointer (some ⟨rb, 0, none⟩)] 48)] [1, 2, 3, 6, 7, 8] (.step true 0 (.step true 1 (.step true 2 (.step false 3 (.step true 4 (.step true 5 (.step true 6 (.step false 7 (.step true 8 (.step false 9 (.step true 10 (.step true 11 .done)))))))))))) rfl (by kernel_rfl) (by kernel_rfl) (fun x hx => by obtain rfl := List.mem_singleton.1 hx; exact .head _) ?_
      refine d_load rfl rfl rfl (s_own (l := [.pointer (some ⟨rb, 0, none⟩)]) (v := .pointer (some ⟨rb, 0, none⟩)) m_m rfl) rfl rfl ?_
      refine d_load rfl rfl rfl (s_own (l := [.pointer (some ⟨rb, 0, none⟩)]) (v := .pointer (some ⟨rb, 0, none⟩)) m_m rfl) rfl rfl ?_
      refine d_as (v := (.func (.func 27) #[.pointer (some ⟨rb, 0, none⟩)] #[])) rfl rfl rfl rfl rfl (by simp only [List.map_toArray, List.map_cons, List.map_nil]; rfl) ?_
      refine d_x rfl (x_callT (F := [(b1, _)]) (A := (rb, _) :: _) call_34 rfl (fun w' hw => deeper_fn rb t u _ hs3 ht out va G hV d hd 27 [.pointer (some ⟨rb, 0, none⟩)] [] call_27 (run n (.thing (d + 1) u out)) w' (St.lentV hw) (fun hd9 w2 hst2 => iht rb t u hsu9 ht out hou9 va G hV (d + 1) o_m (hGl.outA hm hw) w2 (later_in (later_in hGl hm hw) (hGl.outA hm hw) hst2) (St.lentA hst2) (ite_nd hq9 hd9)))) rfl rfl (by first | (intro h; cases h; done) | (intro _ _ _ hK x hx; obtain ⟨_, _, rfl⟩ := hK; obtain rfl := List.mem_singleton.1 hx; exact List.mem_append_left _ (.head _))) ?_
      rw [q9]
      rintro _ _ ⟨_, ⟨rfl, va2, G2, hV2, rfl⟩, rfl⟩
      refine RD ?_
      refine d_load rfl rfl rfl (s_own (l := [.pointer (some ⟨rb, 0, none⟩)]) (v := .pointer (some ⟨rb, 0, none⟩)) m_m rfl) rfl rfl ?_
      refine RD ?_
      refine d_x rfl (x_val call_35 rfl (fun w hw => ixb_fn 2 (by decide) w)) rfl rfl (by intro _ _ _ hK x hx; obtain ⟨rfl, rfl⟩ := hK; repeat (first | exact hx | exact List.mem_append_left _ hx | refine List.mem_append_right _ ?_ | refine .tail _ ?_)) ?_
      rintro _ _ ⟨rfl, rfl⟩
      refine d_as (v := (.int .i64 6)) rfl rfl rfl rfl rfl rfl ?_
      have hrm9 := ite_room q9
      simp only [Md.out, Md.text] at hrm9
      refine d_x rfl (x_callT (F := [(b1, _)]) (A := (rb, _) :: _) call_29 rfl (fun w hw => put_fn rb t r2 d 0 o2 o_m va2 G2 hV2 6 0 w (St.lentV hw))) rfl rfl n_h ?_
      rintro _ _ ⟨_, ⟨rfl, va4, G4, hV4, rfl⟩, rfl⟩
      refine RD ?_
      refine RD ?_
      refine d_nil ?_
      refine c_ret ?_
      exact l_end (fun _ _ => rets_v rfl) (.cons _ (List.Sublist.refl _)) ⟨rfl, va4, G4, by rw [List.length_append]; exact hV4, rfl⟩
     ·refine c_draw [(b1, blk [.pointer (some ⟨rb, 0, none⟩)] 48)] [1, 2, 3, 6, 7, 8] (.step true 0 (.step true 1 (.step true 2 (.step false 3 (.step true 4 (.step true 5 (.step true 6 (.step false 7 (.step true 8 (.step false 9 (.step true 10 (.step true 11 .done)))))))))))) rfl (by kernel_rfl) (by kernel_rfl) (fun x hx => by obtain rfl := List.mem_singleton.1 hx; exact .head _) ?_
      refine d_load rfl rfl rfl (s_own (l := [.pointer (some ⟨rb, 0, none⟩)]) (v := .pointer (some ⟨rb, 0, none⟩)) m_m rfl) rfl rfl ?_
      refine d_load rfl rfl rfl (s_own (l := [.pointer (some ⟨rb, 0, none⟩)]) (v := .pointer (some ⟨rb, 0, none⟩)) m_m rfl) rfl rfl ?_
      refine d_as (v := (.func (.func 27) #[.pointer (some ⟨rb, 0, none⟩)] #[])) rfl rfl rfl rfl rfl (by simp only [List.map_toArray, List.map_cons, List.map_nil]; rfl) ?_
      refine d_x rfl (x_callT (F := [(b1, _)]) (A := (rb, _) :: _) call_34 rfl (fun w' hw => deeper_fn rb t u _ hs3 ht out va G hV d hd 27 [.pointer (some ⟨rb, 0, none⟩)] [] call_27 (run n (.thing (d + 1) u out)) w' (St.lentV hw) (fun hd9 w2 hst2 => iht rb t u hsu9 ht out hou9 va G hV (d + 1) o_m (hGl.outA hm hw) w2 (later_in (later_in hGl hm hw) (hGl.outA hm hw) hst2) (St.lentA hst2) (ite_nd hq9 hd9)))) rfl rfl (by first | (intro h; cases h; done) | (intro _ _ _ hK x hx; obtain ⟨_, _, rfl⟩ := hK; obtain rfl := List.mem_singleton.1 hx; exact List.mem_append_left _ (.head _))) ?_
      rw [q9]
      rintro _ _ ⟨_, ⟨rfl, o2, va2, G2, hV2, rfl⟩, rfl⟩
      refine RD ?_
      refine d_pass rfl rfl rfl ?_
      refine d_pass rfl rfl rfl ?_
      refine d_passH rfl rfl rfl ?_
      refine d_pass rfl rfl rfl ?_
      refine d_passH rfl rfl rfl ?_
      refine RD ?_
      refine RD ?_
      refine d_nil ?_
      refine c_ret ?_
      exact l_end (fun _ _ => rets_v rfl) (.cons _ (List.Sublist.refl _)) ⟨rfl, o2, va2, G2, hV2, rfl⟩
     ·refine c_draw [(b1, blk [.pointer (some ⟨rb, 0, none⟩)] 48)] [1, 2, 3, 6, 7, 8] (.step true 0 (.step true 1 (.step true 2 (.step false 3 (.step true 4 (.step true 5 (.step true 6 (.step false 7 (.step true 8 (.step false 9 (.step true 10 (.step true 11 .done)))))))))))) rfl (by kernel_rfl) (by kernel_rfl) (fun x hx => by obtain rfl := List.mem_singleton.1 hx; exact .head _) ?_
      refine d_load rfl rfl rfl (s_own (l := [.pointer (some ⟨rb, 0, none⟩)]) (v := .pointer (some ⟨rb, 0, none⟩)) m_m rfl) rfl rfl ?_
      refine d_load rfl rfl rfl (s_own (l := [.pointer (some ⟨rb, 0, none⟩)]) (v := .pointer (some ⟨rb, 0, none⟩)) m_m rfl) rfl rfl ?_
      refine d_as (v := (.func (.func 27) #[.pointer (some ⟨rb, 0, none⟩)] #[])) rfl rfl rfl rfl rfl (by simp only [List.map_toArray, List.map_cons, List.map_nil]; rfl) ?_
      exact absurd q9 hq9
    ·have h4n := r_f h4
     refine c_seq ?_
     refine c_region ?_
     refine RL ?_
     refine RL ?_
     refine l_nil ?_
     refine c_cond rfl (fun h5 => ?_) (fun h5 => ?_)
     ·have h5n := r_f h5
      refine c_seq ?_
      obtain rfl : c = 40 := u8_eq (k := 40) h5n
      rw [thing_par hcu] at hn ⊢
      have hq9 : (if d = 20 then Rs.no (40 :: u) 12 else run n (.closed 41 (d + 1) u out)) ≠ .dry := hn
      rcases q9 : (if d = 20 then Rs.no (40 :: u) 12 else run n (.closed 41 (d + 1) u out)) with ⟨r2, o2⟩ | ⟨r2, e2⟩ | _
      ·refine c_region ?_
       refine l_x (x_load rfl rfl (at_own (l := [.pointer (some ⟨rb, 0, none⟩)]) (v := .pointer (some ⟨rb, 0, none⟩)) m_m rfl)) rfl rfl ?_
       rintro _ _ ⟨rfl, rfl⟩
       refine l_as (v := (.func (.func 36) #[] #[.pointer (some ⟨b1, 0, none⟩)])) rfl rfl rfl (by simp only [List.map_toArray, List.map_cons, List.map_nil]; rfl) ?_
       refine l_x (x_callT (F := [(b1, _)]) (A := (rb, _) :: _) call_34 rfl (fun w' hw => deeper_fn rb t u _ hs3 ht out va G hV d hd 36 [] [.pointer (some ⟨b1, 0, none⟩)] call_36 (run n (.closed 41 (d + 1) u out)) w' (St.lentV hw) (fun hd9 w2 hst2 => close1_fn n ihc rb t u hsu9 ht out hou9 va G hV (d + 1) o_m (hGl.outA hm hw) w2 (later_in (later_in hGl hm hw) (hGl.outA hm hw) hst2) (St.lentA hst2) b1 (last_out hw) (at_old (at_own (l := [.pointer (some ⟨rb, 0, none⟩)]) (v := .pointer (some ⟨rb, 0, none⟩)) m_m rfl w' hw) (last_out hw) w2 hst2) (ite_nd hq9 hd9)))) rfl rfl ?_
       rw [q9]
       rintro _ _ ⟨_, ⟨rfl, va2, G2, hV2, rfl⟩, rfl⟩
       refine RL ?_
       refine l_nil ?_
       refine c_ret ?_
       exact l_end (fun _ _ => rets_v rfl) (.cons _ (List.Sublist.refl _)) ⟨rfl, va2, G2, hV2, rfl⟩
      ·refine c_region ?_
       refine l_x (x_load rfl rfl (at_own (l := [.pointer (some ⟨rb, 0, none⟩)]) (v := .pointer (some ⟨rb, 0, none⟩)) m_m rfl)) rfl rfl ?_
       rintro _ _ ⟨rfl, rfl⟩
       refine l_as (v := (.func (.func 36) #[] #[.pointer (some ⟨b1, 0, none⟩)])) rfl rfl rfl (by simp only [List.map_toArray, List.map_cons, List.map_nil]; rfl) ?_
       refine l_x (x_callT (F := [(b1, _)]) (A := (rb, _) :: _) call_34 rfl (fun w' hw => deeper_fn rb t u _ hs3 ht out va G hV d hd 36 [] [.pointer (some ⟨b1, 0, none⟩)] call_36 (run n (.closed 41 (d + 1) u out)) w' (St.lentV hw) (fun hd9 w2 hst2 => close1_fn n ihc rb t u hsu9 ht out hou9 va G hV (d + 1) o_m (hGl.outA hm hw) w2 (later_in (later_in hGl hm hw) (hGl.outA hm hw) hst2) (St.lentA hst2) b1 (last_out hw) (at_old (at_own (l := [.pointer (some ⟨rb, 0, none⟩)]) (v := .pointer (some ⟨rb, 0, none⟩)) m_m rfl w' hw) (last_out hw) w2 hst2) (ite_nd hq9 hd9)))) rfl rfl ?_
       rw [q9]
       rintro _ _ ⟨_, ⟨rfl, o2, va2, G2, hV2, rfl⟩, rfl⟩
       refine RL ?_
       refine l_nil ?_
       refine c_ret ?_
       exact l_end (fun _ _ => rets_v rfl) (.cons _ (List.Sublist.refl _)) ⟨rfl, o2, va2, G2, hV2, rfl⟩
      ·refine c_region ?_
       refine l_x (x_load rfl rfl (at_own (l := [.pointer (some ⟨rb, 0, none⟩)]) (v := .pointer (some ⟨rb, 0, none⟩)) m_m rfl)) rfl rfl ?_
       rintro _ _ ⟨rfl, rfl⟩
       refine l_as (v := (.func (.func 36) #[] #[.pointer (some ⟨b1, 0, none⟩)])) rfl rfl rfl (by simp only [List.map_toArray, List.map_cons, List.map_nil]; rfl) ?_
       exact absurd q9 hq9
     ·have h5n := r_f h5
      refine c_seq ?_
      refine c_region ?_
      refine RL ?_
      refine RL ?_
      refine l_nil ?_
      refine c_cond rfl (fun h6 => ?_) (fun h6 => ?_)
      ·have h6n := r_f h6
       refine c_seq ?_
       obtain rfl : c = 91 := u8_eq (k := 91) h6n
       rw [thing_sq hcu] at hn ⊢
       have hq9 : (if d = 20 then Rs.no (91 :: u) 12 else run n (.closed 93 (d + 1) u out)) ≠ .dry := put_nd hn
       rcases q9 : (if d = 20 then Rs.no (91 :: u) 12 else run n (.closed 93 (d + 1) u out)) with ⟨r2, o2⟩ | ⟨r2, e2⟩ | _
       ·refine c_region ?_
        refine l_x (x_load rfl rfl (at_own (l := [.pointer (some ⟨rb, 0, none⟩)]) (v := .pointer (some ⟨rb, 0, none⟩)) m_m rfl)) rfl rfl ?_
        rintro _ _ ⟨rfl, rfl⟩
        refine l_as (v := (.func (.func 38) #[] #[.pointer (some ⟨b1, 0, none⟩)])) rfl rfl rfl (by simp only [List.map_toArray, List.map_cons, List.map_nil]; rfl) ?_
        refine l_x (x_callT (F := [(b1, _)]) (A := (rb, _) :: _) call_34 rfl (fun w' hw => deeper_fn rb t u _ hs3 ht out va G hV d hd 38 [] [.pointer (some ⟨b1, 0, none⟩)] call_38 (run n (.closed 93 (d + 1) u out)) w' (St.lentV hw) (fun hd9 w2 hst2 => close2_fn n ihc rb t u hsu9 ht out hou9 va G hV (d + 1) o_m (hGl.outA hm hw) w2 (later_in (later_in hGl hm hw) (hGl.outA hm hw) hst2) (St.lentA hst2) b1 (last_out hw) (at_old (at_own (l := [.pointer (some ⟨rb, 0, none⟩)]) (v := .pointer (some ⟨rb, 0, none⟩)) m_m rfl w' hw) (last_out hw) w2 hst2) (ite_nd hq9 hd9)))) rfl rfl ?_
        rw [q9]
        rintro _ _ ⟨_, ⟨rfl, va2, G2, hV2, rfl⟩, rfl⟩
        refine RL ?_
        refine l_x (x_load rfl rfl (at_own (l := [.pointer (some ⟨rb, 0, none⟩)]) (v := .pointer (some ⟨rb, 0, none⟩)) m_m rfl)) rfl rfl ?_
        rintro _ _ ⟨rfl, rfl⟩
        have hrm9 := ite_room q9
        simp only [Md.out, Md.text] at hrm9
        refine l_x (x_callT (F := [(b1, _)]) (A := (rb, _) :: _) call_29 rfl (fun w hw => put_fn rb t r2 d 0 o2 o_m va2 G2 hV2 3 0 w (St.lentV hw))) rfl rfl ?_
        rintro _ _ ⟨_, ⟨rfl, va4, G4, hV4, rfl⟩, rfl⟩
        refine RL ?_
        refine RL ?_
        refine l_nil ?_
        refine c_ret ?_
        exact l_end (fun _ _ => rets_v rfl) (.cons _ (List.Sublist.refl _)) ⟨rfl, va4, G4, by rw [List.length_append]; exact hV4, rfl⟩
       ·refine c_region ?_
        refine l_x (x_load rfl rfl (at_own (l := [.pointer (some ⟨rb, 0, none⟩)]) (v := .pointer (some ⟨rb, 0, none⟩)) m_m rfl)) rfl rfl ?_
        rintro _ _ ⟨rfl, rfl⟩
        refine l_as (v := (.func (.func 38) #[] #[.pointer (some ⟨b1, 0, none⟩)])) rfl rfl rfl (by simp only [List.map_toArray, List.map_cons, List.map_nil]; rfl) ?_
        refine l_x (x_callT (F := [(b1, _)]) (A := (rb, _) :: _) call_34 rfl (fun w' hw => deeper_fn rb t u _ hs3 ht out va G hV d hd 38 [] [.pointer (some ⟨b1, 0, none⟩)] call_38 (run n (.closed 93 (d + 1) u out)) w' (St.lentV hw) (fun hd9 w2 hst2 => close2_fn n ihc rb t u hsu9 ht out hou9 va G hV (d + 1) o_m (hGl.outA hm hw) w2 (later_in (later_in hGl hm hw) (hGl.outA hm hw) hst2) (St.lentA hst2) b1 (last_out hw) (at_old (at_own (l := [.pointer (some ⟨rb, 0, none⟩)]) (v := .pointer (some ⟨rb, 0, none⟩)) m_m rfl w' hw) (last_out hw) w2 hst2) (ite_nd hq9 hd9)))) rfl rfl ?_
        rw [q9]
        rintro _ _ ⟨_, ⟨rfl, o2, va2, G2, hV2, rfl⟩, rfl⟩
        refine RL ?_
        refine RLp ?_
        refine RLp ?_
        refine RL ?_
        refine RL ?_
        refine l_nil ?_
        refine c_ret ?_
        exact l_end (fun _ _ => rets_v rfl) (.cons _ (List.Sublist.refl _)) ⟨rfl, o2, va2, G2, hV2, rfl⟩
       ·refine c_region ?_
        refine l_x (x_load rfl rfl (at_own (l := [.pointer (some ⟨rb, 0, none⟩)]) (v := .pointer (some ⟨rb, 0, none⟩)) m_m rfl)) rfl rfl ?_
        rintro _ _ ⟨rfl, rfl⟩
        refine l_as (v := (.func (.func 38) #[] #[.pointer (some ⟨b1, 0, none⟩)])) rfl rfl rfl (by simp only [List.map_toArray, List.map_cons, List.map_nil]; rfl) ?_
        exact absurd q9 hq9
      ·have h6n := r_f h6
       refine c_seq ?_
       refine c_region ?_
       refine RL ?_
       refine RL ?_
       refine l_nil ?_
       refine c_cond rfl (fun h7 => ?_) (fun h7 => ?_)
       ·have h7n := r_f h7
        refine c_seq ?_
        obtain rfl : c = 36 := u8_eq (k := 36) h7n
        rw [thing_hex hcu] at hn ⊢
        rcases q9 : numR 16 u (36 :: u) out with ⟨r2, o2⟩ | ⟨r2, e2⟩ | _
        ·refine c_draw _ [1, 2, 3, 4, 5] (.step true 0 (.step true 1 (.step true 2 (.step true 3 (.step true 4 (.step true 5 (.step false 6 (.step true 7 .done)))))))) rfl (by kernel_rfl) (by kernel_rfl) (fun _ h => h) ?_
         refine d_load rfl rfl rfl (s_own (l := [.pointer (some ⟨rb, 0, none⟩)]) (v := .pointer (some ⟨rb, 0, none⟩)) m_m rfl) rfl rfl ?_
         refine d_load rfl rfl rfl (s_own (l := [.pointer (some ⟨rb, 0, none⟩)]) (v := .pointer (some ⟨rb, 0, none⟩)) m_m rfl) rfl rfl ?_
         refine RD ?_
         refine RDa ?_
         refine d_load rfl rfl rfl (s_own (v := .int .i64 ((t.length : Int) - (36 :: u).length)) m_m (by rfl)) rfl rfl ?_
         refine d_as (v := (.int .i64 ((t.length : Int) - u.length))) rfl rfl rfl rfl rfl ((as_i64 (by simp; omega) (by simp; omega)).trans (congrArg _ (by simp; omega))) ?_
         refine d_x rfl (x_callT (F := [(b1, _)]) (A := (rb, _) :: _) call_39 rfl (fun w hw => number_fn rb t u hsu9 ht (36 :: u) hs3 16 (by decide) out o_m va G hV d (hGl.outA hm hw) w (later_in hGl hm hw) (St.lentV hw))) rfl rfl (by first | (intro h; cases h; done)) ?_
         rw [q9]
         rintro _ _ ⟨_, ⟨rfl, va2, G2, hV2, rfl⟩, rfl⟩
         refine RD ?_
         refine d_nil ?_
         refine c_ret ?_
         exact l_end (fun _ _ => rets_v rfl) (.cons _ (List.Sublist.refl _)) ⟨rfl, va2, G2, hV2, rfl⟩
        ·refine c_draw _ [1, 2, 3, 4, 5] (.step true 0 (.step true 1 (.step true 2 (.step true 3 (.step true 4 (.step true 5 (.step false 6 (.step true 7 .done)))))))) rfl (by kernel_rfl) (by kernel_rfl) (fun _ h => h) ?_
         refine d_load rfl rfl rfl (s_own (l := [.pointer (some ⟨rb, 0, none⟩)]) (v := .pointer (some ⟨rb, 0, none⟩)) m_m rfl) rfl rfl ?_
         refine d_load rfl rfl rfl (s_own (l := [.pointer (some ⟨rb, 0, none⟩)]) (v := .pointer (some ⟨rb, 0, none⟩)) m_m rfl) rfl rfl ?_
         refine RD ?_
         refine RDa ?_
         refine d_load rfl rfl rfl (s_own (v := .int .i64 ((t.length : Int) - (36 :: u).length)) m_m (by rfl)) rfl rfl ?_
         refine d_as (v := (.int .i64 ((t.length : Int) - u.length))) rfl rfl rfl rfl rfl ((as_i64 (by simp; omega) (by simp; omega)).trans (congrArg _ (by simp; omega))) ?_
         refine d_x rfl (x_callT (F := [(b1, _)]) (A := (rb, _) :: _) call_39 rfl (fun w hw => number_fn rb t u hsu9 ht (36 :: u) hs3 16 (by decide) out o_m va G hV d (hGl.outA hm hw) w (later_in hGl hm hw) (St.lentV hw))) rfl rfl (by first | (intro h; cases h; done)) ?_
         rw [q9]
         rintro _ _ ⟨_, ⟨rfl, o2, va2, G2, hV2, rfl⟩, rfl⟩
         refine RD ?_
         refine d_nil ?_
         refine c_ret ?_
         exact l_end (fun _ _ => rets_v rfl) (.cons _ (List.Sublist.refl _)) ⟨rfl, o2, va2, G2, hV2, rfl⟩
        ·refine c_draw _ [1, 2, 3, 4, 5] (.step true 0 (.step true 1 (.step true 2 (.step true 3 (.step true 4 (.step true 5 (.step false 6 (.step true 7 .done)))))))) rfl (by kernel_rfl) (by kernel_rfl) (fun _ h => h) ?_
         refine d_load rfl rfl rfl (s_own (l := [.pointer (some ⟨rb, 0, none⟩)]) (v := .pointer (some ⟨rb, 0, none⟩)) m_m rfl) rfl rfl ?_
         refine d_load rfl rfl rfl (s_own (l := [.pointer (some ⟨rb, 0, none⟩)]) (v := .pointer (some ⟨rb, 0, none⟩)) m_m rfl) rfl rfl ?_
         refine RD ?_
         refine RDa ?_
         refine d_load rfl rfl rfl (s_own (v := .int .i64 ((t.length : Int) - (36 :: u).length)) m_m (by rfl)) rfl rfl ?_
         refine d_as (v := (.int .i64 ((t.length : Int) - u.length))) rfl rfl rfl rfl rfl ((as_i64 (by simp; omega) (by simp; omega)).trans (congrArg _ (by simp; omega))) ?_
         exact absurd q9 numR_dry
       ·have h7n := r_f h7
        refine c_skip ?_
        refine c_seq ?_
        refine c_seq ?_
        refine c_region ?_
        refine RL ?_
        refine RLv call_40 (fun w hw => small_fn c w) ?_
        refine l_nil ?_
        refine c_cond rfl (fun h8 => ?_) (fun h8 => ?_)
        ·have h8n := r_f h8
         refine c_seq ?_
         rw [thing_more hcu o_m o_m o_m o_m o_m o_m, if_pos h8] at hn ⊢
         rcases q9 : nameR (c :: u) out with ⟨r2, o2⟩ | ⟨r2, e2⟩ | _
         ·refine c_region ?_
          refine l_x (x_load rfl rfl (at_own (l := [.pointer (some ⟨rb, 0, none⟩)]) (v := .pointer (some ⟨rb, 0, none⟩)) m_m rfl)) rfl rfl ?_
          rintro _ _ ⟨rfl, rfl⟩
          refine l_x (x_callT (F := [(b1, _)]) (A := (rb, _) :: _) call_41 rfl (fun w hw => name_fn rb t (c :: u) hs3 ht out o_m va G hV d (hGl.outA hm hw) w (later_in hGl hm hw) (St.lentV hw))) rfl rfl ?_
          rw [q9]
          rintro _ _ ⟨_, ⟨rfl, va2, G2, hV2, rfl⟩, rfl⟩
          refine RL ?_
          refine l_nil ?_
          refine c_ret ?_
          exact l_end (fun _ _ => rets_v rfl) (.cons _ (List.Sublist.refl _)) ⟨rfl, va2, G2, hV2, rfl⟩
         ·refine c_region ?_
          refine l_x (x_load rfl rfl (at_own (l := [.pointer (some ⟨rb, 0, none⟩)]) (v := .pointer (some ⟨rb, 0, none⟩)) m_m rfl)) rfl rfl ?_
          rintro _ _ ⟨rfl, rfl⟩
          refine l_x (x_callT (F := [(b1, _)]) (A := (rb, _) :: _) call_41 rfl (fun w hw => name_fn rb t (c :: u) hs3 ht out o_m va G hV d (hGl.outA hm hw) w (later_in hGl hm hw) (St.lentV hw))) rfl rfl ?_
          rw [q9]
          rintro _ _ ⟨_, ⟨rfl, o2, va2, G2, hV2, rfl⟩, rfl⟩
          refine RL ?_
          refine l_nil ?_
          refine c_ret ?_
          exact l_end (fun _ _ => rets_v rfl) (.cons _ (List.Sublist.refl _)) ⟨rfl, o2, va2, G2, hV2, rfl⟩
         ·refine c_region ?_
          refine l_x (x_load rfl rfl (at_own (l := [.pointer (some ⟨rb, 0, none⟩)]) (v := .pointer (some ⟨rb, 0, none⟩)) m_m rfl)) rfl rfl ?_
          rintro _ _ ⟨rfl, rfl⟩
          exact absurd q9 nameR_dry
        ·have h8n := r_f h8
         refine c_skip ?_
         refine c_seq ?_
         rw [thing_more hcu o_m o_m o_m o_m o_m o_m, if_neg (by rw [h8]; decide)] at hn ⊢
         rcases q9 : numR 10 (c :: u) (c :: u) out with ⟨r2, o2⟩ | ⟨r2, e2⟩ | _
         ·refine c_draw _ [1, 2, 3, 4] (.step true 0 (.step true 1 (.step true 2 (.step true 3 (.step true 4 (.step false 5 (.step true 6 .done))))))) rfl (by kernel_rfl) (by kernel_rfl) (fun _ h => h) ?_
          refine d_load rfl rfl rfl (s_own (l := [.pointer (some ⟨rb, 0, none⟩)]) (v := .pointer (some ⟨rb, 0, none⟩)) m_m rfl) rfl rfl ?_
          refine d_load rfl rfl rfl (s_own (l := [.pointer (some ⟨rb, 0, none⟩)]) (v := .pointer (some ⟨rb, 0, none⟩)) m_m rfl) rfl rfl ?_
          refine RD ?_
          refine RDa ?_
          refine d_load rfl rfl rfl (s_own (v := .int .i64 ((t.length : Int) - (c :: u).length)) m_m (by rfl)) rfl rfl ?_
          refine d_x rfl (x_callT (F := [(b1, _)]) (A := (rb, _) :: _) call_39 rfl (fun w hw => number_fn rb t (c :: u) hs3 ht (c :: u) hs3 10 (by decide) out o_m va G hV d (hGl.outA hm hw) w (later_in hGl hm hw) (St.lentV hw))) rfl rfl (by first | (intro h; cases h; done)) ?_
          rw [q9]
          rintro _ _ ⟨_, ⟨rfl, va2, G2, hV2, rfl⟩, rfl⟩
          refine RD ?_
          refine d_nil ?_
          refine c_ret ?_
          exact l_end (fun _ _ => rets_v rfl) (.cons _ (List.Sublist.refl _)) ⟨rfl, va2, G2, hV2, rfl⟩
         ·refine c_draw _ [1, 2, 3, 4] (.step true 0 (.step true 1 (.step true 2 (.step true 3 (.step true 4 (.step false 5 (.step true 6 .done))))))) rfl (by kernel_rfl) (by kernel_rfl) (fun _ h => h) ?_
          refine d_load rfl rfl rfl (s_own (l := [.pointer (some ⟨rb, 0, none⟩)]) (v := .pointer (some ⟨rb, 0, none⟩)) m_m rfl) rfl rfl ?_
          refine d_load rfl rfl rfl (s_own (l := [.pointer (some ⟨rb, 0, none⟩)]) (v := .pointer (some ⟨rb, 0, none⟩)) m_m rfl) rfl rfl ?_
          refine RD ?_
          refine RDa ?_
          refine d_load rfl rfl rfl (s_own (v := .int .i64 ((t.length : Int) - (c :: u).length)) m_m (by rfl)) rfl rfl ?_
          refine d_x rfl (x_callT (F := [(b1, _)]) (A := (rb, _) :: _) call_39 rfl (fun w hw => number_fn rb t (c :: u) hs3 ht (c :: u) hs3 10 (by decide) out o_m va G hV d (hGl.outA hm hw) w (later_in hGl hm hw) (St.lentV hw))) rfl rfl (by first | (intro h; cases h; done)) ?_
          rw [q9]
          rintro _ _ ⟨_, ⟨rfl, o2, va2, G2, hV2, rfl⟩, rfl⟩
          refine RD ?_
          refine d_nil ?_
          refine c_ret ?_
          exact l_end (fun _ _ => rets_v rfl) (.cons _ (List.Sublist.refl _)) ⟨rfl, o2, va2, G2, hV2, rfl⟩
         ·refine c_draw _ [1, 2, 3, 4] (.step true 0 (.step true 1 (.step true 2 (.step true 3 (.step true 4 (.step false 5 (.step true 6 .done))))))) rfl (by kernel_rfl) (by kernel_rfl) (fun _ h => h) ?_
          refine d_load rfl rfl rfl (s_own (l := [.pointer (some ⟨rb, 0, none⟩)]) (v := .pointer (some ⟨rb, 0, none⟩)) m_m rfl) rfl rfl ?_
          refine d_load rfl rfl rfl (s_own (l := [.pointer (some ⟨rb, 0, none⟩)]) (v := .pointer (some ⟨rb, 0, none⟩)) m_m rfl) rfl rfl ?_
          refine RD ?_
          refine RDa ?_
          refine d_load rfl rfl rfl (s_own (v := .int .i64 ((t.length : Int) - (c :: u).length)) m_m (by rfl)) rfl rfl ?_
          exact absurd q9 numR_dry

theorem reads : ∀ n, ThingC n ∧ WholeC n ∧ ClosedC n := fun n => Nat.strongRecOn n fun
 | 0, _ => ⟨fun _ _ _ _ _ _ _ _ _ _ _ _ _ _ _ _ h => absurd rfl h, fun _ _ _ _ _ _ _ _ _ _ _ _ _ _ _ _ _ _ h => absurd rfl h, fun _ _ _ _ _ _ _ _ _ _ _ _ _ _ _ _ _ h => absurd rfl h⟩
 | n + 1, ih => ⟨fun rb t r hs ht out ho va G hV d hd hm w hGl hst hn => thing_fn n (ih n (Nat.lt_succ_self n)).1 (ih n (Nat.lt_succ_self n)).2.2 rb t r hs ht out ho va G hV d hd hm w hGl hst hn,
   fun rb t r hs ht out ho va G hV d hd hm w hGl hst b hb hn => whole_fn n (ih n (Nat.lt_succ_self n)).1 (fun k hk => (ih k (Nat.lt_succ_of_le hk)).2.1) rb t r hs ht out ho va G hV d hd hm w hGl hst b hb hn,
   fun rb t r hs ht out ho va G hV d hd hm w hGl hst by_ hn => closed_fn n (ih n (Nat.lt_succ_self n)).2.1 rb t r hs ht out ho va G hV d hd hm w hGl hst by_ hn⟩
/-- What Parse answers, and leaves. -/
def ParsedH (t : Tx) (v : Value) (H : Heap) : Prop := ∃ va, Vec 43 2 va (parseT t).1.length (flat cCd (parseT t).1) H ∧ v = .tuple #[va, .int .i64 (parseT t).2.1, .int .i64 (parseT t).2.2]

theorem parse_fn (t : Tx) (w : World) (hGl : GlE w) : Does Tryd.prog 13 [.string (bs t)] w [] (fun v H => ParsedH t v H) := by
 refine does_of Tryd.func13 rfl rfl rfl (St.refl w) ?_
 refine c_seq ?_
 refine c_region ?_
 iterate 3 refine RL ?_
 refine l_nil ?_
 refine c_seq ?_
 refine c_seq ?_
 refine c_region ?_
 refine RL ?_
 refine l_l (light_lenstr rfl rfl) rfl rfl ?_
 refine RL ?_
 refine l_nil ?_
 refine c_cond rfl (fun h1 => ?_) (fun h1 => ?_)
 ·have h1n := r_f h1
  refine c_seq ?_
  refine c_region ?_
  iterate 3 refine RL ?_
  refine l_nil ?_
  refine c_ret ?_
  unfold ParsedH
  rw [parse_long o_m]
  exact l_end0 (fun _ _ => rets_v3 rfl rfl rfl) ⟨_, .nil, rfl⟩
 ·have h1n := r_f h1
  refine c_skip ?_
  refine c_seq ?_
  have ht : t.length ≤ 300 := by omega
  refine c_region ?_
  refine RL ?_
  refine l_l (light_struct rfl rfl rfl rfl) rfl rfl ?_
  refine l_x (x_box (l := [.string (bs t), .int .i64 0, .slice none 0 0, .int .i64 0, .int .i64 0]) rfl rfl) rfl rfl ?_
  rintro _ _ ⟨rb, rfl, rfl⟩
  rw [cRd_0]
  refine RL ?_
  refine l_nil ?_
  refine c_seq ?_
  refine c_seq ?_
  rcases q9 : run (4 * t.length + 2) (.whole 0 0 t []) with ⟨r2, o2⟩ | ⟨r2, e2⟩ | _
  ·refine c_region ?_
   refine RL ?_
   have hs2 : ∃ p, t = p ++ r2 := run_suf (m := .whole 0 0 t []) ⟨[], rfl⟩ q9
   refine l_x (x_callA call_22 rfl (fun w hw => (reads _).2.1 rb t t ⟨[], rfl⟩ ht [] (by simp; omega) _ [] .nil 0 (by decide) (hGl.out (by simp) hw) w (later_in hGl (by simp) hw) (St.lentA hw) 0 (by decide) (parse_ends t))) rfl rfl ?_
   rw [q9]
   rintro _ _ ⟨rfl, va2, G2, hV2, rfl⟩
   refine RL ?_
   refine RL ?_
   refine l_x (x_callM (F := []) (A := [(rb, _)]) (G := _) [rb] call_23 rfl (fun _ hb => mem_fst (G := [(rb, _)]) hb) (fun w hw => space_fn rb t r2 hs2 ht va2 0 0 w (St.lentV hw))) rfl rfl ?_
   rintro _ _ ⟨_, ⟨rfl, rfl⟩, rfl⟩
   refine c_u ?_
   refine RL ?_
   refine l_nil ?_
   refine c_cond rfl (fun h2 => ?_) (fun h2 => ?_)
   ·have h2n := r_f h2
    refine c_region ?_
    refine RL ?_
    refine l_x (x_callM (F := []) (A := [(rb, _)]) (G := _) [rb] call_24 rfl (fun _ hb => mem_fst (G := [(rb, _)]) hb) (fun w hw => fail_fn rb t (spc r2) (suf_trans hs2 (spc_suf r2)) ht _ 0 0 11 w (St.lentV hw))) rfl rfl ?_
    rintro _ _ ⟨_, ⟨rfl, rfl⟩, rfl⟩
    refine c_u ?_
    refine l_nil ?_
    refine c_seq ?_
    refine c_seq ?_
    refine c_region ?_
    refine RL ?_
    refine RL ?_
    refine RLa ?_
    refine l_x (x_load rfl rfl (at_own (v := .int .i64 11) m_m (by rfl))) rfl rfl ?_
    rintro _ _ ⟨rfl, rfl⟩
    refine l_sure true rfl rfl rfl rfl ?_
    refine l_nil ?_
    refine c_true rfl ?_
    refine c_seq ?_
    refine c_draw _ [4, 5, 6, 7, 8, 9] (.step true 0 (.step true 1 (.step true 2 (.step true 3 (.step true 4 (.step true 5 (.step true 6 (.step true 7 (.step true 8 (.step true 9 (.step true 10 .done))))))))))) rfl (by kernel_rfl) (by kernel_rfl) (fun _ h => h) ?_
    refine RD ?_
    refine RD ?_
    refine RDa ?_
    refine d_load rfl rfl rfl (s_own (v := .int .i64 ((t.length : Int) - (spc r2).length)) m_m (by rfl)) rfl rfl ?_
    refine RD ?_
    refine RD ?_
    refine RDa ?_
    refine d_load rfl rfl rfl (s_own (v := .int .i64 11) m_m (by rfl)) rfl rfl ?_
    iterate 3 refine RD ?_
    refine d_nil ?_
    refine c_ret ?_
    unfold ParsedH
    rw [parse_ok ht q9, if_neg (by simpa using h2)]
    exact l_end (fun _ _ => rets_v3 rfl rfl rfl) (List.nil_sublist _) ⟨_, .nil, rfl⟩
   ·have h2n := r_f h2
    refine c_skip ?_
    refine c_seq ?_
    refine c_seq ?_
    refine c_region ?_
    refine RL ?_
    refine RL ?_
    refine RLa ?_
    refine l_x (x_load rfl rfl (at_own (v := .int .i64 0) m_m (by rfl))) rfl rfl ?_
    rintro _ _ ⟨rfl, rfl⟩
    refine l_sure false rfl rfl rfl rfl ?_
    refine l_nil ?_
    refine c_false rfl ?_
    refine c_skip ?_
    refine c_seq ?_
    obtain ⟨a9, c9, rfl⟩ := hV2.slice
    refine c_region ?_
    refine RL ?_
    refine RL ?_
    refine RLa ?_
    refine RLo ?_
    iterate 3 refine RL ?_
    refine l_nil ?_
    refine c_ret ?_
    unfold ParsedH
    rw [parse_ok ht q9, if_pos (by simpa using h2)]
    exact l_end (fun _ _ => rets_v3 rfl rfl rfl) (.cons _ (List.Sublist.refl _)) ⟨_, hV2, rfl⟩
  ·refine c_region ?_
   refine RL ?_
   have hs2 : ∃ p, t = p ++ r2 := run_sufn (m := .whole 0 0 t []) ⟨[], rfl⟩ q9
   have he9 := run_err _ _ _ _ q9
   refine l_x (x_callA call_22 rfl (fun w hw => (reads _).2.1 rb t t ⟨[], rfl⟩ ht [] (by simp; omega) _ [] .nil 0 (by decide) (hGl.out (by simp) hw) w (later_in hGl (by simp) hw) (St.lentA hw) 0 (by decide) (parse_ends t))) rfl rfl ?_
   rw [q9]
   rintro _ _ ⟨rfl, o2, va2, G2, hV2, rfl⟩
   refine RL ?_
   refine RLp ?_
   refine RLp ?_
   refine RL ?_
   refine l_nil ?_
   refine c_false rfl ?_
   refine c_skip ?_
   refine c_seq ?_
   refine c_seq ?_
   refine c_region ?_
   refine RL ?_
   refine RL ?_
   refine RLa ?_
   refine l_x (x_load rfl rfl (at_own (v := .int .i64 e2) m_m (by rfl))) rfl rfl ?_
   rintro _ _ ⟨rfl, rfl⟩
   refine l_sure true rfl rfl rfl (by simp; omega) ?_
   refine l_nil ?_
   refine c_true rfl ?_
   refine c_seq ?_
   refine c_draw _ [4, 5, 6, 7, 8, 9] (.step true 0 (.step true 1 (.step true 2 (.step true 3 (.step true 4 (.step true 5 (.step true 6 (.step true 7 (.step true 8 (.step true 9 (.step true 10 .done))))))))))) rfl (by kernel_rfl) (by kernel_rfl) (fun _ h => h) ?_
   refine RD ?_
   refine RD ?_
   refine RDa ?_
   refine d_load rfl rfl rfl (s_own (v := .int .i64 ((t.length : Int) - r2.length)) m_m (by rfl)) rfl rfl ?_
   refine RD ?_
   refine RD ?_
   refine RDa ?_
   refine d_load rfl rfl rfl (s_own (v := .int .i64 e2) m_m (by rfl)) rfl rfl ?_
   iterate 3 refine RD ?_
   refine d_nil ?_
   refine c_ret ?_
   unfold ParsedH
   rw [parse_no ht q9]
   exact l_end (fun _ _ => rets_v3 rfl rfl rfl) (List.nil_sublist _) ⟨_, .nil, rfl⟩
  ·refine c_region ?_
   refine RL ?_
   exact absurd q9 (parse_ends t)

end Go.Proofs.YtiadmbhafplepaaDoor
namespace Go.Proofs.YtiadmbhafplepaaDoor
open Go Go.VV

def ixW (op : Int) : Int := match sgs.findIdx? (fun s => s.op == op) with
  | some i => i
  | none => -1
theorem ixW_at {op : Int} {i : Nat} {s : Sg} (h : ∀ j s', j < i → sgs[j]? = some s' → (s'.op == op) = false) (hi : sgs[i]? = some s) (hp : (s.op == op) = true) : ixW op = i := by
  unfold ixW
  have : sgs.findIdx? (fun s => s.op == op) = some i := by
    rw [List.findIdx?_eq_some_iff_getElem]
    obtain ⟨hl, he⟩ := List.getElem?_eq_some_iff.1 hi
    refine ⟨hl, by rw [he]; exact hp, fun j hj => ?_⟩
    have := h j _ hj (List.getElem?_eq_getElem (by omega))
    simpa using this
  rw [this]
theorem ixW_no {op : Int} (h : ∀ j s', j < 18 → sgs[j]? = some s' → (s'.op == op) = false) : ixW op = -1 := by
  unfold ixW
  have : sgs.findIdx? (fun s => s.op == op) = none := by
    rw [List.findIdx?_eq_none_iff]
    intro s hs
    obtain ⟨j, hj, rfl⟩ := List.mem_iff_getElem.1 hs
    exact h j _ hj (List.getElem?_eq_getElem hj)
  rw [this]
theorem ixW_neg {op : Int} (h : ¬ 0 ≤ ixW op) : wordT op = [] := by
  unfold ixW at h
  cases hf : sgs.findIdx? (fun s => s.op == op) with
  | some i => rw [hf] at h; exact absurd (by dsimp only; omega) h
  | none =>
    unfold wordT
    have : sgs.find? (fun s => decide (s.op = op)) = none := by
      rw [List.find?_eq_none]
      intro s hs
      have := (List.findIdx?_eq_none_iff.1 hf) s hs
      simpa using this
    rw [this]
theorem ixW_pos {op : Int} (h : 0 ≤ ixW op) : ∃ s, sgs[(ixW op).toNat]? = some s ∧ wordT op = s.text ∧ (ixW op).toNat < 18 ∧ ixW op = ((ixW op).toNat : Int) := by
  cases hf : sgs.findIdx? (fun s => s.op == op) with
  | none => exfalso; unfold ixW at h; rw [hf] at h; dsimp only at h; omega
  | some i =>
    have hi : ixW op = i := by unfold ixW; rw [hf]
    obtain ⟨hl, he, hb⟩ := List.findIdx?_eq_some_iff_getElem.1 hf
    have hw : wordT op = sgs[i].text := by
      unfold wordT
      have : sgs.find? (fun s => decide (s.op = op)) = some sgs[i] := by
        rw [List.find?_eq_some_iff_getElem]
        exact ⟨by simpa using he, i, hl, rfl, fun j hj => by simpa using hb j hj⟩
      rw [this]
    refine ⟨sgs[i], ?_, hw, ?_, ?_⟩
    · rw [hi]; exact List.getElem?_eq_getElem hl
    · rw [hi]; exact hl
    · rw [hi]; rfl
/-- The texts that are there can be read. -/
def TxR (w : World) (a : Option Addr) (xs : List Tx) : Prop := 0 < xs.length → ∃ b, a = some ⟨b, 0, none⟩ ∧ Row w b 0 (xs.map strV)
theorem preC_at : ∀ m : Fin 3, ([45, 33, 126] : Tx)[m.val]? = some (preC m.val) := by decide
theorem word_short (op : Int) : (wordT op).length ≤ 2 := by
  unfold wordT
  split
  · rename_i s hs
    exact (show ∀ s ∈ sgs, s.text.length ≤ 2 by decide) s (List.mem_of_find?_eq_some hs)
  · decide
theorem name_short : ∀ i : Fin 18, (nms.getD i.val []).length ≤ 5 := by decide
theorem saidT_eq (op n : Int) (xs : List Tx) : saidT ⟨op, n⟩ xs =
    if op = 1 then (if 0 ≤ n ∧ n ≤ 2147483647 then some (decT n.toNat, 0) else none)
    else if op = 2 then (if 0 ≤ n ∧ n < 18 then some (nms.getD n.toNat [], 0) else none)
    else if n ≠ 0 ∨ xs.length < 1 then none
    else if op = 3 then some ([91] ++ xs.getD (xs.length - 1) [] ++ [93], 1)
    else if 4 ≤ op ∧ op ≤ 6 then some ([preC (op - 4).toNat] ++ xs.getD (xs.length - 1) [], 1)
    else if 7 ≤ op ∧ op ≤ 24 ∧ 1 < xs.length then some ([40] ++ xs.getD (xs.length - 2) [] ++ [32] ++ wordT op ++ [32] ++ xs.getD (xs.length - 1) [] ++ [41], 2)
    else none := rfl
theorem getD_short {xs : List Tx} (h : ∀ x ∈ xs, x.length ≤ 4000) (j : Nat) : (xs.getD j []).length ≤ 4000 := by
  rw [List.getD_eq_getElem?_getD]
  cases hx : xs[j]? with
  | none => exact Nat.zero_le _
  | some x => exact h x (List.mem_of_getElem? hx)
theorem said_took {c : Cd} {xs : List Tx} {x : Tx} {k : Nat} (h : saidT c xs = some (x, k)) : k ≤ xs.length := by
  unfold saidT at h
  split at h
  · split at h
    · cases h; exact Nat.zero_le _
    · cases h
  · split at h
    · split at h
      · cases h; exact Nat.zero_le _
      · cases h
    · split at h
      · cases h
      · split at h
        · cases h; omega
        · split at h
          · cases h; omega
          · split at h
            · cases h; omega
            · cases h
end Go.Proofs.YtiadmbhafplepaaDoor
namespace Go.Proofs.YtiadmbhafplepaaDoor
open Go Go.VV

theorem decT_lib (u : Nat) : decT u = Lib.decDigits u := by
  induction u using Nat.strongRecOn with
  | _ u ih =>
    by_cases h : u < 10
    · rw [decT_1 h, Lib.decDigits, dif_pos h]
    · rw [decT_2 h, Lib.decDigits, dif_neg h, ih (u / 10) (by omega)]
theorem st_grow (w : World) (k : Nat) (os : Array Obj) : St w [] [] (Sort.grow (w.drewN k) os) := by
  refine ⟨?_, ?_, ?_, ?_, ?_, by simp, by simp, by simp⟩
  · induction k generalizing w with
    | zero => rfl
    | succ k ih => exact ih w.drew
  · induction k generalizing w with
    | zero => rfl
    | succ k ih => exact ih w.drew
  · induction k generalizing w with
    | zero => rfl
    | succ k ih => exact ih w.drew
  all_goals
    have hh : (w.drewN k).heap = w.heap := by
      induction k generalizing w with
      | zero => rfl
      | succ k ih => exact ih w.drew
  · show w.heap.size ≤ ((w.drewN k).heap ++ os).size
    rw [hh, Array.size_append]; omega
  · intro j hj _
    show ((w.drewN k).heap ++ os)[j]? = _
    rw [hh, Array.getElem?_append_left hj]
end Go.Proofs.YtiadmbhafplepaaDoor
namespace Go.Proofs.YtiadmbhafplepaaDoor
open Go Go.Shelf Go.Proofs
def laysItoa_ren : Go.Shelf.Ren := ⟨fun | 171 => 25 | 243 => 30 | 246 => 43 | 283 => 48 | 284 => 49 | 285 => 50 | 286 => 51 | 129 => 56 | 317 => 55 | 318 => 57 | 319 => 58 | 320 => 59 | 337 => 66 | 338 => 67 | n => n, fun | 3 => 3 | 9 => 9 | 2 => 2 | 4 => 4 | 171 => 74 | 0 => 0 | 53 => 68 | 37 => 53 | 5 => 5 | 173 => 77 | 212 => 82 | 51 => 83 | 20 => 20 | 213 => 84 | 46 => 85 | 232 => 97 | 233 => 98 | n => n, fun | 17 => 0 | 18 => 4 | 19 => 5 | n => n⟩
theorem laysItoa : Go.Proofs.LaysM.n171 Tryd.prog laysItoa_ren := {
  mixed := by kernel_rfl
  f129 := Tryd.func56.trans (congrArg some (by kernel_rfl))
  f171 := Tryd.func25.trans (congrArg some (by kernel_rfl))
  f243 := Tryd.func30.trans (congrArg some (by kernel_rfl))
  f246 := Tryd.func43.trans (congrArg some (by kernel_rfl))
  f283 := Tryd.func48.trans (congrArg some (by kernel_rfl))
  f284 := Tryd.func49.trans (congrArg some (by kernel_rfl))
  f285 := Tryd.func50.trans (congrArg some (by kernel_rfl))
  f286 := Tryd.func51.trans (congrArg some (by kernel_rfl))
  f317 := Tryd.func55.trans (congrArg some (by kernel_rfl))
  f318 := Tryd.func57.trans (congrArg some (by kernel_rfl))
  f319 := Tryd.func58.trans (congrArg some (by kernel_rfl))
  f320 := Tryd.func59.trans (congrArg some (by kernel_rfl))
  f337 := Tryd.func66.trans (congrArg some (by kernel_rfl))
  f338 := Tryd.func67.trans (congrArg some (by kernel_rfl))
  t0 := Tryd.underlying0
  a0 := Tryd.isAgg0
  z0 := Tryd.sizeOf0
  v0 := Tryd.zeroValue0
  t2 := Tryd.underlying2
  a2 := Tryd.isAgg2
  z2 := Tryd.sizeOf2
  v2 := Tryd.zeroValue2
  t3 := Tryd.underlying3
  a3 := Tryd.isAgg3
  z3 := Tryd.sizeOf3
  v3 := Tryd.zeroValue3
  t4 := Tryd.underlying4
  a4 := Tryd.isAgg4
  z4 := Tryd.sizeOf4
  v4 := Tryd.zeroValue4
  t5 := Tryd.underlying5
  a5 := Tryd.isAgg5
  z5 := Tryd.sizeOf5
  v5 := Tryd.zeroValue5
  t9 := Tryd.underlying9
  a9 := Tryd.isAgg9
  z9 := Tryd.sizeOf9
  v9 := Tryd.zeroValue9
  t20 := Tryd.underlying20
  a20 := Tryd.isAgg20
  z20 := Tryd.sizeOf20
  v20 := Tryd.zeroValue20
  t37 := Tryd.underlying53
  a37 := Tryd.isAgg53
  z37 := Tryd.sizeOf53
  v37 := Tryd.zeroValue53
  t46 := Tryd.underlying85
  a46 := Tryd.isAgg85
  z46 := Tryd.sizeOf85
  v46 := Tryd.zeroValue85
  t51 := Tryd.underlying83
  a51 := Tryd.isAgg83
  z51 := Tryd.sizeOf83
  v51 := Tryd.zeroValue83
  t53 := Tryd.underlying68
  a53 := Tryd.isAgg68
  z53 := Tryd.sizeOf68
  v53 := Tryd.zeroValue68
  t171 := Tryd.underlying74
  a171 := Tryd.isAgg74
  z171 := Tryd.sizeOf74
  v171 := Tryd.zeroValue74
  t173 := Tryd.underlying77
  a173 := Tryd.isAgg77
  z173 := Tryd.sizeOf77
  v173 := Tryd.zeroValue77
  t212 := Tryd.underlying82
  a212 := Tryd.isAgg82
  z212 := Tryd.sizeOf82
  v212 := Tryd.zeroValue82
  t213 := Tryd.underlying84
  a213 := Tryd.isAgg84
  z213 := Tryd.sizeOf84
  t232 := Tryd.underlying97
  a232 := Tryd.isAgg97
  z232 := Tryd.sizeOf97
  v232 := Tryd.zeroValue97
  t233 := Tryd.underlying98
  a233 := Tryd.isAgg98
  z233 := Tryd.sizeOf98
  v233 := Tryd.zeroValue98
  g17 := by kernel_rfl
  g18 := by kernel_rfl
  g19 := by kernel_rfl
  i0 := by kernel_rfl
  i2 := by kernel_rfl
  i3 := by kernel_rfl
  i4 := by kernel_rfl
  i5 := by kernel_rfl
  i9 := by kernel_rfl
  i20 := by kernel_rfl
  i37 := by kernel_rfl
  i46 := by kernel_rfl
  i51 := by kernel_rfl
  i53 := by kernel_rfl
  i171 := by kernel_rfl
  i173 := by kernel_rfl
  i212 := by kernel_rfl
  i232 := by kernel_rfl
  i233 := by kernel_rfl
  m17 := by kernel_rfl
  m18 := by kernel_rfl
  m19 := by kernel_rfl }
end Go.Proofs.YtiadmbhafplepaaDoor
