/- The rows of layer 4 beside the document: each law returns true, whatever comes in, and what came in reads as it did. -/
import Derived.Test.YtjjemehigdpboaaGreatMgB
import Derived.Test.YtjjemehigdpboaaGreatMgC
import Derived.Test.YtjjemehigdpboaaGreatMgF
import Derived.Test.YtjjemehigdpboaaGreatMgM
import Derived.Test.YtjjemehigdpboaaGreatRows
namespace Go.Proofs.YtjjemehigdpboaaGreat
open Go Go.VV Go.Proofs Go.RowKit
set_option linter.unusedSimpArgs false
set_option linter.unusedVariables false
set_option maxRecDepth 100000
set_option maxHeartbeats 4000000 in
theorem each_fn (s : CS) (hs : s.r.Ok) (o x y : Int) (ho : 0 ≤ o ∧ o < 65536) (hx : 0 ≤ x ∧ x < 256) (hy : 0 ≤ y ∧ y < 256) (l : List Int) (hb : Byts l) (a : Option Addr) (c : Nat) (w : World) (hN : Ns w .u8 a l) : Does Tryz.prog 4 [.agg (cS s).toArray, .int .u16 o, .int .u8 x, .int .u8 y, .slice a l.length c] w [] (fun v H => H = [] ∧ v = .bool true) := by
 have hpc9 := hs.pc
 refine does_of Tryz.func4 rfl rfl rfl (St.refl w) ?_
 refine c_seq ?_
 refine c_region ?_
 refine l_x (x_box (l := cS s) rfl rfl) rfl rfl ?_
 rintro _ _ ⟨b5, rfl, rfl⟩
 refine RL ?_
 refine l_nil ?_
 refine c_seq ?_
 refine c_seq ?_
 refine c_region ?_
 refine RLv call_5 (fun w hw => awake_fn w) ?_
 iterate 3 refine RL ?_
 refine l_l l_n rfl rfl ?_
 refine RL ?_
 refine RL ?_
 refine l_nil ?_
 refine c_cond rfl (fun h1 => ?_) (fun h1 => ?_)
 ·have h1n := r_f h1
  refine c_seq ?_
  refine c_region ?_
  refine RLv call_5 (fun w hw => awake_fn w) ?_
  refine RL ?_
  refine l_nil ?_
  refine c_ret ?_
  exact l_end0 (fun _ _ => rets_v rfl) ⟨rfl, rfl⟩
 ·have h1n := r_f h1
  refine c_skip ?_
  refine c_seq ?_
  have hl9 : l.length ≤ 2000 := by omega
  refine c_region ?_
  refine RL ?_
  refine l_x (x_call call_7 rfl (fun w hw => filled_fn l hb hl9 a c w (hN.later0 hw))) rfl rfl ?_
  rintro _ _ ⟨_, ⟨b28, rfl, rfl⟩, rfl⟩
  refine c_u ?_
  refine l_l (light_struct rfl rfl rfl rfl) rfl rfl ?_
  refine l_x (x_box (l := [.slice (some ⟨b28, 0, none⟩) 65536 65536, .slice none 0 0]) rfl rfl) rfl rfl ?_
  rintro _ _ ⟨b30, rfl, rfl⟩
  refine RL ?_
  refine l_x (x_call call_7 rfl (fun w hw => filled_fn l hb hl9 a c w (hN.later0 hw))) rfl rfl ?_
  rintro _ _ ⟨_, ⟨b32, rfl, rfl⟩, rfl⟩
  refine c_u ?_
  refine l_l (light_struct rfl rfl rfl rfl) rfl rfl ?_
  refine l_x (x_box (l := [.slice (some ⟨b32, 0, none⟩) 65536 65536, .slice none 0 0, .int .u8 0, .int .i64 0, .bool false, .slice none 0 0]) rfl rfl) rfl rfl ?_
  rintro _ _ ⟨b34, rfl, rfl⟩
  refine RL ?_
  refine RL ?_
  refine l_nil ?_
  refine c_seq ?_
  refine c_region ?_
  refine RL ?_
  refine l_as (l_conv rfl rfl rfl) rfl rfl (by first | exact as_u8 o_m o_m | exact as_u8m _) ?_
  refine RL ?_
  refine RL ?_
  refine l_x (x_slc (z := [.int .u8 0]) (l := [.int .u8 (o % 256), .int .u8 (x), .int .u8 (y)]) (ps := [(0, .int .u8 (o % 256)), (1, .int .u8 (x)), (2, .int .u8 (y))]) rfl rfl rfl rfl rfl rfl) rfl rfl ?_
  rintro _ _ ⟨b39, rfl, rfl⟩
  refine RL ?_
  refine l_nil ?_
  refine c_cut (σ := Nat × List Int) [13, 40, 41, 42, 43, 44, 45, 46] (fun q => [(13, .slice (some ⟨q.1, 0, none⟩) 3 3)]) (fun q => (q.1, blk (q.2.map (.int .u8)) 5) :: (b34, blk [.slice (some ⟨b32, 0, none⟩) 65536 65536, .slice none 0 0, .int .u8 0, .int .i64 0, .bool false, .slice none 0 0] 38) :: (b32, blk ((fillB l).map (.int .u8)) 5) :: (b30, blk [.slice (some ⟨b28, 0, none⟩) 65536 65536, .slice none 0 0] 35) :: (b28, blk ((fillB l).map (.int .u8)) 5) :: [(b5, blk (cS s) 26)]) (fun q => q.2.length = 3 ∧ Byts q.2) ?_ ?_
  ·refine c_seq ?_
   refine c_region ?_
   refine RL ?_
   refine l_as (l_and rfl rfl) rfl rfl (by first | exact as_bit 8 (by decide) o_m (show _ < (65536 : Int) by omega) (show _ < (65536 : Int) by decide) | rfl) ?_
   refine RL ?_
   refine l_nil ?_
   refine c_cond rfl (fun h2 => ?_) (fun h2 => ?_)
   ·have h2n := r_f h2
    refine c_region ?_
    refine RL ?_
    refine l_as (l_conv rfl rfl rfl) rfl rfl (by first | exact as_u8 o_m o_m | exact as_u8m _) ?_
    refine RL ?_
    refine l_x (x_slc (z := [.int .u8 0]) (l := [.int .u8 (203), .int .u8 (o % 256), .int .u8 (y)]) (ps := [(0, .int .u8 (203)), (1, .int .u8 (o % 256)), (2, .int .u8 (y))]) rfl rfl rfl rfl rfl rfl) rfl rfl ?_
    rintro _ _ ⟨b46, rfl, rfl⟩
    refine RL ?_
    refine l_nil ?_
    exact ⟨(b46, [203, o % 256, y]), ⟨rfl, (fun z hz => by simp only [List.mem_cons, List.not_mem_nil, or_false] at hz; rcases hz with rfl | rfl | rfl <;> omega)⟩, .cons rfl .nil, a_g, fun _ h => h.sub (.cons_cons _ (.cons _ (List.Sublist.refl _)))⟩
   ·have h2n := r_f h2
    refine c_skip ?_
    exact ⟨(b39, [o % 256, x, y]), ⟨rfl, (fun z hz => by simp only [List.mem_cons, List.not_mem_nil, or_false] at hz; rcases hz with rfl | rfl | rfl <;> omega)⟩, .cons rfl .nil, a_g, fun _ h => h⟩
  ·rintro ⟨bc, cd⟩ y5 ⟨hcl9, hcb9⟩
   dsimp only at hcl9 hcb9 ⊢
   refine c_seq ?_
   refine c_seq ?_
   refine c_region ?_
   refine RL ?_
   refine l_l l_n rfl rfl ?_
   refine RL ?_
   refine l_nil ?_
   refine c_block ?_
   refine c_loop (σ := Nat) [14, 49, 50, 51, 52, 53, 54, 55, 56, 57, 58, 59, 60, 61, 62, 63, 64, 65, 66, 67, 68, 69, 70, 71, 72, 73, 74, 75, 76, 77, 78, 79, 80, 81, 82] (fun i => [(49, .int .i64 i)]) (fun i => (bc, blk (cd.map (.int .u8)) 5) :: (b34, blk [.slice (some ⟨b32, 0, none⟩) 65536 65536, .slice none 0 0, .int .u8 0, .int .i64 0, .bool false, .slice none 0 0] 38) :: (b32, blk ((putPC (fillB l) s.r.pc cd i).map (.int .u8)) 5) :: (b30, blk [.slice (some ⟨b28, 0, none⟩) 65536 65536, .slice none 0 0] 35) :: (b28, blk ((putPC (fillB l) s.r.pc cd i).map (.int .u8)) 5) :: [(b5, blk (cS s) 26)]) (fun i => i ≤ 3) (fun i => 3 - i) 0 ?_ ?_ ?_ ?_
   ·exact Nat.zero_le _
   ·exact .cons rfl .nil
   ·exact fun _ h => h
   ·intro i y8 hi
    refine c_seq ?_
    refine c_region ?_
    refine RL ?_
    refine l_nil ?_
    refine c_seq ?_
    refine c_cond rfl (fun h3 => ?_) (fun h3 => ?_)
    ·have h3n := r_f h3
     refine c_skip ?_
     refine c_seq ?_
     refine c_block ?_
     refine c_seq ?_
     refine c_region ?_
     refine RL ?_
     refine RL ?_
     refine l_nil ?_
     refine c_draw [(b30, blk [.slice (some ⟨b28, 0, none⟩) 65536 65536, .slice none 0 0] 35), (b34, blk [.slice (some ⟨b32, 0, none⟩) 65536 65536, .slice none 0 0, .int .u8 0, .int .i64 0, .bool false, .slice none 0 0] 38), (b5, blk (cS s) 26), (bc, blk (cd.map (.int .u8)) 5)] [4, 5, 6, 7, 8, 9, 10, 11, 12, 13, 14, 15, 16, 17, 18, 19, 20, 21, 22, 23, 24, 25, 26, 27, 28, 29] (.step true 0 (.step true 1 (.step true 2 (.step true 3 (.step true 4 (.step true 5 (.step true 6 (.step true 7 (.step true 8 (.step true 9 (.step true 10 (.step true 11 (.step true 12 (.step true 13 (.step true 14 (.step true 15 (.step true 16 (.step true 17 (.step true 18 (.step true 19 (.step true 20 (.step true 21 (.step true 22 (.step true 23 (.step true 24 (.step true 25 (.step true 26 (.step true 27 (.step true 28 (.step false 29 (.step true 30 (.step false 31 .done)))))))))))))))))))))))))))))))) rfl (by kernel_rfl) (by kernel_rfl) (fun x hx => by rcases List.mem_cons.1 hx with rfl | hx; exact m_m; rcases List.mem_cons.1 hx with rfl | hx; exact m_m; rcases List.mem_cons.1 hx with rfl | hx; exact m_m; obtain rfl := List.mem_singleton.1 hx; exact m_m) ?_
     refine RD ?_
     refine RD ?_
     refine RDa ?_
     refine RDo ?_
     refine RDa ?_
     refine RDa ?_
     refine d_load rfl rfl rfl (s_own (v := .int .u16 s.r.pc) m_m (by rfl)) rfl rfl ?_
     refine RD ?_
     refine d_as (v := (.int .u16 (i : Int))) rfl rfl rfl rfl rfl (as_u16 o_m o_m) ?_
     refine d_as (v := (.int .u16 ((s.r.pc + (i : Int)) % 65536))) rfl rfl rfl rfl rfl (as_u16m _) ?_
     refine RD ?_
     refine RD ?_
     refine RDa ?_
     refine RDo ?_
     refine RDa ?_
     refine RDa ?_
     refine d_load rfl rfl rfl (s_own (v := .int .u16 s.r.pc) m_m (by rfl)) rfl rfl ?_
     refine RD ?_
     refine d_as (v := (.int .u16 (i : Int))) rfl rfl rfl rfl rfl (as_u16 o_m o_m) ?_
     refine d_as (v := (.int .u16 ((s.r.pc + (i : Int)) % 65536))) rfl rfl rfl rfl rfl (as_u16m _) ?_
     refine RD ?_
     refine RD ?_
     refine d_light rfl (idx_slice1 i rfl rfl rfl rfl o_m) rfl rfl rfl ?_
     refine d_load rfl rfl rfl (s_own (v := .int .u8 (cd.getD i 0)) m_m (by rw [Nat.zero_add]; exact map_at o_m)) rfl rfl ?_
     refine RD ?_
     refine RD ?_
     refine d_light rfl (idx_slice1 i rfl rfl rfl rfl o_m) rfl rfl rfl ?_
     refine d_load rfl rfl rfl (s_own (v := .int .u8 (cd.getD i 0)) m_m (by rw [Nat.zero_add]; exact map_at o_m)) rfl rfl ?_
     refine d_light rfl (idx_sliceI rfl rfl rfl o_m o_m) rfl rfl rfl ?_
     refine d_x rfl (x_storeTo (l' := (putPC (fillB l) s.r.pc cd (i + 1)).map (.int .u8)) 4 rfl rfl rfl rfl rfl rfl (fits_in (by rw [putPC_len]; exact fillB_len l) o_m) (put_in (by rw [putPC_len]; exact fillB_len l) o_m _)) rfl rfl (by first | (intro h; cases h; done) | (intro _ _ _ hK; obtain ⟨rfl, rfl⟩ := hK; exact (fun x hx => by rcases List.mem_cons.1 hx with rfl | hx; exact m_m; rcases List.mem_cons.1 hx with rfl | hx; exact m_m; rcases List.mem_cons.1 hx with rfl | hx; exact m_m; obtain rfl := List.mem_singleton.1 hx; exact m_m))) ?_
     rintro _ _ ⟨rfl, rfl⟩
     refine c_u ?_
     refine d_light rfl (idx_sliceI rfl rfl rfl o_m o_m) rfl rfl rfl ?_
     refine d_x rfl (x_storeTo (l' := (putPC (fillB l) s.r.pc cd (i + 1)).map (.int .u8)) 2 rfl rfl rfl rfl rfl rfl (fits_in (by rw [putPC_len]; exact fillB_len l) o_m) (put_in (by rw [putPC_len]; exact fillB_len l) o_m _)) rfl rfl (by first | (intro h; cases h; done) | (intro _ _ _ hK; obtain ⟨rfl, rfl⟩ := hK; exact (fun x hx => by rcases List.mem_cons.1 hx with rfl | hx; exact m_m; rcases List.mem_cons.1 hx with rfl | hx; exact m_m; rcases List.mem_cons.1 hx with rfl | hx; exact m_m; obtain rfl := List.mem_singleton.1 hx; exact m_m))) ?_
     rintro _ _ ⟨rfl, rfl⟩
     refine c_u ?_
     refine d_nil ?_
     refine c_region ?_
     refine l_as (v := (.int .i64 ((i + 1 : Nat) : Int))) rfl rfl rfl (congrArg _ (succ_law o_m)) ?_
     refine RL ?_
     refine l_nil ?_
     exact ⟨i + 1, by omega, by omega, .cons rfl .nil, a_g, fun _ h => h⟩
    ·have h3n := r_f h3
     refine c_exit rfl ?_
     refine c_seq ?_
     obtain rfl : i = 3 := by omega
     have hm9 : RamOk (0 + 7) ⟨(putPC (fillB l) s.r.pc cd 3), []⟩ := ⟨by rw [putPC_len]; exact fillB_len l, putPC_byts (fillB_ok hb) _ hcb9 _, show 0 + (0 + 7) ≤ 1000000 by decide, fun _ h => by cases h⟩
     obtain ⟨D, Y, hDY⟩ : ∃ D Y, stepT ramA (⟨(⟨s.r, false, s.soon, false, false⟩ : CS), ⟨(putPC (fillB l) s.r.pc cd 3), []⟩⟩ : Rn Rm) = (D, Y) := ⟨_, _, rfl⟩
     have ok9 := step_ok (K := ramK 0 0) (n := 0) (x := (⟨(⟨s.r, false, s.soon, false, false⟩ : CS), ⟨(putPC (fillB l) s.r.pc cd 3), []⟩⟩ : Rn Rm)) ⟨hs, hm9⟩
     rw [show stepT (ramK 0 0).toBusA (⟨(⟨s.r, false, s.soon, false, false⟩ : CS), ⟨(putPC (fillB l) s.r.pc cd 3), []⟩⟩ : Rn Rm) = (D, Y) from hDY] at ok9
     dsimp only at ok9
     have cr9 := ok9.m.room
     refine c_region ?_
     refine RLa ?_
     refine l_x (x_storeTo (l' := cS (⟨s.r, s.ime, s.soon, false, s.stop⟩ : CS)) 5 rfl rfl rfl rfl rfl rfl (Nat.le_of_ble_eq_true rfl) rfl) rfl rfl ?_
     rintro _ _ ⟨rfl, rfl⟩
     refine c_u ?_
     refine RLa ?_
     refine l_x (x_storeTo (l' := cS (⟨s.r, s.ime, s.soon, false, false⟩ : CS)) 5 rfl rfl rfl rfl rfl rfl (Nat.le_of_ble_eq_true rfl) rfl) rfl rfl ?_
     rintro _ _ ⟨rfl, rfl⟩
     refine c_u ?_
     refine RLa ?_
     refine l_x (x_storeTo (l' := cS (⟨s.r, false, s.soon, false, false⟩ : CS)) 5 rfl rfl rfl rfl rfl rfl (Nat.le_of_ble_eq_true rfl) rfl) rfl rfl ?_
     rintro _ _ ⟨rfl, rfl⟩
     refine c_u ?_
     refine l_nil ?_
     refine c_cut (σ := Nat × Nat × Value × Heap) [15, 16, 86, 87, 88, 89, 90, 91, 92, 93, 94] (fun q => [(15, .pointer (some ⟨q.1, 0, none⟩)), (16, .pointer (some ⟨q.2.1, 0, none⟩))]) (fun q => (q.2.1, blk (cDd D) 46) :: (q.1, blk (cS Y.s) 41) :: (b5, blk (cS (⟨s.r, false, s.soon, false, false⟩ : CS)) 26) :: (([] ++ [(b34, blk [.slice (some ⟨b32, 0, none⟩) 65536 65536, .slice none 0 0, .int .u8 0, .int .i64 0, .bool false, .slice none 0 0] 38), (b32, blk ((putPC (fillB l) s.r.pc cd 3).map (.int .u8)) 5)]) ++ (q.2.2.2 ++ [(b30, blk [.slice (some ⟨b28, 0, none⟩) 65536 65536, q.2.2.1] 35), (b28, blk (Y.m.b.map (.int .u8)) 5)]))) (fun q => Vec 89 3 q.2.2.1 Y.m.acc.length (flat cAc Y.m.acc) q.2.2.2) ?_ ?_
     ·refine c_draw [(b5, blk (cS (⟨s.r, false, s.soon, false, false⟩ : CS)) 26)] [0, 3, 4, 9, 10] (.step true 1 (.step true 3 (.step true 4 (.fork 0 (.fork 2 (.fork 5 (.step true 6 (.step true 7 (.step true 8 (.fork 9 (.step false 10 (.step false 11 (.step false 12 .done))) (.fork 10 (.step false 9 (.step false 11 (.step false 12 .done))) .stop))))) (.fork 9 (.fork 5 (.step true 6 (.step true 7 (.step true 8 (.step false 10 (.step false 11 (.step false 12 .done)))))) (.fork 10 (.step false 5 (.step true 6 (.step true 7 (.step true 8 (.step false 11 (.step false 12 .done)))))) .stop)) (.fork 10 (.fork 5 (.step true 6 (.step true 7 (.step true 8 (.step false 9 (.step false 11 (.step false 12 .done)))))) (.fork 9 (.step false 5 (.step true 6 (.step true 7 (.step true 8 (.step false 11 (.step false 12 .done)))))) .stop)) .stop))) (.fork 9 (.fork 2 (.fork 5 (.step true 6 (.step true 7 (.step true 8 (.step false 10 (.step false 11 (.step false 12 .done)))))) (.fork 10 (.step false 5 (.step true 6 (.step true 7 (.step true 8 (.step false 11 (.step false 12 .done)))))) .stop)) (.fork 10 (.step false 2 (.step false 5 (.step true 6 (.step true 7 (.step true 8 (.step false 11 (.step false 12 .done))))))) .stop)) (.fork 10 (.fork 2 (.fork 5 (.step true 6 (.step true 7 (.step true 8 (.step false 9 (.step false 11 (.step false 12 .done)))))) (.fork 9 (.step false 5 (.step true 6 (.step true 7 (.step true 8 (.step false 11 (.step false 12 .done)))))) .stop)) (.fork 9 (.step false 2 (.step false 5 (.step true 6 (.step true 7 (.step true 8 (.step false 11 (.step false 12 .done))))))) .stop)) .stop))) (.fork 9 (.fork 0 (.fork 2 (.fork 5 (.step true 6 (.step true 7 (.step true 8 (.step false 10 (.step false 11 (.step false 12 .done)))))) (.fork 10 (.step false 5 (.step true 6 (.step true 7 (.step true 8 (.step false 11 (.step false 12 .done)))))) .stop)) (.fork 10 (.step false 2 (.step false 5 (.step true 6 (.step true 7 (.step true 8 (.step false 11 (.step false 12 .done))))))) .stop)) (.fork 10 (.step false 0 (.step false 2 (.step false 5 (.step true 6 (.step true 7 (.step true 8 (.step false 11 (.step false 12 .done)))))))) .stop)) (.fork 10 (.fork 0 (.fork 2 (.fork 5 (.step true 6 (.step true 7 (.step true 8 (.step false 9 (.step false 11 (.step false 12 .done)))))) (.fork 9 (.step false 5 (.step true 6 (.step true 7 (.step true 8 (.step false 11 (.step false 12 .done)))))) .stop)) (.fork 9 (.step false 2 (.step false 5 (.step true 6 (.step true 7 (.step true 8 (.step false 11 (.step false 12 .done))))))) .stop)) (.fork 9 (.step false 0 (.step false 2 (.step false 5 (.step true 6 (.step true 7 (.step true 8 (.step false 11 (.step false 12 .done)))))))) .stop)) .stop)))))) rfl (by kernel_rfl) (by kernel_rfl) (fun x hx => by obtain rfl := List.mem_singleton.1 hx; exact m_m) ?_
      refine d_loadA rfl rfl rfl rfl (srow_own (l := cS (⟨s.r, false, s.soon, false, false⟩ : CS)) m_m) rfl rfl ?_
      refine RD ?_
      refine RD ?_
      refine d_fork ?_ ?_
      ·refine d_x rfl (x_call call_6 rfl (fun w hw => tnew_fn w)) rfl rfl (by first | (intro h; cases h; done) | (intro _ _ _ hK x hx; obtain ⟨_, _, rfl⟩ := hK; obtain rfl := List.mem_singleton.1 hx; exact List.mem_append_right _ m_m)) ?_
       rintro _ _ ⟨GT, ⟨tb, rfl, hT⟩, rfl⟩
       obtain ⟨oT, rfl⟩ := hT.one
       refine d_heap (fun _ h => St.fl [[_], [_], [_], [_], [_], [_], [_]] [1, 2, 3, 6, 0, 4, 5] rfl h) ?_
       simp only [List.filterMap_cons, List.filterMap_nil, List.getElem?_cons_zero, List.getElem?_cons_succ, VV.fl, List.cons_append, List.nil_append]
       refine d_fork ?_ ?_
       ·refine d_x rfl (x_val call_8 rfl (fun w hw => state_fn (⟨s.r, false, s.soon, false, false⟩ : CS) w)) rfl rfl n_h ?_
        rintro _ _ ⟨rfl, rfl⟩
        refine d_fork ?_ ?_
        ·refine d_x rfl (x_callT (F := [(bc, _), (b34, _), (b32, _), (b5, _)]) (A := (tb, _) :: ([] ++ [(b30, _), (b28, _)])) call_9 rfl (fun w hw => stepR_fn b30 b28 (n := 0) (⟨s.r, false, s.soon, false, false⟩ : CS) ⟨(putPC (fillB l) s.r.pc cd 3), []⟩ hs hm9 (d := D) (s' := Y.s) (m' := Y.m) hDY _ _ .nil tb _ oT hT w (St.lentV hw))) rfl rfl n_h ?_
         rintro _ _ ⟨_, ⟨rfl, oU3, hU3, va3, Ga3, hV3, rfl⟩, rfl⟩
         obtain ⟨a3, c3, rfl⟩ := hV3.slice
         refine c_u ?_
         refine d_mv rfl (vnf_eq rfl) rfl rfl ?_
         refine RD ?_
         refine RD ?_
         refine d_fork ?_ ?_
         ·refine d_x rfl (x_alloc rfl) rfl rfl (by first | (intro h; cases h; done) | (intro _ _ _ hK x hx; obtain ⟨_, rfl, rfl⟩ := hK; obtain rfl := List.mem_singleton.1 hx; exact .tail _ m_m)) ?_
          rintro _ _ ⟨b15, rfl, rfl⟩
          refine d_x rfl (x_alloc rfl) rfl rfl (by first | (intro h; cases h; done) | (intro _ _ _ hK x hx; obtain ⟨_, rfl, rfl⟩ := hK; obtain rfl := List.mem_singleton.1 hx; exact .tail _ m_m)) ?_
          rintro _ _ ⟨b16, rfl, rfl⟩
          refine d_x rfl (x_storeTo (l' := cS Y.s) 1 rfl rfl rfl rfl rfl rfl (Nat.le_of_ble_eq_true rfl) rfl) rfl rfl (by first | (intro h; cases h; done) | (intro _ _ _ hK x hx; obtain ⟨rfl, rfl⟩ := hK; obtain rfl := List.mem_singleton.1 hx; exact m_m)) ?_
          rintro _ _ ⟨rfl, rfl⟩
          refine c_u ?_
          refine d_x rfl (x_storeTo (l' := cDd D) 0 rfl rfl rfl rfl rfl rfl (Nat.le_of_ble_eq_true rfl) rfl) rfl rfl (by first | (intro h; cases h; done) | (intro _ _ _ hK x hx; obtain ⟨rfl, rfl⟩ := hK; obtain rfl := List.mem_singleton.1 hx; exact m_m)) ?_
          rintro _ _ ⟨rfl, rfl⟩
          refine c_u ?_
          refine d_nil ?_
          exact ⟨(b15, b16, .slice a3 _ c3, Ga3), hV3, .cons rfl (.cons rfl .nil), a_g, fun _ h => (St.fl [[_], [_], [_], [_], [_], [_], [_], Ga3, [_], [_]] [0, 1, 5, 3, 4, 7, 8, 9] rfl h).as (by simp only [List.filterMap_cons, List.filterMap_nil, List.getElem?_cons_zero, List.getElem?_cons_succ, VV.fl, List.cons_append, List.nil_append])⟩
         refine d_fork ?_ ?_
         ·refine d_x rfl (x_alloc rfl) rfl rfl (by first | (intro h; cases h; done) | (intro _ _ _ hK x hx; obtain ⟨_, rfl, rfl⟩ := hK; obtain rfl := List.mem_singleton.1 hx; exact .tail _ m_m)) ?_
          rintro _ _ ⟨b16, rfl, rfl⟩
          refine d_x rfl (x_alloc rfl) rfl rfl (by first | (intro h; cases h; done) | (intro _ _ _ hK x hx; obtain ⟨_, rfl, rfl⟩ := hK; obtain rfl := List.mem_singleton.1 hx; exact .tail _ m_m)) ?_
          rintro _ _ ⟨b15, rfl, rfl⟩
          refine d_x rfl (x_storeTo (l' := cS Y.s) 0 rfl rfl rfl rfl rfl rfl (Nat.le_of_ble_eq_true rfl) rfl) rfl rfl (by first | (intro h; cases h; done) | (intro _ _ _ hK x hx; obtain ⟨rfl, rfl⟩ := hK; obtain rfl := List.mem_singleton.1 hx; exact m_m)) ?_
          rintro _ _ ⟨rfl, rfl⟩
          refine c_u ?_
          refine d_x rfl (x_storeTo (l' := cDd D) 1 rfl rfl rfl rfl rfl rfl (Nat.le_of_ble_eq_true rfl) rfl) rfl rfl (by first | (intro h; cases h; done) | (intro _ _ _ hK x hx; obtain ⟨rfl, rfl⟩ := hK; obtain rfl := List.mem_singleton.1 hx; exact m_m)) ?_
          rintro _ _ ⟨rfl, rfl⟩
          refine c_u ?_
          refine d_nil ?_
          exact ⟨(b15, b16, .slice a3 _ c3, Ga3), hV3, .cons rfl (.cons rfl .nil), a_g, fun _ h => (St.fl [[_], [_], [_], [_], [_], [_], [_], Ga3, [_], [_]] [1, 0, 5, 3, 4, 7, 8, 9] rfl h).as (by simp only [List.filterMap_cons, List.filterMap_nil, List.getElem?_cons_zero, List.getElem?_cons_succ, VV.fl, List.cons_append, List.nil_append])⟩
         exact d_stop
        refine d_fork ?_ ?_
        ·refine d_x rfl (x_alloc rfl) rfl rfl (by first | (intro h; cases h; done) | (intro _ _ _ hK x hx; obtain ⟨_, rfl, rfl⟩ := hK; obtain rfl := List.mem_singleton.1 hx; exact .tail _ m_m)) ?_
         rintro _ _ ⟨b15, rfl, rfl⟩
         refine d_fork ?_ ?_
         ·refine d_x rfl (x_callT (F := [(b15, _), (bc, _), (b34, _), (b32, _), (b5, _)]) (A := (tb, _) :: ([] ++ [(b30, _), (b28, _)])) call_9 rfl (fun w hw => stepR_fn b30 b28 (n := 0) (⟨s.r, false, s.soon, false, false⟩ : CS) ⟨(putPC (fillB l) s.r.pc cd 3), []⟩ hs hm9 (d := D) (s' := Y.s) (m' := Y.m) hDY _ _ .nil tb _ oT hT w (St.lentV hw))) rfl rfl n_h ?_
          rintro _ _ ⟨_, ⟨rfl, oU3, hU3, va3, Ga3, hV3, rfl⟩, rfl⟩
          obtain ⟨a3, c3, rfl⟩ := hV3.slice
          refine c_u ?_
          refine d_mv rfl (vnf_eq rfl) rfl rfl ?_
          refine RD ?_
          refine RD ?_
          refine d_x rfl (x_alloc rfl) rfl rfl (by first | (intro h; cases h; done) | (intro _ _ _ hK x hx; obtain ⟨_, rfl, rfl⟩ := hK; obtain rfl := List.mem_singleton.1 hx; exact .tail _ m_m)) ?_
          rintro _ _ ⟨b16, rfl, rfl⟩
          refine d_x rfl (x_storeTo (l' := cS Y.s) 1 rfl rfl rfl rfl rfl rfl (Nat.le_of_ble_eq_true rfl) rfl) rfl rfl (by first | (intro h; cases h; done) | (intro _ _ _ hK x hx; obtain ⟨rfl, rfl⟩ := hK; obtain rfl := List.mem_singleton.1 hx; exact m_m)) ?_
          rintro _ _ ⟨rfl, rfl⟩
          refine c_u ?_
          refine d_x rfl (x_storeTo (l' := cDd D) 0 rfl rfl rfl rfl rfl rfl (Nat.le_of_ble_eq_true rfl) rfl) rfl rfl (by first | (intro h; cases h; done) | (intro _ _ _ hK x hx; obtain ⟨rfl, rfl⟩ := hK; obtain rfl := List.mem_singleton.1 hx; exact m_m)) ?_
          rintro _ _ ⟨rfl, rfl⟩
          refine c_u ?_
          refine d_nil ?_
          exact ⟨(b15, b16, .slice a3 _ c3, Ga3), hV3, .cons rfl (.cons rfl .nil), a_g, fun _ h => (St.fl [[_], [_], [_], [_], [_], [_], [_], Ga3, [_], [_]] [0, 1, 5, 3, 4, 7, 8, 9] rfl h).as (by simp only [List.filterMap_cons, List.filterMap_nil, List.getElem?_cons_zero, List.getElem?_cons_succ, VV.fl, List.cons_append, List.nil_append])⟩
         refine d_fork ?_ ?_
         ·refine d_x rfl (x_alloc rfl) rfl rfl (by first | (intro h; cases h; done) | (intro _ _ _ hK x hx; obtain ⟨_, rfl, rfl⟩ := hK; obtain rfl := List.mem_singleton.1 hx; exact .tail _ m_m)) ?_
          rintro _ _ ⟨b16, rfl, rfl⟩
          refine d_x rfl (x_callT (F := [(b16, _), (b15, _), (bc, _), (b34, _), (b32, _), (b5, _)]) (A := (tb, _) :: ([] ++ [(b30, _), (b28, _)])) call_9 rfl (fun w hw => stepR_fn b30 b28 (n := 0) (⟨s.r, false, s.soon, false, false⟩ : CS) ⟨(putPC (fillB l) s.r.pc cd 3), []⟩ hs hm9 (d := D) (s' := Y.s) (m' := Y.m) hDY _ _ .nil tb _ oT hT w (St.lentV hw))) rfl rfl n_h ?_
          rintro _ _ ⟨_, ⟨rfl, oU3, hU3, va3, Ga3, hV3, rfl⟩, rfl⟩
          obtain ⟨a3, c3, rfl⟩ := hV3.slice
          refine c_u ?_
          refine d_mv rfl (vnf_eq rfl) rfl rfl ?_
          refine RD ?_
          refine RD ?_
          refine d_x rfl (x_storeTo (l' := cS Y.s) 1 rfl rfl rfl rfl rfl rfl (Nat.le_of_ble_eq_true rfl) rfl) rfl rfl (by first | (intro h; cases h; done) | (intro _ _ _ hK x hx; obtain ⟨rfl, rfl⟩ := hK; obtain rfl := List.mem_singleton.1 hx; exact m_m)) ?_
          rintro _ _ ⟨rfl, rfl⟩
          refine c_u ?_
          refine d_x rfl (x_storeTo (l' := cDd D) 0 rfl rfl rfl rfl rfl rfl (Nat.le_of_ble_eq_true rfl) rfl) rfl rfl (by first | (intro h; cases h; done) | (intro _ _ _ hK x hx; obtain ⟨rfl, rfl⟩ := hK; obtain rfl := List.mem_singleton.1 hx; exact m_m)) ?_
          rintro _ _ ⟨rfl, rfl⟩
          refine c_u ?_
          refine d_nil ?_
          exact ⟨(b15, b16, .slice a3 _ c3, Ga3), hV3, .cons rfl (.cons rfl .nil), a_g, fun _ h => (St.fl [[_], [_], [_], [_], [_], [_], [_], Ga3, [_], [_]] [0, 1, 5, 3, 4, 7, 8, 9] rfl h).as (by simp only [List.filterMap_cons, List.filterMap_nil, List.getElem?_cons_zero, List.getElem?_cons_succ, VV.fl, List.cons_append, List.nil_append])⟩
         exact d_stop
        refine d_fork ?_ ?_
        ·refine d_x rfl (x_alloc rfl) rfl rfl (by first | (intro h; cases h; done) | (intro _ _ _ hK x hx; obtain ⟨_, rfl, rfl⟩ := hK; obtain rfl := List.mem_singleton.1 hx; exact .tail _ m_m)) ?_
         rintro _ _ ⟨b16, rfl, rfl⟩
         refine d_fork ?_ ?_
         ·refine d_x rfl (x_callT (F := [(b16, _), (bc, _), (b34, _), (b32, _), (b5, _)]) (A := (tb, _) :: ([] ++ [(b30, _), (b28, _)])) call_9 rfl (fun w hw => stepR_fn b30 b28 (n := 0) (⟨s.r, false, s.soon, false, false⟩ : CS) ⟨(putPC (fillB l) s.r.pc cd 3), []⟩ hs hm9 (d := D) (s' := Y.s) (m' := Y.m) hDY _ _ .nil tb _ oT hT w (St.lentV hw))) rfl rfl n_h ?_
          rintro _ _ ⟨_, ⟨rfl, oU3, hU3, va3, Ga3, hV3, rfl⟩, rfl⟩
          obtain ⟨a3, c3, rfl⟩ := hV3.slice
          refine c_u ?_
          refine d_mv rfl (vnf_eq rfl) rfl rfl ?_
          refine RD ?_
          refine RD ?_
          refine d_x rfl (x_alloc rfl) rfl rfl (by first | (intro h; cases h; done) | (intro _ _ _ hK x hx; obtain ⟨_, rfl, rfl⟩ := hK; obtain rfl := List.mem_singleton.1 hx; exact .tail _ m_m)) ?_
          rintro _ _ ⟨b15, rfl, rfl⟩
          refine d_x rfl (x_storeTo (l' := cS Y.s) 0 rfl rfl rfl rfl rfl rfl (Nat.le_of_ble_eq_true rfl) rfl) rfl rfl (by first | (intro h; cases h; done) | (intro _ _ _ hK x hx; obtain ⟨rfl, rfl⟩ := hK; obtain rfl := List.mem_singleton.1 hx; exact m_m)) ?_
          rintro _ _ ⟨rfl, rfl⟩
          refine c_u ?_
          refine d_x rfl (x_storeTo (l' := cDd D) 1 rfl rfl rfl rfl rfl rfl (Nat.le_of_ble_eq_true rfl) rfl) rfl rfl (by first | (intro h; cases h; done) | (intro _ _ _ hK x hx; obtain ⟨rfl, rfl⟩ := hK; obtain rfl := List.mem_singleton.1 hx; exact m_m)) ?_
          rintro _ _ ⟨rfl, rfl⟩
          refine c_u ?_
          refine d_nil ?_
          exact ⟨(b15, b16, .slice a3 _ c3, Ga3), hV3, .cons rfl (.cons rfl .nil), a_g, fun _ h => (St.fl [[_], [_], [_], [_], [_], [_], [_], Ga3, [_], [_]] [1, 0, 5, 3, 4, 7, 8, 9] rfl h).as (by simp only [List.filterMap_cons, List.filterMap_nil, List.getElem?_cons_zero, List.getElem?_cons_succ, VV.fl, List.cons_append, List.nil_append])⟩
         refine d_fork ?_ ?_
         ·refine d_x rfl (x_alloc rfl) rfl rfl (by first | (intro h; cases h; done) | (intro _ _ _ hK x hx; obtain ⟨_, rfl, rfl⟩ := hK; obtain rfl := List.mem_singleton.1 hx; exact .tail _ m_m)) ?_
          rintro _ _ ⟨b15, rfl, rfl⟩
          refine d_x rfl (x_callT (F := [(b15, _), (b16, _), (bc, _), (b34, _), (b32, _), (b5, _)]) (A := (tb, _) :: ([] ++ [(b30, _), (b28, _)])) call_9 rfl (fun w hw => stepR_fn b30 b28 (n := 0) (⟨s.r, false, s.soon, false, false⟩ : CS) ⟨(putPC (fillB l) s.r.pc cd 3), []⟩ hs hm9 (d := D) (s' := Y.s) (m' := Y.m) hDY _ _ .nil tb _ oT hT w (St.lentV hw))) rfl rfl n_h ?_
          rintro _ _ ⟨_, ⟨rfl, oU3, hU3, va3, Ga3, hV3, rfl⟩, rfl⟩
          obtain ⟨a3, c3, rfl⟩ := hV3.slice
          refine c_u ?_
          refine d_mv rfl (vnf_eq rfl) rfl rfl ?_
          refine RD ?_
          refine RD ?_
          refine d_x rfl (x_storeTo (l' := cS Y.s) 0 rfl rfl rfl rfl rfl rfl (Nat.le_of_ble_eq_true rfl) rfl) rfl rfl (by first | (intro h; cases h; done) | (intro _ _ _ hK x hx; obtain ⟨rfl, rfl⟩ := hK; obtain rfl := List.mem_singleton.1 hx; exact m_m)) ?_
          rintro _ _ ⟨rfl, rfl⟩
          refine c_u ?_
          refine d_x rfl (x_storeTo (l' := cDd D) 1 rfl rfl rfl rfl rfl rfl (Nat.le_of_ble_eq_true rfl) rfl) rfl rfl (by first | (intro h; cases h; done) | (intro _ _ _ hK x hx; obtain ⟨rfl, rfl⟩ := hK; obtain rfl := List.mem_singleton.1 hx; exact m_m)) ?_
          rintro _ _ ⟨rfl, rfl⟩
          refine c_u ?_
          refine d_nil ?_
          exact ⟨(b15, b16, .slice a3 _ c3, Ga3), hV3, .cons rfl (.cons rfl .nil), a_g, fun _ h => (St.fl [[_], [_], [_], [_], [_], [_], [_], Ga3, [_], [_]] [1, 0, 5, 3, 4, 7, 8, 9] rfl h).as (by simp only [List.filterMap_cons, List.filterMap_nil, List.getElem?_cons_zero, List.getElem?_cons_succ, VV.fl, List.cons_append, List.nil_append])⟩
         exact d_stop
        exact d_stop
       refine d_fork ?_ ?_
       ·refine d_x rfl (x_alloc rfl) rfl rfl (by first | (intro h; cases h; done) | (intro _ _ _ hK x hx; obtain ⟨_, rfl, rfl⟩ := hK; obtain rfl := List.mem_singleton.1 hx; exact .tail _ m_m)) ?_
        rintro _ _ ⟨b15, rfl, rfl⟩
        refine d_fork ?_ ?_
        ·refine d_x rfl (x_val call_8 rfl (fun w hw => state_fn (⟨s.r, false, s.soon, false, false⟩ : CS) w)) rfl rfl n_h ?_
         rintro _ _ ⟨rfl, rfl⟩
         refine d_fork ?_ ?_
         ·refine d_x rfl (x_callT (F := [(b15, _), (bc, _), (b34, _), (b32, _), (b5, _)]) (A := (tb, _) :: ([] ++ [(b30, _), (b28, _)])) call_9 rfl (fun w hw => stepR_fn b30 b28 (n := 0) (⟨s.r, false, s.soon, false, false⟩ : CS) ⟨(putPC (fillB l) s.r.pc cd 3), []⟩ hs hm9 (d := D) (s' := Y.s) (m' := Y.m) hDY _ _ .nil tb _ oT hT w (St.lentV hw))) rfl rfl n_h ?_
          rintro _ _ ⟨_, ⟨rfl, oU3, hU3, va3, Ga3, hV3, rfl⟩, rfl⟩
          obtain ⟨a3, c3, rfl⟩ := hV3.slice
          refine c_u ?_
          refine d_mv rfl (vnf_eq rfl) rfl rfl ?_
          refine RD ?_
          refine RD ?_
          refine d_x rfl (x_alloc rfl) rfl rfl (by first | (intro h; cases h; done) | (intro _ _ _ hK x hx; obtain ⟨_, rfl, rfl⟩ := hK; obtain rfl := List.mem_singleton.1 hx; exact .tail _ m_m)) ?_
          rintro _ _ ⟨b16, rfl, rfl⟩
          refine d_x rfl (x_storeTo (l' := cS Y.s) 1 rfl rfl rfl rfl rfl rfl (Nat.le_of_ble_eq_true rfl) rfl) rfl rfl (by first | (intro h; cases h; done) | (intro _ _ _ hK x hx; obtain ⟨rfl, rfl⟩ := hK; obtain rfl := List.mem_singleton.1 hx; exact m_m)) ?_
          rintro _ _ ⟨rfl, rfl⟩
          refine c_u ?_
          refine d_x rfl (x_storeTo (l' := cDd D) 0 rfl rfl rfl rfl rfl rfl (Nat.le_of_ble_eq_true rfl) rfl) rfl rfl (by first | (intro h; cases h; done) | (intro _ _ _ hK x hx; obtain ⟨rfl, rfl⟩ := hK; obtain rfl := List.mem_singleton.1 hx; exact m_m)) ?_
          rintro _ _ ⟨rfl, rfl⟩
          refine c_u ?_
          refine d_nil ?_
          exact ⟨(b15, b16, .slice a3 _ c3, Ga3), hV3, .cons rfl (.cons rfl .nil), a_g, fun _ h => (St.fl [[_], [_], [_], [_], [_], [_], [_], Ga3, [_], [_]] [0, 1, 5, 3, 4, 7, 8, 9] rfl h).as (by simp only [List.filterMap_cons, List.filterMap_nil, List.getElem?_cons_zero, List.getElem?_cons_succ, VV.fl, List.cons_append, List.nil_append])⟩
         refine d_fork ?_ ?_
         ·refine d_x rfl (x_alloc rfl) rfl rfl (by first | (intro h; cases h; done) | (intro _ _ _ hK x hx; obtain ⟨_, rfl, rfl⟩ := hK; obtain rfl := List.mem_singleton.1 hx; exact .tail _ m_m)) ?_
          rintro _ _ ⟨b16, rfl, rfl⟩
          refine d_x rfl (x_callT (F := [(b16, _), (b15, _), (bc, _), (b34, _), (b32, _), (b5, _)]) (A := (tb, _) :: ([] ++ [(b30, _), (b28, _)])) call_9 rfl (fun w hw => stepR_fn b30 b28 (n := 0) (⟨s.r, false, s.soon, false, false⟩ : CS) ⟨(putPC (fillB l) s.r.pc cd 3), []⟩ hs hm9 (d := D) (s' := Y.s) (m' := Y.m) hDY _ _ .nil tb _ oT hT w (St.lentV hw))) rfl rfl n_h ?_
          rintro _ _ ⟨_, ⟨rfl, oU3, hU3, va3, Ga3, hV3, rfl⟩, rfl⟩
          obtain ⟨a3, c3, rfl⟩ := hV3.slice
          refine c_u ?_
          refine d_mv rfl (vnf_eq rfl) rfl rfl ?_
          refine RD ?_
          refine RD ?_
          refine d_x rfl (x_storeTo (l' := cS Y.s) 1 rfl rfl rfl rfl rfl rfl (Nat.le_of_ble_eq_true rfl) rfl) rfl rfl (by first | (intro h; cases h; done) | (intro _ _ _ hK x hx; obtain ⟨rfl, rfl⟩ := hK; obtain rfl := List.mem_singleton.1 hx; exact m_m)) ?_
          rintro _ _ ⟨rfl, rfl⟩
          refine c_u ?_
          refine d_x rfl (x_storeTo (l' := cDd D) 0 rfl rfl rfl rfl rfl rfl (Nat.le_of_ble_eq_true rfl) rfl) rfl rfl (by first | (intro h; cases h; done) | (intro _ _ _ hK x hx; obtain ⟨rfl, rfl⟩ := hK; obtain rfl := List.mem_singleton.1 hx; exact m_m)) ?_
          rintro _ _ ⟨rfl, rfl⟩
          refine c_u ?_
          refine d_nil ?_
          exact ⟨(b15, b16, .slice a3 _ c3, Ga3), hV3, .cons rfl (.cons rfl .nil), a_g, fun _ h => (St.fl [[_], [_], [_], [_], [_], [_], [_], Ga3, [_], [_]] [0, 1, 5, 3, 4, 7, 8, 9] rfl h).as (by simp only [List.filterMap_cons, List.filterMap_nil, List.getElem?_cons_zero, List.getElem?_cons_succ, VV.fl, List.cons_append, List.nil_append])⟩
         exact d_stop
        refine d_fork ?_ ?_
        ·refine d_x rfl (x_alloc rfl) rfl rfl (by first | (intro h; cases h; done) | (intro _ _ _ hK x hx; obtain ⟨_, rfl, rfl⟩ := hK; obtain rfl := List.mem_singleton.1 hx; exact .tail _ m_m)) ?_
         rintro _ _ ⟨b16, rfl, rfl⟩
         refine d_x rfl (x_val call_8 rfl (fun w hw => state_fn (⟨s.r, false, s.soon, false, false⟩ : CS) w)) rfl rfl n_h ?_
         rintro _ _ ⟨rfl, rfl⟩
         refine d_x rfl (x_callT (F := [(b16, _), (b15, _), (bc, _), (b34, _), (b32, _), (b5, _)]) (A := (tb, _) :: ([] ++ [(b30, _), (b28, _)])) call_9 rfl (fun w hw => stepR_fn b30 b28 (n := 0) (⟨s.r, false, s.soon, false, false⟩ : CS) ⟨(putPC (fillB l) s.r.pc cd 3), []⟩ hs hm9 (d := D) (s' := Y.s) (m' := Y.m) hDY _ _ .nil tb _ oT hT w (St.lentV hw))) rfl rfl n_h ?_
         rintro _ _ ⟨_, ⟨rfl, oU3, hU3, va3, Ga3, hV3, rfl⟩, rfl⟩
         obtain ⟨a3, c3, rfl⟩ := hV3.slice
         refine c_u ?_
         refine d_mv rfl (vnf_eq rfl) rfl rfl ?_
         refine RD ?_
         refine RD ?_
         refine d_x rfl (x_storeTo (l' := cS Y.s) 1 rfl rfl rfl rfl rfl rfl (Nat.le_of_ble_eq_true rfl) rfl) rfl rfl (by first | (intro h; cases h; done) | (intro _ _ _ hK x hx; obtain ⟨rfl, rfl⟩ := hK; obtain rfl := List.mem_singleton.1 hx; exact m_m)) ?_
         rintro _ _ ⟨rfl, rfl⟩
         refine c_u ?_
         refine d_x rfl (x_storeTo (l' := cDd D) 0 rfl rfl rfl rfl rfl rfl (Nat.le_of_ble_eq_true rfl) rfl) rfl rfl (by first | (intro h; cases h; done) | (intro _ _ _ hK x hx; obtain ⟨rfl, rfl⟩ := hK; obtain rfl := List.mem_singleton.1 hx; exact m_m)) ?_
         rintro _ _ ⟨rfl, rfl⟩
         refine c_u ?_
         refine d_nil ?_
         exact ⟨(b15, b16, .slice a3 _ c3, Ga3), hV3, .cons rfl (.cons rfl .nil), a_g, fun _ h => (St.fl [[_], [_], [_], [_], [_], [_], [_], Ga3, [_], [_]] [0, 1, 5, 3, 4, 7, 8, 9] rfl h).as (by simp only [List.filterMap_cons, List.filterMap_nil, List.getElem?_cons_zero, List.getElem?_cons_succ, VV.fl, List.cons_append, List.nil_append])⟩
        exact d_stop
       refine d_fork ?_ ?_
       ·refine d_x rfl (x_alloc rfl) rfl rfl (by first | (intro h; cases h; done) | (intro _ _ _ hK x hx; obtain ⟨_, rfl, rfl⟩ := hK; obtain rfl := List.mem_singleton.1 hx; exact .tail _ m_m)) ?_
        rintro _ _ ⟨b16, rfl, rfl⟩
        refine d_fork ?_ ?_
        ·refine d_x rfl (x_val call_8 rfl (fun w hw => state_fn (⟨s.r, false, s.soon, false, false⟩ : CS) w)) rfl rfl n_h ?_
         rintro _ _ ⟨rfl, rfl⟩
         refine d_fork ?_ ?_
         ·refine d_x rfl (x_callT (F := [(b16, _), (bc, _), (b34, _), (b32, _), (b5, _)]) (A := (tb, _) :: ([] ++ [(b30, _), (b28, _)])) call_9 rfl (fun w hw => stepR_fn b30 b28 (n := 0) (⟨s.r, false, s.soon, false, false⟩ : CS) ⟨(putPC (fillB l) s.r.pc cd 3), []⟩ hs hm9 (d := D) (s' := Y.s) (m' := Y.m) hDY _ _ .nil tb _ oT hT w (St.lentV hw))) rfl rfl n_h ?_
          rintro _ _ ⟨_, ⟨rfl, oU3, hU3, va3, Ga3, hV3, rfl⟩, rfl⟩
          obtain ⟨a3, c3, rfl⟩ := hV3.slice
          refine c_u ?_
          refine d_mv rfl (vnf_eq rfl) rfl rfl ?_
          refine RD ?_
          refine RD ?_
          refine d_x rfl (x_alloc rfl) rfl rfl (by first | (intro h; cases h; done) | (intro _ _ _ hK x hx; obtain ⟨_, rfl, rfl⟩ := hK; obtain rfl := List.mem_singleton.1 hx; exact .tail _ m_m)) ?_
          rintro _ _ ⟨b15, rfl, rfl⟩
          refine d_x rfl (x_storeTo (l' := cS Y.s) 0 rfl rfl rfl rfl rfl rfl (Nat.le_of_ble_eq_true rfl) rfl) rfl rfl (by first | (intro h; cases h; done) | (intro _ _ _ hK x hx; obtain ⟨rfl, rfl⟩ := hK; obtain rfl := List.mem_singleton.1 hx; exact m_m)) ?_
          rintro _ _ ⟨rfl, rfl⟩
          refine c_u ?_
          refine d_x rfl (x_storeTo (l' := cDd D) 1 rfl rfl rfl rfl rfl rfl (Nat.le_of_ble_eq_true rfl) rfl) rfl rfl (by first | (intro h; cases h; done) | (intro _ _ _ hK x hx; obtain ⟨rfl, rfl⟩ := hK; obtain rfl := List.mem_singleton.1 hx; exact m_m)) ?_
          rintro _ _ ⟨rfl, rfl⟩
          refine c_u ?_
          refine d_nil ?_
          exact ⟨(b15, b16, .slice a3 _ c3, Ga3), hV3, .cons rfl (.cons rfl .nil), a_g, fun _ h => (St.fl [[_], [_], [_], [_], [_], [_], [_], Ga3, [_], [_]] [1, 0, 5, 3, 4, 7, 8, 9] rfl h).as (by simp only [List.filterMap_cons, List.filterMap_nil, List.getElem?_cons_zero, List.getElem?_cons_succ, VV.fl, List.cons_append, List.nil_append])⟩
         refine d_fork ?_ ?_
         ·refine d_x rfl (x_alloc rfl) rfl rfl (by first | (intro h; cases h; done) | (intro _ _ _ hK x hx; obtain ⟨_, rfl, rfl⟩ := hK; obtain rfl := List.mem_singleton.1 hx; exact .tail _ m_m)) ?_
          rintro _ _ ⟨b15, rfl, rfl⟩
          refine d_x rfl (x_callT (F := [(b15, _), (b16, _), (bc, _), (b34, _), (b32, _), (b5, _)]) (A := (tb, _) :: ([] ++ [(b30, _), (b28, _)])) call_9 rfl (fun w hw => stepR_fn b30 b28 (n := 0) (⟨s.r, false, s.soon, false, false⟩ : CS) ⟨(putPC (fillB l) s.r.pc cd 3), []⟩ hs hm9 (d := D) (s' := Y.s) (m' := Y.m) hDY _ _ .nil tb _ oT hT w (St.lentV hw))) rfl rfl n_h ?_
          rintro _ _ ⟨_, ⟨rfl, oU3, hU3, va3, Ga3, hV3, rfl⟩, rfl⟩
          obtain ⟨a3, c3, rfl⟩ := hV3.slice
          refine c_u ?_
          refine d_mv rfl (vnf_eq rfl) rfl rfl ?_
          refine RD ?_
          refine RD ?_
          refine d_x rfl (x_storeTo (l' := cS Y.s) 0 rfl rfl rfl rfl rfl rfl (Nat.le_of_ble_eq_true rfl) rfl) rfl rfl (by first | (intro h; cases h; done) | (intro _ _ _ hK x hx; obtain ⟨rfl, rfl⟩ := hK; obtain rfl := List.mem_singleton.1 hx; exact m_m)) ?_
          rintro _ _ ⟨rfl, rfl⟩
          refine c_u ?_
          refine d_x rfl (x_storeTo (l' := cDd D) 1 rfl rfl rfl rfl rfl rfl (Nat.le_of_ble_eq_true rfl) rfl) rfl rfl (by first | (intro h; cases h; done) | (intro _ _ _ hK x hx; obtain ⟨rfl, rfl⟩ := hK; obtain rfl := List.mem_singleton.1 hx; exact m_m)) ?_
          rintro _ _ ⟨rfl, rfl⟩
          refine c_u ?_
          refine d_nil ?_
          exact ⟨(b15, b16, .slice a3 _ c3, Ga3), hV3, .cons rfl (.cons rfl .nil), a_g, fun _ h => (St.fl [[_], [_], [_], [_], [_], [_], [_], Ga3, [_], [_]] [1, 0, 5, 3, 4, 7, 8, 9] rfl h).as (by simp only [List.filterMap_cons, List.filterMap_nil, List.getElem?_cons_zero, List.getElem?_cons_succ, VV.fl, List.cons_append, List.nil_append])⟩
         exact d_stop
        refine d_fork ?_ ?_
        ·refine d_x rfl (x_alloc rfl) rfl rfl (by first | (intro h; cases h; done) | (intro _ _ _ hK x hx; obtain ⟨_, rfl, rfl⟩ := hK; obtain rfl := List.mem_singleton.1 hx; exact .tail _ m_m)) ?_
         rintro _ _ ⟨b15, rfl, rfl⟩
         refine d_x rfl (x_val call_8 rfl (fun w hw => state_fn (⟨s.r, false, s.soon, false, false⟩ : CS) w)) rfl rfl n_h ?_
         rintro _ _ ⟨rfl, rfl⟩
         refine d_x rfl (x_callT (F := [(b15, _), (b16, _), (bc, _), (b34, _), (b32, _), (b5, _)]) (A := (tb, _) :: ([] ++ [(b30, _), (b28, _)])) call_9 rfl (fun w hw => stepR_fn b30 b28 (n := 0) (⟨s.r, false, s.soon, false, false⟩ : CS) ⟨(putPC (fillB l) s.r.pc cd 3), []⟩ hs hm9 (d := D) (s' := Y.s) (m' := Y.m) hDY _ _ .nil tb _ oT hT w (St.lentV hw))) rfl rfl n_h ?_
         rintro _ _ ⟨_, ⟨rfl, oU3, hU3, va3, Ga3, hV3, rfl⟩, rfl⟩
         obtain ⟨a3, c3, rfl⟩ := hV3.slice
         refine c_u ?_
         refine d_mv rfl (vnf_eq rfl) rfl rfl ?_
         refine RD ?_
         refine RD ?_
         refine d_x rfl (x_storeTo (l' := cS Y.s) 0 rfl rfl rfl rfl rfl rfl (Nat.le_of_ble_eq_true rfl) rfl) rfl rfl (by first | (intro h; cases h; done) | (intro _ _ _ hK x hx; obtain ⟨rfl, rfl⟩ := hK; obtain rfl := List.mem_singleton.1 hx; exact m_m)) ?_
         rintro _ _ ⟨rfl, rfl⟩
         refine c_u ?_
         refine d_x rfl (x_storeTo (l' := cDd D) 1 rfl rfl rfl rfl rfl rfl (Nat.le_of_ble_eq_true rfl) rfl) rfl rfl (by first | (intro h; cases h; done) | (intro _ _ _ hK x hx; obtain ⟨rfl, rfl⟩ := hK; obtain rfl := List.mem_singleton.1 hx; exact m_m)) ?_
         rintro _ _ ⟨rfl, rfl⟩
         refine c_u ?_
         refine d_nil ?_
         exact ⟨(b15, b16, .slice a3 _ c3, Ga3), hV3, .cons rfl (.cons rfl .nil), a_g, fun _ h => (St.fl [[_], [_], [_], [_], [_], [_], [_], Ga3, [_], [_]] [1, 0, 5, 3, 4, 7, 8, 9] rfl h).as (by simp only [List.filterMap_cons, List.filterMap_nil, List.getElem?_cons_zero, List.getElem?_cons_succ, VV.fl, List.cons_append, List.nil_append])⟩
        exact d_stop
       exact d_stop
      refine d_fork ?_ ?_
      ·refine d_x rfl (x_alloc rfl) rfl rfl (by first | (intro h; cases h; done) | (intro _ _ _ hK x hx; obtain ⟨_, rfl, rfl⟩ := hK; obtain rfl := List.mem_singleton.1 hx; exact .tail _ m_m)) ?_
       rintro _ _ ⟨b15, rfl, rfl⟩
       refine d_fork ?_ ?_
       ·refine d_x rfl (x_call call_6 rfl (fun w hw => tnew_fn w)) rfl rfl (by first | (intro h; cases h; done) | (intro _ _ _ hK x hx; obtain ⟨_, _, rfl⟩ := hK; obtain rfl := List.mem_singleton.1 hx; exact List.mem_append_right _ m_m)) ?_
        rintro _ _ ⟨GT, ⟨tb, rfl, hT⟩, rfl⟩
        obtain ⟨oT, rfl⟩ := hT.one
        refine d_heap (fun _ h => St.fl [[_], [_], [_], [_], [_], [_], [_], [_]] [1, 2, 3, 4, 7, 0, 5, 6] rfl h) ?_
        simp only [List.filterMap_cons, List.filterMap_nil, List.getElem?_cons_zero, List.getElem?_cons_succ, VV.fl, List.cons_append, List.nil_append]
        refine d_fork ?_ ?_
        ·refine d_x rfl (x_val call_8 rfl (fun w hw => state_fn (⟨s.r, false, s.soon, false, false⟩ : CS) w)) rfl rfl n_h ?_
         rintro _ _ ⟨rfl, rfl⟩
         refine d_fork ?_ ?_
         ·refine d_x rfl (x_callT (F := [(b15, _), (bc, _), (b34, _), (b32, _), (b5, _)]) (A := (tb, _) :: ([] ++ [(b30, _), (b28, _)])) call_9 rfl (fun w hw => stepR_fn b30 b28 (n := 0) (⟨s.r, false, s.soon, false, false⟩ : CS) ⟨(putPC (fillB l) s.r.pc cd 3), []⟩ hs hm9 (d := D) (s' := Y.s) (m' := Y.m) hDY _ _ .nil tb _ oT hT w (St.lentV hw))) rfl rfl n_h ?_
          rintro _ _ ⟨_, ⟨rfl, oU3, hU3, va3, Ga3, hV3, rfl⟩, rfl⟩
          obtain ⟨a3, c3, rfl⟩ := hV3.slice
          refine c_u ?_
          refine d_mv rfl (vnf_eq rfl) rfl rfl ?_
          refine RD ?_
          refine RD ?_
          refine d_x rfl (x_alloc rfl) rfl rfl (by first | (intro h; cases h; done) | (intro _ _ _ hK x hx; obtain ⟨_, rfl, rfl⟩ := hK; obtain rfl := List.mem_singleton.1 hx; exact .tail _ m_m)) ?_
          rintro _ _ ⟨b16, rfl, rfl⟩
          refine d_x rfl (x_storeTo (l' := cS Y.s) 1 rfl rfl rfl rfl rfl rfl (Nat.le_of_ble_eq_true rfl) rfl) rfl rfl (by first | (intro h; cases h; done) | (intro _ _ _ hK x hx; obtain ⟨rfl, rfl⟩ := hK; obtain rfl := List.mem_singleton.1 hx; exact m_m)) ?_
          rintro _ _ ⟨rfl, rfl⟩
          refine c_u ?_
          refine d_x rfl (x_storeTo (l' := cDd D) 0 rfl rfl rfl rfl rfl rfl (Nat.le_of_ble_eq_true rfl) rfl) rfl rfl (by first | (intro h; cases h; done) | (intro _ _ _ hK x hx; obtain ⟨rfl, rfl⟩ := hK; obtain rfl := List.mem_singleton.1 hx; exact m_m)) ?_
          rintro _ _ ⟨rfl, rfl⟩
          refine c_u ?_
          refine d_nil ?_
          exact ⟨(b15, b16, .slice a3 _ c3, Ga3), hV3, .cons rfl (.cons rfl .nil), a_g, fun _ h => (St.fl [[_], [_], [_], [_], [_], [_], [_], Ga3, [_], [_]] [0, 1, 5, 3, 4, 7, 8, 9] rfl h).as (by simp only [List.filterMap_cons, List.filterMap_nil, List.getElem?_cons_zero, List.getElem?_cons_succ, VV.fl, List.cons_append, List.nil_append])⟩
         refine d_fork ?_ ?_
         ·refine d_x rfl (x_alloc rfl) rfl rfl (by first | (intro h; cases h; done) | (intro _ _ _ hK x hx; obtain ⟨_, rfl, rfl⟩ := hK; obtain rfl := List.mem_singleton.1 hx; exact .tail _ m_m)) ?_
          rintro _ _ ⟨b16, rfl, rfl⟩
          refine d_x rfl (x_callT (F := [(b16, _), (b15, _), (bc, _), (b34, _), (b32, _), (b5, _)]) (A := (tb, _) :: ([] ++ [(b30, _), (b28, _)])) call_9 rfl (fun w hw => stepR_fn b30 b28 (n := 0) (⟨s.r, false, s.soon, false, false⟩ : CS) ⟨(putPC (fillB l) s.r.pc cd 3), []⟩ hs hm9 (d := D) (s' := Y.s) (m' := Y.m) hDY _ _ .nil tb _ oT hT w (St.lentV hw))) rfl rfl n_h ?_
          rintro _ _ ⟨_, ⟨rfl, oU3, hU3, va3, Ga3, hV3, rfl⟩, rfl⟩
          obtain ⟨a3, c3, rfl⟩ := hV3.slice
          refine c_u ?_
          refine d_mv rfl (vnf_eq rfl) rfl rfl ?_
          refine RD ?_
          refine RD ?_
          refine d_x rfl (x_storeTo (l' := cS Y.s) 1 rfl rfl rfl rfl rfl rfl (Nat.le_of_ble_eq_true rfl) rfl) rfl rfl (by first | (intro h; cases h; done) | (intro _ _ _ hK x hx; obtain ⟨rfl, rfl⟩ := hK; obtain rfl := List.mem_singleton.1 hx; exact m_m)) ?_
          rintro _ _ ⟨rfl, rfl⟩
          refine c_u ?_
          refine d_x rfl (x_storeTo (l' := cDd D) 0 rfl rfl rfl rfl rfl rfl (Nat.le_of_ble_eq_true rfl) rfl) rfl rfl (by first | (intro h; cases h; done) | (intro _ _ _ hK x hx; obtain ⟨rfl, rfl⟩ := hK; obtain rfl := List.mem_singleton.1 hx; exact m_m)) ?_
          rintro _ _ ⟨rfl, rfl⟩
          refine c_u ?_
          refine d_nil ?_
          exact ⟨(b15, b16, .slice a3 _ c3, Ga3), hV3, .cons rfl (.cons rfl .nil), a_g, fun _ h => (St.fl [[_], [_], [_], [_], [_], [_], [_], Ga3, [_], [_]] [0, 1, 5, 3, 4, 7, 8, 9] rfl h).as (by simp only [List.filterMap_cons, List.filterMap_nil, List.getElem?_cons_zero, List.getElem?_cons_succ, VV.fl, List.cons_append, List.nil_append])⟩
         exact d_stop
        refine d_fork ?_ ?_
        ·refine d_x rfl (x_alloc rfl) rfl rfl (by first | (intro h; cases h; done) | (intro _ _ _ hK x hx; obtain ⟨_, rfl, rfl⟩ := hK; obtain rfl := List.mem_singleton.1 hx; exact .tail _ m_m)) ?_
         rintro _ _ ⟨b16, rfl, rfl⟩
         refine d_x rfl (x_val call_8 rfl (fun w hw => state_fn (⟨s.r, false, s.soon, false, false⟩ : CS) w)) rfl rfl n_h ?_
         rintro _ _ ⟨rfl, rfl⟩
         refine d_x rfl (x_callT (F := [(b16, _), (b15, _), (bc, _), (b34, _), (b32, _), (b5, _)]) (A := (tb, _) :: ([] ++ [(b30, _), (b28, _)])) call_9 rfl (fun w hw => stepR_fn b30 b28 (n := 0) (⟨s.r, false, s.soon, false, false⟩ : CS) ⟨(putPC (fillB l) s.r.pc cd 3), []⟩ hs hm9 (d := D) (s' := Y.s) (m' := Y.m) hDY _ _ .nil tb _ oT hT w (St.lentV hw))) rfl rfl n_h ?_
         rintro _ _ ⟨_, ⟨rfl, oU3, hU3, va3, Ga3, hV3, rfl⟩, rfl⟩
         obtain ⟨a3, c3, rfl⟩ := hV3.slice
         refine c_u ?_
         refine d_mv rfl (vnf_eq rfl) rfl rfl ?_
         refine RD ?_
         refine RD ?_
         refine d_x rfl (x_storeTo (l' := cS Y.s) 1 rfl rfl rfl rfl rfl rfl (Nat.le_of_ble_eq_true rfl) rfl) rfl rfl (by first | (intro h; cases h; done) | (intro _ _ _ hK x hx; obtain ⟨rfl, rfl⟩ := hK; obtain rfl := List.mem_singleton.1 hx; exact m_m)) ?_
         rintro _ _ ⟨rfl, rfl⟩
         refine c_u ?_
         refine d_x rfl (x_storeTo (l' := cDd D) 0 rfl rfl rfl rfl rfl rfl (Nat.le_of_ble_eq_true rfl) rfl) rfl rfl (by first | (intro h; cases h; done) | (intro _ _ _ hK x hx; obtain ⟨rfl, rfl⟩ := hK; obtain rfl := List.mem_singleton.1 hx; exact m_m)) ?_
         rintro _ _ ⟨rfl, rfl⟩
         refine c_u ?_
         refine d_nil ?_
         exact ⟨(b15, b16, .slice a3 _ c3, Ga3), hV3, .cons rfl (.cons rfl .nil), a_g, fun _ h => (St.fl [[_], [_], [_], [_], [_], [_], [_], Ga3, [_], [_]] [0, 1, 5, 3, 4, 7, 8, 9] rfl h).as (by simp only [List.filterMap_cons, List.filterMap_nil, List.getElem?_cons_zero, List.getElem?_cons_succ, VV.fl, List.cons_append, List.nil_append])⟩
        exact d_stop
       refine d_fork ?_ ?_
       ·refine d_x rfl (x_alloc rfl) rfl rfl (by first | (intro h; cases h; done) | (intro _ _ _ hK x hx; obtain ⟨_, rfl, rfl⟩ := hK; obtain rfl := List.mem_singleton.1 hx; exact .tail _ m_m)) ?_
        rintro _ _ ⟨b16, rfl, rfl⟩
        refine d_x rfl (x_call call_6 rfl (fun w hw => tnew_fn w)) rfl rfl (by first | (intro h; cases h; done) | (intro _ _ _ hK x hx; obtain ⟨_, _, rfl⟩ := hK; obtain rfl := List.mem_singleton.1 hx; exact List.mem_append_right _ m_m)) ?_
        rintro _ _ ⟨GT, ⟨tb, rfl, hT⟩, rfl⟩
        obtain ⟨oT, rfl⟩ := hT.one
        refine d_heap (fun _ h => St.fl [[_], [_], [_], [_], [_], [_], [_], [_], [_]] [1, 2, 3, 4, 5, 8, 0, 6, 7] rfl h) ?_
        simp only [List.filterMap_cons, List.filterMap_nil, List.getElem?_cons_zero, List.getElem?_cons_succ, VV.fl, List.cons_append, List.nil_append]
        refine d_x rfl (x_val call_8 rfl (fun w hw => state_fn (⟨s.r, false, s.soon, false, false⟩ : CS) w)) rfl rfl n_h ?_
        rintro _ _ ⟨rfl, rfl⟩
        refine d_x rfl (x_callT (F := [(b16, _), (b15, _), (bc, _), (b34, _), (b32, _), (b5, _)]) (A := (tb, _) :: ([] ++ [(b30, _), (b28, _)])) call_9 rfl (fun w hw => stepR_fn b30 b28 (n := 0) (⟨s.r, false, s.soon, false, false⟩ : CS) ⟨(putPC (fillB l) s.r.pc cd 3), []⟩ hs hm9 (d := D) (s' := Y.s) (m' := Y.m) hDY _ _ .nil tb _ oT hT w (St.lentV hw))) rfl rfl n_h ?_
        rintro _ _ ⟨_, ⟨rfl, oU3, hU3, va3, Ga3, hV3, rfl⟩, rfl⟩
        obtain ⟨a3, c3, rfl⟩ := hV3.slice
        refine c_u ?_
        refine d_mv rfl (vnf_eq rfl) rfl rfl ?_
        refine RD ?_
        refine RD ?_
        refine d_x rfl (x_storeTo (l' := cS Y.s) 1 rfl rfl rfl rfl rfl rfl (Nat.le_of_ble_eq_true rfl) rfl) rfl rfl (by first | (intro h; cases h; done) | (intro _ _ _ hK x hx; obtain ⟨rfl, rfl⟩ := hK; obtain rfl := List.mem_singleton.1 hx; exact m_m)) ?_
        rintro _ _ ⟨rfl, rfl⟩
        refine c_u ?_
        refine d_x rfl (x_storeTo (l' := cDd D) 0 rfl rfl rfl rfl rfl rfl (Nat.le_of_ble_eq_true rfl) rfl) rfl rfl (by first | (intro h; cases h; done) | (intro _ _ _ hK x hx; obtain ⟨rfl, rfl⟩ := hK; obtain rfl := List.mem_singleton.1 hx; exact m_m)) ?_
        rintro _ _ ⟨rfl, rfl⟩
        refine c_u ?_
        refine d_nil ?_
        exact ⟨(b15, b16, .slice a3 _ c3, Ga3), hV3, .cons rfl (.cons rfl .nil), a_g, fun _ h => (St.fl [[_], [_], [_], [_], [_], [_], [_], Ga3, [_], [_]] [0, 1, 5, 3, 4, 7, 8, 9] rfl h).as (by simp only [List.filterMap_cons, List.filterMap_nil, List.getElem?_cons_zero, List.getElem?_cons_succ, VV.fl, List.cons_append, List.nil_append])⟩
       exact d_stop
      refine d_fork ?_ ?_
      ·refine d_x rfl (x_alloc rfl) rfl rfl (by first | (intro h; cases h; done) | (intro _ _ _ hK x hx; obtain ⟨_, rfl, rfl⟩ := hK; obtain rfl := List.mem_singleton.1 hx; exact .tail _ m_m)) ?_
       rintro _ _ ⟨b16, rfl, rfl⟩
       refine d_fork ?_ ?_
       ·refine d_x rfl (x_call call_6 rfl (fun w hw => tnew_fn w)) rfl rfl (by first | (intro h; cases h; done) | (intro _ _ _ hK x hx; obtain ⟨_, _, rfl⟩ := hK; obtain rfl := List.mem_singleton.1 hx; exact List.mem_append_right _ m_m)) ?_
        rintro _ _ ⟨GT, ⟨tb, rfl, hT⟩, rfl⟩
        obtain ⟨oT, rfl⟩ := hT.one
        refine d_heap (fun _ h => St.fl [[_], [_], [_], [_], [_], [_], [_], [_]] [1, 2, 3, 4, 7, 0, 5, 6] rfl h) ?_
        simp only [List.filterMap_cons, List.filterMap_nil, List.getElem?_cons_zero, List.getElem?_cons_succ, VV.fl, List.cons_append, List.nil_append]
        refine d_fork ?_ ?_
        ·refine d_x rfl (x_val call_8 rfl (fun w hw => state_fn (⟨s.r, false, s.soon, false, false⟩ : CS) w)) rfl rfl n_h ?_
         rintro _ _ ⟨rfl, rfl⟩
         refine d_fork ?_ ?_
         ·refine d_x rfl (x_callT (F := [(b16, _), (bc, _), (b34, _), (b32, _), (b5, _)]) (A := (tb, _) :: ([] ++ [(b30, _), (b28, _)])) call_9 rfl (fun w hw => stepR_fn b30 b28 (n := 0) (⟨s.r, false, s.soon, false, false⟩ : CS) ⟨(putPC (fillB l) s.r.pc cd 3), []⟩ hs hm9 (d := D) (s' := Y.s) (m' := Y.m) hDY _ _ .nil tb _ oT hT w (St.lentV hw))) rfl rfl n_h ?_
          rintro _ _ ⟨_, ⟨rfl, oU3, hU3, va3, Ga3, hV3, rfl⟩, rfl⟩
          obtain ⟨a3, c3, rfl⟩ := hV3.slice
          refine c_u ?_
          refine d_mv rfl (vnf_eq rfl) rfl rfl ?_
          refine RD ?_
          refine RD ?_
          refine d_x rfl (x_alloc rfl) rfl rfl (by first | (intro h; cases h; done) | (intro _ _ _ hK x hx; obtain ⟨_, rfl, rfl⟩ := hK; obtain rfl := List.mem_singleton.1 hx; exact .tail _ m_m)) ?_
          rintro _ _ ⟨b15, rfl, rfl⟩
          refine d_x rfl (x_storeTo (l' := cS Y.s) 0 rfl rfl rfl rfl rfl rfl (Nat.le_of_ble_eq_true rfl) rfl) rfl rfl (by first | (intro h; cases h; done) | (intro _ _ _ hK x hx; obtain ⟨rfl, rfl⟩ := hK; obtain rfl := List.mem_singleton.1 hx; exact m_m)) ?_
          rintro _ _ ⟨rfl, rfl⟩
          refine c_u ?_
          refine d_x rfl (x_storeTo (l' := cDd D) 1 rfl rfl rfl rfl rfl rfl (Nat.le_of_ble_eq_true rfl) rfl) rfl rfl (by first | (intro h; cases h; done) | (intro _ _ _ hK x hx; obtain ⟨rfl, rfl⟩ := hK; obtain rfl := List.mem_singleton.1 hx; exact m_m)) ?_
          rintro _ _ ⟨rfl, rfl⟩
          refine c_u ?_
          refine d_nil ?_
          exact ⟨(b15, b16, .slice a3 _ c3, Ga3), hV3, .cons rfl (.cons rfl .nil), a_g, fun _ h => (St.fl [[_], [_], [_], [_], [_], [_], [_], Ga3, [_], [_]] [1, 0, 5, 3, 4, 7, 8, 9] rfl h).as (by simp only [List.filterMap_cons, List.filterMap_nil, List.getElem?_cons_zero, List.getElem?_cons_succ, VV.fl, List.cons_append, List.nil_append])⟩
         refine d_fork ?_ ?_
         ·refine d_x rfl (x_alloc rfl) rfl rfl (by first | (intro h; cases h; done) | (intro _ _ _ hK x hx; obtain ⟨_, rfl, rfl⟩ := hK; obtain rfl := List.mem_singleton.1 hx; exact .tail _ m_m)) ?_
          rintro _ _ ⟨b15, rfl, rfl⟩
          refine d_x rfl (x_callT (F := [(b15, _), (b16, _), (bc, _), (b34, _), (b32, _), (b5, _)]) (A := (tb, _) :: ([] ++ [(b30, _), (b28, _)])) call_9 rfl (fun w hw => stepR_fn b30 b28 (n := 0) (⟨s.r, false, s.soon, false, false⟩ : CS) ⟨(putPC (fillB l) s.r.pc cd 3), []⟩ hs hm9 (d := D) (s' := Y.s) (m' := Y.m) hDY _ _ .nil tb _ oT hT w (St.lentV hw))) rfl rfl n_h ?_
          rintro _ _ ⟨_, ⟨rfl, oU3, hU3, va3, Ga3, hV3, rfl⟩, rfl⟩
          obtain ⟨a3, c3, rfl⟩ := hV3.slice
          refine c_u ?_
          refine d_mv rfl (vnf_eq rfl) rfl rfl ?_
          refine RD ?_
          refine RD ?_
          refine d_x rfl (x_storeTo (l' := cS Y.s) 0 rfl rfl rfl rfl rfl rfl (Nat.le_of_ble_eq_true rfl) rfl) rfl rfl (by first | (intro h; cases h; done) | (intro _ _ _ hK x hx; obtain ⟨rfl, rfl⟩ := hK; obtain rfl := List.mem_singleton.1 hx; exact m_m)) ?_
          rintro _ _ ⟨rfl, rfl⟩
          refine c_u ?_
          refine d_x rfl (x_storeTo (l' := cDd D) 1 rfl rfl rfl rfl rfl rfl (Nat.le_of_ble_eq_true rfl) rfl) rfl rfl (by first | (intro h; cases h; done) | (intro _ _ _ hK x hx; obtain ⟨rfl, rfl⟩ := hK; obtain rfl := List.mem_singleton.1 hx; exact m_m)) ?_
          rintro _ _ ⟨rfl, rfl⟩
          refine c_u ?_
          refine d_nil ?_
          exact ⟨(b15, b16, .slice a3 _ c3, Ga3), hV3, .cons rfl (.cons rfl .nil), a_g, fun _ h => (St.fl [[_], [_], [_], [_], [_], [_], [_], Ga3, [_], [_]] [1, 0, 5, 3, 4, 7, 8, 9] rfl h).as (by simp only [List.filterMap_cons, List.filterMap_nil, List.getElem?_cons_zero, List.getElem?_cons_succ, VV.fl, List.cons_append, List.nil_append])⟩
         exact d_stop
        refine d_fork ?_ ?_
        ·refine d_x rfl (x_alloc rfl) rfl rfl (by first | (intro h; cases h; done) | (intro _ _ _ hK x hx; obtain ⟨_, rfl, rfl⟩ := hK; obtain rfl := List.mem_singleton.1 hx; exact .tail _ m_m)) ?_
         rintro _ _ ⟨b15, rfl, rfl⟩
         refine d_x rfl (x_val call_8 rfl (fun w hw => state_fn (⟨s.r, false, s.soon, false, false⟩ : CS) w)) rfl rfl n_h ?_
         rintro _ _ ⟨rfl, rfl⟩
         refine d_x rfl (x_callT (F := [(b15, _), (b16, _), (bc, _), (b34, _), (b32, _), (b5, _)]) (A := (tb, _) :: ([] ++ [(b30, _), (b28, _)])) call_9 rfl (fun w hw => stepR_fn b30 b28 (n := 0) (⟨s.r, false, s.soon, false, false⟩ : CS) ⟨(putPC (fillB l) s.r.pc cd 3), []⟩ hs hm9 (d := D) (s' := Y.s) (m' := Y.m) hDY _ _ .nil tb _ oT hT w (St.lentV hw))) rfl rfl n_h ?_
         rintro _ _ ⟨_, ⟨rfl, oU3, hU3, va3, Ga3, hV3, rfl⟩, rfl⟩
         obtain ⟨a3, c3, rfl⟩ := hV3.slice
         refine c_u ?_
         refine d_mv rfl (vnf_eq rfl) rfl rfl ?_
         refine RD ?_
         refine RD ?_
         refine d_x rfl (x_storeTo (l' := cS Y.s) 0 rfl rfl rfl rfl rfl rfl (Nat.le_of_ble_eq_true rfl) rfl) rfl rfl (by first | (intro h; cases h; done) | (intro _ _ _ hK x hx; obtain ⟨rfl, rfl⟩ := hK; obtain rfl := List.mem_singleton.1 hx; exact m_m)) ?_
         rintro _ _ ⟨rfl, rfl⟩
         refine c_u ?_
         refine d_x rfl (x_storeTo (l' := cDd D) 1 rfl rfl rfl rfl rfl rfl (Nat.le_of_ble_eq_true rfl) rfl) rfl rfl (by first | (intro h; cases h; done) | (intro _ _ _ hK x hx; obtain ⟨rfl, rfl⟩ := hK; obtain rfl := List.mem_singleton.1 hx; exact m_m)) ?_
         rintro _ _ ⟨rfl, rfl⟩
         refine c_u ?_
         refine d_nil ?_
         exact ⟨(b15, b16, .slice a3 _ c3, Ga3), hV3, .cons rfl (.cons rfl .nil), a_g, fun _ h => (St.fl [[_], [_], [_], [_], [_], [_], [_], Ga3, [_], [_]] [1, 0, 5, 3, 4, 7, 8, 9] rfl h).as (by simp only [List.filterMap_cons, List.filterMap_nil, List.getElem?_cons_zero, List.getElem?_cons_succ, VV.fl, List.cons_append, List.nil_append])⟩
        exact d_stop
       refine d_fork ?_ ?_
       ·refine d_x rfl (x_alloc rfl) rfl rfl (by first | (intro h; cases h; done) | (intro _ _ _ hK x hx; obtain ⟨_, rfl, rfl⟩ := hK; obtain rfl := List.mem_singleton.1 hx; exact .tail _ m_m)) ?_
        rintro _ _ ⟨b15, rfl, rfl⟩
        refine d_x rfl (x_call call_6 rfl (fun w hw => tnew_fn w)) rfl rfl (by first | (intro h; cases h; done) | (intro _ _ _ hK x hx; obtain ⟨_, _, rfl⟩ := hK; obtain rfl := List.mem_singleton.1 hx; exact List.mem_append_right _ m_m)) ?_
        rintro _ _ ⟨GT, ⟨tb, rfl, hT⟩, rfl⟩
        obtain ⟨oT, rfl⟩ := hT.one
        refine d_heap (fun _ h => St.fl [[_], [_], [_], [_], [_], [_], [_], [_], [_]] [1, 2, 3, 4, 5, 8, 0, 6, 7] rfl h) ?_
        simp only [List.filterMap_cons, List.filterMap_nil, List.getElem?_cons_zero, List.getElem?_cons_succ, VV.fl, List.cons_append, List.nil_append]
        refine d_x rfl (x_val call_8 rfl (fun w hw => state_fn (⟨s.r, false, s.soon, false, false⟩ : CS) w)) rfl rfl n_h ?_
        rintro _ _ ⟨rfl, rfl⟩
        refine d_x rfl (x_callT (F := [(b15, _), (b16, _), (bc, _), (b34, _), (b32, _), (b5, _)]) (A := (tb, _) :: ([] ++ [(b30, _), (b28, _)])) call_9 rfl (fun w hw => stepR_fn b30 b28 (n := 0) (⟨s.r, false, s.soon, false, false⟩ : CS) ⟨(putPC (fillB l) s.r.pc cd 3), []⟩ hs hm9 (d := D) (s' := Y.s) (m' := Y.m) hDY _ _ .nil tb _ oT hT w (St.lentV hw))) rfl rfl n_h ?_
        rintro _ _ ⟨_, ⟨rfl, oU3, hU3, va3, Ga3, hV3, rfl⟩, rfl⟩
        obtain ⟨a3, c3, rfl⟩ := hV3.slice
        refine c_u ?_
        refine d_mv rfl (vnf_eq rfl) rfl rfl ?_
        refine RD ?_
        refine RD ?_
        refine d_x rfl (x_storeTo (l' := cS Y.s) 0 rfl rfl rfl rfl rfl rfl (Nat.le_of_ble_eq_true rfl) rfl) rfl rfl (by first | (intro h; cases h; done) | (intro _ _ _ hK x hx; obtain ⟨rfl, rfl⟩ := hK; obtain rfl := List.mem_singleton.1 hx; exact m_m)) ?_
        rintro _ _ ⟨rfl, rfl⟩
        refine c_u ?_
        refine d_x rfl (x_storeTo (l' := cDd D) 1 rfl rfl rfl rfl rfl rfl (Nat.le_of_ble_eq_true rfl) rfl) rfl rfl (by first | (intro h; cases h; done) | (intro _ _ _ hK x hx; obtain ⟨rfl, rfl⟩ := hK; obtain rfl := List.mem_singleton.1 hx; exact m_m)) ?_
        rintro _ _ ⟨rfl, rfl⟩
        refine c_u ?_
        refine d_nil ?_
        exact ⟨(b15, b16, .slice a3 _ c3, Ga3), hV3, .cons rfl (.cons rfl .nil), a_g, fun _ h => (St.fl [[_], [_], [_], [_], [_], [_], [_], Ga3, [_], [_]] [1, 0, 5, 3, 4, 7, 8, 9] rfl h).as (by simp only [List.filterMap_cons, List.filterMap_nil, List.getElem?_cons_zero, List.getElem?_cons_succ, VV.fl, List.cons_append, List.nil_append])⟩
       exact d_stop
      exact d_stop
     ·rintro ⟨b15, b16, va3, Ga3⟩ y13 hV3
      dsimp only at hV3 ⊢
      obtain ⟨a3, c3, rfl⟩ := hV3.slice
      refine c_seq ?_
      refine c_region ?_
      refine l_x (x_loadA rfl rfl rfl (row_own (l := cS (⟨s.r, false, s.soon, false, false⟩ : CS)) m_m)) rfl rfl ?_
      rintro _ _ ⟨rfl, rfl⟩
      refine RL ?_
      refine l_x (x_callM (F := [(b16, _), (b15, _), (b5, _)]) (A := [] ++ [_, _]) (G := _ ++ [_, _]) _ call_10 rfl (fun _ hb => mem_fst hb) (fun w hw => stepM_fn b34 b32 (n := 0) (⟨s.r, false, s.soon, false, false⟩ : CS) ⟨(putPC (fillB l) s.r.pc cd 3), []⟩ hs hm9 (d := D) (s' := Y.s) (m' := Y.m) hDY (.slice none 0 0) [] 0 .nil w (St.lentV hw))) rfl rfl ?_
      rintro _ _ ⟨_, ⟨rfl, vm2, Gm2, ak2, hM2, rfl⟩, rfl⟩
      obtain ⟨bi, di, rfl⟩ := hM2.slice
      iterate 3 refine RL ?_
      refine l_x (x_alloc rfl) rfl rfl ?_
      rintro _ _ ⟨b17, rfl, rfl⟩
      refine l_x (x_alloc rfl) rfl rfl ?_
      rintro _ _ ⟨b18, rfl, rfl⟩
      refine l_x (x_storeTo (l' := cS Y.s) 1 rfl rfl rfl rfl rfl rfl (Nat.le_of_ble_eq_true rfl) rfl) rfl rfl ?_
      rintro _ _ ⟨rfl, rfl⟩
      refine c_u ?_
      refine l_x (x_storeTo (l' := cDd D) 0 rfl rfl rfl rfl rfl rfl (Nat.le_of_ble_eq_true rfl) rfl) rfl rfl ?_
      rintro _ _ ⟨rfl, rfl⟩
      refine c_u ?_
      refine l_nil ?_
      refine c_seq ?_
      obtain ⟨ax1, cx1, hsl1, hln1, hcx1, hgv1⟩ := hV3.gives cAc_len (by decide)
      cases hsl1
      obtain ⟨ax2, cx2, hsl2, hln2, hcx2, hgv2⟩ := hM2.gives cAc_len (by decide)
      cases hsl2
      simp only [List.append_assoc, List.cons_append, List.nil_append]
      refine c_heap (fun _ h => St.fl [[_], [_], [_], [_], [_], Gm2, [_], [_], Ga3, [_], [_]] [0, 1, 2, 3, 6, 9, 8, 5] rfl h) ?_
      simp only [List.filterMap_cons, List.filterMap_nil, List.getElem?_cons_zero, List.getElem?_cons_succ, VV.fl, List.cons_append, List.nil_append]
      refine c_draw _ [1, 2, 3, 4, 10, 11, 12, 13] (.step true 0 (.step true 1 (.step true 2 (.step true 3 (.step false 4 (.step true 5 (.step true 6 (.step true 7 (.step true 8 (.step true 9 (.step true 10 (.step true 11 (.step true 12 (.step true 13 (.step false 14 (.step true 15 (.step true 16 .done))))))))))))))))) rfl (by kernel_rfl) (by kernel_rfl) (fun _ h => h) ?_
      refine d_loadA rfl rfl rfl rfl (srow_own (l := cS Y.s) m_m) rfl rfl ?_
      refine d_loadA rfl rfl rfl rfl (srow_own (l := cDd D) m_m) rfl rfl ?_
      refine d_loadA rfl rfl rfl rfl (srow_own (l := cS Y.s) m_m) rfl rfl ?_
      refine d_loadA rfl rfl rfl rfl (srow_own (l := cDd D) m_m) rfl rfl ?_
      refine d_x rfl (x_val call_11 rfl (fun w hw => same_fn Y.s D w)) rfl rfl (by first | (intro h; cases h; done) | (intro _ _ _ hK x hx; obtain ⟨_, rfl⟩ := hK; exact hx)) ?_
      rintro _ _ ⟨rfl, rfl⟩
      iterate 3 refine RD ?_
      refine RDa ?_
      refine RDo ?_
      refine RD ?_
      refine RD ?_
      refine RDa ?_
      refine RDo ?_
      refine d_x rfl (x_val call_12 rfl (fun w hw => accesses_fn Y.m.acc Y.m.acc a3 bi c3 di o_m w (hgv1.els hw (by intro x hx; first | exact .tail _ (.tail _ (.tail _ (.tail _ (.tail _ (.tail _ (List.mem_append_left _ hx)))))) | exact .tail _ (.tail _ (.tail _ (.tail _ (.tail _ (.tail _ (List.mem_append_right _ hx)))))))) (hgv2.els hw (by intro x hx; first | exact .tail _ (.tail _ (.tail _ (.tail _ (.tail _ (.tail _ (List.mem_append_left _ hx)))))) | exact .tail _ (.tail _ (.tail _ (.tail _ (.tail _ (.tail _ (List.mem_append_right _ hx)))))))) o_m)) rfl rfl (by first | (intro h; cases h; done) | (intro _ _ _ hK x hx; obtain ⟨_, rfl⟩ := hK; exact hx)) ?_
      rintro _ _ ⟨rfl, rfl⟩
      rw [show decide (Y.m.acc = Y.m.acc) = true from decide_eq_true rfl]
      refine RD ?_
      refine RD ?_
      refine d_nil ?_
      refine c_ret ?_
      exact l_end0 (fun _ _ => rets_v rfl) ⟨rfl, rfl⟩

end Go.Proofs.YtjjemehigdpboaaGreat
namespace Go.Proofs.YtjjemehigdpboaaGreat
open Go Go.VV Go.Proofs Go.ChangeShapes Go.WideShapes Go.ChangeAt Go.RowKit
set_option linter.unusedSimpArgs false
set_option linter.unusedVariables false
set_option maxRecDepth 100000
theorem own : ownKnob Tryz.prog.godebug = none := by kernel_rfl
theorem laidOut : laidOutB Tryz.prog = true := by kernel_rfl

theorem cS_of (cs : List Value) (h : Cks [.int .u8, .int .u8, .int .u8, .int .u8, .int .u8, .int .u8, .int .u8, .int .u8, .int .u16, .int .u16, .bool, .bool, .bool, .bool] cs) : ∃ x : CS, cs = cS x ∧ x.r.Ok := by
  obtain ⟨y0, _, rfl, w0, h0⟩ := ck_i h
  obtain ⟨y1, _, rfl, w1, h1⟩ := ck_i h0
  obtain ⟨y2, _, rfl, w2, h2⟩ := ck_i h1
  obtain ⟨y3, _, rfl, w3, h3⟩ := ck_i h2
  obtain ⟨y4, _, rfl, w4, h4⟩ := ck_i h3
  obtain ⟨y5, _, rfl, w5, h5⟩ := ck_i h4
  obtain ⟨y6, _, rfl, w6, h6⟩ := ck_i h5
  obtain ⟨y7, _, rfl, w7, h7⟩ := ck_i h6
  obtain ⟨y8, _, rfl, w8, h8⟩ := ck_i h7
  obtain ⟨y9, _, rfl, w9, h9⟩ := ck_i h8
  obtain ⟨y10, _, rfl, h10⟩ := ck_b h9
  obtain ⟨y11, _, rfl, h11⟩ := ck_b h10
  obtain ⟨y12, _, rfl, h12⟩ := ck_b h11
  obtain ⟨y13, _, rfl, h13⟩ := ck_b h12
  obtain rfl := ck_0 h13
  exact ⟨⟨⟨y0, y1, y2, y3, y4, y5, y6, y7, y8, y9⟩, y10, y11, y12, y13⟩, rfl, ⟨wf_u8 w0, wf_u8 w1, wf_u8 w2, wf_u8 w3, wf_u8 w4, wf_u8 w5, wf_u8 w6, wf_u8 w7, wf_u16 w8, wf_u16 w9⟩⟩

theorem cpuRuns_lifted (os : Os) (started : os.Started) (H : Type) (enc : TypeId × Value → H) :
    ReturnsInHanded {} Tryz.checked os 3 .any (Rows.cpuRunsSpec.pre6 enc Tryz.prog Tryz.f3 Rows.cpuRunsRow.domain false) (Rows.cpuRunsSpec.post enc Tryz.prog Tryz.f3 false true false false) := by
  refine returnsInHanded_of_change (C := Tryz.checked) own started (by kernel_rfl) Tryz.func3
    (ChangeSpec.witness6 (enc := enc) (C := Tryz.checked) false ⟨#[], #[.agg (cS ⟨r0, false, false, false, false⟩).toArray, .slice none 0 0, .int .u8 0], []⟩ 8 (by kernel_rfl) (by kernel_rfl) (by kernel_rfl) (by kernel_rfl)) ?_
  intro W base args ds gs before hval0 hW hcnd _
  have hval : ∀ (j : Nat) t v, Tryz.f3.params[j]? = some t → args[j]? = some v → Value.okWide Tryz.prog W .any base t v := hval0
  have hW' := hW
  obtain ⟨p, q, hA0, hV, rfl, hfz, hnd⟩ := hW
  have hA : DataW.TrodAll enc Tryz.prog W 0 (fun _ => true) true Tryz.f3.params.toList args.toList ds p := hA0
  rw [Tryz.params3] at hA hval
  obtain ⟨args⟩ := args
  obtain ⟨rfl, rfl⟩ := trodVars_none hV
  simp only [] at hA
  have hAk := hA
  obtain ⟨v0, vs0, d0, ds0, p0, q0, rfl, rfl, rfl, h0, r0⟩ := trodAll_cons hA
  obtain ⟨v1, vs1, d1, ds1, p1, q1, rfl, rfl, rfl, h1, r1⟩ := trodAll_cons r0
  obtain ⟨v2, vs2, d2, ds2, p2, q2, rfl, rfl, rfl, h2, r2⟩ := trodAll_cons r1
  obtain ⟨rfl, rfl, rfl⟩ := trodAll_nil r2
  obtain ⟨x0, rfl, w0⟩ := arg_flat (ks := [.int .u8, .int .u8, .int .u8, .int .u8, .int .u8, .int .u8, .int .u8, .int .u8, .int .u16, .int .u16, .bool, .bool, .bool, .bool]) (c := cS) (p := fun s => s.r.Ok) Tryz.underlying26 (by kernel_rfl) cS_of (hval 0 26 v0 rfl rfl) h0
  obtain ⟨a1, c1, l1, rfl, hc1, hm1, hw1, hN1⟩ := arg_ints Tryz.underlying27 Tryz.underlying5 (by kernel_rfl) (hval 1 27 v1 rfl rfl) h1
  obtain ⟨x2, rfl, rfl, rfl, w2⟩ := open_int Tryz.underlying5 (hval 2 5 v2 rfl rfl) h2
  refine Calls.mono (show Does Tryz.prog 3 _ W [] _ from runs_fn x0 w0 l1 (byts_of hw1) a1 c1 x2 (wf_u8 w2) W hN1) fun e W' ⟨v, G, he, hst, _, hv⟩ => ?_
  subst hv he
  have bel := below_of hst
  exact ⟨_, rfl, _, _, _, [], _, [], hW', trodAll_mk1 (shut_bool Tryz.underlying4 _), trodAll_below laidOut bel (by kernel_rfl) hAk, rfl, bel.frame _, fun h => by cases h⟩

/-- Whatever state, bytes and steps come in: CpuRuns returns true, and all reads as it did. -/
theorem cpuRuns_holds : Rows.CpuRunsSaid :=
  OpenClaim.holds_of_wide 3 Tryz.f3 rfl rfl rfl rfl rfl rfl rfl ⟨rfl, rfl, rfl, rfl, rfl⟩ rfl rfl rfl rfl rfl (by kernel_rfl) Tryz.func3 (by kernel_rfl)
    (of_decide_eq_true (by kernel_rfl)) (by unfold Func.isWrapper; first | (rw [if_pos (by decide +kernel)]; kernel_rfl) | (rw [if_neg (by decide +kernel)]; exact ⟨rfl, rfl⟩))
    (fun os started H enc _ => cpuRuns_lifted os started H enc)

theorem cpuEach_lifted (os : Os) (started : os.Started) (H : Type) (enc : TypeId × Value → H) :
    ReturnsInHanded {} Tryz.checked os 4 .any (Rows.cpuEachSpec.pre6 enc Tryz.prog Tryz.f4 Rows.cpuEachRow.domain false) (Rows.cpuEachSpec.post enc Tryz.prog Tryz.f4 false true false false) := by
  refine returnsInHanded_of_change (C := Tryz.checked) own started (by kernel_rfl) Tryz.func4
    (ChangeSpec.witness6 (enc := enc) (C := Tryz.checked) false ⟨#[], #[.agg (cS ⟨r0, false, false, false, false⟩).toArray, .int .u16 0, .int .u8 0, .int .u8 0, .slice none 0 0], []⟩ 8 (by kernel_rfl) (by kernel_rfl) (by kernel_rfl) (by kernel_rfl)) ?_
  intro W base args ds gs before hval0 hW hcnd _
  have hval : ∀ (j : Nat) t v, Tryz.f4.params[j]? = some t → args[j]? = some v → Value.okWide Tryz.prog W .any base t v := hval0
  have hW' := hW
  obtain ⟨p, q, hA0, hV, rfl, hfz, hnd⟩ := hW
  have hA : DataW.TrodAll enc Tryz.prog W 0 (fun _ => true) true Tryz.f4.params.toList args.toList ds p := hA0
  rw [Tryz.params4] at hA hval
  obtain ⟨args⟩ := args
  obtain ⟨rfl, rfl⟩ := trodVars_none hV
  simp only [] at hA
  have hAk := hA
  obtain ⟨v0, vs0, d0, ds0, p0, q0, rfl, rfl, rfl, h0, r0⟩ := trodAll_cons hA
  obtain ⟨v1, vs1, d1, ds1, p1, q1, rfl, rfl, rfl, h1, r1⟩ := trodAll_cons r0
  obtain ⟨v2, vs2, d2, ds2, p2, q2, rfl, rfl, rfl, h2, r2⟩ := trodAll_cons r1
  obtain ⟨v3, vs3, d3, ds3, p3, q3, rfl, rfl, rfl, h3, r3⟩ := trodAll_cons r2
  obtain ⟨v4, vs4, d4, ds4, p4, q4, rfl, rfl, rfl, h4, r4⟩ := trodAll_cons r3
  obtain ⟨rfl, rfl, rfl⟩ := trodAll_nil r4
  obtain ⟨x0, rfl, w0⟩ := arg_flat (ks := [.int .u8, .int .u8, .int .u8, .int .u8, .int .u8, .int .u8, .int .u8, .int .u8, .int .u16, .int .u16, .bool, .bool, .bool, .bool]) (c := cS) (p := fun s => s.r.Ok) Tryz.underlying26 (by kernel_rfl) cS_of (hval 0 26 v0 rfl rfl) h0
  obtain ⟨x1, rfl, rfl, rfl, w1⟩ := open_int Tryz.underlying22 (hval 1 22 v1 rfl rfl) h1
  obtain ⟨x2, rfl, rfl, rfl, w2⟩ := open_int Tryz.underlying5 (hval 2 5 v2 rfl rfl) h2
  obtain ⟨x3, rfl, rfl, rfl, w3⟩ := open_int Tryz.underlying5 (hval 3 5 v3 rfl rfl) h3
  obtain ⟨a4, c4, l4, rfl, hc4, hm4, hw4, hN4⟩ := arg_ints Tryz.underlying27 Tryz.underlying5 (by kernel_rfl) (hval 4 27 v4 rfl rfl) h4
  refine Calls.mono (show Does Tryz.prog 4 _ W [] _ from each_fn x0 w0 x1 x2 x3 (wf_u16 w1) (wf_u8 w2) (wf_u8 w3) l4 (byts_of hw4) a4 c4 W hN4) fun e W' ⟨v, G, he, hst, _, hv⟩ => ?_
  subst hv he
  have bel := below_of hst
  exact ⟨_, rfl, _, _, _, [], _, [], hW', trodAll_mk1 (shut_bool Tryz.underlying4 _), trodAll_below laidOut bel (by kernel_rfl) hAk, rfl, bel.frame _, fun h => by cases h⟩

/-- Whatever state, order and bytes come in: CpuEach returns true, and all reads as it did. -/
theorem cpuEach_holds : Rows.CpuEachSaid :=
  OpenClaim.holds_of_wide 4 Tryz.f4 rfl rfl rfl rfl rfl rfl rfl ⟨rfl, rfl, rfl, rfl, rfl⟩ rfl rfl rfl rfl rfl (by kernel_rfl) Tryz.func4 (by kernel_rfl)
    (of_decide_eq_true (by kernel_rfl)) (by unfold Func.isWrapper; first | (rw [if_pos (by decide +kernel)]; kernel_rfl) | (rw [if_neg (by decide +kernel)]; exact ⟨rfl, rfl⟩))
    (fun os started H enc _ => cpuEach_lifted os started H enc)

end Go.Proofs.YtjjemehigdpboaaGreat
