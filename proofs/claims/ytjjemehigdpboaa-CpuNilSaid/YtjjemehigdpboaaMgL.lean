/- The law of what is nil, and of what is not read. -/
import Derived.Test.YtjjemehigdpboaaMgC
import Derived.Test.YtjjemehigdpboaaMgF
import Derived.Test.YtjjemehigdpboaaMgI
import Derived.Test.YtjjemehigdpboaaMgK
namespace Go.Proofs.Ytjjemehigdpboaa
open Go Go.VV Go.Proofs Go.RowKit
set_option linter.unusedSimpArgs false
set_option linter.unusedVariables false
set_option maxRecDepth 100000
theorem step0_fn (s : CS) (v3 : Value) (w : World) : Does Try.prog 10 [.pointer none, .agg (cS s).toArray, v3] w [] (fun v H => H = [] ∧ v = .tuple #[.agg (cS s).toArray, .agg (cDd ⟨0, 0, s.r.pc, oN, false⟩).toArray]) := by
 refine does_of Try.func10 rfl rfl rfl (St.refl w) ?_
 refine c_seq ?_
 refine c_region ?_
 refine l_x (x_box (l := cS s) rfl rfl) rfl rfl ?_
 rintro _ _ ⟨b4, rfl, rfl⟩
 refine l_x (x_alloc rfl) rfl rfl ?_
 rintro _ _ ⟨b6, rfl, rfl⟩
 refine l_x (x_alloc rfl) rfl rfl ?_
 rintro _ _ ⟨b7, rfl, rfl⟩
 refine l_nil ?_
 refine c_seq ?_
 refine c_region ?_
 refine RLa ?_
 refine RLa ?_
 refine RLo ?_
 refine l_l (light_struct rfl rfl rfl rfl) rfl rfl ?_
 refine l_x (x_alloc rfl) rfl rfl ?_
 rintro _ _ ⟨b8, rfl, rfl⟩
 refine l_x (x_storeTo (l' := cDd ⟨0, 0, s.r.pc, oN, false⟩) 0 rfl rfl rfl rfl rfl rfl (Nat.le_of_ble_eq_true rfl) rfl) rfl rfl ?_
 rintro _ _ ⟨rfl, rfl⟩
 refine c_u ?_
 refine l_nil ?_
 refine c_seq ?_
 refine c_seq ?_
 refine c_region ?_
 iterate 3 refine RL ?_
 refine RLp ?_
 refine RLp ?_
 refine RL ?_
 refine l_nil ?_
 refine c_true rfl ?_
 refine c_seq ?_
 refine c_draw [(b8, blk (cDd ⟨0, 0, s.r.pc, oN, false⟩) 40), (b4, blk (cS s) 35)] [1, 2] (.step true 0 (.step true 1 (.step false 2 (.step false 3 .done)))) rfl (by kernel_rfl) (by kernel_rfl) (fun x hx => by rcases List.mem_cons.1 hx with rfl | hx; exact m_m; obtain rfl := List.mem_singleton.1 hx; exact m_m) ?_
 refine d_loadA rfl rfl rfl rfl (srow_own (l := cS s) m_m) rfl rfl ?_
 refine d_loadA rfl rfl rfl rfl (srow_own (l := cDd ⟨0, 0, s.r.pc, oN, false⟩) m_m) rfl rfl ?_
 refine d_x rfl (x_storeTo (l' := cS s) 2 rfl rfl rfl rfl rfl rfl (Nat.le_of_ble_eq_true rfl) rfl) rfl rfl (by first | (intro h; cases h; done) | (intro _ _ _ hK; obtain ⟨rfl, rfl⟩ := hK; exact (fun x hx => by rcases List.mem_cons.1 hx with rfl | hx; exact m_m; obtain rfl := List.mem_singleton.1 hx; exact m_m))) ?_
 rintro _ _ ⟨rfl, rfl⟩
 refine c_u ?_
 refine d_x rfl (x_storeTo (l' := cDd ⟨0, 0, s.r.pc, oN, false⟩) 1 rfl rfl rfl rfl rfl rfl (Nat.le_of_ble_eq_true rfl) rfl) rfl rfl (by first | (intro h; cases h; done) | (intro _ _ _ hK; obtain ⟨rfl, rfl⟩ := hK; exact (fun x hx => by rcases List.mem_cons.1 hx with rfl | hx; exact m_m; obtain rfl := List.mem_singleton.1 hx; exact m_m))) ?_
 rintro _ _ ⟨rfl, rfl⟩
 refine c_u ?_
 refine d_nil ?_
 refine c_ret ?_
 exact l_end0 (fun w hw => rets_cc rfl rfl rfl (row_own (b := b6) (l := cS s) m_m w hw) rfl rfl rfl (row_own (b := b7) (l := cDd ⟨0, 0, s.r.pc, oN, false⟩) m_m w hw)) ⟨rfl, rfl⟩

theorem step1_fn (s : CS) (tb : Nat) (w : World) : Does Try.prog 10 [.pointer (some ⟨tb, 0, none⟩), .agg (cS s).toArray, .nilIface] w [] (fun v H => H = [] ∧ v = .tuple #[.agg (cS s).toArray, .agg (cDd ⟨0, 0, s.r.pc, oN, false⟩).toArray]) := by
 refine does_of Try.func10 rfl rfl rfl (St.refl w) ?_
 refine c_seq ?_
 refine c_region ?_
 refine l_x (x_box (l := cS s) rfl rfl) rfl rfl ?_
 rintro _ _ ⟨b4, rfl, rfl⟩
 refine l_x (x_alloc rfl) rfl rfl ?_
 rintro _ _ ⟨b6, rfl, rfl⟩
 refine l_x (x_alloc rfl) rfl rfl ?_
 rintro _ _ ⟨b7, rfl, rfl⟩
 refine l_nil ?_
 refine c_seq ?_
 refine c_region ?_
 refine RLa ?_
 refine RLa ?_
 refine RLo ?_
 refine l_l (light_struct rfl rfl rfl rfl) rfl rfl ?_
 refine l_x (x_alloc rfl) rfl rfl ?_
 rintro _ _ ⟨b8, rfl, rfl⟩
 refine l_x (x_storeTo (l' := cDd ⟨0, 0, s.r.pc, oN, false⟩) 0 rfl rfl rfl rfl rfl rfl (Nat.le_of_ble_eq_true rfl) rfl) rfl rfl ?_
 rintro _ _ ⟨rfl, rfl⟩
 refine c_u ?_
 refine l_nil ?_
 refine c_seq ?_
 refine c_seq ?_
 refine c_region ?_
 iterate 6 refine RL ?_
 refine l_nil ?_
 refine c_true rfl ?_
 refine c_seq ?_
 refine c_draw [(b8, blk (cDd ⟨0, 0, s.r.pc, oN, false⟩) 40), (b4, blk (cS s) 35)] [1, 2] (.step true 0 (.step true 1 (.step false 2 (.step false 3 .done)))) rfl (by kernel_rfl) (by kernel_rfl) (fun x hx => by rcases List.mem_cons.1 hx with rfl | hx; exact m_m; obtain rfl := List.mem_singleton.1 hx; exact m_m) ?_
 refine d_loadA rfl rfl rfl rfl (srow_own (l := cS s) m_m) rfl rfl ?_
 refine d_loadA rfl rfl rfl rfl (srow_own (l := cDd ⟨0, 0, s.r.pc, oN, false⟩) m_m) rfl rfl ?_
 refine d_x rfl (x_storeTo (l' := cS s) 2 rfl rfl rfl rfl rfl rfl (Nat.le_of_ble_eq_true rfl) rfl) rfl rfl (by first | (intro h; cases h; done) | (intro _ _ _ hK; obtain ⟨rfl, rfl⟩ := hK; exact (fun x hx => by rcases List.mem_cons.1 hx with rfl | hx; exact m_m; obtain rfl := List.mem_singleton.1 hx; exact m_m))) ?_
 rintro _ _ ⟨rfl, rfl⟩
 refine c_u ?_
 refine d_x rfl (x_storeTo (l' := cDd ⟨0, 0, s.r.pc, oN, false⟩) 1 rfl rfl rfl rfl rfl rfl (Nat.le_of_ble_eq_true rfl) rfl) rfl rfl (by first | (intro h; cases h; done) | (intro _ _ _ hK; obtain ⟨rfl, rfl⟩ := hK; exact (fun x hx => by rcases List.mem_cons.1 hx with rfl | hx; exact m_m; obtain rfl := List.mem_singleton.1 hx; exact m_m))) ?_
 rintro _ _ ⟨rfl, rfl⟩
 refine c_u ?_
 refine d_nil ?_
 refine c_ret ?_
 exact l_end0 (fun w hw => rets_cc rfl rfl rfl (row_own (b := b6) (l := cS s) m_m w hw) rfl rfl rfl (row_own (b := b7) (l := cDd ⟨0, 0, s.r.pc, oN, false⟩) m_m w hw)) ⟨rfl, rfl⟩

theorem patch_next {c : List Int} {L : List Ac} {i : Nat} {e : Ac} (h : L[i]? = some e) : patch c (L.take (i + 1)) = if rdB e then (patch c (L.take i)).set e.addr.toNat e.val else patch c (L.take i) := by
 rw [List.take_add_one, h]; exact patch_snoc _ _ _

set_option maxHeartbeats 8000000 in
theorem nil_fn (s : CS) (hs : s.r.Ok) (l1 : List Int) (hb1 : Byts l1) (a1 : Option Addr) (c1 : Nat) (l2 : List Int) (hb2 : Byts l2) (a2 : Option Addr) (c2 : Nat) (w : World) (hN1 : Ns w .u8 a1 l1) (hN2 : Ns w .u8 a2 l2) : Does Try.prog 7 [.agg (cS s).toArray, .slice a1 l1.length c1, .slice a2 l2.length c2] w [] (fun v H => H = [] ∧ v = .bool true) := by
 have hm1 : RamOk (0 + 7) ⟨fillB l1, []⟩ := ⟨fillB_len l1, fillB_ok hb1, show 0 + (0 + 7) ≤ 1000000 by decide, fun _ h => by cases h⟩
 obtain ⟨D, Y, hDY⟩ : ∃ D Y, stepT ramA (⟨s, ⟨fillB l1, []⟩⟩ : Rn Rm) = (D, Y) := ⟨_, _, rfl⟩
 have ok9 := step_ok (K := ramK 0 0) (n := 0) (x := ⟨s, ⟨fillB l1, []⟩⟩) ⟨hs, hm1⟩
 have cl9 := cycles_len (s := s) (m := ⟨fillB l1, []⟩) hs (fillB_ok hb1) rfl
 rw [show stepT (ramK 0 0).toBusA (⟨s, ⟨fillB l1, []⟩⟩ : Rn Rm) = (D, Y) from hDY] at ok9
 rw [hDY] at cl9
 dsimp only at ok9 cl9
 have cr9 := ok9.m.room
 refine does_of Try.func7 rfl rfl rfl (St.refl w) ?_
 refine c_seq ?_
 refine c_region ?_
 refine l_x (x_box (l := cS s) rfl rfl) rfl rfl ?_
 rintro _ _ ⟨b3, rfl, rfl⟩
 refine RL ?_
 refine l_nil ?_
 refine c_seq ?_
 refine c_seq ?_
 refine c_region ?_
 refine RLv call_8 (fun w hw => awake_fn w) ?_
 iterate 3 refine RL ?_
 refine l_l l_n rfl rfl ?_
 refine RL ?_
 refine RL ?_
 refine RLb (fun h1 => ?_) (fun h1 => ?_)
 ·have h1n := r_f h1
  iterate 3 refine RLp ?_
  refine RL ?_
  refine l_nil ?_
  refine c_true rfl ?_
  refine c_seq ?_
  refine c_region ?_
  refine RLv call_8 (fun w hw => awake_fn w) ?_
  refine RL ?_
  refine l_nil ?_
  refine c_ret ?_
  exact l_end0 (fun _ _ => rets_v rfl) ⟨rfl, rfl⟩
 ·have h1n := r_f h1
  refine RL ?_
  refine l_l l_n rfl rfl ?_
  refine RL ?_
  refine RL ?_
  refine l_nil ?_
  refine c_cond rfl (fun h2 => ?_) (fun h2 => ?_)
  ·have h2n := r_f h2
   refine c_seq ?_
   refine c_region ?_
   refine RLv call_8 (fun w hw => awake_fn w) ?_
   refine RL ?_
   refine l_nil ?_
   refine c_ret ?_
   exact l_end0 (fun _ _ => rets_v rfl) ⟨rfl, rfl⟩
  ·have h2n := r_f h2
   refine c_skip ?_
   refine c_seq ?_
   have hk1 : l1.length ≤ 2000 := by omega
   have hk2 : l2.length ≤ 2000 := by omega
   refine c_region ?_
   refine l_x (x_loadA rfl rfl rfl (row_own (l := cS s) m_m)) rfl rfl ?_
   rintro _ _ ⟨rfl, rfl⟩
   refine RLv call_9 (fun w hw => state_fn s w) ?_
   refine l_x (x_alloc rfl) rfl rfl ?_
   rintro _ _ ⟨b7, rfl, rfl⟩
   refine l_x (x_storeTo (l' := cS s) 0 rfl rfl rfl rfl rfl rfl (Nat.le_of_ble_eq_true rfl) rfl) rfl rfl ?_
   rintro _ _ ⟨rfl, rfl⟩
   refine c_u ?_
   refine l_nil ?_
   refine c_cut (σ := Nat × Nat) [8, 9, 34, 35, 36, 37, 38, 39, 40, 41, 42] (fun q => [(8, .pointer (some ⟨q.1, 0, none⟩)), (9, .pointer (some ⟨q.2, 0, none⟩))]) (fun q => (q.2, blk (cDd ⟨0, 0, s.r.pc, oN, false⟩) 40) :: (q.1, blk (cS s) 35) :: (b7, blk (cS s) 35) :: [(b3, blk (cS s) 26)]) (fun q => True) ?_ ?_
   ·refine c_draw [(b7, blk (cS s) 35)] [1, 2, 3, 4, 9, 10] (.step true 0 (.fork 1 (.step true 2 (.fork 3 (.step true 4 (.fork 5 (.step true 6 (.step true 7 (.step true 8 (.fork 9 (.step false 10 (.step false 11 (.step false 12 .done))) (.fork 10 (.step false 9 (.step false 11 (.step false 12 .done))) .stop))))) (.fork 9 (.fork 5 (.step true 6 (.step true 7 (.step true 8 (.step false 10 (.step false 11 (.step false 12 .done)))))) (.fork 10 (.step false 5 (.step true 6 (.step true 7 (.step true 8 (.step false 11 (.step false 12 .done)))))) .stop)) (.fork 10 (.fork 5 (.step true 6 (.step true 7 (.step true 8 (.step false 9 (.step false 11 (.step false 12 .done)))))) (.fork 9 (.step false 5 (.step true 6 (.step true 7 (.step true 8 (.step false 11 (.step false 12 .done)))))) .stop)) .stop)))) (.fork 9 (.fork 3 (.step true 4 (.fork 5 (.step true 6 (.step true 7 (.step true 8 (.step false 10 (.step false 11 (.step false 12 .done)))))) (.fork 10 (.step false 5 (.step true 6 (.step true 7 (.step true 8 (.step false 11 (.step false 12 .done)))))) .stop))) (.fork 10 (.step false 3 (.step true 4 (.step false 5 (.step true 6 (.step true 7 (.step true 8 (.step false 11 (.step false 12 .done)))))))) .stop)) (.fork 10 (.fork 3 (.step true 4 (.fork 5 (.step true 6 (.step true 7 (.step true 8 (.step false 9 (.step false 11 (.step false 12 .done)))))) (.fork 9 (.step false 5 (.step true 6 (.step true 7 (.step true 8 (.step false 11 (.step false 12 .done)))))) .stop))) (.fork 9 (.step false 3 (.step true 4 (.step false 5 (.step true 6 (.step true 7 (.step true 8 (.step false 11 (.step false 12 .done)))))))) .stop)) .stop)))) (.fork 9 (.fork 1 (.step true 2 (.fork 3 (.step true 4 (.fork 5 (.step true 6 (.step true 7 (.step true 8 (.step false 10 (.step false 11 (.step false 12 .done)))))) (.fork 10 (.step false 5 (.step true 6 (.step true 7 (.step true 8 (.step false 11 (.step false 12 .done)))))) .stop))) (.fork 10 (.step false 3 (.step true 4 (.step false 5 (.step true 6 (.step true 7 (.step true 8 (.step false 11 (.step false 12 .done)))))))) .stop))) (.fork 10 (.step false 1 (.step true 2 (.step false 3 (.step true 4 (.step false 5 (.step true 6 (.step true 7 (.step true 8 (.step false 11 (.step false 12 .done)))))))))) .stop)) (.fork 10 (.fork 1 (.step true 2 (.fork 3 (.step true 4 (.fork 5 (.step true 6 (.step true 7 (.step true 8 (.step false 9 (.step false 11 (.step false 12 .done)))))) (.fork 9 (.step false 5 (.step true 6 (.step true 7 (.step true 8 (.step false 11 (.step false 12 .done)))))) .stop))) (.fork 9 (.step false 3 (.step true 4 (.step false 5 (.step true 6 (.step true 7 (.step true 8 (.step false 11 (.step false 12 .done)))))))) .stop))) (.fork 9 (.step false 1 (.step true 2 (.step false 3 (.step true 4 (.step false 5 (.step true 6 (.step true 7 (.step true 8 (.step false 11 (.step false 12 .done)))))))))) .stop)) .stop)))) rfl (by kernel_rfl) (by kernel_rfl) (fun x hx => by obtain rfl := List.mem_singleton.1 hx; exact m_m) ?_
    refine d_loadA rfl rfl rfl rfl (srow_own (l := cS s) m_m) rfl rfl ?_
    refine d_fork ?_ ?_
    ·refine d_x rfl (x_make (k1 := .i64) (k2 := .i64) (el := 5) (n := 65536) (c := 65536) (a := 65536) (b := 65536) (s := 1) (z := [.int .u8 0]) ?_ ?_ ?_ ?_ ?_ ?_ ?_ ?_ ?_) ?_ ?_ ?_ ?_
     iterate 4 rfl
     ·exact Nat.le_refl _
     iterate 6 rfl
     ·exact (by first | (intro h; cases h; done) | (intro _ _ _ hK x hx; obtain ⟨_, rfl, rfl⟩ := hK; obtain rfl := List.mem_singleton.1 hx; exact .tail _ m_m))
     rintro _ _ ⟨b36, rfl, rfl⟩
     refine d_light rfl (light_struct rfl rfl rfl rfl) rfl rfl rfl ?_
     refine d_fork ?_ ?_
     ·refine d_x rfl (x_box (l := [.slice (some ⟨b36, 0, none⟩) 65536 65536, .slice none 0 0]) rfl rfl) rfl rfl (by first | (intro h; cases h; done) | (intro _ _ _ hK x hx; obtain ⟨_, rfl, rfl⟩ := hK; obtain rfl := List.mem_singleton.1 hx; exact .tail _ m_m)) ?_
      rintro _ _ ⟨b38, rfl, rfl⟩
      refine RD ?_
      refine d_fork ?_ ?_
      ·refine d_x rfl (x_val call_10 rfl (fun w hw => step0_fn s _ w)) rfl rfl n_h ?_
       rintro _ _ ⟨rfl, rfl⟩
       refine d_mv rfl (vnf_eq rfl) rfl rfl ?_
       refine RD ?_
       refine RD ?_
       refine d_fork ?_ ?_
       ·refine d_x rfl (x_alloc rfl) rfl rfl (by first | (intro h; cases h; done) | (intro _ _ _ hK x hx; obtain ⟨_, rfl, rfl⟩ := hK; obtain rfl := List.mem_singleton.1 hx; exact .tail _ m_m)) ?_
        rintro _ _ ⟨b8, rfl, rfl⟩
        refine d_x rfl (x_alloc rfl) rfl rfl (by first | (intro h; cases h; done) | (intro _ _ _ hK x hx; obtain ⟨_, rfl, rfl⟩ := hK; obtain rfl := List.mem_singleton.1 hx; exact .tail _ m_m)) ?_
        rintro _ _ ⟨b9, rfl, rfl⟩
        refine d_x rfl (x_storeTo (l' := cS s) 1 rfl rfl rfl rfl rfl rfl (Nat.le_of_ble_eq_true rfl) rfl) rfl rfl n_h ?_
        rintro _ _ ⟨rfl, rfl⟩
        refine c_u ?_
        refine d_x rfl (x_storeTo (l' := cDd ⟨0, 0, s.r.pc, oN, false⟩) 0 rfl rfl rfl rfl rfl rfl (Nat.le_of_ble_eq_true rfl) rfl) rfl rfl n_h ?_
        rintro _ _ ⟨rfl, rfl⟩
        refine c_u ?_
        refine d_nil ?_
        exact ⟨(b8, b9), trivial, .cons rfl (.cons rfl .nil), a_g, fun _ h => (St.fl [[_], [_], [_], [_], [_], [_]] [0, 1, 4, 5] rfl h).as (by simp only [List.filterMap_cons, List.filterMap_nil, List.getElem?_cons_zero, List.getElem?_cons_succ, VV.fl, List.cons_append, List.nil_append])⟩
       refine d_fork ?_ ?_
       ·refine d_x rfl (x_alloc rfl) rfl rfl (by first | (intro h; cases h; done) | (intro _ _ _ hK x hx; obtain ⟨_, rfl, rfl⟩ := hK; obtain rfl := List.mem_singleton.1 hx; exact .tail _ m_m)) ?_
        rintro _ _ ⟨b9, rfl, rfl⟩
        refine d_x rfl (x_alloc rfl) rfl rfl (by first | (intro h; cases h; done) | (intro _ _ _ hK x hx; obtain ⟨_, rfl, rfl⟩ := hK; obtain rfl := List.mem_singleton.1 hx; exact .tail _ m_m)) ?_
        rintro _ _ ⟨b8, rfl, rfl⟩
        refine d_x rfl (x_storeTo (l' := cS s) 0 rfl rfl rfl rfl rfl rfl (Nat.le_of_ble_eq_true rfl) rfl) rfl rfl n_h ?_
        rintro _ _ ⟨rfl, rfl⟩
        refine c_u ?_
        refine d_x rfl (x_storeTo (l' := cDd ⟨0, 0, s.r.pc, oN, false⟩) 1 rfl rfl rfl rfl rfl rfl (Nat.le_of_ble_eq_true rfl) rfl) rfl rfl n_h ?_
        rintro _ _ ⟨rfl, rfl⟩
        refine c_u ?_
        refine d_nil ?_
        exact ⟨(b8, b9), trivial, .cons rfl (.cons rfl .nil), a_g, fun _ h => (St.fl [[_], [_], [_], [_], [_], [_]] [1, 0, 4, 5] rfl h).as (by simp only [List.filterMap_cons, List.filterMap_nil, List.getElem?_cons_zero, List.getElem?_cons_succ, VV.fl, List.cons_append, List.nil_append])⟩
       exact d_stop
      refine d_fork ?_ ?_
      ·refine d_x rfl (x_alloc rfl) rfl rfl (by first | (intro h; cases h; done) | (intro _ _ _ hK x hx; obtain ⟨_, rfl, rfl⟩ := hK; obtain rfl := List.mem_singleton.1 hx; exact .tail _ m_m)) ?_
       rintro _ _ ⟨b8, rfl, rfl⟩
       refine d_fork ?_ ?_
       ·refine d_x rfl (x_val call_10 rfl (fun w hw => step0_fn s _ w)) rfl rfl n_h ?_
        rintro _ _ ⟨rfl, rfl⟩
        refine d_mv rfl (vnf_eq rfl) rfl rfl ?_
        refine RD ?_
        refine RD ?_
        refine d_x rfl (x_alloc rfl) rfl rfl (by first | (intro h; cases h; done) | (intro _ _ _ hK x hx; obtain ⟨_, rfl, rfl⟩ := hK; obtain rfl := List.mem_singleton.1 hx; exact .tail _ m_m)) ?_
        rintro _ _ ⟨b9, rfl, rfl⟩
        refine d_x rfl (x_storeTo (l' := cS s) 1 rfl rfl rfl rfl rfl rfl (Nat.le_of_ble_eq_true rfl) rfl) rfl rfl n_h ?_
        rintro _ _ ⟨rfl, rfl⟩
        refine c_u ?_
        refine d_x rfl (x_storeTo (l' := cDd ⟨0, 0, s.r.pc, oN, false⟩) 0 rfl rfl rfl rfl rfl rfl (Nat.le_of_ble_eq_true rfl) rfl) rfl rfl n_h ?_
        rintro _ _ ⟨rfl, rfl⟩
        refine c_u ?_
        refine d_nil ?_
        exact ⟨(b8, b9), trivial, .cons rfl (.cons rfl .nil), a_g, fun _ h => (St.fl [[_], [_], [_], [_], [_], [_]] [0, 1, 4, 5] rfl h).as (by simp only [List.filterMap_cons, List.filterMap_nil, List.getElem?_cons_zero, List.getElem?_cons_succ, VV.fl, List.cons_append, List.nil_append])⟩
       refine d_fork ?_ ?_
       ·refine d_x rfl (x_alloc rfl) rfl rfl (by first | (intro h; cases h; done) | (intro _ _ _ hK x hx; obtain ⟨_, rfl, rfl⟩ := hK; obtain rfl := List.mem_singleton.1 hx; exact .tail _ m_m)) ?_
        rintro _ _ ⟨b9, rfl, rfl⟩
        refine d_x rfl (x_val call_10 rfl (fun w hw => step0_fn s _ w)) rfl rfl n_h ?_
        rintro _ _ ⟨rfl, rfl⟩
        refine d_mv rfl (vnf_eq rfl) rfl rfl ?_
        refine RD ?_
        refine RD ?_
        refine d_x rfl (x_storeTo (l' := cS s) 1 rfl rfl rfl rfl rfl rfl (Nat.le_of_ble_eq_true rfl) rfl) rfl rfl n_h ?_
        rintro _ _ ⟨rfl, rfl⟩
        refine c_u ?_
        refine d_x rfl (x_storeTo (l' := cDd ⟨0, 0, s.r.pc, oN, false⟩) 0 rfl rfl rfl rfl rfl rfl (Nat.le_of_ble_eq_true rfl) rfl) rfl rfl n_h ?_
        rintro _ _ ⟨rfl, rfl⟩
        refine c_u ?_
        refine d_nil ?_
        exact ⟨(b8, b9), trivial, .cons rfl (.cons rfl .nil), a_g, fun _ h => (St.fl [[_], [_], [_], [_], [_], [_]] [0, 1, 4, 5] rfl h).as (by simp only [List.filterMap_cons, List.filterMap_nil, List.getElem?_cons_zero, List.getElem?_cons_succ, VV.fl, List.cons_append, List.nil_append])⟩
       exact d_stop
      refine d_fork ?_ ?_
      ·refine d_x rfl (x_alloc rfl) rfl rfl (by first | (intro h; cases h; done) | (intro _ _ _ hK x hx; obtain ⟨_, rfl, rfl⟩ := hK; obtain rfl := List.mem_singleton.1 hx; exact .tail _ m_m)) ?_
       rintro _ _ ⟨b9, rfl, rfl⟩
       refine d_fork ?_ ?_
       ·refine d_x rfl (x_val call_10 rfl (fun w hw => step0_fn s _ w)) rfl rfl n_h ?_
        rintro _ _ ⟨rfl, rfl⟩
        refine d_mv rfl (vnf_eq rfl) rfl rfl ?_
        refine RD ?_
        refine RD ?_
        refine d_x rfl (x_alloc rfl) rfl rfl (by first | (intro h; cases h; done) | (intro _ _ _ hK x hx; obtain ⟨_, rfl, rfl⟩ := hK; obtain rfl := List.mem_singleton.1 hx; exact .tail _ m_m)) ?_
        rintro _ _ ⟨b8, rfl, rfl⟩
        refine d_x rfl (x_storeTo (l' := cS s) 0 rfl rfl rfl rfl rfl rfl (Nat.le_of_ble_eq_true rfl) rfl) rfl rfl n_h ?_
        rintro _ _ ⟨rfl, rfl⟩
        refine c_u ?_
        refine d_x rfl (x_storeTo (l' := cDd ⟨0, 0, s.r.pc, oN, false⟩) 1 rfl rfl rfl rfl rfl rfl (Nat.le_of_ble_eq_true rfl) rfl) rfl rfl n_h ?_
        rintro _ _ ⟨rfl, rfl⟩
        refine c_u ?_
        refine d_nil ?_
        exact ⟨(b8, b9), trivial, .cons rfl (.cons rfl .nil), a_g, fun _ h => (St.fl [[_], [_], [_], [_], [_], [_]] [1, 0, 4, 5] rfl h).as (by simp only [List.filterMap_cons, List.filterMap_nil, List.getElem?_cons_zero, List.getElem?_cons_succ, VV.fl, List.cons_append, List.nil_append])⟩
       refine d_fork ?_ ?_
       ·refine d_x rfl (x_alloc rfl) rfl rfl (by first | (intro h; cases h; done) | (intro _ _ _ hK x hx; obtain ⟨_, rfl, rfl⟩ := hK; obtain rfl := List.mem_singleton.1 hx; exact .tail _ m_m)) ?_
        rintro _ _ ⟨b8, rfl, rfl⟩
        refine d_x rfl (x_val call_10 rfl (fun w hw => step0_fn s _ w)) rfl rfl n_h ?_
        rintro _ _ ⟨rfl, rfl⟩
        refine d_mv rfl (vnf_eq rfl) rfl rfl ?_
        refine RD ?_
        refine RD ?_
        refine d_x rfl (x_storeTo (l' := cS s) 0 rfl rfl rfl rfl rfl rfl (Nat.le_of_ble_eq_true rfl) rfl) rfl rfl n_h ?_
        rintro _ _ ⟨rfl, rfl⟩
        refine c_u ?_
        refine d_x rfl (x_storeTo (l' := cDd ⟨0, 0, s.r.pc, oN, false⟩) 1 rfl rfl rfl rfl rfl rfl (Nat.le_of_ble_eq_true rfl) rfl) rfl rfl n_h ?_
        rintro _ _ ⟨rfl, rfl⟩
        refine c_u ?_
        refine d_nil ?_
        exact ⟨(b8, b9), trivial, .cons rfl (.cons rfl .nil), a_g, fun _ h => (St.fl [[_], [_], [_], [_], [_], [_]] [1, 0, 4, 5] rfl h).as (by simp only [List.filterMap_cons, List.filterMap_nil, List.getElem?_cons_zero, List.getElem?_cons_succ, VV.fl, List.cons_append, List.nil_append])⟩
       exact d_stop
      exact d_stop
     refine d_fork ?_ ?_
     ·refine d_x rfl (x_alloc rfl) rfl rfl (by first | (intro h; cases h; done) | (intro _ _ _ hK x hx; obtain ⟨_, rfl, rfl⟩ := hK; obtain rfl := List.mem_singleton.1 hx; exact .tail _ m_m)) ?_
      rintro _ _ ⟨b8, rfl, rfl⟩
      refine d_fork ?_ ?_
      ·refine d_x rfl (x_box (l := [.slice (some ⟨b36, 0, none⟩) 65536 65536, .slice none 0 0]) rfl rfl) rfl rfl (by first | (intro h; cases h; done) | (intro _ _ _ hK x hx; obtain ⟨_, rfl, rfl⟩ := hK; obtain rfl := List.mem_singleton.1 hx; exact .tail _ m_m)) ?_
       rintro _ _ ⟨b38, rfl, rfl⟩
       refine RD ?_
       refine d_fork ?_ ?_
       ·refine d_x rfl (x_val call_10 rfl (fun w hw => step0_fn s _ w)) rfl rfl n_h ?_
        rintro _ _ ⟨rfl, rfl⟩
        refine d_mv rfl (vnf_eq rfl) rfl rfl ?_
        refine RD ?_
        refine RD ?_
        refine d_x rfl (x_alloc rfl) rfl rfl (by first | (intro h; cases h; done) | (intro _ _ _ hK x hx; obtain ⟨_, rfl, rfl⟩ := hK; obtain rfl := List.mem_singleton.1 hx; exact .tail _ m_m)) ?_
        rintro _ _ ⟨b9, rfl, rfl⟩
        refine d_x rfl (x_storeTo (l' := cS s) 2 rfl rfl rfl rfl rfl rfl (Nat.le_of_ble_eq_true rfl) rfl) rfl rfl n_h ?_
        rintro _ _ ⟨rfl, rfl⟩
        refine c_u ?_
        refine d_x rfl (x_storeTo (l' := cDd ⟨0, 0, s.r.pc, oN, false⟩) 0 rfl rfl rfl rfl rfl rfl (Nat.le_of_ble_eq_true rfl) rfl) rfl rfl n_h ?_
        rintro _ _ ⟨rfl, rfl⟩
        refine c_u ?_
        refine d_nil ?_
        exact ⟨(b8, b9), trivial, .cons rfl (.cons rfl .nil), a_g, fun _ h => (St.fl [[_], [_], [_], [_], [_], [_]] [0, 2, 4, 5] rfl h).as (by simp only [List.filterMap_cons, List.filterMap_nil, List.getElem?_cons_zero, List.getElem?_cons_succ, VV.fl, List.cons_append, List.nil_append])⟩
       refine d_fork ?_ ?_
       ·refine d_x rfl (x_alloc rfl) rfl rfl (by first | (intro h; cases h; done) | (intro _ _ _ hK x hx; obtain ⟨_, rfl, rfl⟩ := hK; obtain rfl := List.mem_singleton.1 hx; exact .tail _ m_m)) ?_
        rintro _ _ ⟨b9, rfl, rfl⟩
        refine d_x rfl (x_val call_10 rfl (fun w hw => step0_fn s _ w)) rfl rfl n_h ?_
        rintro _ _ ⟨rfl, rfl⟩
        refine d_mv rfl (vnf_eq rfl) rfl rfl ?_
        refine RD ?_
        refine RD ?_
        refine d_x rfl (x_storeTo (l' := cS s) 2 rfl rfl rfl rfl rfl rfl (Nat.le_of_ble_eq_true rfl) rfl) rfl rfl n_h ?_
        rintro _ _ ⟨rfl, rfl⟩
        refine c_u ?_
        refine d_x rfl (x_storeTo (l' := cDd ⟨0, 0, s.r.pc, oN, false⟩) 0 rfl rfl rfl rfl rfl rfl (Nat.le_of_ble_eq_true rfl) rfl) rfl rfl n_h ?_
        rintro _ _ ⟨rfl, rfl⟩
        refine c_u ?_
        refine d_nil ?_
        exact ⟨(b8, b9), trivial, .cons rfl (.cons rfl .nil), a_g, fun _ h => (St.fl [[_], [_], [_], [_], [_], [_]] [0, 2, 4, 5] rfl h).as (by simp only [List.filterMap_cons, List.filterMap_nil, List.getElem?_cons_zero, List.getElem?_cons_succ, VV.fl, List.cons_append, List.nil_append])⟩
       exact d_stop
      refine d_fork ?_ ?_
      ·refine d_x rfl (x_alloc rfl) rfl rfl (by first | (intro h; cases h; done) | (intro _ _ _ hK x hx; obtain ⟨_, rfl, rfl⟩ := hK; obtain rfl := List.mem_singleton.1 hx; exact .tail _ m_m)) ?_
       rintro _ _ ⟨b9, rfl, rfl⟩
       refine d_x rfl (x_box (l := [.slice (some ⟨b36, 0, none⟩) 65536 65536, .slice none 0 0]) rfl rfl) rfl rfl (by first | (intro h; cases h; done) | (intro _ _ _ hK x hx; obtain ⟨_, rfl, rfl⟩ := hK; obtain rfl := List.mem_singleton.1 hx; exact .tail _ m_m)) ?_
       rintro _ _ ⟨b38, rfl, rfl⟩
       refine RD ?_
       refine d_x rfl (x_val call_10 rfl (fun w hw => step0_fn s _ w)) rfl rfl n_h ?_
       rintro _ _ ⟨rfl, rfl⟩
       refine d_mv rfl (vnf_eq rfl) rfl rfl ?_
       refine RD ?_
       refine RD ?_
       refine d_x rfl (x_storeTo (l' := cS s) 2 rfl rfl rfl rfl rfl rfl (Nat.le_of_ble_eq_true rfl) rfl) rfl rfl n_h ?_
       rintro _ _ ⟨rfl, rfl⟩
       refine c_u ?_
       refine d_x rfl (x_storeTo (l' := cDd ⟨0, 0, s.r.pc, oN, false⟩) 1 rfl rfl rfl rfl rfl rfl (Nat.le_of_ble_eq_true rfl) rfl) rfl rfl n_h ?_
       rintro _ _ ⟨rfl, rfl⟩
       refine c_u ?_
       refine d_nil ?_
       exact ⟨(b8, b9), trivial, .cons rfl (.cons rfl .nil), a_g, fun _ h => (St.fl [[_], [_], [_], [_], [_], [_]] [1, 2, 4, 5] rfl h).as (by simp only [List.filterMap_cons, List.filterMap_nil, List.getElem?_cons_zero, List.getElem?_cons_succ, VV.fl, List.cons_append, List.nil_append])⟩
      exact d_stop
     refine d_fork ?_ ?_
     ·refine d_x rfl (x_alloc rfl) rfl rfl (by first | (intro h; cases h; done) | (intro _ _ _ hK x hx; obtain ⟨_, rfl, rfl⟩ := hK; obtain rfl := List.mem_singleton.1 hx; exact .tail _ m_m)) ?_
      rintro _ _ ⟨b9, rfl, rfl⟩
      refine d_fork ?_ ?_
      ·refine d_x rfl (x_box (l := [.slice (some ⟨b36, 0, none⟩) 65536 65536, .slice none 0 0]) rfl rfl) rfl rfl (by first | (intro h; cases h; done) | (intro _ _ _ hK x hx; obtain ⟨_, rfl, rfl⟩ := hK; obtain rfl := List.mem_singleton.1 hx; exact .tail _ m_m)) ?_
       rintro _ _ ⟨b38, rfl, rfl⟩
       refine RD ?_
       refine d_fork ?_ ?_
       ·refine d_x rfl (x_val call_10 rfl (fun w hw => step0_fn s _ w)) rfl rfl n_h ?_
        rintro _ _ ⟨rfl, rfl⟩
        refine d_mv rfl (vnf_eq rfl) rfl rfl ?_
        refine RD ?_
        refine RD ?_
        refine d_x rfl (x_alloc rfl) rfl rfl (by first | (intro h; cases h; done) | (intro _ _ _ hK x hx; obtain ⟨_, rfl, rfl⟩ := hK; obtain rfl := List.mem_singleton.1 hx; exact .tail _ m_m)) ?_
        rintro _ _ ⟨b8, rfl, rfl⟩
        refine d_x rfl (x_storeTo (l' := cS s) 0 rfl rfl rfl rfl rfl rfl (Nat.le_of_ble_eq_true rfl) rfl) rfl rfl n_h ?_
        rintro _ _ ⟨rfl, rfl⟩
        refine c_u ?_
        refine d_x rfl (x_storeTo (l' := cDd ⟨0, 0, s.r.pc, oN, false⟩) 2 rfl rfl rfl rfl rfl rfl (Nat.le_of_ble_eq_true rfl) rfl) rfl rfl n_h ?_
        rintro _ _ ⟨rfl, rfl⟩
        refine c_u ?_
        refine d_nil ?_
        exact ⟨(b8, b9), trivial, .cons rfl (.cons rfl .nil), a_g, fun _ h => (St.fl [[_], [_], [_], [_], [_], [_]] [2, 0, 4, 5] rfl h).as (by simp only [List.filterMap_cons, List.filterMap_nil, List.getElem?_cons_zero, List.getElem?_cons_succ, VV.fl, List.cons_append, List.nil_append])⟩
       refine d_fork ?_ ?_
       ·refine d_x rfl (x_alloc rfl) rfl rfl (by first | (intro h; cases h; done) | (intro _ _ _ hK x hx; obtain ⟨_, rfl, rfl⟩ := hK; obtain rfl := List.mem_singleton.1 hx; exact .tail _ m_m)) ?_
        rintro _ _ ⟨b8, rfl, rfl⟩
        refine d_x rfl (x_val call_10 rfl (fun w hw => step0_fn s _ w)) rfl rfl n_h ?_
        rintro _ _ ⟨rfl, rfl⟩
        refine d_mv rfl (vnf_eq rfl) rfl rfl ?_
        refine RD ?_
        refine RD ?_
        refine d_x rfl (x_storeTo (l' := cS s) 0 rfl rfl rfl rfl rfl rfl (Nat.le_of_ble_eq_true rfl) rfl) rfl rfl n_h ?_
        rintro _ _ ⟨rfl, rfl⟩
        refine c_u ?_
        refine d_x rfl (x_storeTo (l' := cDd ⟨0, 0, s.r.pc, oN, false⟩) 2 rfl rfl rfl rfl rfl rfl (Nat.le_of_ble_eq_true rfl) rfl) rfl rfl n_h ?_
        rintro _ _ ⟨rfl, rfl⟩
        refine c_u ?_
        refine d_nil ?_
        exact ⟨(b8, b9), trivial, .cons rfl (.cons rfl .nil), a_g, fun _ h => (St.fl [[_], [_], [_], [_], [_], [_]] [2, 0, 4, 5] rfl h).as (by simp only [List.filterMap_cons, List.filterMap_nil, List.getElem?_cons_zero, List.getElem?_cons_succ, VV.fl, List.cons_append, List.nil_append])⟩
       exact d_stop
      refine d_fork ?_ ?_
      ·refine d_x rfl (x_alloc rfl) rfl rfl (by first | (intro h; cases h; done) | (intro _ _ _ hK x hx; obtain ⟨_, rfl, rfl⟩ := hK; obtain rfl := List.mem_singleton.1 hx; exact .tail _ m_m)) ?_
       rintro _ _ ⟨b8, rfl, rfl⟩
       refine d_x rfl (x_box (l := [.slice (some ⟨b36, 0, none⟩) 65536 65536, .slice none 0 0]) rfl rfl) rfl rfl (by first | (intro h; cases h; done) | (intro _ _ _ hK x hx; obtain ⟨_, rfl, rfl⟩ := hK; obtain rfl := List.mem_singleton.1 hx; exact .tail _ m_m)) ?_
       rintro _ _ ⟨b38, rfl, rfl⟩
       refine RD ?_
       refine d_x rfl (x_val call_10 rfl (fun w hw => step0_fn s _ w)) rfl rfl n_h ?_
       rintro _ _ ⟨rfl, rfl⟩
       refine d_mv rfl (vnf_eq rfl) rfl rfl ?_
       refine RD ?_
       refine RD ?_
       refine d_x rfl (x_storeTo (l' := cS s) 1 rfl rfl rfl rfl rfl rfl (Nat.le_of_ble_eq_true rfl) rfl) rfl rfl n_h ?_
       rintro _ _ ⟨rfl, rfl⟩
       refine c_u ?_
       refine d_x rfl (x_storeTo (l' := cDd ⟨0, 0, s.r.pc, oN, false⟩) 2 rfl rfl rfl rfl rfl rfl (Nat.le_of_ble_eq_true rfl) rfl) rfl rfl n_h ?_
       rintro _ _ ⟨rfl, rfl⟩
       refine c_u ?_
       refine d_nil ?_
       exact ⟨(b8, b9), trivial, .cons rfl (.cons rfl .nil), a_g, fun _ h => (St.fl [[_], [_], [_], [_], [_], [_]] [2, 1, 4, 5] rfl h).as (by simp only [List.filterMap_cons, List.filterMap_nil, List.getElem?_cons_zero, List.getElem?_cons_succ, VV.fl, List.cons_append, List.nil_append])⟩
      exact d_stop
     exact d_stop
    refine d_fork ?_ ?_
    ·refine d_x rfl (x_alloc rfl) rfl rfl (by first | (intro h; cases h; done) | (intro _ _ _ hK x hx; obtain ⟨_, rfl, rfl⟩ := hK; obtain rfl := List.mem_singleton.1 hx; exact .tail _ m_m)) ?_
     rintro _ _ ⟨b8, rfl, rfl⟩
     refine d_fork ?_ ?_
     ·refine d_x rfl (x_make (k1 := .i64) (k2 := .i64) (el := 5) (n := 65536) (c := 65536) (a := 65536) (b := 65536) (s := 1) (z := [.int .u8 0]) ?_ ?_ ?_ ?_ ?_ ?_ ?_ ?_ ?_) ?_ ?_ ?_ ?_
      iterate 4 rfl
      ·exact Nat.le_refl _
      iterate 6 rfl
      ·exact (by first | (intro h; cases h; done) | (intro _ _ _ hK x hx; obtain ⟨_, rfl, rfl⟩ := hK; obtain rfl := List.mem_singleton.1 hx; exact .tail _ m_m))
      rintro _ _ ⟨b36, rfl, rfl⟩
      refine d_light rfl (light_struct rfl rfl rfl rfl) rfl rfl rfl ?_
      refine d_fork ?_ ?_
      ·refine d_x rfl (x_box (l := [.slice (some ⟨b36, 0, none⟩) 65536 65536, .slice none 0 0]) rfl rfl) rfl rfl (by first | (intro h; cases h; done) | (intro _ _ _ hK x hx; obtain ⟨_, rfl, rfl⟩ := hK; obtain rfl := List.mem_singleton.1 hx; exact .tail _ m_m)) ?_
       rintro _ _ ⟨b38, rfl, rfl⟩
       refine RD ?_
       refine d_fork ?_ ?_
       ·refine d_x rfl (x_val call_10 rfl (fun w hw => step0_fn s _ w)) rfl rfl n_h ?_
        rintro _ _ ⟨rfl, rfl⟩
        refine d_mv rfl (vnf_eq rfl) rfl rfl ?_
        refine RD ?_
        refine RD ?_
        refine d_x rfl (x_alloc rfl) rfl rfl (by first | (intro h; cases h; done) | (intro _ _ _ hK x hx; obtain ⟨_, rfl, rfl⟩ := hK; obtain rfl := List.mem_singleton.1 hx; exact .tail _ m_m)) ?_
        rintro _ _ ⟨b9, rfl, rfl⟩
        refine d_x rfl (x_storeTo (l' := cS s) 3 rfl rfl rfl rfl rfl rfl (Nat.le_of_ble_eq_true rfl) rfl) rfl rfl n_h ?_
        rintro _ _ ⟨rfl, rfl⟩
        refine c_u ?_
        refine d_x rfl (x_storeTo (l' := cDd ⟨0, 0, s.r.pc, oN, false⟩) 0 rfl rfl rfl rfl rfl rfl (Nat.le_of_ble_eq_true rfl) rfl) rfl rfl n_h ?_
        rintro _ _ ⟨rfl, rfl⟩
        refine c_u ?_
        refine d_nil ?_
        exact ⟨(b8, b9), trivial, .cons rfl (.cons rfl .nil), a_g, fun _ h => (St.fl [[_], [_], [_], [_], [_], [_]] [0, 3, 4, 5] rfl h).as (by simp only [List.filterMap_cons, List.filterMap_nil, List.getElem?_cons_zero, List.getElem?_cons_succ, VV.fl, List.cons_append, List.nil_append])⟩
       refine d_fork ?_ ?_
       ·refine d_x rfl (x_alloc rfl) rfl rfl (by first | (intro h; cases h; done) | (intro _ _ _ hK x hx; obtain ⟨_, rfl, rfl⟩ := hK; obtain rfl := List.mem_singleton.1 hx; exact .tail _ m_m)) ?_
        rintro _ _ ⟨b9, rfl, rfl⟩
        refine d_x rfl (x_val call_10 rfl (fun w hw => step0_fn s _ w)) rfl rfl n_h ?_
        rintro _ _ ⟨rfl, rfl⟩
        refine d_mv rfl (vnf_eq rfl) rfl rfl ?_
        refine RD ?_
        refine RD ?_
        refine d_x rfl (x_storeTo (l' := cS s) 3 rfl rfl rfl rfl rfl rfl (Nat.le_of_ble_eq_true rfl) rfl) rfl rfl n_h ?_
        rintro _ _ ⟨rfl, rfl⟩
        refine c_u ?_
        refine d_x rfl (x_storeTo (l' := cDd ⟨0, 0, s.r.pc, oN, false⟩) 0 rfl rfl rfl rfl rfl rfl (Nat.le_of_ble_eq_true rfl) rfl) rfl rfl n_h ?_
        rintro _ _ ⟨rfl, rfl⟩
        refine c_u ?_
        refine d_nil ?_
        exact ⟨(b8, b9), trivial, .cons rfl (.cons rfl .nil), a_g, fun _ h => (St.fl [[_], [_], [_], [_], [_], [_]] [0, 3, 4, 5] rfl h).as (by simp only [List.filterMap_cons, List.filterMap_nil, List.getElem?_cons_zero, List.getElem?_cons_succ, VV.fl, List.cons_append, List.nil_append])⟩
       exact d_stop
      refine d_fork ?_ ?_
      ·refine d_x rfl (x_alloc rfl) rfl rfl (by first | (intro h; cases h; done) | (intro _ _ _ hK x hx; obtain ⟨_, rfl, rfl⟩ := hK; obtain rfl := List.mem_singleton.1 hx; exact .tail _ m_m)) ?_
       rintro _ _ ⟨b9, rfl, rfl⟩
       refine d_x rfl (x_box (l := [.slice (some ⟨b36, 0, none⟩) 65536 65536, .slice none 0 0]) rfl rfl) rfl rfl (by first | (intro h; cases h; done) | (intro _ _ _ hK x hx; obtain ⟨_, rfl, rfl⟩ := hK; obtain rfl := List.mem_singleton.1 hx; exact .tail _ m_m)) ?_
       rintro _ _ ⟨b38, rfl, rfl⟩
       refine RD ?_
       refine d_x rfl (x_val call_10 rfl (fun w hw => step0_fn s _ w)) rfl rfl n_h ?_
       rintro _ _ ⟨rfl, rfl⟩
       refine d_mv rfl (vnf_eq rfl) rfl rfl ?_
       refine RD ?_
       refine RD ?_
       refine d_x rfl (x_storeTo (l' := cS s) 3 rfl rfl rfl rfl rfl rfl (Nat.le_of_ble_eq_true rfl) rfl) rfl rfl n_h ?_
       rintro _ _ ⟨rfl, rfl⟩
       refine c_u ?_
       refine d_x rfl (x_storeTo (l' := cDd ⟨0, 0, s.r.pc, oN, false⟩) 1 rfl rfl rfl rfl rfl rfl (Nat.le_of_ble_eq_true rfl) rfl) rfl rfl n_h ?_
       rintro _ _ ⟨rfl, rfl⟩
       refine c_u ?_
       refine d_nil ?_
       exact ⟨(b8, b9), trivial, .cons rfl (.cons rfl .nil), a_g, fun _ h => (St.fl [[_], [_], [_], [_], [_], [_]] [1, 3, 4, 5] rfl h).as (by simp only [List.filterMap_cons, List.filterMap_nil, List.getElem?_cons_zero, List.getElem?_cons_succ, VV.fl, List.cons_append, List.nil_append])⟩
      exact d_stop
     refine d_fork ?_ ?_
     ·refine d_x rfl (x_alloc rfl) rfl rfl (by first | (intro h; cases h; done) | (intro _ _ _ hK x hx; obtain ⟨_, rfl, rfl⟩ := hK; obtain rfl := List.mem_singleton.1 hx; exact .tail _ m_m)) ?_
      rintro _ _ ⟨b9, rfl, rfl⟩
      refine d_x rfl (x_make (k1 := .i64) (k2 := .i64) (el := 5) (n := 65536) (c := 65536) (a := 65536) (b := 65536) (s := 1) (z := [.int .u8 0]) ?_ ?_ ?_ ?_ ?_ ?_ ?_ ?_ ?_) ?_ ?_ ?_ ?_
      iterate 4 rfl
      ·exact Nat.le_refl _
      iterate 6 rfl
      ·exact (by first | (intro h; cases h; done) | (intro _ _ _ hK x hx; obtain ⟨_, rfl, rfl⟩ := hK; obtain rfl := List.mem_singleton.1 hx; exact .tail _ m_m))
      rintro _ _ ⟨b36, rfl, rfl⟩
      refine d_light rfl (light_struct rfl rfl rfl rfl) rfl rfl rfl ?_
      refine d_x rfl (x_box (l := [.slice (some ⟨b36, 0, none⟩) 65536 65536, .slice none 0 0]) rfl rfl) rfl rfl (by first | (intro h; cases h; done) | (intro _ _ _ hK x hx; obtain ⟨_, rfl, rfl⟩ := hK; obtain rfl := List.mem_singleton.1 hx; exact .tail _ m_m)) ?_
      rintro _ _ ⟨b38, rfl, rfl⟩
      refine RD ?_
      refine d_x rfl (x_val call_10 rfl (fun w hw => step0_fn s _ w)) rfl rfl n_h ?_
      rintro _ _ ⟨rfl, rfl⟩
      refine d_mv rfl (vnf_eq rfl) rfl rfl ?_
      refine RD ?_
      refine RD ?_
      refine d_x rfl (x_storeTo (l' := cS s) 3 rfl rfl rfl rfl rfl rfl (Nat.le_of_ble_eq_true rfl) rfl) rfl rfl n_h ?_
      rintro _ _ ⟨rfl, rfl⟩
      refine c_u ?_
      refine d_x rfl (x_storeTo (l' := cDd ⟨0, 0, s.r.pc, oN, false⟩) 2 rfl rfl rfl rfl rfl rfl (Nat.le_of_ble_eq_true rfl) rfl) rfl rfl n_h ?_
      rintro _ _ ⟨rfl, rfl⟩
      refine c_u ?_
      refine d_nil ?_
      exact ⟨(b8, b9), trivial, .cons rfl (.cons rfl .nil), a_g, fun _ h => (St.fl [[_], [_], [_], [_], [_], [_]] [2, 3, 4, 5] rfl h).as (by simp only [List.filterMap_cons, List.filterMap_nil, List.getElem?_cons_zero, List.getElem?_cons_succ, VV.fl, List.cons_append, List.nil_append])⟩
     exact d_stop
    refine d_fork ?_ ?_
    ·refine d_x rfl (x_alloc rfl) rfl rfl (by first | (intro h; cases h; done) | (intro _ _ _ hK x hx; obtain ⟨_, rfl, rfl⟩ := hK; obtain rfl := List.mem_singleton.1 hx; exact .tail _ m_m)) ?_
     rintro _ _ ⟨b9, rfl, rfl⟩
     refine d_fork ?_ ?_
     ·refine d_x rfl (x_make (k1 := .i64) (k2 := .i64) (el := 5) (n := 65536) (c := 65536) (a := 65536) (b := 65536) (s := 1) (z := [.int .u8 0]) ?_ ?_ ?_ ?_ ?_ ?_ ?_ ?_ ?_) ?_ ?_ ?_ ?_
      iterate 4 rfl
      ·exact Nat.le_refl _
      iterate 6 rfl
      ·exact (by first | (intro h; cases h; done) | (intro _ _ _ hK x hx; obtain ⟨_, rfl, rfl⟩ := hK; obtain rfl := List.mem_singleton.1 hx; exact .tail _ m_m))
      rintro _ _ ⟨b36, rfl, rfl⟩
      refine d_light rfl (light_struct rfl rfl rfl rfl) rfl rfl rfl ?_
      refine d_fork ?_ ?_
      ·refine d_x rfl (x_box (l := [.slice (some ⟨b36, 0, none⟩) 65536 65536, .slice none 0 0]) rfl rfl) rfl rfl (by first | (intro h; cases h; done) | (intro _ _ _ hK x hx; obtain ⟨_, rfl, rfl⟩ := hK; obtain rfl := List.mem_singleton.1 hx; exact .tail _ m_m)) ?_
       rintro _ _ ⟨b38, rfl, rfl⟩
       refine RD ?_
       refine d_fork ?_ ?_
       ·refine d_x rfl (x_val call_10 rfl (fun w hw => step0_fn s _ w)) rfl rfl n_h ?_
        rintro _ _ ⟨rfl, rfl⟩
        refine d_mv rfl (vnf_eq rfl) rfl rfl ?_
        refine RD ?_
        refine RD ?_
        refine d_x rfl (x_alloc rfl) rfl rfl (by first | (intro h; cases h; done) | (intro _ _ _ hK x hx; obtain ⟨_, rfl, rfl⟩ := hK; obtain rfl := List.mem_singleton.1 hx; exact .tail _ m_m)) ?_
        rintro _ _ ⟨b8, rfl, rfl⟩
        refine d_x rfl (x_storeTo (l' := cS s) 0 rfl rfl rfl rfl rfl rfl (Nat.le_of_ble_eq_true rfl) rfl) rfl rfl n_h ?_
        rintro _ _ ⟨rfl, rfl⟩
        refine c_u ?_
        refine d_x rfl (x_storeTo (l' := cDd ⟨0, 0, s.r.pc, oN, false⟩) 3 rfl rfl rfl rfl rfl rfl (Nat.le_of_ble_eq_true rfl) rfl) rfl rfl n_h ?_
        rintro _ _ ⟨rfl, rfl⟩
        refine c_u ?_
        refine d_nil ?_
        exact ⟨(b8, b9), trivial, .cons rfl (.cons rfl .nil), a_g, fun _ h => (St.fl [[_], [_], [_], [_], [_], [_]] [3, 0, 4, 5] rfl h).as (by simp only [List.filterMap_cons, List.filterMap_nil, List.getElem?_cons_zero, List.getElem?_cons_succ, VV.fl, List.cons_append, List.nil_append])⟩
       refine d_fork ?_ ?_
       ·refine d_x rfl (x_alloc rfl) rfl rfl (by first | (intro h; cases h; done) | (intro _ _ _ hK x hx; obtain ⟨_, rfl, rfl⟩ := hK; obtain rfl := List.mem_singleton.1 hx; exact .tail _ m_m)) ?_
        rintro _ _ ⟨b8, rfl, rfl⟩
        refine d_x rfl (x_val call_10 rfl (fun w hw => step0_fn s _ w)) rfl rfl n_h ?_
        rintro _ _ ⟨rfl, rfl⟩
        refine d_mv rfl (vnf_eq rfl) rfl rfl ?_
        refine RD ?_
        refine RD ?_
        refine d_x rfl (x_storeTo (l' := cS s) 0 rfl rfl rfl rfl rfl rfl (Nat.le_of_ble_eq_true rfl) rfl) rfl rfl n_h ?_
        rintro _ _ ⟨rfl, rfl⟩
        refine c_u ?_
        refine d_x rfl (x_storeTo (l' := cDd ⟨0, 0, s.r.pc, oN, false⟩) 3 rfl rfl rfl rfl rfl rfl (Nat.le_of_ble_eq_true rfl) rfl) rfl rfl n_h ?_
        rintro _ _ ⟨rfl, rfl⟩
        refine c_u ?_
        refine d_nil ?_
        exact ⟨(b8, b9), trivial, .cons rfl (.cons rfl .nil), a_g, fun _ h => (St.fl [[_], [_], [_], [_], [_], [_]] [3, 0, 4, 5] rfl h).as (by simp only [List.filterMap_cons, List.filterMap_nil, List.getElem?_cons_zero, List.getElem?_cons_succ, VV.fl, List.cons_append, List.nil_append])⟩
       exact d_stop
      refine d_fork ?_ ?_
      ·refine d_x rfl (x_alloc rfl) rfl rfl (by first | (intro h; cases h; done) | (intro _ _ _ hK x hx; obtain ⟨_, rfl, rfl⟩ := hK; obtain rfl := List.mem_singleton.1 hx; exact .tail _ m_m)) ?_
       rintro _ _ ⟨b8, rfl, rfl⟩
       refine d_x rfl (x_box (l := [.slice (some ⟨b36, 0, none⟩) 65536 65536, .slice none 0 0]) rfl rfl) rfl rfl (by first | (intro h; cases h; done) | (intro _ _ _ hK x hx; obtain ⟨_, rfl, rfl⟩ := hK; obtain rfl := List.mem_singleton.1 hx; exact .tail _ m_m)) ?_
       rintro _ _ ⟨b38, rfl, rfl⟩
       refine RD ?_
       refine d_x rfl (x_val call_10 rfl (fun w hw => step0_fn s _ w)) rfl rfl n_h ?_
       rintro _ _ ⟨rfl, rfl⟩
       refine d_mv rfl (vnf_eq rfl) rfl rfl ?_
       refine RD ?_
       refine RD ?_
       refine d_x rfl (x_storeTo (l' := cS s) 1 rfl rfl rfl rfl rfl rfl (Nat.le_of_ble_eq_true rfl) rfl) rfl rfl n_h ?_
       rintro _ _ ⟨rfl, rfl⟩
       refine c_u ?_
       refine d_x rfl (x_storeTo (l' := cDd ⟨0, 0, s.r.pc, oN, false⟩) 3 rfl rfl rfl rfl rfl rfl (Nat.le_of_ble_eq_true rfl) rfl) rfl rfl n_h ?_
       rintro _ _ ⟨rfl, rfl⟩
       refine c_u ?_
       refine d_nil ?_
       exact ⟨(b8, b9), trivial, .cons rfl (.cons rfl .nil), a_g, fun _ h => (St.fl [[_], [_], [_], [_], [_], [_]] [3, 1, 4, 5] rfl h).as (by simp only [List.filterMap_cons, List.filterMap_nil, List.getElem?_cons_zero, List.getElem?_cons_succ, VV.fl, List.cons_append, List.nil_append])⟩
      exact d_stop
     refine d_fork ?_ ?_
     ·refine d_x rfl (x_alloc rfl) rfl rfl (by first | (intro h; cases h; done) | (intro _ _ _ hK x hx; obtain ⟨_, rfl, rfl⟩ := hK; obtain rfl := List.mem_singleton.1 hx; exact .tail _ m_m)) ?_
      rintro _ _ ⟨b8, rfl, rfl⟩
      refine d_x rfl (x_make (k1 := .i64) (k2 := .i64) (el := 5) (n := 65536) (c := 65536) (a := 65536) (b := 65536) (s := 1) (z := [.int .u8 0]) ?_ ?_ ?_ ?_ ?_ ?_ ?_ ?_ ?_) ?_ ?_ ?_ ?_
      iterate 4 rfl
      ·exact Nat.le_refl _
      iterate 6 rfl
      ·exact (by first | (intro h; cases h; done) | (intro _ _ _ hK x hx; obtain ⟨_, rfl, rfl⟩ := hK; obtain rfl := List.mem_singleton.1 hx; exact .tail _ m_m))
      rintro _ _ ⟨b36, rfl, rfl⟩
      refine d_light rfl (light_struct rfl rfl rfl rfl) rfl rfl rfl ?_
      refine d_x rfl (x_box (l := [.slice (some ⟨b36, 0, none⟩) 65536 65536, .slice none 0 0]) rfl rfl) rfl rfl (by first | (intro h; cases h; done) | (intro _ _ _ hK x hx; obtain ⟨_, rfl, rfl⟩ := hK; obtain rfl := List.mem_singleton.1 hx; exact .tail _ m_m)) ?_
      rintro _ _ ⟨b38, rfl, rfl⟩
      refine RD ?_
      refine d_x rfl (x_val call_10 rfl (fun w hw => step0_fn s _ w)) rfl rfl n_h ?_
      rintro _ _ ⟨rfl, rfl⟩
      refine d_mv rfl (vnf_eq rfl) rfl rfl ?_
      refine RD ?_
      refine RD ?_
      refine d_x rfl (x_storeTo (l' := cS s) 2 rfl rfl rfl rfl rfl rfl (Nat.le_of_ble_eq_true rfl) rfl) rfl rfl n_h ?_
      rintro _ _ ⟨rfl, rfl⟩
      refine c_u ?_
      refine d_x rfl (x_storeTo (l' := cDd ⟨0, 0, s.r.pc, oN, false⟩) 3 rfl rfl rfl rfl rfl rfl (Nat.le_of_ble_eq_true rfl) rfl) rfl rfl n_h ?_
      rintro _ _ ⟨rfl, rfl⟩
      refine c_u ?_
      refine d_nil ?_
      exact ⟨(b8, b9), trivial, .cons rfl (.cons rfl .nil), a_g, fun _ h => (St.fl [[_], [_], [_], [_], [_], [_]] [3, 2, 4, 5] rfl h).as (by simp only [List.filterMap_cons, List.filterMap_nil, List.getElem?_cons_zero, List.getElem?_cons_succ, VV.fl, List.cons_append, List.nil_append])⟩
     exact d_stop
    exact d_stop
   ·rintro ⟨b8, b9⟩ y4 hJ
    dsimp only at hJ ⊢
    refine c_cut (σ := Nat × Nat) [10, 11, 43, 44, 45, 46, 47, 48] (fun q => [(10, .pointer (some ⟨q.1, 0, none⟩)), (11, .pointer (some ⟨q.2, 0, none⟩))]) (fun q => (q.2, blk (cDd ⟨0, 0, s.r.pc, oN, false⟩) 40) :: (q.1, blk (cS s) 35) :: (b9, blk (cDd ⟨0, 0, s.r.pc, oN, false⟩) 40) :: (b8, blk (cS s) 35) :: (b7, blk (cS s) 35) :: [(b3, blk (cS s) 26)]) (fun q => True) ?_ ?_
    ·refine c_draw [(b7, blk (cS s) 35)] [0, 6, 7] (.step true 1 (.fork 0 (.fork 2 (.step true 3 (.step true 4 (.step true 5 (.fork 6 (.step false 7 (.step false 8 (.step false 9 .done))) (.fork 7 (.step false 6 (.step false 8 (.step false 9 .done))) .stop))))) (.fork 6 (.fork 2 (.step true 3 (.step true 4 (.step true 5 (.step false 7 (.step false 8 (.step false 9 .done)))))) (.fork 7 (.step false 2 (.step true 3 (.step true 4 (.step true 5 (.step false 8 (.step false 9 .done)))))) .stop)) (.fork 7 (.fork 2 (.step true 3 (.step true 4 (.step true 5 (.step false 6 (.step false 8 (.step false 9 .done)))))) (.fork 6 (.step false 2 (.step true 3 (.step true 4 (.step true 5 (.step false 8 (.step false 9 .done)))))) .stop)) .stop))) (.fork 6 (.fork 0 (.fork 2 (.step true 3 (.step true 4 (.step true 5 (.step false 7 (.step false 8 (.step false 9 .done)))))) (.fork 7 (.step false 2 (.step true 3 (.step true 4 (.step true 5 (.step false 8 (.step false 9 .done)))))) .stop)) (.fork 7 (.step false 0 (.step false 2 (.step true 3 (.step true 4 (.step true 5 (.step false 8 (.step false 9 .done))))))) .stop)) (.fork 7 (.fork 0 (.fork 2 (.step true 3 (.step true 4 (.step true 5 (.step false 6 (.step false 8 (.step false 9 .done)))))) (.fork 6 (.step false 2 (.step true 3 (.step true 4 (.step true 5 (.step false 8 (.step false 9 .done)))))) .stop)) (.fork 6 (.step false 0 (.step false 2 (.step true 3 (.step true 4 (.step true 5 (.step false 8 (.step false 9 .done))))))) .stop)) .stop)))) rfl (by kernel_rfl) (by kernel_rfl) (fun x hx => by obtain rfl := List.mem_singleton.1 hx; exact m_m) ?_
     refine d_loadA rfl rfl rfl rfl (srow_own (l := cS s) m_m) rfl rfl ?_
     refine d_fork ?_ ?_
     ·refine d_x rfl (x_call call_11 rfl (fun w hw => tnew_fn w)) rfl rfl (by first | (intro h; cases h; done) | (intro _ _ _ hK x hx; obtain ⟨_, _, rfl⟩ := hK; obtain rfl := List.mem_singleton.1 hx; exact List.mem_append_right _ m_m)) ?_
      rintro _ _ ⟨GT, ⟨tb1, rfl, hT1⟩, rfl⟩
      obtain ⟨oT1, rfl⟩ := hT1.one
      refine d_heap (fun _ h => St.fl [[_], [_], [_], [_], [_]] [1, 2, 3, 4, 0] rfl h) ?_
      simp only [List.filterMap_cons, List.filterMap_nil, List.getElem?_cons_zero, List.getElem?_cons_succ, VV.fl, List.cons_append, List.nil_append]
      refine d_fork ?_ ?_
      ·refine d_x rfl (x_val call_10 rfl (fun w hw => step1_fn s tb1 w)) rfl rfl n_h ?_
       rintro _ _ ⟨rfl, rfl⟩
       refine d_mv rfl (vnf_eq rfl) rfl rfl ?_
       refine RD ?_
       refine RD ?_
       refine d_fork ?_ ?_
       ·refine d_x rfl (x_alloc rfl) rfl rfl (by first | (intro h; cases h; done) | (intro _ _ _ hK x hx; obtain ⟨_, rfl, rfl⟩ := hK; obtain rfl := List.mem_singleton.1 hx; exact .tail _ m_m)) ?_
        rintro _ _ ⟨b10, rfl, rfl⟩
        refine d_x rfl (x_alloc rfl) rfl rfl (by first | (intro h; cases h; done) | (intro _ _ _ hK x hx; obtain ⟨_, rfl, rfl⟩ := hK; obtain rfl := List.mem_singleton.1 hx; exact .tail _ m_m)) ?_
        rintro _ _ ⟨b11, rfl, rfl⟩
        refine d_x rfl (x_storeTo (l' := cS s) 1 rfl rfl rfl rfl rfl rfl (Nat.le_of_ble_eq_true rfl) rfl) rfl rfl n_h ?_
        rintro _ _ ⟨rfl, rfl⟩
        refine c_u ?_
        refine d_x rfl (x_storeTo (l' := cDd ⟨0, 0, s.r.pc, oN, false⟩) 0 rfl rfl rfl rfl rfl rfl (Nat.le_of_ble_eq_true rfl) rfl) rfl rfl n_h ?_
        rintro _ _ ⟨rfl, rfl⟩
        refine c_u ?_
        refine d_nil ?_
        exact ⟨(b10, b11), trivial, .cons rfl (.cons rfl .nil), a_g, fun _ h => (St.fl [[_], [_], [_], [_], [_], [_], [_]] [0, 1, 2, 3, 4, 5] rfl h).as (by simp only [List.filterMap_cons, List.filterMap_nil, List.getElem?_cons_zero, List.getElem?_cons_succ, VV.fl, List.cons_append, List.nil_append])⟩
       refine d_fork ?_ ?_
       ·refine d_x rfl (x_alloc rfl) rfl rfl (by first | (intro h; cases h; done) | (intro _ _ _ hK x hx; obtain ⟨_, rfl, rfl⟩ := hK; obtain rfl := List.mem_singleton.1 hx; exact .tail _ m_m)) ?_
        rintro _ _ ⟨b11, rfl, rfl⟩
        refine d_x rfl (x_alloc rfl) rfl rfl (by first | (intro h; cases h; done) | (intro _ _ _ hK x hx; obtain ⟨_, rfl, rfl⟩ := hK; obtain rfl := List.mem_singleton.1 hx; exact .tail _ m_m)) ?_
        rintro _ _ ⟨b10, rfl, rfl⟩
        refine d_x rfl (x_storeTo (l' := cS s) 0 rfl rfl rfl rfl rfl rfl (Nat.le_of_ble_eq_true rfl) rfl) rfl rfl n_h ?_
        rintro _ _ ⟨rfl, rfl⟩
        refine c_u ?_
        refine d_x rfl (x_storeTo (l' := cDd ⟨0, 0, s.r.pc, oN, false⟩) 1 rfl rfl rfl rfl rfl rfl (Nat.le_of_ble_eq_true rfl) rfl) rfl rfl n_h ?_
        rintro _ _ ⟨rfl, rfl⟩
        refine c_u ?_
        refine d_nil ?_
        exact ⟨(b10, b11), trivial, .cons rfl (.cons rfl .nil), a_g, fun _ h => (St.fl [[_], [_], [_], [_], [_], [_], [_]] [1, 0, 2, 3, 4, 5] rfl h).as (by simp only [List.filterMap_cons, List.filterMap_nil, List.getElem?_cons_zero, List.getElem?_cons_succ, VV.fl, List.cons_append, List.nil_append])⟩
       exact d_stop
      refine d_fork ?_ ?_
      ·refine d_x rfl (x_alloc rfl) rfl rfl (by first | (intro h; cases h; done) | (intro _ _ _ hK x hx; obtain ⟨_, rfl, rfl⟩ := hK; obtain rfl := List.mem_singleton.1 hx; exact .tail _ m_m)) ?_
       rintro _ _ ⟨b10, rfl, rfl⟩
       refine d_fork ?_ ?_
       ·refine d_x rfl (x_val call_10 rfl (fun w hw => step1_fn s tb1 w)) rfl rfl n_h ?_
        rintro _ _ ⟨rfl, rfl⟩
        refine d_mv rfl (vnf_eq rfl) rfl rfl ?_
        refine RD ?_
        refine RD ?_
        refine d_x rfl (x_alloc rfl) rfl rfl (by first | (intro h; cases h; done) | (intro _ _ _ hK x hx; obtain ⟨_, rfl, rfl⟩ := hK; obtain rfl := List.mem_singleton.1 hx; exact .tail _ m_m)) ?_
        rintro _ _ ⟨b11, rfl, rfl⟩
        refine d_x rfl (x_storeTo (l' := cS s) 1 rfl rfl rfl rfl rfl rfl (Nat.le_of_ble_eq_true rfl) rfl) rfl rfl n_h ?_
        rintro _ _ ⟨rfl, rfl⟩
        refine c_u ?_
        refine d_x rfl (x_storeTo (l' := cDd ⟨0, 0, s.r.pc, oN, false⟩) 0 rfl rfl rfl rfl rfl rfl (Nat.le_of_ble_eq_true rfl) rfl) rfl rfl n_h ?_
        rintro _ _ ⟨rfl, rfl⟩
        refine c_u ?_
        refine d_nil ?_
        exact ⟨(b10, b11), trivial, .cons rfl (.cons rfl .nil), a_g, fun _ h => (St.fl [[_], [_], [_], [_], [_], [_], [_]] [0, 1, 2, 3, 4, 5] rfl h).as (by simp only [List.filterMap_cons, List.filterMap_nil, List.getElem?_cons_zero, List.getElem?_cons_succ, VV.fl, List.cons_append, List.nil_append])⟩
       refine d_fork ?_ ?_
       ·refine d_x rfl (x_alloc rfl) rfl rfl (by first | (intro h; cases h; done) | (intro _ _ _ hK x hx; obtain ⟨_, rfl, rfl⟩ := hK; obtain rfl := List.mem_singleton.1 hx; exact .tail _ m_m)) ?_
        rintro _ _ ⟨b11, rfl, rfl⟩
        refine d_x rfl (x_val call_10 rfl (fun w hw => step1_fn s tb1 w)) rfl rfl n_h ?_
        rintro _ _ ⟨rfl, rfl⟩
        refine d_mv rfl (vnf_eq rfl) rfl rfl ?_
        refine RD ?_
        refine RD ?_
        refine d_x rfl (x_storeTo (l' := cS s) 1 rfl rfl rfl rfl rfl rfl (Nat.le_of_ble_eq_true rfl) rfl) rfl rfl n_h ?_
        rintro _ _ ⟨rfl, rfl⟩
        refine c_u ?_
        refine d_x rfl (x_storeTo (l' := cDd ⟨0, 0, s.r.pc, oN, false⟩) 0 rfl rfl rfl rfl rfl rfl (Nat.le_of_ble_eq_true rfl) rfl) rfl rfl n_h ?_
        rintro _ _ ⟨rfl, rfl⟩
        refine c_u ?_
        refine d_nil ?_
        exact ⟨(b10, b11), trivial, .cons rfl (.cons rfl .nil), a_g, fun _ h => (St.fl [[_], [_], [_], [_], [_], [_], [_]] [0, 1, 2, 3, 4, 5] rfl h).as (by simp only [List.filterMap_cons, List.filterMap_nil, List.getElem?_cons_zero, List.getElem?_cons_succ, VV.fl, List.cons_append, List.nil_append])⟩
       exact d_stop
      refine d_fork ?_ ?_
      ·refine d_x rfl (x_alloc rfl) rfl rfl (by first | (intro h; cases h; done) | (intro _ _ _ hK x hx; obtain ⟨_, rfl, rfl⟩ := hK; obtain rfl := List.mem_singleton.1 hx; exact .tail _ m_m)) ?_
       rintro _ _ ⟨b11, rfl, rfl⟩
       refine d_fork ?_ ?_
       ·refine d_x rfl (x_val call_10 rfl (fun w hw => step1_fn s tb1 w)) rfl rfl n_h ?_
        rintro _ _ ⟨rfl, rfl⟩
        refine d_mv rfl (vnf_eq rfl) rfl rfl ?_
        refine RD ?_
        refine RD ?_
        refine d_x rfl (x_alloc rfl) rfl rfl (by first | (intro h; cases h; done) | (intro _ _ _ hK x hx; obtain ⟨_, rfl, rfl⟩ := hK; obtain rfl := List.mem_singleton.1 hx; exact .tail _ m_m)) ?_
        rintro _ _ ⟨b10, rfl, rfl⟩
        refine d_x rfl (x_storeTo (l' := cS s) 0 rfl rfl rfl rfl rfl rfl (Nat.le_of_ble_eq_true rfl) rfl) rfl rfl n_h ?_
        rintro _ _ ⟨rfl, rfl⟩
        refine c_u ?_
        refine d_x rfl (x_storeTo (l' := cDd ⟨0, 0, s.r.pc, oN, false⟩) 1 rfl rfl rfl rfl rfl rfl (Nat.le_of_ble_eq_true rfl) rfl) rfl rfl n_h ?_
        rintro _ _ ⟨rfl, rfl⟩
        refine c_u ?_
        refine d_nil ?_
        exact ⟨(b10, b11), trivial, .cons rfl (.cons rfl .nil), a_g, fun _ h => (St.fl [[_], [_], [_], [_], [_], [_], [_]] [1, 0, 2, 3, 4, 5] rfl h).as (by simp only [List.filterMap_cons, List.filterMap_nil, List.getElem?_cons_zero, List.getElem?_cons_succ, VV.fl, List.cons_append, List.nil_append])⟩
       refine d_fork ?_ ?_
       ·refine d_x rfl (x_alloc rfl) rfl rfl (by first | (intro h; cases h; done) | (intro _ _ _ hK x hx; obtain ⟨_, rfl, rfl⟩ := hK; obtain rfl := List.mem_singleton.1 hx; exact .tail _ m_m)) ?_
        rintro _ _ ⟨b10, rfl, rfl⟩
        refine d_x rfl (x_val call_10 rfl (fun w hw => step1_fn s tb1 w)) rfl rfl n_h ?_
        rintro _ _ ⟨rfl, rfl⟩
        refine d_mv rfl (vnf_eq rfl) rfl rfl ?_
        refine RD ?_
        refine RD ?_
        refine d_x rfl (x_storeTo (l' := cS s) 0 rfl rfl rfl rfl rfl rfl (Nat.le_of_ble_eq_true rfl) rfl) rfl rfl n_h ?_
        rintro _ _ ⟨rfl, rfl⟩
        refine c_u ?_
        refine d_x rfl (x_storeTo (l' := cDd ⟨0, 0, s.r.pc, oN, false⟩) 1 rfl rfl rfl rfl rfl rfl (Nat.le_of_ble_eq_true rfl) rfl) rfl rfl n_h ?_
        rintro _ _ ⟨rfl, rfl⟩
        refine c_u ?_
        refine d_nil ?_
        exact ⟨(b10, b11), trivial, .cons rfl (.cons rfl .nil), a_g, fun _ h => (St.fl [[_], [_], [_], [_], [_], [_], [_]] [1, 0, 2, 3, 4, 5] rfl h).as (by simp only [List.filterMap_cons, List.filterMap_nil, List.getElem?_cons_zero, List.getElem?_cons_succ, VV.fl, List.cons_append, List.nil_append])⟩
       exact d_stop
      exact d_stop
     refine d_fork ?_ ?_
     ·refine d_x rfl (x_alloc rfl) rfl rfl (by first | (intro h; cases h; done) | (intro _ _ _ hK x hx; obtain ⟨_, rfl, rfl⟩ := hK; obtain rfl := List.mem_singleton.1 hx; exact .tail _ m_m)) ?_
      rintro _ _ ⟨b10, rfl, rfl⟩
      refine d_fork ?_ ?_
      ·refine d_x rfl (x_call call_11 rfl (fun w hw => tnew_fn w)) rfl rfl (by first | (intro h; cases h; done) | (intro _ _ _ hK x hx; obtain ⟨_, _, rfl⟩ := hK; obtain rfl := List.mem_singleton.1 hx; exact List.mem_append_right _ m_m)) ?_
       rintro _ _ ⟨GT, ⟨tb1, rfl, hT1⟩, rfl⟩
       obtain ⟨oT1, rfl⟩ := hT1.one
       refine d_heap (fun _ h => St.fl [[_], [_], [_], [_], [_], [_]] [1, 2, 3, 4, 5, 0] rfl h) ?_
       simp only [List.filterMap_cons, List.filterMap_nil, List.getElem?_cons_zero, List.getElem?_cons_succ, VV.fl, List.cons_append, List.nil_append]
       refine d_fork ?_ ?_
       ·refine d_x rfl (x_val call_10 rfl (fun w hw => step1_fn s tb1 w)) rfl rfl n_h ?_
        rintro _ _ ⟨rfl, rfl⟩
        refine d_mv rfl (vnf_eq rfl) rfl rfl ?_
        refine RD ?_
        refine RD ?_
        refine d_x rfl (x_alloc rfl) rfl rfl (by first | (intro h; cases h; done) | (intro _ _ _ hK x hx; obtain ⟨_, rfl, rfl⟩ := hK; obtain rfl := List.mem_singleton.1 hx; exact .tail _ m_m)) ?_
        rintro _ _ ⟨b11, rfl, rfl⟩
        refine d_x rfl (x_storeTo (l' := cS s) 1 rfl rfl rfl rfl rfl rfl (Nat.le_of_ble_eq_true rfl) rfl) rfl rfl n_h ?_
        rintro _ _ ⟨rfl, rfl⟩
        refine c_u ?_
        refine d_x rfl (x_storeTo (l' := cDd ⟨0, 0, s.r.pc, oN, false⟩) 0 rfl rfl rfl rfl rfl rfl (Nat.le_of_ble_eq_true rfl) rfl) rfl rfl n_h ?_
        rintro _ _ ⟨rfl, rfl⟩
        refine c_u ?_
        refine d_nil ?_
        exact ⟨(b10, b11), trivial, .cons rfl (.cons rfl .nil), a_g, fun _ h => (St.fl [[_], [_], [_], [_], [_], [_], [_]] [0, 1, 2, 3, 4, 5] rfl h).as (by simp only [List.filterMap_cons, List.filterMap_nil, List.getElem?_cons_zero, List.getElem?_cons_succ, VV.fl, List.cons_append, List.nil_append])⟩
       refine d_fork ?_ ?_
       ·refine d_x rfl (x_alloc rfl) rfl rfl (by first | (intro h; cases h; done) | (intro _ _ _ hK x hx; obtain ⟨_, rfl, rfl⟩ := hK; obtain rfl := List.mem_singleton.1 hx; exact .tail _ m_m)) ?_
        rintro _ _ ⟨b11, rfl, rfl⟩
        refine d_x rfl (x_val call_10 rfl (fun w hw => step1_fn s tb1 w)) rfl rfl n_h ?_
        rintro _ _ ⟨rfl, rfl⟩
        refine d_mv rfl (vnf_eq rfl) rfl rfl ?_
        refine RD ?_
        refine RD ?_
        refine d_x rfl (x_storeTo (l' := cS s) 1 rfl rfl rfl rfl rfl rfl (Nat.le_of_ble_eq_true rfl) rfl) rfl rfl n_h ?_
        rintro _ _ ⟨rfl, rfl⟩
        refine c_u ?_
        refine d_x rfl (x_storeTo (l' := cDd ⟨0, 0, s.r.pc, oN, false⟩) 0 rfl rfl rfl rfl rfl rfl (Nat.le_of_ble_eq_true rfl) rfl) rfl rfl n_h ?_
        rintro _ _ ⟨rfl, rfl⟩
        refine c_u ?_
        refine d_nil ?_
        exact ⟨(b10, b11), trivial, .cons rfl (.cons rfl .nil), a_g, fun _ h => (St.fl [[_], [_], [_], [_], [_], [_], [_]] [0, 1, 2, 3, 4, 5] rfl h).as (by simp only [List.filterMap_cons, List.filterMap_nil, List.getElem?_cons_zero, List.getElem?_cons_succ, VV.fl, List.cons_append, List.nil_append])⟩
       exact d_stop
      refine d_fork ?_ ?_
      ·refine d_x rfl (x_alloc rfl) rfl rfl (by first | (intro h; cases h; done) | (intro _ _ _ hK x hx; obtain ⟨_, rfl, rfl⟩ := hK; obtain rfl := List.mem_singleton.1 hx; exact .tail _ m_m)) ?_
       rintro _ _ ⟨b11, rfl, rfl⟩
       refine d_x rfl (x_call call_11 rfl (fun w hw => tnew_fn w)) rfl rfl (by first | (intro h; cases h; done) | (intro _ _ _ hK x hx; obtain ⟨_, _, rfl⟩ := hK; obtain rfl := List.mem_singleton.1 hx; exact List.mem_append_right _ m_m)) ?_
       rintro _ _ ⟨GT, ⟨tb1, rfl, hT1⟩, rfl⟩
       obtain ⟨oT1, rfl⟩ := hT1.one
       refine d_heap (fun _ h => St.fl [[_], [_], [_], [_], [_], [_], [_]] [1, 2, 3, 4, 5, 6, 0] rfl h) ?_
       simp only [List.filterMap_cons, List.filterMap_nil, List.getElem?_cons_zero, List.getElem?_cons_succ, VV.fl, List.cons_append, List.nil_append]
       refine d_x rfl (x_val call_10 rfl (fun w hw => step1_fn s tb1 w)) rfl rfl n_h ?_
       rintro _ _ ⟨rfl, rfl⟩
       refine d_mv rfl (vnf_eq rfl) rfl rfl ?_
       refine RD ?_
       refine RD ?_
       refine d_x rfl (x_storeTo (l' := cS s) 1 rfl rfl rfl rfl rfl rfl (Nat.le_of_ble_eq_true rfl) rfl) rfl rfl n_h ?_
       rintro _ _ ⟨rfl, rfl⟩
       refine c_u ?_
       refine d_x rfl (x_storeTo (l' := cDd ⟨0, 0, s.r.pc, oN, false⟩) 0 rfl rfl rfl rfl rfl rfl (Nat.le_of_ble_eq_true rfl) rfl) rfl rfl n_h ?_
       rintro _ _ ⟨rfl, rfl⟩
       refine c_u ?_
       refine d_nil ?_
       exact ⟨(b10, b11), trivial, .cons rfl (.cons rfl .nil), a_g, fun _ h => (St.fl [[_], [_], [_], [_], [_], [_], [_]] [0, 1, 2, 3, 4, 5] rfl h).as (by simp only [List.filterMap_cons, List.filterMap_nil, List.getElem?_cons_zero, List.getElem?_cons_succ, VV.fl, List.cons_append, List.nil_append])⟩
      exact d_stop
     refine d_fork ?_ ?_
     ·refine d_x rfl (x_alloc rfl) rfl rfl (by first | (intro h; cases h; done) | (intro _ _ _ hK x hx; obtain ⟨_, rfl, rfl⟩ := hK; obtain rfl := List.mem_singleton.1 hx; exact .tail _ m_m)) ?_
      rintro _ _ ⟨b11, rfl, rfl⟩
      refine d_fork ?_ ?_
      ·refine d_x rfl (x_call call_11 rfl (fun w hw => tnew_fn w)) rfl rfl (by first | (intro h; cases h; done) | (intro _ _ _ hK x hx; obtain ⟨_, _, rfl⟩ := hK; obtain rfl := List.mem_singleton.1 hx; exact List.mem_append_right _ m_m)) ?_
       rintro _ _ ⟨GT, ⟨tb1, rfl, hT1⟩, rfl⟩
       obtain ⟨oT1, rfl⟩ := hT1.one
       refine d_heap (fun _ h => St.fl [[_], [_], [_], [_], [_], [_]] [1, 2, 3, 4, 5, 0] rfl h) ?_
       simp only [List.filterMap_cons, List.filterMap_nil, List.getElem?_cons_zero, List.getElem?_cons_succ, VV.fl, List.cons_append, List.nil_append]
       refine d_fork ?_ ?_
       ·refine d_x rfl (x_val call_10 rfl (fun w hw => step1_fn s tb1 w)) rfl rfl n_h ?_
        rintro _ _ ⟨rfl, rfl⟩
        refine d_mv rfl (vnf_eq rfl) rfl rfl ?_
        refine RD ?_
        refine RD ?_
        refine d_x rfl (x_alloc rfl) rfl rfl (by first | (intro h; cases h; done) | (intro _ _ _ hK x hx; obtain ⟨_, rfl, rfl⟩ := hK; obtain rfl := List.mem_singleton.1 hx; exact .tail _ m_m)) ?_
        rintro _ _ ⟨b10, rfl, rfl⟩
        refine d_x rfl (x_storeTo (l' := cS s) 0 rfl rfl rfl rfl rfl rfl (Nat.le_of_ble_eq_true rfl) rfl) rfl rfl n_h ?_
        rintro _ _ ⟨rfl, rfl⟩
        refine c_u ?_
        refine d_x rfl (x_storeTo (l' := cDd ⟨0, 0, s.r.pc, oN, false⟩) 1 rfl rfl rfl rfl rfl rfl (Nat.le_of_ble_eq_true rfl) rfl) rfl rfl n_h ?_
        rintro _ _ ⟨rfl, rfl⟩
        refine c_u ?_
        refine d_nil ?_
        exact ⟨(b10, b11), trivial, .cons rfl (.cons rfl .nil), a_g, fun _ h => (St.fl [[_], [_], [_], [_], [_], [_], [_]] [1, 0, 2, 3, 4, 5] rfl h).as (by simp only [List.filterMap_cons, List.filterMap_nil, List.getElem?_cons_zero, List.getElem?_cons_succ, VV.fl, List.cons_append, List.nil_append])⟩
       refine d_fork ?_ ?_
       ·refine d_x rfl (x_alloc rfl) rfl rfl (by first | (intro h; cases h; done) | (intro _ _ _ hK x hx; obtain ⟨_, rfl, rfl⟩ := hK; obtain rfl := List.mem_singleton.1 hx; exact .tail _ m_m)) ?_
        rintro _ _ ⟨b10, rfl, rfl⟩
        refine d_x rfl (x_val call_10 rfl (fun w hw => step1_fn s tb1 w)) rfl rfl n_h ?_
        rintro _ _ ⟨rfl, rfl⟩
        refine d_mv rfl (vnf_eq rfl) rfl rfl ?_
        refine RD ?_
        refine RD ?_
        refine d_x rfl (x_storeTo (l' := cS s) 0 rfl rfl rfl rfl rfl rfl (Nat.le_of_ble_eq_true rfl) rfl) rfl rfl n_h ?_
        rintro _ _ ⟨rfl, rfl⟩
        refine c_u ?_
        refine d_x rfl (x_storeTo (l' := cDd ⟨0, 0, s.r.pc, oN, false⟩) 1 rfl rfl rfl rfl rfl rfl (Nat.le_of_ble_eq_true rfl) rfl) rfl rfl n_h ?_
        rintro _ _ ⟨rfl, rfl⟩
        refine c_u ?_
        refine d_nil ?_
        exact ⟨(b10, b11), trivial, .cons rfl (.cons rfl .nil), a_g, fun _ h => (St.fl [[_], [_], [_], [_], [_], [_], [_]] [1, 0, 2, 3, 4, 5] rfl h).as (by simp only [List.filterMap_cons, List.filterMap_nil, List.getElem?_cons_zero, List.getElem?_cons_succ, VV.fl, List.cons_append, List.nil_append])⟩
       exact d_stop
      refine d_fork ?_ ?_
      ·refine d_x rfl (x_alloc rfl) rfl rfl (by first | (intro h; cases h; done) | (intro _ _ _ hK x hx; obtain ⟨_, rfl, rfl⟩ := hK; obtain rfl := List.mem_singleton.1 hx; exact .tail _ m_m)) ?_
       rintro _ _ ⟨b10, rfl, rfl⟩
       refine d_x rfl (x_call call_11 rfl (fun w hw => tnew_fn w)) rfl rfl (by first | (intro h; cases h; done) | (intro _ _ _ hK x hx; obtain ⟨_, _, rfl⟩ := hK; obtain rfl := List.mem_singleton.1 hx; exact List.mem_append_right _ m_m)) ?_
       rintro _ _ ⟨GT, ⟨tb1, rfl, hT1⟩, rfl⟩
       obtain ⟨oT1, rfl⟩ := hT1.one
       refine d_heap (fun _ h => St.fl [[_], [_], [_], [_], [_], [_], [_]] [1, 2, 3, 4, 5, 6, 0] rfl h) ?_
       simp only [List.filterMap_cons, List.filterMap_nil, List.getElem?_cons_zero, List.getElem?_cons_succ, VV.fl, List.cons_append, List.nil_append]
       refine d_x rfl (x_val call_10 rfl (fun w hw => step1_fn s tb1 w)) rfl rfl n_h ?_
       rintro _ _ ⟨rfl, rfl⟩
       refine d_mv rfl (vnf_eq rfl) rfl rfl ?_
       refine RD ?_
       refine RD ?_
       refine d_x rfl (x_storeTo (l' := cS s) 0 rfl rfl rfl rfl rfl rfl (Nat.le_of_ble_eq_true rfl) rfl) rfl rfl n_h ?_
       rintro _ _ ⟨rfl, rfl⟩
       refine c_u ?_
       refine d_x rfl (x_storeTo (l' := cDd ⟨0, 0, s.r.pc, oN, false⟩) 1 rfl rfl rfl rfl rfl rfl (Nat.le_of_ble_eq_true rfl) rfl) rfl rfl n_h ?_
       rintro _ _ ⟨rfl, rfl⟩
       refine c_u ?_
       refine d_nil ?_
       exact ⟨(b10, b11), trivial, .cons rfl (.cons rfl .nil), a_g, fun _ h => (St.fl [[_], [_], [_], [_], [_], [_], [_]] [1, 0, 2, 3, 4, 5] rfl h).as (by simp only [List.filterMap_cons, List.filterMap_nil, List.getElem?_cons_zero, List.getElem?_cons_succ, VV.fl, List.cons_append, List.nil_append])⟩
      exact d_stop
     exact d_stop
    ·rintro ⟨b10, b11⟩ y5 hJ
     dsimp only at hJ ⊢
     refine c_seq ?_
     refine c_seq ?_
     refine c_region ?_
     refine l_x (x_loadA rfl rfl rfl (row_own (l := cS s) m_m)) rfl rfl ?_
     rintro _ _ ⟨rfl, rfl⟩
     refine l_x (x_loadA rfl rfl rfl (row_own (l := cS s) m_m)) rfl rfl ?_
     rintro _ _ ⟨rfl, rfl⟩
     refine l_nes (ks := [.int .u8, .int .u8, .int .u8, .int .u8, .int .u8, .int .u8, .int .u8, .int .u8, .int .u16, .int .u16, .bool, .bool, .bool, .bool]) rfl rfl (by kernel_rfl) (by kernel_rfl) rfl rfl rfl rfl (b := false) (by rw [lveq_refl (ks := [.int .u8, .int .u8, .int .u8, .int .u8, .int .u8, .int .u8, .int .u8, .int .u8, .int .u16, .int .u16, .bool, .bool, .bool, .bool]) rfl]; rfl) ?_
     refine RL ?_
     refine l_x (x_loadA rfl rfl rfl (row_own (l := cS s) m_m)) rfl rfl ?_
     rintro _ _ ⟨rfl, rfl⟩
     refine l_x (x_loadA rfl rfl rfl (row_own (l := cS s) m_m)) rfl rfl ?_
     rintro _ _ ⟨rfl, rfl⟩
     refine l_nes (ks := [.int .u8, .int .u8, .int .u8, .int .u8, .int .u8, .int .u8, .int .u8, .int .u8, .int .u16, .int .u16, .bool, .bool, .bool, .bool]) rfl rfl (by kernel_rfl) (by kernel_rfl) rfl rfl rfl rfl (b := false) (by rw [lveq_refl (ks := [.int .u8, .int .u8, .int .u8, .int .u8, .int .u8, .int .u8, .int .u8, .int .u8, .int .u16, .int .u16, .bool, .bool, .bool, .bool]) rfl]; rfl) ?_
     refine RL ?_
     refine RL ?_
     refine l_x (x_loadA rfl rfl rfl (row_own (l := cDd ⟨0, 0, s.r.pc, oN, false⟩) m_m)) rfl rfl ?_
     rintro _ _ ⟨rfl, rfl⟩
     refine RLa ?_
     refine RLa ?_
     refine l_x (x_load rfl rfl (at_own (v := .int .u16 s.r.pc) m_m (by rfl))) rfl rfl ?_
     rintro _ _ ⟨rfl, rfl⟩
     refine l_l (light_struct (l := cDd ⟨0, 0, s.r.pc, oN, false⟩) (z := cDd ⟨0, 0, 0, oN, false⟩) (ps := [(2, .int .u16 s.r.pc)]) rfl rfl rfl rfl) rfl rfl ?_
     refine l_nes (ks := [.int .i64, .int .i64, .int .u16, .int .i64, .int .i64, .int .i64, .int .i64, .int .u16, .bool]) rfl rfl (by kernel_rfl) (by kernel_rfl) rfl rfl rfl rfl (b := false) (by rw [lveq_refl (ks := [.int .i64, .int .i64, .int .u16, .int .i64, .int .i64, .int .i64, .int .i64, .int .u16, .bool]) rfl]; rfl) ?_
     refine RL ?_
     refine RL ?_
     refine l_x (x_loadA rfl rfl rfl (row_own (l := cDd ⟨0, 0, s.r.pc, oN, false⟩) m_m)) rfl rfl ?_
     rintro _ _ ⟨rfl, rfl⟩
     refine l_x (x_loadA rfl rfl rfl (row_own (l := cDd ⟨0, 0, s.r.pc, oN, false⟩) m_m)) rfl rfl ?_
     rintro _ _ ⟨rfl, rfl⟩
     refine l_nes (ks := [.int .i64, .int .i64, .int .u16, .int .i64, .int .i64, .int .i64, .int .i64, .int .u16, .bool]) rfl rfl (by kernel_rfl) (by kernel_rfl) rfl rfl rfl rfl (b := false) (by rw [lveq_refl (ks := [.int .i64, .int .i64, .int .u16, .int .i64, .int .i64, .int .i64, .int .i64, .int .u16, .bool]) rfl]; rfl) ?_
     refine RL ?_
     refine l_nil ?_
     refine c_false rfl ?_
     refine c_skip ?_
     refine c_seq ?_
     refine c_region ?_
     refine RL ?_
     refine l_x (x_call call_13 rfl (fun w hw => filled_fn l1 hb1 hk1 a1 c1 w (hN1.later0 hw))) rfl rfl ?_
     rintro _ _ ⟨_, ⟨b71, rfl, rfl⟩, rfl⟩
     refine c_u ?_
     refine l_l (light_struct rfl rfl rfl rfl) rfl rfl ?_
     refine l_x (x_box (l := [.slice (some ⟨b71, 0, none⟩) 65536 65536, .slice none 0 0]) rfl rfl) rfl rfl ?_
     rintro _ _ ⟨b73, rfl, rfl⟩
     refine RL ?_
     refine l_x (x_call call_13 rfl (fun w hw => filled_fn l2 hb2 hk2 a2 c2 w (hN2.later0 hw))) rfl rfl ?_
     rintro _ _ ⟨_, ⟨b75, rfl, rfl⟩, rfl⟩
     refine c_u ?_
     refine l_l (light_struct rfl rfl rfl rfl) rfl rfl ?_
     refine l_x (x_box (l := [.slice (some ⟨b75, 0, none⟩) 65536 65536, .slice none 0 0]) rfl rfl) rfl rfl ?_
     rintro _ _ ⟨b77, rfl, rfl⟩
     refine RL ?_
     refine RL ?_
     refine l_nil ?_
     refine c_cut (σ := Nat × Nat × Nat × Nat × List Value) [14, 15, 78, 79, 80, 81, 82, 83, 84, 85] (fun q => [(14, .pointer (some ⟨q.1, 0, none⟩)), (15, .pointer (some ⟨q.2.1, 0, none⟩))]) (fun q => (q.2.1, blk (cDd D) 40) :: (q.1, blk (cS Y.s) 35) :: (b7, blk (cS s) 35) :: (b77, blk [.slice (some ⟨b75, 0, none⟩) 65536 65536, .slice none 0 0] 32) :: (b75, blk ((fillB l2).map (.int .u8)) 5) :: (q.2.2.1, blk (flat cAc Y.m.acc ++ q.2.2.2.2) 47) :: (b73, blk [.slice (some ⟨b71, 0, none⟩) 65536 65536, .slice (some ⟨q.2.2.1, 0, none⟩) Y.m.acc.length q.2.2.2.1] 32) :: [(b71, blk (Y.m.b.map (.int .u8)) 5)]) (fun q => True) ?_ ?_
     ·refine c_draw [(b7, blk (cS s) 35)] [0, 2, 3, 8, 9] (.step true 1 (.step true 2 (.step true 3 (.fork 0 (.fork 4 (.step true 5 (.step true 6 (.step true 7 (.fork 8 (.step false 9 (.step false 10 (.step false 11 .done))) (.fork 9 (.step false 8 (.step false 10 (.step false 11 .done))) .stop))))) (.fork 8 (.fork 4 (.step true 5 (.step true 6 (.step true 7 (.step false 9 (.step false 10 (.step false 11 .done)))))) (.fork 9 (.step false 4 (.step true 5 (.step true 6 (.step true 7 (.step false 10 (.step false 11 .done)))))) .stop)) (.fork 9 (.fork 4 (.step true 5 (.step true 6 (.step true 7 (.step false 8 (.step false 10 (.step false 11 .done)))))) (.fork 8 (.step false 4 (.step true 5 (.step true 6 (.step true 7 (.step false 10 (.step false 11 .done)))))) .stop)) .stop))) (.fork 8 (.fork 0 (.fork 4 (.step true 5 (.step true 6 (.step true 7 (.step false 9 (.step false 10 (.step false 11 .done)))))) (.fork 9 (.step false 4 (.step true 5 (.step true 6 (.step true 7 (.step false 10 (.step false 11 .done)))))) .stop)) (.fork 9 (.step false 0 (.step false 4 (.step true 5 (.step true 6 (.step true 7 (.step false 10 (.step false 11 .done))))))) .stop)) (.fork 9 (.fork 0 (.fork 4 (.step true 5 (.step true 6 (.step true 7 (.step false 8 (.step false 10 (.step false 11 .done)))))) (.fork 8 (.step false 4 (.step true 5 (.step true 6 (.step true 7 (.step false 10 (.step false 11 .done)))))) .stop)) (.fork 8 (.step false 0 (.step false 4 (.step true 5 (.step true 6 (.step true 7 (.step false 10 (.step false 11 .done))))))) .stop)) .stop)))))) rfl (by kernel_rfl) (by kernel_rfl) (fun x hx => by obtain rfl := List.mem_singleton.1 hx; exact m_m) ?_
      refine d_loadA rfl rfl rfl rfl (srow_own (l := cS s) m_m) rfl rfl ?_
      refine RD ?_
      refine RD ?_
      refine d_fork ?_ ?_
      ·refine d_x rfl (x_call call_11 rfl (fun w hw => tnew_fn w)) rfl rfl (by first | (intro h; cases h; done) | (intro _ _ _ hK x hx; obtain ⟨_, _, rfl⟩ := hK; obtain rfl := List.mem_singleton.1 hx; exact List.mem_append_right _ m_m)) ?_
       rintro _ _ ⟨GT, ⟨tb3, rfl, hT3⟩, rfl⟩
       obtain ⟨oT3, rfl⟩ := hT3.one
       refine d_heap (fun _ h => St.fl [[_], [_], [_], [_], [_], [_], [_], [_], [_], [_], [_]] [1, 2, 5, 6, 7, 8, 9, 10, 0, 3, 4] rfl h) ?_
       simp only [List.filterMap_cons, List.filterMap_nil, List.getElem?_cons_zero, List.getElem?_cons_succ, VV.fl, List.cons_append, List.nil_append]
       refine d_fork ?_ ?_
       ·refine d_x rfl (x_callT (F := [(b77, _), (b75, _), (b11, _), (b10, _), (b9, _), (b8, _), (b7, _), (b3, _)]) (A := (tb3, _) :: ([] ++ [(b73, _), (b71, _)])) call_10 rfl (fun w hw => stepR_fn b73 b71 (n := 0) s ⟨fillB l1, []⟩ hs hm1 (d := D) (s' := Y.s) (m' := Y.m) hDY _ _ .nil tb3 _ oT3 hT3 w (St.lentV hw))) rfl rfl n_h ?_
        rintro _ _ ⟨_, ⟨rfl, oU3, hU3, va3, Ga3, hV3, rfl⟩, rfl⟩
        obtain ⟨ba, cpa, spa, rfl, rfl, hc3, hl3, hm3⟩ := hV3.full (show Y.m.acc.length ≠ 0 by omega)
        refine c_u ?_
        refine d_mv rfl (vnf_eq rfl) rfl rfl ?_
        refine RD ?_
        refine RD ?_
        refine d_fork ?_ ?_
        ·refine d_x rfl (x_alloc rfl) rfl rfl (by first | (intro h; cases h; done) | (intro _ _ _ hK x hx; obtain ⟨_, rfl, rfl⟩ := hK; obtain rfl := List.mem_singleton.1 hx; exact .tail _ m_m)) ?_
         rintro _ _ ⟨b14, rfl, rfl⟩
         refine d_x rfl (x_alloc rfl) rfl rfl (by first | (intro h; cases h; done) | (intro _ _ _ hK x hx; obtain ⟨_, rfl, rfl⟩ := hK; obtain rfl := List.mem_singleton.1 hx; exact .tail _ m_m)) ?_
         rintro _ _ ⟨b15, rfl, rfl⟩
         refine d_x rfl (x_storeTo (l' := cS Y.s) 1 rfl rfl rfl rfl rfl rfl (Nat.le_of_ble_eq_true rfl) rfl) rfl rfl n_h ?_
         rintro _ _ ⟨rfl, rfl⟩
         refine c_u ?_
         refine d_x rfl (x_storeTo (l' := cDd D) 0 rfl rfl rfl rfl rfl rfl (Nat.le_of_ble_eq_true rfl) rfl) rfl rfl n_h ?_
         rintro _ _ ⟨rfl, rfl⟩
         refine c_u ?_
         refine d_nil ?_
         exact ⟨(b14, b15, ba, cpa, spa), trivial, .cons rfl (.cons rfl .nil), a_g, fun _ h => (St.fl [[_], [_], [_], [_], [_], [_], [_], [_], [_], [_], [_], [_], [_], [_]] [0, 1, 8, 2, 3, 11, 12, 13] rfl h).as (by simp only [List.filterMap_cons, List.filterMap_nil, List.getElem?_cons_zero, List.getElem?_cons_succ, VV.fl, List.cons_append, List.nil_append])⟩
        refine d_fork ?_ ?_
        ·refine d_x rfl (x_alloc rfl) rfl rfl (by first | (intro h; cases h; done) | (intro _ _ _ hK x hx; obtain ⟨_, rfl, rfl⟩ := hK; obtain rfl := List.mem_singleton.1 hx; exact .tail _ m_m)) ?_
         rintro _ _ ⟨b15, rfl, rfl⟩
         refine d_x rfl (x_alloc rfl) rfl rfl (by first | (intro h; cases h; done) | (intro _ _ _ hK x hx; obtain ⟨_, rfl, rfl⟩ := hK; obtain rfl := List.mem_singleton.1 hx; exact .tail _ m_m)) ?_
         rintro _ _ ⟨b14, rfl, rfl⟩
         refine d_x rfl (x_storeTo (l' := cS Y.s) 0 rfl rfl rfl rfl rfl rfl (Nat.le_of_ble_eq_true rfl) rfl) rfl rfl n_h ?_
         rintro _ _ ⟨rfl, rfl⟩
         refine c_u ?_
         refine d_x rfl (x_storeTo (l' := cDd D) 1 rfl rfl rfl rfl rfl rfl (Nat.le_of_ble_eq_true rfl) rfl) rfl rfl n_h ?_
         rintro _ _ ⟨rfl, rfl⟩
         refine c_u ?_
         refine d_nil ?_
         exact ⟨(b14, b15, ba, cpa, spa), trivial, .cons rfl (.cons rfl .nil), a_g, fun _ h => (St.fl [[_], [_], [_], [_], [_], [_], [_], [_], [_], [_], [_], [_], [_], [_]] [1, 0, 8, 2, 3, 11, 12, 13] rfl h).as (by simp only [List.filterMap_cons, List.filterMap_nil, List.getElem?_cons_zero, List.getElem?_cons_succ, VV.fl, List.cons_append, List.nil_append])⟩
        exact d_stop
       refine d_fork ?_ ?_
       ·refine d_x rfl (x_alloc rfl) rfl rfl (by first | (intro h; cases h; done) | (intro _ _ _ hK x hx; obtain ⟨_, rfl, rfl⟩ := hK; obtain rfl := List.mem_singleton.1 hx; exact .tail _ m_m)) ?_
        rintro _ _ ⟨b14, rfl, rfl⟩
        refine d_fork ?_ ?_
        ·refine d_x rfl (x_callT (F := [(b14, _), (b77, _), (b75, _), (b11, _), (b10, _), (b9, _), (b8, _), (b7, _), (b3, _)]) (A := (tb3, _) :: ([] ++ [(b73, _), (b71, _)])) call_10 rfl (fun w hw => stepR_fn b73 b71 (n := 0) s ⟨fillB l1, []⟩ hs hm1 (d := D) (s' := Y.s) (m' := Y.m) hDY _ _ .nil tb3 _ oT3 hT3 w (St.lentV hw))) rfl rfl n_h ?_
         rintro _ _ ⟨_, ⟨rfl, oU3, hU3, va3, Ga3, hV3, rfl⟩, rfl⟩
         obtain ⟨ba, cpa, spa, rfl, rfl, hc3, hl3, hm3⟩ := hV3.full (show Y.m.acc.length ≠ 0 by omega)
         refine c_u ?_
         refine d_mv rfl (vnf_eq rfl) rfl rfl ?_
         refine RD ?_
         refine RD ?_
         refine d_x rfl (x_alloc rfl) rfl rfl (by first | (intro h; cases h; done) | (intro _ _ _ hK x hx; obtain ⟨_, rfl, rfl⟩ := hK; obtain rfl := List.mem_singleton.1 hx; exact .tail _ m_m)) ?_
         rintro _ _ ⟨b15, rfl, rfl⟩
         refine d_x rfl (x_storeTo (l' := cS Y.s) 1 rfl rfl rfl rfl rfl rfl (Nat.le_of_ble_eq_true rfl) rfl) rfl rfl n_h ?_
         rintro _ _ ⟨rfl, rfl⟩
         refine c_u ?_
         refine d_x rfl (x_storeTo (l' := cDd D) 0 rfl rfl rfl rfl rfl rfl (Nat.le_of_ble_eq_true rfl) rfl) rfl rfl n_h ?_
         rintro _ _ ⟨rfl, rfl⟩
         refine c_u ?_
         refine d_nil ?_
         exact ⟨(b14, b15, ba, cpa, spa), trivial, .cons rfl (.cons rfl .nil), a_g, fun _ h => (St.fl [[_], [_], [_], [_], [_], [_], [_], [_], [_], [_], [_], [_], [_], [_]] [0, 1, 8, 2, 3, 11, 12, 13] rfl h).as (by simp only [List.filterMap_cons, List.filterMap_nil, List.getElem?_cons_zero, List.getElem?_cons_succ, VV.fl, List.cons_append, List.nil_append])⟩
        refine d_fork ?_ ?_
        ·refine d_x rfl (x_alloc rfl) rfl rfl (by first | (intro h; cases h; done) | (intro _ _ _ hK x hx; obtain ⟨_, rfl, rfl⟩ := hK; obtain rfl := List.mem_singleton.1 hx; exact .tail _ m_m)) ?_
         rintro _ _ ⟨b15, rfl, rfl⟩
         refine d_x rfl (x_callT (F := [(b15, _), (b14, _), (b77, _), (b75, _), (b11, _), (b10, _), (b9, _), (b8, _), (b7, _), (b3, _)]) (A := (tb3, _) :: ([] ++ [(b73, _), (b71, _)])) call_10 rfl (fun w hw => stepR_fn b73 b71 (n := 0) s ⟨fillB l1, []⟩ hs hm1 (d := D) (s' := Y.s) (m' := Y.m) hDY _ _ .nil tb3 _ oT3 hT3 w (St.lentV hw))) rfl rfl n_h ?_
         rintro _ _ ⟨_, ⟨rfl, oU3, hU3, va3, Ga3, hV3, rfl⟩, rfl⟩
         obtain ⟨ba, cpa, spa, rfl, rfl, hc3, hl3, hm3⟩ := hV3.full (show Y.m.acc.length ≠ 0 by omega)
         refine c_u ?_
         refine d_mv rfl (vnf_eq rfl) rfl rfl ?_
         refine RD ?_
         refine RD ?_
         refine d_x rfl (x_storeTo (l' := cS Y.s) 1 rfl rfl rfl rfl rfl rfl (Nat.le_of_ble_eq_true rfl) rfl) rfl rfl n_h ?_
         rintro _ _ ⟨rfl, rfl⟩
         refine c_u ?_
         refine d_x rfl (x_storeTo (l' := cDd D) 0 rfl rfl rfl rfl rfl rfl (Nat.le_of_ble_eq_true rfl) rfl) rfl rfl n_h ?_
         rintro _ _ ⟨rfl, rfl⟩
         refine c_u ?_
         refine d_nil ?_
         exact ⟨(b14, b15, ba, cpa, spa), trivial, .cons rfl (.cons rfl .nil), a_g, fun _ h => (St.fl [[_], [_], [_], [_], [_], [_], [_], [_], [_], [_], [_], [_], [_], [_]] [0, 1, 8, 2, 3, 11, 12, 13] rfl h).as (by simp only [List.filterMap_cons, List.filterMap_nil, List.getElem?_cons_zero, List.getElem?_cons_succ, VV.fl, List.cons_append, List.nil_append])⟩
        exact d_stop
       refine d_fork ?_ ?_
       ·refine d_x rfl (x_alloc rfl) rfl rfl (by first | (intro h; cases h; done) | (intro _ _ _ hK x hx; obtain ⟨_, rfl, rfl⟩ := hK; obtain rfl := List.mem_singleton.1 hx; exact .tail _ m_m)) ?_
        rintro _ _ ⟨b15, rfl, rfl⟩
        refine d_fork ?_ ?_
        ·refine d_x rfl (x_callT (F := [(b15, _), (b77, _), (b75, _), (b11, _), (b10, _), (b9, _), (b8, _), (b7, _), (b3, _)]) (A := (tb3, _) :: ([] ++ [(b73, _), (b71, _)])) call_10 rfl (fun w hw => stepR_fn b73 b71 (n := 0) s ⟨fillB l1, []⟩ hs hm1 (d := D) (s' := Y.s) (m' := Y.m) hDY _ _ .nil tb3 _ oT3 hT3 w (St.lentV hw))) rfl rfl n_h ?_
         rintro _ _ ⟨_, ⟨rfl, oU3, hU3, va3, Ga3, hV3, rfl⟩, rfl⟩
         obtain ⟨ba, cpa, spa, rfl, rfl, hc3, hl3, hm3⟩ := hV3.full (show Y.m.acc.length ≠ 0 by omega)
         refine c_u ?_
         refine d_mv rfl (vnf_eq rfl) rfl rfl ?_
         refine RD ?_
         refine RD ?_
         refine d_x rfl (x_alloc rfl) rfl rfl (by first | (intro h; cases h; done) | (intro _ _ _ hK x hx; obtain ⟨_, rfl, rfl⟩ := hK; obtain rfl := List.mem_singleton.1 hx; exact .tail _ m_m)) ?_
         rintro _ _ ⟨b14, rfl, rfl⟩
         refine d_x rfl (x_storeTo (l' := cS Y.s) 0 rfl rfl rfl rfl rfl rfl (Nat.le_of_ble_eq_true rfl) rfl) rfl rfl n_h ?_
         rintro _ _ ⟨rfl, rfl⟩
         refine c_u ?_
         refine d_x rfl (x_storeTo (l' := cDd D) 1 rfl rfl rfl rfl rfl rfl (Nat.le_of_ble_eq_true rfl) rfl) rfl rfl n_h ?_
         rintro _ _ ⟨rfl, rfl⟩
         refine c_u ?_
         refine d_nil ?_
         exact ⟨(b14, b15, ba, cpa, spa), trivial, .cons rfl (.cons rfl .nil), a_g, fun _ h => (St.fl [[_], [_], [_], [_], [_], [_], [_], [_], [_], [_], [_], [_], [_], [_]] [1, 0, 8, 2, 3, 11, 12, 13] rfl h).as (by simp only [List.filterMap_cons, List.filterMap_nil, List.getElem?_cons_zero, List.getElem?_cons_succ, VV.fl, List.cons_append, List.nil_append])⟩
        refine d_fork ?_ ?_
        ·refine d_x rfl (x_alloc rfl) rfl rfl (by first | (intro h; cases h; done) | (intro _ _ _ hK x hx; obtain ⟨_, rfl, rfl⟩ := hK; obtain rfl := List.mem_singleton.1 hx; exact .tail _ m_m)) ?_
         rintro _ _ ⟨b14, rfl, rfl⟩
         refine d_x rfl (x_callT (F := [(b14, _), (b15, _), (b77, _), (b75, _), (b11, _), (b10, _), (b9, _), (b8, _), (b7, _), (b3, _)]) (A := (tb3, _) :: ([] ++ [(b73, _), (b71, _)])) call_10 rfl (fun w hw => stepR_fn b73 b71 (n := 0) s ⟨fillB l1, []⟩ hs hm1 (d := D) (s' := Y.s) (m' := Y.m) hDY _ _ .nil tb3 _ oT3 hT3 w (St.lentV hw))) rfl rfl n_h ?_
         rintro _ _ ⟨_, ⟨rfl, oU3, hU3, va3, Ga3, hV3, rfl⟩, rfl⟩
         obtain ⟨ba, cpa, spa, rfl, rfl, hc3, hl3, hm3⟩ := hV3.full (show Y.m.acc.length ≠ 0 by omega)
         refine c_u ?_
         refine d_mv rfl (vnf_eq rfl) rfl rfl ?_
         refine RD ?_
         refine RD ?_
         refine d_x rfl (x_storeTo (l' := cS Y.s) 0 rfl rfl rfl rfl rfl rfl (Nat.le_of_ble_eq_true rfl) rfl) rfl rfl n_h ?_
         rintro _ _ ⟨rfl, rfl⟩
         refine c_u ?_
         refine d_x rfl (x_storeTo (l' := cDd D) 1 rfl rfl rfl rfl rfl rfl (Nat.le_of_ble_eq_true rfl) rfl) rfl rfl n_h ?_
         rintro _ _ ⟨rfl, rfl⟩
         refine c_u ?_
         refine d_nil ?_
         exact ⟨(b14, b15, ba, cpa, spa), trivial, .cons rfl (.cons rfl .nil), a_g, fun _ h => (St.fl [[_], [_], [_], [_], [_], [_], [_], [_], [_], [_], [_], [_], [_], [_]] [1, 0, 8, 2, 3, 11, 12, 13] rfl h).as (by simp only [List.filterMap_cons, List.filterMap_nil, List.getElem?_cons_zero, List.getElem?_cons_succ, VV.fl, List.cons_append, List.nil_append])⟩
        exact d_stop
       exact d_stop
      refine d_fork ?_ ?_
      ·refine d_x rfl (x_alloc rfl) rfl rfl (by first | (intro h; cases h; done) | (intro _ _ _ hK x hx; obtain ⟨_, rfl, rfl⟩ := hK; obtain rfl := List.mem_singleton.1 hx; exact .tail _ m_m)) ?_
       rintro _ _ ⟨b14, rfl, rfl⟩
       refine d_fork ?_ ?_
       ·refine d_x rfl (x_call call_11 rfl (fun w hw => tnew_fn w)) rfl rfl (by first | (intro h; cases h; done) | (intro _ _ _ hK x hx; obtain ⟨_, _, rfl⟩ := hK; obtain rfl := List.mem_singleton.1 hx; exact List.mem_append_right _ m_m)) ?_
        rintro _ _ ⟨GT, ⟨tb3, rfl, hT3⟩, rfl⟩
        obtain ⟨oT3, rfl⟩ := hT3.one
        refine d_heap (fun _ h => St.fl [[_], [_], [_], [_], [_], [_], [_], [_], [_], [_], [_], [_]] [1, 2, 3, 6, 7, 8, 9, 10, 11, 0, 4, 5] rfl h) ?_
        simp only [List.filterMap_cons, List.filterMap_nil, List.getElem?_cons_zero, List.getElem?_cons_succ, VV.fl, List.cons_append, List.nil_append]
        refine d_fork ?_ ?_
        ·refine d_x rfl (x_callT (F := [(b14, _), (b77, _), (b75, _), (b11, _), (b10, _), (b9, _), (b8, _), (b7, _), (b3, _)]) (A := (tb3, _) :: ([] ++ [(b73, _), (b71, _)])) call_10 rfl (fun w hw => stepR_fn b73 b71 (n := 0) s ⟨fillB l1, []⟩ hs hm1 (d := D) (s' := Y.s) (m' := Y.m) hDY _ _ .nil tb3 _ oT3 hT3 w (St.lentV hw))) rfl rfl n_h ?_
         rintro _ _ ⟨_, ⟨rfl, oU3, hU3, va3, Ga3, hV3, rfl⟩, rfl⟩
         obtain ⟨ba, cpa, spa, rfl, rfl, hc3, hl3, hm3⟩ := hV3.full (show Y.m.acc.length ≠ 0 by omega)
         refine c_u ?_
         refine d_mv rfl (vnf_eq rfl) rfl rfl ?_
         refine RD ?_
         refine RD ?_
         refine d_x rfl (x_alloc rfl) rfl rfl (by first | (intro h; cases h; done) | (intro _ _ _ hK x hx; obtain ⟨_, rfl, rfl⟩ := hK; obtain rfl := List.mem_singleton.1 hx; exact .tail _ m_m)) ?_
         rintro _ _ ⟨b15, rfl, rfl⟩
         refine d_x rfl (x_storeTo (l' := cS Y.s) 1 rfl rfl rfl rfl rfl rfl (Nat.le_of_ble_eq_true rfl) rfl) rfl rfl n_h ?_
         rintro _ _ ⟨rfl, rfl⟩
         refine c_u ?_
         refine d_x rfl (x_storeTo (l' := cDd D) 0 rfl rfl rfl rfl rfl rfl (Nat.le_of_ble_eq_true rfl) rfl) rfl rfl n_h ?_
         rintro _ _ ⟨rfl, rfl⟩
         refine c_u ?_
         refine d_nil ?_
         exact ⟨(b14, b15, ba, cpa, spa), trivial, .cons rfl (.cons rfl .nil), a_g, fun _ h => (St.fl [[_], [_], [_], [_], [_], [_], [_], [_], [_], [_], [_], [_], [_], [_]] [0, 1, 8, 2, 3, 11, 12, 13] rfl h).as (by simp only [List.filterMap_cons, List.filterMap_nil, List.getElem?_cons_zero, List.getElem?_cons_succ, VV.fl, List.cons_append, List.nil_append])⟩
        refine d_fork ?_ ?_
        ·refine d_x rfl (x_alloc rfl) rfl rfl (by first | (intro h; cases h; done) | (intro _ _ _ hK x hx; obtain ⟨_, rfl, rfl⟩ := hK; obtain rfl := List.mem_singleton.1 hx; exact .tail _ m_m)) ?_
         rintro _ _ ⟨b15, rfl, rfl⟩
         refine d_x rfl (x_callT (F := [(b15, _), (b14, _), (b77, _), (b75, _), (b11, _), (b10, _), (b9, _), (b8, _), (b7, _), (b3, _)]) (A := (tb3, _) :: ([] ++ [(b73, _), (b71, _)])) call_10 rfl (fun w hw => stepR_fn b73 b71 (n := 0) s ⟨fillB l1, []⟩ hs hm1 (d := D) (s' := Y.s) (m' := Y.m) hDY _ _ .nil tb3 _ oT3 hT3 w (St.lentV hw))) rfl rfl n_h ?_
         rintro _ _ ⟨_, ⟨rfl, oU3, hU3, va3, Ga3, hV3, rfl⟩, rfl⟩
         obtain ⟨ba, cpa, spa, rfl, rfl, hc3, hl3, hm3⟩ := hV3.full (show Y.m.acc.length ≠ 0 by omega)
         refine c_u ?_
         refine d_mv rfl (vnf_eq rfl) rfl rfl ?_
         refine RD ?_
         refine RD ?_
         refine d_x rfl (x_storeTo (l' := cS Y.s) 1 rfl rfl rfl rfl rfl rfl (Nat.le_of_ble_eq_true rfl) rfl) rfl rfl n_h ?_
         rintro _ _ ⟨rfl, rfl⟩
         refine c_u ?_
         refine d_x rfl (x_storeTo (l' := cDd D) 0 rfl rfl rfl rfl rfl rfl (Nat.le_of_ble_eq_true rfl) rfl) rfl rfl n_h ?_
         rintro _ _ ⟨rfl, rfl⟩
         refine c_u ?_
         refine d_nil ?_
         exact ⟨(b14, b15, ba, cpa, spa), trivial, .cons rfl (.cons rfl .nil), a_g, fun _ h => (St.fl [[_], [_], [_], [_], [_], [_], [_], [_], [_], [_], [_], [_], [_], [_]] [0, 1, 8, 2, 3, 11, 12, 13] rfl h).as (by simp only [List.filterMap_cons, List.filterMap_nil, List.getElem?_cons_zero, List.getElem?_cons_succ, VV.fl, List.cons_append, List.nil_append])⟩
        exact d_stop
       refine d_fork ?_ ?_
       ·refine d_x rfl (x_alloc rfl) rfl rfl (by first | (intro h; cases h; done) | (intro _ _ _ hK x hx; obtain ⟨_, rfl, rfl⟩ := hK; obtain rfl := List.mem_singleton.1 hx; exact .tail _ m_m)) ?_
        rintro _ _ ⟨b15, rfl, rfl⟩
        refine d_x rfl (x_call call_11 rfl (fun w hw => tnew_fn w)) rfl rfl (by first | (intro h; cases h; done) | (intro _ _ _ hK x hx; obtain ⟨_, _, rfl⟩ := hK; obtain rfl := List.mem_singleton.1 hx; exact List.mem_append_right _ m_m)) ?_
        rintro _ _ ⟨GT, ⟨tb3, rfl, hT3⟩, rfl⟩
        obtain ⟨oT3, rfl⟩ := hT3.one
        refine d_heap (fun _ h => St.fl [[_], [_], [_], [_], [_], [_], [_], [_], [_], [_], [_], [_], [_]] [1, 2, 3, 4, 7, 8, 9, 10, 11, 12, 0, 5, 6] rfl h) ?_
        simp only [List.filterMap_cons, List.filterMap_nil, List.getElem?_cons_zero, List.getElem?_cons_succ, VV.fl, List.cons_append, List.nil_append]
        refine d_x rfl (x_callT (F := [(b15, _), (b14, _), (b77, _), (b75, _), (b11, _), (b10, _), (b9, _), (b8, _), (b7, _), (b3, _)]) (A := (tb3, _) :: ([] ++ [(b73, _), (b71, _)])) call_10 rfl (fun w hw => stepR_fn b73 b71 (n := 0) s ⟨fillB l1, []⟩ hs hm1 (d := D) (s' := Y.s) (m' := Y.m) hDY _ _ .nil tb3 _ oT3 hT3 w (St.lentV hw))) rfl rfl n_h ?_
        rintro _ _ ⟨_, ⟨rfl, oU3, hU3, va3, Ga3, hV3, rfl⟩, rfl⟩
        obtain ⟨ba, cpa, spa, rfl, rfl, hc3, hl3, hm3⟩ := hV3.full (show Y.m.acc.length ≠ 0 by omega)
        refine c_u ?_
        refine d_mv rfl (vnf_eq rfl) rfl rfl ?_
        refine RD ?_
        refine RD ?_
        refine d_x rfl (x_storeTo (l' := cS Y.s) 1 rfl rfl rfl rfl rfl rfl (Nat.le_of_ble_eq_true rfl) rfl) rfl rfl n_h ?_
        rintro _ _ ⟨rfl, rfl⟩
        refine c_u ?_
        refine d_x rfl (x_storeTo (l' := cDd D) 0 rfl rfl rfl rfl rfl rfl (Nat.le_of_ble_eq_true rfl) rfl) rfl rfl n_h ?_
        rintro _ _ ⟨rfl, rfl⟩
        refine c_u ?_
        refine d_nil ?_
        exact ⟨(b14, b15, ba, cpa, spa), trivial, .cons rfl (.cons rfl .nil), a_g, fun _ h => (St.fl [[_], [_], [_], [_], [_], [_], [_], [_], [_], [_], [_], [_], [_], [_]] [0, 1, 8, 2, 3, 11, 12, 13] rfl h).as (by simp only [List.filterMap_cons, List.filterMap_nil, List.getElem?_cons_zero, List.getElem?_cons_succ, VV.fl, List.cons_append, List.nil_append])⟩
       exact d_stop
      refine d_fork ?_ ?_
      ·refine d_x rfl (x_alloc rfl) rfl rfl (by first | (intro h; cases h; done) | (intro _ _ _ hK x hx; obtain ⟨_, rfl, rfl⟩ := hK; obtain rfl := List.mem_singleton.1 hx; exact .tail _ m_m)) ?_
       rintro _ _ ⟨b15, rfl, rfl⟩
       refine d_fork ?_ ?_
       ·refine d_x rfl (x_call call_11 rfl (fun w hw => tnew_fn w)) rfl rfl (by first | (intro h; cases h; done) | (intro _ _ _ hK x hx; obtain ⟨_, _, rfl⟩ := hK; obtain rfl := List.mem_singleton.1 hx; exact List.mem_append_right _ m_m)) ?_
        rintro _ _ ⟨GT, ⟨tb3, rfl, hT3⟩, rfl⟩
        obtain ⟨oT3, rfl⟩ := hT3.one
        refine d_heap (fun _ h => St.fl [[_], [_], [_], [_], [_], [_], [_], [_], [_], [_], [_], [_]] [1, 2, 3, 6, 7, 8, 9, 10, 11, 0, 4, 5] rfl h) ?_
        simp only [List.filterMap_cons, List.filterMap_nil, List.getElem?_cons_zero, List.getElem?_cons_succ, VV.fl, List.cons_append, List.nil_append]
        refine d_fork ?_ ?_
        ·refine d_x rfl (x_callT (F := [(b15, _), (b77, _), (b75, _), (b11, _), (b10, _), (b9, _), (b8, _), (b7, _), (b3, _)]) (A := (tb3, _) :: ([] ++ [(b73, _), (b71, _)])) call_10 rfl (fun w hw => stepR_fn b73 b71 (n := 0) s ⟨fillB l1, []⟩ hs hm1 (d := D) (s' := Y.s) (m' := Y.m) hDY _ _ .nil tb3 _ oT3 hT3 w (St.lentV hw))) rfl rfl n_h ?_
         rintro _ _ ⟨_, ⟨rfl, oU3, hU3, va3, Ga3, hV3, rfl⟩, rfl⟩
         obtain ⟨ba, cpa, spa, rfl, rfl, hc3, hl3, hm3⟩ := hV3.full (show Y.m.acc.length ≠ 0 by omega)
         refine c_u ?_
         refine d_mv rfl (vnf_eq rfl) rfl rfl ?_
         refine RD ?_
         refine RD ?_
         refine d_x rfl (x_alloc rfl) rfl rfl (by first | (intro h; cases h; done) | (intro _ _ _ hK x hx; obtain ⟨_, rfl, rfl⟩ := hK; obtain rfl := List.mem_singleton.1 hx; exact .tail _ m_m)) ?_
         rintro _ _ ⟨b14, rfl, rfl⟩
         refine d_x rfl (x_storeTo (l' := cS Y.s) 0 rfl rfl rfl rfl rfl rfl (Nat.le_of_ble_eq_true rfl) rfl) rfl rfl n_h ?_
         rintro _ _ ⟨rfl, rfl⟩
         refine c_u ?_
         refine d_x rfl (x_storeTo (l' := cDd D) 1 rfl rfl rfl rfl rfl rfl (Nat.le_of_ble_eq_true rfl) rfl) rfl rfl n_h ?_
         rintro _ _ ⟨rfl, rfl⟩
         refine c_u ?_
         refine d_nil ?_
         exact ⟨(b14, b15, ba, cpa, spa), trivial, .cons rfl (.cons rfl .nil), a_g, fun _ h => (St.fl [[_], [_], [_], [_], [_], [_], [_], [_], [_], [_], [_], [_], [_], [_]] [1, 0, 8, 2, 3, 11, 12, 13] rfl h).as (by simp only [List.filterMap_cons, List.filterMap_nil, List.getElem?_cons_zero, List.getElem?_cons_succ, VV.fl, List.cons_append, List.nil_append])⟩
        refine d_fork ?_ ?_
        ·refine d_x rfl (x_alloc rfl) rfl rfl (by first | (intro h; cases h; done) | (intro _ _ _ hK x hx; obtain ⟨_, rfl, rfl⟩ := hK; obtain rfl := List.mem_singleton.1 hx; exact .tail _ m_m)) ?_
         rintro _ _ ⟨b14, rfl, rfl⟩
         refine d_x rfl (x_callT (F := [(b14, _), (b15, _), (b77, _), (b75, _), (b11, _), (b10, _), (b9, _), (b8, _), (b7, _), (b3, _)]) (A := (tb3, _) :: ([] ++ [(b73, _), (b71, _)])) call_10 rfl (fun w hw => stepR_fn b73 b71 (n := 0) s ⟨fillB l1, []⟩ hs hm1 (d := D) (s' := Y.s) (m' := Y.m) hDY _ _ .nil tb3 _ oT3 hT3 w (St.lentV hw))) rfl rfl n_h ?_
         rintro _ _ ⟨_, ⟨rfl, oU3, hU3, va3, Ga3, hV3, rfl⟩, rfl⟩
         obtain ⟨ba, cpa, spa, rfl, rfl, hc3, hl3, hm3⟩ := hV3.full (show Y.m.acc.length ≠ 0 by omega)
         refine c_u ?_
         refine d_mv rfl (vnf_eq rfl) rfl rfl ?_
         refine RD ?_
         refine RD ?_
         refine d_x rfl (x_storeTo (l' := cS Y.s) 0 rfl rfl rfl rfl rfl rfl (Nat.le_of_ble_eq_true rfl) rfl) rfl rfl n_h ?_
         rintro _ _ ⟨rfl, rfl⟩
         refine c_u ?_
         refine d_x rfl (x_storeTo (l' := cDd D) 1 rfl rfl rfl rfl rfl rfl (Nat.le_of_ble_eq_true rfl) rfl) rfl rfl n_h ?_
         rintro _ _ ⟨rfl, rfl⟩
         refine c_u ?_
         refine d_nil ?_
         exact ⟨(b14, b15, ba, cpa, spa), trivial, .cons rfl (.cons rfl .nil), a_g, fun _ h => (St.fl [[_], [_], [_], [_], [_], [_], [_], [_], [_], [_], [_], [_], [_], [_]] [1, 0, 8, 2, 3, 11, 12, 13] rfl h).as (by simp only [List.filterMap_cons, List.filterMap_nil, List.getElem?_cons_zero, List.getElem?_cons_succ, VV.fl, List.cons_append, List.nil_append])⟩
        exact d_stop
       refine d_fork ?_ ?_
       ·refine d_x rfl (x_alloc rfl) rfl rfl (by first | (intro h; cases h; done) | (intro _ _ _ hK x hx; obtain ⟨_, rfl, rfl⟩ := hK; obtain rfl := List.mem_singleton.1 hx; exact .tail _ m_m)) ?_
        rintro _ _ ⟨b14, rfl, rfl⟩
        refine d_x rfl (x_call call_11 rfl (fun w hw => tnew_fn w)) rfl rfl (by first | (intro h; cases h; done) | (intro _ _ _ hK x hx; obtain ⟨_, _, rfl⟩ := hK; obtain rfl := List.mem_singleton.1 hx; exact List.mem_append_right _ m_m)) ?_
        rintro _ _ ⟨GT, ⟨tb3, rfl, hT3⟩, rfl⟩
        obtain ⟨oT3, rfl⟩ := hT3.one
        refine d_heap (fun _ h => St.fl [[_], [_], [_], [_], [_], [_], [_], [_], [_], [_], [_], [_], [_]] [1, 2, 3, 4, 7, 8, 9, 10, 11, 12, 0, 5, 6] rfl h) ?_
        simp only [List.filterMap_cons, List.filterMap_nil, List.getElem?_cons_zero, List.getElem?_cons_succ, VV.fl, List.cons_append, List.nil_append]
        refine d_x rfl (x_callT (F := [(b14, _), (b15, _), (b77, _), (b75, _), (b11, _), (b10, _), (b9, _), (b8, _), (b7, _), (b3, _)]) (A := (tb3, _) :: ([] ++ [(b73, _), (b71, _)])) call_10 rfl (fun w hw => stepR_fn b73 b71 (n := 0) s ⟨fillB l1, []⟩ hs hm1 (d := D) (s' := Y.s) (m' := Y.m) hDY _ _ .nil tb3 _ oT3 hT3 w (St.lentV hw))) rfl rfl n_h ?_
        rintro _ _ ⟨_, ⟨rfl, oU3, hU3, va3, Ga3, hV3, rfl⟩, rfl⟩
        obtain ⟨ba, cpa, spa, rfl, rfl, hc3, hl3, hm3⟩ := hV3.full (show Y.m.acc.length ≠ 0 by omega)
        refine c_u ?_
        refine d_mv rfl (vnf_eq rfl) rfl rfl ?_
        refine RD ?_
        refine RD ?_
        refine d_x rfl (x_storeTo (l' := cS Y.s) 0 rfl rfl rfl rfl rfl rfl (Nat.le_of_ble_eq_true rfl) rfl) rfl rfl n_h ?_
        rintro _ _ ⟨rfl, rfl⟩
        refine c_u ?_
        refine d_x rfl (x_storeTo (l' := cDd D) 1 rfl rfl rfl rfl rfl rfl (Nat.le_of_ble_eq_true rfl) rfl) rfl rfl n_h ?_
        rintro _ _ ⟨rfl, rfl⟩
        refine c_u ?_
        refine d_nil ?_
        exact ⟨(b14, b15, ba, cpa, spa), trivial, .cons rfl (.cons rfl .nil), a_g, fun _ h => (St.fl [[_], [_], [_], [_], [_], [_], [_], [_], [_], [_], [_], [_], [_], [_]] [1, 0, 8, 2, 3, 11, 12, 13] rfl h).as (by simp only [List.filterMap_cons, List.filterMap_nil, List.getElem?_cons_zero, List.getElem?_cons_succ, VV.fl, List.cons_append, List.nil_append])⟩
       exact d_stop
      exact d_stop
     ·rintro ⟨b14, b15, ba, cpa, spa⟩ y9 hJ
      dsimp only at hJ ⊢
      refine c_seq ?_
      refine c_seq ?_
      obtain ⟨he_, ha_⟩ : True ∧ True := ⟨trivial, trivial⟩
      refine c_region ?_
      refine RL ?_
      refine RL ?_
      refine RLa ?_
      refine RLo ?_
      refine l_l l_n rfl rfl ?_
      refine RL ?_
      refine l_nil ?_
      refine c_block ?_
      refine c_loop (σ := Nat) [16, 91, 92, 93, 94, 95, 96, 97, 98, 99, 100, 101, 102, 103, 104, 105, 106, 107, 108, 109, 110, 111, 112, 113, 114, 115, 116, 117, 118, 119, 120, 121, 122, 123, 124, 125, 126, 127, 128, 129, 130, 131, 132, 133, 134, 135] (fun i => [(91, .int .i64 i)]) (fun i => (b15, blk (cDd D) 40) :: (b14, blk (cS Y.s) 35) :: (b7, blk (cS s) 35) :: (b77, blk [.slice (some ⟨b75, 0, none⟩) 65536 65536, .slice none 0 0] 32) :: (b75, blk ((patch (fillB l2) (Y.m.acc.take i)).map (.int .u8)) 5) :: (ba, blk (flat cAc Y.m.acc ++ spa) 47) :: (b73, blk [.slice (some ⟨b71, 0, none⟩) 65536 65536, .slice (some ⟨ba, 0, none⟩) Y.m.acc.length cpa] 32) :: [(b71, blk (Y.m.b.map (.int .u8)) 5)]) (fun i => i ≤ Y.m.acc.length) (fun i => Y.m.acc.length - i) 0 ?_ ?_ ?_ ?_
      ·exact Nat.zero_le _
      ·exact .cons rfl .nil
      ·exact fun _ h => h
      ·intro i y11 hi
       refine c_seq ?_
       refine c_region ?_
       refine RL ?_
       refine l_nil ?_
       refine c_seq ?_
       refine c_cond rfl (fun h3 => ?_) (fun h3 => ?_)
       ·have h3n := r_f h3
        refine c_skip ?_
        refine c_seq ?_
        refine c_block ?_
        refine c_seq ?_
        obtain ⟨e9, he9⟩ : ∃ e, Y.m.acc[i]? = some e := ⟨_, get_some o_m⟩
        have hae9 := ok9.m.accs e9 (List.mem_of_getElem? he9)
        refine c_region ?_
        refine RL ?_
        refine RL ?_
        refine l_nil ?_
        refine c_keep [94, 95, 96, 97, 98, 99, 100, 101, 102, 103, 104, 105, 106, 107, 108, 109, 110, 111, 112, 113] [(113, .bool (decide (rdB e9)))] ?_ (fun y13 => ?_)
        ·refine c_region ?_
         refine RL ?_
         refine RL ?_
         refine RLa ?_
         refine RLo ?_
         refine RL ?_
         refine l_l (idx_slice (s := 3) i rfl rfl rfl rfl o_m) rfl rfl ?_
         refine RLa ?_
         refine l_x (x_load rfl rfl (fun w hw => by have h9 := (Row.left (row_own (b := ba) (l := flat cAc Y.m.acc ++ spa) m_m w hw)).at cAc_len he9 0 rfl; simpa using h9)) rfl rfl ?_
         rintro _ _ ⟨rfl, rfl⟩
         refine RL ?_
         refine RLb (fun h4 => ?_) (fun h4 => ?_)
         ·have h4n := r_f h4
          refine RL ?_
          refine RL ?_
          refine RLa ?_
          refine RLo ?_
          refine RL ?_
          refine l_l (idx_slice (s := 3) i rfl rfl rfl rfl o_m) rfl rfl ?_
          refine RLa ?_
          refine l_x (x_load rfl rfl (fun w hw => by have h9 := (Row.left (row_own (b := ba) (l := flat cAc Y.m.acc ++ spa) m_m w hw)).at cAc_len he9 0 rfl; simpa using h9)) rfl rfl ?_
          rintro _ _ ⟨rfl, rfl⟩
          refine RL ?_
          refine RL ?_
          refine l_nil ?_
          exact ⟨.cons (congrArg Value.bool (by rw [Bool.eq_iff_iff]; unfold rdB; simp_all)) .nil, a_g, fun _ h => h⟩
         ·have h4n := r_f h4
          iterate 9 refine RLp ?_
          refine RL ?_
          refine l_nil ?_
          exact ⟨.cons (congrArg Value.bool (by rw [Bool.eq_iff_iff]; unfold rdB; simp_all)) .nil, a_g, fun _ h => h⟩
        ·refine c_cond rfl (fun h5 => ?_) (fun h5 => ?_)
         ·have h5n := r_f h5
          refine c_draw _ [4, 5, 6, 7, 8, 9, 10, 11, 12, 13, 14, 15, 16, 17, 18, 19] (.step true 0 (.step true 1 (.step true 2 (.step true 3 (.step true 4 (.step true 5 (.step true 6 (.step true 7 (.step true 8 (.step true 9 (.step true 10 (.step true 11 (.step true 12 (.step true 13 (.step true 14 (.step true 15 (.step true 16 (.step true 17 (.step true 18 (.step true 19 (.step true 20 (.step false 21 .done)))))))))))))))))))))) rfl (by kernel_rfl) (by kernel_rfl) (fun _ h => h) ?_
          refine RD ?_
          refine RD ?_
          refine RDa ?_
          refine RDo ?_
          refine RD ?_
          refine RD ?_
          refine RDa ?_
          refine RDo ?_
          refine RD ?_
          refine d_light rfl (idx_slice (s := 3) i rfl rfl rfl rfl o_m) rfl rfl rfl ?_
          refine RDa ?_
          refine d_load rfl rfl rfl (fun w hw => by have h9 := (Row.left (srow_own (b := ba) (l := flat cAc Y.m.acc ++ spa) m_m w hw)).at cAc_len he9 1 rfl; simpa using h9) rfl rfl ?_
          refine RD ?_
          refine RD ?_
          refine RDa ?_
          refine RDo ?_
          refine RD ?_
          refine d_light rfl (idx_slice (s := 3) i rfl rfl rfl rfl o_m) rfl rfl rfl ?_
          refine RDa ?_
          refine d_load rfl rfl rfl (fun w hw => by have h9 := (Row.left (srow_own (b := ba) (l := flat cAc Y.m.acc ++ spa) m_m w hw)).at cAc_len he9 2 rfl; simpa using h9) rfl rfl ?_
          refine d_light rfl (idx_sliceI rfl rfl rfl o_m o_m) rfl rfl rfl ?_
          refine d_x rfl (x_storeTo (l' := ((patch (fillB l2) (Y.m.acc.take i)).set e9.addr.toNat e9.val).map (.int .u8)) 4 rfl rfl rfl rfl rfl rfl (fits_in (by rw [patch_len, fillB_len]) hae9.1) (put_in (by rw [patch_len, fillB_len]) hae9.1 _)) rfl rfl n_h ?_
          rintro _ _ ⟨rfl, rfl⟩
          refine c_u ?_
          refine d_nil ?_
          refine c_region ?_
          refine l_as (v := (.int .i64 ((i + 1 : Nat) : Int))) rfl rfl rfl (congrArg _ (succ_law o_m)) ?_
          refine RL ?_
          refine l_nil ?_
          exact ⟨i + 1, by omega, by omega, .cons rfl .nil, a_g, fun _ h => by rw [patch_next he9, if_pos h5n]; exact h⟩
         ·have h5n := r_f h5
          refine c_skip ?_
          refine c_region ?_
          refine l_as (v := (.int .i64 ((i + 1 : Nat) : Int))) rfl rfl rfl (congrArg _ (succ_law o_m)) ?_
          refine RL ?_
          refine l_nil ?_
          exact ⟨i + 1, by omega, by omega, .cons rfl .nil, a_g, fun _ h => by rw [patch_next he9, if_neg h5n]; exact h⟩
       ·have h3n := r_f h3
        refine c_exit rfl ?_
        refine c_seq ?_
        rw [List.take_of_length_le (show Y.m.acc.length ≤ i by omega)]
        refine c_draw _ [4, 5, 6, 7, 8, 9, 10, 11, 12, 13, 14, 15] (.step true 0 (.step true 1 (.step true 2 (.step true 3 (.step true 4 (.step true 5 (.step true 6 (.step true 7 (.step true 8 (.step true 12 (.step false 9 (.step true 10 (.fork 11 (.step false 13 (.step true 14 (.step false 15 (.step true 16 (.step false 17 (.step true 18 (.step false 19 .done))))))) (.fork 13 (.step true 14 (.fork 11 (.step false 15 (.step true 16 (.step false 17 (.step true 18 (.step false 19 .done))))) (.fork 15 (.step false 11 (.step true 16 (.step false 17 (.step true 18 (.step false 19 .done))))) .stop))) .stop)))))))))))))) rfl (by kernel_rfl) (by kernel_rfl) (fun _ h => h) ?_
        refine RD ?_
        refine RD ?_
        refine RDa ?_
        refine RDo ?_
        refine RD ?_
        refine RD ?_
        refine RDa ?_
        refine RDo ?_
        refine RD ?_
        refine RD ?_
        refine d_x rfl (x_call call_13 rfl (fun w hw => filled_fn l1 hb1 hk1 a1 c1 w (hN1.later0 hw))) rfl rfl (by first | (intro h; cases h; done) | (intro _ _ _ hK x hx; obtain ⟨_, ⟨_, _, rfl⟩, rfl⟩ := hK; repeat (first | exact hx | refine .tail _ ?_ | refine List.mem_append_right _ ?_))) ?_
        rintro _ _ ⟨_, ⟨b145, rfl, rfl⟩, rfl⟩
        refine c_u ?_
        refine d_light rfl (idx_slice1 (65295 : Int).toNat rfl rfl rfl rfl (by decide)) rfl rfl rfl ?_
        refine d_fork ?_ ?_
        ·refine d_x rfl (x_load rfl rfl (at_own m_m (byte_in (l := fillB l1) (fillB_len l1) (a := 65295) (by decide)))) rfl rfl (by intro _ _ _ hK x hx; obtain ⟨rfl, rfl⟩ := hK; repeat (first | exact hx | exact List.mem_append_left _ hx | refine List.mem_append_right _ ?_ | refine .tail _ ?_)) ?_
         rintro _ _ ⟨rfl, rfl⟩
         refine d_x rfl (x_call call_13 rfl (fun w hw => filled_fn l1 hb1 hk1 a1 c1 w (hN1.later0 hw))) rfl rfl (by first | (intro h; cases h; done) | (intro _ _ _ hK x hx; obtain ⟨_, ⟨_, _, rfl⟩, rfl⟩ := hK; repeat (first | exact hx | refine .tail _ ?_ | refine List.mem_append_right _ ?_))) ?_
         rintro _ _ ⟨_, ⟨b149, rfl, rfl⟩, rfl⟩
         refine c_u ?_
         refine d_light rfl (idx_slice1 (65535 : Int).toNat rfl rfl rfl rfl (by decide)) rfl rfl rfl ?_
         refine d_x rfl (x_load rfl rfl (at_own m_m (byte_in (l := fillB l1) (fillB_len l1) (a := 65535) (by decide)))) rfl rfl (by intro _ _ _ hK x hx; obtain ⟨rfl, rfl⟩ := hK; repeat (first | exact hx | exact List.mem_append_left _ hx | refine List.mem_append_right _ ?_ | refine .tail _ ?_)) ?_
         rintro _ _ ⟨rfl, rfl⟩
         refine d_light rfl (idx_slice1 (65295 : Int).toNat rfl rfl rfl rfl (by decide)) rfl rfl rfl ?_
         refine d_x rfl (x_storeTo (l' := ((patch (fillB l2) Y.m.acc).set 65295 (atB (fillB l1) 65295)).map (.int .u8)) 6 rfl rfl rfl rfl rfl rfl (store_fits (by rw [patch_len, fillB_len]) 65295 (by decide)) (store_in (by rw [patch_len, fillB_len]) 65295 (by decide) _)) rfl rfl n_h ?_
         rintro _ _ ⟨rfl, rfl⟩
         refine c_u ?_
         refine d_light rfl (idx_slice1 (65535 : Int).toNat rfl rfl rfl rfl (by decide)) rfl rfl rfl ?_
         refine d_x rfl (x_storeTo (l' := (((patch (fillB l2) Y.m.acc).set 65295 (atB (fillB l1) 65295)).set 65535 (atB (fillB l1) 65535)).map (.int .u8)) 6 rfl rfl rfl rfl rfl rfl (store_fits (by rw [List.length_set, patch_len, fillB_len]) 65535 (by decide)) (store_in (by rw [List.length_set, patch_len, fillB_len]) 65535 (by decide) _)) rfl rfl n_h ?_
         rintro _ _ ⟨rfl, rfl⟩
         refine c_u ?_
         refine d_nil ?_
         refine c_cut (σ := Nat × Nat × Nat × Nat × List Value) [17, 18, 154, 155, 156, 157, 158, 159, 160, 161] (fun q => [(17, .pointer (some ⟨q.1, 0, none⟩)), (18, .pointer (some ⟨q.2.1, 0, none⟩))]) (fun q => (q.2.1, blk (cDd D) 40) :: (q.1, blk (cS Y.s) 35) :: (b15, blk (cDd D) 40) :: (b14, blk (cS Y.s) 35) :: (b77, blk [.slice (some ⟨b75, 0, none⟩) 65536 65536, .slice (some ⟨q.2.2.1, 0, none⟩) Y.m.acc.length q.2.2.2.1] 32) :: (q.2.2.1, blk (flat cAc Y.m.acc ++ q.2.2.2.2) 47) :: (ba, blk (flat cAc Y.m.acc ++ spa) 47) :: [(b73, blk [.slice (some ⟨b71, 0, none⟩) 65536 65536, .slice (some ⟨ba, 0, none⟩) Y.m.acc.length cpa] 32)]) (fun q => True) ?_ ?_
         ·obtain ⟨ob9, hD2⟩ := nil_law (s := s) (fillB_len l1) (fillB_len l2) hDY (fun e he => (ok9.m.accs e he).1)
          have hm2 : RamOk (0 + 7) ⟨(((patch (fillB l2) Y.m.acc).set 65295 (atB (fillB l1) 65295)).set 65535 (atB (fillB l1) 65535)), []⟩ := ⟨by rw [List.length_set, List.length_set, patch_len, fillB_len], byts_set (byts_set (patch_byts (fillB_ok hb2) (fun e he => (ok9.m.accs e he).2)) _ ((fillB_ok hb1).get _)) _ ((fillB_ok hb1).get _), show 0 + (0 + 7) ≤ 1000000 by decide, fun _ h => by cases h⟩
          refine c_heap (fun _ h => St.fl [[_], [_], [_], [_], [_], [_], [_], [_], [_], [_]] [2, 3, 4, 5, 6, 7, 8] rfl h) ?_
          simp only [List.filterMap_cons, List.filterMap_nil, List.getElem?_cons_zero, List.getElem?_cons_succ, VV.fl, List.cons_append, List.nil_append]
          refine c_draw [(b7, blk (cS s) 35)] [0, 2, 3, 8, 9] (.step true 1 (.step true 2 (.step true 3 (.fork 0 (.fork 4 (.step true 5 (.step true 6 (.step true 7 (.fork 8 (.step false 9 (.step false 10 (.step false 11 .done))) (.fork 9 (.step false 8 (.step false 10 (.step false 11 .done))) .stop))))) (.fork 8 (.fork 4 (.step true 5 (.step true 6 (.step true 7 (.step false 9 (.step false 10 (.step false 11 .done)))))) (.fork 9 (.step false 4 (.step true 5 (.step true 6 (.step true 7 (.step false 10 (.step false 11 .done)))))) .stop)) (.fork 9 (.fork 4 (.step true 5 (.step true 6 (.step true 7 (.step false 8 (.step false 10 (.step false 11 .done)))))) (.fork 8 (.step false 4 (.step true 5 (.step true 6 (.step true 7 (.step false 10 (.step false 11 .done)))))) .stop)) .stop))) (.fork 8 (.fork 0 (.fork 4 (.step true 5 (.step true 6 (.step true 7 (.step false 9 (.step false 10 (.step false 11 .done)))))) (.fork 9 (.step false 4 (.step true 5 (.step true 6 (.step true 7 (.step false 10 (.step false 11 .done)))))) .stop)) (.fork 9 (.step false 0 (.step false 4 (.step true 5 (.step true 6 (.step true 7 (.step false 10 (.step false 11 .done))))))) .stop)) (.fork 9 (.fork 0 (.fork 4 (.step true 5 (.step true 6 (.step true 7 (.step false 8 (.step false 10 (.step false 11 .done)))))) (.fork 8 (.step false 4 (.step true 5 (.step true 6 (.step true 7 (.step false 10 (.step false 11 .done)))))) .stop)) (.fork 8 (.step false 0 (.step false 4 (.step true 5 (.step true 6 (.step true 7 (.step false 10 (.step false 11 .done))))))) .stop)) .stop)))))) rfl (by kernel_rfl) (by kernel_rfl) (fun x hx => by obtain rfl := List.mem_singleton.1 hx; exact m_m) ?_
          refine d_loadA rfl rfl rfl rfl (srow_own (l := cS s) m_m) rfl rfl ?_
          refine RD ?_
          refine RD ?_
          refine d_fork ?_ ?_
          ·refine d_x rfl (x_call call_11 rfl (fun w hw => tnew_fn w)) rfl rfl (by first | (intro h; cases h; done) | (intro _ _ _ hK x hx; obtain ⟨_, _, rfl⟩ := hK; obtain rfl := List.mem_singleton.1 hx; exact List.mem_append_right _ m_m)) ?_
           rintro _ _ ⟨GT, ⟨tb4, rfl, hT4⟩, rfl⟩
           obtain ⟨oT4, rfl⟩ := hT4.one
           refine d_heap (fun _ h => St.fl [[_], [_], [_], [_], [_], [_], [_], [_]] [1, 2, 3, 6, 7, 0, 4, 5] rfl h) ?_
           simp only [List.filterMap_cons, List.filterMap_nil, List.getElem?_cons_zero, List.getElem?_cons_succ, VV.fl, List.cons_append, List.nil_append]
           refine d_fork ?_ ?_
           ·refine d_x rfl (x_callT (F := [(b15, _), (b14, _), (b7, _), (ba, _), (b73, _)]) (A := (tb4, _) :: ([] ++ [(b77, _), (b75, _)])) call_10 rfl (fun w hw => stepR_fn b77 b75 (n := 0) s ⟨(((patch (fillB l2) Y.m.acc).set 65295 (atB (fillB l1) 65295)).set 65535 (atB (fillB l1) 65535)), []⟩ hs hm2 (d := D) (s' := Y.s) (m' := ⟨ob9, Y.m.acc⟩) hD2 _ _ .nil tb4 _ oT4 hT4 w (St.lentV hw))) rfl rfl n_h ?_
            rintro _ _ ⟨_, ⟨rfl, oU4, hU4, va4, Ga4, hV4, rfl⟩, rfl⟩
            obtain ⟨bz, cpz, spz, rfl, rfl, hc4, hl4, hm4⟩ := hV4.full (show Y.m.acc.length ≠ 0 by omega)
            refine c_u ?_
            refine d_mv rfl (vnf_eq rfl) rfl rfl ?_
            refine RD ?_
            refine RD ?_
            refine d_fork ?_ ?_
            ·refine d_x rfl (x_alloc rfl) rfl rfl (by first | (intro h; cases h; done) | (intro _ _ _ hK x hx; obtain ⟨_, rfl, rfl⟩ := hK; obtain rfl := List.mem_singleton.1 hx; exact .tail _ m_m)) ?_
             rintro _ _ ⟨b17, rfl, rfl⟩
             refine d_x rfl (x_alloc rfl) rfl rfl (by first | (intro h; cases h; done) | (intro _ _ _ hK x hx; obtain ⟨_, rfl, rfl⟩ := hK; obtain rfl := List.mem_singleton.1 hx; exact .tail _ m_m)) ?_
             rintro _ _ ⟨b18, rfl, rfl⟩
             refine d_x rfl (x_storeTo (l' := cS Y.s) 1 rfl rfl rfl rfl rfl rfl (Nat.le_of_ble_eq_true rfl) rfl) rfl rfl n_h ?_
             rintro _ _ ⟨rfl, rfl⟩
             refine c_u ?_
             refine d_x rfl (x_storeTo (l' := cDd D) 0 rfl rfl rfl rfl rfl rfl (Nat.le_of_ble_eq_true rfl) rfl) rfl rfl n_h ?_
             rintro _ _ ⟨rfl, rfl⟩
             refine c_u ?_
             refine d_nil ?_
             exact ⟨(b17, b18, bz, cpz, spz), trivial, .cons rfl (.cons rfl .nil), a_g, fun _ h => (St.fl [[_], [_], [_], [_], [_], [_], [_], [_], [_], [_], [_]] [0, 1, 2, 3, 9, 8, 5, 6] rfl h).as (by simp only [List.filterMap_cons, List.filterMap_nil, List.getElem?_cons_zero, List.getElem?_cons_succ, VV.fl, List.cons_append, List.nil_append])⟩
            refine d_fork ?_ ?_
            ·refine d_x rfl (x_alloc rfl) rfl rfl (by first | (intro h; cases h; done) | (intro _ _ _ hK x hx; obtain ⟨_, rfl, rfl⟩ := hK; obtain rfl := List.mem_singleton.1 hx; exact .tail _ m_m)) ?_
             rintro _ _ ⟨b18, rfl, rfl⟩
             refine d_x rfl (x_alloc rfl) rfl rfl (by first | (intro h; cases h; done) | (intro _ _ _ hK x hx; obtain ⟨_, rfl, rfl⟩ := hK; obtain rfl := List.mem_singleton.1 hx; exact .tail _ m_m)) ?_
             rintro _ _ ⟨b17, rfl, rfl⟩
             refine d_x rfl (x_storeTo (l' := cS Y.s) 0 rfl rfl rfl rfl rfl rfl (Nat.le_of_ble_eq_true rfl) rfl) rfl rfl n_h ?_
             rintro _ _ ⟨rfl, rfl⟩
             refine c_u ?_
             refine d_x rfl (x_storeTo (l' := cDd D) 1 rfl rfl rfl rfl rfl rfl (Nat.le_of_ble_eq_true rfl) rfl) rfl rfl n_h ?_
             rintro _ _ ⟨rfl, rfl⟩
             refine c_u ?_
             refine d_nil ?_
             exact ⟨(b17, b18, bz, cpz, spz), trivial, .cons rfl (.cons rfl .nil), a_g, fun _ h => (St.fl [[_], [_], [_], [_], [_], [_], [_], [_], [_], [_], [_]] [1, 0, 2, 3, 9, 8, 5, 6] rfl h).as (by simp only [List.filterMap_cons, List.filterMap_nil, List.getElem?_cons_zero, List.getElem?_cons_succ, VV.fl, List.cons_append, List.nil_append])⟩
            exact d_stop
           refine d_fork ?_ ?_
           ·refine d_x rfl (x_alloc rfl) rfl rfl (by first | (intro h; cases h; done) | (intro _ _ _ hK x hx; obtain ⟨_, rfl, rfl⟩ := hK; obtain rfl := List.mem_singleton.1 hx; exact .tail _ m_m)) ?_
            rintro _ _ ⟨b17, rfl, rfl⟩
            refine d_fork ?_ ?_
            ·refine d_x rfl (x_callT (F := [(b17, _), (b15, _), (b14, _), (b7, _), (ba, _), (b73, _)]) (A := (tb4, _) :: ([] ++ [(b77, _), (b75, _)])) call_10 rfl (fun w hw => stepR_fn b77 b75 (n := 0) s ⟨(((patch (fillB l2) Y.m.acc).set 65295 (atB (fillB l1) 65295)).set 65535 (atB (fillB l1) 65535)), []⟩ hs hm2 (d := D) (s' := Y.s) (m' := ⟨ob9, Y.m.acc⟩) hD2 _ _ .nil tb4 _ oT4 hT4 w (St.lentV hw))) rfl rfl n_h ?_
             rintro _ _ ⟨_, ⟨rfl, oU4, hU4, va4, Ga4, hV4, rfl⟩, rfl⟩
             obtain ⟨bz, cpz, spz, rfl, rfl, hc4, hl4, hm4⟩ := hV4.full (show Y.m.acc.length ≠ 0 by omega)
             refine c_u ?_
             refine d_mv rfl (vnf_eq rfl) rfl rfl ?_
             refine RD ?_
             refine RD ?_
             refine d_x rfl (x_alloc rfl) rfl rfl (by first | (intro h; cases h; done) | (intro _ _ _ hK x hx; obtain ⟨_, rfl, rfl⟩ := hK; obtain rfl := List.mem_singleton.1 hx; exact .tail _ m_m)) ?_
             rintro _ _ ⟨b18, rfl, rfl⟩
             refine d_x rfl (x_storeTo (l' := cS Y.s) 1 rfl rfl rfl rfl rfl rfl (Nat.le_of_ble_eq_true rfl) rfl) rfl rfl n_h ?_
             rintro _ _ ⟨rfl, rfl⟩
             refine c_u ?_
             refine d_x rfl (x_storeTo (l' := cDd D) 0 rfl rfl rfl rfl rfl rfl (Nat.le_of_ble_eq_true rfl) rfl) rfl rfl n_h ?_
             rintro _ _ ⟨rfl, rfl⟩
             refine c_u ?_
             refine d_nil ?_
             exact ⟨(b17, b18, bz, cpz, spz), trivial, .cons rfl (.cons rfl .nil), a_g, fun _ h => (St.fl [[_], [_], [_], [_], [_], [_], [_], [_], [_], [_], [_]] [0, 1, 2, 3, 9, 8, 5, 6] rfl h).as (by simp only [List.filterMap_cons, List.filterMap_nil, List.getElem?_cons_zero, List.getElem?_cons_succ, VV.fl, List.cons_append, List.nil_append])⟩
            refine d_fork ?_ ?_
            ·refine d_x rfl (x_alloc rfl) rfl rfl (by first | (intro h; cases h; done) | (intro _ _ _ hK x hx; obtain ⟨_, rfl, rfl⟩ := hK; obtain rfl := List.mem_singleton.1 hx; exact .tail _ m_m)) ?_
             rintro _ _ ⟨b18, rfl, rfl⟩
             refine d_x rfl (x_callT (F := [(b18, _), (b17, _), (b15, _), (b14, _), (b7, _), (ba, _), (b73, _)]) (A := (tb4, _) :: ([] ++ [(b77, _), (b75, _)])) call_10 rfl (fun w hw => stepR_fn b77 b75 (n := 0) s ⟨(((patch (fillB l2) Y.m.acc).set 65295 (atB (fillB l1) 65295)).set 65535 (atB (fillB l1) 65535)), []⟩ hs hm2 (d := D) (s' := Y.s) (m' := ⟨ob9, Y.m.acc⟩) hD2 _ _ .nil tb4 _ oT4 hT4 w (St.lentV hw))) rfl rfl n_h ?_
             rintro _ _ ⟨_, ⟨rfl, oU4, hU4, va4, Ga4, hV4, rfl⟩, rfl⟩
             obtain ⟨bz, cpz, spz, rfl, rfl, hc4, hl4, hm4⟩ := hV4.full (show Y.m.acc.length ≠ 0 by omega)
             refine c_u ?_
             refine d_mv rfl (vnf_eq rfl) rfl rfl ?_
             refine RD ?_
             refine RD ?_
             refine d_x rfl (x_storeTo (l' := cS Y.s) 1 rfl rfl rfl rfl rfl rfl (Nat.le_of_ble_eq_true rfl) rfl) rfl rfl n_h ?_
             rintro _ _ ⟨rfl, rfl⟩
             refine c_u ?_
             refine d_x rfl (x_storeTo (l' := cDd D) 0 rfl rfl rfl rfl rfl rfl (Nat.le_of_ble_eq_true rfl) rfl) rfl rfl n_h ?_
             rintro _ _ ⟨rfl, rfl⟩
             refine c_u ?_
             refine d_nil ?_
             exact ⟨(b17, b18, bz, cpz, spz), trivial, .cons rfl (.cons rfl .nil), a_g, fun _ h => (St.fl [[_], [_], [_], [_], [_], [_], [_], [_], [_], [_], [_]] [0, 1, 2, 3, 9, 8, 5, 6] rfl h).as (by simp only [List.filterMap_cons, List.filterMap_nil, List.getElem?_cons_zero, List.getElem?_cons_succ, VV.fl, List.cons_append, List.nil_append])⟩
            exact d_stop
           refine d_fork ?_ ?_
           ·refine d_x rfl (x_alloc rfl) rfl rfl (by first | (intro h; cases h; done) | (intro _ _ _ hK x hx; obtain ⟨_, rfl, rfl⟩ := hK; obtain rfl := List.mem_singleton.1 hx; exact .tail _ m_m)) ?_
            rintro _ _ ⟨b18, rfl, rfl⟩
            refine d_fork ?_ ?_
            ·refine d_x rfl (x_callT (F := [(b18, _), (b15, _), (b14, _), (b7, _), (ba, _), (b73, _)]) (A := (tb4, _) :: ([] ++ [(b77, _), (b75, _)])) call_10 rfl (fun w hw => stepR_fn b77 b75 (n := 0) s ⟨(((patch (fillB l2) Y.m.acc).set 65295 (atB (fillB l1) 65295)).set 65535 (atB (fillB l1) 65535)), []⟩ hs hm2 (d := D) (s' := Y.s) (m' := ⟨ob9, Y.m.acc⟩) hD2 _ _ .nil tb4 _ oT4 hT4 w (St.lentV hw))) rfl rfl n_h ?_
             rintro _ _ ⟨_, ⟨rfl, oU4, hU4, va4, Ga4, hV4, rfl⟩, rfl⟩
             obtain ⟨bz, cpz, spz, rfl, rfl, hc4, hl4, hm4⟩ := hV4.full (show Y.m.acc.length ≠ 0 by omega)
             refine c_u ?_
             refine d_mv rfl (vnf_eq rfl) rfl rfl ?_
             refine RD ?_
             refine RD ?_
             refine d_x rfl (x_alloc rfl) rfl rfl (by first | (intro h; cases h; done) | (intro _ _ _ hK x hx; obtain ⟨_, rfl, rfl⟩ := hK; obtain rfl := List.mem_singleton.1 hx; exact .tail _ m_m)) ?_
             rintro _ _ ⟨b17, rfl, rfl⟩
             refine d_x rfl (x_storeTo (l' := cS Y.s) 0 rfl rfl rfl rfl rfl rfl (Nat.le_of_ble_eq_true rfl) rfl) rfl rfl n_h ?_
             rintro _ _ ⟨rfl, rfl⟩
             refine c_u ?_
             refine d_x rfl (x_storeTo (l' := cDd D) 1 rfl rfl rfl rfl rfl rfl (Nat.le_of_ble_eq_true rfl) rfl) rfl rfl n_h ?_
             rintro _ _ ⟨rfl, rfl⟩
             refine c_u ?_
             refine d_nil ?_
             exact ⟨(b17, b18, bz, cpz, spz), trivial, .cons rfl (.cons rfl .nil), a_g, fun _ h => (St.fl [[_], [_], [_], [_], [_], [_], [_], [_], [_], [_], [_]] [1, 0, 2, 3, 9, 8, 5, 6] rfl h).as (by simp only [List.filterMap_cons, List.filterMap_nil, List.getElem?_cons_zero, List.getElem?_cons_succ, VV.fl, List.cons_append, List.nil_append])⟩
            refine d_fork ?_ ?_
            ·refine d_x rfl (x_alloc rfl) rfl rfl (by first | (intro h; cases h; done) | (intro _ _ _ hK x hx; obtain ⟨_, rfl, rfl⟩ := hK; obtain rfl := List.mem_singleton.1 hx; exact .tail _ m_m)) ?_
             rintro _ _ ⟨b17, rfl, rfl⟩
             refine d_x rfl (x_callT (F := [(b17, _), (b18, _), (b15, _), (b14, _), (b7, _), (ba, _), (b73, _)]) (A := (tb4, _) :: ([] ++ [(b77, _), (b75, _)])) call_10 rfl (fun w hw => stepR_fn b77 b75 (n := 0) s ⟨(((patch (fillB l2) Y.m.acc).set 65295 (atB (fillB l1) 65295)).set 65535 (atB (fillB l1) 65535)), []⟩ hs hm2 (d := D) (s' := Y.s) (m' := ⟨ob9, Y.m.acc⟩) hD2 _ _ .nil tb4 _ oT4 hT4 w (St.lentV hw))) rfl rfl n_h ?_
             rintro _ _ ⟨_, ⟨rfl, oU4, hU4, va4, Ga4, hV4, rfl⟩, rfl⟩
             obtain ⟨bz, cpz, spz, rfl, rfl, hc4, hl4, hm4⟩ := hV4.full (show Y.m.acc.length ≠ 0 by omega)
             refine c_u ?_
             refine d_mv rfl (vnf_eq rfl) rfl rfl ?_
             refine RD ?_
             refine RD ?_
             refine d_x rfl (x_storeTo (l' := cS Y.s) 0 rfl rfl rfl rfl rfl rfl (Nat.le_of_ble_eq_true rfl) rfl) rfl rfl n_h ?_
             rintro _ _ ⟨rfl, rfl⟩
             refine c_u ?_
             refine d_x rfl (x_storeTo (l' := cDd D) 1 rfl rfl rfl rfl rfl rfl (Nat.le_of_ble_eq_true rfl) rfl) rfl rfl n_h ?_
             rintro _ _ ⟨rfl, rfl⟩
             refine c_u ?_
             refine d_nil ?_
             exact ⟨(b17, b18, bz, cpz, spz), trivial, .cons rfl (.cons rfl .nil), a_g, fun _ h => (St.fl [[_], [_], [_], [_], [_], [_], [_], [_], [_], [_], [_]] [1, 0, 2, 3, 9, 8, 5, 6] rfl h).as (by simp only [List.filterMap_cons, List.filterMap_nil, List.getElem?_cons_zero, List.getElem?_cons_succ, VV.fl, List.cons_append, List.nil_append])⟩
            exact d_stop
           exact d_stop
          refine d_fork ?_ ?_
          ·refine d_x rfl (x_alloc rfl) rfl rfl (by first | (intro h; cases h; done) | (intro _ _ _ hK x hx; obtain ⟨_, rfl, rfl⟩ := hK; obtain rfl := List.mem_singleton.1 hx; exact .tail _ m_m)) ?_
           rintro _ _ ⟨b17, rfl, rfl⟩
           refine d_fork ?_ ?_
           ·refine d_x rfl (x_call call_11 rfl (fun w hw => tnew_fn w)) rfl rfl (by first | (intro h; cases h; done) | (intro _ _ _ hK x hx; obtain ⟨_, _, rfl⟩ := hK; obtain rfl := List.mem_singleton.1 hx; exact List.mem_append_right _ m_m)) ?_
            rintro _ _ ⟨GT, ⟨tb4, rfl, hT4⟩, rfl⟩
            obtain ⟨oT4, rfl⟩ := hT4.one
            refine d_heap (fun _ h => St.fl [[_], [_], [_], [_], [_], [_], [_], [_], [_]] [1, 2, 3, 4, 7, 8, 0, 5, 6] rfl h) ?_
            simp only [List.filterMap_cons, List.filterMap_nil, List.getElem?_cons_zero, List.getElem?_cons_succ, VV.fl, List.cons_append, List.nil_append]
            refine d_fork ?_ ?_
            ·refine d_x rfl (x_callT (F := [(b17, _), (b15, _), (b14, _), (b7, _), (ba, _), (b73, _)]) (A := (tb4, _) :: ([] ++ [(b77, _), (b75, _)])) call_10 rfl (fun w hw => stepR_fn b77 b75 (n := 0) s ⟨(((patch (fillB l2) Y.m.acc).set 65295 (atB (fillB l1) 65295)).set 65535 (atB (fillB l1) 65535)), []⟩ hs hm2 (d := D) (s' := Y.s) (m' := ⟨ob9, Y.m.acc⟩) hD2 _ _ .nil tb4 _ oT4 hT4 w (St.lentV hw))) rfl rfl n_h ?_
             rintro _ _ ⟨_, ⟨rfl, oU4, hU4, va4, Ga4, hV4, rfl⟩, rfl⟩
             obtain ⟨bz, cpz, spz, rfl, rfl, hc4, hl4, hm4⟩ := hV4.full (show Y.m.acc.length ≠ 0 by omega)
             refine c_u ?_
             refine d_mv rfl (vnf_eq rfl) rfl rfl ?_
             refine RD ?_
             refine RD ?_
             refine d_x rfl (x_alloc rfl) rfl rfl (by first | (intro h; cases h; done) | (intro _ _ _ hK x hx; obtain ⟨_, rfl, rfl⟩ := hK; obtain rfl := List.mem_singleton.1 hx; exact .tail _ m_m)) ?_
             rintro _ _ ⟨b18, rfl, rfl⟩
             refine d_x rfl (x_storeTo (l' := cS Y.s) 1 rfl rfl rfl rfl rfl rfl (Nat.le_of_ble_eq_true rfl) rfl) rfl rfl n_h ?_
             rintro _ _ ⟨rfl, rfl⟩
             refine c_u ?_
             refine d_x rfl (x_storeTo (l' := cDd D) 0 rfl rfl rfl rfl rfl rfl (Nat.le_of_ble_eq_true rfl) rfl) rfl rfl n_h ?_
             rintro _ _ ⟨rfl, rfl⟩
             refine c_u ?_
             refine d_nil ?_
             exact ⟨(b17, b18, bz, cpz, spz), trivial, .cons rfl (.cons rfl .nil), a_g, fun _ h => (St.fl [[_], [_], [_], [_], [_], [_], [_], [_], [_], [_], [_]] [0, 1, 2, 3, 9, 8, 5, 6] rfl h).as (by simp only [List.filterMap_cons, List.filterMap_nil, List.getElem?_cons_zero, List.getElem?_cons_succ, VV.fl, List.cons_append, List.nil_append])⟩
            refine d_fork ?_ ?_
            ·refine d_x rfl (x_alloc rfl) rfl rfl (by first | (intro h; cases h; done) | (intro _ _ _ hK x hx; obtain ⟨_, rfl, rfl⟩ := hK; obtain rfl := List.mem_singleton.1 hx; exact .tail _ m_m)) ?_
             rintro _ _ ⟨b18, rfl, rfl⟩
             refine d_x rfl (x_callT (F := [(b18, _), (b17, _), (b15, _), (b14, _), (b7, _), (ba, _), (b73, _)]) (A := (tb4, _) :: ([] ++ [(b77, _), (b75, _)])) call_10 rfl (fun w hw => stepR_fn b77 b75 (n := 0) s ⟨(((patch (fillB l2) Y.m.acc).set 65295 (atB (fillB l1) 65295)).set 65535 (atB (fillB l1) 65535)), []⟩ hs hm2 (d := D) (s' := Y.s) (m' := ⟨ob9, Y.m.acc⟩) hD2 _ _ .nil tb4 _ oT4 hT4 w (St.lentV hw))) rfl rfl n_h ?_
             rintro _ _ ⟨_, ⟨rfl, oU4, hU4, va4, Ga4, hV4, rfl⟩, rfl⟩
             obtain ⟨bz, cpz, spz, rfl, rfl, hc4, hl4, hm4⟩ := hV4.full (show Y.m.acc.length ≠ 0 by omega)
             refine c_u ?_
             refine d_mv rfl (vnf_eq rfl) rfl rfl ?_
             refine RD ?_
             refine RD ?_
             refine d_x rfl (x_storeTo (l' := cS Y.s) 1 rfl rfl rfl rfl rfl rfl (Nat.le_of_ble_eq_true rfl) rfl) rfl rfl n_h ?_
             rintro _ _ ⟨rfl, rfl⟩
             refine c_u ?_
             refine d_x rfl (x_storeTo (l' := cDd D) 0 rfl rfl rfl rfl rfl rfl (Nat.le_of_ble_eq_true rfl) rfl) rfl rfl n_h ?_
             rintro _ _ ⟨rfl, rfl⟩
             refine c_u ?_
             refine d_nil ?_
             exact ⟨(b17, b18, bz, cpz, spz), trivial, .cons rfl (.cons rfl .nil), a_g, fun _ h => (St.fl [[_], [_], [_], [_], [_], [_], [_], [_], [_], [_], [_]] [0, 1, 2, 3, 9, 8, 5, 6] rfl h).as (by simp only [List.filterMap_cons, List.filterMap_nil, List.getElem?_cons_zero, List.getElem?_cons_succ, VV.fl, List.cons_append, List.nil_append])⟩
            exact d_stop
           refine d_fork ?_ ?_
           ·refine d_x rfl (x_alloc rfl) rfl rfl (by first | (intro h; cases h; done) | (intro _ _ _ hK x hx; obtain ⟨_, rfl, rfl⟩ := hK; obtain rfl := List.mem_singleton.1 hx; exact .tail _ m_m)) ?_
            rintro _ _ ⟨b18, rfl, rfl⟩
            refine d_x rfl (x_call call_11 rfl (fun w hw => tnew_fn w)) rfl rfl (by first | (intro h; cases h; done) | (intro _ _ _ hK x hx; obtain ⟨_, _, rfl⟩ := hK; obtain rfl := List.mem_singleton.1 hx; exact List.mem_append_right _ m_m)) ?_
            rintro _ _ ⟨GT, ⟨tb4, rfl, hT4⟩, rfl⟩
            obtain ⟨oT4, rfl⟩ := hT4.one
            refine d_heap (fun _ h => St.fl [[_], [_], [_], [_], [_], [_], [_], [_], [_], [_]] [1, 2, 3, 4, 5, 8, 9, 0, 6, 7] rfl h) ?_
            simp only [List.filterMap_cons, List.filterMap_nil, List.getElem?_cons_zero, List.getElem?_cons_succ, VV.fl, List.cons_append, List.nil_append]
            refine d_x rfl (x_callT (F := [(b18, _), (b17, _), (b15, _), (b14, _), (b7, _), (ba, _), (b73, _)]) (A := (tb4, _) :: ([] ++ [(b77, _), (b75, _)])) call_10 rfl (fun w hw => stepR_fn b77 b75 (n := 0) s ⟨(((patch (fillB l2) Y.m.acc).set 65295 (atB (fillB l1) 65295)).set 65535 (atB (fillB l1) 65535)), []⟩ hs hm2 (d := D) (s' := Y.s) (m' := ⟨ob9, Y.m.acc⟩) hD2 _ _ .nil tb4 _ oT4 hT4 w (St.lentV hw))) rfl rfl n_h ?_
            rintro _ _ ⟨_, ⟨rfl, oU4, hU4, va4, Ga4, hV4, rfl⟩, rfl⟩
            obtain ⟨bz, cpz, spz, rfl, rfl, hc4, hl4, hm4⟩ := hV4.full (show Y.m.acc.length ≠ 0 by omega)
            refine c_u ?_
            refine d_mv rfl (vnf_eq rfl) rfl rfl ?_
            refine RD ?_
            refine RD ?_
            refine d_x rfl (x_storeTo (l' := cS Y.s) 1 rfl rfl rfl rfl rfl rfl (Nat.le_of_ble_eq_true rfl) rfl) rfl rfl n_h ?_
            rintro _ _ ⟨rfl, rfl⟩
            refine c_u ?_
            refine d_x rfl (x_storeTo (l' := cDd D) 0 rfl rfl rfl rfl rfl rfl (Nat.le_of_ble_eq_true rfl) rfl) rfl rfl n_h ?_
            rintro _ _ ⟨rfl, rfl⟩
            refine c_u ?_
            refine d_nil ?_
            exact ⟨(b17, b18, bz, cpz, spz), trivial, .cons rfl (.cons rfl .nil), a_g, fun _ h => (St.fl [[_], [_], [_], [_], [_], [_], [_], [_], [_], [_], [_]] [0, 1, 2, 3, 9, 8, 5, 6] rfl h).as (by simp only [List.filterMap_cons, List.filterMap_nil, List.getElem?_cons_zero, List.getElem?_cons_succ, VV.fl, List.cons_append, List.nil_append])⟩
           exact d_stop
          refine d_fork ?_ ?_
          ·refine d_x rfl (x_alloc rfl) rfl rfl (by first | (intro h; cases h; done) | (intro _ _ _ hK x hx; obtain ⟨_, rfl, rfl⟩ := hK; obtain rfl := List.mem_singleton.1 hx; exact .tail _ m_m)) ?_
           rintro _ _ ⟨b18, rfl, rfl⟩
           refine d_fork ?_ ?_
           ·refine d_x rfl (x_call call_11 rfl (fun w hw => tnew_fn w)) rfl rfl (by first | (intro h; cases h; done) | (intro _ _ _ hK x hx; obtain ⟨_, _, rfl⟩ := hK; obtain rfl := List.mem_singleton.1 hx; exact List.mem_append_right _ m_m)) ?_
            rintro _ _ ⟨GT, ⟨tb4, rfl, hT4⟩, rfl⟩
            obtain ⟨oT4, rfl⟩ := hT4.one
            refine d_heap (fun _ h => St.fl [[_], [_], [_], [_], [_], [_], [_], [_], [_]] [1, 2, 3, 4, 7, 8, 0, 5, 6] rfl h) ?_
            simp only [List.filterMap_cons, List.filterMap_nil, List.getElem?_cons_zero, List.getElem?_cons_succ, VV.fl, List.cons_append, List.nil_append]
            refine d_fork ?_ ?_
            ·refine d_x rfl (x_callT (F := [(b18, _), (b15, _), (b14, _), (b7, _), (ba, _), (b73, _)]) (A := (tb4, _) :: ([] ++ [(b77, _), (b75, _)])) call_10 rfl (fun w hw => stepR_fn b77 b75 (n := 0) s ⟨(((patch (fillB l2) Y.m.acc).set 65295 (atB (fillB l1) 65295)).set 65535 (atB (fillB l1) 65535)), []⟩ hs hm2 (d := D) (s' := Y.s) (m' := ⟨ob9, Y.m.acc⟩) hD2 _ _ .nil tb4 _ oT4 hT4 w (St.lentV hw))) rfl rfl n_h ?_
             rintro _ _ ⟨_, ⟨rfl, oU4, hU4, va4, Ga4, hV4, rfl⟩, rfl⟩
             obtain ⟨bz, cpz, spz, rfl, rfl, hc4, hl4, hm4⟩ := hV4.full (show Y.m.acc.length ≠ 0 by omega)
             refine c_u ?_
             refine d_mv rfl (vnf_eq rfl) rfl rfl ?_
             refine RD ?_
             refine RD ?_
             refine d_x rfl (x_alloc rfl) rfl rfl (by first | (intro h; cases h; done) | (intro _ _ _ hK x hx; obtain ⟨_, rfl, rfl⟩ := hK; obtain rfl := List.mem_singleton.1 hx; exact .tail _ m_m)) ?_
             rintro _ _ ⟨b17, rfl, rfl⟩
             refine d_x rfl (x_storeTo (l' := cS Y.s) 0 rfl rfl rfl rfl rfl rfl (Nat.le_of_ble_eq_true rfl) rfl) rfl rfl n_h ?_
             rintro _ _ ⟨rfl, rfl⟩
             refine c_u ?_
             refine d_x rfl (x_storeTo (l' := cDd D) 1 rfl rfl rfl rfl rfl rfl (Nat.le_of_ble_eq_true rfl) rfl) rfl rfl n_h ?_
             rintro _ _ ⟨rfl, rfl⟩
             refine c_u ?_
             refine d_nil ?_
             exact ⟨(b17, b18, bz, cpz, spz), trivial, .cons rfl (.cons rfl .nil), a_g, fun _ h => (St.fl [[_], [_], [_], [_], [_], [_], [_], [_], [_], [_], [_]] [1, 0, 2, 3, 9, 8, 5, 6] rfl h).as (by simp only [List.filterMap_cons, List.filterMap_nil, List.getElem?_cons_zero, List.getElem?_cons_succ, VV.fl, List.cons_append, List.nil_append])⟩
            refine d_fork ?_ ?_
            ·refine d_x rfl (x_alloc rfl) rfl rfl (by first | (intro h; cases h; done) | (intro _ _ _ hK x hx; obtain ⟨_, rfl, rfl⟩ := hK; obtain rfl := List.mem_singleton.1 hx; exact .tail _ m_m)) ?_
             rintro _ _ ⟨b17, rfl, rfl⟩
             refine d_x rfl (x_callT (F := [(b17, _), (b18, _), (b15, _), (b14, _), (b7, _), (ba, _), (b73, _)]) (A := (tb4, _) :: ([] ++ [(b77, _), (b75, _)])) call_10 rfl (fun w hw => stepR_fn b77 b75 (n := 0) s ⟨(((patch (fillB l2) Y.m.acc).set 65295 (atB (fillB l1) 65295)).set 65535 (atB (fillB l1) 65535)), []⟩ hs hm2 (d := D) (s' := Y.s) (m' := ⟨ob9, Y.m.acc⟩) hD2 _ _ .nil tb4 _ oT4 hT4 w (St.lentV hw))) rfl rfl n_h ?_
             rintro _ _ ⟨_, ⟨rfl, oU4, hU4, va4, Ga4, hV4, rfl⟩, rfl⟩
             obtain ⟨bz, cpz, spz, rfl, rfl, hc4, hl4, hm4⟩ := hV4.full (show Y.m.acc.length ≠ 0 by omega)
             refine c_u ?_
             refine d_mv rfl (vnf_eq rfl) rfl rfl ?_
             refine RD ?_
             refine RD ?_
             refine d_x rfl (x_storeTo (l' := cS Y.s) 0 rfl rfl rfl rfl rfl rfl (Nat.le_of_ble_eq_true rfl) rfl) rfl rfl n_h ?_
             rintro _ _ ⟨rfl, rfl⟩
             refine c_u ?_
             refine d_x rfl (x_storeTo (l' := cDd D) 1 rfl rfl rfl rfl rfl rfl (Nat.le_of_ble_eq_true rfl) rfl) rfl rfl n_h ?_
             rintro _ _ ⟨rfl, rfl⟩
             refine c_u ?_
             refine d_nil ?_
             exact ⟨(b17, b18, bz, cpz, spz), trivial, .cons rfl (.cons rfl .nil), a_g, fun _ h => (St.fl [[_], [_], [_], [_], [_], [_], [_], [_], [_], [_], [_]] [1, 0, 2, 3, 9, 8, 5, 6] rfl h).as (by simp only [List.filterMap_cons, List.filterMap_nil, List.getElem?_cons_zero, List.getElem?_cons_succ, VV.fl, List.cons_append, List.nil_append])⟩
            exact d_stop
           refine d_fork ?_ ?_
           ·refine d_x rfl (x_alloc rfl) rfl rfl (by first | (intro h; cases h; done) | (intro _ _ _ hK x hx; obtain ⟨_, rfl, rfl⟩ := hK; obtain rfl := List.mem_singleton.1 hx; exact .tail _ m_m)) ?_
            rintro _ _ ⟨b17, rfl, rfl⟩
            refine d_x rfl (x_call call_11 rfl (fun w hw => tnew_fn w)) rfl rfl (by first | (intro h; cases h; done) | (intro _ _ _ hK x hx; obtain ⟨_, _, rfl⟩ := hK; obtain rfl := List.mem_singleton.1 hx; exact List.mem_append_right _ m_m)) ?_
            rintro _ _ ⟨GT, ⟨tb4, rfl, hT4⟩, rfl⟩
            obtain ⟨oT4, rfl⟩ := hT4.one
            refine d_heap (fun _ h => St.fl [[_], [_], [_], [_], [_], [_], [_], [_], [_], [_]] [1, 2, 3, 4, 5, 8, 9, 0, 6, 7] rfl h) ?_
            simp only [List.filterMap_cons, List.filterMap_nil, List.getElem?_cons_zero, List.getElem?_cons_succ, VV.fl, List.cons_append, List.nil_append]
            refine d_x rfl (x_callT (F := [(b17, _), (b18, _), (b15, _), (b14, _), (b7, _), (ba, _), (b73, _)]) (A := (tb4, _) :: ([] ++ [(b77, _), (b75, _)])) call_10 rfl (fun w hw => stepR_fn b77 b75 (n := 0) s ⟨(((patch (fillB l2) Y.m.acc).set 65295 (atB (fillB l1) 65295)).set 65535 (atB (fillB l1) 65535)), []⟩ hs hm2 (d := D) (s' := Y.s) (m' := ⟨ob9, Y.m.acc⟩) hD2 _ _ .nil tb4 _ oT4 hT4 w (St.lentV hw))) rfl rfl n_h ?_
            rintro _ _ ⟨_, ⟨rfl, oU4, hU4, va4, Ga4, hV4, rfl⟩, rfl⟩
            obtain ⟨bz, cpz, spz, rfl, rfl, hc4, hl4, hm4⟩ := hV4.full (show Y.m.acc.length ≠ 0 by omega)
            refine c_u ?_
            refine d_mv rfl (vnf_eq rfl) rfl rfl ?_
            refine RD ?_
            refine RD ?_
            refine d_x rfl (x_storeTo (l' := cS Y.s) 0 rfl rfl rfl rfl rfl rfl (Nat.le_of_ble_eq_true rfl) rfl) rfl rfl n_h ?_
            rintro _ _ ⟨rfl, rfl⟩
            refine c_u ?_
            refine d_x rfl (x_storeTo (l' := cDd D) 1 rfl rfl rfl rfl rfl rfl (Nat.le_of_ble_eq_true rfl) rfl) rfl rfl n_h ?_
            rintro _ _ ⟨rfl, rfl⟩
            refine c_u ?_
            refine d_nil ?_
            exact ⟨(b17, b18, bz, cpz, spz), trivial, .cons rfl (.cons rfl .nil), a_g, fun _ h => (St.fl [[_], [_], [_], [_], [_], [_], [_], [_], [_], [_], [_]] [1, 0, 2, 3, 9, 8, 5, 6] rfl h).as (by simp only [List.filterMap_cons, List.filterMap_nil, List.getElem?_cons_zero, List.getElem?_cons_succ, VV.fl, List.cons_append, List.nil_append])⟩
           exact d_stop
          exact d_stop
         ·rintro ⟨b17, b18, bz, cpz, spz⟩ y17 hJ
          dsimp only at hJ ⊢
          refine c_seq ?_
          refine c_draw _ [1, 5, 13, 14, 15, 16] (.step true 0 (.step true 1 (.step true 2 (.step true 3 (.step true 4 (.step true 5 (.step true 6 (.step true 7 (.step true 8 (.step true 9 (.step true 10 (.step true 11 (.step true 12 (.step true 13 (.step true 14 (.step true 15 (.step true 16 (.step false 17 (.step true 18 (.step true 19 .done)))))))))))))))))))) rfl (by kernel_rfl) (by kernel_rfl) (fun _ h => h) ?_
          refine d_loadA rfl rfl rfl rfl (srow_own (l := cS Y.s) m_m) rfl rfl ?_
          refine d_loadA rfl rfl rfl rfl (srow_own (l := cS Y.s) m_m) rfl rfl ?_
          refine d_eqs (ks := [.int .u8, .int .u8, .int .u8, .int .u8, .int .u8, .int .u8, .int .u8, .int .u8, .int .u16, .int .u16, .bool, .bool, .bool, .bool]) rfl rfl rfl (by kernel_rfl) (by kernel_rfl) rfl rfl rfl rfl (b := true) (lveq_refl (ks := [.int .u8, .int .u8, .int .u8, .int .u8, .int .u8, .int .u8, .int .u8, .int .u8, .int .u16, .int .u16, .bool, .bool, .bool, .bool]) rfl) ?_
          refine RD ?_
          refine d_loadA rfl rfl rfl rfl (srow_own (l := cDd D) m_m) rfl rfl ?_
          refine d_loadA rfl rfl rfl rfl (srow_own (l := cDd D) m_m) rfl rfl ?_
          refine d_eqs (ks := [.int .i64, .int .i64, .int .u16, .int .i64, .int .i64, .int .i64, .int .i64, .int .u16, .bool]) rfl rfl rfl (by kernel_rfl) (by kernel_rfl) rfl rfl rfl rfl (b := true) (lveq_refl (ks := [.int .i64, .int .i64, .int .u16, .int .i64, .int .i64, .int .i64, .int .i64, .int .u16, .bool]) rfl) ?_
          iterate 4 refine RD ?_
          refine RDa ?_
          refine RDo ?_
          refine RD ?_
          refine RD ?_
          refine RDa ?_
          refine RDo ?_
          refine d_x rfl (x_val call_12 rfl (fun w hw => accesses_fn Y.m.acc Y.m.acc (some ⟨ba, 0, none⟩) (some ⟨bz, 0, none⟩) cpa cpz o_m w (fun _ => ⟨ba, 0, rfl, Row.left (row_own (b := ba) (l := flat cAc Y.m.acc ++ spa) m_m w hw)⟩) (fun _ => ⟨bz, 0, rfl, Row.left (row_own (b := bz) (l := flat cAc Y.m.acc ++ spz) m_m w hw)⟩) o_m)) rfl rfl (by first | (intro h; cases h; done) | (intro _ _ _ hK x hx; obtain ⟨_, rfl⟩ := hK; exact hx)) ?_
          rintro _ _ ⟨rfl, rfl⟩
          rw [show decide (Y.m.acc = Y.m.acc) = true from decide_eq_true rfl]
          refine RD ?_
          refine RD ?_
          refine d_nil ?_
          refine c_ret ?_
          exact l_end0 (fun _ _ => rets_v rfl) ⟨rfl, rfl⟩
        refine d_fork ?_ ?_
        ·refine d_x rfl (x_call call_13 rfl (fun w hw => filled_fn l1 hb1 hk1 a1 c1 w (hN1.later0 hw))) rfl rfl (by first | (intro h; cases h; done) | (intro _ _ _ hK x hx; obtain ⟨_, ⟨_, _, rfl⟩, rfl⟩ := hK; repeat (first | exact hx | refine .tail _ ?_ | refine List.mem_append_right _ ?_))) ?_
         rintro _ _ ⟨_, ⟨b149, rfl, rfl⟩, rfl⟩
         refine c_u ?_
         refine d_light rfl (idx_slice1 (65535 : Int).toNat rfl rfl rfl rfl (by decide)) rfl rfl rfl ?_
         refine d_fork ?_ ?_
         ·refine d_x rfl (x_load rfl rfl (at_own m_m (byte_in (l := fillB l1) (fillB_len l1) (a := 65295) (by decide)))) rfl rfl (by intro _ _ _ hK x hx; obtain ⟨rfl, rfl⟩ := hK; repeat (first | exact hx | exact List.mem_append_left _ hx | refine List.mem_append_right _ ?_ | refine .tail _ ?_)) ?_
          rintro _ _ ⟨rfl, rfl⟩
          refine d_x rfl (x_load rfl rfl (at_own m_m (byte_in (l := fillB l1) (fillB_len l1) (a := 65535) (by decide)))) rfl rfl (by intro _ _ _ hK x hx; obtain ⟨rfl, rfl⟩ := hK; repeat (first | exact hx | exact List.mem_append_left _ hx | refine List.mem_append_right _ ?_ | refine .tail _ ?_)) ?_
          rintro _ _ ⟨rfl, rfl⟩
          refine d_light rfl (idx_slice1 (65295 : Int).toNat rfl rfl rfl rfl (by decide)) rfl rfl rfl ?_
          refine d_x rfl (x_storeTo (l' := ((patch (fillB l2) Y.m.acc).set 65295 (atB (fillB l1) 65295)).map (.int .u8)) 6 rfl rfl rfl rfl rfl rfl (store_fits (by rw [patch_len, fillB_len]) 65295 (by decide)) (store_in (by rw [patch_len, fillB_len]) 65295 (by decide) _)) rfl rfl n_h ?_
          rintro _ _ ⟨rfl, rfl⟩
          refine c_u ?_
          refine d_light rfl (idx_slice1 (65535 : Int).toNat rfl rfl rfl rfl (by decide)) rfl rfl rfl ?_
          refine d_x rfl (x_storeTo (l' := (((patch (fillB l2) Y.m.acc).set 65295 (atB (fillB l1) 65295)).set 65535 (atB (fillB l1) 65535)).map (.int .u8)) 6 rfl rfl rfl rfl rfl rfl (store_fits (by rw [List.length_set, patch_len, fillB_len]) 65535 (by decide)) (store_in (by rw [List.length_set, patch_len, fillB_len]) 65535 (by decide) _)) rfl rfl n_h ?_
          rintro _ _ ⟨rfl, rfl⟩
          refine c_u ?_
          refine d_nil ?_
          refine c_cut (σ := Nat × Nat × Nat × Nat × List Value) [17, 18, 154, 155, 156, 157, 158, 159, 160, 161] (fun q => [(17, .pointer (some ⟨q.1, 0, none⟩)), (18, .pointer (some ⟨q.2.1, 0, none⟩))]) (fun q => (q.2.1, blk (cDd D) 40) :: (q.1, blk (cS Y.s) 35) :: (b15, blk (cDd D) 40) :: (b14, blk (cS Y.s) 35) :: (b77, blk [.slice (some ⟨b75, 0, none⟩) 65536 65536, .slice (some ⟨q.2.2.1, 0, none⟩) Y.m.acc.length q.2.2.2.1] 32) :: (q.2.2.1, blk (flat cAc Y.m.acc ++ q.2.2.2.2) 47) :: (ba, blk (flat cAc Y.m.acc ++ spa) 47) :: [(b73, blk [.slice (some ⟨b71, 0, none⟩) 65536 65536, .slice (some ⟨ba, 0, none⟩) Y.m.acc.length cpa] 32)]) (fun q => True) ?_ ?_
          ·obtain ⟨ob9, hD2⟩ := nil_law (s := s) (fillB_len l1) (fillB_len l2) hDY (fun e he => (ok9.m.accs e he).1)
           have hm2 : RamOk (0 + 7) ⟨(((patch (fillB l2) Y.m.acc).set 65295 (atB (fillB l1) 65295)).set 65535 (atB (fillB l1) 65535)), []⟩ := ⟨by rw [List.length_set, List.length_set, patch_len, fillB_len], byts_set (byts_set (patch_byts (fillB_ok hb2) (fun e he => (ok9.m.accs e he).2)) _ ((fillB_ok hb1).get _)) _ ((fillB_ok hb1).get _), show 0 + (0 + 7) ≤ 1000000 by decide, fun _ h => by cases h⟩
           refine c_heap (fun _ h => St.fl [[_], [_], [_], [_], [_], [_], [_], [_], [_], [_]] [2, 3, 4, 5, 6, 7, 8] rfl h) ?_
           simp only [List.filterMap_cons, List.filterMap_nil, List.getElem?_cons_zero, List.getElem?_cons_succ, VV.fl, List.cons_append, List.nil_append]
           refine c_draw [(b7, blk (cS s) 35)] [0, 2, 3, 8, 9] (.step true 1 (.step true 2 (.step true 3 (.fork 0 (.fork 4 (.step true 5 (.step true 6 (.step true 7 (.fork 8 (.step false 9 (.step false 10 (.step false 11 .done))) (.fork 9 (.step false 8 (.step false 10 (.step false 11 .done))) .stop))))) (.fork 8 (.fork 4 (.step true 5 (.step true 6 (.step true 7 (.step false 9 (.step false 10 (.step false 11 .done)))))) (.fork 9 (.step false 4 (.step true 5 (.step true 6 (.step true 7 (.step false 10 (.step false 11 .done)))))) .stop)) (.fork 9 (.fork 4 (.step true 5 (.step true 6 (.step true 7 (.step false 8 (.step false 10 (.step false 11 .done)))))) (.fork 8 (.step false 4 (.step true 5 (.step true 6 (.step true 7 (.step false 10 (.step false 11 .done)))))) .stop)) .stop))) (.fork 8 (.fork 0 (.fork 4 (.step true 5 (.step true 6 (.step true 7 (.step false 9 (.step false 10 (.step false 11 .done)))))) (.fork 9 (.step false 4 (.step true 5 (.step true 6 (.step true 7 (.step false 10 (.step false 11 .done)))))) .stop)) (.fork 9 (.step false 0 (.step false 4 (.step true 5 (.step true 6 (.step true 7 (.step false 10 (.step false 11 .done))))))) .stop)) (.fork 9 (.fork 0 (.fork 4 (.step true 5 (.step true 6 (.step true 7 (.step false 8 (.step false 10 (.step false 11 .done)))))) (.fork 8 (.step false 4 (.step true 5 (.step true 6 (.step true 7 (.step false 10 (.step false 11 .done)))))) .stop)) (.fork 8 (.step false 0 (.step false 4 (.step true 5 (.step true 6 (.step true 7 (.step false 10 (.step false 11 .done))))))) .stop)) .stop)))))) rfl (by kernel_rfl) (by kernel_rfl) (fun x hx => by obtain rfl := List.mem_singleton.1 hx; exact m_m) ?_
           refine d_loadA rfl rfl rfl rfl (srow_own (l := cS s) m_m) rfl rfl ?_
           refine RD ?_
           refine RD ?_
           refine d_fork ?_ ?_
           ·refine d_x rfl (x_call call_11 rfl (fun w hw => tnew_fn w)) rfl rfl (by first | (intro h; cases h; done) | (intro _ _ _ hK x hx; obtain ⟨_, _, rfl⟩ := hK; obtain rfl := List.mem_singleton.1 hx; exact List.mem_append_right _ m_m)) ?_
            rintro _ _ ⟨GT, ⟨tb4, rfl, hT4⟩, rfl⟩
            obtain ⟨oT4, rfl⟩ := hT4.one
            refine d_heap (fun _ h => St.fl [[_], [_], [_], [_], [_], [_], [_], [_]] [1, 2, 3, 6, 7, 0, 4, 5] rfl h) ?_
            simp only [List.filterMap_cons, List.filterMap_nil, List.getElem?_cons_zero, List.getElem?_cons_succ, VV.fl, List.cons_append, List.nil_append]
            refine d_fork ?_ ?_
            ·refine d_x rfl (x_callT (F := [(b15, _), (b14, _), (b7, _), (ba, _), (b73, _)]) (A := (tb4, _) :: ([] ++ [(b77, _), (b75, _)])) call_10 rfl (fun w hw => stepR_fn b77 b75 (n := 0) s ⟨(((patch (fillB l2) Y.m.acc).set 65295 (atB (fillB l1) 65295)).set 65535 (atB (fillB l1) 65535)), []⟩ hs hm2 (d := D) (s' := Y.s) (m' := ⟨ob9, Y.m.acc⟩) hD2 _ _ .nil tb4 _ oT4 hT4 w (St.lentV hw))) rfl rfl n_h ?_
             rintro _ _ ⟨_, ⟨rfl, oU4, hU4, va4, Ga4, hV4, rfl⟩, rfl⟩
             obtain ⟨bz, cpz, spz, rfl, rfl, hc4, hl4, hm4⟩ := hV4.full (show Y.m.acc.length ≠ 0 by omega)
             refine c_u ?_
             refine d_mv rfl (vnf_eq rfl) rfl rfl ?_
             refine RD ?_
             refine RD ?_
             refine d_fork ?_ ?_
             ·refine d_x rfl (x_alloc rfl) rfl rfl (by first | (intro h; cases h; done) | (intro _ _ _ hK x hx; obtain ⟨_, rfl, rfl⟩ := hK; obtain rfl := List.mem_singleton.1 hx; exact .tail _ m_m)) ?_
              rintro _ _ ⟨b17, rfl, rfl⟩
              refine d_x rfl (x_alloc rfl) rfl rfl (by first | (intro h; cases h; done) | (intro _ _ _ hK x hx; obtain ⟨_, rfl, rfl⟩ := hK; obtain rfl := List.mem_singleton.1 hx; exact .tail _ m_m)) ?_
              rintro _ _ ⟨b18, rfl, rfl⟩
              refine d_x rfl (x_storeTo (l' := cS Y.s) 1 rfl rfl rfl rfl rfl rfl (Nat.le_of_ble_eq_true rfl) rfl) rfl rfl n_h ?_
              rintro _ _ ⟨rfl, rfl⟩
              refine c_u ?_
              refine d_x rfl (x_storeTo (l' := cDd D) 0 rfl rfl rfl rfl rfl rfl (Nat.le_of_ble_eq_true rfl) rfl) rfl rfl n_h ?_
              rintro _ _ ⟨rfl, rfl⟩
              refine c_u ?_
              refine d_nil ?_
              exact ⟨(b17, b18, bz, cpz, spz), trivial, .cons rfl (.cons rfl .nil), a_g, fun _ h => (St.fl [[_], [_], [_], [_], [_], [_], [_], [_], [_], [_], [_]] [0, 1, 2, 3, 9, 8, 5, 6] rfl h).as (by simp only [List.filterMap_cons, List.filterMap_nil, List.getElem?_cons_zero, List.getElem?_cons_succ, VV.fl, List.cons_append, List.nil_append])⟩
             refine d_fork ?_ ?_
             ·refine d_x rfl (x_alloc rfl) rfl rfl (by first | (intro h; cases h; done) | (intro _ _ _ hK x hx; obtain ⟨_, rfl, rfl⟩ := hK; obtain rfl := List.mem_singleton.1 hx; exact .tail _ m_m)) ?_
              rintro _ _ ⟨b18, rfl, rfl⟩
              refine d_x rfl (x_alloc rfl) rfl rfl (by first | (intro h; cases h; done) | (intro _ _ _ hK x hx; obtain ⟨_, rfl, rfl⟩ := hK; obtain rfl := List.mem_singleton.1 hx; exact .tail _ m_m)) ?_
              rintro _ _ ⟨b17, rfl, rfl⟩
              refine d_x rfl (x_storeTo (l' := cS Y.s) 0 rfl rfl rfl rfl rfl rfl (Nat.le_of_ble_eq_true rfl) rfl) rfl rfl n_h ?_
              rintro _ _ ⟨rfl, rfl⟩
              refine c_u ?_
              refine d_x rfl (x_storeTo (l' := cDd D) 1 rfl rfl rfl rfl rfl rfl (Nat.le_of_ble_eq_true rfl) rfl) rfl rfl n_h ?_
              rintro _ _ ⟨rfl, rfl⟩
              refine c_u ?_
              refine d_nil ?_
              exact ⟨(b17, b18, bz, cpz, spz), trivial, .cons rfl (.cons rfl .nil), a_g, fun _ h => (St.fl [[_], [_], [_], [_], [_], [_], [_], [_], [_], [_], [_]] [1, 0, 2, 3, 9, 8, 5, 6] rfl h).as (by simp only [List.filterMap_cons, List.filterMap_nil, List.getElem?_cons_zero, List.getElem?_cons_succ, VV.fl, List.cons_append, List.nil_append])⟩
             exact d_stop
            refine d_fork ?_ ?_
            ·refine d_x rfl (x_alloc rfl) rfl rfl (by first | (intro h; cases h; done) | (intro _ _ _ hK x hx; obtain ⟨_, rfl, rfl⟩ := hK; obtain rfl := List.mem_singleton.1 hx; exact .tail _ m_m)) ?_
             rintro _ _ ⟨b17, rfl, rfl⟩
             refine d_fork ?_ ?_
             ·refine d_x rfl (x_callT (F := [(b17, _), (b15, _), (b14, _), (b7, _), (ba, _), (b73, _)]) (A := (tb4, _) :: ([] ++ [(b77, _), (b75, _)])) call_10 rfl (fun w hw => stepR_fn b77 b75 (n := 0) s ⟨(((patch (fillB l2) Y.m.acc).set 65295 (atB (fillB l1) 65295)).set 65535 (atB (fillB l1) 65535)), []⟩ hs hm2 (d := D) (s' := Y.s) (m' := ⟨ob9, Y.m.acc⟩) hD2 _ _ .nil tb4 _ oT4 hT4 w (St.lentV hw))) rfl rfl n_h ?_
              rintro _ _ ⟨_, ⟨rfl, oU4, hU4, va4, Ga4, hV4, rfl⟩, rfl⟩
              obtain ⟨bz, cpz, spz, rfl, rfl, hc4, hl4, hm4⟩ := hV4.full (show Y.m.acc.length ≠ 0 by omega)
              refine c_u ?_
              refine d_mv rfl (vnf_eq rfl) rfl rfl ?_
              refine RD ?_
              refine RD ?_
              refine d_x rfl (x_alloc rfl) rfl rfl (by first | (intro h; cases h; done) | (intro _ _ _ hK x hx; obtain ⟨_, rfl, rfl⟩ := hK; obtain rfl := List.mem_singleton.1 hx; exact .tail _ m_m)) ?_
              rintro _ _ ⟨b18, rfl, rfl⟩
              refine d_x rfl (x_storeTo (l' := cS Y.s) 1 rfl rfl rfl rfl rfl rfl (Nat.le_of_ble_eq_true rfl) rfl) rfl rfl n_h ?_
              rintro _ _ ⟨rfl, rfl⟩
              refine c_u ?_
              refine d_x rfl (x_storeTo (l' := cDd D) 0 rfl rfl rfl rfl rfl rfl (Nat.le_of_ble_eq_true rfl) rfl) rfl rfl n_h ?_
              rintro _ _ ⟨rfl, rfl⟩
              refine c_u ?_
              refine d_nil ?_
              exact ⟨(b17, b18, bz, cpz, spz), trivial, .cons rfl (.cons rfl .nil), a_g, fun _ h => (St.fl [[_], [_], [_], [_], [_], [_], [_], [_], [_], [_], [_]] [0, 1, 2, 3, 9, 8, 5, 6] rfl h).as (by simp only [List.filterMap_cons, List.filterMap_nil, List.getElem?_cons_zero, List.getElem?_cons_succ, VV.fl, List.cons_append, List.nil_append])⟩
             refine d_fork ?_ ?_
             ·refine d_x rfl (x_alloc rfl) rfl rfl (by first | (intro h; cases h; done) | (intro _ _ _ hK x hx; obtain ⟨_, rfl, rfl⟩ := hK; obtain rfl := List.mem_singleton.1 hx; exact .tail _ m_m)) ?_
              rintro _ _ ⟨b18, rfl, rfl⟩
              refine d_x rfl (x_callT (F := [(b18, _), (b17, _), (b15, _), (b14, _), (b7, _), (ba, _), (b73, _)]) (A := (tb4, _) :: ([] ++ [(b77, _), (b75, _)])) call_10 rfl (fun w hw => stepR_fn b77 b75 (n := 0) s ⟨(((patch (fillB l2) Y.m.acc).set 65295 (atB (fillB l1) 65295)).set 65535 (atB (fillB l1) 65535)), []⟩ hs hm2 (d := D) (s' := Y.s) (m' := ⟨ob9, Y.m.acc⟩) hD2 _ _ .nil tb4 _ oT4 hT4 w (St.lentV hw))) rfl rfl n_h ?_
              rintro _ _ ⟨_, ⟨rfl, oU4, hU4, va4, Ga4, hV4, rfl⟩, rfl⟩
              obtain ⟨bz, cpz, spz, rfl, rfl, hc4, hl4, hm4⟩ := hV4.full (show Y.m.acc.length ≠ 0 by omega)
              refine c_u ?_
              refine d_mv rfl (vnf_eq rfl) rfl rfl ?_
              refine RD ?_
              refine RD ?_
              refine d_x rfl (x_storeTo (l' := cS Y.s) 1 rfl rfl rfl rfl rfl rfl (Nat.le_of_ble_eq_true rfl) rfl) rfl rfl n_h ?_
              rintro _ _ ⟨rfl, rfl⟩
              refine c_u ?_
              refine d_x rfl (x_storeTo (l' := cDd D) 0 rfl rfl rfl rfl rfl rfl (Nat.le_of_ble_eq_true rfl) rfl) rfl rfl n_h ?_
              rintro _ _ ⟨rfl, rfl⟩
              refine c_u ?_
              refine d_nil ?_
              exact ⟨(b17, b18, bz, cpz, spz), trivial, .cons rfl (.cons rfl .nil), a_g, fun _ h => (St.fl [[_], [_], [_], [_], [_], [_], [_], [_], [_], [_], [_]] [0, 1, 2, 3, 9, 8, 5, 6] rfl h).as (by simp only [List.filterMap_cons, List.filterMap_nil, List.getElem?_cons_zero, List.getElem?_cons_succ, VV.fl, List.cons_append, List.nil_append])⟩
             exact d_stop
            refine d_fork ?_ ?_
            ·refine d_x rfl (x_alloc rfl) rfl rfl (by first | (intro h; cases h; done) | (intro _ _ _ hK x hx; obtain ⟨_, rfl, rfl⟩ := hK; obtain rfl := List.mem_singleton.1 hx; exact .tail _ m_m)) ?_
             rintro _ _ ⟨b18, rfl, rfl⟩
             refine d_fork ?_ ?_
             ·refine d_x rfl (x_callT (F := [(b18, _), (b15, _), (b14, _), (b7, _), (ba, _), (b73, _)]) (A := (tb4, _) :: ([] ++ [(b77, _), (b75, _)])) call_10 rfl (fun w hw => stepR_fn b77 b75 (n := 0) s ⟨(((patch (fillB l2) Y.m.acc).set 65295 (atB (fillB l1) 65295)).set 65535 (atB (fillB l1) 65535)), []⟩ hs hm2 (d := D) (s' := Y.s) (m' := ⟨ob9, Y.m.acc⟩) hD2 _ _ .nil tb4 _ oT4 hT4 w (St.lentV hw))) rfl rfl n_h ?_
              rintro _ _ ⟨_, ⟨rfl, oU4, hU4, va4, Ga4, hV4, rfl⟩, rfl⟩
              obtain ⟨bz, cpz, spz, rfl, rfl, hc4, hl4, hm4⟩ := hV4.full (show Y.m.acc.length ≠ 0 by omega)
              refine c_u ?_
              refine d_mv rfl (vnf_eq rfl) rfl rfl ?_
              refine RD ?_
              refine RD ?_
              refine d_x rfl (x_alloc rfl) rfl rfl (by first | (intro h; cases h; done) | (intro _ _ _ hK x hx; obtain ⟨_, rfl, rfl⟩ := hK; obtain rfl := List.mem_singleton.1 hx; exact .tail _ m_m)) ?_
              rintro _ _ ⟨b17, rfl, rfl⟩
              refine d_x rfl (x_storeTo (l' := cS Y.s) 0 rfl rfl rfl rfl rfl rfl (Nat.le_of_ble_eq_true rfl) rfl) rfl rfl n_h ?_
              rintro _ _ ⟨rfl, rfl⟩
              refine c_u ?_
              refine d_x rfl (x_storeTo (l' := cDd D) 1 rfl rfl rfl rfl rfl rfl (Nat.le_of_ble_eq_true rfl) rfl) rfl rfl n_h ?_
              rintro _ _ ⟨rfl, rfl⟩
              refine c_u ?_
              refine d_nil ?_
              exact ⟨(b17, b18, bz, cpz, spz), trivial, .cons rfl (.cons rfl .nil), a_g, fun _ h => (St.fl [[_], [_], [_], [_], [_], [_], [_], [_], [_], [_], [_]] [1, 0, 2, 3, 9, 8, 5, 6] rfl h).as (by simp only [List.filterMap_cons, List.filterMap_nil, List.getElem?_cons_zero, List.getElem?_cons_succ, VV.fl, List.cons_append, List.nil_append])⟩
             refine d_fork ?_ ?_
             ·refine d_x rfl (x_alloc rfl) rfl rfl (by first | (intro h; cases h; done) | (intro _ _ _ hK x hx; obtain ⟨_, rfl, rfl⟩ := hK; obtain rfl := List.mem_singleton.1 hx; exact .tail _ m_m)) ?_
              rintro _ _ ⟨b17, rfl, rfl⟩
              refine d_x rfl (x_callT (F := [(b17, _), (b18, _), (b15, _), (b14, _), (b7, _), (ba, _), (b73, _)]) (A := (tb4, _) :: ([] ++ [(b77, _), (b75, _)])) call_10 rfl (fun w hw => stepR_fn b77 b75 (n := 0) s ⟨(((patch (fillB l2) Y.m.acc).set 65295 (atB (fillB l1) 65295)).set 65535 (atB (fillB l1) 65535)), []⟩ hs hm2 (d := D) (s' := Y.s) (m' := ⟨ob9, Y.m.acc⟩) hD2 _ _ .nil tb4 _ oT4 hT4 w (St.lentV hw))) rfl rfl n_h ?_
              rintro _ _ ⟨_, ⟨rfl, oU4, hU4, va4, Ga4, hV4, rfl⟩, rfl⟩
              obtain ⟨bz, cpz, spz, rfl, rfl, hc4, hl4, hm4⟩ := hV4.full (show Y.m.acc.length ≠ 0 by omega)
              refine c_u ?_
              refine d_mv rfl (vnf_eq rfl) rfl rfl ?_
              refine RD ?_
              refine RD ?_
              refine d_x rfl (x_storeTo (l' := cS Y.s) 0 rfl rfl rfl rfl rfl rfl (Nat.le_of_ble_eq_true rfl) rfl) rfl rfl n_h ?_
              rintro _ _ ⟨rfl, rfl⟩
              refine c_u ?_
              refine d_x rfl (x_storeTo (l' := cDd D) 1 rfl rfl rfl rfl rfl rfl (Nat.le_of_ble_eq_true rfl) rfl) rfl rfl n_h ?_
              rintro _ _ ⟨rfl, rfl⟩
              refine c_u ?_
              refine d_nil ?_
              exact ⟨(b17, b18, bz, cpz, spz), trivial, .cons rfl (.cons rfl .nil), a_g, fun _ h => (St.fl [[_], [_], [_], [_], [_], [_], [_], [_], [_], [_], [_]] [1, 0, 2, 3, 9, 8, 5, 6] rfl h).as (by simp only [List.filterMap_cons, List.filterMap_nil, List.getElem?_cons_zero, List.getElem?_cons_succ, VV.fl, List.cons_append, List.nil_append])⟩
             exact d_stop
            exact d_stop
           refine d_fork ?_ ?_
           ·refine d_x rfl (x_alloc rfl) rfl rfl (by first | (intro h; cases h; done) | (intro _ _ _ hK x hx; obtain ⟨_, rfl, rfl⟩ := hK; obtain rfl := List.mem_singleton.1 hx; exact .tail _ m_m)) ?_
            rintro _ _ ⟨b17, rfl, rfl⟩
            refine d_fork ?_ ?_
            ·refine d_x rfl (x_call call_11 rfl (fun w hw => tnew_fn w)) rfl rfl (by first | (intro h; cases h; done) | (intro _ _ _ hK x hx; obtain ⟨_, _, rfl⟩ := hK; obtain rfl := List.mem_singleton.1 hx; exact List.mem_append_right _ m_m)) ?_
             rintro _ _ ⟨GT, ⟨tb4, rfl, hT4⟩, rfl⟩
             obtain ⟨oT4, rfl⟩ := hT4.one
             refine d_heap (fun _ h => St.fl [[_], [_], [_], [_], [_], [_], [_], [_], [_]] [1, 2, 3, 4, 7, 8, 0, 5, 6] rfl h) ?_
             simp only [List.filterMap_cons, List.filterMap_nil, List.getElem?_cons_zero, List.getElem?_cons_succ, VV.fl, List.cons_append, List.nil_append]
             refine d_fork ?_ ?_
             ·refine d_x rfl (x_callT (F := [(b17, _), (b15, _), (b14, _), (b7, _), (ba, _), (b73, _)]) (A := (tb4, _) :: ([] ++ [(b77, _), (b75, _)])) call_10 rfl (fun w hw => stepR_fn b77 b75 (n := 0) s ⟨(((patch (fillB l2) Y.m.acc).set 65295 (atB (fillB l1) 65295)).set 65535 (atB (fillB l1) 65535)), []⟩ hs hm2 (d := D) (s' := Y.s) (m' := ⟨ob9, Y.m.acc⟩) hD2 _ _ .nil tb4 _ oT4 hT4 w (St.lentV hw))) rfl rfl n_h ?_
              rintro _ _ ⟨_, ⟨rfl, oU4, hU4, va4, Ga4, hV4, rfl⟩, rfl⟩
              obtain ⟨bz, cpz, spz, rfl, rfl, hc4, hl4, hm4⟩ := hV4.full (show Y.m.acc.length ≠ 0 by omega)
              refine c_u ?_
              refine d_mv rfl (vnf_eq rfl) rfl rfl ?_
              refine RD ?_
              refine RD ?_
              refine d_x rfl (x_alloc rfl) rfl rfl (by first | (intro h; cases h; done) | (intro _ _ _ hK x hx; obtain ⟨_, rfl, rfl⟩ := hK; obtain rfl := List.mem_singleton.1 hx; exact .tail _ m_m)) ?_
              rintro _ _ ⟨b18, rfl, rfl⟩
              refine d_x rfl (x_storeTo (l' := cS Y.s) 1 rfl rfl rfl rfl rfl rfl (Nat.le_of_ble_eq_true rfl) rfl) rfl rfl n_h ?_
              rintro _ _ ⟨rfl, rfl⟩
              refine c_u ?_
              refine d_x rfl (x_storeTo (l' := cDd D) 0 rfl rfl rfl rfl rfl rfl (Nat.le_of_ble_eq_true rfl) rfl) rfl rfl n_h ?_
              rintro _ _ ⟨rfl, rfl⟩
              refine c_u ?_
              refine d_nil ?_
              exact ⟨(b17, b18, bz, cpz, spz), trivial, .cons rfl (.cons rfl .nil), a_g, fun _ h => (St.fl [[_], [_], [_], [_], [_], [_], [_], [_], [_], [_], [_]] [0, 1, 2, 3, 9, 8, 5, 6] rfl h).as (by simp only [List.filterMap_cons, List.filterMap_nil, List.getElem?_cons_zero, List.getElem?_cons_succ, VV.fl, List.cons_append, List.nil_append])⟩
             refine d_fork ?_ ?_
             ·refine d_x rfl (x_alloc rfl) rfl rfl (by first | (intro h; cases h; done) | (intro _ _ _ hK x hx; obtain ⟨_, rfl, rfl⟩ := hK; obtain rfl := List.mem_singleton.1 hx; exact .tail _ m_m)) ?_
              rintro _ _ ⟨b18, rfl, rfl⟩
              refine d_x rfl (x_callT (F := [(b18, _), (b17, _), (b15, _), (b14, _), (b7, _), (ba, _), (b73, _)]) (A := (tb4, _) :: ([] ++ [(b77, _), (b75, _)])) call_10 rfl (fun w hw => stepR_fn b77 b75 (n := 0) s ⟨(((patch (fillB l2) Y.m.acc).set 65295 (atB (fillB l1) 65295)).set 65535 (atB (fillB l1) 65535)), []⟩ hs hm2 (d := D) (s' := Y.s) (m' := ⟨ob9, Y.m.acc⟩) hD2 _ _ .nil tb4 _ oT4 hT4 w (St.lentV hw))) rfl rfl n_h ?_
              rintro _ _ ⟨_, ⟨rfl, oU4, hU4, va4, Ga4, hV4, rfl⟩, rfl⟩
              obtain ⟨bz, cpz, spz, rfl, rfl, hc4, hl4, hm4⟩ := hV4.full (show Y.m.acc.length ≠ 0 by omega)
              refine c_u ?_
              refine d_mv rfl (vnf_eq rfl) rfl rfl ?_
              refine RD ?_
              refine RD ?_
              refine d_x rfl (x_storeTo (l' := cS Y.s) 1 rfl rfl rfl rfl rfl rfl (Nat.le_of_ble_eq_true rfl) rfl) rfl rfl n_h ?_
              rintro _ _ ⟨rfl, rfl⟩
              refine c_u ?_
              refine d_x rfl (x_storeTo (l' := cDd D) 0 rfl rfl rfl rfl rfl rfl (Nat.le_of_ble_eq_true rfl) rfl) rfl rfl n_h ?_
              rintro _ _ ⟨rfl, rfl⟩
              refine c_u ?_
              refine d_nil ?_
              exact ⟨(b17, b18, bz, cpz, spz), trivial, .cons rfl (.cons rfl .nil), a_g, fun _ h => (St.fl [[_], [_], [_], [_], [_], [_], [_], [_], [_], [_], [_]] [0, 1, 2, 3, 9, 8, 5, 6] rfl h).as (by simp only [List.filterMap_cons, List.filterMap_nil, List.getElem?_cons_zero, List.getElem?_cons_succ, VV.fl, List.cons_append, List.nil_append])⟩
             exact d_stop
            refine d_fork ?_ ?_
            ·refine d_x rfl (x_alloc rfl) rfl rfl (by first | (intro h; cases h; done) | (intro _ _ _ hK x hx; obtain ⟨_, rfl, rfl⟩ := hK; obtain rfl := List.mem_singleton.1 hx; exact .tail _ m_m)) ?_
             rintro _ _ ⟨b18, rfl, rfl⟩
             refine d_x rfl (x_call call_11 rfl (fun w hw => tnew_fn w)) rfl rfl (by first | (intro h; cases h; done) | (intro _ _ _ hK x hx; obtain ⟨_, _, rfl⟩ := hK; obtain rfl := List.mem_singleton.1 hx; exact List.mem_append_right _ m_m)) ?_
             rintro _ _ ⟨GT, ⟨tb4, rfl, hT4⟩, rfl⟩
             obtain ⟨oT4, rfl⟩ := hT4.one
             refine d_heap (fun _ h => St.fl [[_], [_], [_], [_], [_], [_], [_], [_], [_], [_]] [1, 2, 3, 4, 5, 8, 9, 0, 6, 7] rfl h) ?_
             simp only [List.filterMap_cons, List.filterMap_nil, List.getElem?_cons_zero, List.getElem?_cons_succ, VV.fl, List.cons_append, List.nil_append]
             refine d_x rfl (x_callT (F := [(b18, _), (b17, _), (b15, _), (b14, _), (b7, _), (ba, _), (b73, _)]) (A := (tb4, _) :: ([] ++ [(b77, _), (b75, _)])) call_10 rfl (fun w hw => stepR_fn b77 b75 (n := 0) s ⟨(((patch (fillB l2) Y.m.acc).set 65295 (atB (fillB l1) 65295)).set 65535 (atB (fillB l1) 65535)), []⟩ hs hm2 (d := D) (s' := Y.s) (m' := ⟨ob9, Y.m.acc⟩) hD2 _ _ .nil tb4 _ oT4 hT4 w (St.lentV hw))) rfl rfl n_h ?_
             rintro _ _ ⟨_, ⟨rfl, oU4, hU4, va4, Ga4, hV4, rfl⟩, rfl⟩
             obtain ⟨bz, cpz, spz, rfl, rfl, hc4, hl4, hm4⟩ := hV4.full (show Y.m.acc.length ≠ 0 by omega)
             refine c_u ?_
             refine d_mv rfl (vnf_eq rfl) rfl rfl ?_
             refine RD ?_
             refine RD ?_
             refine d_x rfl (x_storeTo (l' := cS Y.s) 1 rfl rfl rfl rfl rfl rfl (Nat.le_of_ble_eq_true rfl) rfl) rfl rfl n_h ?_
             rintro _ _ ⟨rfl, rfl⟩
             refine c_u ?_
             refine d_x rfl (x_storeTo (l' := cDd D) 0 rfl rfl rfl rfl rfl rfl (Nat.le_of_ble_eq_true rfl) rfl) rfl rfl n_h ?_
             rintro _ _ ⟨rfl, rfl⟩
             refine c_u ?_
             refine d_nil ?_
             exact ⟨(b17, b18, bz, cpz, spz), trivial, .cons rfl (.cons rfl .nil), a_g, fun _ h => (St.fl [[_], [_], [_], [_], [_], [_], [_], [_], [_], [_], [_]] [0, 1, 2, 3, 9, 8, 5, 6] rfl h).as (by simp only [List.filterMap_cons, List.filterMap_nil, List.getElem?_cons_zero, List.getElem?_cons_succ, VV.fl, List.cons_append, List.nil_append])⟩
            exact d_stop
           refine d_fork ?_ ?_
           ·refine d_x rfl (x_alloc rfl) rfl rfl (by first | (intro h; cases h; done) | (intro _ _ _ hK x hx; obtain ⟨_, rfl, rfl⟩ := hK; obtain rfl := List.mem_singleton.1 hx; exact .tail _ m_m)) ?_
            rintro _ _ ⟨b18, rfl, rfl⟩
            refine d_fork ?_ ?_
            ·refine d_x rfl (x_call call_11 rfl (fun w hw => tnew_fn w)) rfl rfl (by first | (intro h; cases h; done) | (intro _ _ _ hK x hx; obtain ⟨_, _, rfl⟩ := hK; obtain rfl := List.mem_singleton.1 hx; exact List.mem_append_right _ m_m)) ?_
             rintro _ _ ⟨GT, ⟨tb4, rfl, hT4⟩, rfl⟩
             obtain ⟨oT4, rfl⟩ := hT4.one
             refine d_heap (fun _ h => St.fl [[_], [_], [_], [_], [_], [_], [_], [_], [_]] [1, 2, 3, 4, 7, 8, 0, 5, 6] rfl h) ?_
             simp only [List.filterMap_cons, List.filterMap_nil, List.getElem?_cons_zero, List.getElem?_cons_succ, VV.fl, List.cons_append, List.nil_append]
             refine d_fork ?_ ?_
             ·refine d_x rfl (x_callT (F := [(b18, _), (b15, _), (b14, _), (b7, _), (ba, _), (b73, _)]) (A := (tb4, _) :: ([] ++ [(b77, _), (b75, _)])) call_10 rfl (fun w hw => stepR_fn b77 b75 (n := 0) s ⟨(((patch (fillB l2) Y.m.acc).set 65295 (atB (fillB l1) 65295)).set 65535 (atB (fillB l1) 65535)), []⟩ hs hm2 (d := D) (s' := Y.s) (m' := ⟨ob9, Y.m.acc⟩) hD2 _ _ .nil tb4 _ oT4 hT4 w (St.lentV hw))) rfl rfl n_h ?_
              rintro _ _ ⟨_, ⟨rfl, oU4, hU4, va4, Ga4, hV4, rfl⟩, rfl⟩
              obtain ⟨bz, cpz, spz, rfl, rfl, hc4, hl4, hm4⟩ := hV4.full (show Y.m.acc.length ≠ 0 by omega)
              refine c_u ?_
              refine d_mv rfl (vnf_eq rfl) rfl rfl ?_
              refine RD ?_
              refine RD ?_
              refine d_x rfl (x_alloc rfl) rfl rfl (by first | (intro h; cases h; done) | (intro _ _ _ hK x hx; obtain ⟨_, rfl, rfl⟩ := hK; obtain rfl := List.mem_singleton.1 hx; exact .tail _ m_m)) ?_
              rintro _ _ ⟨b17, rfl, rfl⟩
              refine d_x rfl (x_storeTo (l' := cS Y.s) 0 rfl rfl rfl rfl rfl rfl (Nat.le_of_ble_eq_true rfl) rfl) rfl rfl n_h ?_
              rintro _ _ ⟨rfl, rfl⟩
              refine c_u ?_
              refine d_x rfl (x_storeTo (l' := cDd D) 1 rfl rfl rfl rfl rfl rfl (Nat.le_of_ble_eq_true rfl) rfl) rfl rfl n_h ?_
              rintro _ _ ⟨rfl, rfl⟩
              refine c_u ?_
              refine d_nil ?_
              exact ⟨(b17, b18, bz, cpz, spz), trivial, .cons rfl (.cons rfl .nil), a_g, fun _ h => (St.fl [[_], [_], [_], [_], [_], [_], [_], [_], [_], [_], [_]] [1, 0, 2, 3, 9, 8, 5, 6] rfl h).as (by simp only [List.filterMap_cons, List.filterMap_nil, List.getElem?_cons_zero, List.getElem?_cons_succ, VV.fl, List.cons_append, List.nil_append])⟩
             refine d_fork ?_ ?_
             ·refine d_x rfl (x_alloc rfl) rfl rfl (by first | (intro h; cases h; done) | (intro _ _ _ hK x hx; obtain ⟨_, rfl, rfl⟩ := hK; obtain rfl := List.mem_singleton.1 hx; exact .tail _ m_m)) ?_
              rintro _ _ ⟨b17, rfl, rfl⟩
              refine d_x rfl (x_callT (F := [(b17, _), (b18, _), (b15, _), (b14, _), (b7, _), (ba, _), (b73, _)]) (A := (tb4, _) :: ([] ++ [(b77, _), (b75, _)])) call_10 rfl (fun w hw => stepR_fn b77 b75 (n := 0) s ⟨(((patch (fillB l2) Y.m.acc).set 65295 (atB (fillB l1) 65295)).set 65535 (atB (fillB l1) 65535)), []⟩ hs hm2 (d := D) (s' := Y.s) (m' := ⟨ob9, Y.m.acc⟩) hD2 _ _ .nil tb4 _ oT4 hT4 w (St.lentV hw))) rfl rfl n_h ?_
              rintro _ _ ⟨_, ⟨rfl, oU4, hU4, va4, Ga4, hV4, rfl⟩, rfl⟩
              obtain ⟨bz, cpz, spz, rfl, rfl, hc4, hl4, hm4⟩ := hV4.full (show Y.m.acc.length ≠ 0 by omega)
              refine c_u ?_
              refine d_mv rfl (vnf_eq rfl) rfl rfl ?_
              refine RD ?_
              refine RD ?_
              refine d_x rfl (x_storeTo (l' := cS Y.s) 0 rfl rfl rfl rfl rfl rfl (Nat.le_of_ble_eq_true rfl) rfl) rfl rfl n_h ?_
              rintro _ _ ⟨rfl, rfl⟩
              refine c_u ?_
              refine d_x rfl (x_storeTo (l' := cDd D) 1 rfl rfl rfl rfl rfl rfl (Nat.le_of_ble_eq_true rfl) rfl) rfl rfl n_h ?_
              rintro _ _ ⟨rfl, rfl⟩
              refine c_u ?_
              refine d_nil ?_
              exact ⟨(b17, b18, bz, cpz, spz), trivial, .cons rfl (.cons rfl .nil), a_g, fun _ h => (St.fl [[_], [_], [_], [_], [_], [_], [_], [_], [_], [_], [_]] [1, 0, 2, 3, 9, 8, 5, 6] rfl h).as (by simp only [List.filterMap_cons, List.filterMap_nil, List.getElem?_cons_zero, List.getElem?_cons_succ, VV.fl, List.cons_append, List.nil_append])⟩
             exact d_stop
            refine d_fork ?_ ?_
            ·refine d_x rfl (x_alloc rfl) rfl rfl (by first | (intro h; cases h; done) | (intro _ _ _ hK x hx; obtain ⟨_, rfl, rfl⟩ := hK; obtain rfl := List.mem_singleton.1 hx; exact .tail _ m_m)) ?_
             rintro _ _ ⟨b17, rfl, rfl⟩
             refine d_x rfl (x_call call_11 rfl (fun w hw => tnew_fn w)) rfl rfl (by first | (intro h; cases h; done) | (intro _ _ _ hK x hx; obtain ⟨_, _, rfl⟩ := hK; obtain rfl := List.mem_singleton.1 hx; exact List.mem_append_right _ m_m)) ?_
             rintro _ _ ⟨GT, ⟨tb4, rfl, hT4⟩, rfl⟩
             obtain ⟨oT4, rfl⟩ := hT4.one
             refine d_heap (fun _ h => St.fl [[_], [_], [_], [_], [_], [_], [_], [_], [_], [_]] [1, 2, 3, 4, 5, 8, 9, 0, 6, 7] rfl h) ?_
             simp only [List.filterMap_cons, List.filterMap_nil, List.getElem?_cons_zero, List.getElem?_cons_succ, VV.fl, List.cons_append, List.nil_append]
             refine d_x rfl (x_callT (F := [(b17, _), (b18, _), (b15, _), (b14, _), (b7, _), (ba, _), (b73, _)]) (A := (tb4, _) :: ([] ++ [(b77, _), (b75, _)])) call_10 rfl (fun w hw => stepR_fn b77 b75 (n := 0) s ⟨(((patch (fillB l2) Y.m.acc).set 65295 (atB (fillB l1) 65295)).set 65535 (atB (fillB l1) 65535)), []⟩ hs hm2 (d := D) (s' := Y.s) (m' := ⟨ob9, Y.m.acc⟩) hD2 _ _ .nil tb4 _ oT4 hT4 w (St.lentV hw))) rfl rfl n_h ?_
             rintro _ _ ⟨_, ⟨rfl, oU4, hU4, va4, Ga4, hV4, rfl⟩, rfl⟩
             obtain ⟨bz, cpz, spz, rfl, rfl, hc4, hl4, hm4⟩ := hV4.full (show Y.m.acc.length ≠ 0 by omega)
             refine c_u ?_
             refine d_mv rfl (vnf_eq rfl) rfl rfl ?_
             refine RD ?_
             refine RD ?_
             refine d_x rfl (x_storeTo (l' := cS Y.s) 0 rfl rfl rfl rfl rfl rfl (Nat.le_of_ble_eq_true rfl) rfl) rfl rfl n_h ?_
             rintro _ _ ⟨rfl, rfl⟩
             refine c_u ?_
             refine d_x rfl (x_storeTo (l' := cDd D) 1 rfl rfl rfl rfl rfl rfl (Nat.le_of_ble_eq_true rfl) rfl) rfl rfl n_h ?_
             rintro _ _ ⟨rfl, rfl⟩
             refine c_u ?_
             refine d_nil ?_
             exact ⟨(b17, b18, bz, cpz, spz), trivial, .cons rfl (.cons rfl .nil), a_g, fun _ h => (St.fl [[_], [_], [_], [_], [_], [_], [_], [_], [_], [_], [_]] [1, 0, 2, 3, 9, 8, 5, 6] rfl h).as (by simp only [List.filterMap_cons, List.filterMap_nil, List.getElem?_cons_zero, List.getElem?_cons_succ, VV.fl, List.cons_append, List.nil_append])⟩
            exact d_stop
           exact d_stop
          ·rintro ⟨b17, b18, bz, cpz, spz⟩ y17 hJ
           dsimp only at hJ ⊢
           refine c_seq ?_
           refine c_draw _ [1, 5, 13, 14, 15, 16] (.step true 0 (.step true 1 (.step true 2 (.step true 3 (.step true 4 (.step true 5 (.step true 6 (.step true 7 (.step true 8 (.step true 9 (.step true 10 (.step true 11 (.step true 12 (.step true 13 (.step true 14 (.step true 15 (.step true 16 (.step false 17 (.step true 18 (.step true 19 .done)))))))))))))))))))) rfl (by kernel_rfl) (by kernel_rfl) (fun _ h => h) ?_
           refine d_loadA rfl rfl rfl rfl (srow_own (l := cS Y.s) m_m) rfl rfl ?_
           refine d_loadA rfl rfl rfl rfl (srow_own (l := cS Y.s) m_m) rfl rfl ?_
           refine d_eqs (ks := [.int .u8, .int .u8, .int .u8, .int .u8, .int .u8, .int .u8, .int .u8, .int .u8, .int .u16, .int .u16, .bool, .bool, .bool, .bool]) rfl rfl rfl (by kernel_rfl) (by kernel_rfl) rfl rfl rfl rfl (b := true) (lveq_refl (ks := [.int .u8, .int .u8, .int .u8, .int .u8, .int .u8, .int .u8, .int .u8, .int .u8, .int .u16, .int .u16, .bool, .bool, .bool, .bool]) rfl) ?_
           refine RD ?_
           refine d_loadA rfl rfl rfl rfl (srow_own (l := cDd D) m_m) rfl rfl ?_
           refine d_loadA rfl rfl rfl rfl (srow_own (l := cDd D) m_m) rfl rfl ?_
           refine d_eqs (ks := [.int .i64, .int .i64, .int .u16, .int .i64, .int .i64, .int .i64, .int .i64, .int .u16, .bool]) rfl rfl rfl (by kernel_rfl) (by kernel_rfl) rfl rfl rfl rfl (b := true) (lveq_refl (ks := [.int .i64, .int .i64, .int .u16, .int .i64, .int .i64, .int .i64, .int .i64, .int .u16, .bool]) rfl) ?_
           iterate 4 refine RD ?_
           refine RDa ?_
           refine RDo ?_
           refine RD ?_
           refine RD ?_
           refine RDa ?_
           refine RDo ?_
           refine d_x rfl (x_val call_12 rfl (fun w hw => accesses_fn Y.m.acc Y.m.acc (some ⟨ba, 0, none⟩) (some ⟨bz, 0, none⟩) cpa cpz o_m w (fun _ => ⟨ba, 0, rfl, Row.left (row_own (b := ba) (l := flat cAc Y.m.acc ++ spa) m_m w hw)⟩) (fun _ => ⟨bz, 0, rfl, Row.left (row_own (b := bz) (l := flat cAc Y.m.acc ++ spz) m_m w hw)⟩) o_m)) rfl rfl (by first | (intro h; cases h; done) | (intro _ _ _ hK x hx; obtain ⟨_, rfl⟩ := hK; exact hx)) ?_
           rintro _ _ ⟨rfl, rfl⟩
           rw [show decide (Y.m.acc = Y.m.acc) = true from decide_eq_true rfl]
           refine RD ?_
           refine RD ?_
           refine d_nil ?_
           refine c_ret ?_
           exact l_end0 (fun _ _ => rets_v rfl) ⟨rfl, rfl⟩
         refine d_fork ?_ ?_
         ·refine d_x rfl (x_load rfl rfl (at_own m_m (byte_in (l := fillB l1) (fillB_len l1) (a := 65535) (by decide)))) rfl rfl (by intro _ _ _ hK x hx; obtain ⟨rfl, rfl⟩ := hK; repeat (first | exact hx | exact List.mem_append_left _ hx | refine List.mem_append_right _ ?_ | refine .tail _ ?_)) ?_
          rintro _ _ ⟨rfl, rfl⟩
          refine d_x rfl (x_load rfl rfl (at_own m_m (byte_in (l := fillB l1) (fillB_len l1) (a := 65295) (by decide)))) rfl rfl (by intro _ _ _ hK x hx; obtain ⟨rfl, rfl⟩ := hK; repeat (first | exact hx | exact List.mem_append_left _ hx | refine List.mem_append_right _ ?_ | refine .tail _ ?_)) ?_
          rintro _ _ ⟨rfl, rfl⟩
          refine d_light rfl (idx_slice1 (65295 : Int).toNat rfl rfl rfl rfl (by decide)) rfl rfl rfl ?_
          refine d_x rfl (x_storeTo (l' := ((patch (fillB l2) Y.m.acc).set 65295 (atB (fillB l1) 65295)).map (.int .u8)) 6 rfl rfl rfl rfl rfl rfl (store_fits (by rw [patch_len, fillB_len]) 65295 (by decide)) (store_in (by rw [patch_len, fillB_len]) 65295 (by decide) _)) rfl rfl n_h ?_
          rintro _ _ ⟨rfl, rfl⟩
          refine c_u ?_
          refine d_light rfl (idx_slice1 (65535 : Int).toNat rfl rfl rfl rfl (by decide)) rfl rfl rfl ?_
          refine d_x rfl (x_storeTo (l' := (((patch (fillB l2) Y.m.acc).set 65295 (atB (fillB l1) 65295)).set 65535 (atB (fillB l1) 65535)).map (.int .u8)) 6 rfl rfl rfl rfl rfl rfl (store_fits (by rw [List.length_set, patch_len, fillB_len]) 65535 (by decide)) (store_in (by rw [List.length_set, patch_len, fillB_len]) 65535 (by decide) _)) rfl rfl n_h ?_
          rintro _ _ ⟨rfl, rfl⟩
          refine c_u ?_
          refine d_nil ?_
          refine c_cut (σ := Nat × Nat × Nat × Nat × List Value) [17, 18, 154, 155, 156, 157, 158, 159, 160, 161] (fun q => [(17, .pointer (some ⟨q.1, 0, none⟩)), (18, .pointer (some ⟨q.2.1, 0, none⟩))]) (fun q => (q.2.1, blk (cDd D) 40) :: (q.1, blk (cS Y.s) 35) :: (b15, blk (cDd D) 40) :: (b14, blk (cS Y.s) 35) :: (b77, blk [.slice (some ⟨b75, 0, none⟩) 65536 65536, .slice (some ⟨q.2.2.1, 0, none⟩) Y.m.acc.length q.2.2.2.1] 32) :: (q.2.2.1, blk (flat cAc Y.m.acc ++ q.2.2.2.2) 47) :: (ba, blk (flat cAc Y.m.acc ++ spa) 47) :: [(b73, blk [.slice (some ⟨b71, 0, none⟩) 65536 65536, .slice (some ⟨ba, 0, none⟩) Y.m.acc.length cpa] 32)]) (fun q => True) ?_ ?_
          ·obtain ⟨ob9, hD2⟩ := nil_law (s := s) (fillB_len l1) (fillB_len l2) hDY (fun e he => (ok9.m.accs e he).1)
           have hm2 : RamOk (0 + 7) ⟨(((patch (fillB l2) Y.m.acc).set 65295 (atB (fillB l1) 65295)).set 65535 (atB (fillB l1) 65535)), []⟩ := ⟨by rw [List.length_set, List.length_set, patch_len, fillB_len], byts_set (byts_set (patch_byts (fillB_ok hb2) (fun e he => (ok9.m.accs e he).2)) _ ((fillB_ok hb1).get _)) _ ((fillB_ok hb1).get _), show 0 + (0 + 7) ≤ 1000000 by decide, fun _ h => by cases h⟩
           refine c_heap (fun _ h => St.fl [[_], [_], [_], [_], [_], [_], [_], [_], [_], [_]] [2, 3, 4, 5, 6, 7, 8] rfl h) ?_
           simp only [List.filterMap_cons, List.filterMap_nil, List.getElem?_cons_zero, List.getElem?_cons_succ, VV.fl, List.cons_append, List.nil_append]
           refine c_draw [(b7, blk (cS s) 35)] [0, 2, 3, 8, 9] (.step true 1 (.step true 2 (.step true 3 (.fork 0 (.fork 4 (.step true 5 (.step true 6 (.step true 7 (.fork 8 (.step false 9 (.step false 10 (.step false 11 .done))) (.fork 9 (.step false 8 (.step false 10 (.step false 11 .done))) .stop))))) (.fork 8 (.fork 4 (.step true 5 (.step true 6 (.step true 7 (.step false 9 (.step false 10 (.step false 11 .done)))))) (.fork 9 (.step false 4 (.step true 5 (.step true 6 (.step true 7 (.step false 10 (.step false 11 .done)))))) .stop)) (.fork 9 (.fork 4 (.step true 5 (.step true 6 (.step true 7 (.step false 8 (.step false 10 (.step false 11 .done)))))) (.fork 8 (.step false 4 (.step true 5 (.step true 6 (.step true 7 (.step false 10 (.step false 11 .done)))))) .stop)) .stop))) (.fork 8 (.fork 0 (.fork 4 (.step true 5 (.step true 6 (.step true 7 (.step false 9 (.step false 10 (.step false 11 .done)))))) (.fork 9 (.step false 4 (.step true 5 (.step true 6 (.step true 7 (.step false 10 (.step false 11 .done)))))) .stop)) (.fork 9 (.step false 0 (.step false 4 (.step true 5 (.step true 6 (.step true 7 (.step false 10 (.step false 11 .done))))))) .stop)) (.fork 9 (.fork 0 (.fork 4 (.step true 5 (.step true 6 (.step true 7 (.step false 8 (.step false 10 (.step false 11 .done)))))) (.fork 8 (.step false 4 (.step true 5 (.step true 6 (.step true 7 (.step false 10 (.step false 11 .done)))))) .stop)) (.fork 8 (.step false 0 (.step false 4 (.step true 5 (.step true 6 (.step true 7 (.step false 10 (.step false 11 .done))))))) .stop)) .stop)))))) rfl (by kernel_rfl) (by kernel_rfl) (fun x hx => by obtain rfl := List.mem_singleton.1 hx; exact m_m) ?_
           refine d_loadA rfl rfl rfl rfl (srow_own (l := cS s) m_m) rfl rfl ?_
           refine RD ?_
           refine RD ?_
           refine d_fork ?_ ?_
           ·refine d_x rfl (x_call call_11 rfl (fun w hw => tnew_fn w)) rfl rfl (by first | (intro h; cases h; done) | (intro _ _ _ hK x hx; obtain ⟨_, _, rfl⟩ := hK; obtain rfl := List.mem_singleton.1 hx; exact List.mem_append_right _ m_m)) ?_
            rintro _ _ ⟨GT, ⟨tb4, rfl, hT4⟩, rfl⟩
            obtain ⟨oT4, rfl⟩ := hT4.one
            refine d_heap (fun _ h => St.fl [[_], [_], [_], [_], [_], [_], [_], [_]] [1, 2, 3, 6, 7, 0, 4, 5] rfl h) ?_
            simp only [List.filterMap_cons, List.filterMap_nil, List.getElem?_cons_zero, List.getElem?_cons_succ, VV.fl, List.cons_append, List.nil_append]
            refine d_fork ?_ ?_
            ·refine d_x rfl (x_callT (F := [(b15, _), (b14, _), (b7, _), (ba, _), (b73, _)]) (A := (tb4, _) :: ([] ++ [(b77, _), (b75, _)])) call_10 rfl (fun w hw => stepR_fn b77 b75 (n := 0) s ⟨(((patch (fillB l2) Y.m.acc).set 65295 (atB (fillB l1) 65295)).set 65535 (atB (fillB l1) 65535)), []⟩ hs hm2 (d := D) (s' := Y.s) (m' := ⟨ob9, Y.m.acc⟩) hD2 _ _ .nil tb4 _ oT4 hT4 w (St.lentV hw))) rfl rfl n_h ?_
             rintro _ _ ⟨_, ⟨rfl, oU4, hU4, va4, Ga4, hV4, rfl⟩, rfl⟩
             obtain ⟨bz, cpz, spz, rfl, rfl, hc4, hl4, hm4⟩ := hV4.full (show Y.m.acc.length ≠ 0 by omega)
             refine c_u ?_
             refine d_mv rfl (vnf_eq rfl) rfl rfl ?_
             refine RD ?_
             refine RD ?_
             refine d_fork ?_ ?_
             ·refine d_x rfl (x_alloc rfl) rfl rfl (by first | (intro h; cases h; done) | (intro _ _ _ hK x hx; obtain ⟨_, rfl, rfl⟩ := hK; obtain rfl := List.mem_singleton.1 hx; exact .tail _ m_m)) ?_
              rintro _ _ ⟨b17, rfl, rfl⟩
              refine d_x rfl (x_alloc rfl) rfl rfl (by first | (intro h; cases h; done) | (intro _ _ _ hK x hx; obtain ⟨_, rfl, rfl⟩ := hK; obtain rfl := List.mem_singleton.1 hx; exact .tail _ m_m)) ?_
              rintro _ _ ⟨b18, rfl, rfl⟩
              refine d_x rfl (x_storeTo (l' := cS Y.s) 1 rfl rfl rfl rfl rfl rfl (Nat.le_of_ble_eq_true rfl) rfl) rfl rfl n_h ?_
              rintro _ _ ⟨rfl, rfl⟩
              refine c_u ?_
              refine d_x rfl (x_storeTo (l' := cDd D) 0 rfl rfl rfl rfl rfl rfl (Nat.le_of_ble_eq_true rfl) rfl) rfl rfl n_h ?_
              rintro _ _ ⟨rfl, rfl⟩
              refine c_u ?_
              refine d_nil ?_
              exact ⟨(b17, b18, bz, cpz, spz), trivial, .cons rfl (.cons rfl .nil), a_g, fun _ h => (St.fl [[_], [_], [_], [_], [_], [_], [_], [_], [_], [_], [_]] [0, 1, 2, 3, 9, 8, 5, 6] rfl h).as (by simp only [List.filterMap_cons, List.filterMap_nil, List.getElem?_cons_zero, List.getElem?_cons_succ, VV.fl, List.cons_append, List.nil_append])⟩
             refine d_fork ?_ ?_
             ·refine d_x rfl (x_alloc rfl) rfl rfl (by first | (intro h; cases h; done) | (intro _ _ _ hK x hx; obtain ⟨_, rfl, rfl⟩ := hK; obtain rfl := List.mem_singleton.1 hx; exact .tail _ m_m)) ?_
              rintro _ _ ⟨b18, rfl, rfl⟩
              refine d_x rfl (x_alloc rfl) rfl rfl (by first | (intro h; cases h; done) | (intro _ _ _ hK x hx; obtain ⟨_, rfl, rfl⟩ := hK; obtain rfl := List.mem_singleton.1 hx; exact .tail _ m_m)) ?_
              rintro _ _ ⟨b17, rfl, rfl⟩
              refine d_x rfl (x_storeTo (l' := cS Y.s) 0 rfl rfl rfl rfl rfl rfl (Nat.le_of_ble_eq_true rfl) rfl) rfl rfl n_h ?_
              rintro _ _ ⟨rfl, rfl⟩
              refine c_u ?_
              refine d_x rfl (x_storeTo (l' := cDd D) 1 rfl rfl rfl rfl rfl rfl (Nat.le_of_ble_eq_true rfl) rfl) rfl rfl n_h ?_
              rintro _ _ ⟨rfl, rfl⟩
              refine c_u ?_
              refine d_nil ?_
              exact ⟨(b17, b18, bz, cpz, spz), trivial, .cons rfl (.cons rfl .nil), a_g, fun _ h => (St.fl [[_], [_], [_], [_], [_], [_], [_], [_], [_], [_], [_]] [1, 0, 2, 3, 9, 8, 5, 6] rfl h).as (by simp only [List.filterMap_cons, List.filterMap_nil, List.getElem?_cons_zero, List.getElem?_cons_succ, VV.fl, List.cons_append, List.nil_append])⟩
             exact d_stop
            refine d_fork ?_ ?_
            ·refine d_x rfl (x_alloc rfl) rfl rfl (by first | (intro h; cases h; done) | (intro _ _ _ hK x hx; obtain ⟨_, rfl, rfl⟩ := hK; obtain rfl := List.mem_singleton.1 hx; exact .tail _ m_m)) ?_
             rintro _ _ ⟨b17, rfl, rfl⟩
             refine d_fork ?_ ?_
             ·refine d_x rfl (x_callT (F := [(b17, _), (b15, _), (b14, _), (b7, _), (ba, _), (b73, _)]) (A := (tb4, _) :: ([] ++ [(b77, _), (b75, _)])) call_10 rfl (fun w hw => stepR_fn b77 b75 (n := 0) s ⟨(((patch (fillB l2) Y.m.acc).set 65295 (atB (fillB l1) 65295)).set 65535 (atB (fillB l1) 65535)), []⟩ hs hm2 (d := D) (s' := Y.s) (m' := ⟨ob9, Y.m.acc⟩) hD2 _ _ .nil tb4 _ oT4 hT4 w (St.lentV hw))) rfl rfl n_h ?_
              rintro _ _ ⟨_, ⟨rfl, oU4, hU4, va4, Ga4, hV4, rfl⟩, rfl⟩
              obtain ⟨bz, cpz, spz, rfl, rfl, hc4, hl4, hm4⟩ := hV4.full (show Y.m.acc.length ≠ 0 by omega)
              refine c_u ?_
              refine d_mv rfl (vnf_eq rfl) rfl rfl ?_
              refine RD ?_
              refine RD ?_
              refine d_x rfl (x_alloc rfl) rfl rfl (by first | (intro h; cases h; done) | (intro _ _ _ hK x hx; obtain ⟨_, rfl, rfl⟩ := hK; obtain rfl := List.mem_singleton.1 hx; exact .tail _ m_m)) ?_
              rintro _ _ ⟨b18, rfl, rfl⟩
              refine d_x rfl (x_storeTo (l' := cS Y.s) 1 rfl rfl rfl rfl rfl rfl (Nat.le_of_ble_eq_true rfl) rfl) rfl rfl n_h ?_
              rintro _ _ ⟨rfl, rfl⟩
              refine c_u ?_
              refine d_x rfl (x_storeTo (l' := cDd D) 0 rfl rfl rfl rfl rfl rfl (Nat.le_of_ble_eq_true rfl) rfl) rfl rfl n_h ?_
              rintro _ _ ⟨rfl, rfl⟩
              refine c_u ?_
              refine d_nil ?_
              exact ⟨(b17, b18, bz, cpz, spz), trivial, .cons rfl (.cons rfl .nil), a_g, fun _ h => (St.fl [[_], [_], [_], [_], [_], [_], [_], [_], [_], [_], [_]] [0, 1, 2, 3, 9, 8, 5, 6] rfl h).as (by simp only [List.filterMap_cons, List.filterMap_nil, List.getElem?_cons_zero, List.getElem?_cons_succ, VV.fl, List.cons_append, List.nil_append])⟩
             refine d_fork ?_ ?_
             ·refine d_x rfl (x_alloc rfl) rfl rfl (by first | (intro h; cases h; done) | (intro _ _ _ hK x hx; obtain ⟨_, rfl, rfl⟩ := hK; obtain rfl := List.mem_singleton.1 hx; exact .tail _ m_m)) ?_
              rintro _ _ ⟨b18, rfl, rfl⟩
              refine d_x rfl (x_callT (F := [(b18, _), (b17, _), (b15, _), (b14, _), (b7, _), (ba, _), (b73, _)]) (A := (tb4, _) :: ([] ++ [(b77, _), (b75, _)])) call_10 rfl (fun w hw => stepR_fn b77 b75 (n := 0) s ⟨(((patch (fillB l2) Y.m.acc).set 65295 (atB (fillB l1) 65295)).set 65535 (atB (fillB l1) 65535)), []⟩ hs hm2 (d := D) (s' := Y.s) (m' := ⟨ob9, Y.m.acc⟩) hD2 _ _ .nil tb4 _ oT4 hT4 w (St.lentV hw))) rfl rfl n_h ?_
              rintro _ _ ⟨_, ⟨rfl, oU4, hU4, va4, Ga4, hV4, rfl⟩, rfl⟩
              obtain ⟨bz, cpz, spz, rfl, rfl, hc4, hl4, hm4⟩ := hV4.full (show Y.m.acc.length ≠ 0 by omega)
              refine c_u ?_
              refine d_mv rfl (vnf_eq rfl) rfl rfl ?_
              refine RD ?_
              refine RD ?_
              refine d_x rfl (x_storeTo (l' := cS Y.s) 1 rfl rfl rfl rfl rfl rfl (Nat.le_of_ble_eq_true rfl) rfl) rfl rfl n_h ?_
              rintro _ _ ⟨rfl, rfl⟩
              refine c_u ?_
              refine d_x rfl (x_storeTo (l' := cDd D) 0 rfl rfl rfl rfl rfl rfl (Nat.le_of_ble_eq_true rfl) rfl) rfl rfl n_h ?_
              rintro _ _ ⟨rfl, rfl⟩
              refine c_u ?_
              refine d_nil ?_
              exact ⟨(b17, b18, bz, cpz, spz), trivial, .cons rfl (.cons rfl .nil), a_g, fun _ h => (St.fl [[_], [_], [_], [_], [_], [_], [_], [_], [_], [_], [_]] [0, 1, 2, 3, 9, 8, 5, 6] rfl h).as (by simp only [List.filterMap_cons, List.filterMap_nil, List.getElem?_cons_zero, List.getElem?_cons_succ, VV.fl, List.cons_append, List.nil_append])⟩
             exact d_stop
            refine d_fork ?_ ?_
            ·refine d_x rfl (x_alloc rfl) rfl rfl (by first | (intro h; cases h; done) | (intro _ _ _ hK x hx; obtain ⟨_, rfl, rfl⟩ := hK; obtain rfl := List.mem_singleton.1 hx; exact .tail _ m_m)) ?_
             rintro _ _ ⟨b18, rfl, rfl⟩
             refine d_fork ?_ ?_
             ·refine d_x rfl (x_callT (F := [(b18, _), (b15, _), (b14, _), (b7, _), (ba, _), (b73, _)]) (A := (tb4, _) :: ([] ++ [(b77, _), (b75, _)])) call_10 rfl (fun w hw => stepR_fn b77 b75 (n := 0) s ⟨(((patch (fillB l2) Y.m.acc).set 65295 (atB (fillB l1) 65295)).set 65535 (atB (fillB l1) 65535)), []⟩ hs hm2 (d := D) (s' := Y.s) (m' := ⟨ob9, Y.m.acc⟩) hD2 _ _ .nil tb4 _ oT4 hT4 w (St.lentV hw))) rfl rfl n_h ?_
              rintro _ _ ⟨_, ⟨rfl, oU4, hU4, va4, Ga4, hV4, rfl⟩, rfl⟩
              obtain ⟨bz, cpz, spz, rfl, rfl, hc4, hl4, hm4⟩ := hV4.full (show Y.m.acc.length ≠ 0 by omega)
              refine c_u ?_
              refine d_mv rfl (vnf_eq rfl) rfl rfl ?_
              refine RD ?_
              refine RD ?_
              refine d_x rfl (x_alloc rfl) rfl rfl (by first | (intro h; cases h; done) | (intro _ _ _ hK x hx; obtain ⟨_, rfl, rfl⟩ := hK; obtain rfl := List.mem_singleton.1 hx; exact .tail _ m_m)) ?_
              rintro _ _ ⟨b17, rfl, rfl⟩
              refine d_x rfl (x_storeTo (l' := cS Y.s) 0 rfl rfl rfl rfl rfl rfl (Nat.le_of_ble_eq_true rfl) rfl) rfl rfl n_h ?_
              rintro _ _ ⟨rfl, rfl⟩
              refine c_u ?_
              refine d_x rfl (x_storeTo (l' := cDd D) 1 rfl rfl rfl rfl rfl rfl (Nat.le_of_ble_eq_true rfl) rfl) rfl rfl n_h ?_
              rintro _ _ ⟨rfl, rfl⟩
              refine c_u ?_
              refine d_nil ?_
              exact ⟨(b17, b18, bz, cpz, spz), trivial, .cons rfl (.cons rfl .nil), a_g, fun _ h => (St.fl [[_], [_], [_], [_], [_], [_], [_], [_], [_], [_], [_]] [1, 0, 2, 3, 9, 8, 5, 6] rfl h).as (by simp only [List.filterMap_cons, List.filterMap_nil, List.getElem?_cons_zero, List.getElem?_cons_succ, VV.fl, List.cons_append, List.nil_append])⟩
             refine d_fork ?_ ?_
             ·refine d_x rfl (x_alloc rfl) rfl rfl (by first | (intro h; cases h; done) | (intro _ _ _ hK x hx; obtain ⟨_, rfl, rfl⟩ := hK; obtain rfl := List.mem_singleton.1 hx; exact .tail _ m_m)) ?_
              rintro _ _ ⟨b17, rfl, rfl⟩
              refine d_x rfl (x_callT (F := [(b17, _), (b18, _), (b15, _), (b14, _), (b7, _), (ba, _), (b73, _)]) (A := (tb4, _) :: ([] ++ [(b77, _), (b75, _)])) call_10 rfl (fun w hw => stepR_fn b77 b75 (n := 0) s ⟨(((patch (fillB l2) Y.m.acc).set 65295 (atB (fillB l1) 65295)).set 65535 (atB (fillB l1) 65535)), []⟩ hs hm2 (d := D) (s' := Y.s) (m' := ⟨ob9, Y.m.acc⟩) hD2 _ _ .nil tb4 _ oT4 hT4 w (St.lentV hw))) rfl rfl n_h ?_
              rintro _ _ ⟨_, ⟨rfl, oU4, hU4, va4, Ga4, hV4, rfl⟩, rfl⟩
              obtain ⟨bz, cpz, spz, rfl, rfl, hc4, hl4, hm4⟩ := hV4.full (show Y.m.acc.length ≠ 0 by omega)
              refine c_u ?_
              refine d_mv rfl (vnf_eq rfl) rfl rfl ?_
              refine RD ?_
              refine RD ?_
              refine d_x rfl (x_storeTo (l' := cS Y.s) 0 rfl rfl rfl rfl rfl rfl (Nat.le_of_ble_eq_true rfl) rfl) rfl rfl n_h ?_
              rintro _ _ ⟨rfl, rfl⟩
              refine c_u ?_
              refine d_x rfl (x_storeTo (l' := cDd D) 1 rfl rfl rfl rfl rfl rfl (Nat.le_of_ble_eq_true rfl) rfl) rfl rfl n_h ?_
              rintro _ _ ⟨rfl, rfl⟩
              refine c_u ?_
              refine d_nil ?_
              exact ⟨(b17, b18, bz, cpz, spz), trivial, .cons rfl (.cons rfl .nil), a_g, fun _ h => (St.fl [[_], [_], [_], [_], [_], [_], [_], [_], [_], [_], [_]] [1, 0, 2, 3, 9, 8, 5, 6] rfl h).as (by simp only [List.filterMap_cons, List.filterMap_nil, List.getElem?_cons_zero, List.getElem?_cons_succ, VV.fl, List.cons_append, List.nil_append])⟩
             exact d_stop
            exact d_stop
           refine d_fork ?_ ?_
           ·refine d_x rfl (x_alloc rfl) rfl rfl (by first | (intro h; cases h; done) | (intro _ _ _ hK x hx; obtain ⟨_, rfl, rfl⟩ := hK; obtain rfl := List.mem_singleton.1 hx; exact .tail _ m_m)) ?_
            rintro _ _ ⟨b17, rfl, rfl⟩
            refine d_fork ?_ ?_
            ·refine d_x rfl (x_call call_11 rfl (fun w hw => tnew_fn w)) rfl rfl (by first | (intro h; cases h; done) | (intro _ _ _ hK x hx; obtain ⟨_, _, rfl⟩ := hK; obtain rfl := List.mem_singleton.1 hx; exact List.mem_append_right _ m_m)) ?_
             rintro _ _ ⟨GT, ⟨tb4, rfl, hT4⟩, rfl⟩
             obtain ⟨oT4, rfl⟩ := hT4.one
             refine d_heap (fun _ h => St.fl [[_], [_], [_], [_], [_], [_], [_], [_], [_]] [1, 2, 3, 4, 7, 8, 0, 5, 6] rfl h) ?_
             simp only [List.filterMap_cons, List.filterMap_nil, List.getElem?_cons_zero, List.getElem?_cons_succ, VV.fl, List.cons_append, List.nil_append]
             refine d_fork ?_ ?_
             ·refine d_x rfl (x_callT (F := [(b17, _), (b15, _), (b14, _), (b7, _), (ba, _), (b73, _)]) (A := (tb4, _) :: ([] ++ [(b77, _), (b75, _)])) call_10 rfl (fun w hw => stepR_fn b77 b75 (n := 0) s ⟨(((patch (fillB l2) Y.m.acc).set 65295 (atB (fillB l1) 65295)).set 65535 (atB (fillB l1) 65535)), []⟩ hs hm2 (d := D) (s' := Y.s) (m' := ⟨ob9, Y.m.acc⟩) hD2 _ _ .nil tb4 _ oT4 hT4 w (St.lentV hw))) rfl rfl n_h ?_
              rintro _ _ ⟨_, ⟨rfl, oU4, hU4, va4, Ga4, hV4, rfl⟩, rfl⟩
              obtain ⟨bz, cpz, spz, rfl, rfl, hc4, hl4, hm4⟩ := hV4.full (show Y.m.acc.length ≠ 0 by omega)
              refine c_u ?_
              refine d_mv rfl (vnf_eq rfl) rfl rfl ?_
              refine RD ?_
              refine RD ?_
              refine d_x rfl (x_alloc rfl) rfl rfl (by first | (intro h; cases h; done) | (intro _ _ _ hK x hx; obtain ⟨_, rfl, rfl⟩ := hK; obtain rfl := List.mem_singleton.1 hx; exact .tail _ m_m)) ?_
              rintro _ _ ⟨b18, rfl, rfl⟩
              refine d_x rfl (x_storeTo (l' := cS Y.s) 1 rfl rfl rfl rfl rfl rfl (Nat.le_of_ble_eq_true rfl) rfl) rfl rfl n_h ?_
              rintro _ _ ⟨rfl, rfl⟩
              refine c_u ?_
              refine d_x rfl (x_storeTo (l' := cDd D) 0 rfl rfl rfl rfl rfl rfl (Nat.le_of_ble_eq_true rfl) rfl) rfl rfl n_h ?_
              rintro _ _ ⟨rfl, rfl⟩
              refine c_u ?_
              refine d_nil ?_
              exact ⟨(b17, b18, bz, cpz, spz), trivial, .cons rfl (.cons rfl .nil), a_g, fun _ h => (St.fl [[_], [_], [_], [_], [_], [_], [_], [_], [_], [_], [_]] [0, 1, 2, 3, 9, 8, 5, 6] rfl h).as (by simp only [List.filterMap_cons, List.filterMap_nil, List.getElem?_cons_zero, List.getElem?_cons_succ, VV.fl, List.cons_append, List.nil_append])⟩
             refine d_fork ?_ ?_
             ·refine d_x rfl (x_alloc rfl) rfl rfl (by first | (intro h; cases h; done) | (intro _ _ _ hK x hx; obtain ⟨_, rfl, rfl⟩ := hK; obtain rfl := List.mem_singleton.1 hx; exact .tail _ m_m)) ?_
              rintro _ _ ⟨b18, rfl, rfl⟩
              refine d_x rfl (x_callT (F := [(b18, _), (b17, _), (b15, _), (b14, _), (b7, _), (ba, _), (b73, _)]) (A := (tb4, _) :: ([] ++ [(b77, _), (b75, _)])) call_10 rfl (fun w hw => stepR_fn b77 b75 (n := 0) s ⟨(((patch (fillB l2) Y.m.acc).set 65295 (atB (fillB l1) 65295)).set 65535 (atB (fillB l1) 65535)), []⟩ hs hm2 (d := D) (s' := Y.s) (m' := ⟨ob9, Y.m.acc⟩) hD2 _ _ .nil tb4 _ oT4 hT4 w (St.lentV hw))) rfl rfl n_h ?_
              rintro _ _ ⟨_, ⟨rfl, oU4, hU4, va4, Ga4, hV4, rfl⟩, rfl⟩
              obtain ⟨bz, cpz, spz, rfl, rfl, hc4, hl4, hm4⟩ := hV4.full (show Y.m.acc.length ≠ 0 by omega)
              refine c_u ?_
              refine d_mv rfl (vnf_eq rfl) rfl rfl ?_
              refine RD ?_
              refine RD ?_
              refine d_x rfl (x_storeTo (l' := cS Y.s) 1 rfl rfl rfl rfl rfl rfl (Nat.le_of_ble_eq_true rfl) rfl) rfl rfl n_h ?_
              rintro _ _ ⟨rfl, rfl⟩
              refine c_u ?_
              refine d_x rfl (x_storeTo (l' := cDd D) 0 rfl rfl rfl rfl rfl rfl (Nat.le_of_ble_eq_true rfl) rfl) rfl rfl n_h ?_
              rintro _ _ ⟨rfl, rfl⟩
              refine c_u ?_
              refine d_nil ?_
              exact ⟨(b17, b18, bz, cpz, spz), trivial, .cons rfl (.cons rfl .nil), a_g, fun _ h => (St.fl [[_], [_], [_], [_], [_], [_], [_], [_], [_], [_], [_]] [0, 1, 2, 3, 9, 8, 5, 6] rfl h).as (by simp only [List.filterMap_cons, List.filterMap_nil, List.getElem?_cons_zero, List.getElem?_cons_succ, VV.fl, List.cons_append, List.nil_append])⟩
             exact d_stop
            refine d_fork ?_ ?_
            ·refine d_x rfl (x_alloc rfl) rfl rfl (by first | (intro h; cases h; done) | (intro _ _ _ hK x hx; obtain ⟨_, rfl, rfl⟩ := hK; obtain rfl := List.mem_singleton.1 hx; exact .tail _ m_m)) ?_
             rintro _ _ ⟨b18, rfl, rfl⟩
             refine d_x rfl (x_call call_11 rfl (fun w hw => tnew_fn w)) rfl rfl (by first | (intro h; cases h; done) | (intro _ _ _ hK x hx; obtain ⟨_, _, rfl⟩ := hK; obtain rfl := List.mem_singleton.1 hx; exact List.mem_append_right _ m_m)) ?_
             rintro _ _ ⟨GT, ⟨tb4, rfl, hT4⟩, rfl⟩
             obtain ⟨oT4, rfl⟩ := hT4.one
             refine d_heap (fun _ h => St.fl [[_], [_], [_], [_], [_], [_], [_], [_], [_], [_]] [1, 2, 3, 4, 5, 8, 9, 0, 6, 7] rfl h) ?_
             simp only [List.filterMap_cons, List.filterMap_nil, List.getElem?_cons_zero, List.getElem?_cons_succ, VV.fl, List.cons_append, List.nil_append]
             refine d_x rfl (x_callT (F := [(b18, _), (b17, _), (b15, _), (b14, _), (b7, _), (ba, _), (b73, _)]) (A := (tb4, _) :: ([] ++ [(b77, _), (b75, _)])) call_10 rfl (fun w hw => stepR_fn b77 b75 (n := 0) s ⟨(((patch (fillB l2) Y.m.acc).set 65295 (atB (fillB l1) 65295)).set 65535 (atB (fillB l1) 65535)), []⟩ hs hm2 (d := D) (s' := Y.s) (m' := ⟨ob9, Y.m.acc⟩) hD2 _ _ .nil tb4 _ oT4 hT4 w (St.lentV hw))) rfl rfl n_h ?_
             rintro _ _ ⟨_, ⟨rfl, oU4, hU4, va4, Ga4, hV4, rfl⟩, rfl⟩
             obtain ⟨bz, cpz, spz, rfl, rfl, hc4, hl4, hm4⟩ := hV4.full (show Y.m.acc.length ≠ 0 by omega)
             refine c_u ?_
             refine d_mv rfl (vnf_eq rfl) rfl rfl ?_
             refine RD ?_
             refine RD ?_
             refine d_x rfl (x_storeTo (l' := cS Y.s) 1 rfl rfl rfl rfl rfl rfl (Nat.le_of_ble_eq_true rfl) rfl) rfl rfl n_h ?_
             rintro _ _ ⟨rfl, rfl⟩
             refine c_u ?_
             refine d_x rfl (x_storeTo (l' := cDd D) 0 rfl rfl rfl rfl rfl rfl (Nat.le_of_ble_eq_true rfl) rfl) rfl rfl n_h ?_
             rintro _ _ ⟨rfl, rfl⟩
             refine c_u ?_
             refine d_nil ?_
             exact ⟨(b17, b18, bz, cpz, spz), trivial, .cons rfl (.cons rfl .nil), a_g, fun _ h => (St.fl [[_], [_], [_], [_], [_], [_], [_], [_], [_], [_], [_]] [0, 1, 2, 3, 9, 8, 5, 6] rfl h).as (by simp only [List.filterMap_cons, List.filterMap_nil, List.getElem?_cons_zero, List.getElem?_cons_succ, VV.fl, List.cons_append, List.nil_append])⟩
            exact d_stop
           refine d_fork ?_ ?_
           ·refine d_x rfl (x_alloc rfl) rfl rfl (by first | (intro h; cases h; done) | (intro _ _ _ hK x hx; obtain ⟨_, rfl, rfl⟩ := hK; obtain rfl := List.mem_singleton.1 hx; exact .tail _ m_m)) ?_
            rintro _ _ ⟨b18, rfl, rfl⟩
            refine d_fork ?_ ?_
            ·refine d_x rfl (x_call call_11 rfl (fun w hw => tnew_fn w)) rfl rfl (by first | (intro h; cases h; done) | (intro _ _ _ hK x hx; obtain ⟨_, _, rfl⟩ := hK; obtain rfl := List.mem_singleton.1 hx; exact List.mem_append_right _ m_m)) ?_
             rintro _ _ ⟨GT, ⟨tb4, rfl, hT4⟩, rfl⟩
             obtain ⟨oT4, rfl⟩ := hT4.one
             refine d_heap (fun _ h => St.fl [[_], [_], [_], [_], [_], [_], [_], [_], [_]] [1, 2, 3, 4, 7, 8, 0, 5, 6] rfl h) ?_
             simp only [List.filterMap_cons, List.filterMap_nil, List.getElem?_cons_zero, List.getElem?_cons_succ, VV.fl, List.cons_append, List.nil_append]
             refine d_fork ?_ ?_
             ·refine d_x rfl (x_callT (F := [(b18, _), (b15, _), (b14, _), (b7, _), (ba, _), (b73, _)]) (A := (tb4, _) :: ([] ++ [(b77, _), (b75, _)])) call_10 rfl (fun w hw => stepR_fn b77 b75 (n := 0) s ⟨(((patch (fillB l2) Y.m.acc).set 65295 (atB (fillB l1) 65295)).set 65535 (atB (fillB l1) 65535)), []⟩ hs hm2 (d := D) (s' := Y.s) (m' := ⟨ob9, Y.m.acc⟩) hD2 _ _ .nil tb4 _ oT4 hT4 w (St.lentV hw))) rfl rfl n_h ?_
              rintro _ _ ⟨_, ⟨rfl, oU4, hU4, va4, Ga4, hV4, rfl⟩, rfl⟩
              obtain ⟨bz, cpz, spz, rfl, rfl, hc4, hl4, hm4⟩ := hV4.full (show Y.m.acc.length ≠ 0 by omega)
              refine c_u ?_
              refine d_mv rfl (vnf_eq rfl) rfl rfl ?_
              refine RD ?_
              refine RD ?_
              refine d_x rfl (x_alloc rfl) rfl rfl (by first | (intro h; cases h; done) | (intro _ _ _ hK x hx; obtain ⟨_, rfl, rfl⟩ := hK; obtain rfl := List.mem_singleton.1 hx; exact .tail _ m_m)) ?_
              rintro _ _ ⟨b17, rfl, rfl⟩
              refine d_x rfl (x_storeTo (l' := cS Y.s) 0 rfl rfl rfl rfl rfl rfl (Nat.le_of_ble_eq_true rfl) rfl) rfl rfl n_h ?_
              rintro _ _ ⟨rfl, rfl⟩
              refine c_u ?_
              refine d_x rfl (x_storeTo (l' := cDd D) 1 rfl rfl rfl rfl rfl rfl (Nat.le_of_ble_eq_true rfl) rfl) rfl rfl n_h ?_
              rintro _ _ ⟨rfl, rfl⟩
              refine c_u ?_
              refine d_nil ?_
              exact ⟨(b17, b18, bz, cpz, spz), trivial, .cons rfl (.cons rfl .nil), a_g, fun _ h => (St.fl [[_], [_], [_], [_], [_], [_], [_], [_], [_], [_], [_]] [1, 0, 2, 3, 9, 8, 5, 6] rfl h).as (by simp only [List.filterMap_cons, List.filterMap_nil, List.getElem?_cons_zero, List.getElem?_cons_succ, VV.fl, List.cons_append, List.nil_append])⟩
             refine d_fork ?_ ?_
             ·refine d_x rfl (x_alloc rfl) rfl rfl (by first | (intro h; cases h; done) | (intro _ _ _ hK x hx; obtain ⟨_, rfl, rfl⟩ := hK; obtain rfl := List.mem_singleton.1 hx; exact .tail _ m_m)) ?_
              rintro _ _ ⟨b17, rfl, rfl⟩
              refine d_x rfl (x_callT (F := [(b17, _), (b18, _), (b15, _), (b14, _), (b7, _), (ba, _), (b73, _)]) (A := (tb4, _) :: ([] ++ [(b77, _), (b75, _)])) call_10 rfl (fun w hw => stepR_fn b77 b75 (n := 0) s ⟨(((patch (fillB l2) Y.m.acc).set 65295 (atB (fillB l1) 65295)).set 65535 (atB (fillB l1) 65535)), []⟩ hs hm2 (d := D) (s' := Y.s) (m' := ⟨ob9, Y.m.acc⟩) hD2 _ _ .nil tb4 _ oT4 hT4 w (St.lentV hw))) rfl rfl n_h ?_
              rintro _ _ ⟨_, ⟨rfl, oU4, hU4, va4, Ga4, hV4, rfl⟩, rfl⟩
              obtain ⟨bz, cpz, spz, rfl, rfl, hc4, hl4, hm4⟩ := hV4.full (show Y.m.acc.length ≠ 0 by omega)
              refine c_u ?_
              refine d_mv rfl (vnf_eq rfl) rfl rfl ?_
              refine RD ?_
              refine RD ?_
              refine d_x rfl (x_storeTo (l' := cS Y.s) 0 rfl rfl rfl rfl rfl rfl (Nat.le_of_ble_eq_true rfl) rfl) rfl rfl n_h ?_
              rintro _ _ ⟨rfl, rfl⟩
              refine c_u ?_
              refine d_x rfl (x_storeTo (l' := cDd D) 1 rfl rfl rfl rfl rfl rfl (Nat.le_of_ble_eq_true rfl) rfl) rfl rfl n_h ?_
              rintro _ _ ⟨rfl, rfl⟩
              refine c_u ?_
              refine d_nil ?_
              exact ⟨(b17, b18, bz, cpz, spz), trivial, .cons rfl (.cons rfl .nil), a_g, fun _ h => (St.fl [[_], [_], [_], [_], [_], [_], [_], [_], [_], [_], [_]] [1, 0, 2, 3, 9, 8, 5, 6] rfl h).as (by simp only [List.filterMap_cons, List.filterMap_nil, List.getElem?_cons_zero, List.getElem?_cons_succ, VV.fl, List.cons_append, List.nil_append])⟩
             exact d_stop
            refine d_fork ?_ ?_
            ·refine d_x rfl (x_alloc rfl) rfl rfl (by first | (intro h; cases h; done) | (intro _ _ _ hK x hx; obtain ⟨_, rfl, rfl⟩ := hK; obtain rfl := List.mem_singleton.1 hx; exact .tail _ m_m)) ?_
             rintro _ _ ⟨b17, rfl, rfl⟩
             refine d_x rfl (x_call call_11 rfl (fun w hw => tnew_fn w)) rfl rfl (by first | (intro h; cases h; done) | (intro _ _ _ hK x hx; obtain ⟨_, _, rfl⟩ := hK; obtain rfl := List.mem_singleton.1 hx; exact List.mem_append_right _ m_m)) ?_
             rintro _ _ ⟨GT, ⟨tb4, rfl, hT4⟩, rfl⟩
             obtain ⟨oT4, rfl⟩ := hT4.one
             refine d_heap (fun _ h => St.fl [[_], [_], [_], [_], [_], [_], [_], [_], [_], [_]] [1, 2, 3, 4, 5, 8, 9, 0, 6, 7] rfl h) ?_
             simp only [List.filterMap_cons, List.filterMap_nil, List.getElem?_cons_zero, List.getElem?_cons_succ, VV.fl, List.cons_append, List.nil_append]
             refine d_x rfl (x_callT (F := [(b17, _), (b18, _), (b15, _), (b14, _), (b7, _), (ba, _), (b73, _)]) (A := (tb4, _) :: ([] ++ [(b77, _), (b75, _)])) call_10 rfl (fun w hw => stepR_fn b77 b75 (n := 0) s ⟨(((patch (fillB l2) Y.m.acc).set 65295 (atB (fillB l1) 65295)).set 65535 (atB (fillB l1) 65535)), []⟩ hs hm2 (d := D) (s' := Y.s) (m' := ⟨ob9, Y.m.acc⟩) hD2 _ _ .nil tb4 _ oT4 hT4 w (St.lentV hw))) rfl rfl n_h ?_
             rintro _ _ ⟨_, ⟨rfl, oU4, hU4, va4, Ga4, hV4, rfl⟩, rfl⟩
             obtain ⟨bz, cpz, spz, rfl, rfl, hc4, hl4, hm4⟩ := hV4.full (show Y.m.acc.length ≠ 0 by omega)
             refine c_u ?_
             refine d_mv rfl (vnf_eq rfl) rfl rfl ?_
             refine RD ?_
             refine RD ?_
             refine d_x rfl (x_storeTo (l' := cS Y.s) 0 rfl rfl rfl rfl rfl rfl (Nat.le_of_ble_eq_true rfl) rfl) rfl rfl n_h ?_
             rintro _ _ ⟨rfl, rfl⟩
             refine c_u ?_
             refine d_x rfl (x_storeTo (l' := cDd D) 1 rfl rfl rfl rfl rfl rfl (Nat.le_of_ble_eq_true rfl) rfl) rfl rfl n_h ?_
             rintro _ _ ⟨rfl, rfl⟩
             refine c_u ?_
             refine d_nil ?_
             exact ⟨(b17, b18, bz, cpz, spz), trivial, .cons rfl (.cons rfl .nil), a_g, fun _ h => (St.fl [[_], [_], [_], [_], [_], [_], [_], [_], [_], [_], [_]] [1, 0, 2, 3, 9, 8, 5, 6] rfl h).as (by simp only [List.filterMap_cons, List.filterMap_nil, List.getElem?_cons_zero, List.getElem?_cons_succ, VV.fl, List.cons_append, List.nil_append])⟩
            exact d_stop
           exact d_stop
          ·rintro ⟨b17, b18, bz, cpz, spz⟩ y17 hJ
           dsimp only at hJ ⊢
           refine c_seq ?_
           refine c_draw _ [1, 5, 13, 14, 15, 16] (.step true 0 (.step true 1 (.step true 2 (.step true 3 (.step true 4 (.step true 5 (.step true 6 (.step true 7 (.step true 8 (.step true 9 (.step true 10 (.step true 11 (.step true 12 (.step true 13 (.step true 14 (.step true 15 (.step true 16 (.step false 17 (.step true 18 (.step true 19 .done)))))))))))))))))))) rfl (by kernel_rfl) (by kernel_rfl) (fun _ h => h) ?_
           refine d_loadA rfl rfl rfl rfl (srow_own (l := cS Y.s) m_m) rfl rfl ?_
           refine d_loadA rfl rfl rfl rfl (srow_own (l := cS Y.s) m_m) rfl rfl ?_
           refine d_eqs (ks := [.int .u8, .int .u8, .int .u8, .int .u8, .int .u8, .int .u8, .int .u8, .int .u8, .int .u16, .int .u16, .bool, .bool, .bool, .bool]) rfl rfl rfl (by kernel_rfl) (by kernel_rfl) rfl rfl rfl rfl (b := true) (lveq_refl (ks := [.int .u8, .int .u8, .int .u8, .int .u8, .int .u8, .int .u8, .int .u8, .int .u8, .int .u16, .int .u16, .bool, .bool, .bool, .bool]) rfl) ?_
           refine RD ?_
           refine d_loadA rfl rfl rfl rfl (srow_own (l := cDd D) m_m) rfl rfl ?_
           refine d_loadA rfl rfl rfl rfl (srow_own (l := cDd D) m_m) rfl rfl ?_
           refine d_eqs (ks := [.int .i64, .int .i64, .int .u16, .int .i64, .int .i64, .int .i64, .int .i64, .int .u16, .bool]) rfl rfl rfl (by kernel_rfl) (by kernel_rfl) rfl rfl rfl rfl (b := true) (lveq_refl (ks := [.int .i64, .int .i64, .int .u16, .int .i64, .int .i64, .int .i64, .int .i64, .int .u16, .bool]) rfl) ?_
           iterate 4 refine RD ?_
           refine RDa ?_
           refine RDo ?_
           refine RD ?_
           refine RD ?_
           refine RDa ?_
           refine RDo ?_
           refine d_x rfl (x_val call_12 rfl (fun w hw => accesses_fn Y.m.acc Y.m.acc (some ⟨ba, 0, none⟩) (some ⟨bz, 0, none⟩) cpa cpz o_m w (fun _ => ⟨ba, 0, rfl, Row.left (row_own (b := ba) (l := flat cAc Y.m.acc ++ spa) m_m w hw)⟩) (fun _ => ⟨bz, 0, rfl, Row.left (row_own (b := bz) (l := flat cAc Y.m.acc ++ spz) m_m w hw)⟩) o_m)) rfl rfl (by first | (intro h; cases h; done) | (intro _ _ _ hK x hx; obtain ⟨_, rfl⟩ := hK; exact hx)) ?_
           rintro _ _ ⟨rfl, rfl⟩
           rw [show decide (Y.m.acc = Y.m.acc) = true from decide_eq_true rfl]
           refine RD ?_
           refine RD ?_
           refine d_nil ?_
           refine c_ret ?_
           exact l_end0 (fun _ _ => rets_v rfl) ⟨rfl, rfl⟩
         exact d_stop
        exact d_stop

end Go.Proofs.Ytjjemehigdpboaa
