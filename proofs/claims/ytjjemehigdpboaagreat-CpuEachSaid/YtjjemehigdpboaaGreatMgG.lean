/- What runs: bytes, pairs, cycles, the stack. -/
import Derived.Test.YtjjemehigdpboaaGreatMgC
import Derived.Test.YtjjemehigdpboaaGreatMgF
namespace Go.Proofs.YtjjemehigdpboaaGreat
open Go Go.VV Go.Proofs
set_option linter.unusedSimpArgs false
set_option linter.unusedVariables false
set_option maxRecDepth 100000
theorem rpair_fn {β : Type} (K : BusK Tryz.prog β) (rb : Nat) (s : CS) (hr : s.r.Ok) (w : World) (hrow : Row w rb 0 (cN K s)) (n : Int) : Does Tryz.prog 66 [.pointer (some ⟨rb, 0, none⟩), .int .i64 n] w [] (fun v H => H = [] ∧ v = .int .u16 (pairR s.r n)) := by
 refine does_of Tryz.func66 rfl rfl rfl (St.refl w) ?_
 refine c_seq ?_
 refine c_region ?_
 refine RL ?_
 refine l_nil ?_
 refine c_seq ?_
 refine c_region ?_
 refine RL ?_
 refine RL ?_
 refine RLa ?_
 refine RLa ?_
 refine l_x (x_loadA rfl rfl rfl (row_old (Row.left (Row.left hrow)) (by simp))) rfl rfl ?_
 rintro _ _ ⟨rfl, rfl⟩
 refine RL ?_
 refine l_x (x_call call_100 rfl (fun w hw => pair_fn s.r hr n w)) rfl rfl ?_
 rintro _ _ ⟨G14, ⟨rfl, k14, rfl⟩, rfl⟩
 iterate 5 refine RL ?_
 refine l_nil ?_
 refine c_seq ?_
 refine c_region ?_
 refine RL ?_
 refine RL ?_
 refine l_nil ?_
 refine c_ret ?_
 exact l_end0 (fun _ _ => rets_v rfl) ⟨rfl, rfl⟩

theorem rsetPair_fn {β : Type} (K : BusK Tryz.prog β) (rb : Nat) {bn : Nat} (x : Rn β) (h : RunOk K.toBusO bn x) (G : Heap) (hG : K.rep x.m G) (n p : Int) (hp : 0 ≤ p ∧ p < 65536) (w : World) (hst : St w (rb :: G.map (·.1)) ((rb, blk (cN K x.s) 77) :: G) w) : Does Tryz.prog 65 [.pointer (some ⟨rb, 0, none⟩), .int .i64 n, .int .u16 p] w (rb :: G.map (·.1)) (fun v H => v = .tuple #[] ∧ RunH K rb (x.reg (setPR x.s.r n p)) H) := by
 refine does_of Tryz.func65 rfl rfl rfl hst ?_
 refine c_region ?_
 iterate 3 refine RL ?_
 refine RLa ?_
 refine RLa ?_
 refine l_x (x_loadA rfl rfl rfl (fun w hw => Row.left (Row.left (row_own (l := cN K x.s) m_m w hw)))) rfl rfl ?_
 rintro _ _ ⟨rfl, rfl⟩
 refine RL ?_
 refine RL ?_
 refine l_x (x_call call_99 rfl (fun w hw => setPair_fn x.s.r n p hp w)) rfl rfl ?_
 rintro _ _ ⟨G15, ⟨rfl, k15, rfl⟩, rfl⟩
 iterate 4 refine RL ?_
 refine RLa ?_
 refine RLa ?_
 refine l_x (x_storeTo (l' := cN K { x.s with r := setPR x.s.r n p }) 0 rfl rfl rfl rfl rfl rfl (Nat.le_of_ble_eq_true rfl) rfl) rfl rfl ?_
 rintro _ _ ⟨rfl, rfl⟩
 refine c_u ?_
 refine l_nil ?_
 exact l_end (fun _ _ => rets_none) (List.Sublist.refl _) ⟨rfl, G, rfl, hG⟩

theorem rget_fn {β : Type} (K : BusK Tryz.prog β) (rb : Nat) {bn : Nat} (x : Rn β) (h : RunOk K.toBusO (bn + 1) x) (G : Heap) (hG : K.rep x.m G) (n : Int) (w : World) (hst : St w (rb :: G.map (·.1)) ((rb, blk (cN K x.s) 77) :: G) w) : Does Tryz.prog 56 [.pointer (some ⟨rb, 0, none⟩), .int .i64 n] w (rb :: G.map (·.1)) (fun v H => v = .int .u8 (gett K.toBusA n x).1 ∧ ∃ G', H = (rb, blk (cN K x.s) 77) :: G' ∧ K.rep (gett K.toBusA n x).2.m G') := by
 refine does_of Tryz.func56 rfl rfl rfl hst ?_
 refine c_seq ?_
 refine c_region ?_
 refine RL ?_
 refine l_nil ?_
 refine c_seq ?_
 refine c_seq ?_
 refine c_region ?_
 refine RL ?_
 refine RL ?_
 refine l_nil ?_
 refine c_cond rfl (fun h1 => ?_) (fun h1 => ?_)
 ·have h1n := r_f h1
  refine c_seq ?_
  obtain rfl : n = 6 := by omega
  refine c_draw _ [4, 5] (.step true 0 (.step true 1 (.step true 2 (.step true 3 (.step true 4 (.step true 6 (.step true 7 (.step false 5 (.step false 8 (.step true 9 .done)))))))))) rfl (by kernel_rfl) (by kernel_rfl) (fun _ h => h) ?_
  refine RD ?_
  refine RD ?_
  refine RDa ?_
  refine RDo ?_
  iterate 3 refine RD ?_
  refine d_x rfl (x_val call_66 rfl (fun w hw => rpair_fn K rb x.s h.r w (row_own m_m w hw) 2)) rfl rfl (by intro _ _ _ hK x hx; obtain ⟨rfl, rfl⟩ := hK; repeat (first | exact hx | exact List.mem_append_left _ hx | refine List.mem_append_right _ ?_ | refine .tail _ ?_)) ?_
  rintro _ _ ⟨rfl, rfl⟩
  refine d_x rfl (x_callIT (F := [(rb, _)]) (A := G) rfl K.mR K.cR rfl (fun w hw => K.dR h.m hG (St.lentV hw) (pairR_word h.r 2))) rfl rfl n_h ?_
  rintro _ _ ⟨G1, ⟨rfl, hG1⟩, rfl⟩
  refine RD ?_
  refine d_nil ?_
  refine c_ret ?_
  exact l_end (fun _ _ => rets_v rfl) (List.Sublist.refl _) ⟨rfl, G1, rfl, hG1⟩
 ·have h1n := r_f h1
  refine c_skip ?_
  refine c_seq ?_
  refine c_region ?_
  refine RL ?_
  refine RL ?_
  refine RLa ?_
  refine RLa ?_
  refine l_x (x_loadA rfl rfl rfl (fun w hw => Row.left (Row.left (row_own (l := cN K x.s) m_m w hw)))) rfl rfl ?_
  rintro _ _ ⟨rfl, rfl⟩
  refine RL ?_
  refine l_x (x_call call_90 rfl (fun w hw => get_fn x.s.r n w)) rfl rfl ?_
  rintro _ _ ⟨G25, ⟨rfl, k25, rfl⟩, rfl⟩
  iterate 5 refine RL ?_
  refine l_nil ?_
  refine c_seq ?_
  refine c_region ?_
  refine RL ?_
  refine RL ?_
  refine l_nil ?_
  refine c_ret ?_
  have hn : gett K.toBusA n x = (getR x.s.r n, x) := if_neg o_m
  exact l_end (fun _ _ => rets_v rfl) (List.Sublist.refl _) ⟨by rw [hn], G, rfl, by rw [hn]; exact hG⟩

theorem rset_fn {β : Type} (K : BusK Tryz.prog β) (rb : Nat) {bn : Nat} (x : Rn β) (h : RunOk K.toBusO (bn + 1) x) (G : Heap) (hG : K.rep x.m G) (n u : Int) (hu : 0 ≤ u ∧ u < 256) (w : World) (hst : St w (rb :: G.map (·.1)) ((rb, blk (cN K x.s) 77) :: G) w) : Does Tryz.prog 55 [.pointer (some ⟨rb, 0, none⟩), .int .i64 n, .int .u8 u] w (rb :: G.map (·.1)) (fun v H => v = .tuple #[] ∧ RunH K rb (sett K.toBusA n u x) H) := by
 refine does_of Tryz.func55 rfl rfl rfl hst ?_
 refine c_seq ?_
 refine c_seq ?_
 refine c_region ?_
 refine RL ?_
 refine RL ?_
 refine l_nil ?_
 refine c_cond rfl (fun h1 => ?_) (fun h1 => ?_)
 ·have h1n := r_f h1
  refine c_seq ?_
  obtain rfl : n = 6 := by omega
  refine c_draw _ [4, 5, 6] (.step true 0 (.step true 1 (.step true 2 (.step true 3 (.step true 4 (.step true 6 (.step true 7 (.step true 8 (.step false 5 (.step false 9 .done)))))))))) rfl (by kernel_rfl) (by kernel_rfl) (fun _ h => h) ?_
  refine RD ?_
  refine RD ?_
  refine RDa ?_
  refine RDo ?_
  iterate 4 refine RD ?_
  refine d_x rfl (x_val call_66 rfl (fun w hw => rpair_fn K rb x.s h.r w (row_own m_m w hw) 2)) rfl rfl (by intro _ _ _ hK x hx; obtain ⟨rfl, rfl⟩ := hK; repeat (first | exact hx | exact List.mem_append_left _ hx | refine List.mem_append_right _ ?_ | refine .tail _ ?_)) ?_
  rintro _ _ ⟨rfl, rfl⟩
  refine d_x rfl (x_callIT (F := [(rb, _)]) (A := G) rfl K.mW K.cW rfl (fun w hw => K.dW h.m hG (St.lentV hw) (pairR_word h.r 2) hu)) rfl rfl n_h ?_
  rintro _ _ ⟨G1, ⟨rfl, hG1⟩, rfl⟩
  refine d_nil ?_
  refine c_ret ?_
  exact l_end (fun _ _ => rets_none) (List.Sublist.refl _) ⟨rfl, G1, rfl, hG1⟩
 ·have h1n := r_f h1
  refine c_skip ?_
  refine c_region ?_
  iterate 3 refine RL ?_
  refine RLa ?_
  refine RLa ?_
  refine l_x (x_loadA rfl rfl rfl (fun w hw => Row.left (Row.left (row_own (l := cN K x.s) m_m w hw)))) rfl rfl ?_
  rintro _ _ ⟨rfl, rfl⟩
  refine RL ?_
  refine RL ?_
  refine l_x (x_call call_89 rfl (fun w hw => set_fn x.s.r n u w)) rfl rfl ?_
  rintro _ _ ⟨G27, ⟨rfl, k27, rfl⟩, rfl⟩
  iterate 4 refine RL ?_
  refine RLa ?_
  refine RLa ?_
  refine l_x (x_storeTo (l' := cN K { x.s with r := setR x.s.r n u }) 0 rfl rfl rfl rfl rfl rfl (Nat.le_of_ble_eq_true rfl) rfl) rfl rfl ?_
  rintro _ _ ⟨rfl, rfl⟩
  refine c_u ?_
  refine l_nil ?_
  have hn : sett K.toBusA n u x = x.reg (setR x.s.r n u) := if_neg o_m
  exact l_end (fun _ _ => rets_none) (List.Sublist.refl _) ⟨rfl, by rw [hn]; exact ⟨G, rfl, hG⟩⟩

theorem ridle_fn {β : Type} (K : BusK Tryz.prog β) (rb : Nat) {bn : Nat} (n : Nat) (hn : n ≤ 1000) (x : Rn β) (h : RunOk K.toBusO (bn + n) x) (G : Heap) (hG : K.rep x.m G) (w : World) (hst : St w (rb :: G.map (·.1)) ((rb, blk (cN K x.s) 77) :: G) w) : Does Tryz.prog 13 [.pointer (some ⟨rb, 0, none⟩), .int .i64 n] w (rb :: G.map (·.1)) (fun v H => v = .tuple #[] ∧ RunH K rb (idles K.toBusA n x) H) := by
 have hs9 : ∀ i, (idles K.toBusA i x).s = x.s := fun i => by induction i with | zero => rfl | succ i ih => exact ih
 refine does_of Tryz.func13 rfl rfl rfl hst ?_
 refine c_seq ?_
 refine c_region ?_
 refine RL ?_
 refine RL ?_
 refine l_nil ?_
 refine c_block ?_
 refine c_loop (σ := Nat × Heap) [5, 6, 7, 8, 9, 10, 11, 12] (fun s => [(5, .int .i64 s.1)]) (fun s => (rb, blk (cN K x.s) 77) :: s.2) (fun s => s.1 ≤ n ∧ K.rep (idles K.toBusA s.1 x).m s.2) (fun s => n - s.1) (0, G) ?_ ?_ ?_ ?_
 ·exact ⟨Nat.zero_le _, hG⟩
 ·exact .cons rfl .nil
 ·exact fun _ h => h
 ·rintro ⟨i, Gi⟩ y1 ⟨hi, hGi⟩
  dsimp only at hi hGi ⊢
  refine c_seq ?_
  refine c_region ?_
  refine RL ?_
  refine l_nil ?_
  refine c_seq ?_
  refine c_cond rfl (fun h1 => ?_) (fun h1 => ?_)
  ·have h1n := r_f h1
   refine c_skip ?_
   refine c_seq ?_
   refine c_block ?_
   refine c_region ?_
   refine RL ?_
   refine RL ?_
   refine RLa ?_
   refine RLo ?_
   refine l_x (x_callIT (F := [(rb, _)]) (A := Gi) rfl K.mI K.cI rfl (fun w hw => K.dI (K.oL (k := 0 + 1) (h.idles i hi).m o_m) hGi (St.lentV hw))) rfl rfl ?_
   rintro _ _ ⟨G1, ⟨rfl, hG1⟩, rfl⟩
   refine l_nil ?_
   refine c_region ?_
   refine l_as (v := (.int .i64 ((i + 1 : Nat) : Int))) rfl rfl rfl (congrArg _ (succ_law o_m)) ?_
   refine RL ?_
   refine l_nil ?_
   exact ⟨(i + 1, G1), ⟨by omega, hG1⟩, by show _ - (i + 1) < _ - i; omega, .cons rfl .nil, a_g, fun _ h => h⟩
  ·have h1n := r_f h1
   refine c_exit rfl ?_
   obtain rfl : i = n := by omega
   exact l_end (fun _ _ => rets_none) (List.Sublist.refl _) ⟨rfl, Gi, by rw [hs9], hGi⟩

theorem rpush_fn {β : Type} (K : BusK Tryz.prog β) (rb : Nat) {bn : Nat} (x : Rn β) (h : RunOk K.toBusO (bn + 2) x) (G : Heap) (hG : K.rep x.m G) (p : Int) (hp : 0 ≤ p ∧ p < 65536) (w : World) (hst : St w (rb :: G.map (·.1)) ((rb, blk (cN K x.s) 77) :: G) w) : Does Tryz.prog 26 [.pointer (some ⟨rb, 0, none⟩), .int .u16 p] w (rb :: G.map (·.1)) (fun v H => v = .tuple #[] ∧ RunH K rb (push K.toBusA p x) H) := by
 refine does_of Tryz.func26 rfl rfl rfl hst ?_
 refine c_seq ?_
 refine c_region ?_
 refine RL ?_
 refine l_as (shr_pos rfl rfl (by decide)) rfl rfl (as_shr 256 (by decide) (by decide)) ?_
 refine l_as (l_conv rfl rfl rfl) rfl rfl (by first | exact as_u8 o_m o_m | exact as_u8m _) ?_
 refine RL ?_
 refine l_as (l_conv rfl rfl rfl) rfl rfl (by first | exact as_u8 o_m o_m | exact as_u8m _) ?_
 refine l_x (x_slc rfl rfl rfl rfl rfl rfl) rfl rfl ?_
 rintro _ _ ⟨b11, rfl, rfl⟩
 refine l_l l_n rfl rfl ?_
 refine RL ?_
 refine l_nil ?_
 refine c_block ?_
 refine c_loop (σ := Nat × Heap) [5, 13, 14, 15, 16, 17, 18, 19, 20, 21, 22, 23, 24, 25, 26, 27, 28, 29, 30, 31, 32, 33, 34, 35, 36, 37, 38, 39, 40, 41, 42] (fun s => [(13, .int .i64 s.1)]) (fun s => (b11, blk [.int .u8 (p / 256), .int .u8 (p % 256)] 5) :: (rb, blk (cN K (pushN K.toBusA p x s.1).s) 77) :: s.2) (fun s => s.1 ≤ 2 ∧ K.rep (pushN K.toBusA p x s.1).m s.2) (fun s => 2 - s.1) (0, G) ?_ ?_ ?_ ?_
 ·exact ⟨Nat.zero_le _, hG⟩
 ·exact .cons rfl .nil
 ·exact fun _ h => h
 ·rintro ⟨i, Gi⟩ y1 ⟨hi, hGi⟩
  dsimp only at hi hGi ⊢
  refine c_seq ?_
  refine c_region ?_
  refine RL ?_
  refine l_nil ?_
  refine c_seq ?_
  refine c_cond rfl (fun h1 => ?_) (fun h1 => ?_)
  ·have h1n := r_f h1
   refine c_skip ?_
   refine c_seq ?_
   refine c_block ?_
   refine c_seq ?_
   have hx9 := (h.pushN hp i o_m).le (k := 0 + 1) o_m
   have hk9 := hx9.r.sp
   refine c_region ?_
   refine l_l (idx_slice1 i rfl rfl rfl rfl o_m) rfl rfl ?_
   refine l_x (x_load rfl rfl (at_own (b := b11) m_m (byteAt_get p o_m))) rfl rfl ?_
   rintro _ _ ⟨rfl, rfl⟩
   refine RL ?_
   refine l_nil ?_
   refine c_seq ?_
   refine c_region ?_
   refine RL ?_
   refine RL ?_
   iterate 3 refine RLa ?_
   refine RLo ?_
   refine l_as (l_sub rfl rfl) rfl rfl (by first | exact as_u16 o_m o_m | exact as_u16m _) ?_
   refine RL ?_
   iterate 3 refine RLa ?_
   refine l_x (x_storeTo (l' := cN K { (pushN K.toBusA p x i).s with r := { (pushN K.toBusA p x i).s.r with sp := dec16 (pushN K.toBusA p x i).s.r.sp } }) 1 rfl rfl rfl rfl rfl rfl (Nat.le_of_ble_eq_true rfl) rfl) rfl rfl ?_
   rintro _ _ ⟨rfl, rfl⟩
   refine c_u ?_
   refine l_nil ?_
   refine c_draw _ [4, 5, 6, 7, 8, 9, 10, 11, 12] (.step true 0 (.step true 1 (.step true 2 (.step true 3 (.step true 4 (.step true 5 (.step true 6 (.step true 7 (.step true 8 (.step true 9 (.step true 10 (.step true 11 (.step true 12 (.step false 13 .done)))))))))))))) rfl (by kernel_rfl) (by kernel_rfl) (fun _ h => h) ?_
   refine RD ?_
   refine RD ?_
   refine RDa ?_
   refine RDo ?_
   refine RD ?_
   refine RD ?_
   iterate 3 refine RDa ?_
   refine RDo ?_
   iterate 3 refine RD ?_
   refine d_x rfl (x_callIT (F := [(b11, _), (rb, _)]) (A := Gi) rfl K.mW K.cW rfl (fun w hw => K.dW hx9.m hGi (St.lentV hw) dec16_ok (byteAt_ok hp i))) rfl rfl n_h ?_
   rintro _ _ ⟨G1, ⟨rfl, hG1⟩, rfl⟩
   refine d_nil ?_
   refine c_region ?_
   refine l_as (v := (.int .i64 ((i + 1 : Nat) : Int))) rfl rfl rfl (congrArg _ (succ_law o_m)) ?_
   refine RL ?_
   refine l_nil ?_
   exact ⟨(i + 1, G1), ⟨by omega, hG1⟩, by show _ - (i + 1) < _ - i; omega, .cons rfl .nil, a_g, fun _ h => h⟩
  ·have h1n := r_f h1
   refine c_exit rfl ?_
   obtain rfl : i = 2 := by omega
   exact l_end (fun _ _ => rets_none) (.cons _ (List.Sublist.refl _)) ⟨rfl, Gi, rfl, hGi⟩

theorem rpop_fn {β : Type} (K : BusK Tryz.prog β) (rb : Nat) {bn : Nat} (x : Rn β) (h : RunOk K.toBusO (bn + 2) x) (G : Heap) (hG : K.rep x.m G) (w : World) (hst : St w (rb :: G.map (·.1)) ((rb, blk (cN K x.s) 77) :: G) w) : Does Tryz.prog 69 [.pointer (some ⟨rb, 0, none⟩)] w (rb :: G.map (·.1)) (fun v H => v = .int .u16 (pop K.toBusA x).1 ∧ RunH K rb ((pop K.toBusA x).2) H) := by
 refine does_of Tryz.func69 rfl rfl rfl hst ?_
 refine c_seq ?_
 refine c_region ?_
 refine RL ?_
 refine l_nil ?_
 refine c_seq ?_
 refine c_region ?_
 refine RL ?_
 refine l_nil ?_
 refine c_seq ?_
 refine c_seq ?_
 refine c_region ?_
 refine RL ?_
 refine l_nil ?_
 refine c_block ?_
 refine c_loop (σ := Nat × Heap) [3, 4, 5, 6, 7, 8, 9, 10, 11, 12, 13, 14, 15, 16, 17, 18, 19, 20, 21, 22, 23, 24, 25, 26, 27, 28, 29, 30, 31, 32, 33, 34, 35, 36, 37, 38] (fun s => [(3, .int .u16 (popN K.toBusA x s.1).1), (5, .int .i64 s.1)]) (fun s => (rb, blk (cN K (popN K.toBusA x s.1).2.s) 77) :: s.2) (fun s => s.1 ≤ 2 ∧ K.rep (popN K.toBusA x s.1).2.m s.2) (fun s => 2 - s.1) (0, G) ?_ ?_ ?_ ?_
 ·exact ⟨Nat.zero_le _, hG⟩
 ·exact .cons rfl (.cons rfl .nil)
 ·exact fun _ h => h
 ·rintro ⟨i, Gi⟩ y3 ⟨hi, hGi⟩
  dsimp only at hi hGi ⊢
  refine c_seq ?_
  refine c_region ?_
  refine RL ?_
  refine l_nil ?_
  refine c_seq ?_
  refine c_cond rfl (fun h1 => ?_) (fun h1 => ?_)
  ·have h1n := r_f h1
   refine c_skip ?_
   refine c_seq ?_
   refine c_block ?_
   refine c_seq ?_
   have hx9 := (h.popN i o_m).le (k := 0 + 1) o_m
   have hk9 := hx9.r.sp
   have hv9 : 0 ≤ (K.read (popN K.toBusA x i).2.s.r.sp (popN K.toBusA x i).2.m).1 ∧ (K.read (popN K.toBusA x i).2.s.r.sp (popN K.toBusA x i).2.m).1 < 256 := hx9.pop1.2
   have ha9 := popN_le (h.le (k := 0 + 1) o_m) (i := i) o_m
   refine c_region ?_
   refine RL ?_
   refine RL ?_
   refine l_nil ?_
   refine c_seq ?_
   refine c_draw _ [5, 6, 7, 8, 9, 10, 11, 12, 15, 16] (.step true 0 (.step true 1 (.step true 2 (.step true 3 (.step true 4 (.step true 5 (.step true 6 (.step true 7 (.step true 8 (.step true 9 (.step true 10 (.step true 11 (.step true 12 (.step true 15 (.step true 16 (.step false 13 (.step true 14 (.step true 17 (.step true 18 (.step true 19 .done)))))))))))))))))))) rfl (by kernel_rfl) (by kernel_rfl) (fun _ h => h) ?_
   iterate 3 refine RD ?_
   refine RDa ?_
   refine RDo ?_
   refine RD ?_
   refine RD ?_
   iterate 3 refine RDa ?_
   refine RDo ?_
   iterate 3 refine RD ?_
   refine d_as rfl (l_mul rfl rfl) rfl rfl rfl (by first | exact as_i64 o_m o_m | rfl) ?_
   refine d_x rfl (x_callIT (F := [(rb, _)]) (A := Gi) rfl K.mR K.cR rfl (fun w hw => K.dR hx9.m hGi (St.lentV hw) hk9)) rfl rfl n_h ?_
   rintro _ _ ⟨G1, ⟨rfl, hG1⟩, rfl⟩
   refine d_as rfl (l_conv rfl rfl rfl) rfl rfl rfl (by first | exact as_u16 o_m o_m | exact as_u16m _) ?_
   refine d_as (v := (.int .u16 (shl .u16 (K.read (popN K.toBusA x i).2.s.r.sp (popN K.toBusA x i).2.m).1 (8 * (i : Int))))) rfl (shl_pos rfl rfl o_m) rfl rfl rfl rfl ?_
   refine d_as (v := (.int .u16 (popN K.toBusA x (i + 1)).1)) rfl (l_or rfl rfl) rfl rfl rfl (congrArg _ (pop_law o_m ha9 (fun h => by subst h; rfl) hv9)) ?_
   refine RD ?_
   refine d_nil ?_
   refine c_region ?_
   refine RL ?_
   refine RL ?_
   iterate 3 refine RLa ?_
   refine RLo ?_
   refine l_as (l_add rfl rfl) rfl rfl (by first | exact as_u16 o_m o_m | exact as_u16m _) ?_
   refine RL ?_
   iterate 3 refine RLa ?_
   refine l_x (x_storeTo (l' := cN K { (popN K.toBusA x i).2.s with r := { (popN K.toBusA x i).2.s.r with sp := inc16 (popN K.toBusA x i).2.s.r.sp } }) 0 rfl rfl rfl rfl rfl rfl (Nat.le_of_ble_eq_true rfl) rfl) rfl rfl ?_
   rintro _ _ ⟨rfl, rfl⟩
   refine c_u ?_
   refine l_nil ?_
   refine c_region ?_
   refine l_as (v := (.int .i64 ((i + 1 : Nat) : Int))) rfl rfl rfl (congrArg _ (succ_law o_m)) ?_
   refine RL ?_
   refine l_nil ?_
   exact ⟨(i + 1, G1), ⟨by omega, hG1⟩, by show _ - (i + 1) < _ - i; omega, .cons rfl (.cons rfl .nil), a_g, fun _ h => h⟩
  ·have h1n := r_f h1
   refine c_exit rfl ?_
   refine c_seq ?_
   refine c_region ?_
   refine RL ?_
   refine RL ?_
   refine l_nil ?_
   refine c_ret ?_
   obtain rfl : i = 2 := by omega
   exact l_end (fun _ _ => rets_v rfl) (List.Sublist.refl _) ⟨by rw [← popN_2], Gi, by rw [← popN_2], by rw [← popN_2]; exact hGi⟩

theorem rsum_fn {β : Type} (K : BusK Tryz.prog β) (rb : Nat) {bn : Nat} (x : Rn β) (h : RunOk K.toBusO bn x) (G : Heap) (hG : K.rep x.m G) (k u : Int) (hu : 0 ≤ u ∧ u < 256) (w : World) (hst : St w (rb :: G.map (·.1)) ((rb, blk (cN K x.s) 77) :: G) w) : Does Tryz.prog 57 [.pointer (some ⟨rb, 0, none⟩), .int .i64 k, .int .u8 u] w (rb :: G.map (·.1)) (fun v H => v = .tuple #[] ∧ RunH K rb (x.reg (sumR x.s.r k u)) H) := by
 refine does_of Tryz.func57 rfl rfl rfl hst ?_
 refine c_seq ?_
 refine c_draw _ [6, 7, 8, 9, 10, 11, 12, 13, 14] (.step true 0 (.step true 1 (.step true 2 (.step true 3 (.step true 4 (.step true 5 (.step true 6 (.step true 7 (.step true 8 (.step true 9 (.step true 10 (.step true 11 (.step true 12 (.step true 13 (.step true 14 (.step true 15 .done)))))))))))))))) rfl (by kernel_rfl) (by kernel_rfl) (fun _ h => h) ?_
 refine RD ?_
 refine RD ?_
 iterate 3 refine RDa ?_
 refine RDo ?_
 refine RD ?_
 refine RD ?_
 iterate 3 refine RDa ?_
 refine RDo ?_
 refine d_as (v := (.int .u8 (band .u8 x.s.r.f 16))) rfl rfl rfl rfl rfl rfl ?_
 refine d_as (v := (.bool (cF x.s.r.f))) rfl rfl rfl rfl rfl (congrArg _ (ne_cF h.r.f)) ?_
 refine RD ?_
 refine RD ?_
 refine d_nil ?_
 refine c_seq ?_
 refine c_seq ?_
 refine c_region ?_
 refine RL ?_
 refine l_nil ?_
 refine c_block ?_
 refine c_cut (σ := Unit) [23, 24, 25] (fun _ => [(23, .bool (decide (k = 0 ∨ k = 1)))]) (fun _ => (rb, blk (cN K x.s) 77) :: G) (fun _ => True) ?_ ?_
 ·refine c_seq ?_
  refine c_region ?_
  refine RL ?_
  refine RL ?_
  refine l_nil ?_
  refine c_cond rfl (fun h1 => ?_) (fun h1 => ?_)
  ·have h1n := r_f h1
   refine c_skip ?_
   exact ⟨(), trivial, .cons (congrArg Value.bool (by rw [Bool.eq_iff_iff]; simp; omega)) .nil, a_g, fun _ h => h⟩
  ·have h1n := r_f h1
   refine c_region ?_
   refine RL ?_
   refine RL ?_
   refine l_nil ?_
   exact ⟨(), trivial, .cons (congrArg Value.bool (by rw [Bool.eq_iff_iff]; simp; omega)) .nil, a_g, fun _ h => h⟩
 ·rintro _ yc23 _
  refine c_cond rfl (fun h2 => ?_) (fun h2 => ?_)
  ·have h2n := r_f h2
   refine c_region ?_
   iterate 5 refine RL ?_
   refine RLb (fun h3 => ?_) (fun h3 => ?_)
   ·have h3n := r_f h3
    iterate 3 refine RL ?_
    refine RLv call_91 (fun w hw => add_fn x.s.r.a u (k == 1) h.r.a hu w) ?_
    iterate 4 refine RL ?_
    iterate 3 refine RLa ?_
    refine l_x (x_storeTo (l' := cN K { x.s with r := { x.s.r with a := addR x.s.r.a u (k == 1) } }) 0 rfl rfl rfl rfl rfl rfl (Nat.le_of_ble_eq_true rfl) rfl) rfl rfl ?_
    rintro _ _ ⟨rfl, rfl⟩
    refine c_u ?_
    refine RL ?_
    iterate 3 refine RLa ?_
    refine l_x (x_storeTo (l' := cN K { x.s with r := { x.s.r with a := addR x.s.r.a u (k == 1), f := addF x.s.r.a u (k == 1) } }) 0 rfl rfl rfl rfl rfl rfl (Nat.le_of_ble_eq_true rfl) rfl) rfl rfl ?_
    rintro _ _ ⟨rfl, rfl⟩
    refine c_u ?_
    refine l_nil ?_
    refine c_seq ?_
    refine c_region ?_
    refine RL ?_
    refine l_sure false rfl rfl rfl (beq_eq_false_iff_ne.2 o_m) ?_
    refine l_nil ?_
    refine c_false rfl ?_
    refine c_skip ?_
    have e9 : sumR x.s.r k u = { x.s.r with a := addR x.s.r.a u (k == 1), f := addF x.s.r.a u (k == 1) } := by
     rcases (show k = 0 ∨ k = 1 by omega) with rfl | rfl <;> simp_all [sumR]
    exact l_end (fun _ _ => rets_none) (List.Sublist.refl _) ⟨rfl, G, by rw [e9]; rfl, hG⟩
   ·have h3n := r_f h3
    refine RLp ?_
    refine RLp ?_
    refine RL ?_
    refine RLv call_91 (fun w hw => add_fn x.s.r.a u false h.r.a hu w) ?_
    iterate 4 refine RL ?_
    iterate 3 refine RLa ?_
    refine l_x (x_storeTo (l' := cN K { x.s with r := { x.s.r with a := addR x.s.r.a u false } }) 0 rfl rfl rfl rfl rfl rfl (Nat.le_of_ble_eq_true rfl) rfl) rfl rfl ?_
    rintro _ _ ⟨rfl, rfl⟩
    refine c_u ?_
    refine RL ?_
    iterate 3 refine RLa ?_
    refine l_x (x_storeTo (l' := cN K { x.s with r := { x.s.r with a := addR x.s.r.a u false, f := addF x.s.r.a u false } }) 0 rfl rfl rfl rfl rfl rfl (Nat.le_of_ble_eq_true rfl) rfl) rfl rfl ?_
    rintro _ _ ⟨rfl, rfl⟩
    refine c_u ?_
    refine l_nil ?_
    refine c_seq ?_
    refine c_region ?_
    refine RL ?_
    refine l_sure false rfl rfl rfl (beq_eq_false_iff_ne.2 o_m) ?_
    refine l_nil ?_
    refine c_false rfl ?_
    refine c_skip ?_
    have e9 : sumR x.s.r k u = { x.s.r with a := addR x.s.r.a u false, f := addF x.s.r.a u false } := by
     rcases (show k = 0 ∨ k = 1 by omega) with rfl | rfl <;> simp_all [sumR]
    exact l_end (fun _ _ => rets_none) (List.Sublist.refl _) ⟨rfl, G, by rw [e9]; rfl, hG⟩
  ·have h2n := r_f h2
   refine c_cut (σ := Unit) [47, 48, 49, 50] (fun _ => [(47, .bool (decide (k = 2 ∨ k = 3 ∨ k = 7)))]) (fun _ => (rb, blk (cN K x.s) 77) :: G) (fun _ => True) ?_ ?_
   ·refine c_seq ?_
    refine c_region ?_
    refine RL ?_
    refine RL ?_
    refine l_nil ?_
    refine c_cond rfl (fun h4 => ?_) (fun h4 => ?_)
    ·have h4n := r_f h4
     refine c_skip ?_
     exact ⟨(), trivial, .cons (congrArg Value.bool (by rw [Bool.eq_iff_iff]; simp; omega)) .nil, a_g, fun _ h => h⟩
    ·have h4n := r_f h4
     refine c_seq ?_
     refine c_region ?_
     refine RL ?_
     refine RL ?_
     refine l_nil ?_
     refine c_cond rfl (fun h5 => ?_) (fun h5 => ?_)
     ·have h5n := r_f h5
      refine c_skip ?_
      exact ⟨(), trivial, .cons (congrArg Value.bool (by rw [Bool.eq_iff_iff]; simp; omega)) .nil, a_g, fun _ h => h⟩
     ·have h5n := r_f h5
      refine c_region ?_
      refine RL ?_
      refine RL ?_
      refine l_nil ?_
      exact ⟨(), trivial, .cons (congrArg Value.bool (by rw [Bool.eq_iff_iff]; simp; omega)) .nil, a_g, fun _ h => h⟩
   ·rintro _ yc47 _
    refine c_cond rfl (fun h6 => ?_) (fun h6 => ?_)
    ·have h6n := r_f h6
     refine c_region ?_
     iterate 5 refine RL ?_
     refine RLb (fun h7 => ?_) (fun h7 => ?_)
     ·have h7n := r_f h7
      iterate 3 refine RL ?_
      refine RLv call_92 (fun w hw => sub_fn x.s.r.a u (k == 3) h.r.a hu w) ?_
      iterate 4 refine RL ?_
      iterate 3 refine RLa ?_
      refine l_x (x_storeTo (l' := cN K { x.s with r := { x.s.r with a := subR x.s.r.a u (k == 3) } }) 0 rfl rfl rfl rfl rfl rfl (Nat.le_of_ble_eq_true rfl) rfl) rfl rfl ?_
      rintro _ _ ⟨rfl, rfl⟩
      refine c_u ?_
      refine RL ?_
      iterate 3 refine RLa ?_
      refine l_x (x_storeTo (l' := cN K { x.s with r := { x.s.r with a := subR x.s.r.a u (k == 3), f := subF x.s.r.a u (k == 3) } }) 0 rfl rfl rfl rfl rfl rfl (Nat.le_of_ble_eq_true rfl) rfl) rfl rfl ?_
      rintro _ _ ⟨rfl, rfl⟩
      refine c_u ?_
      refine l_nil ?_
      refine c_seq ?_
      refine c_region ?_
      refine RL ?_
      refine RL ?_
      refine l_nil ?_
      refine c_cond rfl (fun h8 => ?_) (fun h8 => ?_)
      ·have h8n := r_f h8
       refine c_region ?_
       iterate 3 refine RL ?_
       iterate 3 refine RLa ?_
       refine l_x (x_storeTo (l' := cN K { x.s with r := { x.s.r with a := x.s.r.a, f := subF x.s.r.a u (k == 3) } }) 0 rfl rfl rfl rfl rfl rfl (Nat.le_of_ble_eq_true rfl) rfl) rfl rfl ?_
       rintro _ _ ⟨rfl, rfl⟩
       refine c_u ?_
       refine l_nil ?_
       have e9 : sumR x.s.r k u = { x.s.r with a := x.s.r.a, f := subF x.s.r.a u (k == 3) } := by
        obtain rfl : k = 7 := by omega
        simp_all [sumR]
       exact l_end (fun _ _ => rets_none) (List.Sublist.refl _) ⟨rfl, G, by rw [e9]; rfl, hG⟩
      ·have h8n := r_f h8
       refine c_skip ?_
       have e9 : sumR x.s.r k u = { x.s.r with a := subR x.s.r.a u (k == 3), f := subF x.s.r.a u (k == 3) } := by
        rcases (show k = 2 ∨ k = 3 by omega) with rfl | rfl <;> simp_all [sumR]
       exact l_end (fun _ _ => rets_none) (List.Sublist.refl _) ⟨rfl, G, by rw [e9]; rfl, hG⟩
     ·have h7n := r_f h7
      refine RLp ?_
      refine RLp ?_
      refine RL ?_
      refine RLv call_92 (fun w hw => sub_fn x.s.r.a u false h.r.a hu w) ?_
      iterate 4 refine RL ?_
      iterate 3 refine RLa ?_
      refine l_x (x_storeTo (l' := cN K { x.s with r := { x.s.r with a := subR x.s.r.a u false } }) 0 rfl rfl rfl rfl rfl rfl (Nat.le_of_ble_eq_true rfl) rfl) rfl rfl ?_
      rintro _ _ ⟨rfl, rfl⟩
      refine c_u ?_
      refine RL ?_
      iterate 3 refine RLa ?_
      refine l_x (x_storeTo (l' := cN K { x.s with r := { x.s.r with a := subR x.s.r.a u false, f := subF x.s.r.a u false } }) 0 rfl rfl rfl rfl rfl rfl (Nat.le_of_ble_eq_true rfl) rfl) rfl rfl ?_
      rintro _ _ ⟨rfl, rfl⟩
      refine c_u ?_
      refine l_nil ?_
      refine c_seq ?_
      refine c_region ?_
      refine RL ?_
      refine RL ?_
      refine l_nil ?_
      refine c_cond rfl (fun h9 => ?_) (fun h9 => ?_)
      ·have h9n := r_f h9
       refine c_region ?_
       iterate 3 refine RL ?_
       iterate 3 refine RLa ?_
       refine l_x (x_storeTo (l' := cN K { x.s with r := { x.s.r with a := x.s.r.a, f := subF x.s.r.a u false } }) 0 rfl rfl rfl rfl rfl rfl (Nat.le_of_ble_eq_true rfl) rfl) rfl rfl ?_
       rintro _ _ ⟨rfl, rfl⟩
       refine c_u ?_
       refine l_nil ?_
       have e9 : sumR x.s.r k u = { x.s.r with a := x.s.r.a, f := subF x.s.r.a u false } := by
        obtain rfl : k = 7 := by omega
        simp_all [sumR]
       exact l_end (fun _ _ => rets_none) (List.Sublist.refl _) ⟨rfl, G, by rw [e9]; rfl, hG⟩
      ·have h9n := r_f h9
       refine c_skip ?_
       have e9 : sumR x.s.r k u = { x.s.r with a := subR x.s.r.a u false, f := subF x.s.r.a u false } := by
        rcases (show k = 2 ∨ k = 3 by omega) with rfl | rfl <;> simp_all [sumR]
       exact l_end (fun _ _ => rets_none) (List.Sublist.refl _) ⟨rfl, G, by rw [e9]; rfl, hG⟩
    ·have h6n := r_f h6
     refine c_seq ?_
     refine c_region ?_
     refine RL ?_
     refine RL ?_
     refine l_nil ?_
     refine c_cond rfl (fun h10 => ?_) (fun h10 => ?_)
     ·have h10n := r_f h10
      refine c_region ?_
      iterate 4 refine RL ?_
      refine RLv call_93 (fun w hw => and_fn x.s.r.a u h.r.a hu w) ?_
      iterate 4 refine RL ?_
      iterate 3 refine RLa ?_
      refine l_x (x_storeTo (l' := cN K { x.s with r := { x.s.r with a := band .u8 x.s.r.a u } }) 0 rfl rfl rfl rfl rfl rfl (Nat.le_of_ble_eq_true rfl) rfl) rfl rfl ?_
      rintro _ _ ⟨rfl, rfl⟩
      refine c_u ?_
      refine RL ?_
      iterate 3 refine RLa ?_
      refine l_x (x_storeTo (l' := cN K { x.s with r := { x.s.r with a := band .u8 x.s.r.a u, f := logF 0 (band .u8 x.s.r.a u) } }) 0 rfl rfl rfl rfl rfl rfl (Nat.le_of_ble_eq_true rfl) rfl) rfl rfl ?_
      rintro _ _ ⟨rfl, rfl⟩
      refine c_u ?_
      refine l_nil ?_
      refine c_seq ?_
      refine c_region ?_
      refine RL ?_
      refine l_sure false rfl rfl rfl (beq_eq_false_iff_ne.2 o_m) ?_
      refine l_nil ?_
      refine c_false rfl ?_
      refine c_skip ?_
      have e9 : sumR x.s.r k u = { x.s.r with a := band .u8 x.s.r.a u, f := logF 0 (band .u8 x.s.r.a u) } := by
       obtain rfl : k = 4 := by omega
       rfl
      exact l_end (fun _ _ => rets_none) (List.Sublist.refl _) ⟨rfl, G, by rw [e9]; rfl, hG⟩
     ·have h10n := r_f h10
      refine c_seq ?_
      refine c_region ?_
      refine RL ?_
      refine RL ?_
      refine l_nil ?_
      refine c_cond rfl (fun h11 => ?_) (fun h11 => ?_)
      ·have h11n := r_f h11
       refine c_region ?_
       iterate 4 refine RL ?_
       refine RLv call_94 (fun w hw => xor_fn x.s.r.a u h.r.a hu w) ?_
       iterate 4 refine RL ?_
       iterate 3 refine RLa ?_
       refine l_x (x_storeTo (l' := cN K { x.s with r := { x.s.r with a := bxor .u8 x.s.r.a u } }) 0 rfl rfl rfl rfl rfl rfl (Nat.le_of_ble_eq_true rfl) rfl) rfl rfl ?_
       rintro _ _ ⟨rfl, rfl⟩
       refine c_u ?_
       refine RL ?_
       iterate 3 refine RLa ?_
       refine l_x (x_storeTo (l' := cN K { x.s with r := { x.s.r with a := bxor .u8 x.s.r.a u, f := logF 2 (bxor .u8 x.s.r.a u) } }) 0 rfl rfl rfl rfl rfl rfl (Nat.le_of_ble_eq_true rfl) rfl) rfl rfl ?_
       rintro _ _ ⟨rfl, rfl⟩
       refine c_u ?_
       refine l_nil ?_
       refine c_seq ?_
       refine c_region ?_
       refine RL ?_
       refine l_sure false rfl rfl rfl (beq_eq_false_iff_ne.2 o_m) ?_
       refine l_nil ?_
       refine c_false rfl ?_
       refine c_skip ?_
       have e9 : sumR x.s.r k u = { x.s.r with a := bxor .u8 x.s.r.a u, f := logF 2 (bxor .u8 x.s.r.a u) } := by
        obtain rfl : k = 5 := by omega
        rfl
       exact l_end (fun _ _ => rets_none) (List.Sublist.refl _) ⟨rfl, G, by rw [e9]; rfl, hG⟩
      ·have h11n := r_f h11
       refine c_seq ?_
       refine c_region ?_
       refine RL ?_
       refine RL ?_
       refine l_nil ?_
       refine c_cond rfl (fun h12 => ?_) (fun h12 => ?_)
       ·have h12n := r_f h12
        refine c_region ?_
        iterate 4 refine RL ?_
        refine RLv call_95 (fun w hw => or_fn x.s.r.a u h.r.a hu w) ?_
        iterate 4 refine RL ?_
        iterate 3 refine RLa ?_
        refine l_x (x_storeTo (l' := cN K { x.s with r := { x.s.r with a := bor .u8 x.s.r.a u } }) 0 rfl rfl rfl rfl rfl rfl (Nat.le_of_ble_eq_true rfl) rfl) rfl rfl ?_
        rintro _ _ ⟨rfl, rfl⟩
        refine c_u ?_
        refine RL ?_
        iterate 3 refine RLa ?_
        refine l_x (x_storeTo (l' := cN K { x.s with r := { x.s.r with a := bor .u8 x.s.r.a u, f := logF 1 (bor .u8 x.s.r.a u) } }) 0 rfl rfl rfl rfl rfl rfl (Nat.le_of_ble_eq_true rfl) rfl) rfl rfl ?_
        rintro _ _ ⟨rfl, rfl⟩
        refine c_u ?_
        refine l_nil ?_
        refine c_seq ?_
        refine c_region ?_
        refine RL ?_
        refine l_sure false rfl rfl rfl (beq_eq_false_iff_ne.2 o_m) ?_
        refine l_nil ?_
        refine c_false rfl ?_
        refine c_skip ?_
        have e9 : sumR x.s.r k u = { x.s.r with a := bor .u8 x.s.r.a u, f := logF 1 (bor .u8 x.s.r.a u) } := by
         obtain rfl : k = 6 := by omega
         rfl
        exact l_end (fun _ _ => rets_none) (List.Sublist.refl _) ⟨rfl, G, by rw [e9]; rfl, hG⟩
       ·have h12n := r_f h12
        refine c_skip ?_
        refine c_seq ?_
        refine c_region ?_
        refine RL ?_
        refine l_sure false rfl rfl rfl (beq_eq_false_iff_ne.2 o_m) ?_
        refine l_nil ?_
        refine c_false rfl ?_
        refine c_skip ?_
        exact l_end (fun _ _ => rets_none) (List.Sublist.refl _) ⟨rfl, G, by rw [show sumR x.s.r k u = x.s.r by unfold sumR; repeat rw [if_neg o_m]]; rfl, hG⟩

theorem rchange_fn {β : Type} (K : BusK Tryz.prog β) (rb : Nat) {bn : Nat} (x : Rn β) (h : RunOk K.toBusO (bn + 2) x) (G : Heap) (hG : K.rep x.m G) (n : Int) (ff : Nat) (V1 V2 : List Value) (hcf : callable Tryz.prog ff = true) (gg : Int → Int → Int × Int) (hgb : ∀ a f, 0 ≤ a ∧ a < 256 → 0 ≤ f ∧ f < 256 → (0 ≤ (gg a f).1 ∧ (gg a f).1 < 256) ∧ (0 ≤ (gg a f).2 ∧ (gg a f).2 < 256)) (w : World) (hst : St w (rb :: G.map (·.1)) ((rb, blk (cN K x.s) 77) :: G) w) (hfun : ∀ (w' : World) (H' : Heap) (a f : Int), St w (rb :: G.map (·.1)) H' w' → 0 ≤ a ∧ a < 256 → 0 ≤ f ∧ f < 256 → Does Tryz.prog ff (V1 ++ [.int .u8 a, .int .u8 f] ++ V2) w' [] (fun v H => H = [] ∧ v = .tuple #[.int .u8 (gg a f).1, .int .u8 (gg a f).2])) : Does Tryz.prog 58 [.pointer (some ⟨rb, 0, none⟩), .int .i64 n, .func (.func ff) V1.toArray V2.toArray] w (rb :: G.map (·.1)) (fun v H => v = .tuple #[] ∧ RunH K rb (change K.toBusA n gg x) H) := by
 have hq9 := h.gett n
 have hb9 := hgb _ _ hq9.2 h.r.f
 refine does_of Tryz.func58 rfl rfl rfl hst ?_
 refine c_seq ?_
 refine c_draw [(rb, blk (cN K x.s) 77)] [3] (.step true 0 (.step true 1 (.step true 2 (.step true 4 (.step true 5 (.step true 6 (.step true 7 (.step true 8 (.step true 9 (.step false 3 (.step false 10 (.step true 11 (.step true 12 (.step true 13 (.step true 14 (.step true 15 .done)))))))))))))))) rfl (by kernel_rfl) (by kernel_rfl) (fun x hx => by obtain rfl := List.mem_singleton.1 hx; exact .head _) ?_
 iterate 5 refine RD ?_
 iterate 3 refine RDa ?_
 refine RDo ?_
 refine d_x rfl (x_callA call_56 rfl (fun w hw => rget_fn K rb x h G hG n w (St.lentA hw))) rfl rfl (by rintro _ _ _ ⟨rfl, _, rfl, _⟩ x hx; obtain rfl := List.mem_singleton.1 hx; exact .head _) ?_
 rintro _ _ ⟨rfl, G1, rfl, hG1⟩
 refine d_x rfl (x_valV (A := V1) (B := V2) rfl hcf rfl (fun w hw => hfun w _ _ _ hw hq9.2 h.r.f)) rfl rfl n_h ?_
 rintro _ _ ⟨rfl, rfl⟩
 refine d_mv rfl (vnf_eq rfl) rfl rfl ?_
 iterate 4 refine RD ?_
 refine d_nil ?_
 refine c_seq ?_
 refine c_region ?_
 iterate 3 refine RL ?_
 refine l_x (x_callA call_55 rfl (fun w hw => rset_fn K rb (x.mem (gett K.toBusA n x).2.m) (h.gmem n) G1 hG1 n (gg (gett K.toBusA n x).1 x.s.r.f).1 hb9.1 w (St.lentA hw))) rfl rfl ?_
 rintro _ _ ⟨rfl, G2, rfl, hG2⟩
 refine l_nil ?_
 refine c_region ?_
 iterate 3 refine RL ?_
 iterate 3 refine RLa ?_
 refine l_x (x_storeTo (l' := cN K { (sett K.toBusA n (gg (gett K.toBusA n x).1 x.s.r.f).1 (x.mem (gett K.toBusA n x).2.m)).s with r := { (sett K.toBusA n (gg (gett K.toBusA n x).1 x.s.r.f).1 (x.mem (gett K.toBusA n x).2.m)).s.r with f := (gg (gett K.toBusA n x).1 x.s.r.f).2 } }) 0 rfl rfl rfl rfl rfl rfl (Nat.le_of_ble_eq_true rfl) rfl) rfl rfl ?_
 rintro _ _ ⟨rfl, rfl⟩
 refine c_u ?_
 refine l_nil ?_
 have e9 : change K.toBusA n gg x = (sett K.toBusA n (gg (gett K.toBusA n x).1 x.s.r.f).1 (x.mem (gett K.toBusA n x).2.m)).reg { (sett K.toBusA n (gg (gett K.toBusA n x).1 x.s.r.f).1 (x.mem (gett K.toBusA n x).2.m)).s.r with f := (gg (gett K.toBusA n x).1 x.s.r.f).2 } := by unfold change; dsimp only; rw [gett_mem]; rfl
 exact l_end (fun _ _ => rets_none) (List.Sublist.refl _) ⟨rfl, G2, by rw [e9]; rfl, by rw [e9]; exact hG2⟩

theorem rplace_fn {β : Type} (K : BusK Tryz.prog β) (rb : Nat) {bn : Nat} (x : Rn β) (h : RunOk K.toBusO bn x) (G : Heap) (hG : K.rep x.m G) (n : Int) (w : World) (hst : St w (rb :: G.map (·.1)) ((rb, blk (cN K x.s) 77) :: G) w) : Does Tryz.prog 70 [.pointer (some ⟨rb, 0, none⟩), .int .i64 n] w (rb :: G.map (·.1)) (fun v H => v = .int .u16 (far n x).1 ∧ RunH K rb ((far n x).2) H) := by
 refine does_of Tryz.func70 rfl rfl rfl hst ?_
 refine c_seq ?_
 refine c_region ?_
 refine RL ?_
 refine l_nil ?_
 refine c_seq ?_
 refine c_seq ?_
 refine c_region ?_
 refine RL ?_
 refine RL ?_
 refine l_nil ?_
 refine c_cond rfl (fun h1 => ?_) (fun h1 => ?_)
 ·have h1n := r_f h1
  refine c_seq ?_
  refine c_region ?_
  refine RL ?_
  refine RL ?_
  refine RLv call_66 (fun w hw => rpair_fn K rb x.s h.r w (row_own m_m w hw) n) ?_
  refine RL ?_
  refine l_nil ?_
  refine c_ret ?_
  have e9 : far n x = (pairR x.s.r n, x) := if_pos o_m
  exact l_end (fun _ _ => rets_v rfl) (List.Sublist.refl _) ⟨by rw [e9], G, by rw [e9], by rw [e9]; exact hG⟩
 ·have h1n := r_f h1
  refine c_skip ?_
  refine c_seq ?_
  refine c_region ?_
  refine RL ?_
  refine RLv call_66 (fun w hw => rpair_fn K rb x.s h.r w (row_own m_m w hw) 2) ?_
  refine RL ?_
  refine l_nil ?_
  refine c_seq ?_
  refine c_seq ?_
  refine c_region ?_
  refine RL ?_
  refine RL ?_
  refine l_nil ?_
  refine c_cond rfl (fun h2 => ?_) (fun h2 => ?_)
  ·have h2n := r_f h2
   refine c_region ?_
   refine RL ?_
   refine RL ?_
   refine l_as (v := (.int .u16 (inc16 (pairR x.s.r 2)))) (l_add rfl rfl) rfl rfl (congrArg _ (wrap_u16 _)) ?_
   refine l_x (x_callA call_65 rfl (fun w hw => rsetPair_fn K rb x h G hG 2 (inc16 (pairR x.s.r 2)) inc16_ok w (St.lentA hw))) rfl rfl ?_
   rintro _ _ ⟨rfl, G1, rfl, hG1⟩
   refine l_nil ?_
   refine c_seq ?_
   refine c_region ?_
   refine RL ?_
   refine RL ?_
   refine l_nil ?_
   refine c_ret ?_
   have e9 : far n x = (pairR x.s.r 2, x.reg (setPR x.s.r 2 (inc16 (pairR x.s.r 2)))) := by unfold far; rw [if_neg o_m, if_pos o_m]
   exact l_end (fun _ _ => rets_v rfl) (List.Sublist.refl _) ⟨by rw [e9], G1, by rw [e9], by rw [e9]; exact hG1⟩
  ·have h2n := r_f h2
   refine c_region ?_
   refine RL ?_
   refine RL ?_
   refine l_as (v := (.int .u16 (dec16 (pairR x.s.r 2)))) (l_sub rfl rfl) rfl rfl (congrArg _ (wrap_u16 _)) ?_
   refine l_x (x_callA call_65 rfl (fun w hw => rsetPair_fn K rb x h G hG 2 (dec16 (pairR x.s.r 2)) dec16_ok w (St.lentA hw))) rfl rfl ?_
   rintro _ _ ⟨rfl, G1, rfl, hG1⟩
   refine l_nil ?_
   refine c_seq ?_
   refine c_region ?_
   refine RL ?_
   refine RL ?_
   refine l_nil ?_
   refine c_ret ?_
   have e9 : far n x = (pairR x.s.r 2, x.reg (setPR x.s.r 2 (dec16 (pairR x.s.r 2)))) := by unfold far; rw [if_neg o_m, if_neg o_m]
   exact l_end (fun _ _ => rets_v rfl) (List.Sublist.refl _) ⟨by rw [e9], G1, by rw [e9], by rw [e9]; exact hG1⟩

end Go.Proofs.YtjjemehigdpboaaGreat
