/- What runs: bytes, pairs, cycles, the stack. -/
import Derived.Test.YtldehodcfajpjaaGreatQcS
set_option linter.unusedSimpArgs false
set_option linter.unusedVariables false
set_option maxRecDepth 100000
namespace Go.Proofs.YtldehodcfajpjaaGreat
open Go Go.VV Go.Proofs
theorem rpair_fn {β : Type} (K : BusK Tryz.prog β) (rb : Nat) (s : CS) (hr : s.r.Ok) (w : World) (hrow : Row w rb 0 (cN K s)) (n : Int) : Does Tryz.prog 207 [.pointer (some ⟨rb, 0, none⟩), .int .i64 n] w [] (fun v H => H = [] ∧ v = .int .u16 (pairR s.r n)) := by
 refine does_of Tryz.func207 rfl rfl rfl (St.refl w) ?_
 refine ZAa ?_
 refine ZBl ?_
 refine RZ (x_loadA rfl rfl rfl (row_old (Row.left (Row.left hrow)) y_z)) rfl ?_
 refine Rl ?_
 refine RX (x_call call_241 rfl (fun w hw => pair_fn s.r hr n w)) rfl ?_
 rintro _ _ ⟨G0, ⟨rfl, k14, rfl⟩, rfl⟩
 refine ZBA ?_
 refine ZBr ?_
 exact E0 rfl ⟨rfl, rfl⟩
theorem rsetPair_fn {β : Type} (K : BusK Tryz.prog β) (rb : Nat) {bn : Nat} (x : Rn β) (h : RunOk K.toBusO bn x) (G : Heap) (hG : K.rep x.m G) (n p : Int) (hp : 0 ≤ p ∧ p < 65536) (w : World) (hst : St w (rb :: G.map (·.1)) ((rb, blk (cN K x.s) 211) :: G) w) : Does Tryz.prog 206 [.pointer (some ⟨rb, 0, none⟩), .int .i64 n, .int .u16 p] w (rb :: G.map (·.1)) (fun v H => v = .tuple #[] ∧ RunH K rb (x.reg (setPR x.s.r n p)) H) := by
 refine does_of Tryz.func206 rfl rfl rfl hst ?_
 refine ZCx ?_
 refine ZER ?_
 refine L_2 ?_
 refine RX (x_call call_240 rfl (fun w hw => setPair_fn x.s.r n p hp w)) rfl ?_
 rintro _ _ ⟨G0, ⟨rfl, k15, rfl⟩, rfl⟩
 refine L_6 ?_
 refine RZ (x_storeTo (l' := cN K { x.s with r := setPR x.s.r n p }) 0 rfl rfl rfl rfl rfl rfl (Nat.le_of_ble_eq_true rfl) rfl) rfl ?_
 refine ZBE ?_
 exact EN (List.Sublist.refl _) ⟨rfl, G, rfl, hG⟩
theorem rget_fn {β : Type} (K : BusK Tryz.prog β) (rb : Nat) {bn : Nat} (x : Rn β) (h : RunOk K.toBusO (bn + 1) x) (G : Heap) (hG : K.rep x.m G) (n : Int) (w : World) (hst : St w (rb :: G.map (·.1)) ((rb, blk (cN K x.s) 211) :: G) w) : Does Tryz.prog 197 [.pointer (some ⟨rb, 0, none⟩), .int .i64 n] w (rb :: G.map (·.1)) (fun v H => v = .int .u8 (gett K.toBusA n x).1 ∧ ∃ G', H = (rb, blk (cN K x.s) 211) :: G' ∧ K.rep (gett K.toBusA n x).2.m G') := by
 refine does_of Tryz.func197 rfl rfl rfl hst ?_
 refine ZAa ?_
 refine ZAz ?_
 refine KC (fun q0 q0n => ?_) (fun q0 q0n => ?_)
 ·refine ZA0 ?_
  obtain rfl : n = 6 := by omega
  refine DR [4, 5] (pln [0, 2, 4, 6, 8, 12, 14, 11, 17, 18]) ?_
  refine D_7 ?_
  refine DZ rfl (x_val call_207 rfl (fun w hw => rpair_fn K rb x.s h.r w (row_own m_m w hw) 2)) rfl y_b ?_
  refine DX rfl (x_callIT (F := [(rb, _)]) (A := G) rfl K.mR K.cR rfl (fun w hw => K.dR h.m hG (St.lentV hw) (pairR_word h.r 2))) rfl n_h ?_
  rintro _ _ ⟨G0, ⟨rfl, hG0⟩, rfl⟩
  refine RD ?_
  refine ZBe ?_
  exact EV rfl (List.Sublist.refl _) ⟨rfl, G0, rfl, hG0⟩
 ·refine ZAx ?_
  refine ZBl ?_
  refine ZER ?_
  refine Rl ?_
  refine RX (x_call call_231 rfl (fun w hw => get_fn x.s.r n w)) rfl ?_
  rintro _ _ ⟨G0, ⟨rfl, k25, rfl⟩, rfl⟩
  refine ZBA ?_
  refine ZBr ?_
  have hn : gett K.toBusA n x = (getR x.s.r n, x) := if_neg o_m
  exact EV rfl (List.Sublist.refl _) ⟨by rw [hn], G, rfl, by rw [hn]; exact hG⟩
theorem rset_fn {β : Type} (K : BusK Tryz.prog β) (rb : Nat) {bn : Nat} (x : Rn β) (h : RunOk K.toBusO (bn + 1) x) (G : Heap) (hG : K.rep x.m G) (n u : Int) (hu : 0 ≤ u ∧ u < 256) (w : World) (hst : St w (rb :: G.map (·.1)) ((rb, blk (cN K x.s) 211) :: G) w) : Does Tryz.prog 196 [.pointer (some ⟨rb, 0, none⟩), .int .i64 n, .int .u8 u] w (rb :: G.map (·.1)) (fun v H => v = .tuple #[] ∧ RunH K rb (sett K.toBusA n u x) H) := by
 refine does_of Tryz.func196 rfl rfl rfl hst ?_
 refine ZAz ?_
 refine KC (fun q0 q0n => ?_) (fun q0 q0n => ?_)
 ·refine ZA0 ?_
  obtain rfl : n = 6 := by omega
  refine DR [4, 5, 6] (pln [0, 2, 4, 6, 8, 12, 14, 16, 11, 19]) ?_
  refine D_8 ?_
  refine DZ rfl (x_val call_207 rfl (fun w hw => rpair_fn K rb x.s h.r w (row_own m_m w hw) 2)) rfl y_b ?_
  refine DX rfl (x_callIT (F := [(rb, _)]) (A := G) rfl K.mW K.cW rfl (fun w hw => K.dW h.m hG (St.lentV hw) (pairR_word h.r 2) hu)) rfl n_h ?_
  rintro _ _ ⟨G0, ⟨rfl, hG0⟩, rfl⟩
  refine ZBe ?_
  exact EN (List.Sublist.refl _) ⟨rfl, G0, rfl, hG0⟩
 ·refine ZAx ?_
  refine ZCx ?_
  refine ZER ?_
  refine L_2 ?_
  refine RX (x_call call_230 rfl (fun w hw => set_fn x.s.r n u w)) rfl ?_
  rintro _ _ ⟨G0, ⟨rfl, k27, rfl⟩, rfl⟩
  refine L_6 ?_
  refine RZ (x_storeTo (l' := cN K { x.s with r := setR x.s.r n u }) 0 rfl rfl rfl rfl rfl rfl (Nat.le_of_ble_eq_true rfl) rfl) rfl ?_
  refine ZBE ?_
  have hn : sett K.toBusA n u x = x.reg (setR x.s.r n u) := if_neg o_m
  exact EN (List.Sublist.refl _) ⟨rfl, by rw [hn]; exact ⟨G, rfl, hG⟩⟩
theorem ridle_fn {β : Type} (K : BusK Tryz.prog β) (rb : Nat) {bn : Nat} (n : Nat) (hn : n ≤ 1000) (x : Rn β) (h : RunOk K.toBusO (bn + n) x) (G : Heap) (hG : K.rep x.m G) (w : World) (hst : St w (rb :: G.map (·.1)) ((rb, blk (cN K x.s) 211) :: G) w) : Does Tryz.prog 93 [.pointer (some ⟨rb, 0, none⟩), .int .i64 n] w (rb :: G.map (·.1)) (fun v H => v = .tuple #[] ∧ RunH K rb (idles K.toBusA n x) H) := by
 have hs9 : ∀ i, (idles K.toBusA i x).s = x.s := fun i => by induction i with | zero => rfl | succ i ih => exact ih
 refine does_of Tryz.func93 rfl rfl rfl hst ?_
 refine ZAS ?_
 refine c_block ?_
 refine c_loop (σ := Nat × Heap) [5, 6, 7, 8, 9, 10, 11, 12] (fun s => [(5, .int .i64 s.1)]) (fun s => (rb, blk (cN K x.s) 211) :: s.2) (fun s => s.1 ≤ n ∧ K.rep (idles K.toBusA s.1 x).m s.2) (fun s => n - s.1) (0, G) ?_ ?_ ?_ ?_
 ·exact ⟨Nat.zero_le _, hG⟩
 ·exact .cons rfl .nil
 ·exact fun _ h => h
 ·rintro ⟨i, Gi⟩ y1 ⟨hi, hGi⟩
  dsimp only at hi hGi ⊢
  refine ZCI ?_
  refine KC (fun q0 q0n => ?_) (fun q0 q0n => ?_)
  ·refine ZCQ ?_
   refine ZBj ?_
   refine RX (x_callIT (F := [(rb, _)]) (A := Gi) rfl K.mI K.cI rfl (fun w hw => K.dI (K.oL (k := 0 + 1) (h.idles i hi).m o_m) hGi (St.lentV hw))) rfl ?_
   rintro _ _ ⟨G0, ⟨rfl, hG0⟩, rfl⟩
   refine ZAb ?_
   refine ZC2 ?_
   exact ⟨(i + 1, G0), ⟨y_D, hG0⟩, y_cH, .cons rfl .nil, a_g, fun _ h => h⟩
  ·refine ZBa ?_
   obtain rfl : i = n := by omega
   exact EN (List.Sublist.refl _) ⟨rfl, Gi, by rw [hs9], hGi⟩
theorem rpush_fn {β : Type} (K : BusK Tryz.prog β) (rb : Nat) {bn : Nat} (x : Rn β) (h : RunOk K.toBusO (bn + 2) x) (G : Heap) (hG : K.rep x.m G) (p : Int) (hp : 0 ≤ p ∧ p < 65536) (w : World) (hst : St w (rb :: G.map (·.1)) ((rb, blk (cN K x.s) 211) :: G) w) : Does Tryz.prog 153 [.pointer (some ⟨rb, 0, none⟩), .int .u16 p] w (rb :: G.map (·.1)) (fun v H => v = .tuple #[] ∧ RunH K rb (push K.toBusA p x) H) := by
 refine does_of Tryz.func153 rfl rfl rfl hst ?_
 refine ZAV ?_
 refine RW (shr_pos rfl rfl y_c) rfl (as_shr 256 y_c y_c) ?_
 refine RW (l_conv rfl rfl rfl) rfl y_o ?_
 refine Rl ?_
 refine RW (l_conv rfl rfl rfl) rfl y_o ?_
 refine RX (x_slc rfl rfl rfl rfl rfl rfl) rfl ?_
 refine ZC8 fun b0 => ?_
 refine ZCU ?_
 refine ZBO ?_
 refine c_loop (σ := Nat × Heap) [5, 13, 14, 15, 16, 17, 18, 19, 20, 21, 22, 23, 24, 25, 26, 27, 28, 29, 30, 31, 32, 33, 34, 35, 36, 37, 38, 39, 40, 41, 42] (fun s => [(13, .int .i64 s.1)]) (fun s => (b0, blk [.int .u8 (p / 256), .int .u8 (p % 256)] 5) :: (rb, blk (cN K (pushN K.toBusA p x s.1).s) 211) :: s.2) (fun s => s.1 ≤ 2 ∧ K.rep (pushN K.toBusA p x s.1).m s.2) (fun s => 2 - s.1) (0, G) ?_ ?_ ?_ ?_
 ·exact ⟨Nat.zero_le _, hG⟩
 ·exact .cons rfl .nil
 ·exact fun _ h => h
 ·rintro ⟨i, Gi⟩ y1 ⟨hi, hGi⟩
  dsimp only at hi hGi ⊢
  refine ZCI ?_
  refine KC (fun q0 q0n => ?_) (fun q0 q0n => ?_)
  ·refine ZDp ?_
   have hx9 := (h.pushN hp i o_m).le (k := 0 + 1) o_m
   have hk9 := hx9.r.sp
   refine ZCq ?_
   refine RZ (x_load rfl rfl (at_own (b := b0) m_m (byteAt_get p o_m))) rfl ?_
   refine ZAB ?_
   refine ZAA ?_
   refine L_6 ?_
   refine RW (l_sub rfl rfl) rfl y_r ?_
   refine L_4 ?_
   refine RZ (x_storeTo (l' := cN K { (pushN K.toBusA p x i).s with r := { (pushN K.toBusA p x i).s.r with sp := dec16 (pushN K.toBusA p x i).s.r.sp } }) 1 rfl rfl rfl rfl rfl rfl (Nat.le_of_ble_eq_true rfl) rfl) rfl ?_
   refine ZBE ?_
   refine ZB5 ?_
   refine DX rfl (x_callIT (F := [(b0, _), (rb, _)]) (A := Gi) rfl K.mW K.cW rfl (fun w hw => K.dW hx9.m hGi (St.lentV hw) dec16_ok (byteAt_ok hp i))) rfl n_h ?_
   rintro _ _ ⟨G0, ⟨rfl, hG0⟩, rfl⟩
   refine ZEb ?_
   refine ZC2 ?_
   exact ⟨(i + 1, G0), ⟨y_D, hG0⟩, y_cH, .cons rfl .nil, a_g, fun _ h => h⟩
  ·refine ZBa ?_
   obtain rfl : i = 2 := by omega
   exact EN (.cons _ (List.Sublist.refl _)) ⟨rfl, Gi, rfl, hGi⟩
theorem rpop_fn {β : Type} (K : BusK Tryz.prog β) (rb : Nat) {bn : Nat} (x : Rn β) (h : RunOk K.toBusO (bn + 2) x) (G : Heap) (hG : K.rep x.m G) (w : World) (hst : St w (rb :: G.map (·.1)) ((rb, blk (cN K x.s) 211) :: G) w) : Does Tryz.prog 210 [.pointer (some ⟨rb, 0, none⟩)] w (rb :: G.map (·.1)) (fun v H => v = .int .u16 (pop K.toBusA x).1 ∧ RunH K rb ((pop K.toBusA x).2) H) := by
 refine does_of Tryz.func210 rfl rfl rfl hst ?_
 refine ZAa ?_
 refine ZAa ?_
 refine ZAG ?_
 refine ZBO ?_
 refine c_loop (σ := Nat × Heap) [3, 4, 5, 6, 7, 8, 9, 10, 11, 12, 13, 14, 15, 16, 17, 18, 19, 20, 21, 22, 23, 24, 25, 26, 27, 28, 29, 30, 31, 32, 33, 34, 35, 36, 37, 38] (fun s => [(3, .int .u16 (popN K.toBusA x s.1).1), (5, .int .i64 s.1)]) (fun s => (rb, blk (cN K (popN K.toBusA x s.1).2.s) 211) :: s.2) (fun s => s.1 ≤ 2 ∧ K.rep (popN K.toBusA x s.1).2.m s.2) (fun s => 2 - s.1) (0, G) ?_ ?_ ?_ ?_
 ·exact ⟨Nat.zero_le _, hG⟩
 ·exact .cons rfl (.cons rfl .nil)
 ·exact fun _ h => h
 ·rintro ⟨i, Gi⟩ y3 ⟨hi, hGi⟩
  dsimp only at hi hGi ⊢
  refine ZCI ?_
  refine KC (fun q0 q0n => ?_) (fun q0 q0n => ?_)
  ·refine ZDp ?_
   have hx9 := (h.popN i o_m).le (k := 0 + 1) o_m
   have hk9 := hx9.r.sp
   have hv9 : 0 ≤ (K.read (popN K.toBusA x i).2.s.r.sp (popN K.toBusA x i).2.m).1 ∧ (K.read (popN K.toBusA x i).2.s.r.sp (popN K.toBusA x i).2.m).1 < 256 := hx9.pop1.2
   have ha9 := popN_le (h.le (k := 0 + 1) o_m) (i := i) o_m
   refine ZCB ?_
   refine ZA0 ?_
   refine DR [5, 6, 7, 8, 9, 10, 11, 12, 15, 16] (pln [0, 2, 4, 6, 8, 10, 12, 14, 16, 18, 20, 22, 24, 30, 32, 27, 28, 34, 36, 38]) ?_
   refine D_14 ?_
   refine DW rfl (l_mul rfl rfl) rfl y_d ?_
   refine DX rfl (x_callIT (F := [(rb, _)]) (A := Gi) rfl K.mR K.cR rfl (fun w hw => K.dR hx9.m hGi (St.lentV hw) hk9)) rfl n_h ?_
   rintro _ _ ⟨G0, ⟨rfl, hG0⟩, rfl⟩
   refine DW rfl (l_conv rfl rfl rfl) rfl y_r ?_
   refine DW (v := (.int .u16 (shl .u16 (K.read (popN K.toBusA x i).2.s.r.sp (popN K.toBusA x i).2.m).1 (8 * (i : Int))))) rfl (shl_pos rfl rfl o_m) rfl rfl ?_
   refine DW (v := (.int .u16 (popN K.toBusA x (i + 1)).1)) rfl (l_or rfl rfl) rfl (congrArg _ (pop_law o_m ha9 (fun h => by subst h; rfl) hv9)) ?_
   refine ZC9 ?_
   refine ZAP ?_
   refine L_6 ?_
   refine RW (l_add rfl rfl) rfl y_r ?_
   refine L_4 ?_
   refine RZ (x_storeTo (l' := cN K { (popN K.toBusA x i).2.s with r := { (popN K.toBusA x i).2.s.r with sp := inc16 (popN K.toBusA x i).2.s.r.sp } }) 0 rfl rfl rfl rfl rfl rfl (Nat.le_of_ble_eq_true rfl) rfl) rfl ?_
   refine ZBE ?_
   refine ZC2 ?_
   exact ⟨(i + 1, G0), ⟨y_D, hG0⟩, y_cH, .cons rfl (.cons rfl .nil), a_g, fun _ h => h⟩
  ·refine ZBa ?_
   refine ZBr ?_
   obtain rfl : i = 2 := by omega
   exact EV rfl (List.Sublist.refl _) ⟨by rw [← popN_2], Gi, by rw [← popN_2], by rw [← popN_2]; exact hGi⟩
theorem rsum_fn {β : Type} (K : BusK Tryz.prog β) (rb : Nat) {bn : Nat} (x : Rn β) (h : RunOk K.toBusO bn x) (G : Heap) (hG : K.rep x.m G) (k u : Int) (hu : 0 ≤ u ∧ u < 256) (w : World) (hst : St w (rb :: G.map (·.1)) ((rb, blk (cN K x.s) 211) :: G) w) : Does Tryz.prog 198 [.pointer (some ⟨rb, 0, none⟩), .int .i64 k, .int .u8 u] w (rb :: G.map (·.1)) (fun v H => v = .tuple #[] ∧ RunH K rb (x.reg (sumR x.s.r k u)) H) := by
 refine does_of Tryz.func198 rfl rfl rfl hst ?_
 refine ZA0 ?_
 refine DR [6, 7, 8, 9, 10, 11, 12, 13, 14] (pln [0, 2, 4, 6, 8, 10, 12, 14, 16, 18, 20, 22, 24, 26, 28, 30]) ?_
 refine D_12 ?_
 refine DW (v := (.int .u8 (band .u8 x.s.r.f 16))) rfl rfl rfl rfl ?_
 refine DW (v := (.bool (cF x.s.r.f))) rfl rfl rfl (congrArg _ (ne_cF h.r.f)) ?_
 refine ZCz ?_
 refine ZAG ?_
 refine ZBO ?_
 refine c_cut (σ := Unit) [23, 24, 25] (fun _ => [(23, .bool (decide (k = 0 ∨ k = 1)))]) (fun _ => (rb, blk (cN K x.s) 211) :: G) (fun _ => True) ?_ ?_
 ·refine ZAS ?_
  refine KC (fun q0 q0n => ?_) (fun q0 q0n => ?_)
  ·refine ZAx ?_
   exact ⟨(), trivial, .cons (congrArg Value.bool y_b4) .nil, a_g, fun _ h => h⟩
  ·refine ZCB ?_
   exact ⟨(), trivial, .cons (congrArg Value.bool y_b4) .nil, a_g, fun _ h => h⟩
 ·rintro _ yc23 _
  refine KC (fun q0 q0n => ?_) (fun q0 q0n => ?_)
  ·refine ZAP ?_
   iterate 5 refine Rl ?_
   refine KL (fun q1 q1n => ?_) (fun q1 q1n => ?_)
   ·refine ZBQ ?_
    refine RLv call_232 (fun w hw => add_fn x.s.r.a u (k == 1) h.r.a hu w) ?_
    refine L_7 ?_
    refine RZ (x_storeTo (l' := cN K { x.s with r := { x.s.r with a := addR x.s.r.a u (k == 1) } }) 0 rfl rfl rfl rfl rfl rfl (Nat.le_of_ble_eq_true rfl) rfl) rfl ?_
    refine c_u ?_
    refine L_4 ?_
    refine RZ (x_storeTo (l' := cN K { x.s with r := { x.s.r with a := addR x.s.r.a u (k == 1), f := addF x.s.r.a u (k == 1) } }) 0 rfl rfl rfl rfl rfl rfl (Nat.le_of_ble_eq_true rfl) rfl) rfl ?_
    refine ZBE ?_
    refine ZAV ?_
    refine ZBN ?_
    refine ZBL ?_
    have e9 : sumR x.s.r k u = { x.s.r with a := addR x.s.r.a u (k == 1), f := addF x.s.r.a u (k == 1) } := by
     rcases (show k = 0 ∨ k = 1 by omega) with rfl | rfl <;> simp_all [sumR]
    exact EN (List.Sublist.refl _) ⟨rfl, G, y_cA, hG⟩
   ·refine L_3 ?_
    refine RLv call_232 (fun w hw => add_fn x.s.r.a u false h.r.a hu w) ?_
    refine L_7 ?_
    refine RZ (x_storeTo (l' := cN K { x.s with r := { x.s.r with a := addR x.s.r.a u false } }) 0 rfl rfl rfl rfl rfl rfl (Nat.le_of_ble_eq_true rfl) rfl) rfl ?_
    refine c_u ?_
    refine L_4 ?_
    refine RZ (x_storeTo (l' := cN K { x.s with r := { x.s.r with a := addR x.s.r.a u false, f := addF x.s.r.a u false } }) 0 rfl rfl rfl rfl rfl rfl (Nat.le_of_ble_eq_true rfl) rfl) rfl ?_
    refine ZBE ?_
    refine ZAV ?_
    refine ZBN ?_
    refine ZBL ?_
    have e9 : sumR x.s.r k u = { x.s.r with a := addR x.s.r.a u false, f := addF x.s.r.a u false } := by
     rcases (show k = 0 ∨ k = 1 by omega) with rfl | rfl <;> simp_all [sumR]
    exact EN (List.Sublist.refl _) ⟨rfl, G, y_cA, hG⟩
  ·refine c_cut (σ := Unit) [47, 48, 49, 50] (fun _ => [(47, .bool (decide (k = 2 ∨ k = 3 ∨ k = 7)))]) (fun _ => (rb, blk (cN K x.s) 211) :: G) (fun _ => True) ?_ ?_
   ·refine ZAS ?_
    refine KC (fun q1 q1n => ?_) (fun q1 q1n => ?_)
    ·refine ZAx ?_
     exact ⟨(), trivial, .cons (congrArg Value.bool y_b4) .nil, a_g, fun _ h => h⟩
    ·refine ZAS ?_
     refine KC (fun q2 q2n => ?_) (fun q2 q2n => ?_)
     ·refine ZAx ?_
      exact ⟨(), trivial, .cons (congrArg Value.bool y_b4) .nil, a_g, fun _ h => h⟩
     ·refine ZCB ?_
      exact ⟨(), trivial, .cons (congrArg Value.bool y_b4) .nil, a_g, fun _ h => h⟩
   ·rintro _ yc47 _
    refine KC (fun q1 q1n => ?_) (fun q1 q1n => ?_)
    ·refine ZAP ?_
     iterate 5 refine Rl ?_
     refine KL (fun q2 q2n => ?_) (fun q2 q2n => ?_)
     ·refine ZBQ ?_
      refine RLv call_233 (fun w hw => sub_fn x.s.r.a u (k == 3) h.r.a hu w) ?_
      refine L_7 ?_
      refine RZ (x_storeTo (l' := cN K { x.s with r := { x.s.r with a := subR x.s.r.a u (k == 3) } }) 0 rfl rfl rfl rfl rfl rfl (Nat.le_of_ble_eq_true rfl) rfl) rfl ?_
      refine c_u ?_
      refine L_4 ?_
      refine RZ (x_storeTo (l' := cN K { x.s with r := { x.s.r with a := subR x.s.r.a u (k == 3), f := subF x.s.r.a u (k == 3) } }) 0 rfl rfl rfl rfl rfl rfl (Nat.le_of_ble_eq_true rfl) rfl) rfl ?_
      refine ZBE ?_
      refine ZAS ?_
      refine KC (fun q3 q3n => ?_) (fun q3 q3n => ?_)
      ·refine ZAP ?_
       refine L_6 ?_
       refine RZ (x_storeTo (l' := cN K { x.s with r := { x.s.r with a := x.s.r.a, f := subF x.s.r.a u (k == 3) } }) 0 rfl rfl rfl rfl rfl rfl (Nat.le_of_ble_eq_true rfl) rfl) rfl ?_
       refine ZBE ?_
       have e9 : sumR x.s.r k u = { x.s.r with a := x.s.r.a, f := subF x.s.r.a u (k == 3) } := by
        obtain rfl : k = 7 := by omega
        simp_all [sumR]
       exact EN (List.Sublist.refl _) ⟨rfl, G, y_cA, hG⟩
      ·refine ZAx ?_
       have e9 : sumR x.s.r k u = { x.s.r with a := subR x.s.r.a u (k == 3), f := subF x.s.r.a u (k == 3) } := by
        rcases (show k = 2 ∨ k = 3 by omega) with rfl | rfl <;> simp_all [sumR]
       exact EN (List.Sublist.refl _) ⟨rfl, G, y_cA, hG⟩
     ·refine L_3 ?_
      refine RLv call_233 (fun w hw => sub_fn x.s.r.a u false h.r.a hu w) ?_
      refine L_7 ?_
      refine RZ (x_storeTo (l' := cN K { x.s with r := { x.s.r with a := subR x.s.r.a u false } }) 0 rfl rfl rfl rfl rfl rfl (Nat.le_of_ble_eq_true rfl) rfl) rfl ?_
      refine c_u ?_
      refine L_4 ?_
      refine RZ (x_storeTo (l' := cN K { x.s with r := { x.s.r with a := subR x.s.r.a u false, f := subF x.s.r.a u false } }) 0 rfl rfl rfl rfl rfl rfl (Nat.le_of_ble_eq_true rfl) rfl) rfl ?_
      refine ZBE ?_
      refine ZAS ?_
      refine KC (fun q3 q3n => ?_) (fun q3 q3n => ?_)
      ·refine ZAP ?_
       refine L_6 ?_
       refine RZ (x_storeTo (l' := cN K { x.s with r := { x.s.r with a := x.s.r.a, f := subF x.s.r.a u false } }) 0 rfl rfl rfl rfl rfl rfl (Nat.le_of_ble_eq_true rfl) rfl) rfl ?_
       refine ZBE ?_
       have e9 : sumR x.s.r k u = { x.s.r with a := x.s.r.a, f := subF x.s.r.a u false } := by
        obtain rfl : k = 7 := by omega
        simp_all [sumR]
       exact EN (List.Sublist.refl _) ⟨rfl, G, y_cA, hG⟩
      ·refine ZAx ?_
       have e9 : sumR x.s.r k u = { x.s.r with a := subR x.s.r.a u false, f := subF x.s.r.a u false } := by
        rcases (show k = 2 ∨ k = 3 by omega) with rfl | rfl <;> simp_all [sumR]
       exact EN (List.Sublist.refl _) ⟨rfl, G, y_cA, hG⟩
    ·refine ZAS ?_
     refine KC (fun q2 q2n => ?_) (fun q2 q2n => ?_)
     ·refine ZAP ?_
      iterate 4 refine Rl ?_
      refine RLv call_234 (fun w hw => and_fn x.s.r.a u h.r.a hu w) ?_
      refine L_7 ?_
      refine RZ (x_storeTo (l' := cN K { x.s with r := { x.s.r with a := band .u8 x.s.r.a u } }) 0 rfl rfl rfl rfl rfl rfl (Nat.le_of_ble_eq_true rfl) rfl) rfl ?_
      refine c_u ?_
      refine L_4 ?_
      refine RZ (x_storeTo (l' := cN K { x.s with r := { x.s.r with a := band .u8 x.s.r.a u, f := logF 0 (band .u8 x.s.r.a u) } }) 0 rfl rfl rfl rfl rfl rfl (Nat.le_of_ble_eq_true rfl) rfl) rfl ?_
      refine ZBE ?_
      refine ZAV ?_
      refine ZBN ?_
      refine ZBL ?_
      have e9 : sumR x.s.r k u = { x.s.r with a := band .u8 x.s.r.a u, f := logF 0 (band .u8 x.s.r.a u) } := by
       obtain rfl : k = 4 := by omega
       rfl
      exact EN (List.Sublist.refl _) ⟨rfl, G, y_cA, hG⟩
     ·refine ZAS ?_
      refine KC (fun q3 q3n => ?_) (fun q3 q3n => ?_)
      ·refine ZAP ?_
       iterate 4 refine Rl ?_
       refine RLv call_235 (fun w hw => xor_fn x.s.r.a u h.r.a hu w) ?_
       refine L_7 ?_
       refine RZ (x_storeTo (l' := cN K { x.s with r := { x.s.r with a := bxor .u8 x.s.r.a u } }) 0 rfl rfl rfl rfl rfl rfl (Nat.le_of_ble_eq_true rfl) rfl) rfl ?_
       refine c_u ?_
       refine L_4 ?_
       refine RZ (x_storeTo (l' := cN K { x.s with r := { x.s.r with a := bxor .u8 x.s.r.a u, f := logF 2 (bxor .u8 x.s.r.a u) } }) 0 rfl rfl rfl rfl rfl rfl (Nat.le_of_ble_eq_true rfl) rfl) rfl ?_
       refine ZBE ?_
       refine ZAV ?_
       refine ZBN ?_
       refine ZBL ?_
       have e9 : sumR x.s.r k u = { x.s.r with a := bxor .u8 x.s.r.a u, f := logF 2 (bxor .u8 x.s.r.a u) } := by
        obtain rfl : k = 5 := by omega
        rfl
       exact EN (List.Sublist.refl _) ⟨rfl, G, y_cA, hG⟩
      ·refine ZAS ?_
       refine KC (fun q4 q4n => ?_) (fun q4 q4n => ?_)
       ·refine ZAP ?_
        iterate 4 refine Rl ?_
        refine RLv call_236 (fun w hw => or_fn x.s.r.a u h.r.a hu w) ?_
        refine L_7 ?_
        refine RZ (x_storeTo (l' := cN K { x.s with r := { x.s.r with a := bor .u8 x.s.r.a u } }) 0 rfl rfl rfl rfl rfl rfl (Nat.le_of_ble_eq_true rfl) rfl) rfl ?_
        refine c_u ?_
        refine L_4 ?_
        refine RZ (x_storeTo (l' := cN K { x.s with r := { x.s.r with a := bor .u8 x.s.r.a u, f := logF 1 (bor .u8 x.s.r.a u) } }) 0 rfl rfl rfl rfl rfl rfl (Nat.le_of_ble_eq_true rfl) rfl) rfl ?_
        refine ZBE ?_
        refine ZAV ?_
        refine ZBN ?_
        refine ZBL ?_
        have e9 : sumR x.s.r k u = { x.s.r with a := bor .u8 x.s.r.a u, f := logF 1 (bor .u8 x.s.r.a u) } := by
         obtain rfl : k = 6 := by omega
         rfl
        exact EN (List.Sublist.refl _) ⟨rfl, G, y_cA, hG⟩
       ·refine ZAx ?_
        refine ZAV ?_
        refine ZBN ?_
        refine ZBL ?_
        exact EN (List.Sublist.refl _) ⟨rfl, G, by rw [show sumR x.s.r k u = x.s.r by unfold sumR; repeat rw [if_neg o_m]]; rfl, hG⟩
theorem rchange_fn {β : Type} (K : BusK Tryz.prog β) (rb : Nat) {bn : Nat} (x : Rn β) (h : RunOk K.toBusO (bn + 2) x) (G : Heap) (hG : K.rep x.m G) (n : Int) (ff : Nat) (V1 V2 : List Value) (hcf : callable Tryz.prog ff = true) (gg : Int → Int → Int × Int) (hgb : ∀ a f, 0 ≤ a ∧ a < 256 → 0 ≤ f ∧ f < 256 → (0 ≤ (gg a f).1 ∧ (gg a f).1 < 256) ∧ (0 ≤ (gg a f).2 ∧ (gg a f).2 < 256)) (w : World) (hst : St w (rb :: G.map (·.1)) ((rb, blk (cN K x.s) 211) :: G) w) (hfun : ∀ (w' : World) (H' : Heap) (a f : Int), St w (rb :: G.map (·.1)) H' w' → 0 ≤ a ∧ a < 256 → 0 ≤ f ∧ f < 256 → Does Tryz.prog ff (V1 ++ [.int .u8 a, .int .u8 f] ++ V2) w' [] (fun v H => H = [] ∧ v = .tuple #[.int .u8 (gg a f).1, .int .u8 (gg a f).2])) : Does Tryz.prog 199 [.pointer (some ⟨rb, 0, none⟩), .int .i64 n, .func (.func ff) V1.toArray V2.toArray] w (rb :: G.map (·.1)) (fun v H => v = .tuple #[] ∧ RunH K rb (change K.toBusA n gg x) H) := by
 have hq9 := h.gett n
 have hb9 := hgb _ _ hq9.2 h.r.f
 refine does_of Tryz.func199 rfl rfl rfl hst ?_
 refine ZA0 ?_
 refine c_draw [(rb, blk (cN K x.s) 211)] [3] (.step true 0 (.step true 1 (.step true 2 (.step true 4 (.step true 5 (.step true 6 (.step true 7 (.step true 8 (.step true 9 (.step false 3 (.step false 10 (.step true 11 (.step true 12 (.step true 13 (.step true 14 (.step true 15 .done)))))))))))))))) rfl y_g y_g (fun x hx => y_5) ?_
 refine D_9 ?_
 refine DX rfl (x_callA call_197 rfl (fun w hw => rget_fn K rb x h G hG n w (St.lentA hw))) rfl (by rintro _ _ _ ⟨rfl, _, rfl, _⟩ x hx; obtain rfl := List.mem_singleton.1 hx; exact .head _) ?_
 rintro _ _ ⟨rfl, G0, rfl, hG0⟩
 refine DZ rfl (x_valV (A := V1) (B := V2) rfl hcf rfl (fun w hw => hfun w _ _ _ hw hq9.2 h.r.f)) rfl n_h ?_
 refine ZCX ?_
 iterate 4 refine RD ?_
 refine ZEb ?_
 refine ZAA ?_
 refine ZBQ ?_
 refine RX (x_callA call_196 rfl (fun w hw => rset_fn K rb (x.mem (gett K.toBusA n x).2.m) (h.gmem n) G0 hG0 n (gg (gett K.toBusA n x).1 x.s.r.f).1 hb9.1 w (St.lentA hw))) rfl ?_
 rintro _ _ ⟨rfl, G1, rfl, hG1⟩
 refine ZAb ?_
 refine ZAP ?_
 refine L_6 ?_
 refine RZ (x_storeTo (l' := cN K { (sett K.toBusA n (gg (gett K.toBusA n x).1 x.s.r.f).1 (x.mem (gett K.toBusA n x).2.m)).s with r := { (sett K.toBusA n (gg (gett K.toBusA n x).1 x.s.r.f).1 (x.mem (gett K.toBusA n x).2.m)).s.r with f := (gg (gett K.toBusA n x).1 x.s.r.f).2 } }) 0 rfl rfl rfl rfl rfl rfl (Nat.le_of_ble_eq_true rfl) rfl) rfl ?_
 refine ZBE ?_
 have e9 : change K.toBusA n gg x = (sett K.toBusA n (gg (gett K.toBusA n x).1 x.s.r.f).1 (x.mem (gett K.toBusA n x).2.m)).reg { (sett K.toBusA n (gg (gett K.toBusA n x).1 x.s.r.f).1 (x.mem (gett K.toBusA n x).2.m)).s.r with f := (gg (gett K.toBusA n x).1 x.s.r.f).2 } := by unfold change; dsimp only; rw [gett_mem]; rfl
 exact EN (List.Sublist.refl _) ⟨rfl, G1, y_cA, y_8⟩
theorem rplace_fn {β : Type} (K : BusK Tryz.prog β) (rb : Nat) {bn : Nat} (x : Rn β) (h : RunOk K.toBusO bn x) (G : Heap) (hG : K.rep x.m G) (n : Int) (w : World) (hst : St w (rb :: G.map (·.1)) ((rb, blk (cN K x.s) 211) :: G) w) : Does Tryz.prog 211 [.pointer (some ⟨rb, 0, none⟩), .int .i64 n] w (rb :: G.map (·.1)) (fun v H => v = .int .u16 (far n x).1 ∧ RunH K rb ((far n x).2) H) := by
 refine does_of Tryz.func211 rfl rfl rfl hst ?_
 refine ZAa ?_
 refine ZAz ?_
 refine KC (fun q0 q0n => ?_) (fun q0 q0n => ?_)
 ·refine ZAU ?_
  refine RLv call_207 (fun w hw => rpair_fn K rb x.s h.r w (row_own m_m w hw) n) ?_
  refine ZAI ?_
  have e9 : far n x = (pairR x.s.r n, x) := if_pos o_m
  exact EV rfl (List.Sublist.refl _) ⟨y_eJ, G, y_eJ, y_d7⟩
 ·refine ZAx ?_
  refine ZAV ?_
  refine RLv call_207 (fun w hw => rpair_fn K rb x.s h.r w (row_own m_m w hw) 2) ?_
  refine ZAB ?_
  refine ZAz ?_
  refine KC (fun q1 q1n => ?_) (fun q1 q1n => ?_)
  ·refine ZAo ?_
   refine RW (v := (.int .u16 (inc16 (pairR x.s.r 2)))) (l_add rfl rfl) rfl (congrArg _ (wrap_u16 _)) ?_
   refine RX (x_callA call_206 rfl (fun w hw => rsetPair_fn K rb x h G hG 2 (inc16 (pairR x.s.r 2)) inc16_ok w (St.lentA hw))) rfl ?_
   rintro _ _ ⟨rfl, G0, rfl, hG0⟩
   refine ZAb ?_
   refine ZBr ?_
   have e9 : far n x = (pairR x.s.r 2, x.reg (setPR x.s.r 2 (inc16 (pairR x.s.r 2)))) := by unfold far; rw [if_neg o_m, if_pos o_m]
   exact EV rfl (List.Sublist.refl _) ⟨y_eJ, G0, y_eJ, y_2⟩
  ·refine ZAo ?_
   refine RW (v := (.int .u16 (dec16 (pairR x.s.r 2)))) (l_sub rfl rfl) rfl (congrArg _ (wrap_u16 _)) ?_
   refine RX (x_callA call_206 rfl (fun w hw => rsetPair_fn K rb x h G hG 2 (dec16 (pairR x.s.r 2)) dec16_ok w (St.lentA hw))) rfl ?_
   rintro _ _ ⟨rfl, G0, rfl, hG0⟩
   refine ZAb ?_
   refine ZBr ?_
   have e9 : far n x = (pairR x.s.r 2, x.reg (setPR x.s.r 2 (dec16 (pairR x.s.r 2)))) := by unfold far; rw [if_neg o_m, if_neg o_m]
   exact EV rfl (List.Sublist.refl _) ⟨y_eJ, G0, y_eJ, y_2⟩
end Go.Proofs.YtldehodcfajpjaaGreat
