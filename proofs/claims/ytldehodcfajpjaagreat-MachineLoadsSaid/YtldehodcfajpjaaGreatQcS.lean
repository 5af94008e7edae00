/- The contracts of sums, and the like. -/
import Derived.Test.YtldehodcfajpjaaGreatQcR
set_option linter.unusedSimpArgs false
set_option linter.unusedVariables false
set_option maxRecDepth 100000
namespace Go.Proofs.YtldehodcfajpjaaGreat
open Go Go.VV Go.Proofs Go.RowKit
theorem note_fn (A : Ad) (m : Mm) (hl : MLn m) (hm9 : m.acc.length + 1 ≤ 1000000) (va : Value) (Ga R : Heap) (hV : Vec 101 3 va m.acc.length (flat cAc m.acc) Ga) (k a x : Int) (w : World) (hst : St w ((Ga ++ (A.mb, blk (cMm A va m) 137) :: R).map (·.1)) (Ga ++ (A.mb, blk (cMm A va m) 137) :: R) w) : Does Tryz.prog 339 [.agg #[.pointer (some ⟨A.mb, 0, none⟩)], .int .i64 k, .int .u16 a, .int .u8 x] w ((Ga ++ (A.mb, blk (cMm A va m) 137) :: R).map (·.1)) (fun v H => v = .int .u8 x ∧ ∃ va' Ga', Vec 101 3 va' (m.acc.length + 1) (flat cAc (m.acc ++ [⟨k, a, x⟩])) Ga' ∧ H = Ga' ++ (A.mb, blk (cMm A va' m) 137) :: R) := by
 obtain ⟨a9, c0, rfl⟩ := hV.slice
 refine does_of Tryz.func339 rfl rfl rfl hst ?_
 refine ZAA ?_
 refine ZBc fun b0 => ?_
 refine ZEm ?_
 refine c_draw [(b0, blk [.pointer (some ⟨A.mb, 0, none⟩)] 153), (A.mb, blk (cMm A (.slice a9 m.acc.length c0) m) 137)] [2, 3, 4, 5, 6, 7, 8, 9, 10, 11, 12] (.step true 0 (.step true 1 (.step true 2 (.step true 3 (.step true 4 (.step true 5 (.step true 6 (.step true 7 (.step true 8 (.step true 9 (.step true 10 (.step false 11 (.step false 12 (.step true 13 (.step true 14 (.step false 15 .done)))))))))))))))) rfl y_g y_g (fun x hx => y_n) ?_
 refine D_6 ?_
 refine DL rfl rfl rfl (s_own (v := .slice a9 m.acc.length c0) m_m (get_acc hl)) rfl ?_
 iterate 3 refine RD ?_
 refine ZEL ?_
 refine DX rfl (x_slc (z := [.int .i64 0, .int .u16 0, .int .u8 0]) (l := cAc ⟨k, a, x⟩) (ps := [(0, .agg (cAc ⟨k, a, x⟩).toArray)]) rfl rfl rfl rfl rfl rfl) rfl y_eC ?_
 rintro _ _ ⟨b1, rfl, rfl⟩
 refine DX rfl (x_append (A := [(b1, _), (b0, _)]) (G := Ga) (R := (A.mb, _) :: R) (v := .slice a9 m.acc.length c0) (n := m.acc.length) (xs := flat cAc m.acc) (m := 1) (T := 101) (s := 3) (by_ := 16) (ys := cAc ⟨k, a, x⟩) rfl rfl rfl rfl hV (fun w hw => .row _ _ _ _ _ rfl (row_own (b := b1) (.head _) w hw)) rfl o_m o_m) rfl (by intro _ _ _ hK; obtain ⟨G9, hV9, _, rfl⟩ := hK; exact (fun x hx => y_n)) ?_
 rintro v0 _ ⟨G0, hV0, _, rfl⟩
 obtain ⟨b2, cp9, sp0, rfl, rfl, hc0, hle9, hm9⟩ := hV0.full o_m
 refine c_u ?_
 refine D_2 ?_
 refine DZ rfl (x_storeTo (l' := cMm A (.slice (some ⟨b2, 0, none⟩) (m.acc.length + 1) cp9) m) 3 rfl rfl rfl rfl rfl rfl (by rw [cMm_len hl]; exact Nat.le_of_ble_eq_true rfl) (putM_acc hl _)) rfl n_h ?_
 refine c_u ?_
 refine ZEb ?_
 refine ZBr ?_
 exact EV rfl (.cons_cons _ (.cons _ (.cons _ (List.Sublist.refl _)))) ⟨rfl, _, _, hV0.as rfl (flat_snoc _ _).symm, rfl⟩
theorem seen_fn (A : Ad) (acc : Value) (m : Mm) (h : m.Wf) (a : Int) (ha : 0 ≤ a ∧ a < 65536) (w : World) (hst : St w [A.mb, A.ub] [(A.mb, blk (cMm A acc m) 137), (A.ub, blk (cU m.u) 178)] w) (hr : Row w A.rb 0 (m.ram.map (.int .u8))) (ho : Row w A.ob 0 (m.rom.map (.int .u8))) (hd : A.rb ∉ [A.mb, A.ub] ∧ A.ob ∉ [A.mb, A.ub]) : Does Tryz.prog 340 [.agg #[.pointer (some ⟨A.mb, 0, none⟩)], .int .u16 a] w [A.mb, A.ub] (fun v H => v = .int .u8 (seenM a (cycleM m)) ∧ H = [(A.mb, blk (cMm A acc (cycleM m)) 137), (A.ub, blk (cU (cycleM m).u) 178)]) := by
 have hc := h.cycle
 have hr2 : Row w A.rb 0 ((cycleM m).ram.map (.int .u8)) := by rw [cycleM_ram]; exact hr
 have ho2 : Row w A.ob 0 ((cycleM m).rom.map (.int .u8)) := by rw [cycleM_rom]; exact ho
 refine does_of Tryz.func340 rfl rfl rfl hst ?_
 refine ZAA ?_
 refine ZBc fun b0 => ?_
 refine ZEC ?_
 refine RX (x_callMA (F := [(b0, blk [.pointer (some ⟨A.mb, 0, none⟩)] 153)]) (A := [(A.mb, blk (cMm A acc m) 137), (A.ub, blk (cU m.u) 178)]) (G := []) (R := fun v H => v = .tuple #[] ∧ H = [(A.mb, blk (cMm A acc (cycleM m)) 137), (A.ub, blk (cU (cycleM m).u) 178)]) call_301 rfl (fun w hw hw2 => cycle_fn A acc m h w hw (row_old hr hd.1 w hw2) (row_old ho hd.2 w hw2) hd)) rfl ?_
 refine ZAX ?_
 refine ZAb ?_
 refine ZAQ ?_
 refine ZDU ?_
 refine RZ (x_loadA rfl rfl rfl (fun w hw => rowM_cp (m := (cycleM m)) (acc := acc) (row_own (b := A.mb) m_m w hw))) rfl ?_
 refine Rl ?_
 refine RLv call_348 (fun w hw => letsCp_fn (cycleM m).cp hc.cp a w) ?_
 refine ZAE ?_
 refine KC (fun q0 q0n => ?_) (fun q0 q0n => ?_)
 ·refine ZAY ?_
  exact EV rfl (.cons _ (List.Sublist.refl _)) ⟨congrArg (Value.int .u8) (by unfold seenM; rw [if_pos (by simpa using q0)]), rfl⟩
 ·refine ZAV ?_
  refine RLv call_63 (fun w hw => pictured_fn a ha w) ?_
  refine ZAB ?_
  refine KC (fun q1 q1n => ?_) (fun q1 q1n => ?_)
  ·refine ZBl ?_
   refine RZ (x_load rfl rfl (at_own (v := .pointer (some ⟨A.ub, 0, none⟩)) m_m (get_mid (m := (cycleM m)) hc.ln (j := 14) rfl))) rfl ?_
   refine Rl ?_
   refine RLv call_302 (fun w hw => read_fn A.ub (cycleM m).u hc.u.wf w (row_own (b := A.ub) m_m w hw) a ha) ?_
   refine ZAI ?_
   exact EV rfl (.cons _ (List.Sublist.refl _)) ⟨congrArg (Value.int .u8) (by unfold seenM; rw [if_neg y_c7, if_pos q1]), rfl⟩
  ·refine ZAx ?_
   refine ZA6 ?_
   refine RLv call_25 (fun w hw => peekM_fn A acc (cycleM m) hc w (row_own (b := A.mb) m_m w hw) (row_own (b := A.ub) m_m w hw) (row_old hr2 hd.1 w hw) (row_old ho2 hd.2 w hw) a ha) ?_
   refine ZAI ?_
   exact EV rfl (.cons _ (List.Sublist.refl _)) ⟨congrArg (Value.int .u8) (by unfold seenM; rw [if_neg y_c7, if_neg y_bU]), rfl⟩
theorem busFetch_fn {n : Nat} (A : Ad) (hd : A.rb ∉ [A.mb, A.ub] ∧ A.ob ∉ [A.mb, A.ub]) (m : Mm) (hm : MmOk (n + 1) m) (H : Heap) (hr : BusH A m H) (a : Int) (ha : 0 ≤ a ∧ a < 65536) (w : World) (hst : St w (H.map (·.1)) H w) : Does Tryz.prog 334 [.agg #[.pointer (some ⟨A.mb, 0, none⟩)], .int .u16 a] w (H.map (·.1)) (fun v H' => v = .int .u8 (busM.fetch a m).1 ∧ BusH A (busM.fetch a m).2 H') := by
 obtain ⟨va, Ga, hV, rfl⟩ := hr
 have h := hm.wf
 have hroom := hm.room
 have hc := h.cycle
 refine ZBy fun hVc hrc => ?_
 refine does_of Tryz.func334 rfl rfl rfl hst ?_
 refine ZAA ?_
 refine ZBc fun b0 => ?_
 refine ZEm ?_
 refine ZDO ?_
 refine RD ?_
 refine d_loadA rfl rfl rfl rfl y_bH rfl rfl ?_
 refine ZBi ?_
 refine ZAX ?_
 refine DX rfl (x_callT (F := [(b0, _)]) (A := Ga ++ (A.mb, blk (cMm A va (cycleM m)) 137) :: [(A.ub, blk (cU (cycleM m).u) 178), (A.rb, blk (List.map (Value.int .u8) m.ram ++ A.rs) 5), (A.ob, blk (List.map (Value.int .u8) m.rom ++ A.sp) 5)]) (R := fun v H => v = .int .u8 (seenM a (cycleM m)) ∧ ∃ va' Ga', Vec 101 3 va' ((cycleM m).acc.length + 1) (flat cAc ((cycleM m).acc ++ [⟨3, a, (seenM a (cycleM m))⟩])) Ga' ∧ H = Ga' ++ (A.mb, blk (cMm A va' (cycleM m)) 137) :: [(A.ub, blk (cU (cycleM m).u) 178), (A.rb, blk (List.map (Value.int .u8) m.ram ++ A.rs) 5), (A.ob, blk (List.map (Value.int .u8) m.rom ++ A.sp) 5)]) call_339 rfl (fun w hw => note_fn A (cycleM m) hc.ln hrc va Ga _ hVc 3 a (seenM a (cycleM m)) w (St.lentV hw))) rfl y_et ?_
 rintro _ _ ⟨_, ⟨rfl, va', Ga', hV', rfl⟩, rfl⟩
 refine RD ?_
 refine ZBe ?_
 exact EV rfl (.cons _ (List.Sublist.refl _)) ⟨rfl, va', Ga', hV'.as y_b2 rfl, y_4⟩
theorem busRead_fn {n : Nat} (A : Ad) (hd : A.rb ∉ [A.mb, A.ub] ∧ A.ob ∉ [A.mb, A.ub]) (m : Mm) (hm : MmOk (n + 1) m) (H : Heap) (hr : BusH A m H) (a : Int) (ha : 0 ≤ a ∧ a < 65536) (w : World) (hst : St w (H.map (·.1)) H w) : Does Tryz.prog 337 [.agg #[.pointer (some ⟨A.mb, 0, none⟩)], .int .u16 a] w (H.map (·.1)) (fun v H' => v = .int .u8 (busM.read a m).1 ∧ BusH A (busM.read a m).2 H') := by
 obtain ⟨va, Ga, hV, rfl⟩ := hr
 have h := hm.wf
 have hroom := hm.room
 have hc := h.cycle
 refine ZBy fun hVc hrc => ?_
 refine does_of Tryz.func337 rfl rfl rfl hst ?_
 refine ZAA ?_
 refine ZBc fun b0 => ?_
 refine ZEm ?_
 refine ZDO ?_
 refine RD ?_
 refine d_loadA rfl rfl rfl rfl y_bH rfl rfl ?_
 refine ZBi ?_
 refine ZAX ?_
 refine DX rfl (x_callT (F := [(b0, _)]) (A := Ga ++ (A.mb, blk (cMm A va (cycleM m)) 137) :: [(A.ub, blk (cU (cycleM m).u) 178), (A.rb, blk (List.map (Value.int .u8) m.ram ++ A.rs) 5), (A.ob, blk (List.map (Value.int .u8) m.rom ++ A.sp) 5)]) (R := fun v H => v = .int .u8 (seenM a (cycleM m)) ∧ ∃ va' Ga', Vec 101 3 va' ((cycleM m).acc.length + 1) (flat cAc ((cycleM m).acc ++ [⟨1, a, (seenM a (cycleM m))⟩])) Ga' ∧ H = Ga' ++ (A.mb, blk (cMm A va' (cycleM m)) 137) :: [(A.ub, blk (cU (cycleM m).u) 178), (A.rb, blk (List.map (Value.int .u8) m.ram ++ A.rs) 5), (A.ob, blk (List.map (Value.int .u8) m.rom ++ A.sp) 5)]) call_339 rfl (fun w hw => note_fn A (cycleM m) hc.ln hrc va Ga _ hVc 1 a (seenM a (cycleM m)) w (St.lentV hw))) rfl y_et ?_
 rintro _ _ ⟨_, ⟨rfl, va', Ga', hV', rfl⟩, rfl⟩
 refine RD ?_
 refine ZBe ?_
 exact EV rfl (.cons _ (List.Sublist.refl _)) ⟨rfl, va', Ga', hV'.as y_b2 rfl, y_4⟩
theorem busIdle_fn {n : Nat} (A : Ad) (hd : A.rb ∉ [A.mb, A.ub] ∧ A.ob ∉ [A.mb, A.ub]) (m : Mm) (hm : MmOk (n + 1) m) (H : Heap) (hr : BusH A m H) (w : World) (hst : St w (H.map (·.1)) H w) : Does Tryz.prog 335 [.agg #[.pointer (some ⟨A.mb, 0, none⟩)]] w (H.map (·.1)) (fun v H' => v = .tuple #[] ∧ BusH A (busM.idle m) H') := by
 obtain ⟨va, Ga, hV, rfl⟩ := hr
 have h := hm.wf
 have hroom := hm.room
 have hc := h.cycle
 refine ZBy fun hVc hrc => ?_
 refine does_of Tryz.func335 rfl rfl rfl hst ?_
 refine ZAA ?_
 refine ZBc fun b0 => ?_
 refine ZAb ?_
 refine ZBo ?_
 refine ZAX ?_
 refine ZAb ?_
 refine ZAP ?_
 refine RZ (x_loadA rfl rfl rfl y_cr) rfl ?_
 refine RX (x_callT (F := [(b0, _)]) (A := Ga ++ (A.mb, blk (cMm A va (cycleM m)) 137) :: [(A.ub, blk (cU (cycleM m).u) 178), (A.rb, blk (List.map (Value.int .u8) m.ram ++ A.rs) 5), (A.ob, blk (List.map (Value.int .u8) m.rom ++ A.sp) 5)]) (R := fun v H => v = .int .u8 0 ∧ ∃ va' Ga', Vec 101 3 va' ((cycleM m).acc.length + 1) (flat cAc ((cycleM m).acc ++ [⟨0, 0, 0⟩])) Ga' ∧ H = Ga' ++ (A.mb, blk (cMm A va' (cycleM m)) 137) :: [(A.ub, blk (cU (cycleM m).u) 178), (A.rb, blk (List.map (Value.int .u8) m.ram ++ A.rs) 5), (A.ob, blk (List.map (Value.int .u8) m.rom ++ A.sp) 5)]) call_339 rfl (fun w hw => note_fn A (cycleM m) hc.ln hrc va Ga _ hVc 0 0 0 w (St.lentV hw))) rfl ?_
 rintro _ _ ⟨_, ⟨rfl, va', Ga', hV', rfl⟩, rfl⟩
 refine ZAb ?_
 exact EN (.cons _ (List.Sublist.refl _)) ⟨rfl, va', Ga', hV'.as y_b2 rfl, y_4⟩
theorem busPending_fn {n : Nat} (A : Ad) (hd : A.rb ∉ [A.mb, A.ub] ∧ A.ob ∉ [A.mb, A.ub]) (m : Mm) (hm : MmOk n m) (H : Heap) (hr : BusH A m H) (w : World) (hst : St w (H.map (·.1)) H w) : Does Tryz.prog 336 [.agg #[.pointer (some ⟨A.mb, 0, none⟩)]] w (H.map (·.1)) (fun v H' => v = .int .u8 (busM.pend m) ∧ H' = H) := by
 obtain ⟨va, Ga, hV, rfl⟩ := hr
 have h := hm.wf
 refine does_of Tryz.func336 rfl rfl rfl hst ?_
 refine ZAA ?_
 refine ZBc fun b0 => ?_
 refine ZEm ?_
 refine DR [6, 7, 8, 9, 10, 11] (pln [0, 2, 4, 6, 8, 10, 12, 14, 16, 18, 20, 22, 24, 26, 28]) ?_
 refine D_5 ?_
 refine DL rfl rfl rfl (s_own (v := .int .u8 m.flags) m_m (get_mid h.ln (j := 0) rfl)) rfl ?_
 refine D_5 ?_
 refine DL rfl rfl rfl (s_own (v := .int .u8 m.lets) m_m (get_mid h.ln (j := 1) rfl)) rfl ?_
 refine DW (v := (.int .u8 (band .u8 m.flags m.lets))) rfl (l_and rfl rfl) rfl rfl ?_
 refine DW (v := (.int .u8 (busM.pend m))) rfl (l_and rfl rfl) rfl rfl ?_
 refine RD ?_
 refine ZBe ?_
 exact EV rfl (.cons _ (List.Sublist.refl _)) ⟨rfl, rfl⟩
theorem busAck_fn {n : Nat} (A : Ad) (hd : A.rb ∉ [A.mb, A.ub] ∧ A.ob ∉ [A.mb, A.ub]) (m : Mm) (hm : MmOk n m) (H : Heap) (hr : BusH A m H) (k : Int) (hk : 0 ≤ k ∧ k < 5) (w : World) (hst : St w (H.map (·.1)) H w) : Does Tryz.prog 333 [.agg #[.pointer (some ⟨A.mb, 0, none⟩)], .int .i64 k] w (H.map (·.1)) (fun v H' => v = .tuple #[] ∧ BusH A (busM.ack k m) H') := by
 obtain ⟨va, Ga, hV, rfl⟩ := hr
 have h := hm.wf
 refine does_of Tryz.func333 rfl rfl rfl hst ?_
 refine ZA0 ?_
 refine c_heap (fun w hw => hw.perm List.perm_append_comm) ?_
 refine ZCT ?_
 refine ZAP ?_
 refine ZBc fun b0 => ?_
 refine ZAb ?_
 refine DR [6, 7] (pln [0, 2, 4, 6, 8, 10, 12, 14, 16, 18, 20, 22, 25]) ?_
 refine D_5 ?_
 refine DL rfl rfl rfl (s_own (v := .int .u8 m.flags) m_m (get_mid h.ln (j := 0) rfl)) rfl ?_
 refine RD ?_
 refine DW (v := (.int .u8 (shl .u8 1 k))) rfl (shl_pos rfl rfl hk.1) rfl rfl ?_
 refine DW (v := (.int .u8 (resB m.flags k))) rfl (l_andn rfl rfl) rfl (congrArg _ (res_law h.flags o_m)) ?_
 refine D_3 ?_
 refine DZ rfl (x_storeTo (l' := cMm A va { m with flags := resB m.flags k }) 1 rfl rfl rfl rfl rfl rfl y_y (putM_flags h.ln _)) rfl n_h ?_
 refine c_u ?_
 refine ZEb ?_
 exact ends_of (fun _ _ => rets_none) (fun w hw => (hw.sub (.cons _ (List.Sublist.refl _))).perm (List.perm_append_comm (l₁ := [(A.mb, _), (A.ub, _), (A.rb, _), (A.ob, _)]))) ⟨rfl, va, Ga, hV, rfl⟩
set_option maxHeartbeats 1000000 in
theorem busWrite_fn {n : Nat} (A : Ad) (hd : A.rb ∉ [A.mb, A.ub] ∧ A.ob ∉ [A.mb, A.ub]) (m : Mm) (hm : MmOk (n + 1) m) (H : Heap) (hr : BusH A m H) (a x : Int) (ha : 0 ≤ a ∧ a < 65536) (hx : 0 ≤ x ∧ x < 256) (w : World) (hst : St w (H.map (·.1)) H w) : Does Tryz.prog 338 [.agg #[.pointer (some ⟨A.mb, 0, none⟩)], .int .u16 a, .int .u8 x] w (H.map (·.1)) (fun v H' => v = .tuple #[] ∧ BusH A (busM.write a x m) H') := by
 obtain ⟨va, Ga, hV, rfl⟩ := hr
 have h := hm.wf
 have hroom := hm.room
 have hc := h.cycle
 refine ZBy fun hVc hrc => ?_
 refine does_of Tryz.func338 rfl rfl rfl hst ?_
 refine ZAA ?_
 refine ZBc fun b0 => ?_
 refine ZAb ?_
 refine ZBo ?_
 refine ZAX ?_
 refine ZAb ?_
 refine ZCc ?_
 refine c_heap (L' := (b0, blk [.pointer (some ⟨A.mb, 0, none⟩)] 153) :: (Ga ++ [(A.mb, blk (cMm A va (cycleM m)) 137), (A.ub, blk (cU (cycleM m).u) 178), (A.rb, blk (List.map (Value.int .u8) (cycleM m).ram ++ A.rs) 5), (A.ob, blk (List.map (Value.int .u8) (cycleM m).rom ++ A.sp) 5)])) (fun _ h => h.as (by rw [cycleM_ram, cycleM_rom])) ?_
 refine ZCx ?_
 refine RZ (x_loadA rfl rfl rfl (fun w hw => rowM_cp (m := (cycleM m)) (acc := va) (row_own (b := A.mb) m_m w hw))) rfl ?_
 refine Rl ?_
 refine RLv call_348 (fun w hw => letsCp_fn (cycleM m).cp hc.cp a w) ?_
 refine ZAb ?_
 refine KC (fun q0 q0n => ?_) (fun q0 q0n => ?_)
 ·refine ZBj ?_
  refine RX (x_callMA (F := (b0, _) :: Ga) (A := [(A.mb, blk (cMm A va (cycleM m)) 137), (A.ub, blk (cU (cycleM m).u) 178), (A.rb, blk (List.map (Value.int .u8) (cycleM m).ram ++ A.rs) 5)]) (G := [(A.ob, blk (List.map (Value.int .u8) (cycleM m).rom ++ A.sp) 5)]) (R := fun v H => v = .tuple #[] ∧ H = [(A.mb, blk (cMm A va (pokeM a x (cycleM m))) 137), (A.ub, blk (cU (pokeM a x (cycleM m)).u) 178), (A.rb, blk (List.map (Value.int .u8) (pokeM a x (cycleM m)).ram ++ A.rs) 5)]) call_349 rfl (fun w hw _ => poke_fn A va (cycleM m) hc a x ha hx w hw)) rfl ?_
  refine ZAX ?_
  refine ZAb ?_
  refine ZAP ?_
  refine RZ (x_loadA rfl rfl rfl y_cr) rfl ?_
  refine L_2 ?_
  have hVs : Vec 101 3 va (pokeM a x (cycleM m)).acc.length (flat cAc (pokeM a x (cycleM m)).acc) Ga := by rw [pokeM_acc, cycleM_acc]; exact hV
  have hrs : (pokeM a x (cycleM m)).acc.length + 1 ≤ 1000000 := by rw [pokeM_acc, cycleM_acc]; omega
  refine RX (x_callT (F := [(b0, _)]) (A := Ga ++ (A.mb, blk (cMm A va (pokeM a x (cycleM m))) 137) :: [(A.ub, blk (cU (pokeM a x (cycleM m)).u) 178), (A.rb, blk (List.map (Value.int .u8) (pokeM a x (cycleM m)).ram ++ A.rs) 5), (A.ob, blk (List.map (Value.int .u8) (cycleM m).rom ++ A.sp) 5)]) (R := fun v H => v = .int .u8 x ∧ ∃ va' Ga', Vec 101 3 va' ((pokeM a x (cycleM m)).acc.length + 1) (flat cAc ((pokeM a x (cycleM m)).acc ++ [⟨2, a, x⟩])) Ga' ∧ H = Ga' ++ (A.mb, blk (cMm A va' (pokeM a x (cycleM m))) 137) :: [(A.ub, blk (cU (pokeM a x (cycleM m)).u) 178), (A.rb, blk (List.map (Value.int .u8) (pokeM a x (cycleM m)).ram ++ A.rs) 5), (A.ob, blk (List.map (Value.int .u8) (cycleM m).rom ++ A.sp) 5)]) call_339 rfl (fun w hw => note_fn A (pokeM a x (cycleM m)) (hc.poke a hx).ln hrs va Ga _ hVs 2 a x w (St.lentV hw))) rfl ?_
  rintro _ _ ⟨_, ⟨rfl, va', Ga', hV', rfl⟩, rfl⟩
  refine ZAb ?_
  have e9 : (if letsCp (cycleM m).cp a = true then pokeM a x (cycleM m) else (cycleM m)) = (pokeM a x (cycleM m)) := if_pos q0
  exact EN (.cons _ (List.Sublist.refl _)) ⟨rfl, va', Ga', y_bj, by unfold busM; dsimp only; rw [e9]; show _ = _ ++ [_, _, _, (A.ob, blk (List.map (Value.int .u8) (pokeM a x (cycleM m)).rom ++ A.sp) 5)]; rw [pokeM_rom]; rfl⟩
 ·refine ZAx ?_
  refine ZAP ?_
  refine RZ (x_loadA rfl rfl rfl y_cr) rfl ?_
  refine L_2 ?_
  have hVs : Vec 101 3 va (cycleM m).acc.length (flat cAc (cycleM m).acc) Ga := by rw [cycleM_acc]; exact hV
  have hrs : (cycleM m).acc.length + 1 ≤ 1000000 := by rw [cycleM_acc]; omega
  refine RX (x_callT (F := [(b0, _)]) (A := Ga ++ (A.mb, blk (cMm A va (cycleM m)) 137) :: [(A.ub, blk (cU (cycleM m).u) 178), (A.rb, blk (List.map (Value.int .u8) (cycleM m).ram ++ A.rs) 5), (A.ob, blk (List.map (Value.int .u8) (cycleM m).rom ++ A.sp) 5)]) (R := fun v H => v = .int .u8 x ∧ ∃ va' Ga', Vec 101 3 va' ((cycleM m).acc.length + 1) (flat cAc ((cycleM m).acc ++ [⟨2, a, x⟩])) Ga' ∧ H = Ga' ++ (A.mb, blk (cMm A va' (cycleM m)) 137) :: [(A.ub, blk (cU (cycleM m).u) 178), (A.rb, blk (List.map (Value.int .u8) (cycleM m).ram ++ A.rs) 5), (A.ob, blk (List.map (Value.int .u8) (cycleM m).rom ++ A.sp) 5)]) call_339 rfl (fun w hw => note_fn A (cycleM m) hc.ln hrs va Ga _ hVs 2 a x w (St.lentV hw))) rfl ?_
  rintro _ _ ⟨_, ⟨rfl, va', Ga', hV', rfl⟩, rfl⟩
  refine ZAb ?_
  have e9 : (if letsCp (cycleM m).cp a = true then pokeM a x (cycleM m) else (cycleM m)) = (cycleM m) := if_neg (by rw [q0]; decide)
  exact EN (.cons _ (List.Sublist.refl _)) ⟨rfl, va', Ga', y_bj, by unfold busM; dsimp only; rw [e9]; rfl⟩
end Go.Proofs.YtldehodcfajpjaaGreat
namespace Go.Proofs.YtldehodcfajpjaaGreat
open Go Go.VV Go.Proofs
theorem atR_fn (rb : Nat) (n : Int) (w : World) : Does Tryz.prog 258 [.pointer (some ⟨rb, 0, none⟩), .int .i64 n] w [] (fun v H => H = [] ∧ v = atV rb n) := by
 refine does_of Tryz.func258 rfl rfl rfl (St.refl w) ?_
 refine ZCI ?_
 refine DR [] (pln [0, 2, 4, 6, 8, 10, 12, 14, 16, 18, 20, 22, 24, 26, 28, 30, 32, 34, 36, 38, 40, 42, 45, 47]) ?_
 refine D_21 ?_
 refine DY rfl (light_array (l := [.pointer (some ⟨rb, 2, none⟩), .pointer (some ⟨rb, 3, none⟩), .pointer (some ⟨rb, 4, none⟩), .pointer (some ⟨rb, 5, none⟩), .pointer (some ⟨rb, 6, none⟩), .pointer (some ⟨rb, 7, none⟩), .pointer none, .pointer (some ⟨rb, 0, none⟩)]) (z := [.pointer none, .pointer none, .pointer none, .pointer none, .pointer none, .pointer none, .pointer none, .pointer none]) (ps := [(0, .pointer (some ⟨rb, 2, none⟩)), (1, .pointer (some ⟨rb, 3, none⟩)), (2, .pointer (some ⟨rb, 4, none⟩)), (3, .pointer (some ⟨rb, 5, none⟩)), (4, .pointer (some ⟨rb, 6, none⟩)), (5, .pointer (some ⟨rb, 7, none⟩)), (6, .pointer none), (7, .pointer (some ⟨rb, 0, none⟩))]) rfl y_g rfl y_g) rfl ?_
 refine DX rfl (x_alloc rfl) rfl n_h ?_
 refine ZC8 fun b0 => ?_
 refine DZ rfl s_t rfl n_h ?_
 refine ZEb ?_
 refine ZCd ?_
 refine KL (fun q0 q0n => ?_) (fun q0 q0n => ?_)
 ·refine L_3 ?_
  refine ZAj ?_
  refine ZAY ?_
  exact E0 rfl ⟨rfl, (by unfold atV; rw [if_pos o_m])⟩
 ·refine ZAR ?_
  refine KC (fun q1 q1n => ?_) (fun q1 q1n => ?_)
  ·refine ZAY ?_
   exact E0 rfl ⟨rfl, (by unfold atV; rw [if_pos o_m])⟩
  ·refine ZAx ?_
   refine ZA0 ?_
   rcases (show n = 0 ∨ n = 1 ∨ n = 2 ∨ n = 3 ∨ n = 4 ∨ n = 5 ∨ n = 6 ∨ n = 7 by omega) with rfl | rfl | rfl | rfl | rfl | rfl | rfl | rfl
   ·refine ZAZ ?_
    refine RY (idx_array1 0 rfl rfl rfl rfl y_c) rfl ?_
    exact ZBM
   ·refine ZAZ ?_
    refine RY (idx_array1 1 rfl rfl rfl rfl y_c) rfl ?_
    exact ZBM
   ·refine ZAZ ?_
    refine RY (idx_array1 2 rfl rfl rfl rfl y_c) rfl ?_
    exact ZBM
   ·refine ZAZ ?_
    refine RY (idx_array1 3 rfl rfl rfl rfl y_c) rfl ?_
    exact ZBM
   ·refine ZAZ ?_
    refine RY (idx_array1 4 rfl rfl rfl rfl y_c) rfl ?_
    exact ZBM
   ·refine ZAZ ?_
    refine RY (idx_array1 5 rfl rfl rfl rfl y_c) rfl ?_
    exact ZBM
   ·refine ZAZ ?_
    refine RY (idx_array1 6 rfl rfl rfl rfl y_c) rfl ?_
    exact ZBM
   ·refine ZAZ ?_
    refine RY (idx_array1 7 rfl rfl rfl rfl y_c) rfl ?_
    exact ZBM
theorem get_fn (r : CR) (n : Int) (w : World) : Does Tryz.prog 231 [.agg (cR r).toArray, .int .i64 n] w [] (fun v H => H = [] ∧ ∃ k : Int, v = .tuple #[.int .u8 (getR r n), .int .i64 k]) := by
 refine does_of Tryz.func231 rfl rfl rfl (St.refl w) ?_
 refine ZEd ?_
 refine ZC8 fun b0 => ?_
 refine ZAE ?_
 refine ZCc ?_
 rcases reg_cases n with rfl | rfl | rfl | rfl | rfl | rfl | rfl | hno
 ·refine ZAZ ?_
  refine RLv call_258 (fun w hw => atR_fn b0 0 w) ?_
  rw [show atV b0 0 = Value.pointer (some ⟨b0, 2, none⟩) from rfl]
  refine ZAB ?_
  refine ZAS ?_
  refine ZDu ?_
  refine ZDU ?_
  refine ZAb ?_
  exact ZBG
 ·refine ZAZ ?_
  refine RLv call_258 (fun w hw => atR_fn b0 1 w) ?_
  rw [show atV b0 1 = Value.pointer (some ⟨b0, 3, none⟩) from rfl]
  refine ZAB ?_
  refine ZAS ?_
  refine ZDu ?_
  refine ZDU ?_
  refine ZAb ?_
  exact ZBG
 ·refine ZAZ ?_
  refine RLv call_258 (fun w hw => atR_fn b0 2 w) ?_
  rw [show atV b0 2 = Value.pointer (some ⟨b0, 4, none⟩) from rfl]
  refine ZAB ?_
  refine ZAS ?_
  refine ZDu ?_
  refine ZDU ?_
  refine ZAb ?_
  exact ZBG
 ·refine ZAZ ?_
  refine RLv call_258 (fun w hw => atR_fn b0 3 w) ?_
  rw [show atV b0 3 = Value.pointer (some ⟨b0, 5, none⟩) from rfl]
  refine ZAB ?_
  refine ZAS ?_
  refine ZDu ?_
  refine ZDU ?_
  refine ZAb ?_
  exact ZBG
 ·refine ZAZ ?_
  refine RLv call_258 (fun w hw => atR_fn b0 4 w) ?_
  rw [show atV b0 4 = Value.pointer (some ⟨b0, 6, none⟩) from rfl]
  refine ZAB ?_
  refine ZAS ?_
  refine ZDu ?_
  refine ZDU ?_
  refine ZAb ?_
  exact ZBG
 ·refine ZAZ ?_
  refine RLv call_258 (fun w hw => atR_fn b0 5 w) ?_
  rw [show atV b0 5 = Value.pointer (some ⟨b0, 7, none⟩) from rfl]
  refine ZAB ?_
  refine ZAS ?_
  refine ZDu ?_
  refine ZDU ?_
  refine ZAb ?_
  exact ZBG
 ·refine ZAZ ?_
  refine RLv call_258 (fun w hw => atR_fn b0 7 w) ?_
  rw [show atV b0 7 = Value.pointer (some ⟨b0, 0, none⟩) from rfl]
  refine ZAB ?_
  refine ZAS ?_
  refine ZDu ?_
  refine ZDU ?_
  refine ZAb ?_
  exact ZBG
 ·refine ZAZ ?_
  refine RLv call_258 (fun w hw => atR_fn b0 n w) ?_
  rw [atV_no hno]
  refine ZAB ?_
  refine ZAS ?_
  refine ZAK ?_
  refine ZBr ?_
  exact l_end0 (fun _ _ => rets_v2 rfl rfl) ⟨rfl, _, by rw [getR_no hno]⟩
theorem set_fn (r : CR) (n x : Int) (w : World) : Does Tryz.prog 230 [.agg (cR r).toArray, .int .i64 n, .int .u8 x] w [] (fun v H => H = [] ∧ ∃ k : Int, v = .tuple #[.agg (cR (setR r n x)).toArray, .int .i64 k]) := by
 refine does_of Tryz.func230 rfl rfl rfl (St.refl w) ?_
 refine ZEd ?_
 refine ZC8 fun b0 => ?_
 refine ZAq fun b1 => ?_
 refine ZEm ?_
 rcases reg_cases n with rfl | rfl | rfl | rfl | rfl | rfl | rfl | hno
 ·refine ZAZ ?_
  refine RLv call_258 (fun w hw => atR_fn b0 0 w) ?_
  rw [show atV b0 0 = Value.pointer (some ⟨b0, 2, none⟩) from rfl]
  refine ZAB ?_
  refine ZAz ?_
  refine ZAK ?_
  refine ZAA ?_
  refine ZBQ ?_
  refine ZAO ?_
  refine ZBu ?_
  refine ZBR ?_
  exact l_end0 (fun w hw => rets_cell2 rfl rfl rfl (row_own (b := b1) (l := cR (setR r 0 x)) m_m w hw) rfl) ⟨rfl, _, rfl⟩
 ·refine ZAZ ?_
  refine RLv call_258 (fun w hw => atR_fn b0 1 w) ?_
  rw [show atV b0 1 = Value.pointer (some ⟨b0, 3, none⟩) from rfl]
  refine ZAB ?_
  refine ZAz ?_
  refine ZAK ?_
  refine ZAA ?_
  refine ZBQ ?_
  refine ZAO ?_
  refine ZBu ?_
  refine ZBR ?_
  exact l_end0 (fun w hw => rets_cell2 rfl rfl rfl (row_own (b := b1) (l := cR (setR r 1 x)) m_m w hw) rfl) ⟨rfl, _, rfl⟩
 ·refine ZAZ ?_
  refine RLv call_258 (fun w hw => atR_fn b0 2 w) ?_
  rw [show atV b0 2 = Value.pointer (some ⟨b0, 4, none⟩) from rfl]
  refine ZAB ?_
  refine ZAz ?_
  refine ZAK ?_
  refine ZAA ?_
  refine ZBQ ?_
  refine ZAO ?_
  refine ZBu ?_
  refine ZBR ?_
  exact l_end0 (fun w hw => rets_cell2 rfl rfl rfl (row_own (b := b1) (l := cR (setR r 2 x)) m_m w hw) rfl) ⟨rfl, _, rfl⟩
 ·refine ZAZ ?_
  refine RLv call_258 (fun w hw => atR_fn b0 3 w) ?_
  rw [show atV b0 3 = Value.pointer (some ⟨b0, 5, none⟩) from rfl]
  refine ZAB ?_
  refine ZAz ?_
  refine ZAK ?_
  refine ZAA ?_
  refine ZBQ ?_
  refine ZAO ?_
  refine ZBu ?_
  refine ZBR ?_
  exact l_end0 (fun w hw => rets_cell2 rfl rfl rfl (row_own (b := b1) (l := cR (setR r 3 x)) m_m w hw) rfl) ⟨rfl, _, rfl⟩
 ·refine ZAZ ?_
  refine RLv call_258 (fun w hw => atR_fn b0 4 w) ?_
  rw [show atV b0 4 = Value.pointer (some ⟨b0, 6, none⟩) from rfl]
  refine ZAB ?_
  refine ZAz ?_
  refine ZAK ?_
  refine ZAA ?_
  refine ZBQ ?_
  refine ZAO ?_
  refine ZBu ?_
  refine ZBR ?_
  exact l_end0 (fun w hw => rets_cell2 rfl rfl rfl (row_own (b := b1) (l := cR (setR r 4 x)) m_m w hw) rfl) ⟨rfl, _, rfl⟩
 ·refine ZAZ ?_
  refine RLv call_258 (fun w hw => atR_fn b0 5 w) ?_
  rw [show atV b0 5 = Value.pointer (some ⟨b0, 7, none⟩) from rfl]
  refine ZAB ?_
  refine ZAz ?_
  refine ZAK ?_
  refine ZAA ?_
  refine ZBQ ?_
  refine ZAO ?_
  refine ZBu ?_
  refine ZBR ?_
  exact l_end0 (fun w hw => rets_cell2 rfl rfl rfl (row_own (b := b1) (l := cR (setR r 5 x)) m_m w hw) rfl) ⟨rfl, _, rfl⟩
 ·refine ZAZ ?_
  refine RLv call_258 (fun w hw => atR_fn b0 7 w) ?_
  rw [show atV b0 7 = Value.pointer (some ⟨b0, 0, none⟩) from rfl]
  refine ZAB ?_
  refine ZAz ?_
  refine ZAK ?_
  refine ZAA ?_
  refine ZBQ ?_
  refine ZAO ?_
  refine ZBu ?_
  refine ZBR ?_
  exact l_end0 (fun w hw => rets_cell2 rfl rfl rfl (row_own (b := b1) (l := cR (setR r 7 x)) m_m w hw) rfl) ⟨rfl, _, rfl⟩
 ·refine ZAZ ?_
  refine RLv call_258 (fun w hw => atR_fn b0 n w) ?_
  rw [atV_no hno]
  refine ZAB ?_
  refine ZAz ?_
  refine ZDu ?_
  refine ZAA ?_
  refine RS ?_
  refine ZBR ?_
  exact l_end0 (fun w hw => rets_cell2 rfl rfl rfl (row_own (b := b1) m_m w hw) rfl) ⟨rfl, _, by rw [setR_no hno]; rfl⟩
theorem both_fn (rb : Nat) (n : Int) (hn : n = 0 ∨ n = 1 ∨ n = 2 ∨ n = 4) (w : World) : Does Tryz.prog 260 [.pointer (some ⟨rb, 0, none⟩), .int .i64 n] w [] (fun v H => H = [] ∧ v = .tuple #[.pointer (some ⟨rb, hiO n, none⟩), .pointer (some ⟨rb, loO n, none⟩)]) := by
 refine does_of Tryz.func260 rfl rfl rfl (St.refl w) ?_
 refine ZAS ?_
 refine ZCc ?_
 rcases hn with rfl | rfl | rfl | rfl
 ·refine ZCB ?_
  refine ZAK ?_
  refine ZAU ?_
  refine ZCt ?_
  refine RLv call_258 (fun w hw => atR_fn rb (2 * 0) w) ?_
  rw [show atV rb (2 * 0) = Value.pointer (some ⟨rb, 2, none⟩) from rfl]
  refine L_2 ?_
  refine ZCt ?_
  refine ZBd ?_
  refine RLv call_258 (fun w hw => atR_fn rb (2 * 0 + 1) w) ?_
  rw [show atV rb (2 * 0 + 1) = Value.pointer (some ⟨rb, 3, none⟩) from rfl]
  refine ZAs ?_
  exact l_end0 (fun _ _ => rets_v2 rfl rfl) ⟨rfl, rfl⟩
 ·refine ZCB ?_
  refine ZAK ?_
  refine ZAU ?_
  refine ZCt ?_
  refine RLv call_258 (fun w hw => atR_fn rb (2 * 1) w) ?_
  rw [show atV rb (2 * 1) = Value.pointer (some ⟨rb, 4, none⟩) from rfl]
  refine L_2 ?_
  refine ZCt ?_
  refine ZBd ?_
  refine RLv call_258 (fun w hw => atR_fn rb (2 * 1 + 1) w) ?_
  rw [show atV rb (2 * 1 + 1) = Value.pointer (some ⟨rb, 5, none⟩) from rfl]
  refine ZAs ?_
  exact l_end0 (fun _ _ => rets_v2 rfl rfl) ⟨rfl, rfl⟩
 ·refine ZCB ?_
  refine ZAK ?_
  refine ZAU ?_
  refine ZCt ?_
  refine RLv call_258 (fun w hw => atR_fn rb (2 * 2) w) ?_
  rw [show atV rb (2 * 2) = Value.pointer (some ⟨rb, 6, none⟩) from rfl]
  refine L_2 ?_
  refine ZCt ?_
  refine ZBd ?_
  refine RLv call_258 (fun w hw => atR_fn rb (2 * 2 + 1) w) ?_
  rw [show atV rb (2 * 2 + 1) = Value.pointer (some ⟨rb, 7, none⟩) from rfl]
  refine ZAs ?_
  exact l_end0 (fun _ _ => rets_v2 rfl rfl) ⟨rfl, rfl⟩
 ·refine ZCB ?_
  refine ZDu ?_
  refine ZA0 ?_
  refine DR [] (pln [0, 2, 4, 6, 8, 10, 12, 14]) ?_
  refine D_8 ?_
  refine ZBe ?_
  exact l_end0 (fun _ _ => rets_v2 rfl rfl) ⟨rfl, rfl⟩
theorem pair_fn (r : CR) (hr : r.Ok) (n : Int) (w : World) : Does Tryz.prog 241 [.agg (cR r).toArray, .int .i64 n] w [] (fun v H => H = [] ∧ ∃ k : Int, v = .tuple #[.int .u16 (pairR r n), .int .i64 k]) := by
 have k1 := hr.a
 have k2 := hr.f
 have k3 := hr.b
 have k4 := hr.c
 have k5 := hr.d
 have k6 := hr.e
 have k7 := hr.h
 have k8 := hr.l
 have k9 := hr.sp
 refine does_of Tryz.func241 rfl rfl rfl (St.refl w) ?_
 refine ZEd ?_
 refine ZC8 fun b0 => ?_
 refine ZAE ?_
 refine ZAQ ?_
 refine ZAU ?_
 refine KL (fun q0 q0n => ?_) (fun q0 q0n => ?_)
 ·refine L_4 ?_
  refine ZAj ?_
  refine ZBr ?_
  exact l_end0 (fun _ _ => rets_v2 rfl rfl) ⟨rfl, _, (by rw [pairR_no o_m])⟩
 ·refine ZCE ?_
  refine KC (fun q1 q1n => ?_) (fun q1 q1n => ?_)
  ·refine ZBr ?_
   exact l_end0 (fun _ _ => rets_v2 rfl rfl) ⟨rfl, _, (by rw [pairR_no o_m])⟩
  ·refine ZB4 ?_
   refine KC (fun q2 q2n => ?_) (fun q2 q2n => ?_)
   ·refine ZBl ?_
    refine ZAb ?_
    refine c_ret ?_
    obtain rfl : n = 3 := by omega
    exact l_end0 (fun _ _ => rets_v2 rfl rfl) ⟨rfl, _, rfl⟩
   ·refine ZAx ?_
    refine ZAU ?_
    refine RW (v := (.int .u8 (r.f / 16 * 16))) (l_and rfl rfl) rfl (congrArg _ (hi_16 hr.f)) ?_
    refine ZBp ?_
    refine ZA0 ?_
    rcases (show n = 0 ∨ n = 1 ∨ n = 2 ∨ n = 4 by omega) with rfl | rfl | rfl | rfl
    ·refine ZAZ ?_
     refine RLv call_260 (fun w hw => both_fn b0 0 y_c w) ?_
     rw [show hiO 0 = 2 from rfl, show loO 0 = 3 from rfl]
     refine ZBA ?_
     refine ZDk ?_
     refine ZCb ?_
     refine DW rfl (shl_pos rfl rfl y_c) rfl y_dY ?_
     refine ZCb ?_
     refine DW (v := (.int .u16 (r.b * 256 + r.c))) rfl (l_or rfl rfl) rfl (congrArg _ (or_wrd hr.b hr.c)) ?_
     refine ZCz ?_
     exact ZBG
    ·refine ZAZ ?_
     refine RLv call_260 (fun w hw => both_fn b0 1 y_c w) ?_
     rw [show hiO 1 = 4 from rfl, show loO 1 = 5 from rfl]
     refine ZBA ?_
     refine ZDk ?_
     refine ZCb ?_
     refine DW rfl (shl_pos rfl rfl y_c) rfl y_dY ?_
     refine ZCb ?_
     refine DW (v := (.int .u16 (r.d * 256 + r.e))) rfl (l_or rfl rfl) rfl (congrArg _ (or_wrd hr.d hr.e)) ?_
     refine ZCz ?_
     exact ZBG
    ·refine ZAZ ?_
     refine RLv call_260 (fun w hw => both_fn b0 2 y_c w) ?_
     rw [show hiO 2 = 6 from rfl, show loO 2 = 7 from rfl]
     refine ZBA ?_
     refine ZDk ?_
     refine ZCb ?_
     refine DW rfl (shl_pos rfl rfl y_c) rfl y_dY ?_
     refine ZCb ?_
     refine DW (v := (.int .u16 (r.h * 256 + r.l))) rfl (l_or rfl rfl) rfl (congrArg _ (or_wrd hr.h hr.l)) ?_
     refine ZCz ?_
     exact ZBG
    ·refine ZAZ ?_
     refine RLv call_260 (fun w hw => both_fn b0 4 y_c w) ?_
     rw [show hiO 4 = 0 from rfl, show loO 4 = 1 from rfl]
     refine ZBA ?_
     refine ZDk ?_
     refine ZCb ?_
     refine DW rfl (shl_pos rfl rfl y_c) rfl y_dY ?_
     refine ZCb ?_
     refine DW (v := (.int .u16 (r.a * 256 + r.f / 16 * 16))) rfl (l_or rfl rfl) rfl (congrArg _ (or_wrd hr.a o_m)) ?_
     refine ZCz ?_
     exact ZBG
theorem setPair_fn (r : CR) (n x : Int) (hx : 0 ≤ x ∧ x < 65536) (w : World) : Does Tryz.prog 240 [.agg (cR r).toArray, .int .i64 n, .int .u16 x] w [] (fun v H => H = [] ∧ ∃ k : Int, v = .tuple #[.agg (cR (setPR r n x)).toArray, .int .i64 k]) := by
 refine does_of Tryz.func240 rfl rfl rfl (St.refl w) ?_
 refine ZEd ?_
 refine ZC8 fun b0 => ?_
 refine ZAq fun b1 => ?_
 refine ZAB ?_
 refine ZAQ ?_
 refine ZAU ?_
 refine KL (fun q0 q0n => ?_) (fun q0 q0n => ?_)
 ·refine L_4 ?_
  refine ZAj ?_
  refine ZAA ?_
  refine RS ?_
  refine ZBR ?_
  exact l_end0 (fun w hw => rets_cell2 rfl rfl rfl (row_own (b := b1) m_m w hw) rfl) ⟨rfl, _, by rw [setPR_no o_m]; rfl⟩
 ·refine ZCE ?_
  refine KC (fun q1 q1n => ?_) (fun q1 q1n => ?_)
  ·refine ZAA ?_
   refine RS ?_
   refine ZBR ?_
   exact l_end0 (fun w hw => rets_cell2 rfl rfl rfl (row_own (b := b1) m_m w hw) rfl) ⟨rfl, _, by rw [setPR_no o_m]; rfl⟩
  ·refine ZB4 ?_
   refine KC (fun q2 q2n => ?_) (fun q2 q2n => ?_)
   ·refine ZAU ?_
    refine ZAO ?_
    refine ZBu ?_
    refine ZBR ?_
    obtain rfl : n = 3 := by omega
    exact l_end0 (fun w hw => rets_cell2 rfl rfl rfl (row_own (b := b1) (l := cR (setPR r 3 x)) m_m w hw) rfl) ⟨rfl, _, rfl⟩
   ·refine ZB4 ?_
    refine KC (fun q3 q3n => ?_) (fun q3 q3n => ?_)
    ·refine ZAZ ?_
     refine RW (v := (.int .u16 (x / 16 * 16))) (l_andn rfl rfl) rfl (congrArg _ (clr_15 hx)) ?_
     refine ZEm ?_
     obtain rfl : n = 4 := by omega
     ·refine ZAZ ?_
      refine RLv call_260 (fun w hw => both_fn b0 4 y_c w) ?_
      rw [show hiO 4 = 0 from rfl, show loO 4 = 1 from rfl]
      refine ZBA ?_
      refine ZAA ?_
      refine ZBQ ?_
      refine ZBx ?_
      refine Rl ?_
      refine RW (v := (.int .u8 (x % 256 / 16 * 16))) (l_conv rfl rfl rfl) rfl (congrArg _ ((wrap_u8 _).trans o_m)) ?_
      refine Rl ?_
      refine RZ s_t rfl ?_
      refine Rl ?_
      refine ZAO ?_
      refine ZBu ?_
      refine ZBR ?_
      exact l_end0 (fun w hw => rets_cell2 rfl rfl rfl (row_own (b := b1) (l := cR (setPR r 4 x)) m_m w hw) rfl) ⟨rfl, _, rfl⟩
    ·refine ZAx ?_
     refine ZA0 ?_
     rcases (show n = 0 ∨ n = 1 ∨ n = 2 by omega) with rfl | rfl | rfl
     ·refine ZAZ ?_
      refine RLv call_260 (fun w hw => both_fn b0 0 y_c w) ?_
      rw [show hiO 0 = 2 from rfl, show loO 0 = 3 from rfl]
      refine ZBA ?_
      refine ZAA ?_
      refine ZBQ ?_
      refine ZBx ?_
      refine ZEA ?_
      refine Rl ?_
      refine RZ s_t rfl ?_
      refine Rl ?_
      refine ZAO ?_
      refine ZBu ?_
      refine ZBR ?_
      exact l_end0 (fun w hw => rets_cell2 rfl rfl rfl (row_own (b := b1) (l := cR (setPR r 0 x)) m_m w hw) rfl) ⟨rfl, _, rfl⟩
     ·refine ZAZ ?_
      refine RLv call_260 (fun w hw => both_fn b0 1 y_c w) ?_
      rw [show hiO 1 = 4 from rfl, show loO 1 = 5 from rfl]
      refine ZBA ?_
      refine ZAA ?_
      refine ZBQ ?_
      refine ZBx ?_
      refine ZEA ?_
      refine Rl ?_
      refine RZ s_t rfl ?_
      refine Rl ?_
      refine ZAO ?_
      refine ZBu ?_
      refine ZBR ?_
      exact l_end0 (fun w hw => rets_cell2 rfl rfl rfl (row_own (b := b1) (l := cR (setPR r 1 x)) m_m w hw) rfl) ⟨rfl, _, rfl⟩
     ·refine ZAZ ?_
      refine RLv call_260 (fun w hw => both_fn b0 2 y_c w) ?_
      rw [show hiO 2 = 6 from rfl, show loO 2 = 7 from rfl]
      refine ZBA ?_
      refine ZAA ?_
      refine ZBQ ?_
      refine ZBx ?_
      refine ZEA ?_
      refine Rl ?_
      refine RZ s_t rfl ?_
      refine Rl ?_
      refine ZAO ?_
      refine ZBu ?_
      refine ZBR ?_
      exact l_end0 (fun w hw => rets_cell2 rfl rfl rfl (row_own (b := b1) (l := cR (setPR r 2 x)) m_m w hw) rfl) ⟨rfl, _, rfl⟩
theorem is_fn (r : CR) (hr : r.Ok) (n : Int) (w : World) : Does Tryz.prog 212 [.agg (cR r).toArray, .int .i64 n] w [] (fun v H => H = [] ∧ v = .bool (isR r n)) := by
 refine does_of Tryz.func212 rfl rfl rfl (St.refl w) ?_
 refine ZEd ?_
 refine ZC8 fun b0 => ?_
 refine ZAB ?_
 refine ZAG ?_
 refine ZBO ?_
 refine ZAz ?_
 refine KC (fun q0 q0n => ?_) (fun q0 q0n => ?_)
 ·refine ZAx ?_
  refine c_sure true rfl q0 ?_
  refine ZAU ?_
  refine RW (v := (.int .u8 (band .u8 r.f 128))) rfl rfl rfl ?_
  refine RW (v := (.bool (zF r.f))) rfl rfl (congrArg _ (ne_zF hr.f)) ?_
  refine L_2 ?_
  refine RY (light_eqb rfl rfl rfl) rfl ?_
  refine ZAI ?_
  exact E0 rfl ⟨rfl, (congrArg Value.bool (isR_01 o_m r))⟩
 ·refine ZCB ?_
  refine KC (fun q1 q1n => ?_) (fun q1 q1n => ?_)
  ·refine ZAU ?_
   refine RW (v := (.int .u8 (band .u8 r.f 128))) rfl rfl rfl ?_
   refine RW (v := (.bool (zF r.f))) rfl rfl (congrArg _ (ne_zF hr.f)) ?_
   refine L_2 ?_
   refine RY (light_eqb rfl rfl rfl) rfl ?_
   refine ZAI ?_
   exact E0 rfl ⟨rfl, (congrArg Value.bool (isR_01 o_m r))⟩
  ·refine ZAz ?_
   refine KC (fun q2 q2n => ?_) (fun q2 q2n => ?_)
   ·refine ZAx ?_
    refine c_sure true rfl q2 ?_
    refine ZAU ?_
    refine RW (v := (.int .u8 (band .u8 r.f 16))) rfl rfl rfl ?_
    refine RW (v := (.bool (cF r.f))) rfl rfl (congrArg _ (ne_cF hr.f)) ?_
    refine L_2 ?_
    refine RY (light_eqb rfl rfl rfl) rfl ?_
    refine ZAI ?_
    exact E0 rfl ⟨rfl, (congrArg Value.bool (isR_23 o_m r))⟩
   ·refine ZCB ?_
    refine KC (fun q3 q3n => ?_) (fun q3 q3n => ?_)
    ·refine ZAU ?_
     refine RW (v := (.int .u8 (band .u8 r.f 16))) rfl rfl rfl ?_
     refine RW (v := (.bool (cF r.f))) rfl rfl (congrArg _ (ne_cF hr.f)) ?_
     refine L_2 ?_
     refine RY (light_eqb rfl rfl rfl) rfl ?_
     refine ZAI ?_
     exact E0 rfl ⟨rfl, (congrArg Value.bool (isR_23 o_m r))⟩
    ·refine ZAx ?_
     refine ZB4 ?_
     refine c_ret ?_
     exact E0 rfl ⟨rfl, (congrArg Value.bool (isR_4 o_m o_m o_m o_m r))⟩
theorem flagA_fn (x : Int) (b : Bool) (w : World) : Does Tryz.prog 238 [.int .u8 x, .bool b] w [] (fun v H => H = [] ∧ v = .int .u8 (fg x b)) := by
 refine does_of Tryz.func238 rfl rfl rfl (St.refl w) ?_
 refine ZAa ?_
 refine ZAG ?_
 refine ZAB ?_
 refine KC (fun q0 q0n => ?_) (fun q0 q0n => ?_)
 ·refine ZBr ?_
  exact E0 rfl ⟨rfl, (by rw [show b = true from q0]; rfl)⟩
 ·refine ZAx ?_
  refine ZAY ?_
  exact E0 rfl ⟨rfl, (by rw [show b = false from q0]; rfl)⟩
theorem zero_fn (x : Int) (w : World) : Does Tryz.prog 237 [.int .u8 x] w [] (fun v H => H = [] ∧ v = .int .u8 (fg 128 (x == 0))) := by
 refine does_of Tryz.func237 rfl rfl rfl (St.refl w) ?_
 refine ZAa ?_
 refine ZAU ?_
 refine RLv call_238 (fun w hw => flagA_fn 128 _ w) ?_
 exact ZBU
theorem one_fn (b : Bool) (w : World) : Does Tryz.prog 259 [.bool b] w [] (fun v H => H = [] ∧ v = .int .u8 (b2i b)) := by
 refine does_of Tryz.func259 rfl rfl rfl (St.refl w) ?_
 refine ZAa ?_
 refine ZAV ?_
 refine RLv call_238 (fun w hw => flagA_fn 1 _ w) ?_
 exact ZBU
theorem add_fn (a b : Int) (c : Bool) (ha : 0 ≤ a ∧ a < 256) (hb : 0 ≤ b ∧ b < 256) (w : World) : Does Tryz.prog 232 [.int .u8 a, .int .u8 b, .bool c] w [] (fun v H => H = [] ∧ v = .tuple #[.int .u8 (addR a b c), .int .u8 (addF a b c)]) := by
 have hc := b2i_le c
 refine does_of Tryz.func232 rfl rfl rfl (St.refl w) ?_
 refine ZAS ?_
 refine ZAV ?_
 refine RLv call_259 (fun w hw => one_fn c w) ?_
 refine ZEC ?_
 refine ZCs ?_
 refine Rl ?_
 refine ZCs ?_
 refine ZAB ?_
 refine ZBP ?_
 refine Rl ?_
 refine ZCk ?_
 refine Rl ?_
 refine ZCk ?_
 refine ZCs ?_
 refine Rl ?_
 refine ZCs ?_
 refine ZDI ?_
 refine ZBB ?_
 refine ZEu ?_
 refine ZEu ?_
 refine ZBd ?_
 refine ZEu ?_
 refine ZBd ?_
 refine Rl ?_
 refine RLv call_238 (fun w hw => flagA_fn 16 _ w) ?_
 refine ZEn ?_
 have e1 : ((a + b) % 256 + b2i c) % 256 = addR a b c := by unfold addR; omega
 rw [e1, or_zhc]
 exact l_end0 (fun _ _ => rets_two rfl rfl) ⟨rfl, rfl⟩
theorem sub_fn (a b : Int) (c : Bool) (ha : 0 ≤ a ∧ a < 256) (hb : 0 ≤ b ∧ b < 256) (w : World) : Does Tryz.prog 233 [.int .u8 a, .int .u8 b, .bool c] w [] (fun v H => H = [] ∧ v = .tuple #[.int .u8 (subR a b c), .int .u8 (subF a b c)]) := by
 have hc := b2i_le c
 refine does_of Tryz.func233 rfl rfl rfl (St.refl w) ?_
 refine ZAS ?_
 refine ZAV ?_
 refine RLv call_259 (fun w hw => one_fn c w) ?_
 refine ZEC ?_
 refine RW (l_sub rfl rfl) rfl y_o ?_
 refine Rl ?_
 refine RW (l_sub rfl rfl) rfl y_o ?_
 refine ZAB ?_
 refine ZBP ?_
 refine ZBB ?_
 refine Rl ?_
 refine ZCk ?_
 refine Rl ?_
 refine ZCk ?_
 refine Rl ?_
 refine ZCs ?_
 refine ZDI ?_
 refine ZBB ?_
 refine ZEu ?_
 refine ZEu ?_
 refine ZEu ?_
 refine ZBd ?_
 refine Rl ?_
 refine RLv call_238 (fun w hw => flagA_fn 16 _ w) ?_
 refine ZEn ?_
 have e1 : ((a - b) % 256 - b2i c) % 256 = subR a b c := by unfold subR; omega
 rw [e1, or_znhc]
 exact l_end0 (fun _ _ => rets_two rfl rfl) ⟨rfl, rfl⟩
theorem and_fn (a b : Int) (ha : 0 ≤ a ∧ a < 256) (hb : 0 ≤ b ∧ b < 256) (w : World) : Does Tryz.prog 234 [.int .u8 a, .int .u8 b] w [] (fun v H => H = [] ∧ v = .tuple #[.int .u8 (band .u8 a b), .int .u8 (logF 0 (band .u8 a b))]) := by
 refine does_of Tryz.func234 rfl rfl rfl (St.refl w) ?_
 refine ZAS ?_
 refine ZAU ?_
 refine RW (l_and rfl rfl) rfl rfl ?_
 refine L_2 ?_
 refine RW (l_and rfl rfl) rfl rfl ?_
 refine RLv call_237 (fun w hw => zero_fn _ w) ?_
 refine ZEn ?_
 rw [or_zh]
 exact l_end0 (fun _ _ => rets_two rfl rfl) ⟨rfl, rfl⟩
theorem or_fn (a b : Int) (ha : 0 ≤ a ∧ a < 256) (hb : 0 ≤ b ∧ b < 256) (w : World) : Does Tryz.prog 236 [.int .u8 a, .int .u8 b] w [] (fun v H => H = [] ∧ v = .tuple #[.int .u8 (bor .u8 a b), .int .u8 (logF 1 (bor .u8 a b))]) := by
 refine does_of Tryz.func236 rfl rfl rfl (St.refl w) ?_
 refine ZAS ?_
 refine ZAU ?_
 refine ZBB ?_
 refine L_2 ?_
 refine ZBB ?_
 refine RLv call_237 (fun w hw => zero_fn _ w) ?_
 refine ZAs ?_
 rw [or_z]
 exact l_end0 (fun _ _ => rets_two rfl rfl) ⟨rfl, rfl⟩
theorem xor_fn (a b : Int) (ha : 0 ≤ a ∧ a < 256) (hb : 0 ≤ b ∧ b < 256) (w : World) : Does Tryz.prog 235 [.int .u8 a, .int .u8 b] w [] (fun v H => H = [] ∧ v = .tuple #[.int .u8 (bxor .u8 a b), .int .u8 (logF 2 (bxor .u8 a b))]) := by
 refine does_of Tryz.func235 rfl rfl rfl (St.refl w) ?_
 refine ZAS ?_
 refine ZAU ?_
 refine RW (l_xor rfl rfl) rfl rfl ?_
 refine L_2 ?_
 refine RW (l_xor rfl rfl) rfl rfl ?_
 refine RLv call_237 (fun w hw => zero_fn _ w) ?_
 refine ZAs ?_
 rw [or_z]
 exact l_end0 (fun _ _ => rets_two rfl rfl) ⟨rfl, rfl⟩
theorem inc_fn (a f : Int) (ha : 0 ≤ a ∧ a < 256) (hf : 0 ≤ f ∧ f < 256) (w : World) : Does Tryz.prog 200 [.int .u8 a, .int .u8 f] w [] (fun v H => H = [] ∧ v = .tuple #[.int .u8 (incR a), .int .u8 (incF a f)]) := by
 refine does_of Tryz.func200 rfl rfl rfl (St.refl w) ?_
 refine ZAS ?_
 refine ZAV ?_
 refine ZCs ?_
 refine ZAB ?_
 refine ZBP ?_
 refine Rl ?_
 refine ZCk ?_
 refine ZDI ?_
 refine ZBB ?_
 refine Rl ?_
 refine RW (l_and rfl rfl) rfl y_ec ?_
 refine ZEn ?_
 rw [cF_fg, or_zhc]
 exact l_end0 (fun _ _ => rets_two rfl rfl) ⟨rfl, rfl⟩
theorem decA_fn (a f : Int) (ha : 0 ≤ a ∧ a < 256) (hf : 0 ≤ f ∧ f < 256) (w : World) : Does Tryz.prog 201 [.int .u8 a, .int .u8 f] w [] (fun v H => H = [] ∧ v = .tuple #[.int .u8 (decR a), .int .u8 (decF a f)]) := by
 refine does_of Tryz.func201 rfl rfl rfl (St.refl w) ?_
 refine ZAS ?_
 refine ZAV ?_
 refine RW (l_sub rfl rfl) rfl y_o ?_
 refine ZAB ?_
 refine ZBP ?_
 refine ZBB ?_
 refine Rl ?_
 refine ZCk ?_
 refine ZDI ?_
 refine ZBB ?_
 refine Rl ?_
 refine RW (l_and rfl rfl) rfl y_ec ?_
 refine ZEn ?_
 rw [cF_fg, or_znhc]
 exact l_end0 (fun _ _ => rets_two rfl rfl) ⟨rfl, rfl⟩
theorem add16_fn (a b f : Int) (ha : 0 ≤ a ∧ a < 65536) (hb : 0 ≤ b ∧ b < 65536) (hf : 0 ≤ f ∧ f < 256) (w : World) : Does Tryz.prog 208 [.int .u16 a, .int .u16 b, .int .u8 f] w [] (fun v H => H = [] ∧ v = .tuple #[.int .u16 (add16R a b), .int .u8 (add16F a b f)]) := by
 refine does_of Tryz.func208 rfl rfl rfl (St.refl w) ?_
 refine ZAS ?_
 refine ZAU ?_
 refine RW (l_add rfl rfl) rfl y_r ?_
 refine Rl ?_
 refine RW (l_and rfl rfl) rfl y_dV ?_
 refine Rl ?_
 refine RW (l_and rfl rfl) rfl y_eo ?_
 refine Rl ?_
 refine RW (l_and rfl rfl) rfl y_eo ?_
 refine RW (l_add rfl rfl) rfl y_r ?_
 refine ZDI ?_
 refine ZBB ?_
 refine ZEu ?_
 refine ZEu ?_
 refine ZBd ?_
 refine Rl ?_
 refine RLv call_238 (fun w hw => flagA_fn 16 _ w) ?_
 refine ZEn ?_
 rw [zF_fg hf, or_Zhc]
 exact l_end0 (fun _ _ => rets_two rfl rfl) ⟨rfl, rfl⟩
theorem shift_fn (a e : Int) (ha : 0 ≤ a ∧ a < 65536) (he : 0 ≤ e ∧ e < 256) (w : World) : Does Tryz.prog 209 [.int .u16 a, .int .u8 e] w [] (fun v H => H = [] ∧ v = .tuple #[.int .u16 (shR a e), .int .u8 (shF a e)]) := by
 refine does_of Tryz.func209 rfl rfl rfl (St.refl w) ?_
 refine ZAS ?_
 refine ZAV ?_
 refine RW (v := (.int .u8 (a % 256))) rfl rfl (congrArg _ (wrap_u8 _)) ?_
 refine ZEC ?_
 refine RW (v := (.int .i8 (s8 e))) (l_conv rfl rfl rfl) rfl (congrArg _ (s8_wrap he)) ?_
 refine RW (v := (.int .u16 (s8 e % 65536))) (l_conv rfl rfl rfl) rfl (congrArg _ (wrap_u16 _)) ?_
 refine RW (l_add rfl rfl) rfl y_r ?_
 refine Rl ?_
 refine ZCk ?_
 refine Rl ?_
 refine ZCk ?_
 refine ZCs ?_
 refine ZDI ?_
 refine ZEu ?_
 refine ZEu ?_
 refine ZBd ?_
 refine Rl ?_
 refine RLv call_238 (fun w hw => flagA_fn 16 _ w) ?_
 refine ZEn ?_
 have e1 : (a + s8 e % 65536) % 65536 = shR a e := by unfold shR; omega
 rw [e1, or_hc, show a % 256 % 16 = a % 16 by omega]
 exact l_end0 (fun _ _ => rets_two rfl rfl) ⟨rfl, rfl⟩
theorem bitA_fn (n a f : Int) (ha : 0 ≤ a ∧ a < 256) (hf : 0 ≤ f ∧ f < 256) (w : World) : Does Tryz.prog 204 [.int .i64 n, .int .u8 a, .int .u8 f] w [] (fun v H => H = [] ∧ v = .int .u8 (bitF n a f)) := by
 refine does_of Tryz.func204 rfl rfl rfl (St.refl w) ?_
 refine ZCI ?_
 have hs := shr_byte n ha
 refine ZAo ?_
 refine RW (v := (.int .i64 (n % 8))) (l_and rfl rfl) rfl (congrArg _ (low_8 n)) ?_
 refine RW (v := (.int .u8 (a / 2 ^ (n % 8).toNat))) (shr_pos rfl rfl o_m) rfl (congrArg _ (shr_low o_m)) ?_
 refine RW (l_and rfl rfl) rfl y_dW ?_
 refine RLv call_237 (fun w hw => zero_fn _ w) ?_
 refine ZBB ?_
 refine Rl ?_
 refine RW (l_and rfl rfl) rfl y_ec ?_
 refine ZBB ?_
 refine ZAI ?_
 rw [cF_fg, or_zhC]
 exact E0 rfl ⟨rfl, rfl⟩
theorem rot1_fn (a : Int) (ha : 0 ≤ a ∧ a < 256) (w : World) : Does Tryz.prog 239 [.int .u8 a, .int .i64 1] w [] (fun v H => H = [] ∧ v = .int .u8 (a * 2 % 256 + a / 128)) := by
 refine does_of Tryz.func239 rfl rfl rfl (St.refl w) ?_
 refine ZAa ?_
 refine ZAV ?_
 refine RW (v := (.int .u64 1)) rfl rfl rfl ?_
 refine RW (v := (.int .u64 1)) (l_and rfl rfl) rfl (congrArg _ y_c) ?_
 refine ZEC ?_
 refine RW (v := (.int .u8 (shl .u8 a 1))) (shl_pos rfl rfl y_c) rfl rfl ?_
 refine L_2 ?_
 refine RW (v := (.int .u64 7)) (l_sub rfl rfl) rfl (congrArg _ y_c) ?_
 refine RW (v := (.int .u8 (shr .u8 a 7))) (shr_pos rfl rfl y_c) rfl rfl ?_
 refine ZBB ?_
 refine ZAI ?_
 rw [rot_1 ha]
 exact E0 rfl ⟨rfl, rfl⟩
theorem rot4_fn (a : Int) (ha : 0 ≤ a ∧ a < 256) (w : World) : Does Tryz.prog 239 [.int .u8 a, .int .i64 4] w [] (fun v H => H = [] ∧ v = .int .u8 (a % 16 * 16 + a / 16)) := by
 refine does_of Tryz.func239 rfl rfl rfl (St.refl w) ?_
 refine ZAa ?_
 refine ZAV ?_
 refine RW (v := (.int .u64 4)) rfl rfl rfl ?_
 refine RW (v := (.int .u64 4)) (l_and rfl rfl) rfl (congrArg _ y_c) ?_
 refine ZEC ?_
 refine RW (v := (.int .u8 (shl .u8 a 4))) (shl_pos rfl rfl y_c) rfl rfl ?_
 refine L_2 ?_
 refine RW (v := (.int .u64 4)) (l_sub rfl rfl) rfl (congrArg _ y_c) ?_
 refine RW (v := (.int .u8 (shr .u8 a 4))) (shr_pos rfl rfl y_c) rfl rfl ?_
 refine ZBB ?_
 refine ZAI ?_
 rw [rot_4 ha]
 exact E0 rfl ⟨rfl, rfl⟩
theorem daa_fn (a f : Int) (ha : 0 ≤ a ∧ a < 256) (hf : 0 ≤ f ∧ f < 256) (w : World) : Does Tryz.prog 205 [.int .u8 a, .int .u8 f] w [] (fun v H => H = [] ∧ v = .tuple #[.int .u8 (daaR a f), .int .u8 (daaF a f)]) := by
 refine does_of Tryz.func205 rfl rfl rfl (St.refl w) ?_
 refine ZAS ?_
 refine ZAa ?_
 refine ZAV ?_
 refine RW (v := (.int .u8 (band .u8 f 64))) rfl rfl rfl ?_
 refine RW (v := (.bool (nF f))) rfl rfl (congrArg _ (ne_nF hf)) ?_
 refine ZEl ?_
 refine RW (v := (.int .u8 (fg 16 (cF f)))) rfl rfl (congrArg _ (band_c hf)) ?_
 refine ZAB ?_
 refine c_cut (σ := Unit) [6, 14, 15, 16, 17, 18, 19, 20, 21, 22, 23, 24, 25, 26, 27] (fun _ => [(6, .int .u8 (fg 6 (daaL a f)))]) (fun _ => []) (fun _ => True) ?_ ?_
 ·refine ZAV ?_
  refine RW (v := (.int .u8 (band .u8 f 32))) rfl rfl rfl ?_
  refine RW (v := (.bool (hF f))) rfl rfl (congrArg _ (ne_hF hf)) ?_
  refine KL (fun q0 q0n => ?_) (fun q0 q0n => ?_)
  ·refine L_8 ?_
   refine ZAj ?_
   refine ZAZ ?_
   refine RW (v := (.int .u8 6)) (l_or rfl rfl) rfl (congrArg _ y_c) ?_
   refine ZAB ?_
   exact ⟨(), trivial, .cons (congrArg (Value.int .u8) y_bv) (.nil), a_g, fun _ h => h⟩
  ·refine L_2 ?_
   refine KL (fun q1 q1n => ?_) (fun q1 q1n => ?_)
   ·refine Rl ?_
    refine ZCk ?_
    refine ZAR ?_
    refine KC (fun q2 q2n => ?_) (fun q2 q2n => ?_)
    ·refine ZAZ ?_
     refine RW (v := (.int .u8 6)) (l_or rfl rfl) rfl (congrArg _ y_c) ?_
     refine ZAB ?_
     exact ⟨(), trivial, .cons (congrArg (Value.int .u8) y_bv) (.nil), a_g, fun _ h => h⟩
    ·refine ZAx ?_
     exact ⟨(), trivial, .cons (congrArg (Value.int .u8) y_bv) (.nil), a_g, fun _ h => h⟩
   ·refine L_5 ?_
    refine ZBL ?_
    exact ⟨(), trivial, .cons (congrArg (Value.int .u8) y_bv) (.nil), a_g, fun _ h => h⟩
 ·rintro _ y4 _
  refine c_cut (σ := Unit) [6, 28, 29, 30, 31, 32, 33, 34, 35, 36, 37, 38, 39, 8] (fun _ => [(6, .int .u8 (daaB a f)), (8, .int .u8 (fg 16 (daaC a f)))]) (fun _ => []) (fun _ => True) ?_ ?_
  ·refine ZAV ?_
   refine RW (v := (.bool (cF f))) rfl rfl (congrArg _ (fg_ne _)) ?_
   refine KL (fun q0 q0n => ?_) (fun q0 q0n => ?_)
   ·refine L_7 ?_
    refine ZAj ?_
    refine ZAV ?_
    refine RW (v := (.int .u8 (fg 6 (daaL a f) + 96))) (l_or rfl rfl) rfl (congrArg _ (or_96 _)) ?_
    refine ZAB ?_
    refine ZAP ?_
    refine ZAB ?_
    exact ⟨(), trivial, .cons (congrArg (Value.int .u8) y_bp) (.cons (congrArg (Value.int .u8) y_bw) (.nil)), a_g, fun _ h => h⟩
   ·refine L_2 ?_
    refine KL (fun q1 q1n => ?_) (fun q1 q1n => ?_)
    ·refine ZCE ?_
     refine KC (fun q2 q2n => ?_) (fun q2 q2n => ?_)
     ·refine ZAV ?_
      refine RW (v := (.int .u8 (fg 6 (daaL a f) + 96))) (l_or rfl rfl) rfl (congrArg _ (or_96 _)) ?_
      refine ZAB ?_
      refine ZAP ?_
      refine ZAB ?_
      exact ⟨(), trivial, .cons (congrArg (Value.int .u8) y_bp) (.cons (congrArg (Value.int .u8) y_bw) (.nil)), a_g, fun _ h => h⟩
     ·refine ZAx ?_
      exact ⟨(), trivial, .cons (congrArg (Value.int .u8) y_bp) (.cons (congrArg (Value.int .u8) y_bw) (.nil)), a_g, fun _ h => h⟩
    ·refine L_4 ?_
     refine ZBL ?_
     exact ⟨(), trivial, .cons (congrArg (Value.int .u8) y_bp) (.cons (congrArg (Value.int .u8) y_bw) (.nil)), a_g, fun _ h => h⟩
  ·rintro _ y6 _
   refine c_cut (σ := Unit) [4, 40, 41, 42, 43, 44, 45, 46] (fun _ => [(4, .int .u8 (daaR a f))]) (fun _ => []) (fun _ => True) ?_ ?_
   ·refine ZAU ?_
    refine ZCs ?_
    refine ZAB ?_
    refine ZAa ?_
    refine KC (fun q0 q0n => ?_) (fun q0 q0n => ?_)
    ·refine ZAo ?_
     refine RW (l_sub rfl rfl) rfl y_o ?_
     refine ZAB ?_
     exact ⟨(), trivial, .cons (congrArg (Value.int .u8) (by unfold daaR; simp_all)) (.nil), a_g, fun _ h => h⟩
    ·refine ZAx ?_
     exact ⟨(), trivial, .cons (congrArg (Value.int .u8) (by unfold daaR; simp_all)) (.nil), a_g, fun _ h => h⟩
   ·rintro _ y10 _
    refine ZBP ?_
    refine Rl ?_
    refine RW (l_and rfl rfl) rfl y_eb ?_
    refine ZBB ?_
    refine Rl ?_
    refine ZEn ?_
    rw [nF_fg, or_znc]
    exact l_end0 (fun _ _ => rets_two rfl rfl) ⟨rfl, rfl⟩
theorem turn_fn (k a f : Int) (ha : 0 ≤ a ∧ a < 256) (hf : 0 ≤ f ∧ f < 256) (w : World) : Does Tryz.prog 203 [.int .i64 k, .int .u8 a, .int .u8 f] w [] (fun v H => H = [] ∧ v = .tuple #[.int .u8 (turnR k a f), .int .u8 (turnF k a f)]) := by
 have hb := b2i_le (cF f)
 refine does_of Tryz.func203 rfl rfl rfl (St.refl w) ?_
 refine ZAS ?_
 refine ZAV ?_
 refine RW (v := (.int .u8 (fg 16 (cF f)))) rfl rfl (congrArg _ (band_c hf)) ?_
 refine RW (v := (.int .u8 (b2i (cF f)))) (shr_pos rfl rfl y_c) rfl (congrArg _ (shr_c _)) ?_
 refine ZEl ?_
 refine RW (shr_pos rfl rfl y_c) rfl (as_shr 128 y_c y_c) ?_
 refine Rl ?_
 refine RW (l_and rfl rfl) rfl y_dW ?_
 refine ZAE ?_
 refine ZAS ?_
 refine ZA1 ?_
 refine RW (v := (.int .i64 (k % 8))) (l_and rfl rfl) rfl (congrArg _ (low_8 k)) ?_
 refine ZAb ?_
 refine c_block ?_
 refine ZCg ?_
 refine ZCg ?_
 refine ZCg ?_
 refine ZCg ?_
 refine ZA0 ?_
 refine ZAz ?_
 refine KC (fun q0 q0n => ?_) (fun q0 q0n => ?_)
 ·refine ZBa ?_
  refine ZAV ?_
  refine RLv call_239 (fun w hw => rot1_fn a ha w) ?_
  refine ZAB ?_
  refine ZBa ?_
  refine ZBP ?_
  refine ZCR ?_
  refine ZEn ?_
  have hk : k % 8 = 0 := by omega
  have hr : turnR k a f = a * 2 % 256 + a / 128 := by unfold turnR; rw [hk]; rfl
  have ho : turnO k a = (a / 128 == 1) := by unfold turnO; rw [hk]; rfl
  rw [x16 (x := a / 128) o_m, or_zc]
  have e9 : Value.tuple #[.int .u8 (a * 2 % 256 + a / 128), .int .u8 (fl ((a * 2 % 256 + a / 128) == 0) false false (a / 128 == 1))] = .tuple #[.int .u8 (turnR k a f), .int .u8 (turnF k a f)] := by unfold turnF; rw [hr, ho]
  exact l_end0 (fun _ _ => rets_two rfl rfl) ⟨rfl, e9⟩
 ·refine ZAx ?_
  refine ZAz ?_
  refine KC (fun q1 q1n => ?_) (fun q1 q1n => ?_)
  ·refine ZBa ?_
   refine ZAV ?_
   refine RW (shl_pos rfl rfl y_c) rfl y_ee ?_
   refine Rl ?_
   refine RW (v := (.int .u8 (a * 2 % 256 + b2i (cF f)))) (l_or rfl rfl) rfl (congrArg _ (or_low ha _)) ?_
   refine ZAB ?_
   refine ZBa ?_
   refine ZBP ?_
   refine ZCR ?_
   refine ZEn ?_
   have hk : k % 8 = 2 := by omega
   have hr : turnR k a f = a * 2 % 256 + b2i (cF f) := by unfold turnR; rw [hk]; rfl
   have ho : turnO k a = (a / 128 == 1) := by unfold turnO; rw [hk]; rfl
   rw [x16 (x := a / 128) o_m, or_zc]
   have e9 : Value.tuple #[.int .u8 (a * 2 % 256 + b2i (cF f)), .int .u8 (fl ((a * 2 % 256 + b2i (cF f)) == 0) false false (a / 128 == 1))] = .tuple #[.int .u8 (turnR k a f), .int .u8 (turnF k a f)] := by unfold turnF; rw [hr, ho]
   exact l_end0 (fun _ _ => rets_two rfl rfl) ⟨rfl, e9⟩
  ·refine ZAx ?_
   refine ZAz ?_
   refine KC (fun q2 q2n => ?_) (fun q2 q2n => ?_)
   ·refine ZBa ?_
    refine ZAV ?_
    refine RW (shl_pos rfl rfl y_c) rfl y_ee ?_
    refine ZAB ?_
    refine ZBa ?_
    refine ZBP ?_
    refine ZCR ?_
    refine ZEn ?_
    have hk : k % 8 = 4 := by omega
    have hr : turnR k a f = a * 2 % 256 := by unfold turnR; rw [hk]; rfl
    have ho : turnO k a = (a / 128 == 1) := by unfold turnO; rw [hk]; rfl
    rw [x16 (x := a / 128) o_m, or_zc]
    have e9 : Value.tuple #[.int .u8 (a * 2 % 256), .int .u8 (fl ((a * 2 % 256) == 0) false false (a / 128 == 1))] = .tuple #[.int .u8 (turnR k a f), .int .u8 (turnF k a f)] := by unfold turnF; rw [hr, ho]
    exact l_end0 (fun _ _ => rets_two rfl rfl) ⟨rfl, e9⟩
   ·refine ZAx ?_
    refine ZAz ?_
    refine KC (fun q3 q3n => ?_) (fun q3 q3n => ?_)
    ·refine ZBa ?_
     refine ZAV ?_
     refine RLv call_239 (fun w hw => rot4_fn a ha w) ?_
     refine ZAE ?_
     refine ZBa ?_
     refine ZBP ?_
     refine ZCR ?_
     refine ZEn ?_
     have hk : k % 8 = 6 := by omega
     have hr : turnR k a f = a % 16 * 16 + a / 16 := by unfold turnR; rw [hk]; rfl
     have ho : turnO k a = ((0 : Int) == 1) := by unfold turnO; rw [hk]; rfl
     rw [x16 (x := 0) o_m, or_zc]
     have e9 : Value.tuple #[.int .u8 (a % 16 * 16 + a / 16), .int .u8 (fl ((a % 16 * 16 + a / 16) == 0) false false ((0 : Int) == 1))] = .tuple #[.int .u8 (turnR k a f), .int .u8 (turnF k a f)] := by unfold turnF; rw [hr, ho]
     exact l_end0 (fun _ _ => rets_two rfl rfl) ⟨rfl, e9⟩
    ·refine ZAx ?_
     refine ZAz ?_
     refine KC (fun q4 q4n => ?_) (fun q4 q4n => ?_)
     ·refine ZBa ?_
      refine ZCB ?_
      refine ZEq ?_
      refine Rl ?_
      refine RW (shl_pos rfl rfl y_c) rfl y_eu ?_
      refine RW (v := (.int .u8 (a / 2 + a % 2 * 128))) (l_or rfl rfl) rfl (congrArg _ (or_topL ha)) ?_
      refine ZAR ?_
      refine ZBa ?_
      refine ZBP ?_
      refine ZCR ?_
      refine ZEn ?_
      have hk : k % 8 = 1 := by omega
      have hr : turnR k a f = a / 2 + a % 2 * 128 := by unfold turnR; rw [hk]; rfl
      refine ZDy fun ho => ?_
      have e9 : Value.tuple #[.int .u8 (a / 2 + a % 2 * 128), .int .u8 (fl ((a / 2 + a % 2 * 128) == 0) false false (a % 2 == 1))] = .tuple #[.int .u8 (turnR k a f), .int .u8 (turnF k a f)] := by unfold turnF; rw [hr, ho]
      exact l_end0 (fun _ _ => rets_two rfl rfl) ⟨rfl, e9⟩
     ·refine ZAx ?_
      refine ZAz ?_
      refine KC (fun q5 q5n => ?_) (fun q5 q5n => ?_)
      ·refine ZBa ?_
       refine ZEq ?_
       refine Rl ?_
       refine RW (shl_pos rfl rfl y_c) rfl y_eu ?_
       refine RW (v := (.int .u8 (a / 2 + b2i (cF f) * 128))) (l_or rfl rfl) rfl (congrArg _ (or_topB ha _)) ?_
       refine ZAR ?_
       refine ZBa ?_
       refine ZBP ?_
       refine ZCR ?_
       refine ZEn ?_
       have hk : k % 8 = 3 := by omega
       have hr : turnR k a f = a / 2 + b2i (cF f) * 128 := by unfold turnR; rw [hk]; rfl
       refine ZDy fun ho => ?_
       have e9 : Value.tuple #[.int .u8 (a / 2 + b2i (cF f) * 128), .int .u8 (fl ((a / 2 + b2i (cF f) * 128) == 0) false false (a % 2 == 1))] = .tuple #[.int .u8 (turnR k a f), .int .u8 (turnF k a f)] := by unfold turnF; rw [hr, ho]
       exact l_end0 (fun _ _ => rets_two rfl rfl) ⟨rfl, e9⟩
      ·refine ZAx ?_
       refine ZAz ?_
       refine KC (fun q6 q6n => ?_) (fun q6 q6n => ?_)
       ·refine ZBa ?_
        refine ZEq ?_
        refine Rl ?_
        refine RW (l_and rfl rfl) rfl y_dV ?_
        refine RW (v := (.int .u8 (a / 2 + a / 128 * 128))) (l_or rfl rfl) rfl (congrArg _ (or_topH ha)) ?_
        refine ZAR ?_
        refine ZBa ?_
        refine ZBP ?_
        refine ZCR ?_
        refine ZEn ?_
        have hk : k % 8 = 5 := by omega
        have hr : turnR k a f = a / 2 + a / 128 * 128 := by unfold turnR; rw [hk]; rfl
        refine ZDy fun ho => ?_
        have e9 : Value.tuple #[.int .u8 (a / 2 + a / 128 * 128), .int .u8 (fl ((a / 2 + a / 128 * 128) == 0) false false (a % 2 == 1))] = .tuple #[.int .u8 (turnR k a f), .int .u8 (turnF k a f)] := by unfold turnF; rw [hr, ho]
        exact l_end0 (fun _ _ => rets_two rfl rfl) ⟨rfl, e9⟩
       ·refine ZAx ?_
        refine ZAS ?_
        refine KC (fun q7 q7n => ?_) (fun q7 q7n => ?_)
        ·refine ZBa ?_
         refine ZEq ?_
         refine ZAR ?_
         refine ZBa ?_
         refine ZBP ?_
         refine ZCR ?_
         refine ZEn ?_
         have hk : k % 8 = 7 := by omega
         have hr : turnR k a f = a / 2 := by unfold turnR; rw [hk]; rfl
         refine ZDy fun ho => ?_
         have e9 : Value.tuple #[.int .u8 (a / 2), .int .u8 (fl ((a / 2) == 0) false false (a % 2 == 1))] = .tuple #[.int .u8 (turnR k a f), .int .u8 (turnF k a f)] := by unfold turnF; rw [hr, ho]
         exact l_end0 (fun _ _ => rets_two rfl rfl) ⟨rfl, e9⟩
        ·refine ZAx ?_
         refine ZBa ?_
         refine ZBP ?_
         refine ZCR ?_
         refine ZEn ?_
         exfalso; omega
end Go.Proofs.YtldehodcfajpjaaGreat
