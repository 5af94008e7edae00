/- A machine that runs a game. -/
import Derived.Test.YtldehodcfajpjaaGreatQcV
import Derived.Test.YtldehodcfajpjaaGreatQcW
set_option linter.unusedSimpArgs false
set_option linter.unusedVariables false
set_option maxRecDepth 100000
set_option maxHeartbeats 4000000
namespace Go.Proofs.YtldehodcfajpjaaGreat
open Go Go.VV Go.Proofs Go.RowKit
theorem encodeM_fn (A : Ad) (acc : Value) (m : Mm) (h : m.Wf) (hr : m.cpu.r.Ok) (hrl : m.ram.length ≤ 200000) (ms : List Nat) (w : World) (hst : St w ms [(A.mb, blk (cMm A acc m) 137), (A.rb, blk (m.ram.map (Value.int .u8) ++ A.rs) 5)] w) (hu : Row w A.ub 0 (cU m.u)) (hub : A.ub ∉ ms) : Does Tryz.prog 31 [.pointer (some ⟨A.mb, 0, none⟩)] w ms (fun v H => ∃ b c sp, v = .slice (some ⟨b, 0, none⟩) (encA m).length c ∧ (encA m).length ≤ c ∧ H = (b, blk ((encA m).map (Value.int .u8) ++ sp) 5) :: [(A.mb, blk (cMm A acc m) 137), (A.rb, blk (m.ram.map (Value.int .u8) ++ A.rs) 5)]) := by
 refine does_of Tryz.func31 rfl rfl rfl hst ?_
 refine ZDo ?_
 refine ZDh ?_
 refine ZAA ?_
 refine RS ?_
 refine RX (x_box (l := [.slice none 0 0, .bool false]) rfl rfl) rfl ?_
 refine ZC8 fun b0 => ?_
 refine ZAB ?_
 refine ZAA ?_
 have hml := encM_len h
 have hbl : (encM m ++ m.ram).length = 8482 + m.ram.length := by rw [List.length_append, hml]
 refine L_2 ?_
 refine RX (x_callT (F := []) (A := (b0, blk [.slice none 0 0, .bool false] 169) :: ((([] : Heap) ++ [(A.mb, blk (cMm A acc m) 137)]) ++ [(A.rb, blk (m.ram.map (Value.int .u8) ++ A.rs) 5)])) (R := fun v H => v = .tuple #[] ∧ ∃ va' Gl', Vec 5 1 va' (encM m ++ m.ram).length ((encM m ++ m.ram).map (Value.int .u8)) Gl' ∧ H = (b0, blk [va', .bool false] 169) :: ((Gl' ++ [(A.mb, blk (cMm A acc m) 137)]) ++ [(A.rb, blk (m.ram.map (Value.int .u8) ++ A.rs) 5)])) call_78 rfl (fun w hw => (throughL_fn false b0 A.mb A.rb m.ram.length A.rc hrl (.slice none 0 0) [] (cMm A acc m, []) .nil ⟨typed_cMm h hr, ⟨fun x hx => (by cases hx), fun hx => (by cases hx), (by show 0 + _ ≤ _; omega)⟩⟩ (m.ram.map (Value.int .u8) ++ A.rs) (fit_ram h A.rs) (get_mid h.ln (j := 15) rfl) _ w (St.lentV (G := []) hw)).mono fun v H ⟨e1, va', Gl', e2, e3⟩ => ⟨e1, va', Gl', (by rw [passM_outs, ram_out h, outM_enc h] at e2; exact e2), (by rw [passM_outs, ram_out h] at e3; exact e3)⟩)) rfl ?_
 rintro _ _ ⟨_, ⟨rfl, va0, G0, hV0, rfl⟩, rfl⟩
 obtain ⟨a8, c0, rfl⟩ := hV0.slice
 refine l_heap (H' := (b0, blk [(.slice a8 (encM m ++ m.ram).length c0), .bool false] 169) :: ((G0 ++ [(A.mb, blk (cMm A acc m) 137)]) ++ [(A.rb, blk (m.ram.map (Value.int .u8) ++ A.rs) 5)])) (fun _ h => h) ?_
 refine ZAb ?_
 refine ZA0 ?_
 refine DR [4, 5, 6, 7, 8] (pln [0, 2, 4, 6, 8, 10, 12, 14, 17, 19, 20]) ?_
 refine D_3 ?_
 refine DL rfl rfl rfl (s_own (v := (.slice a8 (encM m ++ m.ram).length c0)) m_m rfl) rfl ?_
 refine D_3 ?_
 refine DL rfl rfl rfl (s_own (v := .pointer (some ⟨A.ub, 0, none⟩)) (.tail _ (List.mem_append_left _ (List.mem_append_right _ (.head _)))) (get_mid (m := m) h.ln (j := 14) rfl)) rfl ?_
 refine DX rfl (x_call call_79 rfl (fun w hw => enc_fn A.ub m.u h.u.wf w (row_old hu hub w hw))) rfl (by intro _ _ _ hK; obtain ⟨G19, _, rfl⟩ := hK; exact fun x hx => List.mem_append_right _ hx) ?_
 rintro v0 _ ⟨G1, hV1, rfl⟩
 have hul := encU_len h.u.wf
 obtain ⟨b1, cx1, sp0, rfl, rfl, hc0, hle19, hm19⟩ := hV1.full o_m
 refine d_heap (fun w hw => hw.as (by simp only [List.append_assoc, List.cons_append, List.nil_append])) (H' := [(b1, blk ((encU m.u).map (Value.int .u8) ++ sp0) 5), (b0, blk [(.slice a8 (encM m ++ m.ram).length c0), .bool false] 169)] ++ (G0 ++ [(A.mb, blk (cMm A acc m) 137), (A.rb, blk (m.ram.map (Value.int .u8) ++ A.rs) 5)])) ?_
 refine DX rfl (x_append (A := [(b1, _), (b0, _)]) (G := G0) (R := [(A.mb, blk (cMm A acc m) 137), (A.rb, blk (m.ram.map (Value.int .u8) ++ A.rs) 5)]) (v := (.slice a8 (encM m ++ m.ram).length c0)) (n := (encM m ++ m.ram).length) (xs := (encM m ++ m.ram).map (Value.int .u8)) (m := (encU m.u).length) (T := 5) (s := 1) (by_ := 1) (ys := (encU m.u).map (Value.int .u8)) rfl rfl rfl rfl hV0 (fun w hw => .row _ _ _ _ _ y_z (Row.left (row_own (b := b1) (.head _) w hw))) (ones_int _ _) o_m o_m) rfl n_h ?_
 rintro v1 _ ⟨G2, hV2, _, rfl⟩
 obtain ⟨b2, c2, sp1, rfl, rfl, hc1, hle20, hm20⟩ := hV2.full o_m
 refine RD ?_
 refine ZBe ?_
 exact EV rfl (.cons_cons _ (.cons _ (.cons _ (List.Sublist.refl _)))) ⟨b2, c2, sp1, congrArg (fun z => Value.slice (some ⟨b2, 0, none⟩) z c2) (by unfold encA; simp only [List.length_append, List.append_assoc, Nat.add_assoc]), (by unfold encA; simp only [List.length_append] at hle20 ⊢; omega), (by unfold encA; simp only [List.map_append, List.append_assoc]; rfl)⟩
set_option maxHeartbeats 2000000 in
theorem parse_fn (a : Option Addr) (c : Nat) (l : List Int) (hl : l.length ≤ 100000000) (hb : Byts l) (hlc : l.length ≤ c) (w : World) (hB : Ns w .u8 a l) : Does Tryz.prog 40 [.slice a l.length c] w [] (fun v H => H = [] ∧ v = .tuple #[.agg (cHd (if errH l = 0 then hdH l else zHd)).toArray, .int .i64 (errH l)]) := by
 refine does_of Tryz.func40 rfl rfl rfl (St.refl w) ?_
 refine ZAA ?_
 refine ZEH ?_
 refine ZC8 fun b0 => ?_
 refine ZAB ?_
 refine ZAA ?_
 refine RY (light_array (l := [.int .i64 0, .int .i64 2048, .int .i64 8192, .int .i64 32768, .int .i64 131072, .int .i64 65536]) (z := [.int .i64 0, .int .i64 0, .int .i64 0, .int .i64 0, .int .i64 0, .int .i64 0]) (ps := [(0, .int .i64 0), (1, .int .i64 2048), (2, .int .i64 8192), (3, .int .i64 32768), (4, .int .i64 131072), (5, .int .i64 65536)]) rfl rfl rfl y_g) rfl ?_
 refine RX (x_alloc (l := (List.replicate 6 (0 : Int)).map (Value.int .i64)) rfl) rfl ?_
 rintro _ _ ⟨b1, rfl, rfl⟩
 refine RZ (x_storeTo (l' := sizesH.map (Value.int .i64)) 0 rfl rfl rfl rfl rfl rfl (Nat.le_of_ble_eq_true rfl) rfl) rfl ?_
 refine ZBb ?_
 refine ZA1 ?_
 refine ZCU ?_
 refine ZAB ?_
 refine KC (fun q0 q0n => ?_) (fun q0 q0n => ?_)
 ·refine ZAA ?_
  refine ZB8 ?_
  refine ZAC ?_
  refine ZAI ?_
  exact ZEM
 ·refine ZAx ?_
  refine c_cut (σ := Nat) [5, 6, 15, 16, 17, 18, 19, 20, 21, 22] (fun b => [(5, .pointer (some ⟨b, 0, none⟩)), (6, .bool (sortH (l.getD 327 0)).isSome)]) (fun b => [(b, blk (cSrt ((sortH (l.getD 327 0)).getD (0, false, false))) 183), (b1, blk (sizesH.map (Value.int .i64)) 181), (b0, blk (cHd zHd) 106)]) (fun _ => True) ?_ ?_
  ·obtain ⟨ba, oa, rfl, hra⟩ := hB.row (i := 0) o_m
   have hb7 := hb.get 327
   have hb8 := hb.get 328
   have hb9 := hb.get 329
   have hb4 := hb.get 334
   have hb5 := hb.get 335
   have hcut : cut1 oa 308 c = oa + 308 := cut1_on o_m
   have hl15 : ((l.drop 308).take 15).length = 15 := by rw [List.length_take, List.length_drop]; omega
   refine DR [0, 8] (.step true 1 (.step true 2 (.step true 3 (.fork 0 (.fork 4 (.step true 5 (.step true 6 (.step true 7 (.step false 8 (.step false 9 (.step true 10 .done)))))) (.fork 8 (.step false 4 (.step true 5 (.step true 6 (.step true 7 (.step false 9 (.step true 10 .done)))))) .stop)) (.fork 8 (.step false 0 (.step false 4 (.step true 5 (.step true 6 (.step true 7 (.step false 9 (.step true 10 .done))))))) .stop))))) ?_
   refine RD ?_
   refine DY rfl (idx_slice1 (n := l.length) 327 rfl rfl rfl rfl o_m) rfl ?_
   refine DL rfl rfl rfl (s_old (hra _ _ (map_at (j := 327) o_m)) y_z) rfl ?_
   refine d_fork ?_ ?_
   ·refine DX rfl (x_call call_87 rfl (fun w hw => sorts_fn w)) rfl y_d1 ?_
    rintro _ _ ⟨_, ⟨b2, rfl, rfl⟩, rfl⟩
    refine ZCT ?_
    refine d_fork ?_ ?_
    ·refine DZ rfl (x_mapAsk (k := .u8) (l := sortE) (c := 19) (b := b2) (z := .agg (cSrt (0, false, false)).toArray) rfl rfl rfl rfl m_m) rfl n_h ?_
     rw [sort_ask]
     refine ZCX ?_
     refine D_2 ?_
     refine DX rfl (x_alloc (l := cSrt (0, false, false)) rfl) rfl y_q ?_
     rintro _ _ ⟨b3, rfl, rfl⟩
     refine DZ rfl y_L rfl n_h ?_
     refine ZAC ?_
     refine ZC9 ?_
     exact ⟨b3, trivial, .cons rfl (.cons rfl .nil), a_g, fun _ h => y_bq⟩
    refine d_fork ?_ ?_
    ·refine DX rfl (x_alloc (l := cSrt (0, false, false)) rfl) rfl y_q ?_
     rintro _ _ ⟨b3, rfl, rfl⟩
     refine DZ rfl (x_mapAsk (k := .u8) (l := sortE) (c := 19) (b := b2) (z := .agg (cSrt (0, false, false)).toArray) rfl rfl rfl rfl m_m) rfl n_h ?_
     rw [sort_ask]
     refine ZCX ?_
     refine D_2 ?_
     refine DZ rfl y_L rfl n_h ?_
     refine ZAC ?_
     refine ZC9 ?_
     exact ⟨b3, trivial, .cons rfl (.cons rfl .nil), a_g, fun _ h => y_bq⟩
    exact d_stop
   refine d_fork ?_ ?_
   ·refine DX rfl (x_alloc (l := cSrt (0, false, false)) rfl) rfl y_q ?_
    rintro _ _ ⟨b2, rfl, rfl⟩
    refine DX rfl (x_call call_87 rfl (fun w hw => sorts_fn w)) rfl y_d1 ?_
    rintro _ _ ⟨_, ⟨b3, rfl, rfl⟩, rfl⟩
    refine ZCT ?_
    refine DZ rfl (x_mapAsk (k := .u8) (l := sortE) (c := 19) (b := b3) (z := .agg (cSrt (0, false, false)).toArray) rfl rfl rfl rfl m_m) rfl n_h ?_
    rw [sort_ask]
    refine ZCX ?_
    refine D_2 ?_
    refine DZ rfl y_L rfl n_h ?_
    refine ZAC ?_
    refine ZC9 ?_
    exact ⟨b2, trivial, .cons rfl (.cons rfl .nil), a_g, fun _ h => y_bq⟩
   exact d_stop
  ·rintro b2 y4 _
   obtain ⟨ba, oa, rfl, hra⟩ := hB.row (i := 0) o_m
   have hb7 := hb.get 327
   have hb8 := hb.get 328
   have hb9 := hb.get 329
   have hb4 := hb.get 334
   have hb5 := hb.get 335
   have hcut : cut1 oa 308 c = oa + 308 := cut1_on o_m
   have hl15 : ((l.drop 308).take 15).length = 15 := by rw [List.length_take, List.length_drop]; omega
   refine ZA0 ?_
   refine DR [3, 4, 5, 6, 7] (pln [0, 2, 4, 6, 8, 10, 12, 14, 16]) ?_
   refine RD ?_
   refine DY rfl (idx_slice1 (n := l.length) 328 rfl rfl rfl rfl o_m) rfl ?_
   refine DL rfl rfl rfl (s_old (hra _ _ (map_at (j := 328) o_m)) y_z) rfl ?_
   refine RD ?_
   refine DY rfl (idx_slice1 (n := l.length) 329 rfl rfl rfl rfl o_m) rfl ?_
   refine DL rfl rfl rfl (s_old (hra _ _ (map_at (j := 329) o_m)) y_z) rfl ?_
   refine DW (v := (.int .i64 (l.getD 329 0))) rfl (l_conv rfl rfl rfl) rfl (as_i64 o_m o_m) ?_
   refine ZCz ?_
   refine ZAQ ?_
   refine ZA0 ?_
   refine DR [3, 4] (pln [0, 2, 4, 6, 9, 10, 12]) ?_
   refine RD ?_
   refine DY rfl (idx_slice1 (n := l.length) 333 rfl rfl rfl rfl o_m) rfl ?_
   refine DL rfl rfl rfl (s_old (hra _ _ (map_at (j := 333) o_m)) y_z) rfl ?_
   refine RD ?_
   refine DZ rfl (x_val call_88 rfl (fun w hw => check_fn (some ⟨ba, oa, none⟩) c l hl hb w (hB.later0 hw) o_m)) rfl y_b ?_
   rw [if_neg (show ¬ l.length < 336 by omega)]
   refine ZCz ?_
   refine KC (fun q1 q1n => ?_) (fun q1 q1n => ?_)
   ·refine ZAA ?_
    refine ZB9 ?_
    refine ZAC ?_
    refine ZAI ?_
    exact ZED
   ·refine ZB4 ?_
    refine KC (fun q2 q2n => ?_) (fun q2 q2n => ?_)
    ·refine ZAA ?_
     refine ZB9 ?_
     refine ZAC ?_
     refine ZAI ?_
     have e9 : errH l = 5 := by unfold errH; rw [if_neg o_m, if_neg y_bb]; rw [show sortH (l.getD 327 0) = none from by cases hh : sortH (l.getD 327 0) with | none => rfl | some s => (rw [hh] at q2; cases q2)]
     exact l_end0 (fun w hw => rets_cell2 rfl rfl rfl (row_own (b := b0) (l := cHd zHd) m_m w hw) rfl) ⟨rfl, y_ed⟩
    ·refine ZA0 ?_
     obtain ⟨s9, hs0⟩ : ∃ s, sortH (l.getD 327 0) = some s := by
      cases hh : sortH (l.getD 327 0) with
      | none => rw [hh] at q2; cases q2
      | some s => exact ⟨s, rfl⟩
     refine ZAo ?_
     refine KL (fun q3 q3n => ?_) (fun q3 q3n => ?_)
     ·refine L_4 ?_
      refine ZAj ?_
      refine ZAA ?_
      refine ZB9 ?_
      refine ZAC ?_
      refine ZAI ?_
      exact ZDV
     ·refine ZCE ?_
      refine KC (fun q4 q4n => ?_) (fun q4 q4n => ?_)
      ·refine ZAA ?_
       refine ZB9 ?_
       refine ZAC ?_
       refine ZAI ?_
       exact ZDV
      ·refine ZAV ?_
       refine ZCU ?_
       refine Rl ?_
       refine RW (v := (.int .i64 (32768 * 2 ^ (l.getD 328 0).toNat))) (shl_pos rfl rfl o_m) rfl (congrArg _ (shl_many (.inr rfl) ⟨y_D, y_D⟩)) ?_
       refine ZAE ?_
       refine KC (fun q5 q5n => ?_) (fun q5 q5n => ?_)
       ·refine ZAA ?_
        refine ZB9 ?_
        refine ZAC ?_
        refine ZAI ?_
        have e9 : errH l = 6 := by unfold errH; rw [if_neg o_m, if_neg y_bb]; rw [hs0]; dsimp only; rw [if_neg o_m, if_pos (by simpa using q5)]
        exact l_end0 (fun w hw => rets_cell2 rfl rfl rfl (row_own (b := b0) (l := cHd zHd) m_m w hw) rfl) ⟨rfl, y_ed⟩
       ·refine ZAx ?_
        refine c_cut (σ := Nat) [9, 57, 58, 59, 60, 61, 62, 63, 64, 65, 66, 67, 68, 69, 70, 71] (fun b => [(9, .pointer (some ⟨b, 0, none⟩))]) (fun b => [(b, blk (cHd ⟨(nameH ((l.drop 308).take 15)), ((sortH (l.getD 327 0)).getD (0, false, false)).1, ((sortH (l.getD 327 0)).getD (0, false, false)).2.1, ((sortH (l.getD 327 0)).getD (0, false, false)).2.2, 2 * 2 ^ (l.getD 328 0).toNat, (sizesH.getD (l.getD 329 0).toNat 0), false⟩) 106), (b0, blk (cHd zHd) 106)]) (fun _ => True) ?_ ?_
        ·refine DR [2, 5, 6, 7, 8, 9, 10, 11, 12, 13, 15] (.step true 0 (.step true 1 (.step true 3 (.step true 4 (.step true 5 (.step true 6 (.step true 7 (.step true 8 (.step true 9 (.step true 10 (.step true 11 (.step true 12 (.step true 13 (.fork 2 (.step true 14 (.step false 15 (.step false 16 .done))) (.fork 15 (.step false 2 (.step true 14 (.step false 16 .done))) .stop))))))))))))))) ?_
         refine RD ?_
         refine DW (v := (.slice (some ⟨ba, oa + 308, none⟩) ((l.drop 308).take 15).length (c - 308))) rfl (cut_slice1 308 323 rfl rfl rfl rfl rfl rfl y_c o_m) rfl (by rw [hcut, hl15]) ?_
         refine D_7 ?_
         refine DW (v := (.int .i64 (2 * 2 ^ (l.getD 328 0).toNat))) rfl (shl_pos rfl rfl o_m) rfl (congrArg _ (shl_many (.inl rfl) ⟨y_D, y_D⟩)) ?_
         refine RD ?_
         refine DY rfl (idx_array1 (l.getD 329 0).toNat rfl rfl rfl o_m o_m) rfl ?_
         refine DL rfl rfl rfl (s_own (v := .int .i64 (sizesH.getD (l.getD 329 0).toNat 0)) m_m (by rw [Nat.zero_add]; exact map_at (by show _ < 6; omega))) rfl ?_
         refine d_fork ?_ ?_
         ·refine ZDC ?_
          refine DX rfl (x_alloc (l := cHd zHd) rfl) rfl y_q ?_
          rintro _ _ ⟨b3, rfl, rfl⟩
          refine ZCO ?_
          refine ZEb ?_
          exact ⟨b3, trivial, .cons rfl .nil, a_g, fun _ h => h.sub (.cons_cons _ (.cons _ (.cons _ (List.Sublist.refl _))))⟩
         refine d_fork ?_ ?_
         ·refine DX rfl (x_alloc (l := cHd zHd) rfl) rfl y_q ?_
          rintro _ _ ⟨b3, rfl, rfl⟩
          refine ZDC ?_
          refine ZCO ?_
          refine ZEb ?_
          exact ⟨b3, trivial, .cons rfl .nil, a_g, fun _ h => h.sub (.cons_cons _ (.cons _ (.cons _ (List.Sublist.refl _))))⟩
         exact d_stop
        ·rintro b3 y14 _
         refine ZD6 ?_
         refine ZAb ?_
         refine KC (fun q6 q6n => ?_) (fun q6 q6n => ?_)
         ·refine ZD9 ?_
          refine RZ (x_storeTo (l' := cHd ⟨(nameH ((l.drop 308).take 15)), ((sortH (l.getD 327 0)).getD (0, false, false)).1, ((sortH (l.getD 327 0)).getD (0, false, false)).2.1, ((sortH (l.getD 327 0)).getD (0, false, false)).2.2, 2 * 2 ^ (l.getD 328 0).toNat, 512, false⟩) 0 rfl rfl rfl rfl rfl rfl (Nat.le_of_ble_eq_true rfl) rfl) rfl ?_
          refine ZBb ?_
          refine ZA0 ?_
          refine c_heap (L' := [(b3, blk (cHd ⟨(nameH ((l.drop 308).take 15)), ((sortH (l.getD 327 0)).getD (0, false, false)).1, ((sortH (l.getD 327 0)).getD (0, false, false)).2.1, ((sortH (l.getD 327 0)).getD (0, false, false)).2.2, 2 * 2 ^ (l.getD 328 0).toNat, ramH ((sortH (l.getD 327 0)).getD (0, false, false)).1 (l.getD 329 0), false⟩) 106), (b0, blk (cHd zHd) 106)]) (fun _ h => h.as (by rw [show ramH ((sortH (l.getD 327 0)).getD (0, false, false)).1 (l.getD 329 0) = 512 from if_pos (by simpa using q6)])) ?_
          refine DR [5, 6, 7, 8, 10, 11] (pln [0, 2, 4, 6, 8, 10, 12, 14, 16, 18, 20, 23, 24, 26, 29]) ?_
          refine RD ?_
          refine DY rfl (idx_slice1 (n := l.length) 334 rfl rfl rfl rfl o_m) rfl ?_
          refine ZCn ?_
          refine DW (v := (.int .u16 (l.getD 334 0 * 256))) rfl (shl_pos rfl rfl y_c) rfl (as_shl 256 rfl o_m (show _ < (65536 : Int) by omega)) ?_
          refine RD ?_
          refine DY rfl (idx_slice1 (n := l.length) 335 rfl rfl rfl rfl o_m) rfl ?_
          refine ZCo ?_
          refine DW (v := (.int .u16 (l.getD 334 0 * 256 + l.getD 335 0))) rfl (l_or rfl rfl) rfl (congrArg _ (or_wrd hb4 hb5)) ?_
          refine RD ?_
          refine DZ rfl (x_val call_90 rfl (fun w hw => sum_fn (some ⟨ba, oa, none⟩) c l hl hb w (hB.later0 hw))) rfl y_b ?_
          rw [if_neg (show ¬ l.length < 336 by omega)]
          refine D_2 ?_
          refine DZ rfl (x_storeTo (l' := cHd (hdH l)) 0 rfl rfl rfl rfl rfl rfl (Nat.le_of_ble_eq_true rfl) rfl) rfl n_h ?_
          refine ZAC ?_
          refine ZEb ?_
          refine ZAA ?_
          refine ZEk ?_
          refine ZAC ?_
          refine ZAI ?_
          exact ZC4
         ·refine ZAx ?_
          refine ZA0 ?_
          refine c_heap (L' := [(b3, blk (cHd ⟨(nameH ((l.drop 308).take 15)), ((sortH (l.getD 327 0)).getD (0, false, false)).1, ((sortH (l.getD 327 0)).getD (0, false, false)).2.1, ((sortH (l.getD 327 0)).getD (0, false, false)).2.2, 2 * 2 ^ (l.getD 328 0).toNat, ramH ((sortH (l.getD 327 0)).getD (0, false, false)).1 (l.getD 329 0), false⟩) 106), (b0, blk (cHd zHd) 106)]) (fun _ h => h.as (by rw [← ramH_size (k := ((sortH (l.getD 327 0)).getD (0, false, false)).1) (by simpa using q6) ⟨hb9.1, y_D⟩])) ?_
          refine DR [5, 6, 7, 8, 10, 11] (pln [0, 2, 4, 6, 8, 10, 12, 14, 16, 18, 20, 23, 24, 26, 29]) ?_
          refine RD ?_
          refine DY rfl (idx_slice1 (n := l.length) 334 rfl rfl rfl rfl o_m) rfl ?_
          refine ZCn ?_
          refine DW (v := (.int .u16 (l.getD 334 0 * 256))) rfl (shl_pos rfl rfl y_c) rfl (as_shl 256 rfl o_m (show _ < (65536 : Int) by omega)) ?_
          refine RD ?_
          refine DY rfl (idx_slice1 (n := l.length) 335 rfl rfl rfl rfl o_m) rfl ?_
          refine ZCo ?_
          refine DW (v := (.int .u16 (l.getD 334 0 * 256 + l.getD 335 0))) rfl (l_or rfl rfl) rfl (congrArg _ (or_wrd hb4 hb5)) ?_
          refine RD ?_
          refine DZ rfl (x_val call_90 rfl (fun w hw => sum_fn (some ⟨ba, oa, none⟩) c l hl hb w (hB.later0 hw))) rfl y_b ?_
          rw [if_neg (show ¬ l.length < 336 by omega)]
          refine D_2 ?_
          refine DZ rfl (x_storeTo (l' := cHd (hdH l)) 0 rfl rfl rfl rfl rfl rfl (Nat.le_of_ble_eq_true rfl) rfl) rfl n_h ?_
          refine ZAC ?_
          refine ZEb ?_
          refine ZAA ?_
          refine ZEk ?_
          refine ZAC ?_
          refine ZAI ?_
          exact ZC4
set_option maxHeartbeats 2000000 in
theorem newM_fn (ob oc : Nat) (rom : List Int) (hl : rom.length ≤ 100000000) (hb : Byts rom) (hc : rom.length ≤ oc) (pa : Option Addr) (pl pc : Nat) (w : World) (hr : Row w ob 0 (rom.map (Value.int .u8))) : Does Tryz.prog 11 [.slice (some ⟨ob, 0, none⟩) rom.length oc, .slice pa pl pc] w [] (fun v H => (errH rom ≠ 0 ∧ v = .tuple #[.pointer none, .int .i64 (errH rom)] ∧ H = []) ∨ (errH rom = 0 ∧ ∃ mb ub rb tb oT, TabH tb (.int .u32 0) [(tb, oT)] ∧ v = .tuple #[.pointer (some ⟨mb, 0, none⟩), .int .i64 0] ∧ H = [((mb, ub, rb, tb, oT).1, blk (cMm (newA (mb, ub, rb, tb, oT).1 (mb, ub, rb, tb, oT).2.1 (mb, ub, rb, tb, oT).2.2.1 (mb, ub, rb, tb, oT).2.2.2.1 ob oc [] (.slice pa pl pc) (hdH rom).ram.toNat) (.slice none 0 0) (newM rom)) 137), ((mb, ub, rb, tb, oT).2.2.1, blk ((newM rom).ram.map (Value.int .u8)) 5), ((mb, ub, rb, tb, oT).2.1, blk (cU zeroU) 178), ((mb, ub, rb, tb, oT).2.2.2.1, (mb, ub, rb, tb, oT).2.2.2.2)])) := by
 have hram := hdH_ram rom
 refine does_of Tryz.func11 rfl rfl rfl (St.refl w) ?_
 refine ZAS ?_
 refine ZA0 ?_
 by_cases he9 : errH rom = 0
 ·refine ZAZ ?_
  refine RLv call_40 (fun w hw => parse_fn (some ⟨ob, 0, none⟩) oc rom hl hb hc w (Ns.of (row_old hr y_z w hw))) ?_
  rw [if_pos he9]
  refine ZBQ ?_
  refine ZEH ?_
  refine ZC8 fun b0 => ?_
  refine RZ (x_storeTo (l' := cHd (hdH rom)) 0 rfl rfl rfl rfl rfl rfl (Nat.le_of_ble_eq_true rfl) rfl) rfl ?_
  refine ZAC ?_
  refine ZAB ?_
  refine ZA1 ?_
  refine l_sure false rfl rfl rfl (by simpa using he9) ?_
  refine ZBL ?_
  refine c_cut (σ := Nat × Nat × Nat × Nat × Obj) [8, 17, 18, 19, 20, 21, 22, 23, 24, 25, 26] (fun q => [(8, .pointer (some ⟨q.1, 0, none⟩))]) (fun q => [(q.1, blk (cMm (newA q.1 q.2.1 q.2.2.1 q.2.2.2.1 ob oc [] (.slice pa pl pc) (hdH rom).ram.toNat) (.slice none 0 0) (newM0 rom)) 137), (q.2.2.1, blk ((newM0 rom).ram.map (Value.int .u8)) 5), (q.2.1, blk (cU zeroU) 178), (q.2.2.2.1, q.2.2.2.2)] ++ [(b0, blk (cHd (hdH rom)) 106)]) (fun q => TabH q.2.2.2.1 (.int .u32 0) [(q.2.2.2.1, q.2.2.2.2)]) ?_ ?_
  ·refine DR [3, 4, 5, 6, 7] (.step true 0 (.step true 1 (.step true 2 (.step true 5 (.step true 6 (.fork 3 (.fork 4 (.step false 7 (.step true 8 (.step false 9 (.step true 10 .done)))) (.fork 7 (.step false 4 (.step true 8 (.step false 9 (.step true 10 .done)))) .stop)) (.fork 7 (.step false 3 (.step false 4 (.step true 8 (.step false 9 (.step true 10 .done))))) .stop))))))) ?_
   refine D_2 ?_
   refine d_loadA rfl rfl rfl rfl (srow_own (b := b0) (l := cHd (hdH rom)) m_m) rfl rfl ?_
   refine RDa ?_
   refine DL rfl rfl rfl (s_own (v := .int .i64 (hdH rom).ram) m_m rfl) rfl ?_
   refine d_fork ?_ ?_
   ·refine DX rfl (x_call call_41 rfl (fun w hw => tnew_fn w)) rfl y_d1 ?_
    rintro _ _ ⟨_, ⟨b1, rfl, hT0⟩, rfl⟩
    obtain ⟨o20, rfl⟩ := hT0.one
    refine ZCT ?_
    refine d_fork ?_ ?_
    ·refine DX rfl (x_call call_42 rfl (fun w hw => new_fn w)) rfl y_d1 ?_
     rintro _ _ ⟨_, ⟨b2, rfl, rfl⟩, rfl⟩
     refine ZCT ?_
     refine ZDX ?_
     rintro _ _ ⟨b3, rfl, rfl⟩
     refine DW (v := (.agg (cMm (newA 0 b2 b3 b1 ob oc [] (.slice pa pl pc) (hdH rom).ram.toNat) (.slice none 0 0) (newM0 rom)).toArray)) rfl (light_struct (l := cMmR (newA 0 b2 b3 b1 ob oc [] (.slice pa pl pc) (hdH rom).ram.toNat) (.slice none 0 0) (newM0 rom) (hdH rom).ram.toNat) (z := zMach) (ps := [(1, .slice (some ⟨ob, 0, none⟩) rom.length oc), (2, .slice pa pl pc), (3, .agg (cHd (hdH rom)).toArray), (4, .pointer (some ⟨b1, 0, none⟩)), (5, .pointer (some ⟨b2, 0, none⟩)), (6, .slice (some ⟨b3, 0, none⟩) (hdH rom).ram.toNat (hdH rom).ram.toNat)]) rfl y_g rfl y_g) rfl y_cU ?_
     refine DX rfl (x_box (l := cMm (newA 0 b2 b3 b1 ob oc [] (.slice pa pl pc) (hdH rom).ram.toNat) (.slice none 0 0) (newM0 rom)) rfl rfl) rfl n_h ?_
     rintro _ _ ⟨b4, rfl, rfl⟩
     refine ZC9 ?_
     exact ⟨(b4, b2, b3, b1, o20), hT0, .cons rfl .nil, a_g, fun _ h => St.perm_ix 5 [0, 1, 2, 3, 4] y_c rfl y_cK h⟩
    refine d_fork ?_ ?_
    ·refine ZDX ?_
     rintro _ _ ⟨b2, rfl, rfl⟩
     refine DX rfl (x_call call_42 rfl (fun w hw => new_fn w)) rfl y_d1 ?_
     rintro _ _ ⟨_, ⟨b3, rfl, rfl⟩, rfl⟩
     refine ZCT ?_
     refine DW (v := (.agg (cMm (newA 0 b3 b2 b1 ob oc [] (.slice pa pl pc) (hdH rom).ram.toNat) (.slice none 0 0) (newM0 rom)).toArray)) rfl (light_struct (l := cMmR (newA 0 b3 b2 b1 ob oc [] (.slice pa pl pc) (hdH rom).ram.toNat) (.slice none 0 0) (newM0 rom) (hdH rom).ram.toNat) (z := zMach) (ps := [(1, .slice (some ⟨ob, 0, none⟩) rom.length oc), (2, .slice pa pl pc), (3, .agg (cHd (hdH rom)).toArray), (4, .pointer (some ⟨b1, 0, none⟩)), (5, .pointer (some ⟨b3, 0, none⟩)), (6, .slice (some ⟨b2, 0, none⟩) (hdH rom).ram.toNat (hdH rom).ram.toNat)]) rfl y_g rfl y_g) rfl y_cU ?_
     refine DX rfl (x_box (l := cMm (newA 0 b3 b2 b1 ob oc [] (.slice pa pl pc) (hdH rom).ram.toNat) (.slice none 0 0) (newM0 rom)) rfl rfl) rfl n_h ?_
     rintro _ _ ⟨b4, rfl, rfl⟩
     refine ZC9 ?_
     exact ⟨(b4, b3, b2, b1, o20), hT0, .cons rfl .nil, a_g, fun _ h => St.perm_ix 5 [0, 2, 1, 3, 4] y_c rfl y_cK h⟩
    exact d_stop
   refine d_fork ?_ ?_
   ·refine ZDX ?_
    rintro _ _ ⟨b1, rfl, rfl⟩
    refine DX rfl (x_call call_41 rfl (fun w hw => tnew_fn w)) rfl y_d1 ?_
    rintro _ _ ⟨_, ⟨b2, rfl, hT0⟩, rfl⟩
    obtain ⟨o20, rfl⟩ := hT0.one
    refine ZCT ?_
    refine DX rfl (x_call call_42 rfl (fun w hw => new_fn w)) rfl y_d1 ?_
    rintro _ _ ⟨_, ⟨b3, rfl, rfl⟩, rfl⟩
    refine ZCT ?_
    refine DW (v := (.agg (cMm (newA 0 b3 b1 b2 ob oc [] (.slice pa pl pc) (hdH rom).ram.toNat) (.slice none 0 0) (newM0 rom)).toArray)) rfl (light_struct (l := cMmR (newA 0 b3 b1 b2 ob oc [] (.slice pa pl pc) (hdH rom).ram.toNat) (.slice none 0 0) (newM0 rom) (hdH rom).ram.toNat) (z := zMach) (ps := [(1, .slice (some ⟨ob, 0, none⟩) rom.length oc), (2, .slice pa pl pc), (3, .agg (cHd (hdH rom)).toArray), (4, .pointer (some ⟨b2, 0, none⟩)), (5, .pointer (some ⟨b3, 0, none⟩)), (6, .slice (some ⟨b1, 0, none⟩) (hdH rom).ram.toNat (hdH rom).ram.toNat)]) rfl y_g rfl y_g) rfl y_cU ?_
    refine DX rfl (x_box (l := cMm (newA 0 b3 b1 b2 ob oc [] (.slice pa pl pc) (hdH rom).ram.toNat) (.slice none 0 0) (newM0 rom)) rfl rfl) rfl n_h ?_
    rintro _ _ ⟨b4, rfl, rfl⟩
    refine ZC9 ?_
    exact ⟨(b4, b3, b1, b2, o20), hT0, .cons rfl .nil, a_g, fun _ h => St.perm_ix 5 [0, 3, 1, 2, 4] y_c rfl y_cK h⟩
   exact d_stop
  ·rintro ⟨mb, ub, rb, tb, oT⟩ y4 hT
   dsimp only at hT ⊢
   refine ZAV ?_
   refine RZ (x_loadA rfl rfl rfl (row_own (b := b0) (l := cHd (hdH rom)) m_m)) rfl ?_
   refine RLv call_43 (fun w hw => newB_fn _ _ _ _ _ _ _ w) ?_
   refine L_3 ?_
   refine RZ (x_storeTo (l' := cMm (newA (mb, ub, rb, tb, oT).1 (mb, ub, rb, tb, oT).2.1 (mb, ub, rb, tb, oT).2.2.1 (mb, ub, rb, tb, oT).2.2.2.1 ob oc [] (.slice pa pl pc) (hdH rom).ram.toNat) (.slice none 0 0) (newM1 rom)) 0 rfl rfl rfl rfl rfl rfl (by rw [cMm_len (newM0_ln rom)]; exact Nat.le_of_ble_eq_true rfl) (putM_bk _)) rfl ?_
   refine ZBb ?_
   refine ZAV ?_
   refine RS ?_
   refine L_4 ?_
   refine RZ (x_storeTo (l' := cMm (newA (mb, ub, rb, tb, oT).1 (mb, ub, rb, tb, oT).2.1 (mb, ub, rb, tb, oT).2.2.1 (mb, ub, rb, tb, oT).2.2.2.1 ob oc [] (.slice pa pl pc) (hdH rom).ram.toNat) (.slice none 0 0) (newM rom)) 0 rfl rfl rfl rfl rfl rfl (by rw [cMm_len (m := newM1 rom) ⟨(newM0_ln rom).bd, (newM0_ln rom).work, (newM0_ln rom).high⟩]; exact Nat.le_of_ble_eq_true rfl) ((put_head (Nat.le_of_ble_eq_true rfl)).trans rfl)) rfl ?_
   refine ZBb ?_
   refine ZB4 ?_
   refine c_ret ?_
   exact l_end (fun _ _ => rets_v2 rfl rfl) (.cons_cons _ (.cons_cons _ (.cons_cons _ (.cons_cons _ (List.nil_sublist _))))) (.inr ⟨he9, mb, ub, rb, tb, oT, hT, rfl, rfl⟩)
 ·refine ZAZ ?_
  refine RLv call_40 (fun w hw => parse_fn (some ⟨ob, 0, none⟩) oc rom hl hb hc w (Ns.of (row_old hr y_z w hw))) ?_
  rw [if_neg he9]
  refine ZBQ ?_
  refine ZEH ?_
  refine ZC8 fun b0 => ?_
  refine ZCv ?_
  refine ZAB ?_
  refine ZA1 ?_
  refine l_sure true rfl rfl rfl (by simpa using he9) ?_
  refine ZAj ?_
  refine ZB4 ?_
  refine c_ret ?_
  exact l_end (fun _ _ => rets_v2 rfl rfl) (List.nil_sublist _) (.inl ⟨he9, rfl, rfl⟩)
structure MA where
 A : Ad
 tb : Nat
 oT : Obj
 va : Value
def pM (q : MA) : Value := .pointer (some ⟨q.A.mb, 0, none⟩)
def hM (q : MA) (m : Mm) : Heap := [(q.tb, q.oT), (q.A.mb, blk (cMm q.A q.va m) 137), (q.A.ub, blk (cU m.u) 178), (q.A.rb, blk (m.ram.map (Value.int .u8) ++ q.A.rs) 5), (q.A.ob, blk (m.rom.map (Value.int .u8) ++ q.A.sp) 5)]
structure MA.Ok (q : MA) (pa : Option Addr) (n pc : Nat) : Prop where
 apart : q.A.rb ∉ [q.A.mb, q.A.ub] ∧ q.A.ob ∉ [q.A.mb, q.A.ub]
 tab : TabH q.tb (.int .u32 0) [(q.tb, q.oT)]
 at_ : q.A.tab = .pointer (some ⟨q.tb, 0, none⟩)
 plan : q.A.plan = .slice pa n pc
 va : ∃ aa an ac, q.va = .slice aa an ac
structure HasP (T : Nat) (plan : List Chg) (pa : Option Addr) (pc : Nat) (G : Heap) : Prop where
 vec : Vec T 2 (.slice pa plan.length pc) plan.length (flat cChg plan) G
 ok : ∀ c ∈ plan, ChgOk c
 few : plan.length ≤ 1000000
section
variable {w0 w : World} {ms : List Nat} {H : Heap} {q : MA} {m : Mm}
theorem hM_rows (hw : St w0 ms H w) (hs : ∀ x ∈ hM q m, x ∈ H) : Row w q.A.mb 0 (cMm q.A q.va m) ∧ Row w q.A.ub 0 (cU m.u) ∧ Row w q.A.rb 0 (m.ram.map (Value.int .u8)) ∧ Row w q.A.ob 0 (m.rom.map (Value.int .u8)) :=
 ⟨row_own (hs _ (.tail _ (.head _))) w hw, row_own (hs _ (.tail _ (.tail _ (.head _)))) w hw, (row_own (hs _ (.tail _ (.tail _ (.tail _ (.head _))))) w hw).left, (row_own (hs _ (.tail _ (.tail _ (.tail _ (.tail _ (.head _)))))) w hw).left⟩
theorem HasP.els {T : Nat} {plan : List Chg} {pa : Option Addr} {pc : Nat} {G : Heap} (h : HasP T plan pa pc G) (hw : St w0 ms H w) (hs : ∀ x ∈ G, x ∈ H) : Els w cChg pa plan := by
 obtain ⟨a, cp, e, _, _, h1⟩ := h.vec.gives cChg_len y_c
 cases e
 exact h1.els hw hs
theorem HasP.off {T : Nat} {plan : List Chg} {pa : Option Addr} {pc : Nat} {G R : Heap} (h : HasP T plan pa pc G) (hw : St w0 ms (R ++ G) w) : ∀ p, pa = some p → p.block ∉ R.map (·.1) := by
 rintro p rfl hp
 rcases h.vec.alt with ⟨h1, _⟩ | ⟨b, cap, sp, h1, rfl, _⟩
 ·cases h1
 cases h1
 have hn := hw.nodup
 rw [List.map_append, List.nodup_append] at hn
 exact hn.2.2 _ hp _ (.head _) rfl
end
theorem stepL {R : Mm} {D : Prop} (q : MA) (pa : Option Addr) (pc : Nat) (plan : List Chg) (hq : q.Ok pa plan.length pc) (hpo : ∀ c ∈ plan, ChgOk c) (hpl : plan.length ≤ 1000000) (m : Mm) (h : MInv R D m) (ms : List Nat) (w : World) (hst : St w ms (hM q m) w) (hE : Els w cChg pa plan) (hpn : ∀ p, pa = some p → p.block ∉ ms) :
  Does Tryz.prog 19 [pM q] w ms (fun v H => ∃ oT va G, (MA.mk q.A q.tb oT va).Ok pa plan.length pc ∧ v = .tuple #[.agg (cDd (stepM plan m).1).toArray, va] ∧ Vec 101 3 va (stepM plan m).2.acc.length (flat cAc (stepM plan m).2.acc) G ∧ H = G ++ hM ⟨q.A, q.tb, oT, va⟩ (stepM plan m).2) := by
 refine Does.turn (stepMach_fn q.A hq.apart q.tb (.int .u32 0) q.oT hq.tab hq.at_ plan pa pc hq.plan hpo hpl m h.wf h.rg q.va ms w hst hE hpn) ?_
 rintro v H w' ⟨va, oT, G, rfl, hV, hT, rfl⟩ hw
 obtain ⟨aa, ac, rfl⟩ := hV.slice
 exact ⟨_, hw.perm (show List.Perm ([(q.tb, oT)] ++ (G ++ _)) (G ++ ([(q.tb, oT)] ++ _)) by rw [← List.append_assoc, ← List.append_assoc]; exact List.Perm.append_right _ List.perm_append_comm), oT, _, G, ⟨hq.apart, hT, hq.at_, hq.plan, _, _, _, rfl⟩, rfl, hV, rfl⟩
theorem encodeL (q : MA) (m : Mm) (h : m.Wf) (hr : m.cpu.r.Ok) (hrl : m.ram.length ≤ 200000) (ms : List Nat) (w : World) (hst : St w ms (hM q m) w) :
  Does Tryz.prog 31 [pM q] w ms (fun v H => ∃ b c sp, v = .slice (some ⟨b, 0, none⟩) (encA m).length c ∧ (encA m).length ≤ c ∧ H = (b, blk ((encA m).map (Value.int .u8) ++ sp) 5) :: hM q m) := by
 have hw1 : St w ms ([(q.A.mb, blk (cMm q.A q.va m) 137), (q.A.rb, blk (m.ram.map (Value.int .u8) ++ q.A.rs) 5)] ++ [(q.tb, q.oT), (q.A.ub, blk (cU m.u) 178), (q.A.ob, blk (m.rom.map (Value.int .u8) ++ q.A.sp) 5)]) w := St.perm_ix 5 [1, 3, 0, 2, 4] y_c rfl rfl hst
 have hn := hw1.nodup
 rw [List.map_append, List.nodup_append] at hn
 refine Does.frame hw1 (ms2 := [q.A.mb, q.A.rb]) (fun b hb => mem_fst (G := [(q.A.mb, blk (cMm q.A q.va m) 137), (q.A.rb, _)]) hb) (encodeM_fn q.A q.va m h hr hrl [q.A.mb, q.A.rb] w hw1.lentV (hM_rows hst (fun _ hx => hx)).2.1 (fun hb => hn.2.2 _ hb _ (.tail _ (.head _)) rfl)) ?_
 rintro v H w' ⟨b, c, sp, rfl, hc, rfl⟩ hw
 exact ⟨_, St.perm_ix 6 [0, 3, 1, 4, 2, 5] y_c rfl rfl hw, b, c, sp, rfl, hc, rfl⟩
theorem rom_fn (g : Gm) (w : World) (hg : g.Ok w) (hp : g.prog.length ≤ 100000000) : Does Tryz.prog 12 [.agg (cGm g).toArray] w [] (fun v H => ∃ b, v = .slice (some ⟨b, 0, none⟩) (romG g).length (romG g).length ∧ H = [(b, blk ((romG g).map (Value.int .u8)) 5)]) := by
 refine does_of Tryz.func12 rfl rfl rfl (St.refl w) ?_
 refine ZAA ?_
 refine ZAt fun b0 => ?_
 refine ZAB ?_
 refine ZAA ?_
 refine L_6 ?_
 refine RX (x_call call_39 rfl (fun w hw => made_fn g.kind 1 g.ram hg.kind y_c hg.ram g.pa g.pc g.prog hp hg.prog w (hg.np.later0 hw))) rfl ?_
 rintro _ _ ⟨G0, ⟨b1, rfl, rfl⟩, rfl⟩
 refine ZAI ?_
 exact EV rfl (List.sublist_append_left _ _) ⟨b1, by rw [romG_len]; rfl, rfl⟩
theorem plan_fn (g : Gm) (w : World) (hg : g.Ok w) (hp : g.plan.length ≤ 1000000) : Does Tryz.prog 13 [.agg (cGm g).toArray] w [] (fun v H => ∃ pa pc, v = .slice pa g.plan.length pc ∧ HasP 140 g.plan pa pc H) := by
 refine does_of Tryz.func13 rfl rfl rfl (St.refl w) ?_
 refine ZAA ?_
 refine ZAt fun b0 => ?_
 refine ZAB ?_
 refine ZAa ?_
 refine ZCd ?_
 refine ZCU ?_
 refine ZBO ?_
 refine c_loop (σ := Nat × Value × Heap) [3, 4, 8, 9, 10, 11, 12, 13, 14, 15, 16, 17, 18, 19] (fun s => [(3, s.2.1), (8, .int .i64 s.1)]) (fun s => s.2.2 ++ [(b0, blk (cGm g) 25)]) (fun s => s.1 ≤ g.plan.length ∧ Vec 140 2 s.2.1 s.1 (flat cChg (g.plan.take s.1)) s.2.2) (fun s => g.plan.length - s.1) (0, .slice none 0 0, []) ?_ ?_ ?_ ?_
 ·exact ⟨Nat.zero_le _, .nil⟩
 ·exact .cons rfl (.cons rfl .nil)
 ·exact fun _ h => h
 ·rintro ⟨i, v0, G0⟩ y3 ⟨hi, hV0⟩
  dsimp only at hi hV0 ⊢
  obtain ⟨a3, c0, rfl⟩ := hV0.slice
  refine ZCI ?_
  refine KC (fun q0 q0n => ?_) (fun q0 q0n => ?_)
  ·refine ZDp ?_
   obtain ⟨bx, ox, hqa, hrx⟩ := hg.nq.row (i := i) o_m
   obtain ⟨c, hc0⟩ : ∃ c, g.plan[i]? = some c := ⟨_, List.getElem?_eq_getElem o_m⟩
   refine ZCB ?_
   refine ZAo ?_
   refine RZ (x_load rfl rfl (at_own (v := .slice (some ⟨bx, ox, none⟩) g.plan.length g.qc) (b := b0) (l := cGm g) (List.mem_append_right _ (.head _)) (by rw [← hqa]; rfl))) rfl ?_
   refine Rl ?_
   refine RY (idx_slice (s := 2) i rfl rfl rfl rfl o_m) rfl ?_
   refine RZ (x_loadA rfl rfl rfl (fun w hw => (row_old hrx y_z w hw).nth' cChg_len hc0)) rfl ?_
   refine RX (x_slc (z := [.int .u64 0, .int .u8 0]) (l := cChg c) (ps := [(0, .agg (cChg c).toArray)]) rfl rfl rfl rfl rfl rfl) rfl ?_
   rintro _ _ ⟨b1, rfl, rfl⟩
   refine RX (x_append (A := [(b1, _)]) (G := G0) (R := [(b0, blk (cGm g) 25)]) (v := .slice a3 i c0) (n := i) (xs := flat cChg (g.plan.take i)) (m := 1) (T := 140) (s := 2) (by_ := 16) (ys := cChg c) rfl rfl rfl rfl hV0 (fun w hw => .row _ _ _ _ _ rfl (row_own (b := b1) (.head _) w hw)) rfl o_m o_m) rfl ?_
   rintro v1 _ ⟨G1, hV1, _, rfl⟩
   obtain ⟨a18, cx1, rfl⟩ := hV1.slice
   refine ZAB ?_
   refine ZC2 ?_
   exact ⟨(i + 1, _, G1), ⟨y_D, hV1.as rfl (by show _ = flat cChg (g.plan.take (i + 1)); rw [get_part hc0, flat_snoc])⟩, by show g.plan.length - (i + 1) < g.plan.length - i; omega, .cons rfl (.cons rfl .nil), a_g, fun _ h => h.sub (List.Sublist.append_left (.cons _ (List.Sublist.refl _)) _)⟩
  ·refine ZBa ?_
   refine ZA0 ?_
   obtain rfl : i = g.plan.length := by omega
   rw [List.take_length] at hV0
   refine ZAP ?_
   refine ZAs ?_
   exact EV rfl (List.sublist_append_left _ _) ⟨_, _, rfl, hV0, hg.plan, hp⟩
theorem newLO (ob : Nat) (rom : List Int) (hl : rom.length ≤ 100000000) (hb : Byts rom) (he : errH rom = 0) (pa : Option Addr) (n pc : Nat) (ms : List Nat) (w : World) (hst : St w ms [(ob, blk (rom.map (Value.int .u8)) 5)] w) :
  Does Tryz.prog 11 [.slice (some ⟨ob, 0, none⟩) rom.length rom.length, .slice pa n pc] w ms (fun v H => ∃ q : MA, q.A.ob = ob ∧ q.Ok pa n pc ∧ v = .tuple #[pM q, .int .i64 0] ∧ H = hM q (newM rom)) := by
 refine Does.frame (F := []) (G := [(ob, blk (rom.map (Value.int .u8)) 5)]) hst (fun b hb => by cases hb) (newM_fn ob rom.length rom hl hb (Nat.le_refl _) pa n pc w (row_own (.head _) w hst)) ?_
 rintro v H w' (⟨h1, _⟩ | ⟨_, mb, ub, rb, tb, oT, hT, rfl, rfl⟩) hw
 ·exact absurd he h1
 have hn := hw.nodup
 simp only [List.cons_append, List.nil_append, List.map_cons, List.map_nil, List.nodup_cons, List.mem_cons, List.not_mem_nil, or_false, not_or] at hn
 refine ⟨_, St.perm_ix 5 [3, 0, 2, 1, 4] y_c rfl (L' := hM ⟨newA mb ub rb tb ob rom.length [] (.slice pa n pc) (hdH rom).ram.toNat, tb, oT, .slice none 0 0⟩ (newM rom)) (by simp only [hM, newA, List.append_nil]; rfl) hw, ⟨newA mb ub rb tb ob rom.length [] (.slice pa n pc) (hdH rom).ram.toNat, tb, oT, .slice none 0 0⟩, rfl, ⟨⟨?_, ?_⟩, hT, rfl, rfl, _, _, _, rfl⟩, rfl, rfl⟩
 ·show rb ∉ [mb, ub]
  simp only [List.mem_cons, List.not_mem_nil, or_false, not_or]
  exact ⟨fun h => hn.1.1 h.symm, fun h => hn.2.1.1 h⟩
 ·show ob ∉ [mb, ub]
  simp only [List.mem_cons, List.not_mem_nil, or_false, not_or]
  exact ⟨fun h => hn.1.2.2.2 h.symm, fun h => hn.2.2.1.2 h.symm⟩
theorem newL (ob : Nat) (rom : List Int) (hl : rom.length ≤ 100000000) (hb : Byts rom) (he : errH rom = 0) (pa : Option Addr) (n pc : Nat) (ms : List Nat) (w : World) (hst : St w ms [(ob, blk (rom.map (Value.int .u8)) 5)] w) :
  Does Tryz.prog 11 [.slice (some ⟨ob, 0, none⟩) rom.length rom.length, .slice pa n pc] w ms (fun v H => ∃ q : MA, q.Ok pa n pc ∧ v = .tuple #[pM q, .int .i64 0] ∧ H = hM q (newM rom)) :=
 (newLO ob rom hl hb he pa n pc ms w hst).mono fun _ _ ⟨q, _, h⟩ => ⟨q, h⟩
theorem made1_fn (b6 : Nat) (w : World) (hr : Row w b6 0 (([62, 18] : List Int).map (Value.int .u8))) : Does Tryz.prog 39 [.int .u8 0, .int .u8 0, .int .u8 0, .slice (some ⟨b6, 0, none⟩) 2 2] w [] (fun v H => ∃ b, v = .slice (some ⟨b, 0, none⟩) rom1.length rom1.length ∧ H = [(b, blk (rom1.map (Value.int .u8)) 5)]) :=
 (made_fn 0 0 0 y_c y_c y_c _ 2 [62, 18] y_c (by unfold Byts; decide) w (Ns.of hr)).mono fun _ _ ⟨b, h1, h2⟩ => ⟨b, by rw [h1, show rom1.length = romS 0 from madeI_len _ _ _ _], h2⟩
theorem rom1_byts : Byts rom1 := madeI_byts y_c y_c (by unfold Byts; decide)
theorem rom1_inv : MInv (newM rom1) True (newM rom1) := newM_inv rom1_err rom1_byts
theorem m1_inv : MInv (newM rom1) True m1 := rom1_inv.step (fun _ h => y_eI)
theorem awake_fn (w : World) : Does Tryz.prog 9 [] w [] (fun v H => H = [] ∧ v = .bool true) := by
 refine does_of Tryz.func9 rfl rfl rfl (St.refl w) ?_
 refine ZAa ?_
 refine ZAA ?_
 refine RX (x_slc (z := [.int .u8 0]) (l := [.int .u8 62, .int .u8 18]) (ps := [(0, .int .u8 62), (1, .int .u8 18)]) rfl rfl rfl rfl rfl rfl) rfl ?_
 refine ZC8 fun b0 => ?_
 refine RX (x_call call_39 rfl (fun w hw => made1_fn b0 w (row_own (b := b0) (.head _) w hw))) rfl ?_
 rintro _ _ ⟨G0, ⟨b1, rfl, rfl⟩, rfl⟩
 refine l_heap (fun _ h => h.sub (.cons_cons _ (List.nil_sublist _))) (H' := [(b1, blk (rom1.map (Value.int .u8)) 5)]) ?_
 refine RX (x_callA call_11 rfl (fun w hw => newL b1 rom1 (by rw [show rom1.length = romS 0 from madeI_len _ _ _ _]; decide) rom1_byts rom1_err none 0 0 _ w (St.lentA hw))) rfl ?_
 rintro _ _ ⟨q, hq, rfl, rfl⟩
 refine ZBA ?_
 refine ZA1 ?_
 refine ZAd ?_
 refine L_2 ?_
 refine ZAd ?_
 refine ZAB ?_
 refine ZAK ?_
 refine ZAV ?_
 refine RX (x_callA call_19 rfl (fun w hw => stepL q none 0 [] hq (fun _ h => y_eI) y_c (newM rom1) rom1_inv _ w (St.lentA hw) (Els.nil _ _ _) (fun _ h => y_eI))) rfl ?_
 rintro _ _ ⟨oT, va, G, hq2, rfl, hV, rfl⟩
 obtain ⟨a9, c0, rfl⟩ := hV.slice
 refine ZBQ ?_
 refine ZD4 fun b2 => ?_
 refine RZ (x_storeTo (l' := cDd (stepM [] (newM rom1)).1) 0 rfl rfl rfl rfl rfl rfl (Nat.le_of_ble_eq_true rfl) rfl) rfl ?_
 refine ZAC ?_
 refine ZAB ?_
 refine ZAA ?_
 refine RLa ?_
 refine RZ (x_load rfl rfl (at_own (v := .int .i64 1) (b := b2) (l := cDd (stepM [] (newM rom1)).1) (.head _) (by rw [← m1_what]; rfl))) rfl ?_
 refine ZAf ?_
 refine L_2 ?_
 refine RW (v := (.int .i64 2)) l_n rfl (congrArg _ (show ((m1.acc.length : Nat) : Int) = 2 by rw [m1_acc]; rfl)) ?_
 refine ZAf ?_
 refine ZBQ ?_
 refine RLv call_23 (fun w hw => stateM_fn q.A _ m1 m1_inv.wf.ln w (row_own (b := q.A.mb) (l := cMm q.A (.slice a9 (stepM [] (newM rom1)).2.acc.length c0) m1) (.tail _ (List.mem_append_right _ (.tail _ (.head _)))) w hw)) ?_
 refine Rl ?_
 refine RW (v := (.int .u8 18)) (light_fs rfl rfl rfl rfl rfl) rfl (congrArg _ m1_a) ?_
 refine ZAf ?_
 refine ZBQ ?_
 refine RLv call_24 (fun w hw => cyclesM_fn q.A _ m1 m1_inv.wf.ln w (row_own (b := q.A.mb) (l := cMm q.A (.slice a9 (stepM [] (newM rom1)).2.acc.length c0) m1) (.tail _ (List.mem_append_right _ (.tail _ (.head _)))) w hw)) ?_
 refine Rl ?_
 refine ZAf ?_
 refine L_2 ?_
 refine RLv call_29 (fun w hw => stepsM_fn q.A _ m1 m1_inv.wf.ln w (row_own (b := q.A.mb) (l := cMm q.A (.slice a9 (stepM [] (newM rom1)).2.acc.length c0) m1) (.tail _ (List.mem_append_right _ (.tail _ (.head _)))) w hw)) ?_
 refine ZAf ?_
 refine ZBQ ?_
 refine RX (x_callT (F := (b2, blk (cDd (stepM [] (newM rom1)).1) 52) :: G) (A := hM ⟨q.A, q.tb, oT, .slice a9 (stepM [] (newM rom1)).2.acc.length c0⟩ m1) call_31 rfl (fun w hw => encodeL _ m1 m1_inv.wf m1_inv.rg (by rw [m1_inv.fr.ram]; have := newM_ram rom1; omega) _ w (St.lentV hw))) rfl ?_
 rintro _ _ ⟨_, ⟨b3, cx1, sp0, rfl, hc0, rfl⟩, rfl⟩
 refine ZCU ?_
 refine l_sure true rfl rfl rfl (decide_eq_true (by rw [encA_len m1_inv.wf]; omega)) ?_
 refine ZAs ?_
 exact EV rfl (List.nil_sublist _) ⟨rfl, rfl⟩
end Go.Proofs.YtldehodcfajpjaaGreat
