/- What runs: orders. -/
import Derived.Test.YtldehodcfajpjaaGreatQcT
set_option linter.unusedSimpArgs false
set_option linter.unusedVariables false
set_option maxRecDepth 100000
set_option maxHeartbeats 4000000
namespace Go.Proofs.YtldehodcfajpjaaGreat
open Go Go.VV Go.Proofs
theorem rturn_fn (o : Opr) (b : Nat) (a f : Int) (ha : 0 ≤ a ∧ a < 256) (hf : 0 ≤ f ∧ f < 256) (w : World) (hr : Row w b 0 (cO o)) : Does Tryz.prog 202 [.int .u8 a, .int .u8 f, .pointer (some ⟨b, 0, none⟩)] w [] (fun v H => H = [] ∧ v = .tuple #[.int .u8 (turnR o.x a f), .int .u8 (turnF o.x a f)]) := by
 refine does_of Tryz.func202 rfl rfl rfl (St.refl w) ?_
 refine ZAS ?_
 refine ZAA ?_
 refine RLa ?_
 refine RZ (x_load rfl rfl (at_old (hr 1 _ rfl) y_z)) rfl ?_
 refine L_2 ?_
 refine RLv call_203 (fun w hw => turn_fn o.x a f ha hf w) ?_
 refine ZCE ?_
 refine c_ret ?_
 exact l_end0 (fun _ _ => rets_two rfl rfl) ⟨rfl, rfl⟩
theorem rbytes_fn {β : Type} (K : BusK Tryz.prog β) (rb : Nat) {bn : Nat} (x : Rn β) (h : RunOk K.toBusO (bn + 2) x) (G : Heap) (hG : K.rep x.m G) (o : Opr) (ho : OpOk o) (w : World) (hst : St w (rb :: G.map (·.1)) ((rb, blk (cN K x.s) 211) :: G) w) : Does Tryz.prog 155 [.pointer (some ⟨rb, 0, none⟩), .agg (cO o).toArray] w (rb :: G.map (·.1)) (fun v H => v = .bool (isB o.kind) ∧ RunH K rb (effB K.toBusA o x) H) := by
 have hn9 := ho.n
 have hgy9 := h.gett o.y
 have hgx9 := h.gett o.x
 have ha9 := h.r.a
 have hf9 := h.r.f
 refine does_of Tryz.func155 rfl rfl rfl hst ?_
 refine ZEe ?_
 refine ZC8 fun b0 => ?_
 refine ZEm ?_
 refine DR [6, 7, 8, 9] (pln [0, 2, 4, 6, 8, 10, 12, 14, 16, 18, 20]) ?_
 refine D_8 ?_
 refine ZCJ ?_
 refine ZCz ?_
 refine ZBV ?_
 refine ZAS ?_
 refine KC (fun q0 q0n => ?_) (fun q0 q0n => ?_)
 ·refine ZD1 ?_
  refine ZBT fun G0 hG0 => ?_
  refine DX rfl (x_callT (F := [(b0, _)]) (A := (rb, _) :: _) call_196 rfl (fun w hw => rset_fn K rb (x.mem (gett K.toBusA o.y x).2.m) (h.gmem o.y) G0 hG0 o.x (gett K.toBusA o.y x).1 hgy9.2 w (St.lentV hw))) rfl n_h ?_
  refine ZCy fun G1 hG1 => ?_
  refine ZEb ?_
  refine ZAY ?_
  have e9 : effB K.toBusA o x = sett K.toBusA o.x (gett K.toBusA o.y x).1 (x.mem (gett K.toBusA o.y x).2.m) := by unfold effB; rw [if_pos o_m]; rw [← gett_mem]
  exact EV rfl (.cons _ (List.Sublist.refl _)) ⟨congrArg Value.bool (decide_eq_true o_m : isB o.kind = true).symm, G1, y_s, y_8⟩
 ·refine ZAS ?_
  refine KC (fun q1 q1n => ?_) (fun q1 q1n => ?_)
  ·refine ZBj ?_
   refine RX (x_callT (F := [(b0, _)]) (A := (rb, _) :: _) call_196 rfl (fun w hw => rset_fn K rb x h G hG o.x (o.n % 256) o_m w (St.lentV hw))) rfl ?_
   refine ZB3 fun G0 hG0 => ?_
   refine ZAb ?_
   refine ZAY ?_
   have e9 : effB K.toBusA o x = sett K.toBusA o.x (o.n % 256) x := by unfold effB; rw [if_neg o_m]; rw [if_pos o_m]
   exact EV rfl (.cons _ (List.Sublist.refl _)) ⟨congrArg Value.bool (decide_eq_true o_m : isB o.kind = true).symm, G0, y_s, y_2⟩
  ·refine ZAS ?_
   refine KC (fun q2 q2n => ?_) (fun q2 q2n => ?_)
   ·refine ZD1 ?_
    refine ZBT fun G0 hG0 => ?_
    refine DX rfl (x_callT (F := [(b0, _)]) (A := (rb, _) :: _) call_198 rfl (fun w hw => rsum_fn K rb (x.mem (gett K.toBusA o.y x).2.m) (h.gmem o.y) G0 hG0 o.x (gett K.toBusA o.y x).1 hgy9.2 w (St.lentV hw))) rfl n_h ?_
    refine ZCy fun G1 hG1 => ?_
    refine ZEb ?_
    refine ZAY ?_
    have e9 : effB K.toBusA o x = (x.mem (gett K.toBusA o.y x).2.m).reg (sumR x.s.r o.x (gett K.toBusA o.y x).1) := by unfold effB; (iterate 2 rw [if_neg o_m]); rw [if_pos o_m]; rw [← gett_mem, gett_s]
    exact EV rfl (.cons _ (List.Sublist.refl _)) ⟨congrArg Value.bool (decide_eq_true o_m : isB o.kind = true).symm, G1, y_s, y_8⟩
   ·refine ZAS ?_
    refine KC (fun q3 q3n => ?_) (fun q3 q3n => ?_)
    ·refine ZBj ?_
     refine RX (x_callT (F := [(b0, _)]) (A := (rb, _) :: _) call_198 rfl (fun w hw => rsum_fn K rb x h G hG o.x (o.n % 256) o_m w (St.lentV hw))) rfl ?_
     refine ZB3 fun G0 hG0 => ?_
     refine ZAb ?_
     refine ZAY ?_
     have e9 : effB K.toBusA o x = x.reg (sumR x.s.r o.x (o.n % 256)) := by unfold effB; (iterate 3 rw [if_neg o_m]); rw [if_pos o_m]
     exact EV rfl (.cons _ (List.Sublist.refl _)) ⟨congrArg Value.bool (decide_eq_true o_m : isB o.kind = true).symm, G0, y_s, y_2⟩
    ·refine ZAS ?_
     refine KC (fun q4 q4n => ?_) (fun q4 q4n => ?_)
     ·refine ZB2 ?_
      refine RX (x_callT (F := [(b0, _)]) (A := (rb, _) :: _) call_199 rfl (fun w hw => rchange_fn K rb x (h.le o_m : RunOk K.toBusO (bn + 2) x) G hG o.x 200 [] [] call_200 (fun v f => (incR v, incF v f)) (fun a f ha hf => ⟨incR_ok, fl_byte _ _ _ _⟩) w (St.lentV hw) (fun w' _ a f _ ha hf => inc_fn a f ha hf w'))) rfl ?_
      refine ZB3 fun G0 hG0 => ?_
      refine ZAb ?_
      refine ZAY ?_
      have e9 : effB K.toBusA o x = change K.toBusA o.x (fun v f => (incR v, incF v f)) x := by unfold effB; (iterate 4 rw [if_neg o_m]); rw [if_pos o_m]
      exact EV rfl (.cons _ (List.Sublist.refl _)) ⟨congrArg Value.bool (decide_eq_true o_m : isB o.kind = true).symm, G0, y_s, y_2⟩
     ·refine ZAS ?_
      refine KC (fun q5 q5n => ?_) (fun q5 q5n => ?_)
      ·refine ZB2 ?_
       refine RX (x_callT (F := [(b0, _)]) (A := (rb, _) :: _) call_199 rfl (fun w hw => rchange_fn K rb x (h.le o_m : RunOk K.toBusO (bn + 2) x) G hG o.x 201 [] [] call_201 (fun v f => (decR v, decF v f)) (fun a f ha hf => ⟨decR_ok, fl_byte _ _ _ _⟩) w (St.lentV hw) (fun w' _ a f _ ha hf => decA_fn a f ha hf w'))) rfl ?_
       refine ZB3 fun G0 hG0 => ?_
       refine ZAb ?_
       refine ZAY ?_
       have e9 : effB K.toBusA o x = change K.toBusA o.x (fun v f => (decR v, decF v f)) x := by unfold effB; (iterate 5 rw [if_neg o_m]); rw [if_pos o_m]
       exact EV rfl (.cons _ (List.Sublist.refl _)) ⟨congrArg Value.bool (decide_eq_true o_m : isB o.kind = true).symm, G0, y_s, y_2⟩
      ·refine ZAS ?_
       refine KC (fun q6 q6n => ?_) (fun q6 q6n => ?_)
       ·refine ZB2 ?_
        refine RW (v := (.func (.func 202) (List.toArray []) (List.toArray [.pointer (some ⟨b0, 0, none⟩)]))) rfl rfl y_cc ?_
        refine RX (x_callT (F := [(b0, _)]) (A := (rb, _) :: _) call_199 rfl (fun w hw => rchange_fn K rb x (h.le o_m : RunOk K.toBusO (bn + 2) x) G hG o.y 202 [] [.pointer (some ⟨b0, 0, none⟩)] call_202 (fun v f => (turnR o.x v f, turnF o.x v f)) (fun a f ha hf => ⟨turnR_ok ha, fl_byte _ _ _ _⟩) w (St.lentV hw) (fun w' H' a f hw' ha hf => rturn_fn o b0 a f ha hf w' (row_old (row_own (l := cO o) (List.mem_append_right _ (.head _)) w hw) (St.notin hw (.head _)) w' hw')))) rfl ?_
        refine ZB3 fun G0 hG0 => ?_
        refine ZAb ?_
        refine ZAY ?_
        have e9 : effB K.toBusA o x = change K.toBusA o.y (fun v f => (turnR o.x v f, turnF o.x v f)) x := by unfold effB; (iterate 6 rw [if_neg o_m]); rw [if_pos o_m]
        exact EV rfl (.cons _ (List.Sublist.refl _)) ⟨congrArg Value.bool (decide_eq_true o_m : isB o.kind = true).symm, G0, y_s, y_2⟩
       ·refine ZAS ?_
        refine KC (fun q7 q7n => ?_) (fun q7 q7n => ?_)
        ·refine ZA0 ?_
         refine DR [3, 4, 5, 6, 7, 8, 9] (pln [0, 2, 4, 6, 8, 10, 12, 14, 16, 18, 21, 22, 24, 26, 28, 30, 32, 34, 37, 38]) ?_
         refine D_10 ?_
         refine DZ rfl (x_val call_203 rfl (fun w hw => turn_fn o.x x.s.r.a x.s.r.f h.r.a h.r.f w)) rfl n_h ?_
         refine ZCX ?_
         refine D_6 ?_
         refine DZ rfl (x_storeTo (l' := cN K { x.s with r := { x.s.r with a := turnR o.x x.s.r.a x.s.r.f } }) 1 rfl rfl rfl rfl rfl rfl (Nat.le_of_ble_eq_true rfl) rfl) rfl n_h ?_
         refine c_u ?_
         refine ZC9 ?_
         refine ZAo ?_
         refine RW (v := (.int .u8 (fl false false false (turnO o.x x.s.r.a)))) (l_and rfl rfl) rfl (congrArg _ (band_fl16 _ _ _ _)) ?_
         refine L_4 ?_
         refine RZ (x_storeTo (l' := cN K { x.s with r := { x.s.r with a := turnR o.x x.s.r.a x.s.r.f, f := fl false false false (turnO o.x x.s.r.a) } }) 1 rfl rfl rfl rfl rfl rfl (Nat.le_of_ble_eq_true rfl) rfl) rfl ?_
         refine ZBE ?_
         refine ZAY ?_
         have e9 : effB K.toBusA o x = x.reg { x.s.r with a := turnR o.x x.s.r.a x.s.r.f, f := fl false false false (turnO o.x x.s.r.a) } := by unfold effB; (iterate 7 rw [if_neg o_m]); rw [if_pos o_m]
         exact EV rfl (.cons _ (List.Sublist.refl _)) ⟨congrArg Value.bool (decide_eq_true o_m : isB o.kind = true).symm, G, y_s, y_d7⟩
        ·refine ZAS ?_
         refine KC (fun q8 q8n => ?_) (fun q8 q8n => ?_)
         ·refine c_draw [(b0, blk (cO o) 50)] [3, 4, 5, 6, 7] (.step true 0 (.step true 1 (.step true 2 (.step true 3 (.step true 4 (.step true 5 (.step true 7 (.step false 6 (.step false 8 (.step true 9 (.step true 10 (.step true 11 (.step true 12 (.step false 13 .done)))))))))))))) rfl y_g y_g (fun x hx => y_5) ?_
          refine D_7 ?_
          refine ZBT fun G0 hG0 => ?_
          refine DZ rfl (x_val call_204 rfl (fun w hw => bitA_fn o.x (gett K.toBusA o.y x).1 x.s.r.f hgy9.2 h.r.f w)) rfl n_h ?_
          refine D_4 ?_
          refine DZ rfl (x_storeTo (l' := cN K { x.s with r := { x.s.r with f := bitF o.x (gett K.toBusA o.y x).1 x.s.r.f } }) 1 rfl rfl rfl rfl rfl rfl (Nat.le_of_ble_eq_true rfl) rfl) rfl n_h ?_
          refine c_u ?_
          refine ZEb ?_
          refine ZAY ?_
          have e9 : effB K.toBusA o x = (x.mem (gett K.toBusA o.y x).2.m).reg { x.s.r with f := bitF o.x (gett K.toBusA o.y x).1 x.s.r.f } := by unfold effB; (iterate 8 rw [if_neg o_m]); rw [if_pos o_m]; rw [← gett_mem, gett_s]
          exact EV rfl (.cons _ (List.Sublist.refl _)) ⟨congrArg Value.bool (decide_eq_true o_m : isB o.kind = true).symm, G0, y_s, y_2⟩
         ·refine ZAS ?_
          refine KC (fun q9 q9n => ?_) (fun q9 q9n => ?_)
          ·refine ZDA ?_
           refine DW (v := (.int .u8 (shl .u8 1 o.x))) rfl (shl_pos rfl rfl ho.x.1) rfl rfl ?_
           refine ZBT fun G0 hG0 => ?_
           refine DW (v := (.int .u8 (resB (gett K.toBusA o.y x).1 o.x))) rfl (l_andn rfl rfl) rfl (congrArg _ (res_law hgy9.2 ho.x)) ?_
           refine DX rfl (x_callT (F := [(b0, _)]) (A := (rb, _) :: _) call_196 rfl (fun w hw => rset_fn K rb (x.mem (gett K.toBusA o.y x).2.m) (h.gmem o.y) G0 hG0 o.y (resB (gett K.toBusA o.y x).1 o.x) (bits_ok hgy9.2 ho.x).1 w (St.lentV hw))) rfl n_h ?_
           refine ZCy fun G1 hG1 => ?_
           refine ZEb ?_
           refine ZAY ?_
           have e9 : effB K.toBusA o x = sett K.toBusA o.y (resB (gett K.toBusA o.y x).1 o.x) (x.mem (gett K.toBusA o.y x).2.m) := by unfold effB; (iterate 9 rw [if_neg o_m]); rw [if_pos o_m]; rw [← gett_mem]
           exact EV rfl (.cons _ (List.Sublist.refl _)) ⟨congrArg Value.bool (decide_eq_true o_m : isB o.kind = true).symm, G1, y_s, y_8⟩
          ·refine ZAS ?_
           refine KC (fun q10 q10n => ?_) (fun q10 q10n => ?_)
           ·refine ZDA ?_
            refine DW (v := (.int .u8 (shl .u8 1 o.x))) rfl (shl_pos rfl rfl ho.x.1) rfl rfl ?_
            refine ZBT fun G0 hG0 => ?_
            refine DW (v := (.int .u8 (setB (gett K.toBusA o.y x).1 o.x))) rfl (l_or rfl rfl) rfl (congrArg _ (set_law hgy9.2 ho.x)) ?_
            refine DX rfl (x_callT (F := [(b0, _)]) (A := (rb, _) :: _) call_196 rfl (fun w hw => rset_fn K rb (x.mem (gett K.toBusA o.y x).2.m) (h.gmem o.y) G0 hG0 o.y (setB (gett K.toBusA o.y x).1 o.x) (bits_ok hgy9.2 ho.x).2 w (St.lentV hw))) rfl n_h ?_
            refine ZCy fun G1 hG1 => ?_
            refine ZEb ?_
            refine ZAY ?_
            have e9 : effB K.toBusA o x = sett K.toBusA o.y (setB (gett K.toBusA o.y x).1 o.x) (x.mem (gett K.toBusA o.y x).2.m) := by unfold effB; (iterate 10 rw [if_neg o_m]); rw [if_pos o_m]; rw [← gett_mem]
            exact EV rfl (.cons _ (List.Sublist.refl _)) ⟨congrArg Value.bool (decide_eq_true o_m : isB o.kind = true).symm, G1, y_s, y_8⟩
           ·refine ZAS ?_
            refine KC (fun q11 q11n => ?_) (fun q11 q11n => ?_)
            ·refine ZAP ?_
             refine L_9 ?_
             refine RLv call_205 (fun w hw => daa_fn x.s.r.a x.s.r.f h.r.a h.r.f w) ?_
             refine L_7 ?_
             refine RZ (x_storeTo (l' := cN K { x.s with r := { x.s.r with a := daaR x.s.r.a x.s.r.f } }) 1 rfl rfl rfl rfl rfl rfl (Nat.le_of_ble_eq_true rfl) rfl) rfl ?_
             refine c_u ?_
             refine L_4 ?_
             refine RZ (x_storeTo (l' := cN K { x.s with r := { x.s.r with a := daaR x.s.r.a x.s.r.f, f := daaF x.s.r.a x.s.r.f } }) 1 rfl rfl rfl rfl rfl rfl (Nat.le_of_ble_eq_true rfl) rfl) rfl ?_
             refine ZBE ?_
             refine ZAY ?_
             have e9 : effB K.toBusA o x = x.reg { x.s.r with a := daaR x.s.r.a x.s.r.f, f := daaF x.s.r.a x.s.r.f } := by unfold effB; (iterate 11 rw [if_neg o_m]); rw [if_pos o_m]
             exact EV rfl (.cons _ (List.Sublist.refl _)) ⟨congrArg Value.bool (decide_eq_true o_m : isB o.kind = true).symm, G, y_s, y_d7⟩
            ·refine ZAS ?_
             refine KC (fun q12 q12n => ?_) (fun q12 q12n => ?_)
             ·refine ZAA ?_
              refine L_7 ?_
              refine RW (v := (.int .u8 (255 - x.s.r.a))) rfl rfl (congrArg _ (not_law h.r.a)) ?_
              refine L_4 ?_
              refine RZ (x_storeTo (l' := cN K { x.s with r := { x.s.r with a := 255 - x.s.r.a } }) 1 rfl rfl rfl rfl rfl rfl (Nat.le_of_ble_eq_true rfl) rfl) rfl ?_
              refine ZBE ?_
              refine ZAo ?_
              refine RW (v := (.int .u8 (band .u8 x.s.r.f 144))) (l_and rfl rfl) rfl rfl ?_
              refine RW (v := (.int .u8 (bor .u8 (band .u8 x.s.r.f 144) 64))) (l_or rfl rfl) rfl rfl ?_
              refine RW (v := (.int .u8 (fl (zF x.s.r.f) true true (cF x.s.r.f)))) (l_or rfl rfl) rfl (congrArg _ (cpl_law h.r.f)) ?_
              refine L_4 ?_
              refine RZ (x_storeTo (l' := cN K { x.s with r := { x.s.r with a := 255 - x.s.r.a, f := fl (zF x.s.r.f) true true (cF x.s.r.f) } }) 1 rfl rfl rfl rfl rfl rfl (Nat.le_of_ble_eq_true rfl) rfl) rfl ?_
              refine ZBE ?_
              refine ZAY ?_
              have e9 : effB K.toBusA o x = x.reg { x.s.r with a := 255 - x.s.r.a, f := fl (zF x.s.r.f) true true (cF x.s.r.f) } := by unfold effB; (iterate 12 rw [if_neg o_m]); rw [if_pos o_m]
              exact EV rfl (.cons _ (List.Sublist.refl _)) ⟨congrArg Value.bool (decide_eq_true o_m : isB o.kind = true).symm, G, y_s, y_d7⟩
             ·refine ZAS ?_
              refine KC (fun q13 q13n => ?_) (fun q13 q13n => ?_)
              ·refine ZAo ?_
               refine RW (v := (.int .u8 (band .u8 x.s.r.f 128))) (l_and rfl rfl) rfl rfl ?_
               refine RW (v := (.int .u8 (fl (zF x.s.r.f) false false true))) (l_or rfl rfl) rfl (congrArg _ (scf_law h.r.f)) ?_
               refine L_4 ?_
               refine RZ (x_storeTo (l' := cN K { x.s with r := { x.s.r with f := fl (zF x.s.r.f) false false true } }) 1 rfl rfl rfl rfl rfl rfl (Nat.le_of_ble_eq_true rfl) rfl) rfl ?_
               refine ZBE ?_
               refine ZAY ?_
               have e9 : effB K.toBusA o x = x.reg { x.s.r with f := fl (zF x.s.r.f) false false true } := by unfold effB; (iterate 13 rw [if_neg o_m]); rw [if_pos o_m]
               exact EV rfl (.cons _ (List.Sublist.refl _)) ⟨congrArg Value.bool (decide_eq_true o_m : isB o.kind = true).symm, G, y_s, y_d7⟩
              ·refine ZAS ?_
               refine KC (fun q14 q14n => ?_) (fun q14 q14n => ?_)
               ·refine ZAo ?_
                refine RW (v := (.int .u8 (band .u8 x.s.r.f 144))) (l_and rfl rfl) rfl rfl ?_
                refine RW (v := (.int .u8 (fl (zF x.s.r.f) false false (!cF x.s.r.f)))) (l_xor rfl rfl) rfl (congrArg _ (ccf_law h.r.f)) ?_
                refine L_4 ?_
                refine RZ (x_storeTo (l' := cN K { x.s with r := { x.s.r with f := fl (zF x.s.r.f) false false (!cF x.s.r.f) } }) 1 rfl rfl rfl rfl rfl rfl (Nat.le_of_ble_eq_true rfl) rfl) rfl ?_
                refine ZBE ?_
                refine ZAY ?_
                have e9 : effB K.toBusA o x = x.reg { x.s.r with f := fl (zF x.s.r.f) false false (!cF x.s.r.f) } := by unfold effB; (iterate 14 rw [if_neg o_m]); rw [if_pos o_m]
                exact EV rfl (.cons _ (List.Sublist.refl _)) ⟨congrArg Value.bool (decide_eq_true o_m : isB o.kind = true).symm, G, y_s, y_d7⟩
               ·refine ZAY ?_
                exact EV rfl (.cons _ (List.Sublist.refl _)) ⟨congrArg Value.bool (decide_eq_false o_m : isB o.kind = false).symm, G, by rw [effB_no K.toBusA (decide_eq_false o_m)], by rw [effB_no K.toBusA (decide_eq_false o_m)]; exact hG⟩
theorem rwords_fn {β : Type} (K : BusK Tryz.prog β) (rb : Nat) {bn : Nat} (x : Rn β) (h : RunOk K.toBusO (bn + 3) x) (G : Heap) (hG : K.rep x.m G) (o : Opr) (ho : OpOk o) (w : World) (hst : St w (rb :: G.map (·.1)) ((rb, blk (cN K x.s) 211) :: G) w) : Does Tryz.prog 156 [.pointer (some ⟨rb, 0, none⟩), .agg (cO o).toArray] w (rb :: G.map (·.1)) (fun v H => v = .bool (isW o.kind) ∧ RunH K rb (effW K.toBusA o x) H) := by
 have hn9 := ho.n
 have hs9 := h.r.sp
 have hp9 := h.r.setP o.x (inc16_ok (w := (pairR x.s.r o.x)))
 have hm9 := h.r.setP o.x (dec16_ok (w := (pairR x.s.r o.x)))
 have hq9 := (h.r.f_ (fl_byte (zF x.s.r.f) false (decide (4095 < (pairR x.s.r 2) % 4096 + (pairR x.s.r o.x) % 4096)) (decide (65535 < (pairR x.s.r 2) + (pairR x.s.r o.x))))).setP 2 (add16R_ok (a := (pairR x.s.r 2)) (b := (pairR x.s.r o.x)))
 refine does_of Tryz.func156 rfl rfl rfl hst ?_
 refine ZEe ?_
 refine ZC8 fun b0 => ?_
 refine ZAB ?_
 refine ZAa ?_
 refine ZBV ?_
 refine ZAS ?_
 refine KC (fun q0 q0n => ?_) (fun q0 q0n => ?_)
 ·refine ZCx ?_
  refine RX (x_callT (F := [(b0, _)]) (A := (rb, _) :: _) call_206 rfl (fun w hw => rsetPair_fn K rb x h G hG o.x o.n ho.n w (St.lentV hw))) rfl ?_
  refine ZB3 fun G0 hG0 => ?_
  refine ZAb ?_
  refine ZAY ?_
  have e9 : effW K.toBusA o x = x.reg (setPR x.s.r o.x o.n) := by unfold effW; rw [if_pos o_m]
  exact EV rfl (.cons _ (List.Sublist.refl _)) ⟨congrArg Value.bool (decide_eq_true o_m : isW o.kind = true).symm, G0, y_s, y_2⟩
 ·refine ZAS ?_
  refine KC (fun q1 q1n => ?_) (fun q1 q1n => ?_)
  ·refine ZA0 ?_
   refine ZDi ?_
   refine ZDq ?_
   refine DW (v := (.int .u16 (inc16 (pairR x.s.r o.x)))) rfl (l_add rfl rfl) rfl (congrArg _ (wrap_u16 _)) ?_
   refine DX rfl (x_callT (F := [(b0, _)]) (A := (rb, _) :: _) call_206 rfl (fun w hw => rsetPair_fn K rb x h G hG o.x (inc16 (pairR x.s.r o.x)) inc16_ok w (St.lentV hw))) rfl n_h ?_
   refine ZB3 fun G0 hG0 => ?_
   refine ZEb ?_
   refine ZAZ ?_
   refine RX (x_callT (F := [(b0, _)]) (A := (rb, _) :: _) call_93 rfl (fun w hw => ridle_fn K rb 1 y_c (x.reg (setPR x.s.r o.x (inc16 (pairR x.s.r o.x)))) (h.reg hp9) G0 hG0 w (St.lentV hw))) rfl ?_
   refine ZCy fun G1 hG1 => ?_
   refine ZAb ?_
   refine ZAY ?_
   have e9 : effW K.toBusA o x = idles K.toBusA 1 (x.reg (setPR x.s.r o.x (inc16 (pairR x.s.r o.x)))) := by unfold effW; rw [if_neg o_m]; rw [if_pos o_m]
   exact EV rfl (.cons _ (List.Sublist.refl _)) ⟨congrArg Value.bool (decide_eq_true o_m : isW o.kind = true).symm, G1, y_s, y_8⟩
  ·refine ZAS ?_
   refine KC (fun q2 q2n => ?_) (fun q2 q2n => ?_)
   ·refine ZA0 ?_
    refine ZDi ?_
    refine ZDq ?_
    refine DW (v := (.int .u16 (dec16 (pairR x.s.r o.x)))) rfl (l_sub rfl rfl) rfl (congrArg _ (wrap_u16 _)) ?_
    refine DX rfl (x_callT (F := [(b0, _)]) (A := (rb, _) :: _) call_206 rfl (fun w hw => rsetPair_fn K rb x h G hG o.x (dec16 (pairR x.s.r o.x)) dec16_ok w (St.lentV hw))) rfl n_h ?_
    refine ZB3 fun G0 hG0 => ?_
    refine ZEb ?_
    refine ZAZ ?_
    refine RX (x_callT (F := [(b0, _)]) (A := (rb, _) :: _) call_93 rfl (fun w hw => ridle_fn K rb 1 y_c (x.reg (setPR x.s.r o.x (dec16 (pairR x.s.r o.x)))) (h.reg hm9) G0 hG0 w (St.lentV hw))) rfl ?_
    refine ZCy fun G1 hG1 => ?_
    refine ZAb ?_
    refine ZAY ?_
    have e9 : effW K.toBusA o x = idles K.toBusA 1 (x.reg (setPR x.s.r o.x (dec16 (pairR x.s.r o.x)))) := by unfold effW; (iterate 2 rw [if_neg o_m]); rw [if_pos o_m]
    exact EV rfl (.cons _ (List.Sublist.refl _)) ⟨congrArg Value.bool (decide_eq_true o_m : isW o.kind = true).symm, G1, y_s, y_8⟩
   ·refine ZAS ?_
    refine KC (fun q3 q3n => ?_) (fun q3 q3n => ?_)
    ·refine ZA0 ?_
     refine DR [2, 6, 7, 8, 9, 10, 11, 12] (pln [0, 2, 6, 8, 10, 14, 16, 18, 20, 22, 24, 5, 13, 27, 28, 30, 32, 34, 36, 38, 40, 42, 45]) ?_
     refine D_11 ?_
     refine DZ rfl (x_val call_207 rfl (fun w hw => rpair_fn K rb x.s h.r w (row_own (l := cN K x.s) m_m w hw) 2)) rfl y_b ?_
     refine ZDq ?_
     refine DZ rfl (x_val call_208 rfl (fun w hw => add16_fn (pairR x.s.r 2) (pairR x.s.r o.x) x.s.r.f (pairR_word h.r 2) (pairR_word h.r o.x) h.r.f w)) rfl n_h ?_
     refine ZCX ?_
     refine D_7 ?_
     refine DZ rfl (x_storeTo (l' := cN K { x.s with r := { x.s.r with f := add16F (pairR x.s.r 2) (pairR x.s.r o.x) x.s.r.f } }) 1 rfl rfl rfl rfl rfl rfl (Nat.le_of_ble_eq_true rfl) rfl) rfl n_h ?_
     refine c_u ?_
     refine ZEb ?_
     refine ZAU ?_
     refine RX (x_callT (F := [(b0, _)]) (A := (rb, _) :: _) call_206 rfl (fun w hw => rsetPair_fn K rb (x.reg { x.s.r with f := add16F (pairR x.s.r 2) (pairR x.s.r o.x) x.s.r.f }) (h.reg (h.r.f_ (fl_byte _ _ _ _))) G hG 2 (add16R (pairR x.s.r 2) (pairR x.s.r o.x)) add16R_ok w (St.lentV hw))) rfl ?_
     refine ZB3 fun G0 hG0 => ?_
     refine ZAb ?_
     refine ZAZ ?_
     refine RX (x_callT (F := [(b0, _)]) (A := (rb, _) :: _) call_93 rfl (fun w hw => ridle_fn K rb 1 y_c (x.reg (setPR { x.s.r with f := add16F (pairR x.s.r 2) (pairR x.s.r o.x) x.s.r.f } 2 (add16R (pairR x.s.r 2) (pairR x.s.r o.x)))) (h.reg hq9) G0 hG0 w (St.lentV hw))) rfl ?_
     refine ZCy fun G1 hG1 => ?_
     refine ZAb ?_
     refine ZAY ?_
     have e9 : effW K.toBusA o x = idles K.toBusA 1 (x.reg (setPR { x.s.r with f := add16F (pairR x.s.r 2) (pairR x.s.r o.x) x.s.r.f } 2 (add16R (pairR x.s.r 2) (pairR x.s.r o.x)))) := by unfold effW; (iterate 3 rw [if_neg o_m]); rw [if_pos o_m]
     exact EV rfl (.cons _ (List.Sublist.refl _)) ⟨congrArg Value.bool (decide_eq_true o_m : isW o.kind = true).symm, G1, y_s, y_8⟩
    ·refine ZAS ?_
     refine KC (fun q4 q4n => ?_) (fun q4 q4n => ?_)
     ·refine ZA0 ?_
      refine DR [8, 9, 10] (pln [0, 2, 4, 6, 8, 10, 12, 14, 16, 18, 20, 23, 24, 26, 28, 30, 32, 34, 36, 39, 40, 42, 44, 46, 49]) ?_
      refine D_10 ?_
      refine ZCJ ?_
      refine DZ rfl (x_val call_209 rfl (fun w hw => shift_fn x.s.r.sp (o.n % 256) h.r.sp o_m w)) rfl n_h ?_
      refine ZCX ?_
      refine D_6 ?_
      refine DZ rfl (x_storeTo (l' := cN K { x.s with r := { x.s.r with sp := shR x.s.r.sp (o.n % 256) } }) 1 rfl rfl rfl rfl rfl rfl (Nat.le_of_ble_eq_true rfl) rfl) rfl n_h ?_
      refine c_u ?_
      refine D_4 ?_
      refine DZ rfl (x_storeTo (l' := cN K { x.s with r := { x.s.r with sp := shR x.s.r.sp (o.n % 256), f := shF x.s.r.sp (o.n % 256) } }) 1 rfl rfl rfl rfl rfl rfl (Nat.le_of_ble_eq_true rfl) rfl) rfl n_h ?_
      refine c_u ?_
      refine ZEb ?_
      refine ZAZ ?_
      refine RX (x_callT (F := [(b0, _)]) (A := (rb, _) :: _) call_93 rfl (fun w hw => ridle_fn K rb 2 y_c (x.reg { x.s.r with sp := shR x.s.r.sp (o.n % 256), f := shF x.s.r.sp (o.n % 256) }) (h.reg ((h.r.sp_ shR_ok).f_ (fl_byte _ _ _ _))) G hG w (St.lentV hw))) rfl ?_
      refine ZB3 fun G0 hG0 => ?_
      refine ZAb ?_
      refine ZAY ?_
      have e9 : effW K.toBusA o x = idles K.toBusA 2 (x.reg { x.s.r with sp := shR x.s.r.sp (o.n % 256), f := shF x.s.r.sp (o.n % 256) }) := by unfold effW; (iterate 4 rw [if_neg o_m]); rw [if_pos o_m]
      exact EV rfl (.cons _ (List.Sublist.refl _)) ⟨congrArg Value.bool (decide_eq_true o_m : isW o.kind = true).symm, G0, y_s, y_2⟩
     ·refine ZAS ?_
      refine KC (fun q5 q5n => ?_) (fun q5 q5n => ?_)
      ·refine ZA0 ?_
       refine DR [7, 8, 9] (pln [0, 2, 4, 6, 8, 10, 12, 14, 16, 18, 21, 22, 24, 26, 28, 30, 32, 34, 36, 39]) ?_
       refine D_9 ?_
       refine ZCJ ?_
       refine DZ rfl (x_val call_209 rfl (fun w hw => shift_fn x.s.r.sp (o.n % 256) h.r.sp o_m w)) rfl n_h ?_
       refine ZCX ?_
       refine D_7 ?_
       refine DZ rfl (x_storeTo (l' := cN K { x.s with r := { x.s.r with f := shF x.s.r.sp (o.n % 256) } }) 1 rfl rfl rfl rfl rfl rfl (Nat.le_of_ble_eq_true rfl) rfl) rfl n_h ?_
       refine c_u ?_
       refine ZEb ?_
       refine ZAU ?_
       refine RX (x_callT (F := [(b0, _)]) (A := (rb, _) :: _) call_206 rfl (fun w hw => rsetPair_fn K rb (x.reg { x.s.r with f := shF x.s.r.sp (o.n % 256) }) (h.reg (h.r.f_ (fl_byte _ _ _ _))) G hG 2 (shR x.s.r.sp (o.n % 256)) shR_ok w (St.lentV hw))) rfl ?_
       refine ZB3 fun G0 hG0 => ?_
       refine ZAb ?_
       refine ZAZ ?_
       refine RX (x_callT (F := [(b0, _)]) (A := (rb, _) :: _) call_93 rfl (fun w hw => ridle_fn K rb 1 y_c (x.reg (setPR { x.s.r with f := shF x.s.r.sp (o.n % 256) } 2 (shR x.s.r.sp (o.n % 256)))) (h.reg ((h.r.f_ (fl_byte _ _ _ _)).setP 2 shR_ok)) G0 hG0 w (St.lentV hw))) rfl ?_
       refine ZCy fun G1 hG1 => ?_
       refine ZAb ?_
       refine ZAY ?_
       have e9 : effW K.toBusA o x = idles K.toBusA 1 (x.reg (setPR { x.s.r with f := shF x.s.r.sp (o.n % 256) } 2 (shR x.s.r.sp (o.n % 256)))) := by unfold effW; (iterate 5 rw [if_neg o_m]); rw [if_pos o_m]
       exact EV rfl (.cons _ (List.Sublist.refl _)) ⟨congrArg Value.bool (decide_eq_true o_m : isW o.kind = true).symm, G1, y_s, y_8⟩
      ·refine ZAS ?_
       refine KC (fun q6 q6n => ?_) (fun q6 q6n => ?_)
       ·refine ZAU ?_
        refine RLv call_207 (fun w hw => rpair_fn K rb x.s h.r w (row_own (l := cN K x.s) m_m w hw) 2) ?_
        refine L_4 ?_
        refine RZ (x_storeTo (l' := cN K { x.s with r := { x.s.r with sp := (pairR x.s.r 2) } }) 1 rfl rfl rfl rfl rfl rfl (Nat.le_of_ble_eq_true rfl) rfl) rfl ?_
        refine ZBE ?_
        refine ZAZ ?_
        refine RX (x_callT (F := [(b0, _)]) (A := (rb, _) :: _) call_93 rfl (fun w hw => ridle_fn K rb 1 y_c (x.reg { x.s.r with sp := (pairR x.s.r 2) }) (h.reg (h.r.sp_ (pairR_word h.r 2))) G hG w (St.lentV hw))) rfl ?_
        refine ZB3 fun G0 hG0 => ?_
        refine ZAb ?_
        refine ZAY ?_
        have e9 : effW K.toBusA o x = idles K.toBusA 1 (x.reg { x.s.r with sp := (pairR x.s.r 2) }) := by unfold effW; (iterate 6 rw [if_neg o_m]); rw [if_pos o_m]
        exact EV rfl (.cons _ (List.Sublist.refl _)) ⟨congrArg Value.bool (decide_eq_true o_m : isW o.kind = true).symm, G0, y_s, y_2⟩
       ·refine ZAS ?_
        refine KC (fun q7 q7n => ?_) (fun q7 q7n => ?_)
        ·refine ZAV ?_
         refine ZA5 fun G0 hG0 => ?_
         refine ZAb ?_
         refine ZBj ?_
         refine RLv call_207 (fun w hw => rpair_fn K rb (idles K.toBusA 1 x).s (h.idleK 1).r w (row_own (l := cN K (idles K.toBusA 1 x).s) m_m w hw) o.x) ?_
         refine RX (x_callT (F := [(b0, _)]) (A := (rb, _) :: _) call_153 rfl (fun w hw => rpush_fn K rb (idles K.toBusA 1 x) (h.idleK 1) G0 hG0 (pairR (idles K.toBusA 1 x).s.r o.x) (pairR_word h.r o.x) w (St.lentV hw))) rfl ?_
         refine ZCy fun G1 hG1 => ?_
         refine ZAb ?_
         refine ZAY ?_
         have e9 : effW K.toBusA o x = push K.toBusA (pairR (idles K.toBusA 1 x).s.r o.x) (idles K.toBusA 1 x) := by unfold effW; (iterate 7 rw [if_neg o_m]); rw [if_pos o_m]
         exact EV rfl (.cons _ (List.Sublist.refl _)) ⟨congrArg Value.bool (decide_eq_true o_m : isW o.kind = true).symm, G1, y_s, y_8⟩
        ·refine ZAS ?_
         refine KC (fun q8 q8n => ?_) (fun q8 q8n => ?_)
         ·refine ZAV ?_
          refine RX (x_callT (F := [(b0, _)]) (A := (rb, _) :: _) call_210 rfl (fun w hw => rpop_fn K rb x h G hG w (St.lentV hw))) rfl ?_
          refine ZB3 fun G0 hG0 => ?_
          refine ZAB ?_
          refine ZBj ?_
          refine RX (x_callT (F := [(b0, _)]) (A := (rb, _) :: _) call_206 rfl (fun w hw => rsetPair_fn K rb (pop K.toBusA x).2 h.pop.1 G0 hG0 o.x (pop K.toBusA x).1 h.pop.2 w (St.lentV hw))) rfl ?_
          refine ZCy fun G1 hG1 => ?_
          refine ZAb ?_
          refine ZAY ?_
          have e9 : effW K.toBusA o x = (pop K.toBusA x).2.reg (setPR (pop K.toBusA x).2.s.r o.x (pop K.toBusA x).1) := by unfold effW; (iterate 8 rw [if_neg o_m]); rw [if_pos o_m]
          exact EV rfl (.cons _ (List.Sublist.refl _)) ⟨congrArg Value.bool (decide_eq_true o_m : isW o.kind = true).symm, G1, y_s, y_8⟩
         ·refine ZAS ?_
          refine KC (fun q9 q9n => ?_) (fun q9 q9n => ?_)
          ·refine ZA0 ?_
           refine DR [4, 5, 6, 7, 8, 9, 10, 11, 12, 13, 14] (pln [0, 2, 4, 6, 8, 10, 12, 14, 16, 18, 20, 22, 24, 26, 28, 31]) ?_
           refine D_12 ?_
           refine ZCJ ?_
           refine D_2 ?_
           refine DX rfl (x_callIT (F := [(b0, _), (rb, _)]) (A := G) rfl K.mW K.cW rfl (fun w hw => K.dW (n := bn + 2) h.m hG (St.lentV hw) ho.n o_m)) rfl n_h ?_
           rintro _ _ ⟨G0, ⟨rfl, hG0⟩, rfl⟩
           refine ZEb ?_
           refine DR [4, 5, 6, 7, 8, 9, 10, 11, 12, 13, 14, 15, 16] (pln [0, 2, 4, 6, 8, 10, 12, 14, 16, 18, 20, 22, 24, 26, 28, 30, 32, 35]) ?_
           refine D_6 ?_
           refine DW (v := (.int .u16 (inc16 o.n))) rfl (l_add rfl rfl) rfl (congrArg _ (wrap_u16 _)) ?_
           refine D_6 ?_
           refine ZEN ?_
           refine D_2 ?_
           refine DX rfl (x_callIT (F := [(b0, _), (rb, _)]) (A := G0) rfl K.mW K.cW rfl (fun w hw => K.dW (n := bn + 1) (K.oW h.m ho.n o_m) hG0 (St.lentV hw) inc16_ok o_m)) rfl n_h ?_
           rintro _ _ ⟨G1, ⟨rfl, hG1⟩, rfl⟩
           refine ZEb ?_
           refine ZAY ?_
           have e9 : effW K.toBusA o x = x.mem (K.write (inc16 o.n) (x.s.r.sp / 256) (K.write o.n (x.s.r.sp % 256) x.m)) := by unfold effW; (iterate 9 rw [if_neg o_m]); rw [if_pos o_m]
           exact EV rfl (.cons _ (List.Sublist.refl _)) ⟨congrArg Value.bool (decide_eq_true o_m : isW o.kind = true).symm, G1, y_s, y_8⟩
          ·refine ZAY ?_
           exact EV rfl (.cons _ (List.Sublist.refl _)) ⟨congrArg Value.bool (decide_eq_false o_m : isW o.kind = false).symm, G, by rw [effW_no K.toBusA (decide_eq_false o_m)], by rw [effW_no K.toBusA (decide_eq_false o_m)]; exact hG⟩
theorem rplaces_fn {β : Type} (K : BusK Tryz.prog β) (rb : Nat) {bn : Nat} (x : Rn β) (h : RunOk K.toBusO (bn + 1) x) (G : Heap) (hG : K.rep x.m G) (o : Opr) (ho : OpOk o) (w : World) (hst : St w (rb :: G.map (·.1)) ((rb, blk (cN K x.s) 211) :: G) w) : Does Tryz.prog 157 [.pointer (some ⟨rb, 0, none⟩), .agg (cO o).toArray] w (rb :: G.map (·.1)) (fun v H => v = .bool (isP o.kind) ∧ RunH K rb (if isP o.kind = true then effP K.toBusA o x else x) H) := by
 have hn9 := ho.n
 have hs9 := ho.small
 have hc9 := h.r.c
 refine does_of Tryz.func157 rfl rfl rfl hst ?_
 refine ZEe ?_
 refine ZC8 fun b0 => ?_
 refine ZAB ?_
 refine ZCI ?_
 refine ZA0 ?_
 rcases (show o.kind = 32 ∨ o.kind = 33 ∨ o.kind = 34 ∨ o.kind = 35 ∨ o.kind = 36 ∨ o.kind = 37 ∨ o.kind = 38 ∨ o.kind = 39 ∨ (o.kind < 32 ∨ 39 < o.kind) by omega) with hk | hk | hk | hk | hk | hk | hk | hk | hk
 ·refine ZCB ?_
  refine c_block ?_
  refine ZAG ?_
  refine ZBm ?_
  refine ZAx ?_
  refine ZDu ?_
  refine ZB2 ?_
  refine RX (x_callT (F := [(b0, _)]) (A := (rb, _) :: _) call_211 rfl (fun w hw => rplace_fn K rb x h G hG o.x w (St.lentV hw))) rfl ?_
  refine ZB3 fun G0 hG0 => ?_
  refine ZAB ?_
  refine ZBV ?_
  refine ZAG ?_
  refine ZBm ?_
  refine ZAx ?_
  refine ZDu ?_
  refine ZAP ?_
  refine L_6 ?_
  refine RX (x_callIT (F := [(b0, _), (rb, _)]) (A := G0) rfl K.mR K.cR rfl (fun w hw => K.dR (h.far o.x).1.m hG0 (St.lentV hw) (h.far o.x).2)) rfl ?_
  rintro _ _ ⟨G1, ⟨rfl, hG1⟩, rfl⟩
  refine L_4 ?_
  refine RZ (x_storeTo (l' := cN K { (far o.x x).2.s with r := { (far o.x x).2.s.r with a := (K.read (far o.x x).1 (far o.x x).2.m).1 } }) 1 rfl rfl rfl rfl rfl rfl (Nat.le_of_ble_eq_true rfl) rfl) rfl ?_
  refine ZBE ?_
  refine ZAY ?_
  have e8 : place o x = ((far o.x x).1, (far o.x x).2) := by unfold place; simp only [hk]; rfl
  have e9 : (if isP o.kind = true then effP K.toBusA o x else x) = ⟨{ (far o.x x).2.s with r := { (far o.x x).2.s.r with a := (K.read (far o.x x).1 (far o.x x).2.m).1 } }, (K.read (far o.x x).1 (far o.x x).2.m).2⟩ := by rw [if_pos (show isP o.kind = true from decide_eq_true o_m)]; unfold effP; simp only [e8, hk]; rfl
  exact EV rfl (.cons _ (List.Sublist.refl _)) ⟨congrArg Value.bool (decide_eq_true o_m : isP o.kind = true).symm, G1, y_s, y_8⟩
 ·refine ZCB ?_
  refine c_block ?_
  refine ZDJ ?_
  refine ZBm ?_
  refine ZB2 ?_
  refine RX (x_callT (F := [(b0, _)]) (A := (rb, _) :: _) call_211 rfl (fun w hw => rplace_fn K rb x h G hG o.x w (St.lentV hw))) rfl ?_
  refine ZB3 fun G0 hG0 => ?_
  refine ZAB ?_
  refine ZBV ?_
  refine ZB0 ?_
  refine ZDT ?_
  refine ZDT ?_
  refine ZAP ?_
  refine ZAT ?_
  refine ZB5 ?_
  refine DX rfl (x_callIT (F := [(b0, _), (rb, _)]) (A := G0) rfl K.mW K.cW rfl (fun w hw => K.dW (h.far o.x).1.m hG0 (St.lentV hw) (h.far o.x).2 (h.far o.x).1.r.a)) rfl n_h ?_
  rintro _ _ ⟨G1, ⟨rfl, hG1⟩, rfl⟩
  refine ZEb ?_
  refine ZAY ?_
  have e8 : place o x = ((far o.x x).1, (far o.x x).2) := by unfold place; simp only [hk]; rfl
  have e9 : (if isP o.kind = true then effP K.toBusA o x else x) = (far o.x x).2.mem (K.write (far o.x x).1 (far o.x x).2.s.r.a (far o.x x).2.m) := by rw [if_pos (show isP o.kind = true from decide_eq_true o_m)]; unfold effP; simp only [e8, hk]; rfl
  exact EV rfl (.cons _ (List.Sublist.refl _)) ⟨congrArg Value.bool (decide_eq_true o_m : isP o.kind = true).symm, G1, y_s, y_8⟩
 ·refine ZCB ?_
  refine c_block ?_
  refine ZDJ ?_
  refine ZAT ?_
  refine ZAG ?_
  refine ZBm ?_
  refine ZAx ?_
  refine ZDu ?_
  refine ZAo ?_
  refine RW (v := (.int .u16 (65280 + o.n % 256))) (l_or rfl rfl) rfl (congrArg _ ((page_or o_m).trans o_m)) ?_
  refine ZAB ?_
  refine ZBV ?_
  refine ZB0 ?_
  refine ZAA ?_
  refine ZBm ?_
  refine ZAx ?_
  refine ZDu ?_
  refine ZAP ?_
  refine ZDS ?_
  rintro _ _ ⟨G0, ⟨rfl, hG0⟩, rfl⟩
  refine L_4 ?_
  refine RZ (x_storeTo (l' := cN K { x.s with r := { x.s.r with a := (K.read (65280 + o.n % 256) x.m).1 } }) 1 rfl rfl rfl rfl rfl rfl (Nat.le_of_ble_eq_true rfl) rfl) rfl ?_
  refine ZBE ?_
  refine ZAY ?_
  have e8 : place o x = ((65280 + o.n % 256), x) := by unfold place; simp only [hk]; rfl
  have e9 : (if isP o.kind = true then effP K.toBusA o x else x) = ⟨{ x.s with r := { x.s.r with a := (K.read (65280 + o.n % 256) x.m).1 } }, (K.read (65280 + o.n % 256) x.m).2⟩ := by rw [if_pos (show isP o.kind = true from decide_eq_true o_m)]; unfold effP; simp only [e8, hk]; rfl
  exact EV rfl (.cons _ (List.Sublist.refl _)) ⟨congrArg Value.bool (decide_eq_true o_m : isP o.kind = true).symm, G0, y_s, y_2⟩
 ·refine ZCB ?_
  refine c_block ?_
  refine ZDJ ?_
  refine ZAT ?_
  refine ZDJ ?_
  refine ZBm ?_
  refine ZAo ?_
  refine RW (v := (.int .u16 (65280 + o.n % 256))) (l_or rfl rfl) rfl (congrArg _ ((page_or o_m).trans o_m)) ?_
  refine ZAB ?_
  refine ZBV ?_
  refine ZB0 ?_
  refine ZDT ?_
  refine ZDT ?_
  refine ZAP ?_
  refine ZAT ?_
  refine ZDG ?_
  rintro _ _ ⟨G0, ⟨rfl, hG0⟩, rfl⟩
  refine ZEb ?_
  refine ZAY ?_
  have e8 : place o x = ((65280 + o.n % 256), x) := by unfold place; simp only [hk]; rfl
  have e9 : (if isP o.kind = true then effP K.toBusA o x else x) = x.mem (K.write (65280 + o.n % 256) x.s.r.a x.m) := by rw [if_pos (show isP o.kind = true from decide_eq_true o_m)]; unfold effP; simp only [e8, hk]; rfl
  exact EV rfl (.cons _ (List.Sublist.refl _)) ⟨congrArg Value.bool (decide_eq_true o_m : isP o.kind = true).symm, G0, y_s, y_2⟩
 ·refine ZCB ?_
  refine c_block ?_
  refine ZDJ ?_
  refine ZAT ?_
  refine ZDJ ?_
  refine ZAT ?_
  refine ZAG ?_
  refine ZBm ?_
  refine ZAx ?_
  refine ZDu ?_
  refine ZAP ?_
  refine L_6 ?_
  refine RW (l_conv rfl rfl rfl) rfl y_r ?_
  refine RW (v := (.int .u16 (65280 + x.s.r.c))) (l_or rfl rfl) rfl (congrArg _ (page_or h.r.c)) ?_
  refine ZAB ?_
  refine ZBV ?_
  refine ZB0 ?_
  refine ZDT ?_
  refine ZAA ?_
  refine ZBm ?_
  refine ZAx ?_
  refine ZDu ?_
  refine ZAP ?_
  refine ZDS ?_
  rintro _ _ ⟨G0, ⟨rfl, hG0⟩, rfl⟩
  refine L_4 ?_
  refine RZ (x_storeTo (l' := cN K { x.s with r := { x.s.r with a := (K.read (65280 + x.s.r.c) x.m).1 } }) 1 rfl rfl rfl rfl rfl rfl (Nat.le_of_ble_eq_true rfl) rfl) rfl ?_
  refine ZBE ?_
  refine ZAY ?_
  have e8 : place o x = ((65280 + x.s.r.c), x) := by unfold place; simp only [hk]; rfl
  have e9 : (if isP o.kind = true then effP K.toBusA o x else x) = ⟨{ x.s with r := { x.s.r with a := (K.read (65280 + x.s.r.c) x.m).1 } }, (K.read (65280 + x.s.r.c) x.m).2⟩ := by rw [if_pos (show isP o.kind = true from decide_eq_true o_m)]; unfold effP; simp only [e8, hk]; rfl
  exact EV rfl (.cons _ (List.Sublist.refl _)) ⟨congrArg Value.bool (decide_eq_true o_m : isP o.kind = true).symm, G0, y_s, y_2⟩
 ·refine ZCB ?_
  refine c_block ?_
  refine ZDJ ?_
  refine ZAT ?_
  refine ZDJ ?_
  refine ZAT ?_
  refine ZDJ ?_
  refine ZBm ?_
  refine ZAP ?_
  refine L_6 ?_
  refine RW (l_conv rfl rfl rfl) rfl y_r ?_
  refine RW (v := (.int .u16 (65280 + x.s.r.c))) (l_or rfl rfl) rfl (congrArg _ (page_or h.r.c)) ?_
  refine ZAB ?_
  refine ZBV ?_
  refine ZB0 ?_
  refine ZDT ?_
  refine ZDT ?_
  refine ZAP ?_
  refine ZAT ?_
  refine ZDG ?_
  rintro _ _ ⟨G0, ⟨rfl, hG0⟩, rfl⟩
  refine ZEb ?_
  refine ZAY ?_
  have e8 : place o x = ((65280 + x.s.r.c), x) := by unfold place; simp only [hk]; rfl
  have e9 : (if isP o.kind = true then effP K.toBusA o x else x) = x.mem (K.write (65280 + x.s.r.c) x.s.r.a x.m) := by rw [if_pos (show isP o.kind = true from decide_eq_true o_m)]; unfold effP; simp only [e8, hk]; rfl
  exact EV rfl (.cons _ (List.Sublist.refl _)) ⟨congrArg Value.bool (decide_eq_true o_m : isP o.kind = true).symm, G0, y_s, y_2⟩
 ·refine ZCB ?_
  refine c_block ?_
  refine ZDJ ?_
  refine ZAT ?_
  refine ZDJ ?_
  refine ZAT ?_
  refine ZDJ ?_
  refine ZAT ?_
  refine ZAG ?_
  refine ZBm ?_
  refine ZAx ?_
  refine ZDu ?_
  refine ZB2 ?_
  refine ZAb ?_
  refine ZBV ?_
  refine ZB0 ?_
  refine ZDT ?_
  refine ZDT ?_
  refine ZAP ?_
  refine ZBm ?_
  refine ZAP ?_
  refine ZDS ?_
  rintro _ _ ⟨G0, ⟨rfl, hG0⟩, rfl⟩
  refine L_4 ?_
  refine RZ (x_storeTo (l' := cN K { x.s with r := { x.s.r with a := (K.read o.n x.m).1 } }) 1 rfl rfl rfl rfl rfl rfl (Nat.le_of_ble_eq_true rfl) rfl) rfl ?_
  refine ZBE ?_
  refine ZAY ?_
  have e8 : place o x = (o.n, x) := by unfold place; simp only [hk]; rfl
  have e9 : (if isP o.kind = true then effP K.toBusA o x else x) = ⟨{ x.s with r := { x.s.r with a := (K.read o.n x.m).1 } }, (K.read o.n x.m).2⟩ := by rw [if_pos (show isP o.kind = true from decide_eq_true o_m)]; unfold effP; simp only [e8, hk]; rfl
  exact EV rfl (.cons _ (List.Sublist.refl _)) ⟨congrArg Value.bool (decide_eq_true o_m : isP o.kind = true).symm, G0, y_s, y_2⟩
 ·refine ZCB ?_
  refine c_block ?_
  refine ZDJ ?_
  refine ZAT ?_
  refine ZDJ ?_
  refine ZAT ?_
  refine ZDJ ?_
  refine ZAT ?_
  refine ZDJ ?_
  refine ZBm ?_
  refine ZB2 ?_
  refine ZAb ?_
  refine ZBV ?_
  refine ZB0 ?_
  refine ZDT ?_
  refine ZDT ?_
  refine ZAP ?_
  refine ZAT ?_
  refine ZDG ?_
  rintro _ _ ⟨G0, ⟨rfl, hG0⟩, rfl⟩
  refine ZEb ?_
  refine ZAY ?_
  have e8 : place o x = (o.n, x) := by unfold place; simp only [hk]; rfl
  have e9 : (if isP o.kind = true then effP K.toBusA o x else x) = x.mem (K.write o.n x.s.r.a x.m) := by rw [if_pos (show isP o.kind = true from decide_eq_true o_m)]; unfold effP; simp only [e8, hk]; rfl
  exact EV rfl (.cons _ (List.Sublist.refl _)) ⟨congrArg Value.bool (decide_eq_true o_m : isP o.kind = true).symm, G0, y_s, y_2⟩
 ·refine ZCB ?_
  refine c_block ?_
  refine ZDJ ?_
  refine ZAT ?_
  refine ZDJ ?_
  refine ZAT ?_
  refine ZDJ ?_
  refine ZAT ?_
  refine ZDJ ?_
  refine ZAT ?_
  refine ZAY ?_
  exact EV rfl (.cons _ (List.Sublist.refl _)) ⟨congrArg Value.bool (decide_eq_false o_m : isP o.kind = false).symm, G, by rw [if_neg y_dd], by rw [if_neg y_dd]; exact hG⟩
theorem rjump_fn {β : Type} (K : BusK Tryz.prog β) (rb : Nat) {bn : Nat} (x : Rn β) (h : RunOk K.toBusO (bn + 4) x) (G : Heap) (hG : K.rep x.m G) (o : Opr) (ho : OpOk o) (w : World) (hst : St w (rb :: G.map (·.1)) ((rb, blk (cN K x.s) 211) :: G) w) : Does Tryz.prog 158 [.pointer (some ⟨rb, 0, none⟩), .agg (cO o).toArray] w (rb :: G.map (·.1)) (fun v H => v = .bool (metJ o x) ∧ RunH K rb (effJ K.toBusA o x) H) := by
 have hn9 := ho.n
 have hi9 := h.idleK 1
 have hp9 := h.r.pc
 refine does_of Tryz.func158 rfl rfl rfl hst ?_
 refine ZEe ?_
 refine ZC8 fun b0 => ?_
 refine ZEm ?_
 refine DR [5, 6] (pln [0, 2, 4, 6, 8, 10, 12, 15, 16]) ?_
 refine D_4 ?_
 refine d_loadA rfl rfl rfl rfl (fun w hw => Row.left (Row.left (srow_own (l := cN K x.s) m_m w hw))) rfl rfl ?_
 refine D_2 ?_
 refine DZ rfl (x_val call_212 rfl (fun w hw => is_fn x.s.r h.r o.x w)) rfl n_h ?_
 refine ZC9 ?_
 refine ZCc ?_
 rcases (show o.kind = 23 ∨ o.kind = 24 ∨ o.kind = 25 ∨ o.kind = 26 ∨ o.kind = 27 ∨ o.kind = 28 ∨ o.kind = 29 ∨ (o.kind < 23 ∨ 29 < o.kind) by omega) with hk | hk | hk | hk | hk | hk | hk | hk
 ·refine ZAo ?_
  refine ZBN ?_
  refine L_5 ?_
  refine ZBL ?_
  refine ZBV ?_
  refine ZAG ?_
  refine ZBm ?_
  refine ZAx ?_
  refine ZDu ?_
  refine ZAS ?_
  refine KC (fun q0 q0n => ?_) (fun q0 q0n => ?_)
  ·refine ZBK fun e7 => ?_
   have e8 : metJ o x = false := by unfold metJ; rw [(decide_eq_true o_m : decide (23 ≤ o.kind ∧ o.kind ≤ 26) = true)]; simpa using q0
   exact ZEW
  ·refine ZAx ?_
   refine ZBV ?_
   refine ZCg ?_
   refine ZCg ?_
   refine ZCg ?_
   refine ZA0 ?_
   refine ZAG ?_
   refine ZBm ?_
   refine ZBa ?_
   refine ZA1 ?_
   refine ZA5 fun G0 hG0 => ?_
   refine ZAb ?_
   refine DR [6, 7, 8, 9] (pln [0, 2, 4, 6, 8, 10, 12, 14, 16, 18, 20, 22, 24, 26, 28, 31]) ?_
   refine D_8 ?_
   refine DW (v := (.int .i8 (s8 (o.n % 256)))) rfl (l_conv rfl rfl rfl) rfl (congrArg _ (wrap_i8 _)) ?_
   refine DW (v := (.int .u16 (s8 (o.n % 256) % 65536))) rfl (l_conv rfl rfl rfl) rfl (congrArg _ (wrap_u16 _)) ?_
   refine DW (v := (.int .u16 ((x.s.r.pc + s8 (o.n % 256)) % 65536))) rfl (l_add rfl rfl) rfl (congrArg _ ((wrap_u16 _).trans (show (x.s.r.pc + s8 (o.n % 256) % 65536) % 65536 = (x.s.r.pc + s8 (o.n % 256)) % 65536 by omega))) ?_
   refine D_4 ?_
   refine DZ rfl (x_storeTo (l' := cN K { (idles K.toBusA 1 x).s with r := { (idles K.toBusA 1 x).s.r with pc := (x.s.r.pc + s8 (o.n % 256)) % 65536 } }) 1 rfl rfl rfl rfl rfl rfl (Nat.le_of_ble_eq_true rfl) rfl) rfl n_h ?_
   refine c_u ?_
   refine ZEb ?_
   refine ZBa ?_
   refine ZDd fun e7 e8 => ?_
   have e9 : effJ K.toBusA o x = goto ((x.s.r.pc + s8 (o.n % 256)) % 65536) (idles K.toBusA 1 x) := by unfold effJ; rw [e7, e8]; simp only [Bool.true_eq_false, if_false]; simp only [hk]; rfl
   exact EV rfl (.cons _ (List.Sublist.refl _)) ⟨congrArg Value.bool e8.symm, G0, y_s, y_2⟩
 ·refine ZAo ?_
  refine ZBN ?_
  refine L_5 ?_
  refine ZBL ?_
  refine ZBV ?_
  refine ZB0 ?_
  refine ZAA ?_
  refine ZBm ?_
  refine ZAx ?_
  refine ZDu ?_
  refine ZAS ?_
  refine KC (fun q0 q0n => ?_) (fun q0 q0n => ?_)
  ·refine ZBK fun e7 => ?_
   have e8 : metJ o x = false := by unfold metJ; rw [(decide_eq_true o_m : decide (23 ≤ o.kind ∧ o.kind ≤ 26) = true)]; simpa using q0
   exact ZEW
  ·refine ZAx ?_
   refine ZBV ?_
   refine ZCg ?_
   refine ZCg ?_
   refine ZCg ?_
   refine ZA0 ?_
   refine ZDr ?_
   refine ZAG ?_
   refine ZBm ?_
   refine ZBa ?_
   refine ZA1 ?_
   refine ZA5 fun G0 hG0 => ?_
   refine ZAb ?_
   refine ZAP ?_
   refine L_7 ?_
   refine RZ (x_storeTo (l' := cN K { (idles K.toBusA 1 x).s with r := { (idles K.toBusA 1 x).s.r with pc := o.n } }) 1 rfl rfl rfl rfl rfl rfl (Nat.le_of_ble_eq_true rfl) rfl) rfl ?_
   refine ZBE ?_
   refine ZBa ?_
   refine ZDd fun e7 e8 => ?_
   have e9 : effJ K.toBusA o x = goto o.n (idles K.toBusA 1 x) := by unfold effJ; rw [e7, e8]; simp only [Bool.true_eq_false, if_false]; simp only [hk]; rfl
   exact EV rfl (.cons _ (List.Sublist.refl _)) ⟨congrArg Value.bool e8.symm, G0, y_s, y_2⟩
 ·refine ZAo ?_
  refine ZBN ?_
  refine L_5 ?_
  refine ZBL ?_
  refine ZBV ?_
  refine ZB0 ?_
  refine ZDT ?_
  refine ZAA ?_
  refine ZBm ?_
  refine ZAx ?_
  refine ZDu ?_
  refine ZAS ?_
  refine KC (fun q0 q0n => ?_) (fun q0 q0n => ?_)
  ·refine ZBK fun e7 => ?_
   have e8 : metJ o x = false := by unfold metJ; rw [(decide_eq_true o_m : decide (23 ≤ o.kind ∧ o.kind ≤ 26) = true)]; simpa using q0
   exact ZEW
  ·refine ZAx ?_
   refine ZBV ?_
   refine ZCg ?_
   refine ZCg ?_
   refine ZCg ?_
   refine ZA0 ?_
   refine ZDr ?_
   refine ZDr ?_
   refine ZA0 ?_
   refine ZAG ?_
   refine ZBm ?_
   refine ZAx ?_
   refine ZDu ?_
   refine ZBa ?_
   refine ZA1 ?_
   refine ZA5 fun G0 hG0 => ?_
   refine ZAb ?_
   refine ZAA ?_
   refine ZEf ?_
   refine ZCy fun G1 hG1 => ?_
   refine ZAb ?_
   refine ZAP ?_
   refine ZDf ?_
   refine ZBE ?_
   refine ZBa ?_
   refine ZDd fun e7 e8 => ?_
   exact ZC3
 ·refine ZAo ?_
  refine l_sure true rfl rfl rfl (beq_iff_eq.2 hk) ?_
  refine L_5 ?_
  refine ZAb ?_
  refine KC (fun q0 q0n => ?_) (fun q0 q0n => ?_)
  ·refine ZAZ ?_
   refine ZA5 fun G0 hG0 => ?_
   refine ZAb ?_
   refine ZBV ?_
   refine ZB0 ?_
   refine ZDT ?_
   refine ZDT ?_
   refine ZAP ?_
   refine ZBm ?_
   refine ZAS ?_
   refine KC (fun q1 q1n => ?_) (fun q1 q1n => ?_)
   ·refine ZAY ?_
    have e7 : (if o.kind = 26 ∧ o.x ≠ 4 then idles K.toBusA 1 x else x) = (idles K.toBusA 1 x) := if_pos o_m
    have e8 : metJ o x = false := by unfold metJ; rw [(decide_eq_true o_m : decide (23 ≤ o.kind ∧ o.kind ≤ 26) = true)]; simpa using q1
    have e9 : effJ K.toBusA o x = (idles K.toBusA 1 x) := by unfold effJ; rw [e7, e8]; rfl
    exact EV rfl (.cons _ (List.Sublist.refl _)) ⟨congrArg Value.bool e8.symm, G0, y_s, y_2⟩
   ·refine ZAx ?_
    refine ZBV ?_
    refine ZCg ?_
    refine ZCg ?_
    refine ZCg ?_
    refine ZA0 ?_
    refine ZDr ?_
    refine ZDr ?_
    refine ZA0 ?_
    refine ZDJ ?_
    refine ZCh ?_
    refine ZDr ?_
    refine ZAG ?_
    refine ZBm ?_
    refine ZBa ?_
    refine ZCd ?_
    refine RX (x_callT (F := [(b0, _)]) (A := (rb, _) :: _) call_210 rfl (fun w hw => rpop_fn K rb (idles K.toBusA 1 x) (h.idleK 1) G0 hG0 w (St.lentV hw))) rfl ?_
    refine ZCy fun G1 hG1 => ?_
    refine L_4 ?_
    refine RZ (x_storeTo (l' := cN K { (pop K.toBusA (idles K.toBusA 1 x)).2.s with r := { (pop K.toBusA (idles K.toBusA 1 x)).2.s.r with pc := (pop K.toBusA (idles K.toBusA 1 x)).1 } }) 1 rfl rfl rfl rfl rfl rfl (Nat.le_of_ble_eq_true rfl) rfl) rfl ?_
    refine ZBE ?_
    refine ZAZ ?_
    refine RX (x_callT (F := [(b0, _)]) (A := (rb, _) :: _) call_93 rfl (fun w hw => ridle_fn K rb 1 y_c (goto (pop K.toBusA (idles K.toBusA 1 x)).1 (pop K.toBusA (idles K.toBusA 1 x)).2) ((RunOk.pop (h.idleK 1)).1.reg ((RunOk.pop (h.idleK 1)).1.r.pc_ (RunOk.pop (h.idleK 1)).2)) G1 hG1 w (St.lentV hw))) rfl ?_
    rintro _ _ ⟨_, ⟨rfl, G2, rfl, hG2⟩, rfl⟩
    refine ZAb ?_
    refine ZBa ?_
    refine ZAY ?_
    have e7 : (if o.kind = 26 ∧ o.x ≠ 4 then idles K.toBusA 1 x else x) = (idles K.toBusA 1 x) := if_pos o_m
    have e8 : metJ o x = true := by unfold metJ; rw [(decide_eq_true o_m : decide (23 ≤ o.kind ∧ o.kind ≤ 26) = true)]; simpa using q1
    have e9 : effJ K.toBusA o x = idles K.toBusA 1 (goto (pop K.toBusA (idles K.toBusA 1 x)).1 (pop K.toBusA (idles K.toBusA 1 x)).2) := by unfold effJ; rw [e7, e8]; simp only [Bool.true_eq_false, if_false]; simp only [hk]; rfl
    exact EV rfl (.cons _ (List.Sublist.refl _)) ⟨congrArg Value.bool e8.symm, G2, y_s, by rw [e9]; exact hG2⟩
  ·refine ZAx ?_
   refine ZBV ?_
   refine ZB0 ?_
   refine ZDT ?_
   refine ZDT ?_
   refine ZAP ?_
   refine ZBm ?_
   refine ZAS ?_
   refine KC (fun q1 q1n => ?_) (fun q1 q1n => ?_)
   ·refine ZBK fun e7 => ?_
    have e8 : metJ o x = false := by unfold metJ; rw [(decide_eq_true o_m : decide (23 ≤ o.kind ∧ o.kind ≤ 26) = true)]; simpa using q1
    exact ZEW
   ·refine ZAx ?_
    refine ZBV ?_
    refine ZCg ?_
    refine ZCg ?_
    refine ZCg ?_
    refine ZA0 ?_
    refine ZDr ?_
    refine ZDr ?_
    refine ZA0 ?_
    refine ZDJ ?_
    refine ZCh ?_
    refine ZDr ?_
    refine ZAG ?_
    refine ZBm ?_
    refine ZBa ?_
    refine ZCd ?_
    refine RX (x_callT (F := [(b0, _)]) (A := (rb, _) :: _) call_210 rfl (fun w hw => rpop_fn K rb x h G hG w (St.lentV hw))) rfl ?_
    refine ZB3 fun G0 hG0 => ?_
    refine L_4 ?_
    refine RZ (x_storeTo (l' := cN K { (pop K.toBusA x).2.s with r := { (pop K.toBusA x).2.s.r with pc := (pop K.toBusA x).1 } }) 1 rfl rfl rfl rfl rfl rfl (Nat.le_of_ble_eq_true rfl) rfl) rfl ?_
    refine ZBE ?_
    refine ZAZ ?_
    refine RX (x_callT (F := [(b0, _)]) (A := (rb, _) :: _) call_93 rfl (fun w hw => ridle_fn K rb 1 y_c (goto (pop K.toBusA x).1 (pop K.toBusA x).2) ((RunOk.pop h).1.reg ((RunOk.pop h).1.r.pc_ (RunOk.pop h).2)) G0 hG0 w (St.lentV hw))) rfl ?_
    refine ZCy fun G1 hG1 => ?_
    refine ZAb ?_
    refine ZBa ?_
    refine ZBK fun e7 => ?_
    have e8 : metJ o x = true := by unfold metJ; rw [(decide_eq_true o_m : decide (23 ≤ o.kind ∧ o.kind ≤ 26) = true)]; simpa using q1
    have e9 : effJ K.toBusA o x = idles K.toBusA 1 (goto (pop K.toBusA x).1 (pop K.toBusA x).2) := by unfold effJ; rw [e7, e8]; simp only [Bool.true_eq_false, if_false]; simp only [hk]; rfl
    exact EV rfl (.cons _ (List.Sublist.refl _)) ⟨congrArg Value.bool e8.symm, G1, y_s, y_8⟩
 ·refine ZAo ?_
  refine ZBN ?_
  refine L_5 ?_
  refine ZBL ?_
  refine ZBV ?_
  refine ZB0 ?_
  refine ZDT ?_
  refine ZDT ?_
  refine ZAP ?_
  refine ZCh ?_
  refine ZBV ?_
  refine ZCg ?_
  refine ZCg ?_
  refine ZCg ?_
  refine ZA0 ?_
  refine ZDr ?_
  refine ZDr ?_
  refine ZA0 ?_
  refine ZDJ ?_
  refine ZCh ?_
  refine ZAG ?_
  refine ZBm ?_
  refine ZBa ?_
  refine ZBj ?_
  refine RZ (x_storeTo (l' := cN K { x.s with ime := true }) 1 rfl rfl rfl rfl rfl rfl (Nat.le_of_ble_eq_true rfl) rfl) rfl ?_
  refine ZBE ?_
  refine ZCd ?_
  refine RX (x_callT (F := [(b0, _)]) (A := (rb, _) :: _) call_210 rfl (fun w hw => rpop_fn K rb (⟨{ x.s with ime := true }, x.m⟩ : Rn _) (⟨h.r, h.m⟩ : RunOk K.toBusO _ (⟨{ x.s with ime := true }, x.m⟩ : Rn _)) G hG w (St.lentV hw))) rfl ?_
  refine ZB3 fun G0 hG0 => ?_
  refine L_4 ?_
  refine RZ (x_storeTo (l' := cN K { (pop K.toBusA (⟨{ x.s with ime := true }, x.m⟩ : Rn _)).2.s with r := { (pop K.toBusA (⟨{ x.s with ime := true }, x.m⟩ : Rn _)).2.s.r with pc := (pop K.toBusA (⟨{ x.s with ime := true }, x.m⟩ : Rn _)).1 } }) 1 rfl rfl rfl rfl rfl rfl (Nat.le_of_ble_eq_true rfl) rfl) rfl ?_
  refine ZBE ?_
  refine ZAZ ?_
  refine RX (x_callT (F := [(b0, _)]) (A := (rb, _) :: _) call_93 rfl (fun w hw => ridle_fn K rb 1 y_c (goto (pop K.toBusA (⟨{ x.s with ime := true }, x.m⟩ : Rn _)).1 (pop K.toBusA (⟨{ x.s with ime := true }, x.m⟩ : Rn _)).2) ((RunOk.pop (⟨h.r, h.m⟩ : RunOk K.toBusO (bn + 1 + 1 + 2) (⟨{ x.s with ime := true }, x.m⟩ : Rn _))).1.reg ((RunOk.pop (⟨h.r, h.m⟩ : RunOk K.toBusO (bn + 1 + 1 + 2) (⟨{ x.s with ime := true }, x.m⟩ : Rn _))).1.r.pc_ (RunOk.pop (⟨h.r, h.m⟩ : RunOk K.toBusO (bn + 1 + 1 + 2) (⟨{ x.s with ime := true }, x.m⟩ : Rn _))).2)) G0 hG0 w (St.lentV hw))) rfl ?_
  refine ZCy fun G1 hG1 => ?_
  refine ZAb ?_
  refine ZBa ?_
  refine ZCZ fun e7 e8 => ?_
  have e9 : effJ K.toBusA o x = idles K.toBusA 1 (goto (pop K.toBusA (⟨{ x.s with ime := true }, x.m⟩ : Rn _)).1 (pop K.toBusA (⟨{ x.s with ime := true }, x.m⟩ : Rn _)).2) := by unfold effJ; rw [e7, e8]; simp only [Bool.true_eq_false, if_false]; simp only [hk]; rfl
  exact EV rfl (.cons _ (List.Sublist.refl _)) ⟨congrArg Value.bool e8.symm, G1, y_s, y_8⟩
 ·refine ZAo ?_
  refine ZBN ?_
  refine L_5 ?_
  refine ZBL ?_
  refine ZBV ?_
  refine ZB0 ?_
  refine ZDT ?_
  refine ZDT ?_
  refine ZAP ?_
  refine ZCh ?_
  refine ZBV ?_
  refine ZCg ?_
  refine ZCg ?_
  refine ZCg ?_
  refine ZA0 ?_
  refine ZDr ?_
  refine ZDr ?_
  refine ZA0 ?_
  refine ZDJ ?_
  refine ZBm ?_
  refine ZBa ?_
  refine ZA1 ?_
  refine ZA5 fun G0 hG0 => ?_
  refine ZAb ?_
  refine ZAA ?_
  refine ZEf ?_
  refine ZCy fun G1 hG1 => ?_
  refine ZAb ?_
  refine ZAP ?_
  refine ZDf ?_
  refine ZBE ?_
  refine ZBa ?_
  refine ZCZ fun e7 e8 => ?_
  exact ZC3
 ·refine ZAo ?_
  refine ZBN ?_
  refine L_5 ?_
  refine ZBL ?_
  refine ZBV ?_
  refine ZB0 ?_
  refine ZDT ?_
  refine ZDT ?_
  refine ZAP ?_
  refine ZCh ?_
  refine ZBV ?_
  refine ZCg ?_
  refine ZCg ?_
  refine ZCg ?_
  refine ZA0 ?_
  refine ZDr ?_
  refine ZDr ?_
  refine ZA0 ?_
  refine ZDJ ?_
  refine ZCh ?_
  refine ZDr ?_
  refine ZDr ?_
  refine ZAA ?_
  refine ZBm ?_
  refine ZBa ?_
  refine ZAU ?_
  refine RLv call_207 (fun w hw => rpair_fn K rb x.s h.r w (row_own (l := cN K x.s) m_m w hw) 2) ?_
  refine L_4 ?_
  refine RZ (x_storeTo (l' := cN K { x.s with r := { x.s.r with pc := pairR x.s.r 2 } }) 1 rfl rfl rfl rfl rfl rfl (Nat.le_of_ble_eq_true rfl) rfl) rfl ?_
  refine ZBE ?_
  refine ZBa ?_
  refine ZCZ fun e7 e8 => ?_
  have e9 : effJ K.toBusA o x = goto (pairR x.s.r 2) x := by unfold effJ; rw [e7, e8]; simp only [Bool.true_eq_false, if_false]; simp only [hk]; rfl
  exact EV rfl (.cons _ (List.Sublist.refl _)) ⟨congrArg Value.bool e8.symm, G, y_s, y_d7⟩
 ·refine ZAo ?_
  refine ZBN ?_
  refine L_5 ?_
  refine ZBL ?_
  refine ZBV ?_
  refine ZB0 ?_
  refine ZDT ?_
  refine ZDT ?_
  refine ZAP ?_
  refine ZCh ?_
  refine ZBV ?_
  refine ZCg ?_
  refine ZCg ?_
  refine ZCg ?_
  refine ZA0 ?_
  refine ZDr ?_
  refine ZDr ?_
  refine ZA0 ?_
  refine ZDJ ?_
  refine ZCh ?_
  refine ZDr ?_
  refine ZDr ?_
  refine ZAA ?_
  refine ZCh ?_
  refine ZBa ?_
  refine ZCZ fun e7 e8 => ?_
  have e9 : effJ K.toBusA o x = x := by unfold effJ; rw [e7, e8]; simp only [Bool.true_eq_false, if_false]; repeat rw [if_neg o_m]
  exact EV rfl (.cons _ (List.Sublist.refl _)) ⟨congrArg Value.bool e8.symm, G, y_s, y_d7⟩
end Go.Proofs.YtldehodcfajpjaaGreat
