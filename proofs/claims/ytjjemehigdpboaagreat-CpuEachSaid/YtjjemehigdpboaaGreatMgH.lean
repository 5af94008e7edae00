/- The plans of the table, as they stand in memory. Plain lists. -/
import Derived.Test.YtjjemehigdpboaaGreatMgC
import Derived.Test.YtjjemehigdpboaaGreatMgD
import Derived.Test.YtjjemehigdpboaaGreatMgF
import Derived.Test.YtjjemehigdpboaaGreatMgG
namespace Go.Proofs.YtjjemehigdpboaaGreat
open Go Go.VV Go.Proofs
set_option linter.unusedSimpArgs false
set_option linter.unusedVariables false
set_option maxRecDepth 100000
theorem rturn_fn (o : Opr) (b : Nat) (a f : Int) (ha : 0 ≤ a ∧ a < 256) (hf : 0 ≤ f ∧ f < 256) (w : World) (hr : Row w b 0 (cO o)) : Does Tryz.prog 61 [.int .u8 a, .int .u8 f, .pointer (some ⟨b, 0, none⟩)] w [] (fun v H => H = [] ∧ v = .tuple #[.int .u8 (turnR o.x a f), .int .u8 (turnF o.x a f)]) := by
 refine does_of Tryz.func61 rfl rfl rfl (St.refl w) ?_
 refine c_seq ?_
 refine c_region ?_
 refine RL ?_
 refine RL ?_
 refine l_nil ?_
 refine c_seq ?_
 refine c_region ?_
 refine RLa ?_
 refine l_x (x_load rfl rfl (at_old (hr 1 _ rfl) (by simp))) rfl rfl ?_
 rintro _ _ ⟨rfl, rfl⟩
 refine RL ?_
 refine RL ?_
 refine RLv call_62 (fun w hw => turn_fn o.x a f ha hf w) ?_
 iterate 4 refine RL ?_
 refine l_nil ?_
 refine c_ret ?_
 exact l_end0 (fun _ _ => rets_two rfl rfl) ⟨rfl, rfl⟩

theorem rbytes_fn {β : Type} (K : BusK Tryz.prog β) (rb : Nat) {bn : Nat} (x : Rn β) (h : RunOk K.toBusO (bn + 2) x) (G : Heap) (hG : K.rep x.m G) (o : Opr) (ho : OpOk o) (w : World) (hst : St w (rb :: G.map (·.1)) ((rb, blk (cN K x.s) 77) :: G) w) : Does Tryz.prog 28 [.pointer (some ⟨rb, 0, none⟩), .agg (cO o).toArray] w (rb :: G.map (·.1)) (fun v H => v = .bool (isB o.kind) ∧ RunH K rb (effB K.toBusA o x) H) := by
 have hn9 := ho.n
 have hgy9 := h.gett o.y
 have hgx9 := h.gett o.x
 have ha9 := h.r.a
 have hf9 := h.r.f
 refine does_of Tryz.func28 rfl rfl rfl hst ?_
 refine c_seq ?_
 refine c_region ?_
 refine l_x (x_box (l := cO o) rfl rfl) rfl rfl ?_
 rintro _ _ ⟨b3, rfl, rfl⟩
 refine RL ?_
 refine l_nil ?_
 refine c_seq ?_
 refine c_draw _ [6, 7, 8, 9] (.step true 0 (.step true 1 (.step true 2 (.step true 3 (.step true 4 (.step true 5 (.step true 6 (.step true 7 (.step true 8 (.step true 9 (.step true 10 .done))))))))))) rfl (by kernel_rfl) (by kernel_rfl) (fun _ h => h) ?_
 refine RD ?_
 refine RD ?_
 iterate 3 refine RDa ?_
 refine RDo ?_
 refine RDa ?_
 refine RDo ?_
 refine d_as rfl (l_conv rfl rfl rfl) rfl rfl rfl (by first | exact as_u8 o_m o_m | exact as_u8m _) ?_
 refine RD ?_
 refine RD ?_
 refine d_nil ?_
 refine c_seq ?_
 refine c_seq ?_
 refine c_region ?_
 refine RLa ?_
 refine RLo ?_
 refine l_nil ?_
 refine c_block ?_
 refine c_seq ?_
 refine c_region ?_
 refine RL ?_
 refine RL ?_
 refine l_nil ?_
 refine c_cond rfl (fun h1 => ?_) (fun h1 => ?_)
 ·have h1n := r_f h1
  refine c_draw [(b3, blk (cO o) 44)] [3, 4, 5, 6] (.step true 0 (.step true 1 (.step true 2 (.step true 3 (.step true 4 (.step true 5 (.step false 6 (.step false 7 .done)))))))) rfl (by kernel_rfl) (by kernel_rfl) (fun x hx => by obtain rfl := List.mem_singleton.1 hx; exact .head _) ?_
  refine RD ?_
  refine RDa ?_
  refine RDo ?_
  refine RD ?_
  refine RDa ?_
  refine RDo ?_
  refine d_x rfl (x_callT (F := [(b3, _)]) (A := (rb, _) :: _) call_56 rfl (fun w hw => rget_fn K rb x h G hG o.y w (St.lentV hw))) rfl rfl (by intro _ _ _ hK x hx; obtain ⟨_, ⟨rfl, G1, rfl, hG1⟩, rfl⟩ := hK; repeat (first | exact hx | exact List.mem_append_left _ hx | refine List.mem_append_right _ ?_ | refine .tail _ ?_)) ?_
  rintro _ _ ⟨_, ⟨rfl, G1, rfl, hG1⟩, rfl⟩
  refine d_x rfl (x_callT (F := [(b3, _)]) (A := (rb, _) :: _) call_55 rfl (fun w hw => rset_fn K rb (x.mem (gett K.toBusA o.y x).2.m) (h.gmem o.y) G1 hG1 o.x (gett K.toBusA o.y x).1 hgy9.2 w (St.lentV hw))) rfl rfl n_h ?_
  rintro _ _ ⟨_, ⟨rfl, G2, rfl, hG2⟩, rfl⟩
  refine d_nil ?_
  refine c_seq ?_
  refine c_region ?_
  refine RL ?_
  refine l_nil ?_
  refine c_ret ?_
  have e9 : effB K.toBusA o x = sett K.toBusA o.x (gett K.toBusA o.y x).1 (x.mem (gett K.toBusA o.y x).2.m) := by unfold effB; rw [if_pos o_m]; rw [← gett_mem]
  exact l_end (fun _ _ => rets_v rfl) (.cons _ (List.Sublist.refl _)) ⟨congrArg Value.bool (decide_eq_true o_m : isB o.kind = true).symm, G2, by rw [e9]; first | done | rfl, by rw [e9]; exact hG2⟩
 ·have h1n := r_f h1
  refine c_seq ?_
  refine c_region ?_
  refine RL ?_
  refine RL ?_
  refine l_nil ?_
  refine c_cond rfl (fun h2 => ?_) (fun h2 => ?_)
  ·have h2n := r_f h2
   refine c_region ?_
   refine RL ?_
   refine RLa ?_
   refine RLo ?_
   refine RL ?_
   refine l_x (x_callT (F := [(b3, _)]) (A := (rb, _) :: _) call_55 rfl (fun w hw => rset_fn K rb x h G hG o.x (o.n % 256) o_m w (St.lentV hw))) rfl rfl ?_
   rintro _ _ ⟨_, ⟨rfl, G1, rfl, hG1⟩, rfl⟩
   refine l_nil ?_
   refine c_seq ?_
   refine c_region ?_
   refine RL ?_
   refine l_nil ?_
   refine c_ret ?_
   have e9 : effB K.toBusA o x = sett K.toBusA o.x (o.n % 256) x := by unfold effB; rw [if_neg o_m]; rw [if_pos o_m]
   exact l_end (fun _ _ => rets_v rfl) (.cons _ (List.Sublist.refl _)) ⟨congrArg Value.bool (decide_eq_true o_m : isB o.kind = true).symm, G1, by rw [e9]; first | done | rfl, by rw [e9]; exact hG1⟩
  ·have h2n := r_f h2
   refine c_seq ?_
   refine c_region ?_
   refine RL ?_
   refine RL ?_
   refine l_nil ?_
   refine c_cond rfl (fun h3 => ?_) (fun h3 => ?_)
   ·have h3n := r_f h3
    refine c_draw [(b3, blk (cO o) 44)] [3, 4, 5, 6] (.step true 0 (.step true 1 (.step true 2 (.step true 3 (.step true 4 (.step true 5 (.step false 6 (.step false 7 .done)))))))) rfl (by kernel_rfl) (by kernel_rfl) (fun x hx => by obtain rfl := List.mem_singleton.1 hx; exact .head _) ?_
    refine RD ?_
    refine RDa ?_
    refine RDo ?_
    refine RD ?_
    refine RDa ?_
    refine RDo ?_
    refine d_x rfl (x_callT (F := [(b3, _)]) (A := (rb, _) :: _) call_56 rfl (fun w hw => rget_fn K rb x h G hG o.y w (St.lentV hw))) rfl rfl (by intro _ _ _ hK x hx; obtain ⟨_, ⟨rfl, G1, rfl, hG1⟩, rfl⟩ := hK; repeat (first | exact hx | exact List.mem_append_left _ hx | refine List.mem_append_right _ ?_ | refine .tail _ ?_)) ?_
    rintro _ _ ⟨_, ⟨rfl, G1, rfl, hG1⟩, rfl⟩
    refine d_x rfl (x_callT (F := [(b3, _)]) (A := (rb, _) :: _) call_57 rfl (fun w hw => rsum_fn K rb (x.mem (gett K.toBusA o.y x).2.m) (h.gmem o.y) G1 hG1 o.x (gett K.toBusA o.y x).1 hgy9.2 w (St.lentV hw))) rfl rfl n_h ?_
    rintro _ _ ⟨_, ⟨rfl, G2, rfl, hG2⟩, rfl⟩
    refine d_nil ?_
    refine c_seq ?_
    refine c_region ?_
    refine RL ?_
    refine l_nil ?_
    refine c_ret ?_
    have e9 : effB K.toBusA o x = (x.mem (gett K.toBusA o.y x).2.m).reg (sumR x.s.r o.x (gett K.toBusA o.y x).1) := by unfold effB; rw [if_neg o_m]; rw [if_neg o_m]; rw [if_pos o_m]; rw [← gett_mem, gett_s]
    exact l_end (fun _ _ => rets_v rfl) (.cons _ (List.Sublist.refl _)) ⟨congrArg Value.bool (decide_eq_true o_m : isB o.kind = true).symm, G2, by rw [e9]; first | done | rfl, by rw [e9]; exact hG2⟩
   ·have h3n := r_f h3
    refine c_seq ?_
    refine c_region ?_
    refine RL ?_
    refine RL ?_
    refine l_nil ?_
    refine c_cond rfl (fun h4 => ?_) (fun h4 => ?_)
    ·have h4n := r_f h4
     refine c_region ?_
     refine RL ?_
     refine RLa ?_
     refine RLo ?_
     refine RL ?_
     refine l_x (x_callT (F := [(b3, _)]) (A := (rb, _) :: _) call_57 rfl (fun w hw => rsum_fn K rb x h G hG o.x (o.n % 256) o_m w (St.lentV hw))) rfl rfl ?_
     rintro _ _ ⟨_, ⟨rfl, G1, rfl, hG1⟩, rfl⟩
     refine l_nil ?_
     refine c_seq ?_
     refine c_region ?_
     refine RL ?_
     refine l_nil ?_
     refine c_ret ?_
     have e9 : effB K.toBusA o x = x.reg (sumR x.s.r o.x (o.n % 256)) := by unfold effB; rw [if_neg o_m]; rw [if_neg o_m]; rw [if_neg o_m]; rw [if_pos o_m]
     exact l_end (fun _ _ => rets_v rfl) (.cons _ (List.Sublist.refl _)) ⟨congrArg Value.bool (decide_eq_true o_m : isB o.kind = true).symm, G1, by rw [e9]; first | done | rfl, by rw [e9]; exact hG1⟩
    ·have h4n := r_f h4
     refine c_seq ?_
     refine c_region ?_
     refine RL ?_
     refine RL ?_
     refine l_nil ?_
     refine c_cond rfl (fun h5 => ?_) (fun h5 => ?_)
     ·have h5n := r_f h5
      refine c_region ?_
      refine RL ?_
      refine RLa ?_
      refine RLo ?_
      refine l_x (x_callT (F := [(b3, _)]) (A := (rb, _) :: _) call_58 rfl (fun w hw => rchange_fn K rb x (h.le o_m : RunOk K.toBusO (bn + 2) x) G hG o.x 59 [] [] call_59 (fun v f => (incR v, incF v f)) (fun a f ha hf => ⟨incR_ok, fl_byte _ _ _ _⟩) w (St.lentV hw) (fun w' _ a f _ ha hf => inc_fn a f ha hf w'))) rfl rfl ?_
      rintro _ _ ⟨_, ⟨rfl, G1, rfl, hG1⟩, rfl⟩
      refine l_nil ?_
      refine c_seq ?_
      refine c_region ?_
      refine RL ?_
      refine l_nil ?_
      refine c_ret ?_
      have e9 : effB K.toBusA o x = change K.toBusA o.x (fun v f => (incR v, incF v f)) x := by unfold effB; rw [if_neg o_m]; rw [if_neg o_m]; rw [if_neg o_m]; rw [if_neg o_m]; rw [if_pos o_m]
      exact l_end (fun _ _ => rets_v rfl) (.cons _ (List.Sublist.refl _)) ⟨congrArg Value.bool (decide_eq_true o_m : isB o.kind = true).symm, G1, by rw [e9]; first | done | rfl, by rw [e9]; exact hG1⟩
     ·have h5n := r_f h5
      refine c_seq ?_
      refine c_region ?_
      refine RL ?_
      refine RL ?_
      refine l_nil ?_
      refine c_cond rfl (fun h6 => ?_) (fun h6 => ?_)
      ·have h6n := r_f h6
       refine c_region ?_
       refine RL ?_
       refine RLa ?_
       refine RLo ?_
       refine l_x (x_callT (F := [(b3, _)]) (A := (rb, _) :: _) call_58 rfl (fun w hw => rchange_fn K rb x (h.le o_m : RunOk K.toBusO (bn + 2) x) G hG o.x 60 [] [] call_60 (fun v f => (decR v, decF v f)) (fun a f ha hf => ⟨decR_ok, fl_byte _ _ _ _⟩) w (St.lentV hw) (fun w' _ a f _ ha hf => dec_fn a f ha hf w'))) rfl rfl ?_
       rintro _ _ ⟨_, ⟨rfl, G1, rfl, hG1⟩, rfl⟩
       refine l_nil ?_
       refine c_seq ?_
       refine c_region ?_
       refine RL ?_
       refine l_nil ?_
       refine c_ret ?_
       have e9 : effB K.toBusA o x = change K.toBusA o.x (fun v f => (decR v, decF v f)) x := by unfold effB; rw [if_neg o_m]; rw [if_neg o_m]; rw [if_neg o_m]; rw [if_neg o_m]; rw [if_neg o_m]; rw [if_pos o_m]
       exact l_end (fun _ _ => rets_v rfl) (.cons _ (List.Sublist.refl _)) ⟨congrArg Value.bool (decide_eq_true o_m : isB o.kind = true).symm, G1, by rw [e9]; first | done | rfl, by rw [e9]; exact hG1⟩
      ·have h6n := r_f h6
       refine c_seq ?_
       refine c_region ?_
       refine RL ?_
       refine RL ?_
       refine l_nil ?_
       refine c_cond rfl (fun h7 => ?_) (fun h7 => ?_)
       ·have h7n := r_f h7
        refine c_region ?_
        refine RL ?_
        refine RLa ?_
        refine RLo ?_
        refine l_as (v := (.func (.func 61) (List.toArray []) (List.toArray [.pointer (some ⟨b3, 0, none⟩)]))) rfl rfl rfl (by simp only [List.map_toArray, List.map_cons, List.map_nil]; rfl) ?_
        refine l_x (x_callT (F := [(b3, _)]) (A := (rb, _) :: _) call_58 rfl (fun w hw => rchange_fn K rb x (h.le o_m : RunOk K.toBusO (bn + 2) x) G hG o.y 61 [] [.pointer (some ⟨b3, 0, none⟩)] call_61 (fun v f => (turnR o.x v f, turnF o.x v f)) (fun a f ha hf => ⟨turnR_ok ha, fl_byte _ _ _ _⟩) w (St.lentV hw) (fun w' H' a f hw' ha hf => rturn_fn o b3 a f ha hf w' (row_old (row_own (l := cO o) (List.mem_append_right _ (.head _)) w hw) (St.notin hw (.head _)) w' hw')))) rfl rfl ?_
        rintro _ _ ⟨_, ⟨rfl, G1, rfl, hG1⟩, rfl⟩
        refine l_nil ?_
        refine c_seq ?_
        refine c_region ?_
        refine RL ?_
        refine l_nil ?_
        refine c_ret ?_
        have e9 : effB K.toBusA o x = change K.toBusA o.y (fun v f => (turnR o.x v f, turnF o.x v f)) x := by unfold effB; rw [if_neg o_m]; rw [if_neg o_m]; rw [if_neg o_m]; rw [if_neg o_m]; rw [if_neg o_m]; rw [if_neg o_m]; rw [if_pos o_m]
        exact l_end (fun _ _ => rets_v rfl) (.cons _ (List.Sublist.refl _)) ⟨congrArg Value.bool (decide_eq_true o_m : isB o.kind = true).symm, G1, by rw [e9]; first | done | rfl, by rw [e9]; exact hG1⟩
       ·have h7n := r_f h7
        refine c_seq ?_
        refine c_region ?_
        refine RL ?_
        refine RL ?_
        refine l_nil ?_
        refine c_cond rfl (fun h8 => ?_) (fun h8 => ?_)
        ·have h8n := r_f h8
         refine c_seq ?_
         refine c_draw _ [3, 4, 5, 6, 7, 8, 9] (.step true 0 (.step true 1 (.step true 2 (.step true 3 (.step true 4 (.step true 5 (.step true 6 (.step true 7 (.step true 8 (.step true 9 (.step false 10 (.step true 11 (.step true 12 (.step true 13 (.step true 14 (.step true 15 (.step true 16 (.step true 17 (.step false 18 (.step true 19 .done)))))))))))))))))))) rfl (by kernel_rfl) (by kernel_rfl) (fun _ h => h) ?_
         refine RD ?_
         refine RDa ?_
         refine RDo ?_
         refine RD ?_
         refine RD ?_
         iterate 3 refine RDa ?_
         refine RDo ?_
         refine RD ?_
         refine d_x rfl (x_val call_62 rfl (fun w hw => turn_fn o.x x.s.r.a x.s.r.f h.r.a h.r.f w)) rfl rfl n_h ?_
         rintro _ _ ⟨rfl, rfl⟩
         refine d_mv rfl (vnf_eq rfl) rfl rfl ?_
         iterate 3 refine RD ?_
         iterate 3 refine RDa ?_
         refine d_x rfl (x_storeTo (l' := cN K { x.s with r := { x.s.r with a := turnR o.x x.s.r.a x.s.r.f } }) 1 rfl rfl rfl rfl rfl rfl (Nat.le_of_ble_eq_true rfl) rfl) rfl rfl n_h ?_
         rintro _ _ ⟨rfl, rfl⟩
         refine c_u ?_
         refine RD ?_
         refine d_nil ?_
         refine c_region ?_
         refine RL ?_
         refine RL ?_
         refine l_as (v := (.int .u8 (fl false false false (turnO o.x x.s.r.a)))) (l_and rfl rfl) rfl rfl (congrArg _ (band_fl16 _ _ _ _)) ?_
         refine RL ?_
         iterate 3 refine RLa ?_
         refine l_x (x_storeTo (l' := cN K { x.s with r := { x.s.r with a := turnR o.x x.s.r.a x.s.r.f, f := fl false false false (turnO o.x x.s.r.a) } }) 1 rfl rfl rfl rfl rfl rfl (Nat.le_of_ble_eq_true rfl) rfl) rfl rfl ?_
         rintro _ _ ⟨rfl, rfl⟩
         refine c_u ?_
         refine l_nil ?_
         refine c_seq ?_
         refine c_region ?_
         refine RL ?_
         refine l_nil ?_
         refine c_ret ?_
         have e9 : effB K.toBusA o x = x.reg { x.s.r with a := turnR o.x x.s.r.a x.s.r.f, f := fl false false false (turnO o.x x.s.r.a) } := by unfold effB; rw [if_neg o_m]; rw [if_neg o_m]; rw [if_neg o_m]; rw [if_neg o_m]; rw [if_neg o_m]; rw [if_neg o_m]; rw [if_neg o_m]; rw [if_pos o_m]
         exact l_end (fun _ _ => rets_v rfl) (.cons _ (List.Sublist.refl _)) ⟨congrArg Value.bool (decide_eq_true o_m : isB o.kind = true).symm, G, by rw [e9]; first | done | rfl, by rw [e9]; exact hG⟩
        ·have h8n := r_f h8
         refine c_seq ?_
         refine c_region ?_
         refine RL ?_
         refine RL ?_
         refine l_nil ?_
         refine c_cond rfl (fun h9 => ?_) (fun h9 => ?_)
         ·have h9n := r_f h9
          refine c_draw [(b3, blk (cO o) 44)] [3, 4, 5, 6, 7] (.step true 0 (.step true 1 (.step true 2 (.step true 3 (.step true 4 (.step true 5 (.step true 7 (.step false 6 (.step false 8 (.step true 9 (.step true 10 (.step true 11 (.step true 12 (.step false 13 .done)))))))))))))) rfl (by kernel_rfl) (by kernel_rfl) (fun x hx => by obtain rfl := List.mem_singleton.1 hx; exact .head _) ?_
          refine RD ?_
          refine RDa ?_
          refine RDo ?_
          refine RD ?_
          refine RDa ?_
          refine RDo ?_
          refine RD ?_
          refine d_x rfl (x_callT (F := [(b3, _)]) (A := (rb, _) :: _) call_56 rfl (fun w hw => rget_fn K rb x h G hG o.y w (St.lentV hw))) rfl rfl (by intro _ _ _ hK x hx; obtain ⟨_, ⟨rfl, G1, rfl, hG1⟩, rfl⟩ := hK; repeat (first | exact hx | exact List.mem_append_left _ hx | refine List.mem_append_right _ ?_ | refine .tail _ ?_)) ?_
          rintro _ _ ⟨_, ⟨rfl, G1, rfl, hG1⟩, rfl⟩
          refine d_x rfl (x_val call_63 rfl (fun w hw => bit_fn o.x (gett K.toBusA o.y x).1 x.s.r.f hgy9.2 h.r.f w)) rfl rfl n_h ?_
          rintro _ _ ⟨rfl, rfl⟩
          refine RD ?_
          iterate 3 refine RDa ?_
          refine d_x rfl (x_storeTo (l' := cN K { x.s with r := { x.s.r with f := bitF o.x (gett K.toBusA o.y x).1 x.s.r.f } }) 1 rfl rfl rfl rfl rfl rfl (Nat.le_of_ble_eq_true rfl) rfl) rfl rfl n_h ?_
          rintro _ _ ⟨rfl, rfl⟩
          refine c_u ?_
          refine d_nil ?_
          refine c_seq ?_
          refine c_region ?_
          refine RL ?_
          refine l_nil ?_
          refine c_ret ?_
          have e9 : effB K.toBusA o x = (x.mem (gett K.toBusA o.y x).2.m).reg { x.s.r with f := bitF o.x (gett K.toBusA o.y x).1 x.s.r.f } := by unfold effB; rw [if_neg o_m]; rw [if_neg o_m]; rw [if_neg o_m]; rw [if_neg o_m]; rw [if_neg o_m]; rw [if_neg o_m]; rw [if_neg o_m]; rw [if_neg o_m]; rw [if_pos o_m]; rw [← gett_mem, gett_s]
          exact l_end (fun _ _ => rets_v rfl) (.cons _ (List.Sublist.refl _)) ⟨congrArg Value.bool (decide_eq_true o_m : isB o.kind = true).symm, G1, by rw [e9]; first | done | rfl, by rw [e9]; exact hG1⟩
         ·have h9n := r_f h9
          refine c_seq ?_
          refine c_region ?_
          refine RL ?_
          refine RL ?_
          refine l_nil ?_
          refine c_cond rfl (fun h10 => ?_) (fun h10 => ?_)
          ·have h10n := r_f h10
           refine c_draw [(b3, blk (cO o) 44)] [3, 4, 5, 6, 7, 8, 9, 10] (.step true 0 (.step true 1 (.step true 2 (.step true 3 (.step true 4 (.step true 5 (.step true 7 (.step true 8 (.step true 9 (.step false 6 (.step true 10 (.step false 11 .done)))))))))))) rfl (by kernel_rfl) (by kernel_rfl) (fun x hx => by obtain rfl := List.mem_singleton.1 hx; exact .head _) ?_
           refine RD ?_
           refine RDa ?_
           refine RDo ?_
           refine RD ?_
           refine RDa ?_
           refine RDo ?_
           refine RDa ?_
           refine RDo ?_
           refine d_as (v := (.int .u8 (shl .u8 1 o.x))) rfl (shl_pos rfl rfl ho.x.1) rfl rfl rfl rfl ?_
           refine d_x rfl (x_callT (F := [(b3, _)]) (A := (rb, _) :: _) call_56 rfl (fun w hw => rget_fn K rb x h G hG o.y w (St.lentV hw))) rfl rfl (by intro _ _ _ hK x hx; obtain ⟨_, ⟨rfl, G1, rfl, hG1⟩, rfl⟩ := hK; repeat (first | exact hx | exact List.mem_append_left _ hx | refine List.mem_append_right _ ?_ | refine .tail _ ?_)) ?_
           rintro _ _ ⟨_, ⟨rfl, G1, rfl, hG1⟩, rfl⟩
           refine d_as (v := (.int .u8 (resB (gett K.toBusA o.y x).1 o.x))) rfl (l_andn rfl rfl) rfl rfl rfl (congrArg _ (res_law hgy9.2 ho.x)) ?_
           refine d_x rfl (x_callT (F := [(b3, _)]) (A := (rb, _) :: _) call_55 rfl (fun w hw => rset_fn K rb (x.mem (gett K.toBusA o.y x).2.m) (h.gmem o.y) G1 hG1 o.y (resB (gett K.toBusA o.y x).1 o.x) (bits_ok hgy9.2 ho.x).1 w (St.lentV hw))) rfl rfl n_h ?_
           rintro _ _ ⟨_, ⟨rfl, G2, rfl, hG2⟩, rfl⟩
           refine d_nil ?_
           refine c_seq ?_
           refine c_region ?_
           refine RL ?_
           refine l_nil ?_
           refine c_ret ?_
           have e9 : effB K.toBusA o x = sett K.toBusA o.y (resB (gett K.toBusA o.y x).1 o.x) (x.mem (gett K.toBusA o.y x).2.m) := by unfold effB; rw [if_neg o_m]; rw [if_neg o_m]; rw [if_neg o_m]; rw [if_neg o_m]; rw [if_neg o_m]; rw [if_neg o_m]; rw [if_neg o_m]; rw [if_neg o_m]; rw [if_neg o_m]; rw [if_pos o_m]; rw [← gett_mem]
           exact l_end (fun _ _ => rets_v rfl) (.cons _ (List.Sublist.refl _)) ⟨congrArg Value.bool (decide_eq_true o_m : isB o.kind = true).symm, G2, by rw [e9]; first | done | rfl, by rw [e9]; exact hG2⟩
          ·have h10n := r_f h10
           refine c_seq ?_
           refine c_region ?_
           refine RL ?_
           refine RL ?_
           refine l_nil ?_
           refine c_cond rfl (fun h11 => ?_) (fun h11 => ?_)
           ·have h11n := r_f h11
            refine c_draw [(b3, blk (cO o) 44)] [3, 4, 5, 6, 7, 8, 9, 10] (.step true 0 (.step true 1 (.step true 2 (.step true 3 (.step true 4 (.step true 5 (.step true 7 (.step true 8 (.step true 9 (.step false 6 (.step true 10 (.step false 11 .done)))))))))))) rfl (by kernel_rfl) (by kernel_rfl) (fun x hx => by obtain rfl := List.mem_singleton.1 hx; exact .head _) ?_
            refine RD ?_
            refine RDa ?_
            refine RDo ?_
            refine RD ?_
            refine RDa ?_
            refine RDo ?_
            refine RDa ?_
            refine RDo ?_
            refine d_as (v := (.int .u8 (shl .u8 1 o.x))) rfl (shl_pos rfl rfl ho.x.1) rfl rfl rfl rfl ?_
            refine d_x rfl (x_callT (F := [(b3, _)]) (A := (rb, _) :: _) call_56 rfl (fun w hw => rget_fn K rb x h G hG o.y w (St.lentV hw))) rfl rfl (by intro _ _ _ hK x hx; obtain ⟨_, ⟨rfl, G1, rfl, hG1⟩, rfl⟩ := hK; repeat (first | exact hx | exact List.mem_append_left _ hx | refine List.mem_append_right _ ?_ | refine .tail _ ?_)) ?_
            rintro _ _ ⟨_, ⟨rfl, G1, rfl, hG1⟩, rfl⟩
            refine d_as (v := (.int .u8 (setB (gett K.toBusA o.y x).1 o.x))) rfl (l_or rfl rfl) rfl rfl rfl (congrArg _ (set_law hgy9.2 ho.x)) ?_
            refine d_x rfl (x_callT (F := [(b3, _)]) (A := (rb, _) :: _) call_55 rfl (fun w hw => rset_fn K rb (x.mem (gett K.toBusA o.y x).2.m) (h.gmem o.y) G1 hG1 o.y (setB (gett K.toBusA o.y x).1 o.x) (bits_ok hgy9.2 ho.x).2 w (St.lentV hw))) rfl rfl n_h ?_
            rintro _ _ ⟨_, ⟨rfl, G2, rfl, hG2⟩, rfl⟩
            refine d_nil ?_
            refine c_seq ?_
            refine c_region ?_
            refine RL ?_
            refine l_nil ?_
            refine c_ret ?_
            have e9 : effB K.toBusA o x = sett K.toBusA o.y (setB (gett K.toBusA o.y x).1 o.x) (x.mem (gett K.toBusA o.y x).2.m) := by unfold effB; rw [if_neg o_m]; rw [if_neg o_m]; rw [if_neg o_m]; rw [if_neg o_m]; rw [if_neg o_m]; rw [if_neg o_m]; rw [if_neg o_m]; rw [if_neg o_m]; rw [if_neg o_m]; rw [if_neg o_m]; rw [if_pos o_m]; rw [← gett_mem]
            exact l_end (fun _ _ => rets_v rfl) (.cons _ (List.Sublist.refl _)) ⟨congrArg Value.bool (decide_eq_true o_m : isB o.kind = true).symm, G2, by rw [e9]; first | done | rfl, by rw [e9]; exact hG2⟩
           ·have h11n := r_f h11
            refine c_seq ?_
            refine c_region ?_
            refine RL ?_
            refine RL ?_
            refine l_nil ?_
            refine c_cond rfl (fun h12 => ?_) (fun h12 => ?_)
            ·have h12n := r_f h12
             refine c_region ?_
             iterate 4 refine RL ?_
             iterate 3 refine RLa ?_
             refine RLo ?_
             refine RL ?_
             refine RLv call_64 (fun w hw => daa_fn x.s.r.a x.s.r.f h.r.a h.r.f w) ?_
             iterate 4 refine RL ?_
             iterate 3 refine RLa ?_
             refine l_x (x_storeTo (l' := cN K { x.s with r := { x.s.r with a := daaR x.s.r.a x.s.r.f } }) 1 rfl rfl rfl rfl rfl rfl (Nat.le_of_ble_eq_true rfl) rfl) rfl rfl ?_
             rintro _ _ ⟨rfl, rfl⟩
             refine c_u ?_
             refine RL ?_
             iterate 3 refine RLa ?_
             refine l_x (x_storeTo (l' := cN K { x.s with r := { x.s.r with a := daaR x.s.r.a x.s.r.f, f := daaF x.s.r.a x.s.r.f } }) 1 rfl rfl rfl rfl rfl rfl (Nat.le_of_ble_eq_true rfl) rfl) rfl rfl ?_
             rintro _ _ ⟨rfl, rfl⟩
             refine c_u ?_
             refine l_nil ?_
             refine c_seq ?_
             refine c_region ?_
             refine RL ?_
             refine l_nil ?_
             refine c_ret ?_
             have e9 : effB K.toBusA o x = x.reg { x.s.r with a := daaR x.s.r.a x.s.r.f, f := daaF x.s.r.a x.s.r.f } := by unfold effB; rw [if_neg o_m]; rw [if_neg o_m]; rw [if_neg o_m]; rw [if_neg o_m]; rw [if_neg o_m]; rw [if_neg o_m]; rw [if_neg o_m]; rw [if_neg o_m]; rw [if_neg o_m]; rw [if_neg o_m]; rw [if_neg o_m]; rw [if_pos o_m]
             exact l_end (fun _ _ => rets_v rfl) (.cons _ (List.Sublist.refl _)) ⟨congrArg Value.bool (decide_eq_true o_m : isB o.kind = true).symm, G, by rw [e9]; first | done | rfl, by rw [e9]; exact hG⟩
            ·have h12n := r_f h12
             refine c_seq ?_
             refine c_region ?_
             refine RL ?_
             refine RL ?_
             refine l_nil ?_
             refine c_cond rfl (fun h13 => ?_) (fun h13 => ?_)
             ·have h13n := r_f h13
              refine c_seq ?_
              refine c_region ?_
              iterate 3 refine RL ?_
              iterate 3 refine RLa ?_
              refine RLo ?_
              refine l_as (v := (.int .u8 (255 - x.s.r.a))) rfl rfl rfl (congrArg _ (not_law h.r.a)) ?_
              refine RL ?_
              iterate 3 refine RLa ?_
              refine l_x (x_storeTo (l' := cN K { x.s with r := { x.s.r with a := 255 - x.s.r.a } }) 1 rfl rfl rfl rfl rfl rfl (Nat.le_of_ble_eq_true rfl) rfl) rfl rfl ?_
              rintro _ _ ⟨rfl, rfl⟩
              refine c_u ?_
              refine l_nil ?_
              refine c_region ?_
              refine RL ?_
              refine RL ?_
              refine l_as (v := (.int .u8 (band .u8 x.s.r.f 144))) (l_and rfl rfl) rfl rfl rfl ?_
              refine l_as (v := (.int .u8 (bor .u8 (band .u8 x.s.r.f 144) 64))) (l_or rfl rfl) rfl rfl rfl ?_
              refine l_as (v := (.int .u8 (fl (zF x.s.r.f) true true (cF x.s.r.f)))) (l_or rfl rfl) rfl rfl (congrArg _ (cpl_law h.r.f)) ?_
              refine RL ?_
              iterate 3 refine RLa ?_
              refine l_x (x_storeTo (l' := cN K { x.s with r := { x.s.r with a := 255 - x.s.r.a, f := fl (zF x.s.r.f) true true (cF x.s.r.f) } }) 1 rfl rfl rfl rfl rfl rfl (Nat.le_of_ble_eq_true rfl) rfl) rfl rfl ?_
              rintro _ _ ⟨rfl, rfl⟩
              refine c_u ?_
              refine l_nil ?_
              refine c_seq ?_
              refine c_region ?_
              refine RL ?_
              refine l_nil ?_
              refine c_ret ?_
              have e9 : effB K.toBusA o x = x.reg { x.s.r with a := 255 - x.s.r.a, f := fl (zF x.s.r.f) true true (cF x.s.r.f) } := by unfold effB; rw [if_neg o_m]; rw [if_neg o_m]; rw [if_neg o_m]; rw [if_neg o_m]; rw [if_neg o_m]; rw [if_neg o_m]; rw [if_neg o_m]; rw [if_neg o_m]; rw [if_neg o_m]; rw [if_neg o_m]; rw [if_neg o_m]; rw [if_neg o_m]; rw [if_pos o_m]
              exact l_end (fun _ _ => rets_v rfl) (.cons _ (List.Sublist.refl _)) ⟨congrArg Value.bool (decide_eq_true o_m : isB o.kind = true).symm, G, by rw [e9]; first | done | rfl, by rw [e9]; exact hG⟩
             ·have h13n := r_f h13
              refine c_seq ?_
              refine c_region ?_
              refine RL ?_
              refine RL ?_
              refine l_nil ?_
              refine c_cond rfl (fun h14 => ?_) (fun h14 => ?_)
              ·have h14n := r_f h14
               refine c_region ?_
               refine RL ?_
               refine RL ?_
               refine l_as (v := (.int .u8 (band .u8 x.s.r.f 128))) (l_and rfl rfl) rfl rfl rfl ?_
               refine l_as (v := (.int .u8 (fl (zF x.s.r.f) false false true))) (l_or rfl rfl) rfl rfl (congrArg _ (scf_law h.r.f)) ?_
               refine RL ?_
               iterate 3 refine RLa ?_
               refine l_x (x_storeTo (l' := cN K { x.s with r := { x.s.r with f := fl (zF x.s.r.f) false false true } }) 1 rfl rfl rfl rfl rfl rfl (Nat.le_of_ble_eq_true rfl) rfl) rfl rfl ?_
               rintro _ _ ⟨rfl, rfl⟩
               refine c_u ?_
               refine l_nil ?_
               refine c_seq ?_
               refine c_region ?_
               refine RL ?_
               refine l_nil ?_
               refine c_ret ?_
               have e9 : effB K.toBusA o x = x.reg { x.s.r with f := fl (zF x.s.r.f) false false true } := by unfold effB; rw [if_neg o_m]; rw [if_neg o_m]; rw [if_neg o_m]; rw [if_neg o_m]; rw [if_neg o_m]; rw [if_neg o_m]; rw [if_neg o_m]; rw [if_neg o_m]; rw [if_neg o_m]; rw [if_neg o_m]; rw [if_neg o_m]; rw [if_neg o_m]; rw [if_neg o_m]; rw [if_pos o_m]
               exact l_end (fun _ _ => rets_v rfl) (.cons _ (List.Sublist.refl _)) ⟨congrArg Value.bool (decide_eq_true o_m : isB o.kind = true).symm, G, by rw [e9]; first | done | rfl, by rw [e9]; exact hG⟩
              ·have h14n := r_f h14
               refine c_seq ?_
               refine c_region ?_
               refine RL ?_
               refine RL ?_
               refine l_nil ?_
               refine c_cond rfl (fun h15 => ?_) (fun h15 => ?_)
               ·have h15n := r_f h15
                refine c_region ?_
                refine RL ?_
                refine RL ?_
                refine l_as (v := (.int .u8 (band .u8 x.s.r.f 144))) (l_and rfl rfl) rfl rfl rfl ?_
                refine l_as (v := (.int .u8 (fl (zF x.s.r.f) false false (!cF x.s.r.f)))) (l_xor rfl rfl) rfl rfl (congrArg _ (ccf_law h.r.f)) ?_
                refine RL ?_
                iterate 3 refine RLa ?_
                refine l_x (x_storeTo (l' := cN K { x.s with r := { x.s.r with f := fl (zF x.s.r.f) false false (!cF x.s.r.f) } }) 1 rfl rfl rfl rfl rfl rfl (Nat.le_of_ble_eq_true rfl) rfl) rfl rfl ?_
                rintro _ _ ⟨rfl, rfl⟩
                refine c_u ?_
                refine l_nil ?_
                refine c_seq ?_
                refine c_region ?_
                refine RL ?_
                refine l_nil ?_
                refine c_ret ?_
                have e9 : effB K.toBusA o x = x.reg { x.s.r with f := fl (zF x.s.r.f) false false (!cF x.s.r.f) } := by unfold effB; rw [if_neg o_m]; rw [if_neg o_m]; rw [if_neg o_m]; rw [if_neg o_m]; rw [if_neg o_m]; rw [if_neg o_m]; rw [if_neg o_m]; rw [if_neg o_m]; rw [if_neg o_m]; rw [if_neg o_m]; rw [if_neg o_m]; rw [if_neg o_m]; rw [if_neg o_m]; rw [if_neg o_m]; rw [if_pos o_m]
                exact l_end (fun _ _ => rets_v rfl) (.cons _ (List.Sublist.refl _)) ⟨congrArg Value.bool (decide_eq_true o_m : isB o.kind = true).symm, G, by rw [e9]; first | done | rfl, by rw [e9]; exact hG⟩
               ·have h15n := r_f h15
                refine c_seq ?_
                refine c_region ?_
                refine RL ?_
                refine l_nil ?_
                refine c_ret ?_
                exact l_end (fun _ _ => rets_v rfl) (.cons _ (List.Sublist.refl _)) ⟨congrArg Value.bool (decide_eq_false o_m : isB o.kind = false).symm, G, by rw [effB_no K.toBusA (decide_eq_false o_m)], by rw [effB_no K.toBusA (decide_eq_false o_m)]; exact hG⟩

theorem rwords_fn {β : Type} (K : BusK Tryz.prog β) (rb : Nat) {bn : Nat} (x : Rn β) (h : RunOk K.toBusO (bn + 3) x) (G : Heap) (hG : K.rep x.m G) (o : Opr) (ho : OpOk o) (w : World) (hst : St w (rb :: G.map (·.1)) ((rb, blk (cN K x.s) 77) :: G) w) : Does Tryz.prog 29 [.pointer (some ⟨rb, 0, none⟩), .agg (cO o).toArray] w (rb :: G.map (·.1)) (fun v H => v = .bool (isW o.kind) ∧ RunH K rb (effW K.toBusA o x) H) := by
 have hn9 := ho.n
 have hs9 := h.r.sp
 have hp9 := h.r.setP o.x (inc16_ok (w := (pairR x.s.r o.x)))
 have hm9 := h.r.setP o.x (dec16_ok (w := (pairR x.s.r o.x)))
 have hq9 := (h.r.f_ (fl_byte (zF x.s.r.f) false (decide (4095 < (pairR x.s.r 2) % 4096 + (pairR x.s.r o.x) % 4096)) (decide (65535 < (pairR x.s.r 2) + (pairR x.s.r o.x))))).setP 2 (add16R_ok (a := (pairR x.s.r 2)) (b := (pairR x.s.r o.x)))
 refine does_of Tryz.func29 rfl rfl rfl hst ?_
 refine c_seq ?_
 refine c_region ?_
 refine l_x (x_box (l := cO o) rfl rfl) rfl rfl ?_
 rintro _ _ ⟨b3, rfl, rfl⟩
 refine RL ?_
 refine l_nil ?_
 refine c_seq ?_
 refine c_region ?_
 refine RL ?_
 refine l_nil ?_
 refine c_seq ?_
 refine c_seq ?_
 refine c_region ?_
 refine RLa ?_
 refine RLo ?_
 refine l_nil ?_
 refine c_block ?_
 refine c_seq ?_
 refine c_region ?_
 refine RL ?_
 refine RL ?_
 refine l_nil ?_
 refine c_cond rfl (fun h1 => ?_) (fun h1 => ?_)
 ·have h1n := r_f h1
  refine c_region ?_
  refine RL ?_
  refine RLa ?_
  refine RLo ?_
  refine RLa ?_
  refine RLo ?_
  refine l_x (x_callT (F := [(b3, _)]) (A := (rb, _) :: _) call_65 rfl (fun w hw => rsetPair_fn K rb x h G hG o.x o.n ho.n w (St.lentV hw))) rfl rfl ?_
  rintro _ _ ⟨_, ⟨rfl, G1, rfl, hG1⟩, rfl⟩
  refine l_nil ?_
  refine c_seq ?_
  refine c_region ?_
  refine RL ?_
  refine l_nil ?_
  refine c_ret ?_
  have e9 : effW K.toBusA o x = x.reg (setPR x.s.r o.x o.n) := by unfold effW; rw [if_pos o_m]
  exact l_end (fun _ _ => rets_v rfl) (.cons _ (List.Sublist.refl _)) ⟨congrArg Value.bool (decide_eq_true o_m : isW o.kind = true).symm, G1, by rw [e9]; first | done | rfl, by rw [e9]; exact hG1⟩
 ·have h1n := r_f h1
  refine c_seq ?_
  refine c_region ?_
  refine RL ?_
  refine RL ?_
  refine l_nil ?_
  refine c_cond rfl (fun h2 => ?_) (fun h2 => ?_)
  ·have h2n := r_f h2
   refine c_seq ?_
   refine c_draw [(b3, blk (cO o) 44)] [3, 4, 5, 6, 7] (.step true 0 (.step true 1 (.step true 2 (.step true 3 (.step true 4 (.step true 5 (.step false 6 (.step true 7 (.step false 8 .done))))))))) rfl (by kernel_rfl) (by kernel_rfl) (fun x hx => by obtain rfl := List.mem_singleton.1 hx; exact .head _) ?_
   refine RD ?_
   refine RDa ?_
   refine RDo ?_
   refine RD ?_
   refine RDa ?_
   refine RDo ?_
   refine d_x rfl (x_val call_66 rfl (fun w hw => rpair_fn K rb x.s h.r w (row_own (l := cN K x.s) m_m w hw) o.x)) rfl rfl (by intro _ _ _ hK x hx; obtain ⟨rfl, rfl⟩ := hK; repeat (first | exact hx | exact List.mem_append_left _ hx | refine List.mem_append_right _ ?_ | refine .tail _ ?_)) ?_
   rintro _ _ ⟨rfl, rfl⟩
   refine d_as (v := (.int .u16 (inc16 (pairR x.s.r o.x)))) rfl (l_add rfl rfl) rfl rfl rfl (congrArg _ (wrap_u16 _)) ?_
   refine d_x rfl (x_callT (F := [(b3, _)]) (A := (rb, _) :: _) call_65 rfl (fun w hw => rsetPair_fn K rb x h G hG o.x (inc16 (pairR x.s.r o.x)) inc16_ok w (St.lentV hw))) rfl rfl n_h ?_
   rintro _ _ ⟨_, ⟨rfl, G1, rfl, hG1⟩, rfl⟩
   refine d_nil ?_
   refine c_region ?_
   refine RL ?_
   refine l_x (x_callT (F := [(b3, _)]) (A := (rb, _) :: _) call_13 rfl (fun w hw => ridle_fn K rb 1 (by decide) (x.reg (setPR x.s.r o.x (inc16 (pairR x.s.r o.x)))) (h.reg hp9) G1 hG1 w (St.lentV hw))) rfl rfl ?_
   rintro _ _ ⟨_, ⟨rfl, G2, rfl, hG2⟩, rfl⟩
   refine l_nil ?_
   refine c_seq ?_
   refine c_region ?_
   refine RL ?_
   refine l_nil ?_
   refine c_ret ?_
   have e9 : effW K.toBusA o x = idles K.toBusA 1 (x.reg (setPR x.s.r o.x (inc16 (pairR x.s.r o.x)))) := by unfold effW; rw [if_neg o_m]; rw [if_pos o_m]
   exact l_end (fun _ _ => rets_v rfl) (.cons _ (List.Sublist.refl _)) ⟨congrArg Value.bool (decide_eq_true o_m : isW o.kind = true).symm, G2, by rw [e9]; first | done | rfl, by rw [e9]; exact hG2⟩
  ·have h2n := r_f h2
   refine c_seq ?_
   refine c_region ?_
   refine RL ?_
   refine RL ?_
   refine l_nil ?_
   refine c_cond rfl (fun h3 => ?_) (fun h3 => ?_)
   ·have h3n := r_f h3
    refine c_seq ?_
    refine c_draw [(b3, blk (cO o) 44)] [3, 4, 5, 6, 7] (.step true 0 (.step true 1 (.step true 2 (.step true 3 (.step true 4 (.step true 5 (.step false 6 (.step true 7 (.step false 8 .done))))))))) rfl (by kernel_rfl) (by kernel_rfl) (fun x hx => by obtain rfl := List.mem_singleton.1 hx; exact .head _) ?_
    refine RD ?_
    refine RDa ?_
    refine RDo ?_
    refine RD ?_
    refine RDa ?_
    refine RDo ?_
    refine d_x rfl (x_val call_66 rfl (fun w hw => rpair_fn K rb x.s h.r w (row_own (l := cN K x.s) m_m w hw) o.x)) rfl rfl (by intro _ _ _ hK x hx; obtain ⟨rfl, rfl⟩ := hK; repeat (first | exact hx | exact List.mem_append_left _ hx | refine List.mem_append_right _ ?_ | refine .tail _ ?_)) ?_
    rintro _ _ ⟨rfl, rfl⟩
    refine d_as (v := (.int .u16 (dec16 (pairR x.s.r o.x)))) rfl (l_sub rfl rfl) rfl rfl rfl (congrArg _ (wrap_u16 _)) ?_
    refine d_x rfl (x_callT (F := [(b3, _)]) (A := (rb, _) :: _) call_65 rfl (fun w hw => rsetPair_fn K rb x h G hG o.x (dec16 (pairR x.s.r o.x)) dec16_ok w (St.lentV hw))) rfl rfl n_h ?_
    rintro _ _ ⟨_, ⟨rfl, G1, rfl, hG1⟩, rfl⟩
    refine d_nil ?_
    refine c_region ?_
    refine RL ?_
    refine l_x (x_callT (F := [(b3, _)]) (A := (rb, _) :: _) call_13 rfl (fun w hw => ridle_fn K rb 1 (by decide) (x.reg (setPR x.s.r o.x (dec16 (pairR x.s.r o.x)))) (h.reg hm9) G1 hG1 w (St.lentV hw))) rfl rfl ?_
    rintro _ _ ⟨_, ⟨rfl, G2, rfl, hG2⟩, rfl⟩
    refine l_nil ?_
    refine c_seq ?_
    refine c_region ?_
    refine RL ?_
    refine l_nil ?_
    refine c_ret ?_
    have e9 : effW K.toBusA o x = idles K.toBusA 1 (x.reg (setPR x.s.r o.x (dec16 (pairR x.s.r o.x)))) := by unfold effW; rw [if_neg o_m]; rw [if_neg o_m]; rw [if_pos o_m]
    exact l_end (fun _ _ => rets_v rfl) (.cons _ (List.Sublist.refl _)) ⟨congrArg Value.bool (decide_eq_true o_m : isW o.kind = true).symm, G2, by rw [e9]; first | done | rfl, by rw [e9]; exact hG2⟩
   ·have h3n := r_f h3
    refine c_seq ?_
    refine c_region ?_
    refine RL ?_
    refine RL ?_
    refine l_nil ?_
    refine c_cond rfl (fun h4 => ?_) (fun h4 => ?_)
    ·have h4n := r_f h4
     refine c_seq ?_
     refine c_draw _ [2, 6, 7, 8, 9, 10, 11, 12] (.step true 0 (.step true 1 (.step true 3 (.step true 4 (.step true 5 (.step true 7 (.step true 8 (.step true 9 (.step true 10 (.step true 11 (.step true 12 (.step false 2 (.step false 6 (.step false 13 (.step true 14 (.step true 15 (.step true 16 (.step true 17 (.step true 18 (.step true 19 (.step true 20 (.step true 21 (.step false 22 .done))))))))))))))))))))))) rfl (by kernel_rfl) (by kernel_rfl) (fun _ h => h) ?_
     iterate 3 refine RD ?_
     refine RDa ?_
     refine RDo ?_
     refine RD ?_
     refine RD ?_
     iterate 3 refine RDa ?_
     refine RDo ?_
     refine d_x rfl (x_val call_66 rfl (fun w hw => rpair_fn K rb x.s h.r w (row_own (l := cN K x.s) m_m w hw) 2)) rfl rfl (by intro _ _ _ hK x hx; obtain ⟨rfl, rfl⟩ := hK; repeat (first | exact hx | exact List.mem_append_left _ hx | refine List.mem_append_right _ ?_ | refine .tail _ ?_)) ?_
     rintro _ _ ⟨rfl, rfl⟩
     refine d_x rfl (x_val call_66 rfl (fun w hw => rpair_fn K rb x.s h.r w (row_own (l := cN K x.s) m_m w hw) o.x)) rfl rfl (by intro _ _ _ hK x hx; obtain ⟨rfl, rfl⟩ := hK; repeat (first | exact hx | exact List.mem_append_left _ hx | refine List.mem_append_right _ ?_ | refine .tail _ ?_)) ?_
     rintro _ _ ⟨rfl, rfl⟩
     refine d_x rfl (x_val call_67 rfl (fun w hw => add16_fn (pairR x.s.r 2) (pairR x.s.r o.x) x.s.r.f (pairR_word h.r 2) (pairR_word h.r o.x) h.r.f w)) rfl rfl n_h ?_
     rintro _ _ ⟨rfl, rfl⟩
     refine d_mv rfl (vnf_eq rfl) rfl rfl ?_
     iterate 4 refine RD ?_
     iterate 3 refine RDa ?_
     refine d_x rfl (x_storeTo (l' := cN K { x.s with r := { x.s.r with f := add16F (pairR x.s.r 2) (pairR x.s.r o.x) x.s.r.f } }) 1 rfl rfl rfl rfl rfl rfl (Nat.le_of_ble_eq_true rfl) rfl) rfl rfl n_h ?_
     rintro _ _ ⟨rfl, rfl⟩
     refine c_u ?_
     refine d_nil ?_
     refine c_seq ?_
     refine c_region ?_
     refine RL ?_
     refine RL ?_
     refine l_x (x_callT (F := [(b3, _)]) (A := (rb, _) :: _) call_65 rfl (fun w hw => rsetPair_fn K rb (x.reg { x.s.r with f := add16F (pairR x.s.r 2) (pairR x.s.r o.x) x.s.r.f }) (h.reg (h.r.f_ (fl_byte _ _ _ _))) G hG 2 (add16R (pairR x.s.r 2) (pairR x.s.r o.x)) add16R_ok w (St.lentV hw))) rfl rfl ?_
     rintro _ _ ⟨_, ⟨rfl, G1, rfl, hG1⟩, rfl⟩
     refine l_nil ?_
     refine c_region ?_
     refine RL ?_
     refine l_x (x_callT (F := [(b3, _)]) (A := (rb, _) :: _) call_13 rfl (fun w hw => ridle_fn K rb 1 (by decide) (x.reg (setPR { x.s.r with f := add16F (pairR x.s.r 2) (pairR x.s.r o.x) x.s.r.f } 2 (add16R (pairR x.s.r 2) (pairR x.s.r o.x)))) (h.reg hq9) G1 hG1 w (St.lentV hw))) rfl rfl ?_
     rintro _ _ ⟨_, ⟨rfl, G2, rfl, hG2⟩, rfl⟩
     refine l_nil ?_
     refine c_seq ?_
     refine c_region ?_
     refine RL ?_
     refine l_nil ?_
     refine c_ret ?_
     have e9 : effW K.toBusA o x = idles K.toBusA 1 (x.reg (setPR { x.s.r with f := add16F (pairR x.s.r 2) (pairR x.s.r o.x) x.s.r.f } 2 (add16R (pairR x.s.r 2) (pairR x.s.r o.x)))) := by unfold effW; rw [if_neg o_m]; rw [if_neg o_m]; rw [if_neg o_m]; rw [if_pos o_m]
     exact l_end (fun _ _ => rets_v rfl) (.cons _ (List.Sublist.refl _)) ⟨congrArg Value.bool (decide_eq_true o_m : isW o.kind = true).symm, G2, by rw [e9]; first | done | rfl, by rw [e9]; exact hG2⟩
    ·have h4n := r_f h4
     refine c_seq ?_
     refine c_region ?_
     refine RL ?_
     refine RL ?_
     refine l_nil ?_
     refine c_cond rfl (fun h5 => ?_) (fun h5 => ?_)
     ·have h5n := r_f h5
      refine c_seq ?_
      refine c_draw _ [8, 9, 10] (.step true 0 (.step true 1 (.step true 2 (.step true 3 (.step true 4 (.step true 5 (.step true 6 (.step true 7 (.step true 8 (.step true 9 (.step true 10 (.step false 11 (.step true 12 (.step true 13 (.step true 14 (.step true 15 (.step true 16 (.step true 17 (.step true 18 (.step false 19 (.step true 20 (.step true 21 (.step true 22 (.step true 23 (.step false 24 .done))))))))))))))))))))))))) rfl (by kernel_rfl) (by kernel_rfl) (fun _ h => h) ?_
      iterate 4 refine RD ?_
      iterate 3 refine RDa ?_
      refine RDo ?_
      refine RDa ?_
      refine RDo ?_
      refine d_as rfl (l_conv rfl rfl rfl) rfl rfl rfl (by first | exact as_u8 o_m o_m | exact as_u8m _) ?_
      refine d_x rfl (x_val call_68 rfl (fun w hw => shift_fn x.s.r.sp (o.n % 256) h.r.sp o_m w)) rfl rfl n_h ?_
      rintro _ _ ⟨rfl, rfl⟩
      refine d_mv rfl (vnf_eq rfl) rfl rfl ?_
      iterate 3 refine RD ?_
      iterate 3 refine RDa ?_
      refine d_x rfl (x_storeTo (l' := cN K { x.s with r := { x.s.r with sp := shR x.s.r.sp (o.n % 256) } }) 1 rfl rfl rfl rfl rfl rfl (Nat.le_of_ble_eq_true rfl) rfl) rfl rfl n_h ?_
      rintro _ _ ⟨rfl, rfl⟩
      refine c_u ?_
      refine RD ?_
      iterate 3 refine RDa ?_
      refine d_x rfl (x_storeTo (l' := cN K { x.s with r := { x.s.r with sp := shR x.s.r.sp (o.n % 256), f := shF x.s.r.sp (o.n % 256) } }) 1 rfl rfl rfl rfl rfl rfl (Nat.le_of_ble_eq_true rfl) rfl) rfl rfl n_h ?_
      rintro _ _ ⟨rfl, rfl⟩
      refine c_u ?_
      refine d_nil ?_
      refine c_region ?_
      refine RL ?_
      refine l_x (x_callT (F := [(b3, _)]) (A := (rb, _) :: _) call_13 rfl (fun w hw => ridle_fn K rb 2 (by decide) (x.reg { x.s.r with sp := shR x.s.r.sp (o.n % 256), f := shF x.s.r.sp (o.n % 256) }) (h.reg ((h.r.sp_ shR_ok).f_ (fl_byte _ _ _ _))) G hG w (St.lentV hw))) rfl rfl ?_
      rintro _ _ ⟨_, ⟨rfl, G1, rfl, hG1⟩, rfl⟩
      refine l_nil ?_
      refine c_seq ?_
      refine c_region ?_
      refine RL ?_
      refine l_nil ?_
      refine c_ret ?_
      have e9 : effW K.toBusA o x = idles K.toBusA 2 (x.reg { x.s.r with sp := shR x.s.r.sp (o.n % 256), f := shF x.s.r.sp (o.n % 256) }) := by unfold effW; rw [if_neg o_m]; rw [if_neg o_m]; rw [if_neg o_m]; rw [if_neg o_m]; rw [if_pos o_m]
      exact l_end (fun _ _ => rets_v rfl) (.cons _ (List.Sublist.refl _)) ⟨congrArg Value.bool (decide_eq_true o_m : isW o.kind = true).symm, G1, by rw [e9]; first | done | rfl, by rw [e9]; exact hG1⟩
     ·have h5n := r_f h5
      refine c_seq ?_
      refine c_region ?_
      refine RL ?_
      refine RL ?_
      refine l_nil ?_
      refine c_cond rfl (fun h6 => ?_) (fun h6 => ?_)
      ·have h6n := r_f h6
       refine c_seq ?_
       refine c_draw _ [7, 8, 9] (.step true 0 (.step true 1 (.step true 2 (.step true 3 (.step true 4 (.step true 5 (.step true 6 (.step true 7 (.step true 8 (.step true 9 (.step false 10 (.step true 11 (.step true 12 (.step true 13 (.step true 14 (.step true 15 (.step true 16 (.step true 17 (.step true 18 (.step false 19 .done)))))))))))))))))))) rfl (by kernel_rfl) (by kernel_rfl) (fun _ h => h) ?_
       iterate 3 refine RD ?_
       iterate 3 refine RDa ?_
       refine RDo ?_
       refine RDa ?_
       refine RDo ?_
       refine d_as rfl (l_conv rfl rfl rfl) rfl rfl rfl (by first | exact as_u8 o_m o_m | exact as_u8m _) ?_
       refine d_x rfl (x_val call_68 rfl (fun w hw => shift_fn x.s.r.sp (o.n % 256) h.r.sp o_m w)) rfl rfl n_h ?_
       rintro _ _ ⟨rfl, rfl⟩
       refine d_mv rfl (vnf_eq rfl) rfl rfl ?_
       iterate 4 refine RD ?_
       iterate 3 refine RDa ?_
       refine d_x rfl (x_storeTo (l' := cN K { x.s with r := { x.s.r with f := shF x.s.r.sp (o.n % 256) } }) 1 rfl rfl rfl rfl rfl rfl (Nat.le_of_ble_eq_true rfl) rfl) rfl rfl n_h ?_
       rintro _ _ ⟨rfl, rfl⟩
       refine c_u ?_
       refine d_nil ?_
       refine c_seq ?_
       refine c_region ?_
       refine RL ?_
       refine RL ?_
       refine l_x (x_callT (F := [(b3, _)]) (A := (rb, _) :: _) call_65 rfl (fun w hw => rsetPair_fn K rb (x.reg { x.s.r with f := shF x.s.r.sp (o.n % 256) }) (h.reg (h.r.f_ (fl_byte _ _ _ _))) G hG 2 (shR x.s.r.sp (o.n % 256)) shR_ok w (St.lentV hw))) rfl rfl ?_
       rintro _ _ ⟨_, ⟨rfl, G1, rfl, hG1⟩, rfl⟩
       refine l_nil ?_
       refine c_region ?_
       refine RL ?_
       refine l_x (x_callT (F := [(b3, _)]) (A := (rb, _) :: _) call_13 rfl (fun w hw => ridle_fn K rb 1 (by decide) (x.reg (setPR { x.s.r with f := shF x.s.r.sp (o.n % 256) } 2 (shR x.s.r.sp (o.n % 256)))) (h.reg ((h.r.f_ (fl_byte _ _ _ _)).setP 2 shR_ok)) G1 hG1 w (St.lentV hw))) rfl rfl ?_
       rintro _ _ ⟨_, ⟨rfl, G2, rfl, hG2⟩, rfl⟩
       refine l_nil ?_
       refine c_seq ?_
       refine c_region ?_
       refine RL ?_
       refine l_nil ?_
       refine c_ret ?_
       have e9 : effW K.toBusA o x = idles K.toBusA 1 (x.reg (setPR { x.s.r with f := shF x.s.r.sp (o.n % 256) } 2 (shR x.s.r.sp (o.n % 256)))) := by unfold effW; rw [if_neg o_m]; rw [if_neg o_m]; rw [if_neg o_m]; rw [if_neg o_m]; rw [if_neg o_m]; rw [if_pos o_m]
       exact l_end (fun _ _ => rets_v rfl) (.cons _ (List.Sublist.refl _)) ⟨congrArg Value.bool (decide_eq_true o_m : isW o.kind = true).symm, G2, by rw [e9]; first | done | rfl, by rw [e9]; exact hG2⟩
      ·have h6n := r_f h6
       refine c_seq ?_
       refine c_region ?_
       refine RL ?_
       refine RL ?_
       refine l_nil ?_
       refine c_cond rfl (fun h7 => ?_) (fun h7 => ?_)
       ·have h7n := r_f h7
        refine c_seq ?_
        refine c_region ?_
        refine RL ?_
        refine RL ?_
        refine RLv call_66 (fun w hw => rpair_fn K rb x.s h.r w (row_own (l := cN K x.s) m_m w hw) 2) ?_
        refine RL ?_
        iterate 3 refine RLa ?_
        refine l_x (x_storeTo (l' := cN K { x.s with r := { x.s.r with sp := (pairR x.s.r 2) } }) 1 rfl rfl rfl rfl rfl rfl (Nat.le_of_ble_eq_true rfl) rfl) rfl rfl ?_
        rintro _ _ ⟨rfl, rfl⟩
        refine c_u ?_
        refine l_nil ?_
        refine c_region ?_
        refine RL ?_
        refine l_x (x_callT (F := [(b3, _)]) (A := (rb, _) :: _) call_13 rfl (fun w hw => ridle_fn K rb 1 (by decide) (x.reg { x.s.r with sp := (pairR x.s.r 2) }) (h.reg (h.r.sp_ (pairR_word h.r 2))) G hG w (St.lentV hw))) rfl rfl ?_
        rintro _ _ ⟨_, ⟨rfl, G1, rfl, hG1⟩, rfl⟩
        refine l_nil ?_
        refine c_seq ?_
        refine c_region ?_
        refine RL ?_
        refine l_nil ?_
        refine c_ret ?_
        have e9 : effW K.toBusA o x = idles K.toBusA 1 (x.reg { x.s.r with sp := (pairR x.s.r 2) }) := by unfold effW; rw [if_neg o_m]; rw [if_neg o_m]; rw [if_neg o_m]; rw [if_neg o_m]; rw [if_neg o_m]; rw [if_neg o_m]; rw [if_pos o_m]
        exact l_end (fun _ _ => rets_v rfl) (.cons _ (List.Sublist.refl _)) ⟨congrArg Value.bool (decide_eq_true o_m : isW o.kind = true).symm, G1, by rw [e9]; first | done | rfl, by rw [e9]; exact hG1⟩
       ·have h7n := r_f h7
        refine c_seq ?_
        refine c_region ?_
        refine RL ?_
        refine RL ?_
        refine l_nil ?_
        refine c_cond rfl (fun h8 => ?_) (fun h8 => ?_)
        ·have h8n := r_f h8
         refine c_seq ?_
         refine c_region ?_
         refine RL ?_
         refine l_x (x_callT (F := [(b3, _)]) (A := (rb, _) :: _) call_13 rfl (fun w hw => ridle_fn K rb 1 (by decide) x h G hG w (St.lentV hw))) rfl rfl ?_
         rintro _ _ ⟨_, ⟨rfl, G1, rfl, hG1⟩, rfl⟩
         refine l_nil ?_
         refine c_region ?_
         refine RL ?_
         refine RL ?_
         refine RLa ?_
         refine RLo ?_
         refine RLv call_66 (fun w hw => rpair_fn K rb (idles K.toBusA 1 x).s (h.idleK 1).r w (row_own (l := cN K (idles K.toBusA 1 x).s) m_m w hw) o.x) ?_
         refine l_x (x_callT (F := [(b3, _)]) (A := (rb, _) :: _) call_26 rfl (fun w hw => rpush_fn K rb (idles K.toBusA 1 x) (h.idleK 1) G1 hG1 (pairR (idles K.toBusA 1 x).s.r o.x) (pairR_word h.r o.x) w (St.lentV hw))) rfl rfl ?_
         rintro _ _ ⟨_, ⟨rfl, G2, rfl, hG2⟩, rfl⟩
         refine l_nil ?_
         refine c_seq ?_
         refine c_region ?_
         refine RL ?_
         refine l_nil ?_
         refine c_ret ?_
         have e9 : effW K.toBusA o x = push K.toBusA (pairR (idles K.toBusA 1 x).s.r o.x) (idles K.toBusA 1 x) := by unfold effW; rw [if_neg o_m]; rw [if_neg o_m]; rw [if_neg o_m]; rw [if_neg o_m]; rw [if_neg o_m]; rw [if_neg o_m]; rw [if_neg o_m]; rw [if_pos o_m]
         exact l_end (fun _ _ => rets_v rfl) (.cons _ (List.Sublist.refl _)) ⟨congrArg Value.bool (decide_eq_true o_m : isW o.kind = true).symm, G2, by rw [e9]; first | done | rfl, by rw [e9]; exact hG2⟩
        ·have h8n := r_f h8
         refine c_seq ?_
         refine c_region ?_
         refine RL ?_
         refine RL ?_
         refine l_nil ?_
         refine c_cond rfl (fun h9 => ?_) (fun h9 => ?_)
         ·have h9n := r_f h9
          refine c_seq ?_
          refine c_region ?_
          refine RL ?_
          refine l_x (x_callT (F := [(b3, _)]) (A := (rb, _) :: _) call_69 rfl (fun w hw => rpop_fn K rb x h G hG w (St.lentV hw))) rfl rfl ?_
          rintro _ _ ⟨_, ⟨rfl, G1, rfl, hG1⟩, rfl⟩
          refine RL ?_
          refine l_nil ?_
          refine c_region ?_
          refine RL ?_
          refine RLa ?_
          refine RLo ?_
          refine RL ?_
          refine l_x (x_callT (F := [(b3, _)]) (A := (rb, _) :: _) call_65 rfl (fun w hw => rsetPair_fn K rb (pop K.toBusA x).2 h.pop.1 G1 hG1 o.x (pop K.toBusA x).1 h.pop.2 w (St.lentV hw))) rfl rfl ?_
          rintro _ _ ⟨_, ⟨rfl, G2, rfl, hG2⟩, rfl⟩
          refine l_nil ?_
          refine c_seq ?_
          refine c_region ?_
          refine RL ?_
          refine l_nil ?_
          refine c_ret ?_
          have e9 : effW K.toBusA o x = (pop K.toBusA x).2.reg (setPR (pop K.toBusA x).2.s.r o.x (pop K.toBusA x).1) := by unfold effW; rw [if_neg o_m]; rw [if_neg o_m]; rw [if_neg o_m]; rw [if_neg o_m]; rw [if_neg o_m]; rw [if_neg o_m]; rw [if_neg o_m]; rw [if_neg o_m]; rw [if_pos o_m]
          exact l_end (fun _ _ => rets_v rfl) (.cons _ (List.Sublist.refl _)) ⟨congrArg Value.bool (decide_eq_true o_m : isW o.kind = true).symm, G2, by rw [e9]; first | done | rfl, by rw [e9]; exact hG2⟩
         ·have h9n := r_f h9
          refine c_seq ?_
          refine c_region ?_
          refine RL ?_
          refine RL ?_
          refine l_nil ?_
          refine c_cond rfl (fun h10 => ?_) (fun h10 => ?_)
          ·have h10n := r_f h10
           refine c_seq ?_
           refine c_draw _ [4, 5, 6, 7, 8, 9, 10, 11, 12, 13, 14] (.step true 0 (.step true 1 (.step true 2 (.step true 3 (.step true 4 (.step true 5 (.step true 6 (.step true 7 (.step true 8 (.step true 9 (.step true 10 (.step true 11 (.step true 12 (.step true 13 (.step true 14 (.step false 15 .done)))))))))))))))) rfl (by kernel_rfl) (by kernel_rfl) (fun _ h => h) ?_
           refine RD ?_
           refine RD ?_
           refine RDa ?_
           refine RDo ?_
           refine RDa ?_
           refine RDo ?_
           refine RD ?_
           refine RD ?_
           iterate 3 refine RDa ?_
           refine RDo ?_
           refine d_as rfl (l_conv rfl rfl rfl) rfl rfl rfl (by first | exact as_u8 o_m o_m | exact as_u8m _) ?_
           refine RD ?_
           refine RD ?_
           refine d_x rfl (x_callIT (F := [(b3, _), (rb, _)]) (A := G) rfl K.mW K.cW rfl (fun w hw => K.dW (n := bn + 2) h.m hG (St.lentV hw) ho.n o_m)) rfl rfl n_h ?_
           rintro _ _ ⟨G1, ⟨rfl, hG1⟩, rfl⟩
           refine d_nil ?_
           refine c_draw _ [4, 5, 6, 7, 8, 9, 10, 11, 12, 13, 14, 15, 16] (.step true 0 (.step true 1 (.step true 2 (.step true 3 (.step true 4 (.step true 5 (.step true 6 (.step true 7 (.step true 8 (.step true 9 (.step true 10 (.step true 11 (.step true 12 (.step true 13 (.step true 14 (.step true 15 (.step true 16 (.step false 17 .done)))))))))))))))))) rfl (by kernel_rfl) (by kernel_rfl) (fun _ h => h) ?_
           refine RD ?_
           refine RD ?_
           refine RDa ?_
           refine RDo ?_
           refine RDa ?_
           refine RDo ?_
           refine d_as (v := (.int .u16 (inc16 o.n))) rfl (l_add rfl rfl) rfl rfl rfl (congrArg _ (wrap_u16 _)) ?_
           refine RD ?_
           refine RD ?_
           iterate 3 refine RDa ?_
           refine RDo ?_
           refine d_as rfl (shr_pos rfl rfl (by decide)) rfl rfl rfl (as_shr 256 (by decide) (by decide)) ?_
           refine d_as rfl (l_conv rfl rfl rfl) rfl rfl rfl (by first | exact as_u8 o_m o_m | exact as_u8m _) ?_
           refine RD ?_
           refine RD ?_
           refine d_x rfl (x_callIT (F := [(b3, _), (rb, _)]) (A := G1) rfl K.mW K.cW rfl (fun w hw => K.dW (n := bn + 1) (K.oW h.m ho.n o_m) hG1 (St.lentV hw) inc16_ok o_m)) rfl rfl n_h ?_
           rintro _ _ ⟨G2, ⟨rfl, hG2⟩, rfl⟩
           refine d_nil ?_
           refine c_seq ?_
           refine c_region ?_
           refine RL ?_
           refine l_nil ?_
           refine c_ret ?_
           have e9 : effW K.toBusA o x = x.mem (K.write (inc16 o.n) (x.s.r.sp / 256) (K.write o.n (x.s.r.sp % 256) x.m)) := by unfold effW; rw [if_neg o_m]; rw [if_neg o_m]; rw [if_neg o_m]; rw [if_neg o_m]; rw [if_neg o_m]; rw [if_neg o_m]; rw [if_neg o_m]; rw [if_neg o_m]; rw [if_neg o_m]; rw [if_pos o_m]
           exact l_end (fun _ _ => rets_v rfl) (.cons _ (List.Sublist.refl _)) ⟨congrArg Value.bool (decide_eq_true o_m : isW o.kind = true).symm, G2, by rw [e9]; first | done | rfl, by rw [e9]; exact hG2⟩
          ·have h10n := r_f h10
           refine c_seq ?_
           refine c_region ?_
           refine RL ?_
           refine l_nil ?_
           refine c_ret ?_
           exact l_end (fun _ _ => rets_v rfl) (.cons _ (List.Sublist.refl _)) ⟨congrArg Value.bool (decide_eq_false o_m : isW o.kind = false).symm, G, by rw [effW_no K.toBusA (decide_eq_false o_m)], by rw [effW_no K.toBusA (decide_eq_false o_m)]; exact hG⟩

theorem rplaces_fn {β : Type} (K : BusK Tryz.prog β) (rb : Nat) {bn : Nat} (x : Rn β) (h : RunOk K.toBusO (bn + 1) x) (G : Heap) (hG : K.rep x.m G) (o : Opr) (ho : OpOk o) (w : World) (hst : St w (rb :: G.map (·.1)) ((rb, blk (cN K x.s) 77) :: G) w) : Does Tryz.prog 30 [.pointer (some ⟨rb, 0, none⟩), .agg (cO o).toArray] w (rb :: G.map (·.1)) (fun v H => v = .bool (isP o.kind) ∧ RunH K rb (if isP o.kind = true then effP K.toBusA o x else x) H) := by
 have hn9 := ho.n
 have hs9 := ho.small
 have hc9 := h.r.c
 refine does_of Tryz.func30 rfl rfl rfl hst ?_
 refine c_seq ?_
 refine c_region ?_
 refine l_x (x_box (l := cO o) rfl rfl) rfl rfl ?_
 rintro _ _ ⟨b3, rfl, rfl⟩
 refine RL ?_
 refine l_nil ?_
 refine c_seq ?_
 refine c_region ?_
 refine RL ?_
 refine l_nil ?_
 refine c_seq ?_
 refine c_seq ?_
 rcases (show o.kind = 32 ∨ o.kind = 33 ∨ o.kind = 34 ∨ o.kind = 35 ∨ o.kind = 36 ∨ o.kind = 37 ∨ o.kind = 38 ∨ o.kind = 39 ∨ (o.kind < 32 ∨ 39 < o.kind) by omega) with hk | hk | hk | hk | hk | hk | hk | hk | hk
 ·refine c_region ?_
  refine RLa ?_
  refine RLo ?_
  refine l_nil ?_
  refine c_block ?_
  refine c_seq ?_
  refine c_seq ?_
  refine c_region ?_
  refine l_sure true rfl rfl rfl (beq_iff_eq.2 hk) ?_
  refine RL ?_
  refine l_nil ?_
  refine c_true rfl ?_
  refine c_skip ?_
  refine c_true rfl ?_
  refine c_region ?_
  refine RL ?_
  refine RLa ?_
  refine RLo ?_
  refine l_x (x_callT (F := [(b3, _)]) (A := (rb, _) :: _) call_70 rfl (fun w hw => rplace_fn K rb x h G hG o.x w (St.lentV hw))) rfl rfl ?_
  rintro _ _ ⟨_, ⟨rfl, G1, rfl, hG1⟩, rfl⟩
  refine RL ?_
  refine l_nil ?_
  refine c_seq ?_
  refine c_seq ?_
  refine c_region ?_
  refine RLa ?_
  refine RLo ?_
  refine l_nil ?_
  refine c_block ?_
  refine c_seq ?_
  refine c_seq ?_
  refine c_region ?_
  refine l_sure true rfl rfl rfl (beq_iff_eq.2 hk) ?_
  refine RL ?_
  refine l_nil ?_
  refine c_true rfl ?_
  refine c_skip ?_
  refine c_true rfl ?_
  refine c_region ?_
  iterate 3 refine RL ?_
  refine RLa ?_
  refine RLo ?_
  refine RL ?_
  refine l_x (x_callIT (F := [(b3, _), (rb, _)]) (A := G1) rfl K.mR K.cR rfl (fun w hw => K.dR (h.far o.x).1.m hG1 (St.lentV hw) (h.far o.x).2)) rfl rfl ?_
  rintro _ _ ⟨G9, ⟨rfl, hG9⟩, rfl⟩
  refine RL ?_
  iterate 3 refine RLa ?_
  refine l_x (x_storeTo (l' := cN K { (far o.x x).2.s with r := { (far o.x x).2.s.r with a := (K.read (far o.x x).1 (far o.x x).2.m).1 } }) 1 rfl rfl rfl rfl rfl rfl (Nat.le_of_ble_eq_true rfl) rfl) rfl rfl ?_
  rintro _ _ ⟨rfl, rfl⟩
  refine c_u ?_
  refine l_nil ?_
  refine c_seq ?_
  refine c_region ?_
  refine RL ?_
  refine l_nil ?_
  refine c_ret ?_
  have e8 : place o x = ((far o.x x).1, (far o.x x).2) := by unfold place; simp only [hk]; rfl
  have e9 : (if isP o.kind = true then effP K.toBusA o x else x) = ⟨{ (far o.x x).2.s with r := { (far o.x x).2.s.r with a := (K.read (far o.x x).1 (far o.x x).2.m).1 } }, (K.read (far o.x x).1 (far o.x x).2.m).2⟩ := by rw [if_pos (show isP o.kind = true from decide_eq_true o_m)]; unfold effP; simp only [e8, hk]; rfl
  exact l_end (fun _ _ => rets_v rfl) (.cons _ (List.Sublist.refl _)) ⟨congrArg Value.bool (decide_eq_true o_m : isP o.kind = true).symm, G9, by rw [e9]; first | done | rfl, by rw [e9]; exact hG9⟩
 ·refine c_region ?_
  refine RLa ?_
  refine RLo ?_
  refine l_nil ?_
  refine c_block ?_
  refine c_seq ?_
  refine c_seq ?_
  refine c_region ?_
  refine l_sure false rfl rfl rfl (beq_eq_false_iff_ne.2 o_m) ?_
  refine RL ?_
  refine l_nil ?_
  refine c_false rfl ?_
  refine c_region ?_
  refine l_sure true rfl rfl rfl (beq_iff_eq.2 hk) ?_
  refine RL ?_
  refine l_nil ?_
  refine c_true rfl ?_
  refine c_region ?_
  refine RL ?_
  refine RLa ?_
  refine RLo ?_
  refine l_x (x_callT (F := [(b3, _)]) (A := (rb, _) :: _) call_70 rfl (fun w hw => rplace_fn K rb x h G hG o.x w (St.lentV hw))) rfl rfl ?_
  rintro _ _ ⟨_, ⟨rfl, G1, rfl, hG1⟩, rfl⟩
  refine RL ?_
  refine l_nil ?_
  refine c_seq ?_
  refine c_seq ?_
  refine c_region ?_
  refine RLa ?_
  refine RLo ?_
  refine l_nil ?_
  refine c_block ?_
  refine c_seq ?_
  refine c_seq ?_
  refine c_region ?_
  refine l_sure false rfl rfl rfl (beq_eq_false_iff_ne.2 o_m) ?_
  refine RL ?_
  refine l_nil ?_
  refine c_false rfl ?_
  refine c_seq ?_
  refine c_region ?_
  refine l_sure false rfl rfl rfl (beq_eq_false_iff_ne.2 o_m) ?_
  refine RL ?_
  refine l_nil ?_
  refine c_false rfl ?_
  refine c_seq ?_
  refine c_region ?_
  refine l_sure false rfl rfl rfl (beq_eq_false_iff_ne.2 o_m) ?_
  refine RL ?_
  refine l_nil ?_
  refine c_false rfl ?_
  refine c_region ?_
  refine l_sure false rfl rfl rfl (beq_eq_false_iff_ne.2 o_m) ?_
  refine RL ?_
  refine l_nil ?_
  refine c_false rfl ?_
  refine c_draw _ [4, 5, 6, 7, 8, 9, 10, 11, 12] (.step true 0 (.step true 1 (.step true 2 (.step true 3 (.step true 4 (.step true 5 (.step true 6 (.step true 7 (.step true 8 (.step true 9 (.step true 10 (.step true 11 (.step true 12 (.step false 13 .done)))))))))))))) rfl (by kernel_rfl) (by kernel_rfl) (fun _ h => h) ?_
  refine RD ?_
  refine RD ?_
  refine RDa ?_
  refine RDo ?_
  iterate 3 refine RD ?_
  iterate 3 refine RDa ?_
  refine RDo ?_
  refine RD ?_
  refine RD ?_
  refine d_x rfl (x_callIT (F := [(b3, _), (rb, _)]) (A := G1) rfl K.mW K.cW rfl (fun w hw => K.dW (h.far o.x).1.m hG1 (St.lentV hw) (h.far o.x).2 (h.far o.x).1.r.a)) rfl rfl n_h ?_
  rintro _ _ ⟨G9, ⟨rfl, hG9⟩, rfl⟩
  refine d_nil ?_
  refine c_seq ?_
  refine c_region ?_
  refine RL ?_
  refine l_nil ?_
  refine c_ret ?_
  have e8 : place o x = ((far o.x x).1, (far o.x x).2) := by unfold place; simp only [hk]; rfl
  have e9 : (if isP o.kind = true then effP K.toBusA o x else x) = (far o.x x).2.mem (K.write (far o.x x).1 (far o.x x).2.s.r.a (far o.x x).2.m) := by rw [if_pos (show isP o.kind = true from decide_eq_true o_m)]; unfold effP; simp only [e8, hk]; rfl
  exact l_end (fun _ _ => rets_v rfl) (.cons _ (List.Sublist.refl _)) ⟨congrArg Value.bool (decide_eq_true o_m : isP o.kind = true).symm, G9, by rw [e9]; first | done | rfl, by rw [e9]; exact hG9⟩
 ·refine c_region ?_
  refine RLa ?_
  refine RLo ?_
  refine l_nil ?_
  refine c_block ?_
  refine c_seq ?_
  refine c_seq ?_
  refine c_region ?_
  refine l_sure false rfl rfl rfl (beq_eq_false_iff_ne.2 o_m) ?_
  refine RL ?_
  refine l_nil ?_
  refine c_false rfl ?_
  refine c_region ?_
  refine l_sure false rfl rfl rfl (beq_eq_false_iff_ne.2 o_m) ?_
  refine RL ?_
  refine l_nil ?_
  refine c_false rfl ?_
  refine c_seq ?_
  refine c_seq ?_
  refine c_region ?_
  refine l_sure true rfl rfl rfl (beq_iff_eq.2 hk) ?_
  refine RL ?_
  refine l_nil ?_
  refine c_true rfl ?_
  refine c_skip ?_
  refine c_true rfl ?_
  refine c_region ?_
  refine RLa ?_
  refine RLo ?_
  refine l_as (v := (.int .u16 (65280 + o.n % 256))) (l_or rfl rfl) rfl rfl (congrArg _ ((page_or o_m).trans o_m)) ?_
  refine RL ?_
  refine l_nil ?_
  refine c_seq ?_
  refine c_seq ?_
  refine c_region ?_
  refine RLa ?_
  refine RLo ?_
  refine l_nil ?_
  refine c_block ?_
  refine c_seq ?_
  refine c_seq ?_
  refine c_region ?_
  refine l_sure false rfl rfl rfl (beq_eq_false_iff_ne.2 o_m) ?_
  refine RL ?_
  refine l_nil ?_
  refine c_false rfl ?_
  refine c_seq ?_
  refine c_region ?_
  refine l_sure true rfl rfl rfl (beq_iff_eq.2 hk) ?_
  refine RL ?_
  refine l_nil ?_
  refine c_true rfl ?_
  refine c_skip ?_
  refine c_true rfl ?_
  refine c_region ?_
  iterate 3 refine RL ?_
  refine RLa ?_
  refine RLo ?_
  refine RL ?_
  refine l_x (x_callIT (F := [(b3, _), (rb, _)]) (A := G) rfl K.mR K.cR rfl (fun w hw => K.dR h.m hG (St.lentV hw) o_m)) rfl rfl ?_
  rintro _ _ ⟨G9, ⟨rfl, hG9⟩, rfl⟩
  refine RL ?_
  iterate 3 refine RLa ?_
  refine l_x (x_storeTo (l' := cN K { x.s with r := { x.s.r with a := (K.read (65280 + o.n % 256) x.m).1 } }) 1 rfl rfl rfl rfl rfl rfl (Nat.le_of_ble_eq_true rfl) rfl) rfl rfl ?_
  rintro _ _ ⟨rfl, rfl⟩
  refine c_u ?_
  refine l_nil ?_
  refine c_seq ?_
  refine c_region ?_
  refine RL ?_
  refine l_nil ?_
  refine c_ret ?_
  have e8 : place o x = ((65280 + o.n % 256), x) := by unfold place; simp only [hk]; rfl
  have e9 : (if isP o.kind = true then effP K.toBusA o x else x) = ⟨{ x.s with r := { x.s.r with a := (K.read (65280 + o.n % 256) x.m).1 } }, (K.read (65280 + o.n % 256) x.m).2⟩ := by rw [if_pos (show isP o.kind = true from decide_eq_true o_m)]; unfold effP; simp only [e8, hk]; rfl
  exact l_end (fun _ _ => rets_v rfl) (.cons _ (List.Sublist.refl _)) ⟨congrArg Value.bool (decide_eq_true o_m : isP o.kind = true).symm, G9, by rw [e9]; first | done | rfl, by rw [e9]; exact hG9⟩
 ·refine c_region ?_
  refine RLa ?_
  refine RLo ?_
  refine l_nil ?_
  refine c_block ?_
  refine c_seq ?_
  refine c_seq ?_
  refine c_region ?_
  refine l_sure false rfl rfl rfl (beq_eq_false_iff_ne.2 o_m) ?_
  refine RL ?_
  refine l_nil ?_
  refine c_false rfl ?_
  refine c_region ?_
  refine l_sure false rfl rfl rfl (beq_eq_false_iff_ne.2 o_m) ?_
  refine RL ?_
  refine l_nil ?_
  refine c_false rfl ?_
  refine c_seq ?_
  refine c_seq ?_
  refine c_region ?_
  refine l_sure false rfl rfl rfl (beq_eq_false_iff_ne.2 o_m) ?_
  refine RL ?_
  refine l_nil ?_
  refine c_false rfl ?_
  refine c_region ?_
  refine l_sure true rfl rfl rfl (beq_iff_eq.2 hk) ?_
  refine RL ?_
  refine l_nil ?_
  refine c_true rfl ?_
  refine c_region ?_
  refine RLa ?_
  refine RLo ?_
  refine l_as (v := (.int .u16 (65280 + o.n % 256))) (l_or rfl rfl) rfl rfl (congrArg _ ((page_or o_m).trans o_m)) ?_
  refine RL ?_
  refine l_nil ?_
  refine c_seq ?_
  refine c_seq ?_
  refine c_region ?_
  refine RLa ?_
  refine RLo ?_
  refine l_nil ?_
  refine c_block ?_
  refine c_seq ?_
  refine c_seq ?_
  refine c_region ?_
  refine l_sure false rfl rfl rfl (beq_eq_false_iff_ne.2 o_m) ?_
  refine RL ?_
  refine l_nil ?_
  refine c_false rfl ?_
  refine c_seq ?_
  refine c_region ?_
  refine l_sure false rfl rfl rfl (beq_eq_false_iff_ne.2 o_m) ?_
  refine RL ?_
  refine l_nil ?_
  refine c_false rfl ?_
  refine c_seq ?_
  refine c_region ?_
  refine l_sure false rfl rfl rfl (beq_eq_false_iff_ne.2 o_m) ?_
  refine RL ?_
  refine l_nil ?_
  refine c_false rfl ?_
  refine c_region ?_
  refine l_sure false rfl rfl rfl (beq_eq_false_iff_ne.2 o_m) ?_
  refine RL ?_
  refine l_nil ?_
  refine c_false rfl ?_
  refine c_draw _ [4, 5, 6, 7, 8, 9, 10, 11, 12] (.step true 0 (.step true 1 (.step true 2 (.step true 3 (.step true 4 (.step true 5 (.step true 6 (.step true 7 (.step true 8 (.step true 9 (.step true 10 (.step true 11 (.step true 12 (.step false 13 .done)))))))))))))) rfl (by kernel_rfl) (by kernel_rfl) (fun _ h => h) ?_
  refine RD ?_
  refine RD ?_
  refine RDa ?_
  refine RDo ?_
  iterate 3 refine RD ?_
  iterate 3 refine RDa ?_
  refine RDo ?_
  refine RD ?_
  refine RD ?_
  refine d_x rfl (x_callIT (F := [(b3, _), (rb, _)]) (A := G) rfl K.mW K.cW rfl (fun w hw => K.dW h.m hG (St.lentV hw) o_m h.r.a)) rfl rfl n_h ?_
  rintro _ _ ⟨G9, ⟨rfl, hG9⟩, rfl⟩
  refine d_nil ?_
  refine c_seq ?_
  refine c_region ?_
  refine RL ?_
  refine l_nil ?_
  refine c_ret ?_
  have e8 : place o x = ((65280 + o.n % 256), x) := by unfold place; simp only [hk]; rfl
  have e9 : (if isP o.kind = true then effP K.toBusA o x else x) = x.mem (K.write (65280 + o.n % 256) x.s.r.a x.m) := by rw [if_pos (show isP o.kind = true from decide_eq_true o_m)]; unfold effP; simp only [e8, hk]; rfl
  exact l_end (fun _ _ => rets_v rfl) (.cons _ (List.Sublist.refl _)) ⟨congrArg Value.bool (decide_eq_true o_m : isP o.kind = true).symm, G9, by rw [e9]; first | done | rfl, by rw [e9]; exact hG9⟩
 ·refine c_region ?_
  refine RLa ?_
  refine RLo ?_
  refine l_nil ?_
  refine c_block ?_
  refine c_seq ?_
  refine c_seq ?_
  refine c_region ?_
  refine l_sure false rfl rfl rfl (beq_eq_false_iff_ne.2 o_m) ?_
  refine RL ?_
  refine l_nil ?_
  refine c_false rfl ?_
  refine c_region ?_
  refine l_sure false rfl rfl rfl (beq_eq_false_iff_ne.2 o_m) ?_
  refine RL ?_
  refine l_nil ?_
  refine c_false rfl ?_
  refine c_seq ?_
  refine c_seq ?_
  refine c_region ?_
  refine l_sure false rfl rfl rfl (beq_eq_false_iff_ne.2 o_m) ?_
  refine RL ?_
  refine l_nil ?_
  refine c_false rfl ?_
  refine c_region ?_
  refine l_sure false rfl rfl rfl (beq_eq_false_iff_ne.2 o_m) ?_
  refine RL ?_
  refine l_nil ?_
  refine c_false rfl ?_
  refine c_seq ?_
  refine c_seq ?_
  refine c_region ?_
  refine l_sure true rfl rfl rfl (beq_iff_eq.2 hk) ?_
  refine RL ?_
  refine l_nil ?_
  refine c_true rfl ?_
  refine c_skip ?_
  refine c_true rfl ?_
  refine c_region ?_
  refine RL ?_
  refine RL ?_
  iterate 3 refine RLa ?_
  refine RLo ?_
  refine l_as (l_conv rfl rfl rfl) rfl rfl (by first | exact as_u16 o_m o_m | exact as_u16m _) ?_
  refine l_as (v := (.int .u16 (65280 + x.s.r.c))) (l_or rfl rfl) rfl rfl (congrArg _ (page_or h.r.c)) ?_
  refine RL ?_
  refine l_nil ?_
  refine c_seq ?_
  refine c_seq ?_
  refine c_region ?_
  refine RLa ?_
  refine RLo ?_
  refine l_nil ?_
  refine c_block ?_
  refine c_seq ?_
  refine c_seq ?_
  refine c_region ?_
  refine l_sure false rfl rfl rfl (beq_eq_false_iff_ne.2 o_m) ?_
  refine RL ?_
  refine l_nil ?_
  refine c_false rfl ?_
  refine c_seq ?_
  refine c_region ?_
  refine l_sure false rfl rfl rfl (beq_eq_false_iff_ne.2 o_m) ?_
  refine RL ?_
  refine l_nil ?_
  refine c_false rfl ?_
  refine c_seq ?_
  refine c_region ?_
  refine l_sure true rfl rfl rfl (beq_iff_eq.2 hk) ?_
  refine RL ?_
  refine l_nil ?_
  refine c_true rfl ?_
  refine c_skip ?_
  refine c_true rfl ?_
  refine c_region ?_
  iterate 3 refine RL ?_
  refine RLa ?_
  refine RLo ?_
  refine RL ?_
  refine l_x (x_callIT (F := [(b3, _), (rb, _)]) (A := G) rfl K.mR K.cR rfl (fun w hw => K.dR h.m hG (St.lentV hw) o_m)) rfl rfl ?_
  rintro _ _ ⟨G9, ⟨rfl, hG9⟩, rfl⟩
  refine RL ?_
  iterate 3 refine RLa ?_
  refine l_x (x_storeTo (l' := cN K { x.s with r := { x.s.r with a := (K.read (65280 + x.s.r.c) x.m).1 } }) 1 rfl rfl rfl rfl rfl rfl (Nat.le_of_ble_eq_true rfl) rfl) rfl rfl ?_
  rintro _ _ ⟨rfl, rfl⟩
  refine c_u ?_
  refine l_nil ?_
  refine c_seq ?_
  refine c_region ?_
  refine RL ?_
  refine l_nil ?_
  refine c_ret ?_
  have e8 : place o x = ((65280 + x.s.r.c), x) := by unfold place; simp only [hk]; rfl
  have e9 : (if isP o.kind = true then effP K.toBusA o x else x) = ⟨{ x.s with r := { x.s.r with a := (K.read (65280 + x.s.r.c) x.m).1 } }, (K.read (65280 + x.s.r.c) x.m).2⟩ := by rw [if_pos (show isP o.kind = true from decide_eq_true o_m)]; unfold effP; simp only [e8, hk]; rfl
  exact l_end (fun _ _ => rets_v rfl) (.cons _ (List.Sublist.refl _)) ⟨congrArg Value.bool (decide_eq_true o_m : isP o.kind = true).symm, G9, by rw [e9]; first | done | rfl, by rw [e9]; exact hG9⟩
 ·refine c_region ?_
  refine RLa ?_
  refine RLo ?_
  refine l_nil ?_
  refine c_block ?_
  refine c_seq ?_
  refine c_seq ?_
  refine c_region ?_
  refine l_sure false rfl rfl rfl (beq_eq_false_iff_ne.2 o_m) ?_
  refine RL ?_
  refine l_nil ?_
  refine c_false rfl ?_
  refine c_region ?_
  refine l_sure false rfl rfl rfl (beq_eq_false_iff_ne.2 o_m) ?_
  refine RL ?_
  refine l_nil ?_
  refine c_false rfl ?_
  refine c_seq ?_
  refine c_seq ?_
  refine c_region ?_
  refine l_sure false rfl rfl rfl (beq_eq_false_iff_ne.2 o_m) ?_
  refine RL ?_
  refine l_nil ?_
  refine c_false rfl ?_
  refine c_region ?_
  refine l_sure false rfl rfl rfl (beq_eq_false_iff_ne.2 o_m) ?_
  refine RL ?_
  refine l_nil ?_
  refine c_false rfl ?_
  refine c_seq ?_
  refine c_seq ?_
  refine c_region ?_
  refine l_sure false rfl rfl rfl (beq_eq_false_iff_ne.2 o_m) ?_
  refine RL ?_
  refine l_nil ?_
  refine c_false rfl ?_
  refine c_region ?_
  refine l_sure true rfl rfl rfl (beq_iff_eq.2 hk) ?_
  refine RL ?_
  refine l_nil ?_
  refine c_true rfl ?_
  refine c_region ?_
  refine RL ?_
  refine RL ?_
  iterate 3 refine RLa ?_
  refine RLo ?_
  refine l_as (l_conv rfl rfl rfl) rfl rfl (by first | exact as_u16 o_m o_m | exact as_u16m _) ?_
  refine l_as (v := (.int .u16 (65280 + x.s.r.c))) (l_or rfl rfl) rfl rfl (congrArg _ (page_or h.r.c)) ?_
  refine RL ?_
  refine l_nil ?_
  refine c_seq ?_
  refine c_seq ?_
  refine c_region ?_
  refine RLa ?_
  refine RLo ?_
  refine l_nil ?_
  refine c_block ?_
  refine c_seq ?_
  refine c_seq ?_
  refine c_region ?_
  refine l_sure false rfl rfl rfl (beq_eq_false_iff_ne.2 o_m) ?_
  refine RL ?_
  refine l_nil ?_
  refine c_false rfl ?_
  refine c_seq ?_
  refine c_region ?_
  refine l_sure false rfl rfl rfl (beq_eq_false_iff_ne.2 o_m) ?_
  refine RL ?_
  refine l_nil ?_
  refine c_false rfl ?_
  refine c_seq ?_
  refine c_region ?_
  refine l_sure false rfl rfl rfl (beq_eq_false_iff_ne.2 o_m) ?_
  refine RL ?_
  refine l_nil ?_
  refine c_false rfl ?_
  refine c_region ?_
  refine l_sure false rfl rfl rfl (beq_eq_false_iff_ne.2 o_m) ?_
  refine RL ?_
  refine l_nil ?_
  refine c_false rfl ?_
  refine c_draw _ [4, 5, 6, 7, 8, 9, 10, 11, 12] (.step true 0 (.step true 1 (.step true 2 (.step true 3 (.step true 4 (.step true 5 (.step true 6 (.step true 7 (.step true 8 (.step true 9 (.step true 10 (.step true 11 (.step true 12 (.step false 13 .done)))))))))))))) rfl (by kernel_rfl) (by kernel_rfl) (fun _ h => h) ?_
  refine RD ?_
  refine RD ?_
  refine RDa ?_
  refine RDo ?_
  iterate 3 refine RD ?_
  iterate 3 refine RDa ?_
  refine RDo ?_
  refine RD ?_
  refine RD ?_
  refine d_x rfl (x_callIT (F := [(b3, _), (rb, _)]) (A := G) rfl K.mW K.cW rfl (fun w hw => K.dW h.m hG (St.lentV hw) o_m h.r.a)) rfl rfl n_h ?_
  rintro _ _ ⟨G9, ⟨rfl, hG9⟩, rfl⟩
  refine d_nil ?_
  refine c_seq ?_
  refine c_region ?_
  refine RL ?_
  refine l_nil ?_
  refine c_ret ?_
  have e8 : place o x = ((65280 + x.s.r.c), x) := by unfold place; simp only [hk]; rfl
  have e9 : (if isP o.kind = true then effP K.toBusA o x else x) = x.mem (K.write (65280 + x.s.r.c) x.s.r.a x.m) := by rw [if_pos (show isP o.kind = true from decide_eq_true o_m)]; unfold effP; simp only [e8, hk]; rfl
  exact l_end (fun _ _ => rets_v rfl) (.cons _ (List.Sublist.refl _)) ⟨congrArg Value.bool (decide_eq_true o_m : isP o.kind = true).symm, G9, by rw [e9]; first | done | rfl, by rw [e9]; exact hG9⟩
 ·refine c_region ?_
  refine RLa ?_
  refine RLo ?_
  refine l_nil ?_
  refine c_block ?_
  refine c_seq ?_
  refine c_seq ?_
  refine c_region ?_
  refine l_sure false rfl rfl rfl (beq_eq_false_iff_ne.2 o_m) ?_
  refine RL ?_
  refine l_nil ?_
  refine c_false rfl ?_
  refine c_region ?_
  refine l_sure false rfl rfl rfl (beq_eq_false_iff_ne.2 o_m) ?_
  refine RL ?_
  refine l_nil ?_
  refine c_false rfl ?_
  refine c_seq ?_
  refine c_seq ?_
  refine c_region ?_
  refine l_sure false rfl rfl rfl (beq_eq_false_iff_ne.2 o_m) ?_
  refine RL ?_
  refine l_nil ?_
  refine c_false rfl ?_
  refine c_region ?_
  refine l_sure false rfl rfl rfl (beq_eq_false_iff_ne.2 o_m) ?_
  refine RL ?_
  refine l_nil ?_
  refine c_false rfl ?_
  refine c_seq ?_
  refine c_seq ?_
  refine c_region ?_
  refine l_sure false rfl rfl rfl (beq_eq_false_iff_ne.2 o_m) ?_
  refine RL ?_
  refine l_nil ?_
  refine c_false rfl ?_
  refine c_region ?_
  refine l_sure false rfl rfl rfl (beq_eq_false_iff_ne.2 o_m) ?_
  refine RL ?_
  refine l_nil ?_
  refine c_false rfl ?_
  refine c_seq ?_
  refine c_seq ?_
  refine c_region ?_
  refine l_sure true rfl rfl rfl (beq_iff_eq.2 hk) ?_
  refine RL ?_
  refine l_nil ?_
  refine c_true rfl ?_
  refine c_skip ?_
  refine c_true rfl ?_
  refine c_region ?_
  refine RLa ?_
  refine RLo ?_
  refine RL ?_
  refine l_nil ?_
  refine c_seq ?_
  refine c_seq ?_
  refine c_region ?_
  refine RLa ?_
  refine RLo ?_
  refine l_nil ?_
  refine c_block ?_
  refine c_seq ?_
  refine c_seq ?_
  refine c_region ?_
  refine l_sure false rfl rfl rfl (beq_eq_false_iff_ne.2 o_m) ?_
  refine RL ?_
  refine l_nil ?_
  refine c_false rfl ?_
  refine c_seq ?_
  refine c_region ?_
  refine l_sure false rfl rfl rfl (beq_eq_false_iff_ne.2 o_m) ?_
  refine RL ?_
  refine l_nil ?_
  refine c_false rfl ?_
  refine c_seq ?_
  refine c_region ?_
  refine l_sure false rfl rfl rfl (beq_eq_false_iff_ne.2 o_m) ?_
  refine RL ?_
  refine l_nil ?_
  refine c_false rfl ?_
  refine c_region ?_
  refine l_sure true rfl rfl rfl (beq_iff_eq.2 hk) ?_
  refine RL ?_
  refine l_nil ?_
  refine c_true rfl ?_
  refine c_region ?_
  iterate 3 refine RL ?_
  refine RLa ?_
  refine RLo ?_
  refine RL ?_
  refine l_x (x_callIT (F := [(b3, _), (rb, _)]) (A := G) rfl K.mR K.cR rfl (fun w hw => K.dR h.m hG (St.lentV hw) o_m)) rfl rfl ?_
  rintro _ _ ⟨G9, ⟨rfl, hG9⟩, rfl⟩
  refine RL ?_
  iterate 3 refine RLa ?_
  refine l_x (x_storeTo (l' := cN K { x.s with r := { x.s.r with a := (K.read o.n x.m).1 } }) 1 rfl rfl rfl rfl rfl rfl (Nat.le_of_ble_eq_true rfl) rfl) rfl rfl ?_
  rintro _ _ ⟨rfl, rfl⟩
  refine c_u ?_
  refine l_nil ?_
  refine c_seq ?_
  refine c_region ?_
  refine RL ?_
  refine l_nil ?_
  refine c_ret ?_
  have e8 : place o x = (o.n, x) := by unfold place; simp only [hk]; rfl
  have e9 : (if isP o.kind = true then effP K.toBusA o x else x) = ⟨{ x.s with r := { x.s.r with a := (K.read o.n x.m).1 } }, (K.read o.n x.m).2⟩ := by rw [if_pos (show isP o.kind = true from decide_eq_true o_m)]; unfold effP; simp only [e8, hk]; rfl
  exact l_end (fun _ _ => rets_v rfl) (.cons _ (List.Sublist.refl _)) ⟨congrArg Value.bool (decide_eq_true o_m : isP o.kind = true).symm, G9, by rw [e9]; first | done | rfl, by rw [e9]; exact hG9⟩
 ·refine c_region ?_
  refine RLa ?_
  refine RLo ?_
  refine l_nil ?_
  refine c_block ?_
  refine c_seq ?_
  refine c_seq ?_
  refine c_region ?_
  refine l_sure false rfl rfl rfl (beq_eq_false_iff_ne.2 o_m) ?_
  refine RL ?_
  refine l_nil ?_
  refine c_false rfl ?_
  refine c_region ?_
  refine l_sure false rfl rfl rfl (beq_eq_false_iff_ne.2 o_m) ?_
  refine RL ?_
  refine l_nil ?_
  refine c_false rfl ?_
  refine c_seq ?_
  refine c_seq ?_
  refine c_region ?_
  refine l_sure false rfl rfl rfl (beq_eq_false_iff_ne.2 o_m) ?_
  refine RL ?_
  refine l_nil ?_
  refine c_false rfl ?_
  refine c_region ?_
  refine l_sure false rfl rfl rfl (beq_eq_false_iff_ne.2 o_m) ?_
  refine RL ?_
  refine l_nil ?_
  refine c_false rfl ?_
  refine c_seq ?_
  refine c_seq ?_
  refine c_region ?_
  refine l_sure false rfl rfl rfl (beq_eq_false_iff_ne.2 o_m) ?_
  refine RL ?_
  refine l_nil ?_
  refine c_false rfl ?_
  refine c_region ?_
  refine l_sure false rfl rfl rfl (beq_eq_false_iff_ne.2 o_m) ?_
  refine RL ?_
  refine l_nil ?_
  refine c_false rfl ?_
  refine c_seq ?_
  refine c_seq ?_
  refine c_region ?_
  refine l_sure false rfl rfl rfl (beq_eq_false_iff_ne.2 o_m) ?_
  refine RL ?_
  refine l_nil ?_
  refine c_false rfl ?_
  refine c_region ?_
  refine l_sure true rfl rfl rfl (beq_iff_eq.2 hk) ?_
  refine RL ?_
  refine l_nil ?_
  refine c_true rfl ?_
  refine c_region ?_
  refine RLa ?_
  refine RLo ?_
  refine RL ?_
  refine l_nil ?_
  refine c_seq ?_
  refine c_seq ?_
  refine c_region ?_
  refine RLa ?_
  refine RLo ?_
  refine l_nil ?_
  refine c_block ?_
  refine c_seq ?_
  refine c_seq ?_
  refine c_region ?_
  refine l_sure false rfl rfl rfl (beq_eq_false_iff_ne.2 o_m) ?_
  refine RL ?_
  refine l_nil ?_
  refine c_false rfl ?_
  refine c_seq ?_
  refine c_region ?_
  refine l_sure false rfl rfl rfl (beq_eq_false_iff_ne.2 o_m) ?_
  refine RL ?_
  refine l_nil ?_
  refine c_false rfl ?_
  refine c_seq ?_
  refine c_region ?_
  refine l_sure false rfl rfl rfl (beq_eq_false_iff_ne.2 o_m) ?_
  refine RL ?_
  refine l_nil ?_
  refine c_false rfl ?_
  refine c_region ?_
  refine l_sure false rfl rfl rfl (beq_eq_false_iff_ne.2 o_m) ?_
  refine RL ?_
  refine l_nil ?_
  refine c_false rfl ?_
  refine c_draw _ [4, 5, 6, 7, 8, 9, 10, 11, 12] (.step true 0 (.step true 1 (.step true 2 (.step true 3 (.step true 4 (.step true 5 (.step true 6 (.step true 7 (.step true 8 (.step true 9 (.step true 10 (.step true 11 (.step true 12 (.step false 13 .done)))))))))))))) rfl (by kernel_rfl) (by kernel_rfl) (fun _ h => h) ?_
  refine RD ?_
  refine RD ?_
  refine RDa ?_
  refine RDo ?_
  iterate 3 refine RD ?_
  iterate 3 refine RDa ?_
  refine RDo ?_
  refine RD ?_
  refine RD ?_
  refine d_x rfl (x_callIT (F := [(b3, _), (rb, _)]) (A := G) rfl K.mW K.cW rfl (fun w hw => K.dW h.m hG (St.lentV hw) o_m h.r.a)) rfl rfl n_h ?_
  rintro _ _ ⟨G9, ⟨rfl, hG9⟩, rfl⟩
  refine d_nil ?_
  refine c_seq ?_
  refine c_region ?_
  refine RL ?_
  refine l_nil ?_
  refine c_ret ?_
  have e8 : place o x = (o.n, x) := by unfold place; simp only [hk]; rfl
  have e9 : (if isP o.kind = true then effP K.toBusA o x else x) = x.mem (K.write o.n x.s.r.a x.m) := by rw [if_pos (show isP o.kind = true from decide_eq_true o_m)]; unfold effP; simp only [e8, hk]; rfl
  exact l_end (fun _ _ => rets_v rfl) (.cons _ (List.Sublist.refl _)) ⟨congrArg Value.bool (decide_eq_true o_m : isP o.kind = true).symm, G9, by rw [e9]; first | done | rfl, by rw [e9]; exact hG9⟩
 ·refine c_region ?_
  refine RLa ?_
  refine RLo ?_
  refine l_nil ?_
  refine c_block ?_
  refine c_seq ?_
  refine c_seq ?_
  refine c_region ?_
  refine l_sure false rfl rfl rfl (beq_eq_false_iff_ne.2 o_m) ?_
  refine RL ?_
  refine l_nil ?_
  refine c_false rfl ?_
  refine c_region ?_
  refine l_sure false rfl rfl rfl (beq_eq_false_iff_ne.2 o_m) ?_
  refine RL ?_
  refine l_nil ?_
  refine c_false rfl ?_
  refine c_seq ?_
  refine c_seq ?_
  refine c_region ?_
  refine l_sure false rfl rfl rfl (beq_eq_false_iff_ne.2 o_m) ?_
  refine RL ?_
  refine l_nil ?_
  refine c_false rfl ?_
  refine c_region ?_
  refine l_sure false rfl rfl rfl (beq_eq_false_iff_ne.2 o_m) ?_
  refine RL ?_
  refine l_nil ?_
  refine c_false rfl ?_
  refine c_seq ?_
  refine c_seq ?_
  refine c_region ?_
  refine l_sure false rfl rfl rfl (beq_eq_false_iff_ne.2 o_m) ?_
  refine RL ?_
  refine l_nil ?_
  refine c_false rfl ?_
  refine c_region ?_
  refine l_sure false rfl rfl rfl (beq_eq_false_iff_ne.2 o_m) ?_
  refine RL ?_
  refine l_nil ?_
  refine c_false rfl ?_
  refine c_seq ?_
  refine c_seq ?_
  refine c_region ?_
  refine l_sure false rfl rfl rfl (beq_eq_false_iff_ne.2 o_m) ?_
  refine RL ?_
  refine l_nil ?_
  refine c_false rfl ?_
  refine c_region ?_
  refine l_sure false rfl rfl rfl (beq_eq_false_iff_ne.2 o_m) ?_
  refine RL ?_
  refine l_nil ?_
  refine c_false rfl ?_
  refine c_seq ?_
  refine c_region ?_
  refine RL ?_
  refine l_nil ?_
  refine c_ret ?_
  exact l_end (fun _ _ => rets_v rfl) (.cons _ (List.Sublist.refl _)) ⟨congrArg Value.bool (decide_eq_false o_m : isP o.kind = false).symm, G, by rw [if_neg (by rw [(show isP o.kind = false from decide_eq_false o_m)]; decide)], by rw [if_neg (by rw [(show isP o.kind = false from decide_eq_false o_m)]; decide)]; exact hG⟩

theorem rjump_fn {β : Type} (K : BusK Tryz.prog β) (rb : Nat) {bn : Nat} (x : Rn β) (h : RunOk K.toBusO (bn + 4) x) (G : Heap) (hG : K.rep x.m G) (o : Opr) (ho : OpOk o) (w : World) (hst : St w (rb :: G.map (·.1)) ((rb, blk (cN K x.s) 77) :: G) w) : Does Tryz.prog 31 [.pointer (some ⟨rb, 0, none⟩), .agg (cO o).toArray] w (rb :: G.map (·.1)) (fun v H => v = .bool (metJ o x) ∧ RunH K rb (effJ K.toBusA o x) H) := by
 have hn9 := ho.n
 have hi9 := h.idleK 1
 have hp9 := h.r.pc
 refine does_of Tryz.func31 rfl rfl rfl hst ?_
 refine c_seq ?_
 refine c_region ?_
 refine l_x (x_box (l := cO o) rfl rfl) rfl rfl ?_
 rintro _ _ ⟨b3, rfl, rfl⟩
 refine RL ?_
 refine l_nil ?_
 refine c_seq ?_
 refine c_draw _ [5, 6] (.step true 0 (.step true 1 (.step true 2 (.step true 3 (.step true 4 (.step true 5 (.step true 6 (.step false 7 (.step true 8 .done))))))))) rfl (by kernel_rfl) (by kernel_rfl) (fun _ h => h) ?_
 refine RD ?_
 refine RD ?_
 refine RDa ?_
 refine RDa ?_
 refine d_loadA rfl rfl rfl rfl (fun w hw => Row.left (Row.left (srow_own (l := cN K x.s) m_m w hw))) rfl rfl ?_
 refine RDa ?_
 refine RDo ?_
 refine d_x rfl (x_val call_71 rfl (fun w hw => is_fn x.s.r h.r o.x w)) rfl rfl n_h ?_
 rintro _ _ ⟨rfl, rfl⟩
 refine RD ?_
 refine d_nil ?_
 refine c_seq ?_
 refine c_seq ?_
 rcases (show o.kind = 23 ∨ o.kind = 24 ∨ o.kind = 25 ∨ o.kind = 26 ∨ o.kind = 27 ∨ o.kind = 28 ∨ o.kind = 29 ∨ (o.kind < 23 ∨ 29 < o.kind) by omega) with hk | hk | hk | hk | hk | hk | hk | hk
 ·refine c_region ?_
  refine RLa ?_
  refine RLo ?_
  refine l_sure false rfl rfl rfl (beq_eq_false_iff_ne.2 o_m) ?_
  refine RL ?_
  iterate 3 refine RLp ?_
  refine RL ?_
  refine l_nil ?_
  refine c_false rfl ?_
  refine c_skip ?_
  refine c_seq ?_
  refine c_seq ?_
  refine c_region ?_
  refine RLa ?_
  refine RLo ?_
  refine l_nil ?_
  refine c_block ?_
  refine c_seq ?_
  refine c_seq ?_
  refine c_region ?_
  refine l_sure true rfl rfl rfl (beq_iff_eq.2 hk) ?_
  refine RL ?_
  refine l_nil ?_
  refine c_true rfl ?_
  refine c_skip ?_
  refine c_true rfl ?_
  refine c_seq ?_
  refine c_region ?_
  refine RL ?_
  refine RL ?_
  refine l_nil ?_
  refine c_cond rfl (fun h1 => ?_) (fun h1 => ?_)
  ·have h1n := r_f h1
   refine c_seq ?_
   refine c_region ?_
   refine RL ?_
   refine l_nil ?_
   refine c_ret ?_
   have e7 : (if o.kind = 26 ∧ o.x ≠ 4 then idles K.toBusA 1 x else x) = x := if_neg o_m
   have e8 : metJ o x = false := by unfold metJ; rw [(decide_eq_true o_m : decide (23 ≤ o.kind ∧ o.kind ≤ 26) = true)]; simpa using h1
   have e9 : effJ K.toBusA o x = x := by unfold effJ; rw [e7, e8]; rfl
   exact l_end (fun _ _ => rets_v rfl) (.cons _ (List.Sublist.refl _)) ⟨congrArg Value.bool e8.symm, G, by rw [e9]; first | done | rfl, by rw [e9]; exact hG⟩
  ·have h1n := r_f h1
   refine c_skip ?_
   refine c_seq ?_
   refine c_seq ?_
   refine c_region ?_
   refine RLa ?_
   refine RLo ?_
   refine l_nil ?_
   refine c_block ?_
   refine c_seq ?_
   refine c_block ?_
   refine c_seq ?_
   refine c_block ?_
   refine c_seq ?_
   refine c_block ?_
   refine c_seq ?_
   refine c_block ?_
   refine c_seq ?_
   refine c_block ?_
   refine c_seq ?_
   refine c_block ?_
   refine c_seq ?_
   refine c_seq ?_
   refine c_seq ?_
   refine c_region ?_
   refine l_sure true rfl rfl rfl (beq_iff_eq.2 hk) ?_
   refine RL ?_
   refine l_nil ?_
   refine c_true rfl ?_
   refine c_exit rfl ?_
   refine c_seq ?_
   refine c_seq ?_
   refine c_region ?_
   refine RL ?_
   refine l_x (x_callT (F := [(b3, _)]) (A := (rb, _) :: _) call_13 rfl (fun w hw => ridle_fn K rb 1 (by decide) x h G hG w (St.lentV hw))) rfl rfl ?_
   rintro _ _ ⟨_, ⟨rfl, G1, rfl, hG1⟩, rfl⟩
   refine l_nil ?_
   refine c_draw _ [6, 7, 8, 9] (.step true 0 (.step true 1 (.step true 2 (.step true 3 (.step true 4 (.step true 5 (.step true 6 (.step true 7 (.step true 8 (.step true 9 (.step true 10 (.step true 11 (.step true 12 (.step true 13 (.step true 14 (.step false 15 .done)))))))))))))))) rfl (by kernel_rfl) (by kernel_rfl) (fun _ h => h) ?_
   refine RD ?_
   refine RD ?_
   iterate 3 refine RDa ?_
   refine RDo ?_
   refine RDa ?_
   refine RDo ?_
   refine d_as (v := (.int .i8 (s8 (o.n % 256)))) rfl (l_conv rfl rfl rfl) rfl rfl rfl (congrArg _ (wrap_i8 _)) ?_
   refine d_as (v := (.int .u16 (s8 (o.n % 256) % 65536))) rfl (l_conv rfl rfl rfl) rfl rfl rfl (congrArg _ (wrap_u16 _)) ?_
   refine d_as (v := (.int .u16 ((x.s.r.pc + s8 (o.n % 256)) % 65536))) rfl (l_add rfl rfl) rfl rfl rfl (congrArg _ ((wrap_u16 _).trans (show (x.s.r.pc + s8 (o.n % 256) % 65536) % 65536 = (x.s.r.pc + s8 (o.n % 256)) % 65536 by omega))) ?_
   refine RD ?_
   iterate 3 refine RDa ?_
   refine d_x rfl (x_storeTo (l' := cN K { (idles K.toBusA 1 x).s with r := { (idles K.toBusA 1 x).s.r with pc := (x.s.r.pc + s8 (o.n % 256)) % 65536 } }) 1 rfl rfl rfl rfl rfl rfl (Nat.le_of_ble_eq_true rfl) rfl) rfl rfl n_h ?_
   rintro _ _ ⟨rfl, rfl⟩
   refine c_u ?_
   refine d_nil ?_
   refine c_exit rfl ?_
   refine c_seq ?_
   refine c_region ?_
   refine RL ?_
   refine l_nil ?_
   refine c_ret ?_
   have e7 : (if o.kind = 26 ∧ o.x ≠ 4 then idles K.toBusA 1 x else x) = x := if_neg o_m
   have e8 : metJ o x = true := by unfold metJ; rw [(decide_eq_true o_m : decide (23 ≤ o.kind ∧ o.kind ≤ 26) = true)]; simpa using h1
   have e9 : effJ K.toBusA o x = goto ((x.s.r.pc + s8 (o.n % 256)) % 65536) (idles K.toBusA 1 x) := by unfold effJ; rw [e7, e8]; simp only [Bool.true_eq_false, if_false]; simp only [hk]; rfl
   exact l_end (fun _ _ => rets_v rfl) (.cons _ (List.Sublist.refl _)) ⟨congrArg Value.bool e8.symm, G1, by rw [e9]; first | done | rfl, by rw [e9]; exact hG1⟩
 ·refine c_region ?_
  refine RLa ?_
  refine RLo ?_
  refine l_sure false rfl rfl rfl (beq_eq_false_iff_ne.2 o_m) ?_
  refine RL ?_
  iterate 3 refine RLp ?_
  refine RL ?_
  refine l_nil ?_
  refine c_false rfl ?_
  refine c_skip ?_
  refine c_seq ?_
  refine c_seq ?_
  refine c_region ?_
  refine RLa ?_
  refine RLo ?_
  refine l_nil ?_
  refine c_block ?_
  refine c_seq ?_
  refine c_seq ?_
  refine c_region ?_
  refine l_sure false rfl rfl rfl (beq_eq_false_iff_ne.2 o_m) ?_
  refine RL ?_
  refine l_nil ?_
  refine c_false rfl ?_
  refine c_seq ?_
  refine c_region ?_
  refine l_sure true rfl rfl rfl (beq_iff_eq.2 hk) ?_
  refine RL ?_
  refine l_nil ?_
  refine c_true rfl ?_
  refine c_skip ?_
  refine c_true rfl ?_
  refine c_seq ?_
  refine c_region ?_
  refine RL ?_
  refine RL ?_
  refine l_nil ?_
  refine c_cond rfl (fun h2 => ?_) (fun h2 => ?_)
  ·have h2n := r_f h2
   refine c_seq ?_
   refine c_region ?_
   refine RL ?_
   refine l_nil ?_
   refine c_ret ?_
   have e7 : (if o.kind = 26 ∧ o.x ≠ 4 then idles K.toBusA 1 x else x) = x := if_neg o_m
   have e8 : metJ o x = false := by unfold metJ; rw [(decide_eq_true o_m : decide (23 ≤ o.kind ∧ o.kind ≤ 26) = true)]; simpa using h2
   have e9 : effJ K.toBusA o x = x := by unfold effJ; rw [e7, e8]; rfl
   exact l_end (fun _ _ => rets_v rfl) (.cons _ (List.Sublist.refl _)) ⟨congrArg Value.bool e8.symm, G, by rw [e9]; first | done | rfl, by rw [e9]; exact hG⟩
  ·have h2n := r_f h2
   refine c_skip ?_
   refine c_seq ?_
   refine c_seq ?_
   refine c_region ?_
   refine RLa ?_
   refine RLo ?_
   refine l_nil ?_
   refine c_block ?_
   refine c_seq ?_
   refine c_block ?_
   refine c_seq ?_
   refine c_block ?_
   refine c_seq ?_
   refine c_block ?_
   refine c_seq ?_
   refine c_block ?_
   refine c_seq ?_
   refine c_block ?_
   refine c_seq ?_
   refine c_block ?_
   refine c_seq ?_
   refine c_seq ?_
   refine c_seq ?_
   refine c_region ?_
   refine l_sure false rfl rfl rfl (beq_eq_false_iff_ne.2 o_m) ?_
   refine RL ?_
   refine l_nil ?_
   refine c_false rfl ?_
   refine c_skip ?_
   refine c_seq ?_
   refine c_seq ?_
   refine c_region ?_
   refine l_sure true rfl rfl rfl (beq_iff_eq.2 hk) ?_
   refine RL ?_
   refine l_nil ?_
   refine c_true rfl ?_
   refine c_exit rfl ?_
   refine c_seq ?_
   refine c_seq ?_
   refine c_region ?_
   refine RL ?_
   refine l_x (x_callT (F := [(b3, _)]) (A := (rb, _) :: _) call_13 rfl (fun w hw => ridle_fn K rb 1 (by decide) x h G hG w (St.lentV hw))) rfl rfl ?_
   rintro _ _ ⟨_, ⟨rfl, G1, rfl, hG1⟩, rfl⟩
   refine l_nil ?_
   refine c_region ?_
   refine RL ?_
   refine RLa ?_
   refine RLo ?_
   refine RL ?_
   iterate 3 refine RLa ?_
   refine l_x (x_storeTo (l' := cN K { (idles K.toBusA 1 x).s with r := { (idles K.toBusA 1 x).s.r with pc := o.n } }) 1 rfl rfl rfl rfl rfl rfl (Nat.le_of_ble_eq_true rfl) rfl) rfl rfl ?_
   rintro _ _ ⟨rfl, rfl⟩
   refine c_u ?_
   refine l_nil ?_
   refine c_exit rfl ?_
   refine c_seq ?_
   refine c_region ?_
   refine RL ?_
   refine l_nil ?_
   refine c_ret ?_
   have e7 : (if o.kind = 26 ∧ o.x ≠ 4 then idles K.toBusA 1 x else x) = x := if_neg o_m
   have e8 : metJ o x = true := by unfold metJ; rw [(decide_eq_true o_m : decide (23 ≤ o.kind ∧ o.kind ≤ 26) = true)]; simpa using h2
   have e9 : effJ K.toBusA o x = goto o.n (idles K.toBusA 1 x) := by unfold effJ; rw [e7, e8]; simp only [Bool.true_eq_false, if_false]; simp only [hk]; rfl
   exact l_end (fun _ _ => rets_v rfl) (.cons _ (List.Sublist.refl _)) ⟨congrArg Value.bool e8.symm, G1, by rw [e9]; first | done | rfl, by rw [e9]; exact hG1⟩
 ·refine c_region ?_
  refine RLa ?_
  refine RLo ?_
  refine l_sure false rfl rfl rfl (beq_eq_false_iff_ne.2 o_m) ?_
  refine RL ?_
  iterate 3 refine RLp ?_
  refine RL ?_
  refine l_nil ?_
  refine c_false rfl ?_
  refine c_skip ?_
  refine c_seq ?_
  refine c_seq ?_
  refine c_region ?_
  refine RLa ?_
  refine RLo ?_
  refine l_nil ?_
  refine c_block ?_
  refine c_seq ?_
  refine c_seq ?_
  refine c_region ?_
  refine l_sure false rfl rfl rfl (beq_eq_false_iff_ne.2 o_m) ?_
  refine RL ?_
  refine l_nil ?_
  refine c_false rfl ?_
  refine c_seq ?_
  refine c_region ?_
  refine l_sure false rfl rfl rfl (beq_eq_false_iff_ne.2 o_m) ?_
  refine RL ?_
  refine l_nil ?_
  refine c_false rfl ?_
  refine c_seq ?_
  refine c_region ?_
  refine l_sure true rfl rfl rfl (beq_iff_eq.2 hk) ?_
  refine RL ?_
  refine l_nil ?_
  refine c_true rfl ?_
  refine c_skip ?_
  refine c_true rfl ?_
  refine c_seq ?_
  refine c_region ?_
  refine RL ?_
  refine RL ?_
  refine l_nil ?_
  refine c_cond rfl (fun h3 => ?_) (fun h3 => ?_)
  ·have h3n := r_f h3
   refine c_seq ?_
   refine c_region ?_
   refine RL ?_
   refine l_nil ?_
   refine c_ret ?_
   have e7 : (if o.kind = 26 ∧ o.x ≠ 4 then idles K.toBusA 1 x else x) = x := if_neg o_m
   have e8 : metJ o x = false := by unfold metJ; rw [(decide_eq_true o_m : decide (23 ≤ o.kind ∧ o.kind ≤ 26) = true)]; simpa using h3
   have e9 : effJ K.toBusA o x = x := by unfold effJ; rw [e7, e8]; rfl
   exact l_end (fun _ _ => rets_v rfl) (.cons _ (List.Sublist.refl _)) ⟨congrArg Value.bool e8.symm, G, by rw [e9]; first | done | rfl, by rw [e9]; exact hG⟩
  ·have h3n := r_f h3
   refine c_skip ?_
   refine c_seq ?_
   refine c_seq ?_
   refine c_region ?_
   refine RLa ?_
   refine RLo ?_
   refine l_nil ?_
   refine c_block ?_
   refine c_seq ?_
   refine c_block ?_
   refine c_seq ?_
   refine c_block ?_
   refine c_seq ?_
   refine c_block ?_
   refine c_seq ?_
   refine c_block ?_
   refine c_seq ?_
   refine c_block ?_
   refine c_seq ?_
   refine c_block ?_
   refine c_seq ?_
   refine c_seq ?_
   refine c_seq ?_
   refine c_region ?_
   refine l_sure false rfl rfl rfl (beq_eq_false_iff_ne.2 o_m) ?_
   refine RL ?_
   refine l_nil ?_
   refine c_false rfl ?_
   refine c_skip ?_
   refine c_seq ?_
   refine c_seq ?_
   refine c_region ?_
   refine l_sure false rfl rfl rfl (beq_eq_false_iff_ne.2 o_m) ?_
   refine RL ?_
   refine l_nil ?_
   refine c_false rfl ?_
   refine c_skip ?_
   refine c_seq ?_
   refine c_seq ?_
   refine c_seq ?_
   refine c_region ?_
   refine l_sure true rfl rfl rfl (beq_iff_eq.2 hk) ?_
   refine RL ?_
   refine l_nil ?_
   refine c_true rfl ?_
   refine c_skip ?_
   refine c_true rfl ?_
   refine c_exit rfl ?_
   refine c_seq ?_
   refine c_seq ?_
   refine c_region ?_
   refine RL ?_
   refine l_x (x_callT (F := [(b3, _)]) (A := (rb, _) :: _) call_13 rfl (fun w hw => ridle_fn K rb 1 (by decide) x h G hG w (St.lentV hw))) rfl rfl ?_
   rintro _ _ ⟨_, ⟨rfl, G1, rfl, hG1⟩, rfl⟩
   refine l_nil ?_
   refine c_seq ?_
   refine c_region ?_
   iterate 3 refine RL ?_
   iterate 3 refine RLa ?_
   refine RLo ?_
   refine l_x (x_callT (F := [(b3, _)]) (A := (rb, _) :: _) call_26 rfl (fun w hw => rpush_fn K rb (idles K.toBusA 1 x) (h.idleK 1) G1 hG1 x.s.r.pc h.r.pc w (St.lentV hw))) rfl rfl ?_
   rintro _ _ ⟨_, ⟨rfl, G2, rfl, hG2⟩, rfl⟩
   refine l_nil ?_
   refine c_region ?_
   refine RL ?_
   refine RLa ?_
   refine RLo ?_
   refine RL ?_
   iterate 3 refine RLa ?_
   refine l_x (x_storeTo (l' := cN K { (push K.toBusA x.s.r.pc (idles K.toBusA 1 x)).s with r := { (push K.toBusA x.s.r.pc (idles K.toBusA 1 x)).s.r with pc := o.n } }) 1 rfl rfl rfl rfl rfl rfl (Nat.le_of_ble_eq_true rfl) rfl) rfl rfl ?_
   rintro _ _ ⟨rfl, rfl⟩
   refine c_u ?_
   refine l_nil ?_
   refine c_exit rfl ?_
   refine c_seq ?_
   refine c_region ?_
   refine RL ?_
   refine l_nil ?_
   refine c_ret ?_
   have e7 : (if o.kind = 26 ∧ o.x ≠ 4 then idles K.toBusA 1 x else x) = x := if_neg o_m
   have e8 : metJ o x = true := by unfold metJ; rw [(decide_eq_true o_m : decide (23 ≤ o.kind ∧ o.kind ≤ 26) = true)]; simpa using h3
   have e9 : effJ K.toBusA o x = goto o.n (push K.toBusA x.s.r.pc (idles K.toBusA 1 x)) := by unfold effJ; rw [e7, e8]; simp only [Bool.true_eq_false, if_false]; simp only [hk]; rfl
   exact l_end (fun _ _ => rets_v rfl) (.cons _ (List.Sublist.refl _)) ⟨congrArg Value.bool e8.symm, G2, by rw [e9]; first | done | rfl, by rw [e9]; exact hG2⟩
 ·refine c_region ?_
  refine RLa ?_
  refine RLo ?_
  refine l_sure true rfl rfl rfl (beq_iff_eq.2 hk) ?_
  refine RL ?_
  refine RLa ?_
  refine RLo ?_
  refine RL ?_
  refine RL ?_
  refine l_nil ?_
  refine c_cond rfl (fun h4 => ?_) (fun h4 => ?_)
  ·have h4n := r_f h4
   refine c_region ?_
   refine RL ?_
   refine l_x (x_callT (F := [(b3, _)]) (A := (rb, _) :: _) call_13 rfl (fun w hw => ridle_fn K rb 1 (by decide) x h G hG w (St.lentV hw))) rfl rfl ?_
   rintro _ _ ⟨_, ⟨rfl, G1, rfl, hG1⟩, rfl⟩
   refine l_nil ?_
   refine c_seq ?_
   refine c_seq ?_
   refine c_region ?_
   refine RLa ?_
   refine RLo ?_
   refine l_nil ?_
   refine c_block ?_
   refine c_seq ?_
   refine c_seq ?_
   refine c_region ?_
   refine l_sure false rfl rfl rfl (beq_eq_false_iff_ne.2 o_m) ?_
   refine RL ?_
   refine l_nil ?_
   refine c_false rfl ?_
   refine c_seq ?_
   refine c_region ?_
   refine l_sure false rfl rfl rfl (beq_eq_false_iff_ne.2 o_m) ?_
   refine RL ?_
   refine l_nil ?_
   refine c_false rfl ?_
   refine c_seq ?_
   refine c_region ?_
   refine l_sure false rfl rfl rfl (beq_eq_false_iff_ne.2 o_m) ?_
   refine RL ?_
   refine l_nil ?_
   refine c_false rfl ?_
   refine c_region ?_
   refine l_sure true rfl rfl rfl (beq_iff_eq.2 hk) ?_
   refine RL ?_
   refine l_nil ?_
   refine c_true rfl ?_
   refine c_seq ?_
   refine c_region ?_
   refine RL ?_
   refine RL ?_
   refine l_nil ?_
   refine c_cond rfl (fun h5 => ?_) (fun h5 => ?_)
   ·have h5n := r_f h5
    refine c_seq ?_
    refine c_region ?_
    refine RL ?_
    refine l_nil ?_
    refine c_ret ?_
    have e7 : (if o.kind = 26 ∧ o.x ≠ 4 then idles K.toBusA 1 x else x) = (idles K.toBusA 1 x) := if_pos o_m
    have e8 : metJ o x = false := by unfold metJ; rw [(decide_eq_true o_m : decide (23 ≤ o.kind ∧ o.kind ≤ 26) = true)]; simpa using h5
    have e9 : effJ K.toBusA o x = (idles K.toBusA 1 x) := by unfold effJ; rw [e7, e8]; rfl
    exact l_end (fun _ _ => rets_v rfl) (.cons _ (List.Sublist.refl _)) ⟨congrArg Value.bool e8.symm, G1, by rw [e9]; first | done | rfl, by rw [e9]; exact hG1⟩
   ·have h5n := r_f h5
    refine c_skip ?_
    refine c_seq ?_
    refine c_seq ?_
    refine c_region ?_
    refine RLa ?_
    refine RLo ?_
    refine l_nil ?_
    refine c_block ?_
    refine c_seq ?_
    refine c_block ?_
    refine c_seq ?_
    refine c_block ?_
    refine c_seq ?_
    refine c_block ?_
    refine c_seq ?_
    refine c_block ?_
    refine c_seq ?_
    refine c_block ?_
    refine c_seq ?_
    refine c_block ?_
    refine c_seq ?_
    refine c_seq ?_
    refine c_seq ?_
    refine c_region ?_
    refine l_sure false rfl rfl rfl (beq_eq_false_iff_ne.2 o_m) ?_
    refine RL ?_
    refine l_nil ?_
    refine c_false rfl ?_
    refine c_skip ?_
    refine c_seq ?_
    refine c_seq ?_
    refine c_region ?_
    refine l_sure false rfl rfl rfl (beq_eq_false_iff_ne.2 o_m) ?_
    refine RL ?_
    refine l_nil ?_
    refine c_false rfl ?_
    refine c_skip ?_
    refine c_seq ?_
    refine c_seq ?_
    refine c_seq ?_
    refine c_region ?_
    refine l_sure false rfl rfl rfl (beq_eq_false_iff_ne.2 o_m) ?_
    refine RL ?_
    refine l_nil ?_
    refine c_false rfl ?_
    refine c_region ?_
    refine l_sure false rfl rfl rfl (beq_eq_false_iff_ne.2 o_m) ?_
    refine RL ?_
    refine l_nil ?_
    refine c_false rfl ?_
    refine c_skip ?_
    refine c_seq ?_
    refine c_seq ?_
    refine c_region ?_
    refine l_sure false rfl rfl rfl (beq_eq_false_iff_ne.2 o_m) ?_
    refine RL ?_
    refine l_nil ?_
    refine c_false rfl ?_
    refine c_skip ?_
    refine c_seq ?_
    refine c_seq ?_
    refine c_region ?_
    refine l_sure true rfl rfl rfl (beq_iff_eq.2 hk) ?_
    refine RL ?_
    refine l_nil ?_
    refine c_true rfl ?_
    refine c_exit rfl ?_
    refine c_seq ?_
    refine c_seq ?_
    refine c_region ?_
    refine RL ?_
    refine RL ?_
    refine l_x (x_callT (F := [(b3, _)]) (A := (rb, _) :: _) call_69 rfl (fun w hw => rpop_fn K rb (idles K.toBusA 1 x) (h.idleK 1) G1 hG1 w (St.lentV hw))) rfl rfl ?_
    rintro _ _ ⟨_, ⟨rfl, G2, rfl, hG2⟩, rfl⟩
    refine RL ?_
    iterate 3 refine RLa ?_
    refine l_x (x_storeTo (l' := cN K { (pop K.toBusA (idles K.toBusA 1 x)).2.s with r := { (pop K.toBusA (idles K.toBusA 1 x)).2.s.r with pc := (pop K.toBusA (idles K.toBusA 1 x)).1 } }) 1 rfl rfl rfl rfl rfl rfl (Nat.le_of_ble_eq_true rfl) rfl) rfl rfl ?_
    rintro _ _ ⟨rfl, rfl⟩
    refine c_u ?_
    refine l_nil ?_
    refine c_region ?_
    refine RL ?_
    refine l_x (x_callT (F := [(b3, _)]) (A := (rb, _) :: _) call_13 rfl (fun w hw => ridle_fn K rb 1 (by decide) (goto (pop K.toBusA (idles K.toBusA 1 x)).1 (pop K.toBusA (idles K.toBusA 1 x)).2) ((RunOk.pop (h.idleK 1)).1.reg ((RunOk.pop (h.idleK 1)).1.r.pc_ (RunOk.pop (h.idleK 1)).2)) G2 hG2 w (St.lentV hw))) rfl rfl ?_
    rintro _ _ ⟨_, ⟨rfl, G3, rfl, hG3⟩, rfl⟩
    refine l_nil ?_
    refine c_exit rfl ?_
    refine c_seq ?_
    refine c_region ?_
    refine RL ?_
    refine l_nil ?_
    refine c_ret ?_
    have e7 : (if o.kind = 26 ∧ o.x ≠ 4 then idles K.toBusA 1 x else x) = (idles K.toBusA 1 x) := if_pos o_m
    have e8 : metJ o x = true := by unfold metJ; rw [(decide_eq_true o_m : decide (23 ≤ o.kind ∧ o.kind ≤ 26) = true)]; simpa using h5
    have e9 : effJ K.toBusA o x = idles K.toBusA 1 (goto (pop K.toBusA (idles K.toBusA 1 x)).1 (pop K.toBusA (idles K.toBusA 1 x)).2) := by unfold effJ; rw [e7, e8]; simp only [Bool.true_eq_false, if_false]; simp only [hk]; rfl
    exact l_end (fun _ _ => rets_v rfl) (.cons _ (List.Sublist.refl _)) ⟨congrArg Value.bool e8.symm, G3, by rw [e9]; first | done | rfl, by rw [e9]; exact hG3⟩
  ·have h4n := r_f h4
   refine c_skip ?_
   refine c_seq ?_
   refine c_seq ?_
   refine c_region ?_
   refine RLa ?_
   refine RLo ?_
   refine l_nil ?_
   refine c_block ?_
   refine c_seq ?_
   refine c_seq ?_
   refine c_region ?_
   refine l_sure false rfl rfl rfl (beq_eq_false_iff_ne.2 o_m) ?_
   refine RL ?_
   refine l_nil ?_
   refine c_false rfl ?_
   refine c_seq ?_
   refine c_region ?_
   refine l_sure false rfl rfl rfl (beq_eq_false_iff_ne.2 o_m) ?_
   refine RL ?_
   refine l_nil ?_
   refine c_false rfl ?_
   refine c_seq ?_
   refine c_region ?_
   refine l_sure false rfl rfl rfl (beq_eq_false_iff_ne.2 o_m) ?_
   refine RL ?_
   refine l_nil ?_
   refine c_false rfl ?_
   refine c_region ?_
   refine l_sure true rfl rfl rfl (beq_iff_eq.2 hk) ?_
   refine RL ?_
   refine l_nil ?_
   refine c_true rfl ?_
   refine c_seq ?_
   refine c_region ?_
   refine RL ?_
   refine RL ?_
   refine l_nil ?_
   refine c_cond rfl (fun h6 => ?_) (fun h6 => ?_)
   ·have h6n := r_f h6
    refine c_seq ?_
    refine c_region ?_
    refine RL ?_
    refine l_nil ?_
    refine c_ret ?_
    have e7 : (if o.kind = 26 ∧ o.x ≠ 4 then idles K.toBusA 1 x else x) = x := if_neg o_m
    have e8 : metJ o x = false := by unfold metJ; rw [(decide_eq_true o_m : decide (23 ≤ o.kind ∧ o.kind ≤ 26) = true)]; simpa using h6
    have e9 : effJ K.toBusA o x = x := by unfold effJ; rw [e7, e8]; rfl
    exact l_end (fun _ _ => rets_v rfl) (.cons _ (List.Sublist.refl _)) ⟨congrArg Value.bool e8.symm, G, by rw [e9]; first | done | rfl, by rw [e9]; exact hG⟩
   ·have h6n := r_f h6
    refine c_skip ?_
    refine c_seq ?_
    refine c_seq ?_
    refine c_region ?_
    refine RLa ?_
    refine RLo ?_
    refine l_nil ?_
    refine c_block ?_
    refine c_seq ?_
    refine c_block ?_
    refine c_seq ?_
    refine c_block ?_
    refine c_seq ?_
    refine c_block ?_
    refine c_seq ?_
    refine c_block ?_
    refine c_seq ?_
    refine c_block ?_
    refine c_seq ?_
    refine c_block ?_
    refine c_seq ?_
    refine c_seq ?_
    refine c_seq ?_
    refine c_region ?_
    refine l_sure false rfl rfl rfl (beq_eq_false_iff_ne.2 o_m) ?_
    refine RL ?_
    refine l_nil ?_
    refine c_false rfl ?_
    refine c_skip ?_
    refine c_seq ?_
    refine c_seq ?_
    refine c_region ?_
    refine l_sure false rfl rfl rfl (beq_eq_false_iff_ne.2 o_m) ?_
    refine RL ?_
    refine l_nil ?_
    refine c_false rfl ?_
    refine c_skip ?_
    refine c_seq ?_
    refine c_seq ?_
    refine c_seq ?_
    refine c_region ?_
    refine l_sure false rfl rfl rfl (beq_eq_false_iff_ne.2 o_m) ?_
    refine RL ?_
    refine l_nil ?_
    refine c_false rfl ?_
    refine c_region ?_
    refine l_sure false rfl rfl rfl (beq_eq_false_iff_ne.2 o_m) ?_
    refine RL ?_
    refine l_nil ?_
    refine c_false rfl ?_
    refine c_skip ?_
    refine c_seq ?_
    refine c_seq ?_
    refine c_region ?_
    refine l_sure false rfl rfl rfl (beq_eq_false_iff_ne.2 o_m) ?_
    refine RL ?_
    refine l_nil ?_
    refine c_false rfl ?_
    refine c_skip ?_
    refine c_seq ?_
    refine c_seq ?_
    refine c_region ?_
    refine l_sure true rfl rfl rfl (beq_iff_eq.2 hk) ?_
    refine RL ?_
    refine l_nil ?_
    refine c_true rfl ?_
    refine c_exit rfl ?_
    refine c_seq ?_
    refine c_seq ?_
    refine c_region ?_
    refine RL ?_
    refine RL ?_
    refine l_x (x_callT (F := [(b3, _)]) (A := (rb, _) :: _) call_69 rfl (fun w hw => rpop_fn K rb x h G hG w (St.lentV hw))) rfl rfl ?_
    rintro _ _ ⟨_, ⟨rfl, G2, rfl, hG2⟩, rfl⟩
    refine RL ?_
    iterate 3 refine RLa ?_
    refine l_x (x_storeTo (l' := cN K { (pop K.toBusA x).2.s with r := { (pop K.toBusA x).2.s.r with pc := (pop K.toBusA x).1 } }) 1 rfl rfl rfl rfl rfl rfl (Nat.le_of_ble_eq_true rfl) rfl) rfl rfl ?_
    rintro _ _ ⟨rfl, rfl⟩
    refine c_u ?_
    refine l_nil ?_
    refine c_region ?_
    refine RL ?_
    refine l_x (x_callT (F := [(b3, _)]) (A := (rb, _) :: _) call_13 rfl (fun w hw => ridle_fn K rb 1 (by decide) (goto (pop K.toBusA x).1 (pop K.toBusA x).2) ((RunOk.pop h).1.reg ((RunOk.pop h).1.r.pc_ (RunOk.pop h).2)) G2 hG2 w (St.lentV hw))) rfl rfl ?_
    rintro _ _ ⟨_, ⟨rfl, G3, rfl, hG3⟩, rfl⟩
    refine l_nil ?_
    refine c_exit rfl ?_
    refine c_seq ?_
    refine c_region ?_
    refine RL ?_
    refine l_nil ?_
    refine c_ret ?_
    have e7 : (if o.kind = 26 ∧ o.x ≠ 4 then idles K.toBusA 1 x else x) = x := if_neg o_m
    have e8 : metJ o x = true := by unfold metJ; rw [(decide_eq_true o_m : decide (23 ≤ o.kind ∧ o.kind ≤ 26) = true)]; simpa using h6
    have e9 : effJ K.toBusA o x = idles K.toBusA 1 (goto (pop K.toBusA x).1 (pop K.toBusA x).2) := by unfold effJ; rw [e7, e8]; simp only [Bool.true_eq_false, if_false]; simp only [hk]; rfl
    exact l_end (fun _ _ => rets_v rfl) (.cons _ (List.Sublist.refl _)) ⟨congrArg Value.bool e8.symm, G3, by rw [e9]; first | done | rfl, by rw [e9]; exact hG3⟩
 ·refine c_region ?_
  refine RLa ?_
  refine RLo ?_
  refine l_sure false rfl rfl rfl (beq_eq_false_iff_ne.2 o_m) ?_
  refine RL ?_
  iterate 3 refine RLp ?_
  refine RL ?_
  refine l_nil ?_
  refine c_false rfl ?_
  refine c_skip ?_
  refine c_seq ?_
  refine c_seq ?_
  refine c_region ?_
  refine RLa ?_
  refine RLo ?_
  refine l_nil ?_
  refine c_block ?_
  refine c_seq ?_
  refine c_seq ?_
  refine c_region ?_
  refine l_sure false rfl rfl rfl (beq_eq_false_iff_ne.2 o_m) ?_
  refine RL ?_
  refine l_nil ?_
  refine c_false rfl ?_
  refine c_seq ?_
  refine c_region ?_
  refine l_sure false rfl rfl rfl (beq_eq_false_iff_ne.2 o_m) ?_
  refine RL ?_
  refine l_nil ?_
  refine c_false rfl ?_
  refine c_seq ?_
  refine c_region ?_
  refine l_sure false rfl rfl rfl (beq_eq_false_iff_ne.2 o_m) ?_
  refine RL ?_
  refine l_nil ?_
  refine c_false rfl ?_
  refine c_region ?_
  refine l_sure false rfl rfl rfl (beq_eq_false_iff_ne.2 o_m) ?_
  refine RL ?_
  refine l_nil ?_
  refine c_false rfl ?_
  refine c_skip ?_
  refine c_seq ?_
  refine c_seq ?_
  refine c_region ?_
  refine RLa ?_
  refine RLo ?_
  refine l_nil ?_
  refine c_block ?_
  refine c_seq ?_
  refine c_block ?_
  refine c_seq ?_
  refine c_block ?_
  refine c_seq ?_
  refine c_block ?_
  refine c_seq ?_
  refine c_block ?_
  refine c_seq ?_
  refine c_block ?_
  refine c_seq ?_
  refine c_block ?_
  refine c_seq ?_
  refine c_seq ?_
  refine c_seq ?_
  refine c_region ?_
  refine l_sure false rfl rfl rfl (beq_eq_false_iff_ne.2 o_m) ?_
  refine RL ?_
  refine l_nil ?_
  refine c_false rfl ?_
  refine c_skip ?_
  refine c_seq ?_
  refine c_seq ?_
  refine c_region ?_
  refine l_sure false rfl rfl rfl (beq_eq_false_iff_ne.2 o_m) ?_
  refine RL ?_
  refine l_nil ?_
  refine c_false rfl ?_
  refine c_skip ?_
  refine c_seq ?_
  refine c_seq ?_
  refine c_seq ?_
  refine c_region ?_
  refine l_sure false rfl rfl rfl (beq_eq_false_iff_ne.2 o_m) ?_
  refine RL ?_
  refine l_nil ?_
  refine c_false rfl ?_
  refine c_region ?_
  refine l_sure false rfl rfl rfl (beq_eq_false_iff_ne.2 o_m) ?_
  refine RL ?_
  refine l_nil ?_
  refine c_false rfl ?_
  refine c_skip ?_
  refine c_seq ?_
  refine c_seq ?_
  refine c_region ?_
  refine l_sure true rfl rfl rfl (beq_iff_eq.2 hk) ?_
  refine RL ?_
  refine l_nil ?_
  refine c_true rfl ?_
  refine c_exit rfl ?_
  refine c_region ?_
  refine RL ?_
  refine RL ?_
  refine RLa ?_
  refine RLa ?_
  refine l_x (x_storeTo (l' := cN K { x.s with ime := true }) 1 rfl rfl rfl rfl rfl rfl (Nat.le_of_ble_eq_true rfl) rfl) rfl rfl ?_
  rintro _ _ ⟨rfl, rfl⟩
  refine c_u ?_
  refine l_nil ?_
  refine c_seq ?_
  refine c_seq ?_
  refine c_region ?_
  refine RL ?_
  refine RL ?_
  refine l_x (x_callT (F := [(b3, _)]) (A := (rb, _) :: _) call_69 rfl (fun w hw => rpop_fn K rb (⟨{ x.s with ime := true }, x.m⟩ : Rn _) (⟨h.r, h.m⟩ : RunOk K.toBusO _ (⟨{ x.s with ime := true }, x.m⟩ : Rn _)) G hG w (St.lentV hw))) rfl rfl ?_
  rintro _ _ ⟨_, ⟨rfl, G2, rfl, hG2⟩, rfl⟩
  refine RL ?_
  iterate 3 refine RLa ?_
  refine l_x (x_storeTo (l' := cN K { (pop K.toBusA (⟨{ x.s with ime := true }, x.m⟩ : Rn _)).2.s with r := { (pop K.toBusA (⟨{ x.s with ime := true }, x.m⟩ : Rn _)).2.s.r with pc := (pop K.toBusA (⟨{ x.s with ime := true }, x.m⟩ : Rn _)).1 } }) 1 rfl rfl rfl rfl rfl rfl (Nat.le_of_ble_eq_true rfl) rfl) rfl rfl ?_
  rintro _ _ ⟨rfl, rfl⟩
  refine c_u ?_
  refine l_nil ?_
  refine c_region ?_
  refine RL ?_
  refine l_x (x_callT (F := [(b3, _)]) (A := (rb, _) :: _) call_13 rfl (fun w hw => ridle_fn K rb 1 (by decide) (goto (pop K.toBusA (⟨{ x.s with ime := true }, x.m⟩ : Rn _)).1 (pop K.toBusA (⟨{ x.s with ime := true }, x.m⟩ : Rn _)).2) ((RunOk.pop (⟨h.r, h.m⟩ : RunOk K.toBusO (bn + 1 + 1 + 2) (⟨{ x.s with ime := true }, x.m⟩ : Rn _))).1.reg ((RunOk.pop (⟨h.r, h.m⟩ : RunOk K.toBusO (bn + 1 + 1 + 2) (⟨{ x.s with ime := true }, x.m⟩ : Rn _))).1.r.pc_ (RunOk.pop (⟨h.r, h.m⟩ : RunOk K.toBusO (bn + 1 + 1 + 2) (⟨{ x.s with ime := true }, x.m⟩ : Rn _))).2)) G2 hG2 w (St.lentV hw))) rfl rfl ?_
  rintro _ _ ⟨_, ⟨rfl, G3, rfl, hG3⟩, rfl⟩
  refine l_nil ?_
  refine c_exit rfl ?_
  refine c_seq ?_
  refine c_region ?_
  refine RL ?_
  refine l_nil ?_
  refine c_ret ?_
  have e7 : (if o.kind = 26 ∧ o.x ≠ 4 then idles K.toBusA 1 x else x) = x := if_neg o_m
  have e8 : metJ o x = true := by unfold metJ; rw [(decide_eq_false o_m : decide (23 ≤ o.kind ∧ o.kind ≤ 26) = false)]; rfl
  have e9 : effJ K.toBusA o x = idles K.toBusA 1 (goto (pop K.toBusA (⟨{ x.s with ime := true }, x.m⟩ : Rn _)).1 (pop K.toBusA (⟨{ x.s with ime := true }, x.m⟩ : Rn _)).2) := by unfold effJ; rw [e7, e8]; simp only [Bool.true_eq_false, if_false]; simp only [hk]; rfl
  exact l_end (fun _ _ => rets_v rfl) (.cons _ (List.Sublist.refl _)) ⟨congrArg Value.bool e8.symm, G3, by rw [e9]; first | done | rfl, by rw [e9]; exact hG3⟩
 ·refine c_region ?_
  refine RLa ?_
  refine RLo ?_
  refine l_sure false rfl rfl rfl (beq_eq_false_iff_ne.2 o_m) ?_
  refine RL ?_
  iterate 3 refine RLp ?_
  refine RL ?_
  refine l_nil ?_
  refine c_false rfl ?_
  refine c_skip ?_
  refine c_seq ?_
  refine c_seq ?_
  refine c_region ?_
  refine RLa ?_
  refine RLo ?_
  refine l_nil ?_
  refine c_block ?_
  refine c_seq ?_
  refine c_seq ?_
  refine c_region ?_
  refine l_sure false rfl rfl rfl (beq_eq_false_iff_ne.2 o_m) ?_
  refine RL ?_
  refine l_nil ?_
  refine c_false rfl ?_
  refine c_seq ?_
  refine c_region ?_
  refine l_sure false rfl rfl rfl (beq_eq_false_iff_ne.2 o_m) ?_
  refine RL ?_
  refine l_nil ?_
  refine c_false rfl ?_
  refine c_seq ?_
  refine c_region ?_
  refine l_sure false rfl rfl rfl (beq_eq_false_iff_ne.2 o_m) ?_
  refine RL ?_
  refine l_nil ?_
  refine c_false rfl ?_
  refine c_region ?_
  refine l_sure false rfl rfl rfl (beq_eq_false_iff_ne.2 o_m) ?_
  refine RL ?_
  refine l_nil ?_
  refine c_false rfl ?_
  refine c_skip ?_
  refine c_seq ?_
  refine c_seq ?_
  refine c_region ?_
  refine RLa ?_
  refine RLo ?_
  refine l_nil ?_
  refine c_block ?_
  refine c_seq ?_
  refine c_block ?_
  refine c_seq ?_
  refine c_block ?_
  refine c_seq ?_
  refine c_block ?_
  refine c_seq ?_
  refine c_block ?_
  refine c_seq ?_
  refine c_block ?_
  refine c_seq ?_
  refine c_block ?_
  refine c_seq ?_
  refine c_seq ?_
  refine c_seq ?_
  refine c_region ?_
  refine l_sure false rfl rfl rfl (beq_eq_false_iff_ne.2 o_m) ?_
  refine RL ?_
  refine l_nil ?_
  refine c_false rfl ?_
  refine c_skip ?_
  refine c_seq ?_
  refine c_seq ?_
  refine c_region ?_
  refine l_sure false rfl rfl rfl (beq_eq_false_iff_ne.2 o_m) ?_
  refine RL ?_
  refine l_nil ?_
  refine c_false rfl ?_
  refine c_skip ?_
  refine c_seq ?_
  refine c_seq ?_
  refine c_seq ?_
  refine c_region ?_
  refine l_sure false rfl rfl rfl (beq_eq_false_iff_ne.2 o_m) ?_
  refine RL ?_
  refine l_nil ?_
  refine c_false rfl ?_
  refine c_region ?_
  refine l_sure true rfl rfl rfl (beq_iff_eq.2 hk) ?_
  refine RL ?_
  refine l_nil ?_
  refine c_true rfl ?_
  refine c_exit rfl ?_
  refine c_seq ?_
  refine c_seq ?_
  refine c_region ?_
  refine RL ?_
  refine l_x (x_callT (F := [(b3, _)]) (A := (rb, _) :: _) call_13 rfl (fun w hw => ridle_fn K rb 1 (by decide) x h G hG w (St.lentV hw))) rfl rfl ?_
  rintro _ _ ⟨_, ⟨rfl, G1, rfl, hG1⟩, rfl⟩
  refine l_nil ?_
  refine c_seq ?_
  refine c_region ?_
  iterate 3 refine RL ?_
  iterate 3 refine RLa ?_
  refine RLo ?_
  refine l_x (x_callT (F := [(b3, _)]) (A := (rb, _) :: _) call_26 rfl (fun w hw => rpush_fn K rb (idles K.toBusA 1 x) (h.idleK 1) G1 hG1 x.s.r.pc h.r.pc w (St.lentV hw))) rfl rfl ?_
  rintro _ _ ⟨_, ⟨rfl, G2, rfl, hG2⟩, rfl⟩
  refine l_nil ?_
  refine c_region ?_
  refine RL ?_
  refine RLa ?_
  refine RLo ?_
  refine RL ?_
  iterate 3 refine RLa ?_
  refine l_x (x_storeTo (l' := cN K { (push K.toBusA x.s.r.pc (idles K.toBusA 1 x)).s with r := { (push K.toBusA x.s.r.pc (idles K.toBusA 1 x)).s.r with pc := o.n } }) 1 rfl rfl rfl rfl rfl rfl (Nat.le_of_ble_eq_true rfl) rfl) rfl rfl ?_
  rintro _ _ ⟨rfl, rfl⟩
  refine c_u ?_
  refine l_nil ?_
  refine c_exit rfl ?_
  refine c_seq ?_
  refine c_region ?_
  refine RL ?_
  refine l_nil ?_
  refine c_ret ?_
  have e7 : (if o.kind = 26 ∧ o.x ≠ 4 then idles K.toBusA 1 x else x) = x := if_neg o_m
  have e8 : metJ o x = true := by unfold metJ; rw [(decide_eq_false o_m : decide (23 ≤ o.kind ∧ o.kind ≤ 26) = false)]; rfl
  have e9 : effJ K.toBusA o x = goto o.n (push K.toBusA x.s.r.pc (idles K.toBusA 1 x)) := by unfold effJ; rw [e7, e8]; simp only [Bool.true_eq_false, if_false]; simp only [hk]; rfl
  exact l_end (fun _ _ => rets_v rfl) (.cons _ (List.Sublist.refl _)) ⟨congrArg Value.bool e8.symm, G2, by rw [e9]; first | done | rfl, by rw [e9]; exact hG2⟩
 ·refine c_region ?_
  refine RLa ?_
  refine RLo ?_
  refine l_sure false rfl rfl rfl (beq_eq_false_iff_ne.2 o_m) ?_
  refine RL ?_
  iterate 3 refine RLp ?_
  refine RL ?_
  refine l_nil ?_
  refine c_false rfl ?_
  refine c_skip ?_
  refine c_seq ?_
  refine c_seq ?_
  refine c_region ?_
  refine RLa ?_
  refine RLo ?_
  refine l_nil ?_
  refine c_block ?_
  refine c_seq ?_
  refine c_seq ?_
  refine c_region ?_
  refine l_sure false rfl rfl rfl (beq_eq_false_iff_ne.2 o_m) ?_
  refine RL ?_
  refine l_nil ?_
  refine c_false rfl ?_
  refine c_seq ?_
  refine c_region ?_
  refine l_sure false rfl rfl rfl (beq_eq_false_iff_ne.2 o_m) ?_
  refine RL ?_
  refine l_nil ?_
  refine c_false rfl ?_
  refine c_seq ?_
  refine c_region ?_
  refine l_sure false rfl rfl rfl (beq_eq_false_iff_ne.2 o_m) ?_
  refine RL ?_
  refine l_nil ?_
  refine c_false rfl ?_
  refine c_region ?_
  refine l_sure false rfl rfl rfl (beq_eq_false_iff_ne.2 o_m) ?_
  refine RL ?_
  refine l_nil ?_
  refine c_false rfl ?_
  refine c_skip ?_
  refine c_seq ?_
  refine c_seq ?_
  refine c_region ?_
  refine RLa ?_
  refine RLo ?_
  refine l_nil ?_
  refine c_block ?_
  refine c_seq ?_
  refine c_block ?_
  refine c_seq ?_
  refine c_block ?_
  refine c_seq ?_
  refine c_block ?_
  refine c_seq ?_
  refine c_block ?_
  refine c_seq ?_
  refine c_block ?_
  refine c_seq ?_
  refine c_block ?_
  refine c_seq ?_
  refine c_seq ?_
  refine c_seq ?_
  refine c_region ?_
  refine l_sure false rfl rfl rfl (beq_eq_false_iff_ne.2 o_m) ?_
  refine RL ?_
  refine l_nil ?_
  refine c_false rfl ?_
  refine c_skip ?_
  refine c_seq ?_
  refine c_seq ?_
  refine c_region ?_
  refine l_sure false rfl rfl rfl (beq_eq_false_iff_ne.2 o_m) ?_
  refine RL ?_
  refine l_nil ?_
  refine c_false rfl ?_
  refine c_skip ?_
  refine c_seq ?_
  refine c_seq ?_
  refine c_seq ?_
  refine c_region ?_
  refine l_sure false rfl rfl rfl (beq_eq_false_iff_ne.2 o_m) ?_
  refine RL ?_
  refine l_nil ?_
  refine c_false rfl ?_
  refine c_region ?_
  refine l_sure false rfl rfl rfl (beq_eq_false_iff_ne.2 o_m) ?_
  refine RL ?_
  refine l_nil ?_
  refine c_false rfl ?_
  refine c_skip ?_
  refine c_seq ?_
  refine c_seq ?_
  refine c_region ?_
  refine l_sure false rfl rfl rfl (beq_eq_false_iff_ne.2 o_m) ?_
  refine RL ?_
  refine l_nil ?_
  refine c_false rfl ?_
  refine c_skip ?_
  refine c_seq ?_
  refine c_seq ?_
  refine c_region ?_
  refine l_sure false rfl rfl rfl (beq_eq_false_iff_ne.2 o_m) ?_
  refine RL ?_
  refine l_nil ?_
  refine c_false rfl ?_
  refine c_skip ?_
  refine c_seq ?_
  refine c_region ?_
  refine l_sure true rfl rfl rfl (beq_iff_eq.2 hk) ?_
  refine RL ?_
  refine l_nil ?_
  refine c_true rfl ?_
  refine c_exit rfl ?_
  refine c_seq ?_
  refine c_region ?_
  refine RL ?_
  refine RL ?_
  refine RLv call_66 (fun w hw => rpair_fn K rb x.s h.r w (row_own (l := cN K x.s) m_m w hw) 2) ?_
  refine RL ?_
  iterate 3 refine RLa ?_
  refine l_x (x_storeTo (l' := cN K { x.s with r := { x.s.r with pc := pairR x.s.r 2 } }) 1 rfl rfl rfl rfl rfl rfl (Nat.le_of_ble_eq_true rfl) rfl) rfl rfl ?_
  rintro _ _ ⟨rfl, rfl⟩
  refine c_u ?_
  refine l_nil ?_
  refine c_exit rfl ?_
  refine c_seq ?_
  refine c_region ?_
  refine RL ?_
  refine l_nil ?_
  refine c_ret ?_
  have e7 : (if o.kind = 26 ∧ o.x ≠ 4 then idles K.toBusA 1 x else x) = x := if_neg o_m
  have e8 : metJ o x = true := by unfold metJ; rw [(decide_eq_false o_m : decide (23 ≤ o.kind ∧ o.kind ≤ 26) = false)]; rfl
  have e9 : effJ K.toBusA o x = goto (pairR x.s.r 2) x := by unfold effJ; rw [e7, e8]; simp only [Bool.true_eq_false, if_false]; simp only [hk]; rfl
  exact l_end (fun _ _ => rets_v rfl) (.cons _ (List.Sublist.refl _)) ⟨congrArg Value.bool e8.symm, G, by rw [e9]; first | done | rfl, by rw [e9]; exact hG⟩
 ·refine c_region ?_
  refine RLa ?_
  refine RLo ?_
  refine l_sure false rfl rfl rfl (beq_eq_false_iff_ne.2 o_m) ?_
  refine RL ?_
  iterate 3 refine RLp ?_
  refine RL ?_
  refine l_nil ?_
  refine c_false rfl ?_
  refine c_skip ?_
  refine c_seq ?_
  refine c_seq ?_
  refine c_region ?_
  refine RLa ?_
  refine RLo ?_
  refine l_nil ?_
  refine c_block ?_
  refine c_seq ?_
  refine c_seq ?_
  refine c_region ?_
  refine l_sure false rfl rfl rfl (beq_eq_false_iff_ne.2 o_m) ?_
  refine RL ?_
  refine l_nil ?_
  refine c_false rfl ?_
  refine c_seq ?_
  refine c_region ?_
  refine l_sure false rfl rfl rfl (beq_eq_false_iff_ne.2 o_m) ?_
  refine RL ?_
  refine l_nil ?_
  refine c_false rfl ?_
  refine c_seq ?_
  refine c_region ?_
  refine l_sure false rfl rfl rfl (beq_eq_false_iff_ne.2 o_m) ?_
  refine RL ?_
  refine l_nil ?_
  refine c_false rfl ?_
  refine c_region ?_
  refine l_sure false rfl rfl rfl (beq_eq_false_iff_ne.2 o_m) ?_
  refine RL ?_
  refine l_nil ?_
  refine c_false rfl ?_
  refine c_skip ?_
  refine c_seq ?_
  refine c_seq ?_
  refine c_region ?_
  refine RLa ?_
  refine RLo ?_
  refine l_nil ?_
  refine c_block ?_
  refine c_seq ?_
  refine c_block ?_
  refine c_seq ?_
  refine c_block ?_
  refine c_seq ?_
  refine c_block ?_
  refine c_seq ?_
  refine c_block ?_
  refine c_seq ?_
  refine c_block ?_
  refine c_seq ?_
  refine c_block ?_
  refine c_seq ?_
  refine c_seq ?_
  refine c_seq ?_
  refine c_region ?_
  refine l_sure false rfl rfl rfl (beq_eq_false_iff_ne.2 o_m) ?_
  refine RL ?_
  refine l_nil ?_
  refine c_false rfl ?_
  refine c_skip ?_
  refine c_seq ?_
  refine c_seq ?_
  refine c_region ?_
  refine l_sure false rfl rfl rfl (beq_eq_false_iff_ne.2 o_m) ?_
  refine RL ?_
  refine l_nil ?_
  refine c_false rfl ?_
  refine c_skip ?_
  refine c_seq ?_
  refine c_seq ?_
  refine c_seq ?_
  refine c_region ?_
  refine l_sure false rfl rfl rfl (beq_eq_false_iff_ne.2 o_m) ?_
  refine RL ?_
  refine l_nil ?_
  refine c_false rfl ?_
  refine c_region ?_
  refine l_sure false rfl rfl rfl (beq_eq_false_iff_ne.2 o_m) ?_
  refine RL ?_
  refine l_nil ?_
  refine c_false rfl ?_
  refine c_skip ?_
  refine c_seq ?_
  refine c_seq ?_
  refine c_region ?_
  refine l_sure false rfl rfl rfl (beq_eq_false_iff_ne.2 o_m) ?_
  refine RL ?_
  refine l_nil ?_
  refine c_false rfl ?_
  refine c_skip ?_
  refine c_seq ?_
  refine c_seq ?_
  refine c_region ?_
  refine l_sure false rfl rfl rfl (beq_eq_false_iff_ne.2 o_m) ?_
  refine RL ?_
  refine l_nil ?_
  refine c_false rfl ?_
  refine c_skip ?_
  refine c_seq ?_
  refine c_region ?_
  refine l_sure false rfl rfl rfl (beq_eq_false_iff_ne.2 o_m) ?_
  refine RL ?_
  refine l_nil ?_
  refine c_false rfl ?_
  refine c_skip ?_
  refine c_exit rfl ?_
  refine c_seq ?_
  refine c_region ?_
  refine RL ?_
  refine l_nil ?_
  refine c_ret ?_
  have e7 : (if o.kind = 26 ∧ o.x ≠ 4 then idles K.toBusA 1 x else x) = x := if_neg o_m
  have e8 : metJ o x = true := by unfold metJ; rw [(decide_eq_false o_m : decide (23 ≤ o.kind ∧ o.kind ≤ 26) = false)]; rfl
  have e9 : effJ K.toBusA o x = x := by unfold effJ; rw [e7, e8]; simp only [Bool.true_eq_false, if_false]; repeat rw [if_neg o_m]
  exact l_end (fun _ _ => rets_v rfl) (.cons _ (List.Sublist.refl _)) ⟨congrArg Value.bool e8.symm, G, by rw [e9]; first | done | rfl, by rw [e9]; exact hG⟩

end Go.Proofs.YtjjemehigdpboaaGreat
namespace Go.Proofs.YtjjemehigdpboaaGreat
open Go Go.VV

structure Pl where
  at_ : Int
  by_ : Int
  many : Int
  kind : Int
  size : Int
  x : Value
def cPl (p : Pl) : List Value := [.int .i64 p.at_, .int .i64 p.by_, .int .i64 p.many, .int .i64 p.kind, .int .i64 p.size, p.x]
theorem cPl_len (p : Pl) : (cPl p).length = 6 := rfl
def PlOk (G : Heap) (p : Pl) (q : Pq) : Prop := p.at_ = q.at_ ∧ p.by_ = q.by_ ∧ p.many = q.many ∧ p.kind = q.kind ∧ p.size = q.size ∧ match q.x with
  | none => p.x = .slice none 0 0
  | some xs => ∃ b, p.x = .slice (some ⟨b, 0, none⟩) xs.length xs.length ∧ VV.RowsIn G b 0 (xs.map (Value.int .i64))
def PlsOk (G : Heap) : List Pl → List Pq → Prop
  | [], [] => True
  | p :: ps, q :: qs => PlOk G p q ∧ PlsOk G ps qs
  | _, _ => False
theorem PlsOk.get {G : Heap} : ∀ {ps : List Pl} {qs : List Pq} {k : Nat} {q : Pq}, PlsOk G ps qs → qs[k]? = some q → ∃ p, ps[k]? = some p ∧ PlOk G p q
  | [], [], _, _, _, h => by simp at h
  | p :: ps, q :: qs, 0, _, h, h1 => by
    simp only [List.getElem?_cons_zero, Option.some.injEq] at h1
    subst h1
    exact ⟨p, rfl, h.1⟩
  | p :: ps, q :: qs, k + 1, _, h, h1 => by
    rw [List.getElem?_cons_succ] at h1
    rw [List.getElem?_cons_succ]
    exact PlsOk.get h.2 h1
  | _ :: _, [], _, _, h, _ => h.elim
  | [], _ :: _, _, _, h, _ => h.elim
theorem rowsIn_mem {G : Heap} {b : Nat} {xs : List Value} {T : TypeId} (h : (b, blk xs T) ∈ G) : VV.RowsIn G b 0 xs := fun w hw => Row.all (w := w) (b := b) (hw _ h)
def plL (b4 b5 b6 b10 b48 b59 b65 : Nat) : List Pl := [⟨0, 1, 1, 1, 1, .slice none 0 0⟩, ⟨8, 1, 1, 40, 3, .slice none 0 0⟩, ⟨16, 1, 1, 2, 2, .slice none 0 0⟩, ⟨24, 1, 1, 23, 2, .slice (some ⟨b10, 0, none⟩) 1 1⟩, ⟨32, 8, 4, 23, 2, .slice (some ⟨b5, 0, none⟩) 4 4⟩, ⟨1, 16, 4, 9, 3, .slice (some ⟨b5, 0, none⟩) 4 4⟩, ⟨9, 16, 4, 16, 1, .slice (some ⟨b5, 0, none⟩) 4 4⟩, ⟨2, 16, 4, 33, 1, .slice (some ⟨b5, 0, none⟩) 4 4⟩, ⟨10, 16, 4, 32, 1, .slice (some ⟨b5, 0, none⟩) 4 4⟩, ⟨3, 16, 4, 14, 1, .slice (some ⟨b5, 0, none⟩) 4 4⟩, ⟨11, 16, 4, 15, 1, .slice (some ⟨b5, 0, none⟩) 4 4⟩, ⟨4, 8, 8, 12, 1, .slice (some ⟨b4, 0, none⟩) 8 8⟩, ⟨5, 8, 8, 13, 1, .slice (some ⟨b4, 0, none⟩) 8 8⟩, ⟨6, 8, 8, 8, 2, .slice (some ⟨b4, 0, none⟩) 8 8⟩, ⟨7, 8, 4, 18, 1, .slice (some ⟨b5, 0, none⟩) 4 4⟩, ⟨39, 1, 1, 19, 1, .slice none 0 0⟩, ⟨47, 1, 1, 20, 1, .slice none 0 0⟩, ⟨55, 1, 1, 21, 1, .slice none 0 0⟩, ⟨63, 1, 1, 22, 1, .slice none 0 0⟩, ⟨192, 8, 4, 26, 1, .slice (some ⟨b5, 0, none⟩) 4 4⟩, ⟨224, 1, 1, 35, 2, .slice none 0 0⟩, ⟨232, 1, 1, 41, 2, .slice none 0 0⟩, ⟨240, 1, 1, 34, 2, .slice none 0 0⟩, ⟨248, 1, 1, 42, 2, .slice none 0 0⟩, ⟨193, 16, 4, 31, 1, .slice (some ⟨b6, 0, none⟩) 4 4⟩, ⟨197, 16, 4, 30, 1, .slice (some ⟨b6, 0, none⟩) 4 4⟩, ⟨201, 1, 1, 26, 1, .slice (some ⟨b48, 0, none⟩) 1 1⟩, ⟨217, 1, 1, 27, 1, .slice none 0 0⟩, ⟨233, 1, 1, 29, 1, .slice none 0 0⟩, ⟨249, 1, 1, 43, 1, .slice none 0 0⟩, ⟨194, 8, 4, 24, 3, .slice (some ⟨b5, 0, none⟩) 4 4⟩, ⟨226, 1, 1, 37, 1, .slice none 0 0⟩, ⟨234, 1, 1, 39, 3, .slice none 0 0⟩, ⟨242, 1, 1, 36, 1, .slice none 0 0⟩, ⟨250, 1, 1, 38, 3, .slice none 0 0⟩, ⟨195, 1, 1, 24, 3, .slice (some ⟨b59, 0, none⟩) 1 1⟩, ⟨243, 1, 1, 5, 1, .slice none 0 0⟩, ⟨251, 1, 1, 6, 1, .slice none 0 0⟩, ⟨196, 8, 4, 25, 3, .slice (some ⟨b5, 0, none⟩) 4 4⟩, ⟨205, 1, 1, 25, 3, .slice (some ⟨b65, 0, none⟩) 1 1⟩, ⟨198, 8, 8, 11, 2, .slice (some ⟨b4, 0, none⟩) 8 8⟩]
theorem plL_ok {G : Heap} {b4 b5 b6 b10 b48 b59 b65 : Nat} (r4 : VV.RowsIn G b4 0 (([0, 1, 2, 3, 4, 5, 6, 7] : List Int).map (Value.int .i64))) (r5 : VV.RowsIn G b5 0 (([0, 1, 2, 3] : List Int).map (Value.int .i64)))
    (r6 : VV.RowsIn G b6 0 (([0, 1, 2, 4] : List Int).map (Value.int .i64))) (r10 : VV.RowsIn G b10 0 (([4] : List Int).map (Value.int .i64))) (r48 : VV.RowsIn G b48 0 (([4] : List Int).map (Value.int .i64)))
    (r59 : VV.RowsIn G b59 0 (([4] : List Int).map (Value.int .i64))) (r65 : VV.RowsIn G b65 0 (([4] : List Int).map (Value.int .i64))) : PlsOk G (plL b4 b5 b6 b10 b48 b59 b65) PL :=
  ⟨⟨rfl, rfl, rfl, rfl, rfl, rfl⟩, ⟨rfl, rfl, rfl, rfl, rfl, rfl⟩, ⟨rfl, rfl, rfl, rfl, rfl, rfl⟩, ⟨rfl, rfl, rfl, rfl, rfl, b10, rfl, r10⟩, ⟨rfl, rfl, rfl, rfl, rfl, b5, rfl, r5⟩, ⟨rfl, rfl, rfl, rfl, rfl, b5, rfl, r5⟩, ⟨rfl, rfl, rfl, rfl, rfl, b5, rfl, r5⟩, ⟨rfl, rfl, rfl, rfl, rfl, b5, rfl, r5⟩, ⟨rfl, rfl, rfl, rfl, rfl, b5, rfl, r5⟩, ⟨rfl, rfl, rfl, rfl, rfl, b5, rfl, r5⟩, ⟨rfl, rfl, rfl, rfl, rfl, b5, rfl, r5⟩, ⟨rfl, rfl, rfl, rfl, rfl, b4, rfl, r4⟩, ⟨rfl, rfl, rfl, rfl, rfl, b4, rfl, r4⟩, ⟨rfl, rfl, rfl, rfl, rfl, b4, rfl, r4⟩, ⟨rfl, rfl, rfl, rfl, rfl, b5, rfl, r5⟩, ⟨rfl, rfl, rfl, rfl, rfl, rfl⟩, ⟨rfl, rfl, rfl, rfl, rfl, rfl⟩, ⟨rfl, rfl, rfl, rfl, rfl, rfl⟩, ⟨rfl, rfl, rfl, rfl, rfl, rfl⟩, ⟨rfl, rfl, rfl, rfl, rfl, b5, rfl, r5⟩, ⟨rfl, rfl, rfl, rfl, rfl, rfl⟩, ⟨rfl, rfl, rfl, rfl, rfl, rfl⟩, ⟨rfl, rfl, rfl, rfl, rfl, rfl⟩, ⟨rfl, rfl, rfl, rfl, rfl, rfl⟩, ⟨rfl, rfl, rfl, rfl, rfl, b6, rfl, r6⟩, ⟨rfl, rfl, rfl, rfl, rfl, b6, rfl, r6⟩, ⟨rfl, rfl, rfl, rfl, rfl, b48, rfl, r48⟩, ⟨rfl, rfl, rfl, rfl, rfl, rfl⟩, ⟨rfl, rfl, rfl, rfl, rfl, rfl⟩, ⟨rfl, rfl, rfl, rfl, rfl, rfl⟩, ⟨rfl, rfl, rfl, rfl, rfl, b5, rfl, r5⟩, ⟨rfl, rfl, rfl, rfl, rfl, rfl⟩, ⟨rfl, rfl, rfl, rfl, rfl, rfl⟩, ⟨rfl, rfl, rfl, rfl, rfl, rfl⟩, ⟨rfl, rfl, rfl, rfl, rfl, rfl⟩, ⟨rfl, rfl, rfl, rfl, rfl, b59, rfl, r59⟩, ⟨rfl, rfl, rfl, rfl, rfl, rfl⟩, ⟨rfl, rfl, rfl, rfl, rfl, rfl⟩, ⟨rfl, rfl, rfl, rfl, rfl, b5, rfl, r5⟩, ⟨rfl, rfl, rfl, rfl, rfl, b65, rfl, r65⟩, ⟨rfl, rfl, rfl, rfl, rfl, b4, rfl, r4⟩, trivial⟩
theorem plL_len (b4 b5 b6 b10 b48 b59 b65 : Nat) : (plL b4 b5 b6 b10 b48 b59 b65).length = 41 := rfl
theorem qOp_none {q : Pq} (h : q.x = none) (i : Nat) : qOp q i = ⟨q.kind, 0, 0, q.size, 0⟩ := by unfold qOp; rw [h]
theorem qOp_some {q : Pq} {x : List Int} (h : q.x = some x) (i : Nat) : qOp q i = ⟨q.kind, x.getD i 0, 0, q.size, 0⟩ := by unfold qOp; rw [h]
theorem kind4 (m : Nat) (h : m < 4) : ([.int .i64 17, .int .i64 44, .int .i64 45, .int .i64 46] : List Value)[m]? = some (.int .i64 (([17, 44, 45, 46] : List Int).getD m 0)) := by
  match m, h with
  | 0, _ => rfl
  | 1, _ => rfl
  | 2, _ => rfl
  | 3, _ => rfl
theorem kind4' (m : Nat) (h : m < 4) : ([.int .i64 17, .int .i64 44, .int .i64 45, .int .i64 46] : List Value)[0 + m * 1]? = some (.int .i64 (([17, 44, 45, 46] : List Int).getD m 0)) := by
  rw [Nat.zero_add, Nat.mul_one]; exact kind4 m h
theorem shr_nat {i k : Nat} (h : k ≤ 64) : shr .i64 (i : Int) (k : Int) = ((i / 2 ^ k : Nat) : Int) := by
  unfold shr
  have e1 : min (k : Int).toNat IntKind.i64.bits = k := by
    have : IntKind.i64.bits = 64 := rfl
    rw [this]; omega
  rw [e1, Int.fdiv_eq_ediv_of_nonneg _ (Int.le_of_lt (Int.pow_pos (by decide)))]
  simp
theorem and7 {m : Nat} (h : m < 1000000) : band .i64 (m : Int) 7 = ((m % 8 : Nat) : Int) := by
  unfold band
  have h1 : (BitVec.ofInt IntKind.i64.bits (m : Int) &&& BitVec.ofInt IntKind.i64.bits 7).toNat = m % 8 := by
    have e1 : BitVec.ofInt IntKind.i64.bits (m : Int) = BitVec.ofNat 64 m := by simp [IntKind.bits]
    have e2 : BitVec.ofInt IntKind.i64.bits 7 = BitVec.ofNat 64 7 := rfl
    rw [e1, e2]
    have e3 : (BitVec.ofNat 64 m &&& BitVec.ofNat 64 7).toNat = (m % 18446744073709551616) &&& 7 := by simp
    have e4 : (m % 18446744073709551616) &&& 7 = m % 18446744073709551616 % 8 := Nat.and_two_pow_sub_one_eq_mod _ 3
    exact e3.trans (by rw [e4]; omega)
  rw [h1, wrap_i64 (by omega) (by omega)]
end Go.Proofs.YtjjemehigdpboaaGreat
