/- The document's orders: what each does. -/
import Derived.Test.YtjjemehigdpboaaGreatMgC
import Derived.Test.YtjjemehigdpboaaGreatMgF
import Derived.Test.YtjjemehigdpboaaGreatMgJ
import Derived.Test.YtjjemehigdpboaaGreatMgK
namespace Go.Proofs.YtjjemehigdpboaaGreat
open Go Go.VV Go.Proofs
set_option linter.unusedSimpArgs false
set_option linter.unusedVariables false
set_option maxRecDepth 100000
set_option maxHeartbeats 8000000 in
theorem qdone_fn {β : Type} (K : MemK Tryz.prog β) (sb : Nat) {bn : Nat} (x : Rn β) (h : RunOk K.toBusO (bn + 4) x) (G : Heap) (hG : K.rep x.m G) (o : Opr) (ho : OpOk o) (hfr8 : o.kind = 32 ∨ o.kind = 33 → o.x < 4) (at_ : Int) (hat : 0 ≤ at_ ∧ at_ < 65536) (w : World) (hst : St w (sb :: G.map (·.1)) ((sb, blk (cS x.s) 26) :: G) w) : Does Tryz.prog 24 [.pointer (some ⟨sb, 0, none⟩), .pointer (some ⟨K.p, 0, none⟩), .agg (cO o).toArray, .int .u16 at_] w (sb :: G.map (·.1)) (fun v H => v = .bool (ordT K.toBusA o at_ x).1 ∧ StaH K sb (ordT K.toBusA o at_ x).2 H) := by
 have hn9 := ho.n
 have hs89 : -128 ≤ s8 (o.n % 256) ∧ s8 (o.n % 256) < 128 := by unfold s8; split <;> omega
 have hs9 := h.r.sp
 have ha9 := h.r.a
 have hf9 := h.r.f
 have hc9 := h.r.c
 have hpc9 := h.r.pc
 have hp29 := pairR_word h.r 2
 have hpx9 := pairR_word h.r o.x
 have hgy9 := (h.le o_m : RunOk K.toBusO (bn + 3 + 1) x).gett o.y
 have hgx9 := (h.le o_m : RunOk K.toBusO (bn + 3 + 1) x).gett o.x
 have hfa9 := h.far o.x
 have hpp9 := (h.le o_m : RunOk K.toBusO (bn + 2) x).pop
 refine does_of Tryz.func24 rfl rfl rfl hst ?_
 refine c_seq ?_
 refine c_region ?_
 refine l_x (x_box (l := cO o) rfl rfl) rfl rfl ?_
 rintro _ _ ⟨b6, rfl, rfl⟩
 refine RL ?_
 refine l_nil ?_
 refine c_seq ?_
 refine c_region ?_
 refine RL ?_
 refine RL ?_
 refine RLa ?_
 refine RLa ?_
 refine RLo ?_
 refine RL ?_
 refine l_nil ?_
 refine c_seq ?_
 refine c_region ?_
 refine RL ?_
 refine RLv call_34 (fun w hw => qZ_fn x.s.r.f h.r.f w) ?_
 refine RL ?_
 refine RLv call_35 (fun w hw => qC_fn x.s.r.f h.r.f w) ?_
 refine RL ?_
 refine RL ?_
 refine l_nil ?_
 refine c_seq ?_
 refine c_region ?_
 refine RLa ?_
 refine RLo ?_
 refine l_as (rem_pos rfl rfl (by decide)) rfl rfl (by first | exact as_rem o_m | rfl) ?_
 refine l_as (l_conv rfl rfl rfl) rfl rfl (by first | exact as_u8 o_m o_m | exact as_u8m _) ?_
 refine RL ?_
 refine l_nil ?_
 refine c_seq ?_
 refine c_draw [(b6, blk (cO o) 47), (sb, blk (cS x.s) 26)] [4, 5] (.step true 0 (.step true 1 (.step true 2 (.step true 3 (.step true 4 (.step true 5 (.step false 6 (.step true 7 .done)))))))) rfl (by kernel_rfl) (by kernel_rfl) (fun x hx => (List.mem_cons.1 hx).elim (fun h => by rw [h]; exact .head _) (fun h => by rw [List.mem_singleton.1 h]; exact .tail _ (.head _))) ?_
 refine RD ?_
 refine RD ?_
 refine RDa ?_
 refine d_loadA rfl rfl rfl rfl (fun w hw => Row.left (srow_own (l := cS x.s) m_m w hw)) rfl rfl ?_
 refine RDa ?_
 refine RDo ?_
 refine d_x rfl (x_val call_36 rfl (fun w hw => qis_fn x.s.r h.r o.x w)) rfl rfl n_h ?_
 rintro _ _ ⟨rfl, rfl⟩
 refine RD ?_
 refine d_nil ?_
 refine c_seq ?_
 refine c_seq ?_
 refine c_region ?_
 refine RLa ?_
 refine RLo ?_
 refine l_nil ?_
 refine c_block ?_
 refine c_seq ?_
 refine c_region ?_
 refine RL ?_
 refine RL ?_
 refine l_nil ?_
 refine c_cond rfl (fun h1 => ?_) (fun h1 => ?_)
 ·have h1n := r_f h1
  refine c_region ?_
  refine RL ?_
  refine RL ?_
  refine RLa ?_
  refine l_x (x_storeTo (l' := cS { x.s with stop := true }) 1 rfl rfl rfl rfl rfl rfl (Nat.le_of_ble_eq_true rfl) rfl) rfl rfl ?_
  rintro _ _ ⟨rfl, rfl⟩
  refine c_u ?_
  refine l_nil ?_
  refine c_seq ?_
  refine c_region ?_
  refine RL ?_
  refine l_nil ?_
  refine c_ret ?_
  have hk : o.kind = 2 := by omega
  have e9 : ordT K.toBusA o at_ x = (true, ⟨{ x.s with stop := true }, x.m⟩) := by unfold ordT effB effW effP place; rw [hk]; rfl
  exact l_end (fun _ _ => rets_v rfl) (.cons _ (List.Sublist.refl _)) ⟨by rw [e9], G, by rw [e9]; first | done | rfl | (rw [gett_mem]; rfl), by rw [e9]; first | exact hG | (rw [gett_mem]; exact hG)⟩
 ·have h1n := r_f h1
  refine c_seq ?_
  refine c_region ?_
  refine RL ?_
  refine RL ?_
  refine l_nil ?_
  refine c_cond rfl (fun h2 => ?_) (fun h2 => ?_)
  ·have h2n := r_f h2
   refine c_region ?_
   refine RL ?_
   refine RL ?_
   refine RLa ?_
   refine l_x (x_storeTo (l' := cS { x.s with halt := true }) 1 rfl rfl rfl rfl rfl rfl (Nat.le_of_ble_eq_true rfl) rfl) rfl rfl ?_
   rintro _ _ ⟨rfl, rfl⟩
   refine c_u ?_
   refine l_nil ?_
   refine c_seq ?_
   refine c_region ?_
   refine RL ?_
   refine l_nil ?_
   refine c_ret ?_
   have hk : o.kind = 3 := by omega
   have e9 : ordT K.toBusA o at_ x = (true, ⟨{ x.s with halt := true }, x.m⟩) := by unfold ordT effB effW effP place; rw [hk]; rfl
   exact l_end (fun _ _ => rets_v rfl) (.cons _ (List.Sublist.refl _)) ⟨by rw [e9], G, by rw [e9]; first | done | rfl | (rw [gett_mem]; rfl), by rw [e9]; first | exact hG | (rw [gett_mem]; exact hG)⟩
  ·have h2n := r_f h2
   refine c_seq ?_
   refine c_region ?_
   refine RL ?_
   refine RL ?_
   refine l_nil ?_
   refine c_cond rfl (fun h3 => ?_) (fun h3 => ?_)
   ·have h3n := r_f h3
    refine c_region ?_
    iterate 3 refine RL ?_
    refine RLa ?_
    refine RLa ?_
    refine l_x (x_storeTo (l' := cS { x.s with r := { x.s.r with pc := at_ } }) 1 rfl rfl rfl rfl rfl rfl (Nat.le_of_ble_eq_true rfl) rfl) rfl rfl ?_
    rintro _ _ ⟨rfl, rfl⟩
    refine c_u ?_
    refine l_nil ?_
    refine c_seq ?_
    refine c_region ?_
    refine RL ?_
    refine l_nil ?_
    refine c_ret ?_
    have hk : o.kind = 4 := by omega
    have e9 : ordT K.toBusA o at_ x = (true, goto at_ x) := by unfold ordT effB effW effP place; rw [hk]; rfl
    exact l_end (fun _ _ => rets_v rfl) (.cons _ (List.Sublist.refl _)) ⟨by rw [e9], G, by rw [e9]; first | done | rfl | (rw [gett_mem]; rfl), by rw [e9]; first | exact hG | (rw [gett_mem]; exact hG)⟩
   ·have h3n := r_f h3
    refine c_seq ?_
    refine c_region ?_
    refine RL ?_
    refine RL ?_
    refine l_nil ?_
    refine c_cond rfl (fun h4 => ?_) (fun h4 => ?_)
    ·have h4n := r_f h4
     refine c_region ?_
     refine RL ?_
     refine RL ?_
     refine RLa ?_
     refine l_x (x_storeTo (l' := cS { x.s with ime := false }) 1 rfl rfl rfl rfl rfl rfl (Nat.le_of_ble_eq_true rfl) rfl) rfl rfl ?_
     rintro _ _ ⟨rfl, rfl⟩
     refine c_u ?_
     refine l_nil ?_
     refine c_seq ?_
     refine c_region ?_
     refine RL ?_
     refine l_nil ?_
     refine c_ret ?_
     have hk : o.kind = 5 := by omega
     have e9 : ordT K.toBusA o at_ x = (true, ⟨{ x.s with ime := false }, x.m⟩) := by unfold ordT effB effW effP place; rw [hk]; rfl
     exact l_end (fun _ _ => rets_v rfl) (.cons _ (List.Sublist.refl _)) ⟨by rw [e9], G, by rw [e9]; first | done | rfl | (rw [gett_mem]; rfl), by rw [e9]; first | exact hG | (rw [gett_mem]; exact hG)⟩
    ·have h4n := r_f h4
     refine c_seq ?_
     refine c_region ?_
     refine RL ?_
     refine RL ?_
     refine l_nil ?_
     refine c_cond rfl (fun h5 => ?_) (fun h5 => ?_)
     ·have h5n := r_f h5
      refine c_region ?_
      refine RL ?_
      refine RL ?_
      refine RLa ?_
      refine l_x (x_storeTo (l' := cS { x.s with soon := true }) 1 rfl rfl rfl rfl rfl rfl (Nat.le_of_ble_eq_true rfl) rfl) rfl rfl ?_
      rintro _ _ ⟨rfl, rfl⟩
      refine c_u ?_
      refine l_nil ?_
      refine c_seq ?_
      refine c_region ?_
      refine RL ?_
      refine l_nil ?_
      refine c_ret ?_
      have hk : o.kind = 6 := by omega
      have e9 : ordT K.toBusA o at_ x = (true, ⟨{ x.s with soon := true }, x.m⟩) := by unfold ordT effB effW effP place; rw [hk]; rfl
      exact l_end (fun _ _ => rets_v rfl) (.cons _ (List.Sublist.refl _)) ⟨by rw [e9], G, by rw [e9]; first | done | rfl | (rw [gett_mem]; rfl), by rw [e9]; first | exact hG | (rw [gett_mem]; exact hG)⟩
     ·have h5n := r_f h5
      refine c_seq ?_
      refine c_region ?_
      refine RL ?_
      refine RL ?_
      refine l_nil ?_
      refine c_cond rfl (fun h6 => ?_) (fun h6 => ?_)
      ·have h6n := r_f h6
       refine c_draw [(b6, blk (cO o) 47)] [4, 5, 6, 7, 8] (.step true 0 (.step true 1 (.step true 2 (.step true 3 (.step true 4 (.step true 5 (.step true 6 (.step true 7 (.step false 8 (.step false 9 .done)))))))))) rfl (by kernel_rfl) (by kernel_rfl) (fun x hx => by obtain rfl := List.mem_singleton.1 hx; exact .head _) ?_
       refine RD ?_
       refine RD ?_
       refine RDa ?_
       refine RDo ?_
       refine RD ?_
       refine RD ?_
       refine RDa ?_
       refine RDo ?_
       refine d_x rfl (x_callT (F := [(b6, _)]) (A := (sb, _) :: _) call_38 rfl (fun w hw => qsget_fn K sb x (h.le o_m : RunOk K.toBusO (bn + 4) x) G hG o.y w (St.lentV hw))) rfl rfl (by intro _ _ _ hK x hx; obtain ⟨_, ⟨rfl, G1, rfl, hG1⟩, rfl⟩ := hK; repeat (first | exact hx | exact List.mem_append_left _ hx | refine List.mem_append_right _ ?_ | refine .tail _ ?_)) ?_
       rintro _ _ ⟨_, ⟨rfl, G1, rfl, hG1⟩, rfl⟩
       refine d_x rfl (x_callT (F := [(b6, _)]) (A := (sb, _) :: _) call_37 rfl (fun w hw => qsset_fn K sb (x.mem (gett K.toBusA o.y x).2.m) (RunOk.gmem (h.le o_m : RunOk K.toBusO (bn + 3) x) o.y) G1 hG1 o.x (gett K.toBusA o.y x).1 hgy9.2 w (St.lentV hw))) rfl rfl n_h ?_
       rintro _ _ ⟨_, ⟨rfl, G2, rfl, hG2⟩, rfl⟩
       refine d_nil ?_
       refine c_seq ?_
       refine c_region ?_
       refine RL ?_
       refine l_nil ?_
       refine c_ret ?_
       have hk : o.kind = 7 := by omega
       have e9 : ordT K.toBusA o at_ x = (true, sett K.toBusA o.x (gett K.toBusA o.y x).1 (gett K.toBusA o.y x).2) := by unfold ordT effB effW effP place; rw [hk]; rfl
       exact l_end (fun _ _ => rets_v rfl) (.cons _ (List.Sublist.refl _)) ⟨by rw [e9], G2, by rw [e9]; first | done | rfl | (rw [gett_mem]; rfl), by rw [e9]; first | exact hG2 | (rw [gett_mem]; exact hG2)⟩
      ·have h6n := r_f h6
       refine c_seq ?_
       refine c_region ?_
       refine RL ?_
       refine RL ?_
       refine l_nil ?_
       refine c_cond rfl (fun h7 => ?_) (fun h7 => ?_)
       ·have h7n := r_f h7
        refine c_region ?_
        refine RL ?_
        refine RL ?_
        refine RLa ?_
        refine RLo ?_
        refine RL ?_
        refine l_x (x_callT (F := [(b6, _)]) (A := (sb, _) :: _) call_37 rfl (fun w hw => qsset_fn K sb x (h.le o_m : RunOk K.toBusO (bn + 1) x) G hG o.x (o.n % 256) o_m w (St.lentV hw))) rfl rfl ?_
        rintro _ _ ⟨_, ⟨rfl, G1, rfl, hG1⟩, rfl⟩
        refine l_nil ?_
        refine c_seq ?_
        refine c_region ?_
        refine RL ?_
        refine l_nil ?_
        refine c_ret ?_
        have hk : o.kind = 8 := by omega
        have e9 : ordT K.toBusA o at_ x = (true, sett K.toBusA o.x (o.n % 256) x) := by unfold ordT effB effW effP place; rw [hk]; rfl
        exact l_end (fun _ _ => rets_v rfl) (.cons _ (List.Sublist.refl _)) ⟨by rw [e9], G1, by rw [e9]; first | done | rfl | (rw [gett_mem]; rfl), by rw [e9]; first | exact hG1 | (rw [gett_mem]; exact hG1)⟩
       ·have h7n := r_f h7
        refine c_seq ?_
        refine c_region ?_
        refine RL ?_
        refine RL ?_
        refine l_nil ?_
        refine c_cond rfl (fun h8 => ?_) (fun h8 => ?_)
        ·have h8n := r_f h8
         refine c_draw [(b6, blk (cO o) 47), (sb, blk (cS x.s) 26)] [5, 6, 7, 8] (.step true 0 (.step true 1 (.step true 2 (.step true 3 (.step true 4 (.step true 5 (.step true 6 (.step true 7 (.step true 8 (.step false 9 (.step true 10 (.step true 11 (.step true 12 (.step true 13 (.step true 14 (.step false 15 .done)))))))))))))))) rfl (by kernel_rfl) (by kernel_rfl) (fun x hx => (List.mem_cons.1 hx).elim (fun h => by rw [h]; exact .head _) (fun h => by rw [List.mem_singleton.1 h]; exact .tail _ (.head _))) ?_
         iterate 3 refine RD ?_
         refine RDa ?_
         refine d_loadA rfl rfl rfl rfl (fun w hw => Row.left (srow_own (l := cS x.s) m_m w hw)) rfl rfl ?_
         refine RDa ?_
         refine RDo ?_
         refine RDa ?_
         refine RDo ?_
         refine d_x rfl (x_call call_39 rfl (fun w hw => qsetPair_fn x.s.r o.x o.n ho.n w)) rfl rfl n_h ?_
         rintro _ _ ⟨G111, ⟨rfl, k111, rfl⟩, rfl⟩
         refine d_mv rfl (vnf_eq rfl) rfl rfl ?_
         iterate 3 refine RD ?_
         refine RDa ?_
         refine d_x rfl (x_storeTo (l' := cS { x.s with r := setPR x.s.r o.x o.n }) 1 rfl rfl rfl rfl rfl rfl (Nat.le_of_ble_eq_true rfl) rfl) rfl rfl n_h ?_
         rintro _ _ ⟨rfl, rfl⟩
         refine c_u ?_
         refine d_nil ?_
         refine c_seq ?_
         refine c_region ?_
         refine RL ?_
         refine l_nil ?_
         refine c_ret ?_
         have hk : o.kind = 9 := by omega
         have e9 : ordT K.toBusA o at_ x = (true, x.reg (setPR x.s.r o.x o.n)) := by unfold ordT effB effW effP place; rw [hk]; rfl
         exact l_end (fun _ _ => rets_v rfl) (.cons _ (List.Sublist.refl _)) ⟨by rw [e9], G, by rw [e9]; first | done | rfl | (rw [gett_mem]; rfl), by rw [e9]; first | exact hG | (rw [gett_mem]; exact hG)⟩
        ·have h8n := r_f h8
         refine c_seq ?_
         refine c_region ?_
         refine RL ?_
         refine RL ?_
         refine l_nil ?_
         refine c_cond rfl (fun h9 => ?_) (fun h9 => ?_)
         ·have h9n := r_f h9
          refine c_draw [(b6, blk (cO o) 47)] [3, 4, 5, 6, 7] (.step true 0 (.step true 1 (.step true 2 (.step true 3 (.step true 4 (.step true 5 (.step true 6 (.step false 7 (.step false 8 .done))))))))) rfl (by kernel_rfl) (by kernel_rfl) (fun x hx => by obtain rfl := List.mem_singleton.1 hx; exact .head _) ?_
          refine RD ?_
          refine RDa ?_
          refine RDo ?_
          refine RD ?_
          refine RD ?_
          refine RDa ?_
          refine RDo ?_
          refine d_x rfl (x_callT (F := [(b6, _)]) (A := (sb, _) :: _) call_38 rfl (fun w hw => qsget_fn K sb x (h.le o_m : RunOk K.toBusO (bn + 4) x) G hG o.y w (St.lentV hw))) rfl rfl (by intro _ _ _ hK x hx; obtain ⟨_, ⟨rfl, G1, rfl, hG1⟩, rfl⟩ := hK; repeat (first | exact hx | exact List.mem_append_left _ hx | refine List.mem_append_right _ ?_ | refine .tail _ ?_)) ?_
          rintro _ _ ⟨_, ⟨rfl, G1, rfl, hG1⟩, rfl⟩
          refine d_x rfl (x_callT (F := [(b6, _)]) (A := (sb, _) :: _) call_40 rfl (fun w hw => qssum_fn sb x.s h.r o.x (gett K.toBusA o.y x).1 hgy9.2 G1 w (St.lentV hw))) rfl rfl n_h ?_
          rintro _ _ ⟨_, ⟨rfl, rfl⟩, rfl⟩
          refine d_nil ?_
          refine c_seq ?_
          refine c_region ?_
          refine RL ?_
          refine l_nil ?_
          refine c_ret ?_
          have hk : o.kind = 10 := by omega
          have e9 : ordT K.toBusA o at_ x = (true, (gett K.toBusA o.y x).2.reg (sumR (gett K.toBusA o.y x).2.s.r o.x (gett K.toBusA o.y x).1)) := by unfold ordT effB effW effP place; rw [hk]; rfl
          exact l_end (fun _ _ => rets_v rfl) (.cons _ (List.Sublist.refl _)) ⟨by rw [e9], G1, by rw [e9]; first | done | rfl | (rw [gett_mem]; rfl), by rw [e9]; first | exact hG1 | (rw [gett_mem]; exact hG1)⟩
         ·have h9n := r_f h9
          refine c_seq ?_
          refine c_region ?_
          refine RL ?_
          refine RL ?_
          refine l_nil ?_
          refine c_cond rfl (fun h10 => ?_) (fun h10 => ?_)
          ·have h10n := r_f h10
           refine c_region ?_
           refine RL ?_
           refine RLa ?_
           refine RLo ?_
           refine RL ?_
           refine l_x (x_callT (F := [(b6, _)]) (A := (sb, _) :: _) call_40 rfl (fun w hw => qssum_fn sb x.s h.r o.x (o.n % 256) o_m G w (St.lentV hw))) rfl rfl ?_
           rintro _ _ ⟨_, ⟨rfl, rfl⟩, rfl⟩
           refine l_nil ?_
           refine c_seq ?_
           refine c_region ?_
           refine RL ?_
           refine l_nil ?_
           refine c_ret ?_
           have hk : o.kind = 11 := by omega
           have e9 : ordT K.toBusA o at_ x = (true, x.reg (sumR x.s.r o.x (o.n % 256))) := by unfold ordT effB effW effP place; rw [hk]; rfl
           exact l_end (fun _ _ => rets_v rfl) (.cons _ (List.Sublist.refl _)) ⟨by rw [e9], G, by rw [e9]; first | done | rfl | (rw [gett_mem]; rfl), by rw [e9]; first | exact hG | (rw [gett_mem]; exact hG)⟩
          ·have h10n := r_f h10
           refine c_seq ?_
           refine c_region ?_
           refine RL ?_
           refine RL ?_
           refine l_nil ?_
           refine c_cond rfl (fun h11 => ?_) (fun h11 => ?_)
           ·have h11n := r_f h11
            refine c_seq ?_
            refine c_region ?_
            refine RL ?_
            refine RL ?_
            refine RLa ?_
            refine RLo ?_
            refine l_x (x_callT (F := [(b6, _)]) (A := (sb, _) :: _) call_38 rfl (fun w hw => qsget_fn K sb x (h.le o_m : RunOk K.toBusO (bn + 4) x) G hG o.x w (St.lentV hw))) rfl rfl ?_
            rintro _ _ ⟨_, ⟨rfl, G1, rfl, hG1⟩, rfl⟩
            refine RL ?_
            refine RLv call_41 (fun w hw => qinc_fn (gett K.toBusA o.x x).1 x.s.r.f hgx9.2 h.r.f w) ?_
            iterate 5 refine RL ?_
            refine l_nil ?_
            refine c_seq ?_
            refine c_region ?_
            refine RL ?_
            refine RL ?_
            refine RLa ?_
            refine RLo ?_
            refine RL ?_
            refine l_x (x_callT (F := [(b6, _)]) (A := (sb, _) :: _) call_37 rfl (fun w hw => qsset_fn K sb (x.mem (gett K.toBusA o.x x).2.m) (RunOk.gmem (h.le o_m : RunOk K.toBusO (bn + 3) x) o.x) G1 hG1 o.x (incR (gett K.toBusA o.x x).1) incR_ok w (St.lentV hw))) rfl rfl ?_
            rintro _ _ ⟨_, ⟨rfl, G2, rfl, hG2⟩, rfl⟩
            refine l_nil ?_
            refine c_region ?_
            iterate 3 refine RL ?_
            refine RLa ?_
            refine RLa ?_
            refine l_x (x_storeTo (l' := cS { (sett K.toBusA o.x (incR (gett K.toBusA o.x x).1) (x.mem (gett K.toBusA o.x x).2.m)).s with r := { (sett K.toBusA o.x (incR (gett K.toBusA o.x x).1) (x.mem (gett K.toBusA o.x x).2.m)).s.r with f := incF (gett K.toBusA o.x x).1 x.s.r.f } }) 1 rfl rfl rfl rfl rfl rfl (Nat.le_of_ble_eq_true rfl) rfl) rfl rfl ?_
            rintro _ _ ⟨rfl, rfl⟩
            refine c_u ?_
            refine l_nil ?_
            refine c_seq ?_
            refine c_region ?_
            refine RL ?_
            refine l_nil ?_
            refine c_ret ?_
            have hk : o.kind = 12 := by omega
            have e9 : ordT K.toBusA o at_ x = (true, (sett K.toBusA o.x (incR (gett K.toBusA o.x x).1) (x.mem (gett K.toBusA o.x x).2.m)).reg { (sett K.toBusA o.x (incR (gett K.toBusA o.x x).1) (x.mem (gett K.toBusA o.x x).2.m)).s.r with f := incF (gett K.toBusA o.x x).1 x.s.r.f }) := by
             unfold ordT effB; rw [hk]
             show (true, change K.toBusA o.x (fun v f => (incR v, incF v f)) x) = _
             unfold change; dsimp only; rw [gett_mem]; rfl
            exact l_end (fun _ _ => rets_v rfl) (.cons _ (List.Sublist.refl _)) ⟨by rw [e9], G2, by rw [e9]; first | done | rfl, by rw [e9]; exact hG2⟩
           ·have h11n := r_f h11
            refine c_seq ?_
            refine c_region ?_
            refine RL ?_
            refine RL ?_
            refine l_nil ?_
            refine c_cond rfl (fun h12 => ?_) (fun h12 => ?_)
            ·have h12n := r_f h12
             refine c_seq ?_
             refine c_region ?_
             refine RL ?_
             refine RL ?_
             refine RLa ?_
             refine RLo ?_
             refine l_x (x_callT (F := [(b6, _)]) (A := (sb, _) :: _) call_38 rfl (fun w hw => qsget_fn K sb x (h.le o_m : RunOk K.toBusO (bn + 4) x) G hG o.x w (St.lentV hw))) rfl rfl ?_
             rintro _ _ ⟨_, ⟨rfl, G1, rfl, hG1⟩, rfl⟩
             refine RL ?_
             refine RLv call_42 (fun w hw => qdec_fn (gett K.toBusA o.x x).1 x.s.r.f hgx9.2 h.r.f w) ?_
             iterate 5 refine RL ?_
             refine l_nil ?_
             refine c_seq ?_
             refine c_region ?_
             refine RL ?_
             refine RL ?_
             refine RLa ?_
             refine RLo ?_
             refine RL ?_
             refine l_x (x_callT (F := [(b6, _)]) (A := (sb, _) :: _) call_37 rfl (fun w hw => qsset_fn K sb (x.mem (gett K.toBusA o.x x).2.m) (RunOk.gmem (h.le o_m : RunOk K.toBusO (bn + 3) x) o.x) G1 hG1 o.x (decR (gett K.toBusA o.x x).1) decR_ok w (St.lentV hw))) rfl rfl ?_
             rintro _ _ ⟨_, ⟨rfl, G2, rfl, hG2⟩, rfl⟩
             refine l_nil ?_
             refine c_region ?_
             iterate 3 refine RL ?_
             refine RLa ?_
             refine RLa ?_
             refine l_x (x_storeTo (l' := cS { (sett K.toBusA o.x (decR (gett K.toBusA o.x x).1) (x.mem (gett K.toBusA o.x x).2.m)).s with r := { (sett K.toBusA o.x (decR (gett K.toBusA o.x x).1) (x.mem (gett K.toBusA o.x x).2.m)).s.r with f := decF (gett K.toBusA o.x x).1 x.s.r.f } }) 1 rfl rfl rfl rfl rfl rfl (Nat.le_of_ble_eq_true rfl) rfl) rfl rfl ?_
             rintro _ _ ⟨rfl, rfl⟩
             refine c_u ?_
             refine l_nil ?_
             refine c_seq ?_
             refine c_region ?_
             refine RL ?_
             refine l_nil ?_
             refine c_ret ?_
             have hk : o.kind = 13 := by omega
             have e9 : ordT K.toBusA o at_ x = (true, (sett K.toBusA o.x (decR (gett K.toBusA o.x x).1) (x.mem (gett K.toBusA o.x x).2.m)).reg { (sett K.toBusA o.x (decR (gett K.toBusA o.x x).1) (x.mem (gett K.toBusA o.x x).2.m)).s.r with f := decF (gett K.toBusA o.x x).1 x.s.r.f }) := by
              unfold ordT effB; rw [hk]
              show (true, change K.toBusA o.x (fun v f => (decR v, decF v f)) x) = _
              unfold change; dsimp only; rw [gett_mem]; rfl
             exact l_end (fun _ _ => rets_v rfl) (.cons _ (List.Sublist.refl _)) ⟨by rw [e9], G2, by rw [e9]; first | done | rfl, by rw [e9]; exact hG2⟩
            ·have h12n := r_f h12
             refine c_seq ?_
             refine c_region ?_
             refine RL ?_
             refine RL ?_
             refine l_nil ?_
             refine c_cond rfl (fun h13 => ?_) (fun h13 => ?_)
             ·have h13n := r_f h13
              refine c_seq ?_
              refine c_draw [(b6, blk (cO o) 47), (sb, blk (cS x.s) 26)] [5, 6, 7, 8, 9, 10, 11, 12, 13] (.step true 0 (.step true 1 (.step true 2 (.step true 3 (.step true 4 (.step true 5 (.step true 6 (.step true 7 (.step true 8 (.step true 9 (.step false 10 (.step true 11 (.step true 12 (.step false 13 (.step false 14 (.step true 15 (.step true 16 (.step true 17 (.step true 18 (.step true 19 (.step false 20 .done))))))))))))))))))))) rfl (by kernel_rfl) (by kernel_rfl) (fun x hx => (List.mem_cons.1 hx).elim (fun h => by rw [h]; exact .head _) (fun h => by rw [List.mem_singleton.1 h]; exact .tail _ (.head _))) ?_
              iterate 3 refine RD ?_
              refine RDa ?_
              refine d_loadA rfl rfl rfl rfl (fun w hw => Row.left (srow_own (l := cS x.s) m_m w hw)) rfl rfl ?_
              refine RDa ?_
              refine RDo ?_
              refine RD ?_
              refine RDa ?_
              refine RDo ?_
              refine d_x rfl (x_val call_43 rfl (fun w hw => qspair_fn sb x.s h.r w (row_own (l := cS x.s) m_m w hw) o.x)) rfl rfl (by intro _ _ _ hK x hx; obtain ⟨rfl, rfl⟩ := hK; repeat (first | exact hx | exact List.mem_append_left _ hx | refine List.mem_append_right _ ?_ | refine .tail _ ?_)) ?_
              rintro _ _ ⟨rfl, rfl⟩
              refine d_as rfl (l_conv rfl rfl rfl) rfl rfl rfl (by first | exact as_i64 o_m o_m | rfl) ?_
              refine d_as rfl (l_add rfl rfl) rfl rfl rfl (by first | exact as_i64 o_m o_m | rfl) ?_
              refine d_x rfl (x_val call_22 rfl (fun w hw => qwordN_fn ((pairR x.s.r o.x) + 1) o_m w)) rfl rfl (by intro _ _ _ hK x hx; obtain ⟨rfl, rfl⟩ := hK; repeat (first | exact hx | exact List.mem_append_left _ hx | refine List.mem_append_right _ ?_ | refine .tail _ ?_)) ?_
              rintro _ _ ⟨rfl, rfl⟩
              refine d_x rfl (x_call call_39 rfl (fun w hw => qsetPair_fn x.s.r o.x (inc16 (pairR x.s.r o.x)) inc16_ok w)) rfl rfl n_h ?_
              rintro _ _ ⟨G197, ⟨rfl, k197, rfl⟩, rfl⟩
              refine d_mv rfl (vnf_eq rfl) rfl rfl ?_
              iterate 3 refine RD ?_
              refine RDa ?_
              refine d_x rfl (x_storeTo (l' := cS (x.reg (setPR x.s.r o.x (inc16 (pairR x.s.r o.x)))).s) 1 rfl rfl rfl rfl rfl rfl (Nat.le_of_ble_eq_true rfl) rfl) rfl rfl n_h ?_
              rintro _ _ ⟨rfl, rfl⟩
              refine c_u ?_
              refine d_nil ?_
              refine c_region ?_
              refine RL ?_
              refine l_x (x_callT (F := [(b6, _), (sb, _)]) (A := G) call_17 rfl (fun w hw => qidle_fn K x.m (h.le o_m : RunOk K.toBusO (bn + 1) x).m G hG w (St.lentV hw))) rfl rfl ?_
              rintro _ _ ⟨G1, ⟨rfl, hG1⟩, rfl⟩
              refine l_nil ?_
              refine c_seq ?_
              refine c_region ?_
              refine RL ?_
              refine l_nil ?_
              refine c_ret ?_
              have hk : o.kind = 14 := by omega
              have e9 : ordT K.toBusA o at_ x = (true, idles K.toBusA 1 (x.reg (setPR x.s.r o.x (inc16 (pairR x.s.r o.x))))) := by unfold ordT effB effW effP place; rw [hk]; rfl
              exact l_end (fun _ _ => rets_v rfl) (.cons _ (List.Sublist.refl _)) ⟨by rw [e9], G1, by rw [e9]; first | done | rfl | (rw [gett_mem]; rfl), by rw [e9]; first | exact hG1 | (rw [gett_mem]; exact hG1)⟩
             ·have h13n := r_f h13
              refine c_seq ?_
              refine c_region ?_
              refine RL ?_
              refine RL ?_
              refine l_nil ?_
              refine c_cond rfl (fun h14 => ?_) (fun h14 => ?_)
              ·have h14n := r_f h14
               refine c_seq ?_
               refine c_draw [(b6, blk (cO o) 47), (sb, blk (cS x.s) 26)] [5, 6, 7, 8, 9, 10, 11, 12, 13] (.step true 0 (.step true 1 (.step true 2 (.step true 3 (.step true 4 (.step true 5 (.step true 6 (.step true 7 (.step true 8 (.step true 9 (.step false 10 (.step true 11 (.step true 12 (.step false 13 (.step false 14 (.step true 15 (.step true 16 (.step true 17 (.step true 18 (.step true 19 (.step false 20 .done))))))))))))))))))))) rfl (by kernel_rfl) (by kernel_rfl) (fun x hx => (List.mem_cons.1 hx).elim (fun h => by rw [h]; exact .head _) (fun h => by rw [List.mem_singleton.1 h]; exact .tail _ (.head _))) ?_
               iterate 3 refine RD ?_
               refine RDa ?_
               refine d_loadA rfl rfl rfl rfl (fun w hw => Row.left (srow_own (l := cS x.s) m_m w hw)) rfl rfl ?_
               refine RDa ?_
               refine RDo ?_
               refine RD ?_
               refine RDa ?_
               refine RDo ?_
               refine d_x rfl (x_val call_43 rfl (fun w hw => qspair_fn sb x.s h.r w (row_own (l := cS x.s) m_m w hw) o.x)) rfl rfl (by intro _ _ _ hK x hx; obtain ⟨rfl, rfl⟩ := hK; repeat (first | exact hx | exact List.mem_append_left _ hx | refine List.mem_append_right _ ?_ | refine .tail _ ?_)) ?_
               rintro _ _ ⟨rfl, rfl⟩
               refine d_as rfl (l_conv rfl rfl rfl) rfl rfl rfl (by first | exact as_i64 o_m o_m | rfl) ?_
               refine d_as rfl (l_sub rfl rfl) rfl rfl rfl (by first | exact as_i64 o_m o_m | rfl) ?_
               refine d_x rfl (x_val call_22 rfl (fun w hw => qwordN_fn ((pairR x.s.r o.x) - 1) o_m w)) rfl rfl (by intro _ _ _ hK x hx; obtain ⟨rfl, rfl⟩ := hK; repeat (first | exact hx | exact List.mem_append_left _ hx | refine List.mem_append_right _ ?_ | refine .tail _ ?_)) ?_
               rintro _ _ ⟨rfl, rfl⟩
               refine d_x rfl (x_call call_39 rfl (fun w hw => qsetPair_fn x.s.r o.x (dec16 (pairR x.s.r o.x)) dec16_ok w)) rfl rfl n_h ?_
               rintro _ _ ⟨G221, ⟨rfl, k221, rfl⟩, rfl⟩
               refine d_mv rfl (vnf_eq rfl) rfl rfl ?_
               iterate 3 refine RD ?_
               refine RDa ?_
               refine d_x rfl (x_storeTo (l' := cS (x.reg (setPR x.s.r o.x (dec16 (pairR x.s.r o.x)))).s) 1 rfl rfl rfl rfl rfl rfl (Nat.le_of_ble_eq_true rfl) rfl) rfl rfl n_h ?_
               rintro _ _ ⟨rfl, rfl⟩
               refine c_u ?_
               refine d_nil ?_
               refine c_region ?_
               refine RL ?_
               refine l_x (x_callT (F := [(b6, _), (sb, _)]) (A := G) call_17 rfl (fun w hw => qidle_fn K x.m (h.le o_m : RunOk K.toBusO (bn + 1) x).m G hG w (St.lentV hw))) rfl rfl ?_
               rintro _ _ ⟨G1, ⟨rfl, hG1⟩, rfl⟩
               refine l_nil ?_
               refine c_seq ?_
               refine c_region ?_
               refine RL ?_
               refine l_nil ?_
               refine c_ret ?_
               have hk : o.kind = 15 := by omega
               have e9 : ordT K.toBusA o at_ x = (true, idles K.toBusA 1 (x.reg (setPR x.s.r o.x (dec16 (pairR x.s.r o.x))))) := by unfold ordT effB effW effP place; rw [hk]; rfl
               exact l_end (fun _ _ => rets_v rfl) (.cons _ (List.Sublist.refl _)) ⟨by rw [e9], G1, by rw [e9]; first | done | rfl | (rw [gett_mem]; rfl), by rw [e9]; first | exact hG1 | (rw [gett_mem]; exact hG1)⟩
              ·have h14n := r_f h14
               refine c_seq ?_
               refine c_region ?_
               refine RL ?_
               refine RL ?_
               refine l_nil ?_
               refine c_cond rfl (fun h15 => ?_) (fun h15 => ?_)
               ·have h15n := r_f h15
                refine c_seq ?_
                refine c_draw [(b6, blk (cO o) 47)] [1, 6] (.step true 0 (.step true 2 (.step true 3 (.step true 4 (.step true 6 (.step false 1 (.step false 5 (.step false 7 (.step true 8 (.step true 9 (.step true 10 (.step true 11 (.step true 12 .done))))))))))))) rfl (by kernel_rfl) (by kernel_rfl) (fun x hx => by obtain rfl := List.mem_singleton.1 hx; exact .head _) ?_
                refine RD ?_
                refine RD ?_
                refine RDa ?_
                refine RDo ?_
                refine RD ?_
                refine d_x rfl (x_val call_43 rfl (fun w hw => qspair_fn sb x.s h.r w (row_own (l := cS x.s) m_m w hw) 2)) rfl rfl (by intro _ _ _ hK x hx; obtain ⟨rfl, rfl⟩ := hK; repeat (first | exact hx | exact List.mem_append_left _ hx | refine List.mem_append_right _ ?_ | refine .tail _ ?_)) ?_
                rintro _ _ ⟨rfl, rfl⟩
                refine d_x rfl (x_val call_43 rfl (fun w hw => qspair_fn sb x.s h.r w (row_own (l := cS x.s) m_m w hw) o.x)) rfl rfl n_h ?_
                rintro _ _ ⟨rfl, rfl⟩
                refine d_x rfl (x_val call_44 rfl (fun w hw => qadd16_fn (pairR x.s.r 2) (pairR x.s.r o.x) x.s.r.f (pairR_word h.r 2) (pairR_word h.r o.x) h.r.f w)) rfl rfl n_h ?_
                rintro _ _ ⟨rfl, rfl⟩
                refine d_mv rfl (vnf_eq rfl) rfl rfl ?_
                iterate 4 refine RD ?_
                refine d_nil ?_
                refine c_seq ?_
                refine c_region ?_
                iterate 3 refine RL ?_
                refine RLa ?_
                refine l_x (x_loadA rfl rfl rfl (fun w hw => Row.left (row_own (l := cS x.s) m_m w hw))) rfl rfl ?_
                rintro _ _ ⟨rfl, rfl⟩
                refine RL ?_
                refine l_x (x_call call_39 rfl (fun w hw => qsetPair_fn x.s.r 2 (add16R (pairR x.s.r 2) (pairR x.s.r o.x)) add16R_ok w)) rfl rfl ?_
                rintro _ _ ⟨G248, ⟨rfl, k248, rfl⟩, rfl⟩
                iterate 4 refine RL ?_
                refine RLa ?_
                refine l_x (x_storeTo (l' := cS { x.s with r := setPR x.s.r 2 (add16R (pairR x.s.r 2) (pairR x.s.r o.x)) }) 1 rfl rfl rfl rfl rfl rfl (Nat.le_of_ble_eq_true rfl) rfl) rfl rfl ?_
                rintro _ _ ⟨rfl, rfl⟩
                refine c_u ?_
                refine l_nil ?_
                refine c_seq ?_
                refine c_region ?_
                iterate 3 refine RL ?_
                refine RLa ?_
                refine RLa ?_
                refine l_x (x_storeTo (l' := cS (x.reg (setPR { x.s.r with f := add16F (pairR x.s.r 2) (pairR x.s.r o.x) x.s.r.f } 2 (add16R (pairR x.s.r 2) (pairR x.s.r o.x)))).s) 1 rfl rfl rfl rfl rfl rfl (Nat.le_of_ble_eq_true rfl) rfl) rfl rfl ?_
                rintro _ _ ⟨rfl, rfl⟩
                refine c_u ?_
                refine l_nil ?_
                refine c_region ?_
                refine RL ?_
                refine l_x (x_callT (F := [(b6, _), (sb, _)]) (A := G) call_17 rfl (fun w hw => qidle_fn K x.m (h.le o_m : RunOk K.toBusO (bn + 1) x).m G hG w (St.lentV hw))) rfl rfl ?_
                rintro _ _ ⟨G1, ⟨rfl, hG1⟩, rfl⟩
                refine l_nil ?_
                refine c_seq ?_
                refine c_region ?_
                refine RL ?_
                refine l_nil ?_
                refine c_ret ?_
                have hk : o.kind = 16 := by omega
                have e9 : ordT K.toBusA o at_ x = (true, idles K.toBusA 1 (x.reg (setPR { x.s.r with f := add16F (pairR x.s.r 2) (pairR x.s.r o.x) x.s.r.f } 2 (add16R (pairR x.s.r 2) (pairR x.s.r o.x))))) := by unfold ordT effB effW effP place; rw [hk]; rfl
                exact l_end (fun _ _ => rets_v rfl) (.cons _ (List.Sublist.refl _)) ⟨by rw [e9], G1, by rw [e9]; first | done | rfl | (rw [gett_mem]; rfl), by rw [e9]; first | exact hG1 | (rw [gett_mem]; exact hG1)⟩
               ·have h15n := r_f h15
                refine c_seq ?_
                refine c_region ?_
                refine RL ?_
                refine RL ?_
                refine l_nil ?_
                refine c_cond rfl (fun h16 => ?_) (fun h16 => ?_)
                ·have h16n := r_f h16
                 refine c_seq ?_
                 refine c_draw [(b6, blk (cO o) 47)] [2, 3, 4, 5, 6, 7] (.step true 0 (.step true 1 (.step true 2 (.step true 3 (.step true 4 (.step true 5 (.step true 7 (.step false 6 (.step false 8 (.step true 9 (.step true 10 (.step true 11 (.step true 12 (.step true 13 .done)))))))))))))) rfl (by kernel_rfl) (by kernel_rfl) (fun x hx => by obtain rfl := List.mem_singleton.1 hx; exact .head _) ?_
                 refine RDa ?_
                 refine RDo ?_
                 refine RD ?_
                 refine RD ?_
                 refine RDa ?_
                 refine RDo ?_
                 refine RD ?_
                 refine d_x rfl (x_callT (F := [(b6, _)]) (A := (sb, _) :: _) call_38 rfl (fun w hw => qsget_fn K sb x (h.le o_m : RunOk K.toBusO (bn + 4) x) G hG o.y w (St.lentV hw))) rfl rfl (by intro _ _ _ hK x hx; obtain ⟨_, ⟨rfl, G1, rfl, hG1⟩, rfl⟩ := hK; repeat (first | exact hx | exact List.mem_append_left _ hx | refine List.mem_append_right _ ?_ | refine .tail _ ?_)) ?_
                 rintro _ _ ⟨_, ⟨rfl, G1, rfl, hG1⟩, rfl⟩
                 refine d_x rfl (x_val call_45 rfl (fun w hw => qturn_fn o.x (gett K.toBusA o.y x).1 x.s.r.f hgy9.2 h.r.f w)) rfl rfl n_h ?_
                 rintro _ _ ⟨rfl, rfl⟩
                 refine d_mv rfl (vnf_eq rfl) rfl rfl ?_
                 iterate 4 refine RD ?_
                 refine d_nil ?_
                 refine c_seq ?_
                 refine c_region ?_
                 refine RL ?_
                 refine RL ?_
                 refine RLa ?_
                 refine RLo ?_
                 refine RL ?_
                 refine l_x (x_callT (F := [(b6, _)]) (A := (sb, _) :: _) call_37 rfl (fun w hw => qsset_fn K sb (x.mem (gett K.toBusA o.y x).2.m) (RunOk.gmem (h.le o_m : RunOk K.toBusO (bn + 3) x) o.y) G1 hG1 o.y (turnR o.x (gett K.toBusA o.y x).1 x.s.r.f) (turnR_ok hgy9.2) w (St.lentV hw))) rfl rfl ?_
                 rintro _ _ ⟨_, ⟨rfl, G2, rfl, hG2⟩, rfl⟩
                 refine l_nil ?_
                 refine c_region ?_
                 iterate 3 refine RL ?_
                 refine RLa ?_
                 refine RLa ?_
                 refine l_x (x_storeTo (l' := cS { (sett K.toBusA o.y (turnR o.x (gett K.toBusA o.y x).1 x.s.r.f) (x.mem (gett K.toBusA o.y x).2.m)).s with r := { (sett K.toBusA o.y (turnR o.x (gett K.toBusA o.y x).1 x.s.r.f) (x.mem (gett K.toBusA o.y x).2.m)).s.r with f := turnF o.x (gett K.toBusA o.y x).1 x.s.r.f } }) 1 rfl rfl rfl rfl rfl rfl (Nat.le_of_ble_eq_true rfl) rfl) rfl rfl ?_
                 rintro _ _ ⟨rfl, rfl⟩
                 refine c_u ?_
                 refine l_nil ?_
                 refine c_seq ?_
                 refine c_region ?_
                 refine RL ?_
                 refine l_nil ?_
                 refine c_ret ?_
                 have hk : o.kind = 17 := by omega
                 have e9 : ordT K.toBusA o at_ x = (true, (sett K.toBusA o.y (turnR o.x (gett K.toBusA o.y x).1 x.s.r.f) (x.mem (gett K.toBusA o.y x).2.m)).reg { (sett K.toBusA o.y (turnR o.x (gett K.toBusA o.y x).1 x.s.r.f) (x.mem (gett K.toBusA o.y x).2.m)).s.r with f := turnF o.x (gett K.toBusA o.y x).1 x.s.r.f }) := by
                  unfold ordT effB; rw [hk]
                  show (true, change K.toBusA o.y (fun v f => (turnR o.x v f, turnF o.x v f)) x) = _
                  unfold change; dsimp only; rw [gett_mem]; rfl
                 exact l_end (fun _ _ => rets_v rfl) (.cons _ (List.Sublist.refl _)) ⟨by rw [e9], G2, by rw [e9]; first | done | rfl, by rw [e9]; exact hG2⟩
                ·have h16n := r_f h16
                 refine c_seq ?_
                 refine c_region ?_
                 refine RL ?_
                 refine RL ?_
                 refine l_nil ?_
                 refine c_cond rfl (fun h17 => ?_) (fun h17 => ?_)
                 ·have h17n := r_f h17
                  refine c_seq ?_
                  refine c_draw [(b6, blk (cO o) 47), (sb, blk (cS x.s) 26)] [2, 3, 4, 5, 6, 7] (.step true 0 (.step true 1 (.step true 2 (.step true 3 (.step true 4 (.step true 5 (.step true 6 (.step true 7 (.step false 8 (.step true 9 (.step true 10 (.step true 11 (.step true 12 (.step true 13 .done)))))))))))))) rfl (by kernel_rfl) (by kernel_rfl) (fun x hx => (List.mem_cons.1 hx).elim (fun h => by rw [h]; exact .head _) (fun h => by rw [List.mem_singleton.1 h]; exact .tail _ (.head _))) ?_
                  refine RDa ?_
                  refine RDo ?_
                  refine RD ?_
                  refine RD ?_
                  refine RDa ?_
                  refine RDa ?_
                  refine RDo ?_
                  refine RD ?_
                  refine d_x rfl (x_val call_45 rfl (fun w hw => qturn_fn o.x x.s.r.a x.s.r.f h.r.a h.r.f w)) rfl rfl n_h ?_
                  rintro _ _ ⟨rfl, rfl⟩
                  refine d_mv rfl (vnf_eq rfl) rfl rfl ?_
                  iterate 4 refine RD ?_
                  refine d_nil ?_
                  refine c_seq ?_
                  refine c_region ?_
                  iterate 3 refine RL ?_
                  refine RLa ?_
                  refine RLa ?_
                  refine l_x (x_storeTo (l' := cS { x.s with r := { x.s.r with a := turnR o.x x.s.r.a x.s.r.f } }) 1 rfl rfl rfl rfl rfl rfl (Nat.le_of_ble_eq_true rfl) rfl) rfl rfl ?_
                  rintro _ _ ⟨rfl, rfl⟩
                  refine c_u ?_
                  refine l_nil ?_
                  refine c_region ?_
                  refine RL ?_
                  refine RL ?_
                  refine l_x (x_val call_35 rfl (fun w hw => (by have h9 := qC_fn (turnF o.x x.s.r.a x.s.r.f) (fl_byte _ _ _ _) w; rwa [cF_turn] at h9))) rfl rfl ?_
                  rintro _ _ ⟨rfl, rfl⟩
                  refine RLv call_46 (fun w hw => qflags_fn _ _ _ _ w) ?_
                  refine RL ?_
                  refine RLa ?_
                  refine RLa ?_
                  refine l_x (x_storeTo (l' := cS { x.s with r := { x.s.r with a := turnR o.x x.s.r.a x.s.r.f, f := fl false false false (turnO o.x x.s.r.a) } }) 1 rfl rfl rfl rfl rfl rfl (Nat.le_of_ble_eq_true rfl) rfl) rfl rfl ?_
                  rintro _ _ ⟨rfl, rfl⟩
                  refine c_u ?_
                  refine l_nil ?_
                  refine c_seq ?_
                  refine c_region ?_
                  refine RL ?_
                  refine l_nil ?_
                  refine c_ret ?_
                  have hk : o.kind = 18 := by omega
                  have e9 : ordT K.toBusA o at_ x = (true, x.reg { x.s.r with a := turnR o.x x.s.r.a x.s.r.f, f := fl false false false (turnO o.x x.s.r.a) }) := by unfold ordT effB effW effP place; rw [hk]; rfl
                  exact l_end (fun _ _ => rets_v rfl) (.cons _ (List.Sublist.refl _)) ⟨by rw [e9], G, by rw [e9]; first | done | rfl | (rw [gett_mem]; rfl), by rw [e9]; first | exact hG | (rw [gett_mem]; exact hG)⟩
                 ·have h17n := r_f h17
                  refine c_seq ?_
                  refine c_region ?_
                  refine RL ?_
                  refine RL ?_
                  refine l_nil ?_
                  refine c_cond rfl (fun h18 => ?_) (fun h18 => ?_)
                  ·have h18n := r_f h18
                   refine c_region ?_
                   iterate 4 refine RL ?_
                   refine RLa ?_
                   refine RLa ?_
                   refine RLo ?_
                   refine RL ?_
                   refine RLv call_47 (fun w hw => qdaa_fn x.s.r.a x.s.r.f h.r.a h.r.f w) ?_
                   iterate 4 refine RL ?_
                   refine RLa ?_
                   refine RLa ?_
                   refine l_x (x_storeTo (l' := cS { x.s with r := { x.s.r with a := daaR x.s.r.a x.s.r.f } }) 1 rfl rfl rfl rfl rfl rfl (Nat.le_of_ble_eq_true rfl) rfl) rfl rfl ?_
                   rintro _ _ ⟨rfl, rfl⟩
                   refine c_u ?_
                   refine RL ?_
                   refine RLa ?_
                   refine RLa ?_
                   refine l_x (x_storeTo (l' := cS { x.s with r := { x.s.r with a := daaR x.s.r.a x.s.r.f, f := daaF x.s.r.a x.s.r.f } }) 1 rfl rfl rfl rfl rfl rfl (Nat.le_of_ble_eq_true rfl) rfl) rfl rfl ?_
                   rintro _ _ ⟨rfl, rfl⟩
                   refine c_u ?_
                   refine l_nil ?_
                   refine c_seq ?_
                   refine c_region ?_
                   refine RL ?_
                   refine l_nil ?_
                   refine c_ret ?_
                   have hk : o.kind = 19 := by omega
                   have e9 : ordT K.toBusA o at_ x = (true, x.reg { x.s.r with a := daaR x.s.r.a x.s.r.f, f := daaF x.s.r.a x.s.r.f }) := by unfold ordT effB effW effP place; rw [hk]; rfl
                   exact l_end (fun _ _ => rets_v rfl) (.cons _ (List.Sublist.refl _)) ⟨by rw [e9], G, by rw [e9]; first | done | rfl | (rw [gett_mem]; rfl), by rw [e9]; first | exact hG | (rw [gett_mem]; exact hG)⟩
                  ·have h18n := r_f h18
                   refine c_seq ?_
                   refine c_region ?_
                   refine RL ?_
                   refine RL ?_
                   refine l_nil ?_
                   refine c_cond rfl (fun h19 => ?_) (fun h19 => ?_)
                   ·have h19n := r_f h19
                    refine c_seq ?_
                    refine c_region ?_
                    iterate 3 refine RL ?_
                    refine RLa ?_
                    refine RLa ?_
                    refine RLo ?_
                    refine l_as (l_sub rfl rfl) rfl rfl (by first | exact as_u8 o_m o_m | exact as_u8m _) ?_
                    refine RL ?_
                    refine RLa ?_
                    refine RLa ?_
                    refine l_x (x_storeTo (l' := cS { x.s with r := { x.s.r with a := 255 - x.s.r.a } }) 1 rfl rfl rfl rfl rfl rfl (Nat.le_of_ble_eq_true rfl) rfl) rfl rfl ?_
                    rintro _ _ ⟨rfl, rfl⟩
                    refine c_u ?_
                    refine l_nil ?_
                    refine c_region ?_
                    iterate 3 refine RL ?_
                    refine RLv call_46 (fun w hw => qflags_fn _ _ _ _ w) ?_
                    refine RL ?_
                    refine RLa ?_
                    refine RLa ?_
                    refine l_x (x_storeTo (l' := cS { x.s with r := { x.s.r with a := 255 - x.s.r.a, f := fl (zF x.s.r.f) true true (cF x.s.r.f) } }) 1 rfl rfl rfl rfl rfl rfl (Nat.le_of_ble_eq_true rfl) rfl) rfl rfl ?_
                    rintro _ _ ⟨rfl, rfl⟩
                    refine c_u ?_
                    refine l_nil ?_
                    refine c_seq ?_
                    refine c_region ?_
                    refine RL ?_
                    refine l_nil ?_
                    refine c_ret ?_
                    have hk : o.kind = 20 := by omega
                    have e9 : ordT K.toBusA o at_ x = (true, x.reg { x.s.r with a := 255 - x.s.r.a, f := fl (zF x.s.r.f) true true (cF x.s.r.f) }) := by unfold ordT effB effW effP place; rw [hk]; rfl
                    exact l_end (fun _ _ => rets_v rfl) (.cons _ (List.Sublist.refl _)) ⟨by rw [e9], G, by rw [e9]; first | done | rfl | (rw [gett_mem]; rfl), by rw [e9]; first | exact hG | (rw [gett_mem]; exact hG)⟩
                   ·have h19n := r_f h19
                    refine c_seq ?_
                    refine c_region ?_
                    refine RL ?_
                    refine RL ?_
                    refine l_nil ?_
                    refine c_cond rfl (fun h20 => ?_) (fun h20 => ?_)
                    ·have h20n := r_f h20
                     refine c_region ?_
                     refine RL ?_
                     refine RL ?_
                     refine RLv call_46 (fun w hw => qflags_fn _ _ _ _ w) ?_
                     refine RL ?_
                     refine RLa ?_
                     refine RLa ?_
                     refine l_x (x_storeTo (l' := cS { x.s with r := { x.s.r with f := fl (zF x.s.r.f) false false true } }) 1 rfl rfl rfl rfl rfl rfl (Nat.le_of_ble_eq_true rfl) rfl) rfl rfl ?_
                     rintro _ _ ⟨rfl, rfl⟩
                     refine c_u ?_
                     refine l_nil ?_
                     refine c_seq ?_
                     refine c_region ?_
                     refine RL ?_
                     refine l_nil ?_
                     refine c_ret ?_
                     have hk : o.kind = 21 := by omega
                     have e9 : ordT K.toBusA o at_ x = (true, x.reg { x.s.r with f := fl (zF x.s.r.f) false false true }) := by unfold ordT effB effW effP place; rw [hk]; rfl
                     exact l_end (fun _ _ => rets_v rfl) (.cons _ (List.Sublist.refl _)) ⟨by rw [e9], G, by rw [e9]; first | done | rfl | (rw [gett_mem]; rfl), by rw [e9]; first | exact hG | (rw [gett_mem]; exact hG)⟩
                    ·have h20n := r_f h20
                     refine c_seq ?_
                     refine c_region ?_
                     refine RL ?_
                     refine RL ?_
                     refine l_nil ?_
                     refine c_cond rfl (fun h21 => ?_) (fun h21 => ?_)
                     ·have h21n := r_f h21
                      refine c_region ?_
                      iterate 4 refine RL ?_
                      refine RLv call_46 (fun w hw => qflags_fn _ _ _ _ w) ?_
                      refine RL ?_
                      refine RLa ?_
                      refine RLa ?_
                      refine l_x (x_storeTo (l' := cS { x.s with r := { x.s.r with f := fl (zF x.s.r.f) false false (!cF x.s.r.f) } }) 1 rfl rfl rfl rfl rfl rfl (Nat.le_of_ble_eq_true rfl) rfl) rfl rfl ?_
                      rintro _ _ ⟨rfl, rfl⟩
                      refine c_u ?_
                      refine l_nil ?_
                      refine c_seq ?_
                      refine c_region ?_
                      refine RL ?_
                      refine l_nil ?_
                      refine c_ret ?_
                      have hk : o.kind = 22 := by omega
                      have e9 : ordT K.toBusA o at_ x = (true, x.reg { x.s.r with f := fl (zF x.s.r.f) false false (!cF x.s.r.f) }) := by unfold ordT effB effW effP place; rw [hk]; rfl
                      exact l_end (fun _ _ => rets_v rfl) (.cons _ (List.Sublist.refl _)) ⟨by rw [e9], G, by rw [e9]; first | done | rfl | (rw [gett_mem]; rfl), by rw [e9]; first | exact hG | (rw [gett_mem]; exact hG)⟩
                     ·have h21n := r_f h21
                      refine c_seq ?_
                      refine c_region ?_
                      refine RL ?_
                      refine RL ?_
                      refine l_nil ?_
                      refine c_cond rfl (fun h22 => ?_) (fun h22 => ?_)
                      ·have h22n := r_f h22
                       refine c_seq ?_
                       refine c_seq ?_
                       refine c_region ?_
                       refine RL ?_
                       refine RL ?_
                       refine l_nil ?_
                       refine c_cond rfl (fun h23 => ?_) (fun h23 => ?_)
                       ·have h23n := r_f h23
                        refine c_seq ?_
                        refine c_region ?_
                        refine RL ?_
                        refine l_nil ?_
                        refine c_ret ?_
                        have e9 := (ordT_f o_m (by simpa using h23) : ordT K.toBusA o at_ x = (false, x))
                        exact l_end (fun _ _ => rets_v rfl) (.cons _ (List.Sublist.refl _)) ⟨by rw [e9], G, by rw [e9]; first | done | rfl, by rw [e9]; exact hG⟩
                       ·have h23n := r_f h23
                        refine c_skip ?_
                        refine c_seq ?_
                        refine c_region ?_
                        refine RL ?_
                        refine l_x (x_callT (F := [(b6, _), (sb, _)]) (A := G) call_17 rfl (fun w hw => qidle_fn K x.m (h.le o_m : RunOk K.toBusO (bn + 1) x).m G hG w (St.lentV hw))) rfl rfl ?_
                        rintro _ _ ⟨G1, ⟨rfl, hG1⟩, rfl⟩
                        refine l_nil ?_
                        refine c_seq ?_
                        refine c_region ?_
                        refine RL ?_
                        refine l_as (l_conv rfl rfl rfl) rfl rfl (by first | exact as_i64 o_m o_m | rfl) ?_
                        refine RL ?_
                        refine l_nil ?_
                        refine c_seq ?_
                        refine c_seq ?_
                        refine c_region ?_
                        refine RL ?_
                        refine RL ?_
                        refine l_nil ?_
                        refine c_cond rfl (fun h24 => ?_) (fun h24 => ?_)
                        ·have h24n := r_f h24
                         refine c_region ?_
                         refine RL ?_
                         refine l_as (l_sub rfl rfl) rfl rfl (by first | exact as_i64 o_m o_m | rfl) ?_
                         refine RL ?_
                         refine l_nil ?_
                         refine c_region ?_
                         iterate 3 refine RL ?_
                         refine RLa ?_
                         refine RLa ?_
                         refine RLo ?_
                         refine l_as (l_conv rfl rfl rfl) rfl rfl (by first | exact as_i64 o_m o_m | rfl) ?_
                         refine RL ?_
                         refine l_as (v := (.int .i64 (x.s.r.pc + s8 (o.n % 256)))) rfl rfl rfl ((as_i64 o_m o_m).trans (congrArg _ (by unfold s8; rw [if_pos o_m]; try omega))) ?_
                         refine RLv call_22 (fun w hw => qwordN_fn (x.s.r.pc + s8 (o.n % 256)) o_m w) ?_
                         refine RL ?_
                         refine RLa ?_
                         refine RLa ?_
                         refine l_x (x_storeTo (l' := cS { x.s with r := { x.s.r with pc := (x.s.r.pc + s8 (o.n % 256)) % 65536 } }) 1 rfl rfl rfl rfl rfl rfl (Nat.le_of_ble_eq_true rfl) rfl) rfl rfl ?_
                         rintro _ _ ⟨rfl, rfl⟩
                         refine c_u ?_
                         refine l_nil ?_
                         refine c_seq ?_
                         refine c_region ?_
                         refine RL ?_
                         refine l_nil ?_
                         refine c_ret ?_
                         have e9 := (ordT_23 (show o.kind = 23 by omega) (by simpa using h23) : ordT K.toBusA o at_ x = (true, goto ((x.s.r.pc + s8 (o.n % 256)) % 65536) (idles K.toBusA 1 x)))
                         exact l_end (fun _ _ => rets_v rfl) (.cons _ (List.Sublist.refl _)) ⟨by rw [e9], G1, by rw [e9]; first | done | rfl, by rw [e9]; exact hG1⟩
                        ·have h24n := r_f h24
                         refine c_skip ?_
                         refine c_region ?_
                         iterate 3 refine RL ?_
                         refine RLa ?_
                         refine RLa ?_
                         refine RLo ?_
                         refine l_as (l_conv rfl rfl rfl) rfl rfl (by first | exact as_i64 o_m o_m | rfl) ?_
                         refine RL ?_
                         refine l_as (v := (.int .i64 (x.s.r.pc + s8 (o.n % 256)))) rfl rfl rfl ((as_i64 o_m o_m).trans (congrArg _ (by unfold s8; rw [if_neg o_m]; try omega))) ?_
                         refine RLv call_22 (fun w hw => qwordN_fn (x.s.r.pc + s8 (o.n % 256)) o_m w) ?_
                         refine RL ?_
                         refine RLa ?_
                         refine RLa ?_
                         refine l_x (x_storeTo (l' := cS { x.s with r := { x.s.r with pc := (x.s.r.pc + s8 (o.n % 256)) % 65536 } }) 1 rfl rfl rfl rfl rfl rfl (Nat.le_of_ble_eq_true rfl) rfl) rfl rfl ?_
                         rintro _ _ ⟨rfl, rfl⟩
                         refine c_u ?_
                         refine l_nil ?_
                         refine c_seq ?_
                         refine c_region ?_
                         refine RL ?_
                         refine l_nil ?_
                         refine c_ret ?_
                         have e9 := (ordT_23 (show o.kind = 23 by omega) (by simpa using h23) : ordT K.toBusA o at_ x = (true, goto ((x.s.r.pc + s8 (o.n % 256)) % 65536) (idles K.toBusA 1 x)))
                         exact l_end (fun _ _ => rets_v rfl) (.cons _ (List.Sublist.refl _)) ⟨by rw [e9], G1, by rw [e9]; first | done | rfl, by rw [e9]; exact hG1⟩
                      ·have h22n := r_f h22
                       refine c_seq ?_
                       refine c_region ?_
                       refine RL ?_
                       refine RL ?_
                       refine l_nil ?_
                       refine c_cond rfl (fun h25 => ?_) (fun h25 => ?_)
                       ·have h25n := r_f h25
                        refine c_seq ?_
                        refine c_seq ?_
                        refine c_region ?_
                        refine RL ?_
                        refine RL ?_
                        refine l_nil ?_
                        refine c_cond rfl (fun h26 => ?_) (fun h26 => ?_)
                        ·have h26n := r_f h26
                         refine c_seq ?_
                         refine c_region ?_
                         refine RL ?_
                         refine l_nil ?_
                         refine c_ret ?_
                         have e9 := (ordT_f o_m (by simpa using h26) : ordT K.toBusA o at_ x = (false, x))
                         exact l_end (fun _ _ => rets_v rfl) (.cons _ (List.Sublist.refl _)) ⟨by rw [e9], G, by rw [e9]; first | done | rfl, by rw [e9]; exact hG⟩
                        ·have h26n := r_f h26
                         refine c_skip ?_
                         refine c_seq ?_
                         refine c_region ?_
                         refine RL ?_
                         refine l_x (x_callT (F := [(b6, _), (sb, _)]) (A := G) call_17 rfl (fun w hw => qidle_fn K x.m (h.le o_m : RunOk K.toBusO (bn + 1) x).m G hG w (St.lentV hw))) rfl rfl ?_
                         rintro _ _ ⟨G1, ⟨rfl, hG1⟩, rfl⟩
                         refine l_nil ?_
                         refine c_region ?_
                         refine RL ?_
                         refine RLa ?_
                         refine RLo ?_
                         refine RL ?_
                         refine RLa ?_
                         refine RLa ?_
                         refine l_x (x_storeTo (l' := cS { x.s with r := { x.s.r with pc := o.n } }) 1 rfl rfl rfl rfl rfl rfl (Nat.le_of_ble_eq_true rfl) rfl) rfl rfl ?_
                         rintro _ _ ⟨rfl, rfl⟩
                         refine c_u ?_
                         refine l_nil ?_
                         refine c_seq ?_
                         refine c_region ?_
                         refine RL ?_
                         refine l_nil ?_
                         refine c_ret ?_
                         have e9 := (ordT_24 (show o.kind = 24 by omega) (by simpa using h26) : ordT K.toBusA o at_ x = (true, goto o.n (idles K.toBusA 1 x)))
                         exact l_end (fun _ _ => rets_v rfl) (.cons _ (List.Sublist.refl _)) ⟨by rw [e9], G1, by rw [e9]; first | done | rfl, by rw [e9]; exact hG1⟩
                       ·have h25n := r_f h25
                        refine c_seq ?_
                        refine c_region ?_
                        refine RL ?_
                        refine RL ?_
                        refine l_nil ?_
                        refine c_cond rfl (fun h27 => ?_) (fun h27 => ?_)
                        ·have h27n := r_f h27
                         refine c_seq ?_
                         refine c_seq ?_
                         refine c_region ?_
                         refine RL ?_
                         refine RL ?_
                         refine l_nil ?_
                         refine c_cond rfl (fun h28 => ?_) (fun h28 => ?_)
                         ·have h28n := r_f h28
                          refine c_seq ?_
                          refine c_region ?_
                          refine RL ?_
                          refine l_nil ?_
                          refine c_ret ?_
                          have e9 := (ordT_f o_m (by simpa using h28) : ordT K.toBusA o at_ x = (false, x))
                          exact l_end (fun _ _ => rets_v rfl) (.cons _ (List.Sublist.refl _)) ⟨by rw [e9], G, by rw [e9]; first | done | rfl, by rw [e9]; exact hG⟩
                         ·have h28n := r_f h28
                          refine c_skip ?_
                          refine c_seq ?_
                          refine c_region ?_
                          refine RL ?_
                          refine l_x (x_callT (F := [(b6, _), (sb, _)]) (A := G) call_17 rfl (fun w hw => qidle_fn K x.m (h.le o_m : RunOk K.toBusO (bn + 1) x).m G hG w (St.lentV hw))) rfl rfl ?_
                          rintro _ _ ⟨G1, ⟨rfl, hG1⟩, rfl⟩
                          refine l_nil ?_
                          refine c_seq ?_
                          refine c_region ?_
                          iterate 4 refine RL ?_
                          refine RLa ?_
                          refine RLa ?_
                          refine RLo ?_
                          refine l_x (x_callT (F := [(b6, _)]) (A := (sb, _) :: _) call_19 rfl (fun w hw => qspush_fn K sb (idles K.toBusA 1 x) (RunOk.idleK 1 (h.le o_m : RunOk K.toBusO (bn + 2 + 1) x)) G1 hG1 x.s.r.pc h.r.pc w (St.lentV hw))) rfl rfl ?_
                          rintro _ _ ⟨_, ⟨rfl, G2, rfl, hG2⟩, rfl⟩
                          refine l_nil ?_
                          refine c_region ?_
                          refine RL ?_
                          refine RLa ?_
                          refine RLo ?_
                          refine RL ?_
                          refine RLa ?_
                          refine RLa ?_
                          refine l_x (x_storeTo (l' := cS { (push K.toBusA x.s.r.pc (idles K.toBusA 1 x)).s with r := { (push K.toBusA x.s.r.pc (idles K.toBusA 1 x)).s.r with pc := o.n } }) 1 rfl rfl rfl rfl rfl rfl (Nat.le_of_ble_eq_true rfl) rfl) rfl rfl ?_
                          rintro _ _ ⟨rfl, rfl⟩
                          refine c_u ?_
                          refine l_nil ?_
                          refine c_seq ?_
                          refine c_region ?_
                          refine RL ?_
                          refine l_nil ?_
                          refine c_ret ?_
                          have e9 := (ordT_25 (show o.kind = 25 by omega) (by simpa using h28) : ordT K.toBusA o at_ x = (true, goto o.n (push K.toBusA x.s.r.pc (idles K.toBusA 1 x))))
                          exact l_end (fun _ _ => rets_v rfl) (.cons _ (List.Sublist.refl _)) ⟨by rw [e9], G2, by rw [e9]; first | done | rfl, by rw [e9]; exact hG2⟩
                        ·have h27n := r_f h27
                         refine c_seq ?_
                         refine c_region ?_
                         refine RL ?_
                         refine RL ?_
                         refine l_nil ?_
                         refine c_cond rfl (fun h29 => ?_) (fun h29 => ?_)
                         ·have h29n := r_f h29
                          refine c_seq ?_
                          refine c_seq ?_
                          refine c_region ?_
                          refine RLa ?_
                          refine RLo ?_
                          refine RL ?_
                          refine l_nil ?_
                          refine c_cond rfl (fun h30 => ?_) (fun h30 => ?_)
                          ·have h30n := r_f h30
                           refine c_region ?_
                           refine RL ?_
                           refine l_x (x_callT (F := [(b6, _), (sb, _)]) (A := G) call_17 rfl (fun w hw => qidle_fn K x.m (h.le o_m : RunOk K.toBusO (bn + 1) x).m G hG w (St.lentV hw))) rfl rfl ?_
                           rintro _ _ ⟨G1, ⟨rfl, hG1⟩, rfl⟩
                           refine l_nil ?_
                           refine c_seq ?_
                           refine c_seq ?_
                           refine c_region ?_
                           refine RL ?_
                           refine RL ?_
                           refine l_nil ?_
                           refine c_cond rfl (fun h31 => ?_) (fun h31 => ?_)
                           ·have h31n := r_f h31
                            refine c_seq ?_
                            refine c_region ?_
                            refine RL ?_
                            refine l_nil ?_
                            refine c_ret ?_
                            have e9 := (ordT_26f (show o.kind = 26 by omega) o_m (by simpa using h31) : ordT K.toBusA o at_ x = (false, (idles K.toBusA 1 x)))
                            exact l_end (fun _ _ => rets_v rfl) (.cons _ (List.Sublist.refl _)) ⟨by rw [e9], G1, by rw [e9]; first | done | rfl, by rw [e9]; exact hG1⟩
                           ·have h31n := r_f h31
                            refine c_skip ?_
                            refine c_seq ?_
                            refine c_region ?_
                            iterate 3 refine RL ?_
                            refine l_x (x_callT (F := [(b6, _)]) (A := (sb, _) :: _) call_48 rfl (fun w hw => qspop_fn K sb (idles K.toBusA 1 x) (RunOk.idleK 1 (h.le o_m : RunOk K.toBusO (bn + 2 + 1) x)) G1 hG1 w (St.lentV hw))) rfl rfl ?_
                            rintro _ _ ⟨_, ⟨rfl, G2, rfl, hG2⟩, rfl⟩
                            refine RL ?_
                            refine RLa ?_
                            refine RLa ?_
                            refine l_x (x_storeTo (l' := cS { (pop K.toBusA (idles K.toBusA 1 x)).2.s with r := { (pop K.toBusA (idles K.toBusA 1 x)).2.s.r with pc := (pop K.toBusA (idles K.toBusA 1 x)).1 } }) 1 rfl rfl rfl rfl rfl rfl (Nat.le_of_ble_eq_true rfl) rfl) rfl rfl ?_
                            rintro _ _ ⟨rfl, rfl⟩
                            refine c_u ?_
                            refine l_nil ?_
                            refine c_region ?_
                            refine RL ?_
                            refine l_x (x_callT (F := [(b6, _), (sb, _)]) (A := G2) call_17 rfl (fun w hw => qidle_fn K (pop K.toBusA (idles K.toBusA 1 x)).2.m (RunOk.pop (n := bn + 1) (RunOk.idleK 1 (h.le o_m : RunOk K.toBusO (bn + 1 + 2 + 1) x))).1.m G2 hG2 w (St.lentV hw))) rfl rfl ?_
                            rintro _ _ ⟨G3, ⟨rfl, hG3⟩, rfl⟩
                            refine l_nil ?_
                            refine c_seq ?_
                            refine c_region ?_
                            refine RL ?_
                            refine l_nil ?_
                            refine c_ret ?_
                            have e9 := (ordT_26t (show o.kind = 26 by omega) o_m (by simpa using h31) : ordT K.toBusA o at_ x = (true, idles K.toBusA 1 (goto (pop K.toBusA (idles K.toBusA 1 x)).1 (pop K.toBusA (idles K.toBusA 1 x)).2)))
                            exact l_end (fun _ _ => rets_v rfl) (.cons _ (List.Sublist.refl _)) ⟨by rw [e9], G3, by rw [e9]; first | done | rfl, by rw [e9]; exact hG3⟩
                          ·have h30n := r_f h30
                           refine c_skip ?_
                           refine c_seq ?_
                           refine c_seq ?_
                           refine c_region ?_
                           refine RL ?_
                           refine RL ?_
                           refine l_nil ?_
                           refine c_cond rfl (fun h32 => ?_) (fun h32 => ?_)
                           ·have h32n := r_f h32
                            refine c_seq ?_
                            refine c_region ?_
                            refine RL ?_
                            refine l_nil ?_
                            refine c_ret ?_
                            exact absurd (by simpa using h32) (by rw [show o.x = 4 by omega]; show ¬ (true = false); decide)
                           ·have h32n := r_f h32
                            refine c_skip ?_
                            refine c_seq ?_
                            refine c_region ?_
                            iterate 3 refine RL ?_
                            refine l_x (x_callT (F := [(b6, _)]) (A := (sb, _) :: _) call_48 rfl (fun w hw => qspop_fn K sb x (h.le o_m : RunOk K.toBusO (bn + 3) x) G hG w (St.lentV hw))) rfl rfl ?_
                            rintro _ _ ⟨_, ⟨rfl, G2, rfl, hG2⟩, rfl⟩
                            refine RL ?_
                            refine RLa ?_
                            refine RLa ?_
                            refine l_x (x_storeTo (l' := cS { (pop K.toBusA x).2.s with r := { (pop K.toBusA x).2.s.r with pc := (pop K.toBusA x).1 } }) 1 rfl rfl rfl rfl rfl rfl (Nat.le_of_ble_eq_true rfl) rfl) rfl rfl ?_
                            rintro _ _ ⟨rfl, rfl⟩
                            refine c_u ?_
                            refine l_nil ?_
                            refine c_region ?_
                            refine RL ?_
                            refine l_x (x_callT (F := [(b6, _), (sb, _)]) (A := G2) call_17 rfl (fun w hw => qidle_fn K (pop K.toBusA x).2.m (RunOk.pop (n := bn + 1) (h.le o_m : RunOk K.toBusO (bn + 3) x)).1.m G2 hG2 w (St.lentV hw))) rfl rfl ?_
                            rintro _ _ ⟨G3, ⟨rfl, hG3⟩, rfl⟩
                            refine l_nil ?_
                            refine c_seq ?_
                            refine c_region ?_
                            refine RL ?_
                            refine l_nil ?_
                            refine c_ret ?_
                            have e9 := (ordT_264 (show o.kind = 26 by omega) o_m (by simpa using h32) : ordT K.toBusA o at_ x = (true, idles K.toBusA 1 (goto (pop K.toBusA x).1 (pop K.toBusA x).2)))
                            exact l_end (fun _ _ => rets_v rfl) (.cons _ (List.Sublist.refl _)) ⟨by rw [e9], G3, by rw [e9]; first | done | rfl, by rw [e9]; exact hG3⟩
                         ·have h29n := r_f h29
                          refine c_seq ?_
                          refine c_region ?_
                          refine RL ?_
                          refine RL ?_
                          refine l_nil ?_
                          refine c_cond rfl (fun h33 => ?_) (fun h33 => ?_)
                          ·have h33n := r_f h33
                           refine c_seq ?_
                           refine c_region ?_
                           iterate 3 refine RL ?_
                           refine l_x (x_callT (F := [(b6, _)]) (A := (sb, _) :: _) call_48 rfl (fun w hw => qspop_fn K sb x (h.le o_m : RunOk K.toBusO (bn + 3) x) G hG w (St.lentV hw))) rfl rfl ?_
                           rintro _ _ ⟨_, ⟨rfl, G1, rfl, hG1⟩, rfl⟩
                           refine RL ?_
                           refine RLa ?_
                           refine RLa ?_
                           refine l_x (x_storeTo (l' := cS { (pop K.toBusA x).2.s with r := { (pop K.toBusA x).2.s.r with pc := (pop K.toBusA x).1 } }) 1 rfl rfl rfl rfl rfl rfl (Nat.le_of_ble_eq_true rfl) rfl) rfl rfl ?_
                           rintro _ _ ⟨rfl, rfl⟩
                           refine c_u ?_
                           refine l_nil ?_
                           refine c_seq ?_
                           refine c_region ?_
                           refine RL ?_
                           refine l_x (x_callT (F := [(b6, _), (sb, _)]) (A := G1) call_17 rfl (fun w hw => qidle_fn K (pop K.toBusA x).2.m (RunOk.pop (n := bn + 1) (h.le o_m : RunOk K.toBusO (bn + 3) x)).1.m G1 hG1 w (St.lentV hw))) rfl rfl ?_
                           rintro _ _ ⟨G2, ⟨rfl, hG2⟩, rfl⟩
                           refine l_nil ?_
                           refine c_region ?_
                           refine RL ?_
                           refine RL ?_
                           refine RLa ?_
                           refine l_x (x_storeTo (l' := cS { (pop K.toBusA x).2.s with ime := true, r := { (pop K.toBusA x).2.s.r with pc := (pop K.toBusA x).1 } }) 1 rfl rfl rfl rfl rfl rfl (Nat.le_of_ble_eq_true rfl) rfl) rfl rfl ?_
                           rintro _ _ ⟨rfl, rfl⟩
                           refine c_u ?_
                           refine l_nil ?_
                           refine c_seq ?_
                           refine c_region ?_
                           refine RL ?_
                           refine l_nil ?_
                           refine c_ret ?_
                           have e9 := (ordT_27 (show o.kind = 27 by omega) : ordT K.toBusA o at_ x = (true, idles K.toBusA 1 (goto (pop K.toBusA ⟨{ x.s with ime := true }, x.m⟩).1 (pop K.toBusA ⟨{ x.s with ime := true }, x.m⟩).2)))
                           exact l_end (fun _ _ => rets_v rfl) (.cons _ (List.Sublist.refl _)) ⟨by rw [e9], G2, by rw [e9]; first | done | rfl, by rw [e9]; exact hG2⟩
                          ·have h33n := r_f h33
                           refine c_seq ?_
                           refine c_region ?_
                           refine RL ?_
                           refine RL ?_
                           refine l_nil ?_
                           refine c_cond rfl (fun h34 => ?_) (fun h34 => ?_)
                           ·have h34n := r_f h34
                            refine c_seq ?_
                            refine c_region ?_
                            refine RL ?_
                            refine l_x (x_callT (F := [(b6, _), (sb, _)]) (A := G) call_17 rfl (fun w hw => qidle_fn K x.m (h.le o_m : RunOk K.toBusO (bn + 1) x).m G hG w (St.lentV hw))) rfl rfl ?_
                            rintro _ _ ⟨G1, ⟨rfl, hG1⟩, rfl⟩
                            refine l_nil ?_
                            refine c_seq ?_
                            refine c_region ?_
                            iterate 4 refine RL ?_
                            refine RLa ?_
                            refine RLa ?_
                            refine RLo ?_
                            refine l_x (x_callT (F := [(b6, _)]) (A := (sb, _) :: _) call_19 rfl (fun w hw => qspush_fn K sb (idles K.toBusA 1 x) (RunOk.idleK 1 (h.le o_m : RunOk K.toBusO (bn + 2 + 1) x)) G1 hG1 x.s.r.pc h.r.pc w (St.lentV hw))) rfl rfl ?_
                            rintro _ _ ⟨_, ⟨rfl, G2, rfl, hG2⟩, rfl⟩
                            refine l_nil ?_
                            refine c_region ?_
                            refine RL ?_
                            refine RLa ?_
                            refine RLo ?_
                            refine RL ?_
                            refine RLa ?_
                            refine RLa ?_
                            refine l_x (x_storeTo (l' := cS { (push K.toBusA x.s.r.pc (idles K.toBusA 1 x)).s with r := { (push K.toBusA x.s.r.pc (idles K.toBusA 1 x)).s.r with pc := o.n } }) 1 rfl rfl rfl rfl rfl rfl (Nat.le_of_ble_eq_true rfl) rfl) rfl rfl ?_
                            rintro _ _ ⟨rfl, rfl⟩
                            refine c_u ?_
                            refine l_nil ?_
                            refine c_seq ?_
                            refine c_region ?_
                            refine RL ?_
                            refine l_nil ?_
                            refine c_ret ?_
                            have e9 := (ordT_28 (show o.kind = 28 by omega) : ordT K.toBusA o at_ x = (true, goto o.n (push K.toBusA x.s.r.pc (idles K.toBusA 1 x))))
                            exact l_end (fun _ _ => rets_v rfl) (.cons _ (List.Sublist.refl _)) ⟨by rw [e9], G2, by rw [e9]; first | done | rfl, by rw [e9]; exact hG2⟩
                           ·have h34n := r_f h34
                            refine c_seq ?_
                            refine c_region ?_
                            refine RL ?_
                            refine RL ?_
                            refine l_nil ?_
                            refine c_cond rfl (fun h35 => ?_) (fun h35 => ?_)
                            ·have h35n := r_f h35
                             refine c_region ?_
                             refine RL ?_
                             refine RL ?_
                             refine RLv call_43 (fun w hw => qspair_fn sb x.s h.r w (row_own (l := cS x.s) m_m w hw) 2) ?_
                             refine RL ?_
                             refine RLa ?_
                             refine RLa ?_
                             refine l_x (x_storeTo (l' := cS { x.s with r := { x.s.r with pc := (pairR x.s.r 2) } }) 1 rfl rfl rfl rfl rfl rfl (Nat.le_of_ble_eq_true rfl) rfl) rfl rfl ?_
                             rintro _ _ ⟨rfl, rfl⟩
                             refine c_u ?_
                             refine l_nil ?_
                             refine c_seq ?_
                             refine c_region ?_
                             refine RL ?_
                             refine l_nil ?_
                             refine c_ret ?_
                             have e9 := (ordT_29 (show o.kind = 29 by omega) : ordT K.toBusA o at_ x = (true, goto (pairR x.s.r 2) x))
                             exact l_end (fun _ _ => rets_v rfl) (.cons _ (List.Sublist.refl _)) ⟨by rw [e9], G, by rw [e9]; first | done | rfl, by rw [e9]; exact hG⟩
                            ·have h35n := r_f h35
                             refine c_seq ?_
                             refine c_region ?_
                             refine RL ?_
                             refine RL ?_
                             refine l_nil ?_
                             refine c_cond rfl (fun h36 => ?_) (fun h36 => ?_)
                             ·have h36n := r_f h36
                              refine c_seq ?_
                              refine c_region ?_
                              refine RL ?_
                              refine l_x (x_callT (F := [(b6, _), (sb, _)]) (A := G) call_17 rfl (fun w hw => qidle_fn K x.m (h.le o_m : RunOk K.toBusO (bn + 1) x).m G hG w (St.lentV hw))) rfl rfl ?_
                              rintro _ _ ⟨G1, ⟨rfl, hG1⟩, rfl⟩
                              refine l_nil ?_
                              refine c_region ?_
                              iterate 3 refine RL ?_
                              refine RLa ?_
                              refine RLo ?_
                              refine RLv call_43 (fun w hw => qspair_fn sb x.s h.r w (row_own (l := cS x.s) m_m w hw) o.x) ?_
                              refine l_x (x_callT (F := [(b6, _)]) (A := (sb, _) :: _) call_19 rfl (fun w hw => qspush_fn K sb (idles K.toBusA 1 x) (RunOk.idleK 1 (h.le o_m : RunOk K.toBusO (bn + 2 + 1) x)) G1 hG1 (pairR x.s.r o.x) (pairR_word h.r o.x) w (St.lentV hw))) rfl rfl ?_
                              rintro _ _ ⟨_, ⟨rfl, G2, rfl, hG2⟩, rfl⟩
                              refine l_nil ?_
                              refine c_seq ?_
                              refine c_region ?_
                              refine RL ?_
                              refine l_nil ?_
                              refine c_ret ?_
                              have hk : o.kind = 30 := by omega
                              have e9 : ordT K.toBusA o at_ x = (true, push K.toBusA (pairR (idles K.toBusA 1 x).s.r o.x) (idles K.toBusA 1 x)) := by unfold ordT effB effW effP place; rw [hk]; rfl
                              exact l_end (fun _ _ => rets_v rfl) (.cons _ (List.Sublist.refl _)) ⟨by rw [e9], G2, by rw [e9]; first | done | rfl | (rw [gett_mem]; rfl), by rw [e9]; first | exact hG2 | (rw [gett_mem]; exact hG2)⟩
                             ·have h36n := r_f h36
                              refine c_seq ?_
                              refine c_region ?_
                              refine RL ?_
                              refine RL ?_
                              refine l_nil ?_
                              refine c_cond rfl (fun h37 => ?_) (fun h37 => ?_)
                              ·have h37n := r_f h37
                               refine c_seq ?_
                               refine c_region ?_
                               refine RL ?_
                               refine RL ?_
                               refine l_x (x_callT (F := [(b6, _)]) (A := (sb, _) :: _) call_48 rfl (fun w hw => qspop_fn K sb x (h.le o_m : RunOk K.toBusO (bn + 2) x) G hG w (St.lentV hw))) rfl rfl ?_
                               rintro _ _ ⟨_, ⟨rfl, G1, rfl, hG1⟩, rfl⟩
                               refine RL ?_
                               refine l_nil ?_
                               refine c_draw [(b6, blk (cO o) 47), (sb, blk (cS (pop K.toBusA x).2.s) 26)] [5, 6, 7] (.step true 0 (.step true 1 (.step true 2 (.step true 3 (.step true 4 (.step true 5 (.step true 6 (.step true 7 (.step false 8 (.step true 9 (.step true 10 (.step true 11 (.step true 12 (.step true 13 (.step false 14 .done))))))))))))))) rfl (by kernel_rfl) (by kernel_rfl) (fun x hx => (List.mem_cons.1 hx).elim (fun h => by rw [h]; exact .head _) (fun h => by rw [List.mem_singleton.1 h]; exact .tail _ (.head _))) ?_
                               iterate 3 refine RD ?_
                               refine RDa ?_
                               refine d_loadA rfl rfl rfl rfl (fun w hw => Row.left (srow_own (l := cS (pop K.toBusA x).2.s) m_m w hw)) rfl rfl ?_
                               refine RDa ?_
                               refine RDo ?_
                               refine RD ?_
                               refine d_x rfl (x_call call_39 rfl (fun w hw => qsetPair_fn (pop K.toBusA x).2.s.r o.x (pop K.toBusA x).1 hpp9.2 w)) rfl rfl n_h ?_
                               rintro _ _ ⟨G508, ⟨rfl, k508, rfl⟩, rfl⟩
                               refine d_mv rfl (vnf_eq rfl) rfl rfl ?_
                               iterate 3 refine RD ?_
                               refine RDa ?_
                               refine d_x rfl (x_storeTo (l' := cS { (pop K.toBusA x).2.s with r := setPR (pop K.toBusA x).2.s.r o.x (pop K.toBusA x).1 }) 1 rfl rfl rfl rfl rfl rfl (Nat.le_of_ble_eq_true rfl) rfl) rfl rfl n_h ?_
                               rintro _ _ ⟨rfl, rfl⟩
                               refine c_u ?_
                               refine d_nil ?_
                               refine c_seq ?_
                               refine c_region ?_
                               refine RL ?_
                               refine l_nil ?_
                               refine c_ret ?_
                               have hk : o.kind = 31 := by omega
                               have e9 : ordT K.toBusA o at_ x = (true, (pop K.toBusA x).2.reg (setPR (pop K.toBusA x).2.s.r o.x (pop K.toBusA x).1)) := by unfold ordT effB effW effP place; rw [hk]; rfl
                               exact l_end (fun _ _ => rets_v rfl) (.cons _ (List.Sublist.refl _)) ⟨by rw [e9], G1, by rw [e9]; first | done | rfl | (rw [gett_mem]; rfl), by rw [e9]; first | exact hG1 | (rw [gett_mem]; exact hG1)⟩
                              ·have h37n := r_f h37
                               refine c_seq ?_
                               refine c_region ?_
                               refine RL ?_
                               refine RL ?_
                               refine l_nil ?_
                               refine c_cond rfl (fun h38 => ?_) (fun h38 => ?_)
                               ·have h38n := r_f h38
                                refine c_seq ?_
                                refine c_region ?_
                                refine RL ?_
                                refine RLa ?_
                                refine RLo ?_
                                refine l_x (x_callT (F := [(b6, _)]) (A := (sb, _) :: _) call_49 rfl (fun w hw => qsfar_fn sb x.s h.r x.m o.x (hfr8 o_m) G w (St.lentV hw))) rfl rfl ?_
                                rintro _ _ ⟨_, ⟨rfl, rfl⟩, rfl⟩
                                refine RL ?_
                                refine l_nil ?_
                                refine c_region ?_
                                iterate 3 refine RL ?_
                                refine l_x (x_callT (F := [(b6, _), (sb, _)]) (A := G) call_21 rfl (fun w hw => K.dR (n := bn) (K.oL h.m o_m) hG (St.lentV hw) hfa9.2)) rfl rfl ?_
                                rintro _ _ ⟨G1, ⟨rfl, hG1⟩, rfl⟩
                                refine RL ?_
                                refine RLa ?_
                                refine RLa ?_
                                refine l_x (x_storeTo (l' := cS { (far o.x x).2.s with r := { (far o.x x).2.s.r with a := (K.read (far o.x x).1 x.m).1 } }) 1 rfl rfl rfl rfl rfl rfl (Nat.le_of_ble_eq_true rfl) rfl) rfl rfl ?_
                                rintro _ _ ⟨rfl, rfl⟩
                                refine c_u ?_
                                refine l_nil ?_
                                refine c_seq ?_
                                refine c_region ?_
                                refine RL ?_
                                refine l_nil ?_
                                refine c_ret ?_
                                have hk : o.kind = 32 := by omega
                                have e9 : ordT K.toBusA o at_ x = (true, (⟨{ (far o.x x).2.s with r := { (far o.x x).2.s.r with a := (K.read (far o.x x).1 x.m).1 } }, (K.read (far o.x x).1 x.m).2⟩ : Rn β)) := by
                                 unfold ordT effP place; rw [hk]
                                 show (true, (⟨{ (far o.x x).2.s with r := { (far o.x x).2.s.r with a := (K.read (far o.x x).1 (far o.x x).2.m).1 } }, (K.read (far o.x x).1 (far o.x x).2.m).2⟩ : Rn β)) = _
                                 rw [far_m]
                                exact l_end (fun _ _ => rets_v rfl) (.cons _ (List.Sublist.refl _)) ⟨by rw [e9], G1, by rw [e9]; first | done | rfl, by rw [e9]; exact hG1⟩
                               ·have h38n := r_f h38
                                refine c_seq ?_
                                refine c_region ?_
                                refine RL ?_
                                refine RL ?_
                                refine l_nil ?_
                                refine c_cond rfl (fun h39 => ?_) (fun h39 => ?_)
                                ·have h39n := r_f h39
                                 refine c_seq ?_
                                 refine c_region ?_
                                 refine RL ?_
                                 refine RLa ?_
                                 refine RLo ?_
                                 refine l_x (x_callT (F := [(b6, _)]) (A := (sb, _) :: _) call_49 rfl (fun w hw => qsfar_fn sb x.s h.r x.m o.x (hfr8 o_m) G w (St.lentV hw))) rfl rfl ?_
                                 rintro _ _ ⟨_, ⟨rfl, rfl⟩, rfl⟩
                                 refine RL ?_
                                 refine l_nil ?_
                                 refine c_region ?_
                                 iterate 4 refine RL ?_
                                 refine RLa ?_
                                 refine RLa ?_
                                 refine RLo ?_
                                 refine l_x (x_callT (F := [(b6, _), (sb, _)]) (A := G) call_21 rfl (fun w hw => K.dW (n := bn) (K.oL h.m o_m) hG (St.lentV hw) hfa9.2 hfa9.1.r.a)) rfl rfl ?_
                                 rintro _ _ ⟨G1, ⟨rfl, hG1⟩, rfl⟩
                                 refine l_nil ?_
                                 refine c_seq ?_
                                 refine c_region ?_
                                 refine RL ?_
                                 refine l_nil ?_
                                 refine c_ret ?_
                                 have hk : o.kind = 33 := by omega
                                 have e9 : ordT K.toBusA o at_ x = (true, (far o.x x).2.mem (K.write (far o.x x).1 (far o.x x).2.s.r.a x.m)) := by
                                  unfold ordT effP place; rw [hk]
                                  show (true, (far o.x x).2.mem (K.write (far o.x x).1 (far o.x x).2.s.r.a (far o.x x).2.m)) = _
                                  rw [far_m]
                                 exact l_end (fun _ _ => rets_v rfl) (.cons _ (List.Sublist.refl _)) ⟨by rw [e9], G1, by rw [e9]; first | done | rfl, by rw [e9]; exact hG1⟩
                                ·have h39n := r_f h39
                                 refine c_seq ?_
                                 refine c_region ?_
                                 refine RL ?_
                                 refine RL ?_
                                 refine l_nil ?_
                                 refine c_cond rfl (fun h40 => ?_) (fun h40 => ?_)
                                 ·have h40n := r_f h40
                                  refine c_region ?_
                                  iterate 3 refine RL ?_
                                  refine l_as (l_conv rfl rfl rfl) rfl rfl (by first | exact as_u16 o_m o_m | exact as_u16m _) ?_
                                  refine l_as (l_add rfl rfl) rfl rfl (by first | exact as_u16 o_m o_m | exact as_u16m _) ?_
                                  refine l_x (x_callT (F := [(b6, _), (sb, _)]) (A := G) call_21 rfl (fun w hw => K.dR (n := bn) (K.oL h.m o_m) hG (St.lentV hw) o_m)) rfl rfl ?_
                                  rintro _ _ ⟨G1, ⟨rfl, hG1⟩, rfl⟩
                                  refine RL ?_
                                  refine RLa ?_
                                  refine RLa ?_
                                  refine l_x (x_storeTo (l' := cS { x.s with r := { x.s.r with a := (K.read (65280 + o.n % 256) x.m).1 } }) 1 rfl rfl rfl rfl rfl rfl (Nat.le_of_ble_eq_true rfl) rfl) rfl rfl ?_
                                  rintro _ _ ⟨rfl, rfl⟩
                                  refine c_u ?_
                                  refine l_nil ?_
                                  refine c_seq ?_
                                  refine c_region ?_
                                  refine RL ?_
                                  refine l_nil ?_
                                  refine c_ret ?_
                                  have hk : o.kind = 34 := by omega
                                  have e9 : ordT K.toBusA o at_ x = (true, ⟨{ x.s with r := { x.s.r with a := (K.read (65280 + o.n % 256) x.m).1 } }, (K.read (65280 + o.n % 256) x.m).2⟩) := by unfold ordT effB effW effP place; rw [hk]; rfl
                                  exact l_end (fun _ _ => rets_v rfl) (.cons _ (List.Sublist.refl _)) ⟨by rw [e9], G1, by rw [e9]; first | done | rfl | (rw [gett_mem]; rfl), by rw [e9]; first | exact hG1 | (rw [gett_mem]; exact hG1)⟩
                                 ·have h40n := r_f h40
                                  refine c_seq ?_
                                  refine c_region ?_
                                  refine RL ?_
                                  refine RL ?_
                                  refine l_nil ?_
                                  refine c_cond rfl (fun h41 => ?_) (fun h41 => ?_)
                                  ·have h41n := r_f h41
                                   refine c_region ?_
                                   refine RL ?_
                                   refine RL ?_
                                   refine l_as (l_conv rfl rfl rfl) rfl rfl (by first | exact as_u16 o_m o_m | exact as_u16m _) ?_
                                   refine l_as (l_add rfl rfl) rfl rfl (by first | exact as_u16 o_m o_m | exact as_u16m _) ?_
                                   refine RL ?_
                                   refine RL ?_
                                   refine RLa ?_
                                   refine RLa ?_
                                   refine RLo ?_
                                   refine l_x (x_callT (F := [(b6, _), (sb, _)]) (A := G) call_21 rfl (fun w hw => K.dW (n := bn) (K.oL h.m o_m) hG (St.lentV hw) o_m h.r.a)) rfl rfl ?_
                                   rintro _ _ ⟨G1, ⟨rfl, hG1⟩, rfl⟩
                                   refine l_nil ?_
                                   refine c_seq ?_
                                   refine c_region ?_
                                   refine RL ?_
                                   refine l_nil ?_
                                   refine c_ret ?_
                                   have hk : o.kind = 35 := by omega
                                   have e9 : ordT K.toBusA o at_ x = (true, x.mem (K.write (65280 + o.n % 256) x.s.r.a x.m)) := by unfold ordT effB effW effP place; rw [hk]; rfl
                                   exact l_end (fun _ _ => rets_v rfl) (.cons _ (List.Sublist.refl _)) ⟨by rw [e9], G1, by rw [e9]; first | done | rfl | (rw [gett_mem]; rfl), by rw [e9]; first | exact hG1 | (rw [gett_mem]; exact hG1)⟩
                                  ·have h41n := r_f h41
                                   refine c_seq ?_
                                   refine c_region ?_
                                   refine RL ?_
                                   refine RL ?_
                                   refine l_nil ?_
                                   refine c_cond rfl (fun h42 => ?_) (fun h42 => ?_)
                                   ·have h42n := r_f h42
                                    refine c_region ?_
                                    iterate 4 refine RL ?_
                                    refine RLa ?_
                                    refine RLa ?_
                                    refine RLo ?_
                                    refine l_as (l_conv rfl rfl rfl) rfl rfl (by first | exact as_u16 o_m o_m | exact as_u16m _) ?_
                                    refine l_as (l_add rfl rfl) rfl rfl (by first | exact as_u16 o_m o_m | exact as_u16m _) ?_
                                    refine l_x (x_callT (F := [(b6, _), (sb, _)]) (A := G) call_21 rfl (fun w hw => K.dR (n := bn) (K.oL h.m o_m) hG (St.lentV hw) o_m)) rfl rfl ?_
                                    rintro _ _ ⟨G1, ⟨rfl, hG1⟩, rfl⟩
                                    refine RL ?_
                                    refine RLa ?_
                                    refine RLa ?_
                                    refine l_x (x_storeTo (l' := cS { x.s with r := { x.s.r with a := (K.read (65280 + x.s.r.c) x.m).1 } }) 1 rfl rfl rfl rfl rfl rfl (Nat.le_of_ble_eq_true rfl) rfl) rfl rfl ?_
                                    rintro _ _ ⟨rfl, rfl⟩
                                    refine c_u ?_
                                    refine l_nil ?_
                                    refine c_seq ?_
                                    refine c_region ?_
                                    refine RL ?_
                                    refine l_nil ?_
                                    refine c_ret ?_
                                    have hk : o.kind = 36 := by omega
                                    have e9 : ordT K.toBusA o at_ x = (true, ⟨{ x.s with r := { x.s.r with a := (K.read (65280 + x.s.r.c) x.m).1 } }, (K.read (65280 + x.s.r.c) x.m).2⟩) := by unfold ordT effB effW effP place; rw [hk]; rfl
                                    exact l_end (fun _ _ => rets_v rfl) (.cons _ (List.Sublist.refl _)) ⟨by rw [e9], G1, by rw [e9]; first | done | rfl | (rw [gett_mem]; rfl), by rw [e9]; first | exact hG1 | (rw [gett_mem]; exact hG1)⟩
                                   ·have h42n := r_f h42
                                    refine c_seq ?_
                                    refine c_region ?_
                                    refine RL ?_
                                    refine RL ?_
                                    refine l_nil ?_
                                    refine c_cond rfl (fun h43 => ?_) (fun h43 => ?_)
                                    ·have h43n := r_f h43
                                     refine c_draw [(b6, blk (cO o) 47), (sb, blk (cS x.s) 26)] [8, 9, 10, 11, 12] (.step true 0 (.step true 1 (.step true 2 (.step true 3 (.step true 4 (.step true 5 (.step true 6 (.step true 7 (.step true 8 (.step true 9 (.step true 10 (.step true 11 (.step true 12 (.step false 13 .done)))))))))))))) rfl (by kernel_rfl) (by kernel_rfl) (fun x hx => (List.mem_cons.1 hx).elim (fun h => by rw [h]; exact .head _) (fun h => by rw [List.mem_singleton.1 h]; exact .tail _ (.head _))) ?_
                                     iterate 3 refine RD ?_
                                     refine RDa ?_
                                     refine RDa ?_
                                     refine RDo ?_
                                     refine d_as rfl (l_conv rfl rfl rfl) rfl rfl rfl (by first | exact as_u16 o_m o_m | exact as_u16m _) ?_
                                     refine d_as rfl (l_add rfl rfl) rfl rfl rfl (by first | exact as_u16 o_m o_m | exact as_u16m _) ?_
                                     refine RD ?_
                                     refine RD ?_
                                     refine RDa ?_
                                     refine RDa ?_
                                     refine RDo ?_
                                     refine d_x rfl (x_callT (F := [(b6, _), (sb, _)]) (A := G) call_21 rfl (fun w hw => K.dW (n := bn) (K.oL h.m o_m) hG (St.lentV hw) o_m h.r.a)) rfl rfl n_h ?_
                                     rintro _ _ ⟨G1, ⟨rfl, hG1⟩, rfl⟩
                                     refine d_nil ?_
                                     refine c_seq ?_
                                     refine c_region ?_
                                     refine RL ?_
                                     refine l_nil ?_
                                     refine c_ret ?_
                                     have hk : o.kind = 37 := by omega
                                     have e9 : ordT K.toBusA o at_ x = (true, x.mem (K.write (65280 + x.s.r.c) x.s.r.a x.m)) := by unfold ordT effB effW effP place; rw [hk]; rfl
                                     exact l_end (fun _ _ => rets_v rfl) (.cons _ (List.Sublist.refl _)) ⟨by rw [e9], G1, by rw [e9]; first | done | rfl | (rw [gett_mem]; rfl), by rw [e9]; first | exact hG1 | (rw [gett_mem]; exact hG1)⟩
                                    ·have h43n := r_f h43
                                     refine c_seq ?_
                                     refine c_region ?_
                                     refine RL ?_
                                     refine RL ?_
                                     refine l_nil ?_
                                     refine c_cond rfl (fun h44 => ?_) (fun h44 => ?_)
                                     ·have h44n := r_f h44
                                      refine c_region ?_
                                      refine RL ?_
                                      refine RL ?_
                                      refine RLa ?_
                                      refine RLo ?_
                                      refine l_x (x_callT (F := [(b6, _), (sb, _)]) (A := G) call_21 rfl (fun w hw => K.dR (n := bn) (K.oL h.m o_m) hG (St.lentV hw) ho.n)) rfl rfl ?_
                                      rintro _ _ ⟨G1, ⟨rfl, hG1⟩, rfl⟩
                                      refine RL ?_
                                      refine RLa ?_
                                      refine RLa ?_
                                      refine l_x (x_storeTo (l' := cS { x.s with r := { x.s.r with a := (K.read o.n x.m).1 } }) 1 rfl rfl rfl rfl rfl rfl (Nat.le_of_ble_eq_true rfl) rfl) rfl rfl ?_
                                      rintro _ _ ⟨rfl, rfl⟩
                                      refine c_u ?_
                                      refine l_nil ?_
                                      refine c_seq ?_
                                      refine c_region ?_
                                      refine RL ?_
                                      refine l_nil ?_
                                      refine c_ret ?_
                                      have hk : o.kind = 38 := by omega
                                      have e9 : ordT K.toBusA o at_ x = (true, ⟨{ x.s with r := { x.s.r with a := (K.read o.n x.m).1 } }, (K.read o.n x.m).2⟩) := by unfold ordT effB effW effP place; rw [hk]; rfl
                                      exact l_end (fun _ _ => rets_v rfl) (.cons _ (List.Sublist.refl _)) ⟨by rw [e9], G1, by rw [e9]; first | done | rfl | (rw [gett_mem]; rfl), by rw [e9]; first | exact hG1 | (rw [gett_mem]; exact hG1)⟩
                                     ·have h44n := r_f h44
                                      refine c_seq ?_
                                      refine c_region ?_
                                      refine RL ?_
                                      refine RL ?_
                                      refine l_nil ?_
                                      refine c_cond rfl (fun h45 => ?_) (fun h45 => ?_)
                                      ·have h45n := r_f h45
                                       refine c_draw [(b6, blk (cO o) 47), (sb, blk (cS x.s) 26)] [3, 4, 5, 6, 7] (.step true 0 (.step true 1 (.step true 2 (.step true 3 (.step true 4 (.step true 5 (.step true 6 (.step true 7 (.step false 8 .done))))))))) rfl (by kernel_rfl) (by kernel_rfl) (fun x hx => (List.mem_cons.1 hx).elim (fun h => by rw [h]; exact .head _) (fun h => by rw [List.mem_singleton.1 h]; exact .tail _ (.head _))) ?_
                                       refine RD ?_
                                       refine RDa ?_
                                       refine RDo ?_
                                       refine RD ?_
                                       refine RD ?_
                                       refine RDa ?_
                                       refine RDa ?_
                                       refine RDo ?_
                                       refine d_x rfl (x_callT (F := [(b6, _), (sb, _)]) (A := G) call_21 rfl (fun w hw => K.dW (n := bn) (K.oL h.m o_m) hG (St.lentV hw) ho.n h.r.a)) rfl rfl n_h ?_
                                       rintro _ _ ⟨G1, ⟨rfl, hG1⟩, rfl⟩
                                       refine d_nil ?_
                                       refine c_seq ?_
                                       refine c_region ?_
                                       refine RL ?_
                                       refine l_nil ?_
                                       refine c_ret ?_
                                       have hk : o.kind = 39 := by omega
                                       have e9 : ordT K.toBusA o at_ x = (true, x.mem (K.write o.n x.s.r.a x.m)) := by unfold ordT effB effW effP place; rw [hk]; rfl
                                       exact l_end (fun _ _ => rets_v rfl) (.cons _ (List.Sublist.refl _)) ⟨by rw [e9], G1, by rw [e9]; first | done | rfl | (rw [gett_mem]; rfl), by rw [e9]; first | exact hG1 | (rw [gett_mem]; exact hG1)⟩
                                      ·have h45n := r_f h45
                                       refine c_seq ?_
                                       refine c_region ?_
                                       refine RL ?_
                                       refine RL ?_
                                       refine l_nil ?_
                                       refine c_cond rfl (fun h46 => ?_) (fun h46 => ?_)
                                       ·have h46n := r_f h46
                                        refine c_seq ?_
                                        refine c_draw [(b6, blk (cO o) 47), (sb, blk (cS x.s) 26)] [3, 4, 5, 6, 7, 8, 9] (.step true 0 (.step true 1 (.step true 2 (.step true 3 (.step true 4 (.step true 5 (.step true 6 (.step true 7 (.step true 8 (.step true 9 (.step false 10 .done))))))))))) rfl (by kernel_rfl) (by kernel_rfl) (fun x hx => (List.mem_cons.1 hx).elim (fun h => by rw [h]; exact .head _) (fun h => by rw [List.mem_singleton.1 h]; exact .tail _ (.head _))) ?_
                                        refine RD ?_
                                        refine RDa ?_
                                        refine RDo ?_
                                        refine RD ?_
                                        refine RD ?_
                                        refine RDa ?_
                                        refine RDa ?_
                                        refine RDo ?_
                                        refine d_as rfl (rem_pos rfl rfl (by decide)) rfl rfl rfl (by first | exact as_rem o_m | rfl) ?_
                                        refine d_as rfl (l_conv rfl rfl rfl) rfl rfl rfl (by first | exact as_u8 o_m o_m | exact as_u8m _) ?_
                                        refine d_x rfl (x_callT (F := [(b6, _), (sb, _)]) (A := G) call_21 rfl (fun w hw => K.dW (n := bn + 1) (K.oL h.m o_m) hG (St.lentV hw) ho.n o_m)) rfl rfl n_h ?_
                                        rintro _ _ ⟨G1, ⟨rfl, hG1⟩, rfl⟩
                                        refine d_nil ?_
                                        refine c_draw [(b6, blk (cO o) 47), (sb, blk (cS x.s) 26)] [5, 6, 7, 8, 9, 10, 11, 12] (.step true 0 (.step true 1 (.step true 2 (.step true 3 (.step true 4 (.step true 6 (.step true 7 (.step true 8 (.step true 9 (.step true 10 (.step true 11 (.step true 12 (.step false 5 (.step false 13 .done)))))))))))))) rfl (by kernel_rfl) (by kernel_rfl) (fun x hx => (List.mem_cons.1 hx).elim (fun h => by rw [h]; exact .head _) (fun h => by rw [List.mem_singleton.1 h]; exact .tail _ (.head _))) ?_
                                        refine RD ?_
                                        refine RDa ?_
                                        refine RDo ?_
                                        refine d_as rfl (l_conv rfl rfl rfl) rfl rfl rfl (by first | exact as_i64 o_m o_m | rfl) ?_
                                        refine d_as rfl (l_add rfl rfl) rfl rfl rfl (by first | exact as_i64 o_m o_m | rfl) ?_
                                        refine RD ?_
                                        refine RD ?_
                                        refine RDa ?_
                                        refine RDa ?_
                                        refine RDo ?_
                                        refine d_as rfl (quo_pos rfl rfl (by decide)) rfl rfl rfl (by first | exact as_quo o_m (show _ < (65536 : Int) by omega) (by decide) | rfl) ?_
                                        refine d_as rfl (l_conv rfl rfl rfl) rfl rfl rfl (by first | exact as_u8 o_m o_m | exact as_u8m _) ?_
                                        refine d_x rfl (x_val call_22 rfl (fun w hw => qwordN_fn (o.n + 1) o_m w)) rfl rfl (by intro _ _ _ hK x hx; obtain ⟨rfl, rfl⟩ := hK; repeat (first | exact hx | exact List.mem_append_left _ hx | refine List.mem_append_right _ ?_ | refine .tail _ ?_)) ?_
                                        rintro _ _ ⟨rfl, rfl⟩
                                        refine d_x rfl (x_callT (F := [(b6, _), (sb, _)]) (A := G1) call_21 rfl (fun w hw => K.dW (n := bn) (K.oW (n := bn + 1) (K.oL h.m o_m) ho.n o_m) hG1 (St.lentV hw) inc16_ok o_m)) rfl rfl n_h ?_
                                        rintro _ _ ⟨G2, ⟨rfl, hG2⟩, rfl⟩
                                        refine d_nil ?_
                                        refine c_seq ?_
                                        refine c_region ?_
                                        refine RL ?_
                                        refine l_nil ?_
                                        refine c_ret ?_
                                        have hk : o.kind = 40 := by omega
                                        have e9 : ordT K.toBusA o at_ x = (true, x.mem (K.write (inc16 o.n) (x.s.r.sp / 256) (K.write o.n (x.s.r.sp % 256) x.m))) := by unfold ordT effB effW effP place; rw [hk]; rfl
                                        exact l_end (fun _ _ => rets_v rfl) (.cons _ (List.Sublist.refl _)) ⟨by rw [e9], G2, by rw [e9]; first | done | rfl | (rw [gett_mem]; rfl), by rw [e9]; first | exact hG2 | (rw [gett_mem]; exact hG2)⟩
                                       ·have h46n := r_f h46
                                        refine c_seq ?_
                                        refine c_region ?_
                                        refine RL ?_
                                        refine RL ?_
                                        refine l_nil ?_
                                        refine c_cond rfl (fun h47 => ?_) (fun h47 => ?_)
                                        ·have h47n := r_f h47
                                         refine c_seq ?_
                                         refine c_region ?_
                                         iterate 4 refine RL ?_
                                         refine RLa ?_
                                         refine RLa ?_
                                         refine RLo ?_
                                         refine RL ?_
                                         refine RLv call_50 (fun w hw => qshift_fn x.s.r.sp (o.n % 256) h.r.sp o_m w) ?_
                                         iterate 4 refine RL ?_
                                         refine RLa ?_
                                         refine RLa ?_
                                         refine l_x (x_storeTo (l' := cS { x.s with r := { x.s.r with sp := shR x.s.r.sp (o.n % 256) } }) 1 rfl rfl rfl rfl rfl rfl (Nat.le_of_ble_eq_true rfl) rfl) rfl rfl ?_
                                         rintro _ _ ⟨rfl, rfl⟩
                                         refine c_u ?_
                                         refine RL ?_
                                         refine RLa ?_
                                         refine RLa ?_
                                         refine l_x (x_storeTo (l' := cS (x.reg { x.s.r with sp := shR x.s.r.sp (o.n % 256), f := shF x.s.r.sp (o.n % 256) }).s) 1 rfl rfl rfl rfl rfl rfl (Nat.le_of_ble_eq_true rfl) rfl) rfl rfl ?_
                                         rintro _ _ ⟨rfl, rfl⟩
                                         refine c_u ?_
                                         refine l_nil ?_
                                         refine c_seq ?_
                                         refine c_region ?_
                                         refine RL ?_
                                         refine l_x (x_callT (F := [(b6, _), (sb, _)]) (A := G) call_17 rfl (fun w hw => qidle_fn K x.m (h.le o_m : RunOk K.toBusO (bn + 2) x).m G hG w (St.lentV hw))) rfl rfl ?_
                                         rintro _ _ ⟨G1, ⟨rfl, hG1⟩, rfl⟩
                                         refine l_nil ?_
                                         refine c_region ?_
                                         refine RL ?_
                                         refine l_x (x_callT (F := [(b6, _), (sb, _)]) (A := G1) call_17 rfl (fun w hw => qidle_fn K (K.idle x.m) (K.oI (n := bn + 1) (h.le o_m : RunOk K.toBusO (bn + 2) x).m) G1 hG1 w (St.lentV hw))) rfl rfl ?_
                                         rintro _ _ ⟨G2, ⟨rfl, hG2⟩, rfl⟩
                                         refine l_nil ?_
                                         refine c_seq ?_
                                         refine c_region ?_
                                         refine RL ?_
                                         refine l_nil ?_
                                         refine c_ret ?_
                                         have hk : o.kind = 41 := by omega
                                         have e9 : ordT K.toBusA o at_ x = (true, idles K.toBusA 2 (x.reg { x.s.r with sp := shR x.s.r.sp (o.n % 256), f := shF x.s.r.sp (o.n % 256) })) := by unfold ordT effB effW effP place; rw [hk]; rfl
                                         exact l_end (fun _ _ => rets_v rfl) (.cons _ (List.Sublist.refl _)) ⟨by rw [e9], G2, by rw [e9]; first | done | rfl | (rw [gett_mem]; rfl), by rw [e9]; first | exact hG2 | (rw [gett_mem]; exact hG2)⟩
                                        ·have h47n := r_f h47
                                         refine c_seq ?_
                                         refine c_region ?_
                                         refine RL ?_
                                         refine RL ?_
                                         refine l_nil ?_
                                         refine c_cond rfl (fun h48 => ?_) (fun h48 => ?_)
                                         ·have h48n := r_f h48
                                          refine c_seq ?_
                                          refine c_region ?_
                                          refine RL ?_
                                          refine RL ?_
                                          refine RLa ?_
                                          refine RLa ?_
                                          refine RLo ?_
                                          refine RL ?_
                                          refine RLv call_50 (fun w hw => qshift_fn x.s.r.sp (o.n % 256) h.r.sp o_m w) ?_
                                          iterate 5 refine RL ?_
                                          refine l_nil ?_
                                          refine c_seq ?_
                                          refine c_region ?_
                                          iterate 3 refine RL ?_
                                          refine RLa ?_
                                          refine l_x (x_loadA rfl rfl rfl (fun w hw => Row.left (row_own (l := cS x.s) m_m w hw))) rfl rfl ?_
                                          rintro _ _ ⟨rfl, rfl⟩
                                          refine RL ?_
                                          refine l_x (x_call call_39 rfl (fun w hw => qsetPair_fn x.s.r 2 (shR x.s.r.sp (o.n % 256)) shR_ok w)) rfl rfl ?_
                                          rintro _ _ ⟨G685, ⟨rfl, k685, rfl⟩, rfl⟩
                                          iterate 4 refine RL ?_
                                          refine RLa ?_
                                          refine l_x (x_storeTo (l' := cS { x.s with r := setPR x.s.r 2 (shR x.s.r.sp (o.n % 256)) }) 1 rfl rfl rfl rfl rfl rfl (Nat.le_of_ble_eq_true rfl) rfl) rfl rfl ?_
                                          rintro _ _ ⟨rfl, rfl⟩
                                          refine c_u ?_
                                          refine l_nil ?_
                                          refine c_seq ?_
                                          refine c_region ?_
                                          iterate 3 refine RL ?_
                                          refine RLa ?_
                                          refine RLa ?_
                                          refine l_x (x_storeTo (l' := cS (x.reg (setPR { x.s.r with f := shF x.s.r.sp (o.n % 256) } 2 (shR x.s.r.sp (o.n % 256)))).s) 1 rfl rfl rfl rfl rfl rfl (Nat.le_of_ble_eq_true rfl) rfl) rfl rfl ?_
                                          rintro _ _ ⟨rfl, rfl⟩
                                          refine c_u ?_
                                          refine l_nil ?_
                                          refine c_region ?_
                                          refine RL ?_
                                          refine l_x (x_callT (F := [(b6, _), (sb, _)]) (A := G) call_17 rfl (fun w hw => qidle_fn K x.m (h.le o_m : RunOk K.toBusO (bn + 1) x).m G hG w (St.lentV hw))) rfl rfl ?_
                                          rintro _ _ ⟨G1, ⟨rfl, hG1⟩, rfl⟩
                                          refine l_nil ?_
                                          refine c_seq ?_
                                          refine c_region ?_
                                          refine RL ?_
                                          refine l_nil ?_
                                          refine c_ret ?_
                                          have hk : o.kind = 42 := by omega
                                          have e9 : ordT K.toBusA o at_ x = (true, idles K.toBusA 1 (x.reg (setPR { x.s.r with f := shF x.s.r.sp (o.n % 256) } 2 (shR x.s.r.sp (o.n % 256))))) := by unfold ordT effB effW effP place; rw [hk]; rfl
                                          exact l_end (fun _ _ => rets_v rfl) (.cons _ (List.Sublist.refl _)) ⟨by rw [e9], G1, by rw [e9]; first | done | rfl | (rw [gett_mem]; rfl), by rw [e9]; first | exact hG1 | (rw [gett_mem]; exact hG1)⟩
                                         ·have h48n := r_f h48
                                          refine c_seq ?_
                                          refine c_region ?_
                                          refine RL ?_
                                          refine RL ?_
                                          refine l_nil ?_
                                          refine c_cond rfl (fun h49 => ?_) (fun h49 => ?_)
                                          ·have h49n := r_f h49
                                           refine c_seq ?_
                                           refine c_region ?_
                                           refine RL ?_
                                           refine RL ?_
                                           refine RLv call_43 (fun w hw => qspair_fn sb x.s h.r w (row_own (l := cS x.s) m_m w hw) 2) ?_
                                           refine RL ?_
                                           refine RLa ?_
                                           refine RLa ?_
                                           refine l_x (x_storeTo (l' := cS (x.reg { x.s.r with sp := (pairR x.s.r 2) }).s) 1 rfl rfl rfl rfl rfl rfl (Nat.le_of_ble_eq_true rfl) rfl) rfl rfl ?_
                                           rintro _ _ ⟨rfl, rfl⟩
                                           refine c_u ?_
                                           refine l_nil ?_
                                           refine c_region ?_
                                           refine RL ?_
                                           refine l_x (x_callT (F := [(b6, _), (sb, _)]) (A := G) call_17 rfl (fun w hw => qidle_fn K x.m (h.le o_m : RunOk K.toBusO (bn + 1) x).m G hG w (St.lentV hw))) rfl rfl ?_
                                           rintro _ _ ⟨G1, ⟨rfl, hG1⟩, rfl⟩
                                           refine l_nil ?_
                                           refine c_seq ?_
                                           refine c_region ?_
                                           refine RL ?_
                                           refine l_nil ?_
                                           refine c_ret ?_
                                           have hk : o.kind = 43 := by omega
                                           have e9 : ordT K.toBusA o at_ x = (true, idles K.toBusA 1 (x.reg { x.s.r with sp := (pairR x.s.r 2) })) := by unfold ordT effB effW effP place; rw [hk]; rfl
                                           exact l_end (fun _ _ => rets_v rfl) (.cons _ (List.Sublist.refl _)) ⟨by rw [e9], G1, by rw [e9]; first | done | rfl | (rw [gett_mem]; rfl), by rw [e9]; first | exact hG1 | (rw [gett_mem]; exact hG1)⟩
                                          ·have h49n := r_f h49
                                           refine c_seq ?_
                                           refine c_region ?_
                                           refine RL ?_
                                           refine RL ?_
                                           refine l_nil ?_
                                           refine c_cond rfl (fun h50 => ?_) (fun h50 => ?_)
                                           ·have h50n := r_f h50
                                            refine c_draw [(b6, blk (cO o) 47)] [3, 4, 5, 6, 7, 8] (.step true 0 (.step true 1 (.step true 2 (.step true 3 (.step true 4 (.step true 5 (.step true 6 (.step true 8 (.step false 7 (.step false 9 (.step true 10 (.step true 11 (.step true 12 (.step false 13 .done)))))))))))))) rfl (by kernel_rfl) (by kernel_rfl) (fun x hx => by obtain rfl := List.mem_singleton.1 hx; exact .head _) ?_
                                            refine RD ?_
                                            refine RDa ?_
                                            refine RDo ?_
                                            refine RD ?_
                                            refine RD ?_
                                            refine RDa ?_
                                            refine RDo ?_
                                            refine RD ?_
                                            refine d_x rfl (x_callT (F := [(b6, _)]) (A := (sb, _) :: _) call_38 rfl (fun w hw => qsget_fn K sb x (h.le o_m : RunOk K.toBusO (bn + 4) x) G hG o.y w (St.lentV hw))) rfl rfl (by intro _ _ _ hK x hx; obtain ⟨_, ⟨rfl, G1, rfl, hG1⟩, rfl⟩ := hK; repeat (first | exact hx | exact List.mem_append_left _ hx | refine List.mem_append_right _ ?_ | refine .tail _ ?_)) ?_
                                            rintro _ _ ⟨_, ⟨rfl, G1, rfl, hG1⟩, rfl⟩
                                            refine d_x rfl (x_val call_51 rfl (fun w hw => qbitF_fn o.x (gett K.toBusA o.y x).1 x.s.r.f hgy9.2 h.r.f w)) rfl rfl n_h ?_
                                            rintro _ _ ⟨rfl, rfl⟩
                                            refine RD ?_
                                            refine RDa ?_
                                            refine RDa ?_
                                            refine d_x rfl (x_storeTo (l' := cS { x.s with r := { x.s.r with f := bitF o.x (gett K.toBusA o.y x).1 x.s.r.f } }) 1 rfl rfl rfl rfl rfl rfl (Nat.le_of_ble_eq_true rfl) rfl) rfl rfl n_h ?_
                                            rintro _ _ ⟨rfl, rfl⟩
                                            refine c_u ?_
                                            refine d_nil ?_
                                            refine c_seq ?_
                                            refine c_region ?_
                                            refine RL ?_
                                            refine l_nil ?_
                                            refine c_ret ?_
                                            have hk : o.kind = 44 := by omega
                                            have e9 : ordT K.toBusA o at_ x = (true, (gett K.toBusA o.y x).2.reg { (gett K.toBusA o.y x).2.s.r with f := bitF o.x (gett K.toBusA o.y x).1 x.s.r.f }) := by unfold ordT effB effW effP place; rw [hk]; rfl
                                            exact l_end (fun _ _ => rets_v rfl) (.cons _ (List.Sublist.refl _)) ⟨by rw [e9], G1, by rw [e9]; first | done | rfl | (rw [gett_mem]; rfl), by rw [e9]; first | exact hG1 | (rw [gett_mem]; exact hG1)⟩
                                           ·have h50n := r_f h50
                                            refine c_seq ?_
                                            refine c_region ?_
                                            refine RL ?_
                                            refine RL ?_
                                            refine l_nil ?_
                                            refine c_cond rfl (fun h51 => ?_) (fun h51 => ?_)
                                            ·have h51n := r_f h51
                                             refine c_draw [(b6, blk (cO o) 47)] [4, 5, 6, 7, 8, 9, 10, 11] (.step true 0 (.step true 1 (.step true 2 (.step true 3 (.step true 4 (.step true 5 (.step true 6 (.step true 7 (.step true 9 (.step true 10 (.step false 8 (.step false 11 (.step false 12 .done))))))))))))) rfl (by kernel_rfl) (by kernel_rfl) (fun x hx => by obtain rfl := List.mem_singleton.1 hx; exact .head _) ?_
                                             refine RD ?_
                                             refine RD ?_
                                             refine RDa ?_
                                             refine RDo ?_
                                             refine RD ?_
                                             refine RD ?_
                                             refine RDa ?_
                                             refine RDo ?_
                                             refine RDa ?_
                                             refine RDo ?_
                                             refine d_x rfl (x_callT (F := [(b6, _)]) (A := (sb, _) :: _) call_38 rfl (fun w hw => qsget_fn K sb x (h.le o_m : RunOk K.toBusO (bn + 4) x) G hG o.y w (St.lentV hw))) rfl rfl (by intro _ _ _ hK x hx; obtain ⟨_, ⟨rfl, G1, rfl, hG1⟩, rfl⟩ := hK; repeat (first | exact hx | exact List.mem_append_left _ hx | refine List.mem_append_right _ ?_ | refine .tail _ ?_)) ?_
                                             rintro _ _ ⟨_, ⟨rfl, G1, rfl, hG1⟩, rfl⟩
                                             refine d_x rfl (x_val call_52 rfl (fun w hw => qres_fn (gett K.toBusA o.y x).1 o.x hgy9.2 ho.x w)) rfl rfl (by intro _ _ _ hK x hx; obtain ⟨rfl, rfl⟩ := hK; repeat (first | exact hx | exact List.mem_append_left _ hx | refine List.mem_append_right _ ?_ | refine .tail _ ?_)) ?_
                                             rintro _ _ ⟨rfl, rfl⟩
                                             refine d_x rfl (x_callT (F := [(b6, _)]) (A := (sb, _) :: _) call_37 rfl (fun w hw => qsset_fn K sb (x.mem (gett K.toBusA o.y x).2.m) (RunOk.gmem (h.le o_m : RunOk K.toBusO (bn + 3) x) o.y) G1 hG1 o.y (resB (gett K.toBusA o.y x).1 o.x) (bits_ok hgy9.2 ho.x).1 w (St.lentV hw))) rfl rfl n_h ?_
                                             rintro _ _ ⟨_, ⟨rfl, G2, rfl, hG2⟩, rfl⟩
                                             refine d_nil ?_
                                             refine c_seq ?_
                                             refine c_region ?_
                                             refine RL ?_
                                             refine l_nil ?_
                                             refine c_ret ?_
                                             have hk : o.kind = 45 := by omega
                                             have e9 : ordT K.toBusA o at_ x = (true, sett K.toBusA o.y (resB (gett K.toBusA o.y x).1 o.x) (gett K.toBusA o.y x).2) := by unfold ordT effB effW effP place; rw [hk]; rfl
                                             exact l_end (fun _ _ => rets_v rfl) (.cons _ (List.Sublist.refl _)) ⟨by rw [e9], G2, by rw [e9]; first | done | rfl | (rw [gett_mem]; rfl), by rw [e9]; first | exact hG2 | (rw [gett_mem]; exact hG2)⟩
                                            ·have h51n := r_f h51
                                             refine c_seq ?_
                                             refine c_region ?_
                                             refine RL ?_
                                             refine RL ?_
                                             refine l_nil ?_
                                             refine c_cond rfl (fun h52 => ?_) (fun h52 => ?_)
                                             ·have h52n := r_f h52
                                              refine c_draw [(b6, blk (cO o) 47)] [4, 5, 6, 7, 8, 9, 10, 11] (.step true 0 (.step true 1 (.step true 2 (.step true 3 (.step true 4 (.step true 5 (.step true 6 (.step true 7 (.step true 9 (.step true 10 (.step false 8 (.step false 11 (.step false 12 .done))))))))))))) rfl (by kernel_rfl) (by kernel_rfl) (fun x hx => by obtain rfl := List.mem_singleton.1 hx; exact .head _) ?_
                                              refine RD ?_
                                              refine RD ?_
                                              refine RDa ?_
                                              refine RDo ?_
                                              refine RD ?_
                                              refine RD ?_
                                              refine RDa ?_
                                              refine RDo ?_
                                              refine RDa ?_
                                              refine RDo ?_
                                              refine d_x rfl (x_callT (F := [(b6, _)]) (A := (sb, _) :: _) call_38 rfl (fun w hw => qsget_fn K sb x (h.le o_m : RunOk K.toBusO (bn + 4) x) G hG o.y w (St.lentV hw))) rfl rfl (by intro _ _ _ hK x hx; obtain ⟨_, ⟨rfl, G1, rfl, hG1⟩, rfl⟩ := hK; repeat (first | exact hx | exact List.mem_append_left _ hx | refine List.mem_append_right _ ?_ | refine .tail _ ?_)) ?_
                                              rintro _ _ ⟨_, ⟨rfl, G1, rfl, hG1⟩, rfl⟩
                                              refine d_x rfl (x_val call_52 rfl (fun w hw => qsetb_fn (gett K.toBusA o.y x).1 o.x hgy9.2 ho.x w)) rfl rfl (by intro _ _ _ hK x hx; obtain ⟨rfl, rfl⟩ := hK; repeat (first | exact hx | exact List.mem_append_left _ hx | refine List.mem_append_right _ ?_ | refine .tail _ ?_)) ?_
                                              rintro _ _ ⟨rfl, rfl⟩
                                              refine d_x rfl (x_callT (F := [(b6, _)]) (A := (sb, _) :: _) call_37 rfl (fun w hw => qsset_fn K sb (x.mem (gett K.toBusA o.y x).2.m) (RunOk.gmem (h.le o_m : RunOk K.toBusO (bn + 3) x) o.y) G1 hG1 o.y (setB (gett K.toBusA o.y x).1 o.x) (bits_ok hgy9.2 ho.x).2 w (St.lentV hw))) rfl rfl n_h ?_
                                              rintro _ _ ⟨_, ⟨rfl, G2, rfl, hG2⟩, rfl⟩
                                              refine d_nil ?_
                                              refine c_seq ?_
                                              refine c_region ?_
                                              refine RL ?_
                                              refine l_nil ?_
                                              refine c_ret ?_
                                              have hk : o.kind = 46 := by omega
                                              have e9 : ordT K.toBusA o at_ x = (true, sett K.toBusA o.y (setB (gett K.toBusA o.y x).1 o.x) (gett K.toBusA o.y x).2) := by unfold ordT effB effW effP place; rw [hk]; rfl
                                              exact l_end (fun _ _ => rets_v rfl) (.cons _ (List.Sublist.refl _)) ⟨by rw [e9], G2, by rw [e9]; first | done | rfl | (rw [gett_mem]; rfl), by rw [e9]; first | exact hG2 | (rw [gett_mem]; exact hG2)⟩
                                             ·have h52n := r_f h52
                                              refine c_skip ?_
                                              refine c_seq ?_
                                              refine c_region ?_
                                              refine RL ?_
                                              refine l_nil ?_
                                              refine c_ret ?_
                                              have e9 := (ordT_no o_m : ordT K.toBusA o at_ x = (true, x))
                                              exact l_end (fun _ _ => rets_v rfl) (.cons _ (List.Sublist.refl _)) ⟨by rw [e9], G, by rw [e9]; first | done | rfl, by rw [e9]; exact hG⟩

end Go.Proofs.YtjjemehigdpboaaGreat
