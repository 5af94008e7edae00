/- What the laws of layer 15 do. -/
import Derived.Test.YtjceoaomkbabmaaMcF
import Derived.Test.YtjceoaomkbabmaaMcG
namespace Go.Proofs.Ytjceoaomkbabmaa
open Go Go.VV Go.Proofs
set_option linter.unusedSimpArgs false
set_option linter.unusedVariables false
set_option maxRecDepth 100000
set_option maxHeartbeats 2000000 in
theorem paint_fn (b : Nat) (u : PU) (hu : u.Wf) (w : World) (hst : St w [b] [(b, blk (cU u) 60)] w) (hl : u.line < 144) (ho : u.own < 600) : Does Try.prog 33 [.pointer (some ⟨b, 0, none⟩)] w [b] (fun v H => v = .tuple #[] ∧ H = [(b, blk (cU (paintU u)) 60)]) := by
  have hlb := hu.line
  have hob := hu.own
  refine does_of Try.func33 rfl rfl rfl hst ?_
  refine c_seq ?_
  refine c_region ?_
  refine l_l rfl rfl rfl ?_
  refine l_l rfl rfl rfl ?_
  refine l_l (light_fa rfl rfl) rfl rfl ?_
  refine l_l rfl rfl rfl ?_
  refine l_nil ?_
  refine c_seq ?_
  refine c_draw _ [4, 5, 6, 7, 8, 9, 10, 11, 12, 13, 14, 15, 16, 17, 18, 19, 21] (.step true 0 (.step true 1 (.step true 2 (.step true 3 (.step true 4 (.step true 5 (.step true 6 (.step true 7 (.step true 8 (.step true 9 (.step true 10 (.step true 11 (.step true 12 (.step true 13 (.step true 14 (.step true 15 (.step true 16 (.step true 17 (.step true 18 (.step true 19 (.step true 20 (.step false 21 (.step false 22 .done))))))))))))))))))))))) rfl (by kernel_rfl) (by kernel_rfl) (fun _ h => h) ?_
  refine d_light rfl rfl rfl rfl rfl ?_
  refine d_light rfl rfl rfl rfl rfl ?_
  refine d_light rfl (by first | exact idx_array1 0 rfl rfl rfl rfl (by decide) | exact idx_slice1 0 rfl rfl rfl rfl (by decide) | exact idx_array 0 rfl rfl rfl rfl (by decide) | exact idx_slice 0 rfl rfl rfl rfl (by decide)) rfl rfl rfl ?_
  refine d_load rfl rfl rfl (s_own (by repeat (first | exact .head _ | refine .tail _ ?_ | refine List.mem_append_right _ ?_)) (cU_R hu (j := 0) (by decide))) rfl rfl ?_
  refine d_light rfl rfl rfl rfl rfl ?_
  refine d_light rfl rfl rfl rfl rfl ?_
  refine d_light rfl (by first | exact idx_array1 3 rfl rfl rfl rfl (by decide) | exact idx_slice1 3 rfl rfl rfl rfl (by decide) | exact idx_array 3 rfl rfl rfl rfl (by decide) | exact idx_slice 3 rfl rfl rfl rfl (by decide)) rfl rfl rfl ?_
  refine d_load rfl rfl rfl (s_own (by repeat (first | exact .head _ | refine .tail _ ?_ | refine List.mem_append_right _ ?_)) (cU_R hu (j := 3) (by decide))) rfl rfl ?_
  refine d_light rfl rfl rfl rfl rfl ?_
  refine d_light rfl rfl rfl rfl rfl ?_
  refine d_light rfl (by first | exact idx_array1 2 rfl rfl rfl rfl (by decide) | exact idx_slice1 2 rfl rfl rfl rfl (by decide) | exact idx_array 2 rfl rfl rfl rfl (by decide) | exact idx_slice 2 rfl rfl rfl rfl (by decide)) rfl rfl rfl ?_
  refine d_load rfl rfl rfl (s_own (by repeat (first | exact .head _ | refine .tail _ ?_ | refine List.mem_append_right _ ?_)) (cU_R hu (j := 2) (by decide))) rfl rfl ?_
  refine d_light rfl rfl rfl rfl rfl ?_
  refine d_light rfl rfl rfl rfl rfl ?_
  refine d_light rfl (by first | exact idx_array1 11 rfl rfl rfl rfl (by decide) | exact idx_slice1 11 rfl rfl rfl rfl (by decide) | exact idx_array 11 rfl rfl rfl rfl (by decide) | exact idx_slice 11 rfl rfl rfl rfl (by decide)) rfl rfl rfl ?_
  refine d_load rfl rfl rfl (s_own (by repeat (first | exact .head _ | refine .tail _ ?_ | refine List.mem_append_right _ ?_)) (cU_R hu (j := 11) (by decide))) rfl rfl ?_
  refine d_light rfl rfl rfl rfl rfl ?_
  refine d_light rfl rfl rfl rfl rfl ?_
  refine d_light rfl (by first | exact idx_array1 10 rfl rfl rfl rfl (by decide) | exact idx_slice1 10 rfl rfl rfl rfl (by decide) | exact idx_array 10 rfl rfl rfl rfl (by decide) | exact idx_slice 10 rfl rfl rfl rfl (by decide)) rfl rfl rfl ?_
  refine d_load rfl rfl rfl (s_own (by repeat (first | exact .head _ | refine .tail _ ?_ | refine List.mem_append_right _ ?_)) (cU_R hu (j := 10) (by decide))) rfl rfl ?_
  refine d_light rfl (light_struct rfl rfl rfl rfl) rfl rfl rfl ?_
  refine d_x rfl (x_alloc rfl) rfl rfl (by intro _ _ _ hK x hx; obtain ⟨_, rfl, rfl⟩ := hK; repeat (first | exact hx | exact List.mem_append_left _ hx | refine List.mem_append_right _ ?_ | refine .tail _ ?_)) ?_
  rintro _ _ ⟨b3, rfl, rfl⟩
  refine d_x rfl (by first | exact x_store 0 rfl rfl rfl rfl rfl rfl (by first | rfl | exact Nat.le_of_ble_eq_true rfl | (simp; done)) | exact x_store 1 rfl rfl rfl rfl rfl rfl (by first | rfl | exact Nat.le_of_ble_eq_true rfl | (simp; done)) | exact x_store 2 rfl rfl rfl rfl rfl rfl (by first | rfl | exact Nat.le_of_ble_eq_true rfl | (simp; done)) | exact x_store 3 rfl rfl rfl rfl rfl rfl (by first | rfl | exact Nat.le_of_ble_eq_true rfl | (simp; done))) rfl rfl (by intro h; cases h) ?_
  rintro _ _ ⟨rfl, rfl⟩
  refine d_nil ?_
  refine c_seq ?_
  refine c_draw _ [4, 5, 6, 7, 8, 9, 10, 11, 12, 13, 14, 15, 17] (.step true 0 (.step true 1 (.step true 2 (.step true 3 (.step true 4 (.step true 5 (.step true 6 (.step true 7 (.step true 8 (.step true 9 (.step true 10 (.step true 11 (.step true 12 (.step true 13 (.step true 14 (.step true 15 (.step true 16 (.step false 17 (.step false 18 .done))))))))))))))))))) rfl (by kernel_rfl) (by kernel_rfl) (fun _ h => h) ?_
  refine d_light rfl rfl rfl rfl rfl ?_
  refine d_light rfl rfl rfl rfl rfl ?_
  refine d_light rfl (by first | exact idx_array1 0 rfl rfl rfl rfl (by decide) | exact idx_slice1 0 rfl rfl rfl rfl (by decide) | exact idx_array 0 rfl rfl rfl rfl (by decide) | exact idx_slice 0 rfl rfl rfl rfl (by decide)) rfl rfl rfl ?_
  refine d_load rfl rfl rfl (s_own (by repeat (first | exact .head _ | refine .tail _ ?_ | refine List.mem_append_right _ ?_)) (cU_R hu (j := 0) (by decide))) rfl rfl ?_
  refine d_light rfl rfl rfl rfl rfl ?_
  refine d_light rfl rfl rfl rfl rfl ?_
  refine d_light rfl (by first | exact idx_array1 7 rfl rfl rfl rfl (by decide) | exact idx_slice1 7 rfl rfl rfl rfl (by decide) | exact idx_array 7 rfl rfl rfl rfl (by decide) | exact idx_slice 7 rfl rfl rfl rfl (by decide)) rfl rfl rfl ?_
  refine d_load rfl rfl rfl (s_own (by repeat (first | exact .head _ | refine .tail _ ?_ | refine List.mem_append_right _ ?_)) (cU_R hu (j := 7) (by decide))) rfl rfl ?_
  refine d_light rfl rfl rfl rfl rfl ?_
  refine d_light rfl rfl rfl rfl rfl ?_
  refine d_light rfl (by first | exact idx_array1 8 rfl rfl rfl rfl (by decide) | exact idx_slice1 8 rfl rfl rfl rfl (by decide) | exact idx_array 8 rfl rfl rfl rfl (by decide) | exact idx_slice 8 rfl rfl rfl rfl (by decide)) rfl rfl rfl ?_
  refine d_load rfl rfl rfl (s_own (by repeat (first | exact .head _ | refine .tail _ ?_ | refine List.mem_append_right _ ?_)) (cU_R hu (j := 8) (by decide))) rfl rfl ?_
  refine d_light rfl rfl rfl rfl rfl ?_
  refine d_light rfl rfl rfl rfl rfl ?_
  refine d_light rfl (by first | exact idx_array1 9 rfl rfl rfl rfl (by decide) | exact idx_slice1 9 rfl rfl rfl rfl (by decide) | exact idx_array 9 rfl rfl rfl rfl (by decide) | exact idx_slice 9 rfl rfl rfl rfl (by decide)) rfl rfl rfl ?_
  refine d_load rfl rfl rfl (s_own (by repeat (first | exact .head _ | refine .tail _ ?_ | refine List.mem_append_right _ ?_)) (cU_R hu (j := 9) (by decide))) rfl rfl ?_
  refine d_light rfl (light_struct rfl rfl rfl rfl) rfl rfl rfl ?_
  refine d_x rfl (x_alloc rfl) rfl rfl (by intro _ _ _ hK x hx; obtain ⟨_, rfl, rfl⟩ := hK; repeat (first | exact hx | exact List.mem_append_left _ hx | refine List.mem_append_right _ ?_ | refine .tail _ ?_)) ?_
  rintro _ _ ⟨b4, rfl, rfl⟩
  refine d_x rfl (by first | exact x_store 0 rfl rfl rfl rfl rfl rfl (by first | rfl | exact Nat.le_of_ble_eq_true rfl | (simp; done)) | exact x_store 1 rfl rfl rfl rfl rfl rfl (by first | rfl | exact Nat.le_of_ble_eq_true rfl | (simp; done)) | exact x_store 2 rfl rfl rfl rfl rfl rfl (by first | rfl | exact Nat.le_of_ble_eq_true rfl | (simp; done)) | exact x_store 3 rfl rfl rfl rfl rfl rfl (by first | rfl | exact Nat.le_of_ble_eq_true rfl | (simp; done))) rfl rfl (by intro h; cases h) ?_
  rintro _ _ ⟨rfl, rfl⟩
  refine d_nil ?_
  refine c_seq ?_
  refine c_draw _ [1, 2, 3, 4, 5, 6, 7, 8, 9, 10, 11, 12, 17] (.step true 0 (.step true 1 (.step true 2 (.step true 3 (.step true 4 (.step true 5 (.step true 6 (.step true 7 (.step true 8 (.step true 9 (.step true 10 (.step true 11 (.step true 12 (.fork 13 (.step true 14 (.step true 15 (.step true 16 (.step false 17 (.step false 18 (.step true 19 .done)))))) (.fork 17 (.step false 13 (.step true 14 (.step true 15 (.step true 16 (.step false 18 (.step true 19 .done)))))) .stop))))))))))))))) rfl (by kernel_rfl) (by kernel_rfl) (fun _ h => h) ?_
  refine d_loadA rfl rfl rfl rfl (by first | exact srow_own (by repeat (first | exact .head _ | refine .tail _ ?_ | refine List.mem_append_right _ ?_)) | exact srow_own_at (by repeat (first | exact .head _ | refine .tail _ ?_ | refine List.mem_append_right _ ?_)) _ 5 rfl) rfl rfl ?_
  refine d_light rfl rfl rfl rfl rfl ?_
  refine d_light rfl rfl rfl rfl rfl ?_
  refine d_light rfl (light_fa rfl rfl) rfl rfl rfl ?_
  refine d_as (v := (.slice (some ⟨b, 0, none⟩) u.V.length 8192)) rfl (cut_array1 0 8192 rfl rfl rfl rfl rfl rfl (by decide) (by decide)) rfl rfl rfl (by rw [hu.lV]; rfl) ?_
  refine d_light rfl rfl rfl rfl rfl ?_
  refine d_light rfl rfl rfl rfl rfl ?_
  refine d_light rfl (light_fa rfl rfl) rfl rfl rfl ?_
  refine d_load rfl rfl rfl (s_own (by repeat (first | exact .head _ | refine .tail _ ?_ | refine List.mem_append_right _ ?_)) (cU_line hu)) rfl rfl ?_
  refine d_light rfl rfl rfl rfl rfl ?_
  refine d_light rfl rfl rfl rfl rfl ?_
  refine d_light rfl (light_fa rfl rfl) rfl rfl rfl ?_
  refine d_load rfl rfl rfl (s_own (by repeat (first | exact .head _ | refine .tail _ ?_ | refine List.mem_append_right _ ?_)) (cU_own hu)) rfl rfl ?_
  refine d_fork ?_ ?_
  · refine d_x rfl (x_val call_46 rfl (fun w hw => tline_fn _ _ u.V hu.bV (viewU u) (viewU_ok hu) u.line u.own w (Ns.of (rowV (row_own (by repeat (first | exact .head _ | refine .tail _ ?_ | refine List.mem_append_right _ ?_)) w hw))))) rfl rfl (by intro h; cases h) ?_
    rintro _ _ ⟨rfl, rfl⟩
    refine d_mv rfl (vnf_eq rfl) rfl rfl ?_
    refine d_light rfl rfl rfl rfl rfl ?_
    refine d_light rfl rfl rfl rfl rfl ?_
    refine d_x rfl (x_alloc rfl) rfl rfl (by intro _ _ _ hK x hx; obtain ⟨_, rfl, rfl⟩ := hK; repeat (first | exact hx | exact List.mem_append_left _ hx | refine List.mem_append_right _ ?_ | refine .tail _ ?_)) ?_
    rintro _ _ ⟨b5, rfl, rfl⟩
    refine d_x rfl (by first | exact x_store 0 rfl rfl rfl rfl rfl rfl (by first | rfl | exact Nat.le_of_ble_eq_true rfl | (simp; done)) | exact x_store 1 rfl rfl rfl rfl rfl rfl (by first | rfl | exact Nat.le_of_ble_eq_true rfl | (simp; done)) | exact x_store 2 rfl rfl rfl rfl rfl rfl (by first | rfl | exact Nat.le_of_ble_eq_true rfl | (simp; done)) | exact x_store 3 rfl rfl rfl rfl rfl rfl (by first | rfl | exact Nat.le_of_ble_eq_true rfl | (simp; done))) rfl rfl (by intro h; cases h) ?_
    rintro _ _ ⟨rfl, rfl⟩
    refine d_light rfl rfl rfl rfl rfl ?_
    refine d_nil ?_
    refine c_seq ?_
    refine c_draw _ [5, 6, 7, 8, 9, 10, 11, 12, 13, 14, 15, 16, 17, 18, 19, 20, 21] (.step true 0 (.step true 1 (.step true 2 (.step true 3 (.step true 4 (.step true 5 (.step true 6 (.step true 7 (.step true 8 (.step true 9 (.step true 10 (.step true 11 (.step true 12 (.step true 13 (.step true 14 (.step true 15 (.step true 16 (.step true 17 (.step true 18 (.step true 20 (.step true 21 (.step false 19 (.step true 22 (.step false 23 .done)))))))))))))))))))))))) rfl (by kernel_rfl) (by kernel_rfl) (fun _ h => h) ?_
    refine d_light rfl rfl rfl rfl rfl ?_
    refine d_light rfl rfl rfl rfl rfl ?_
    refine d_light rfl rfl rfl rfl rfl ?_
    refine d_light rfl (light_fa rfl rfl) rfl rfl rfl ?_
    refine d_load rfl rfl rfl (s_own (by repeat (first | exact .head _ | refine .tail _ ?_ | refine List.mem_append_right _ ?_)) (cU_line hu)) rfl rfl ?_
    refine d_loadA rfl rfl rfl rfl (by first | exact srow_own (by repeat (first | exact .head _ | refine .tail _ ?_ | refine List.mem_append_right _ ?_)) | exact srow_own_at (by repeat (first | exact .head _ | refine .tail _ ?_ | refine List.mem_append_right _ ?_)) _ 4 rfl) rfl rfl ?_
    refine d_light rfl rfl rfl rfl rfl ?_
    refine d_light rfl rfl rfl rfl rfl ?_
    refine d_light rfl (light_fa rfl rfl) rfl rfl rfl ?_
    refine d_as (v := (.slice (some ⟨b, 0, none⟩) u.V.length 8192)) rfl (cut_array1 0 8192 rfl rfl rfl rfl rfl rfl (by decide) (by decide)) rfl rfl rfl (by rw [hu.lV]; rfl) ?_
    refine d_light rfl rfl rfl rfl rfl ?_
    refine d_light rfl rfl rfl rfl rfl ?_
    refine d_light rfl (light_fa rfl rfl) rfl rfl rfl ?_
    refine d_as (v := (.slice (some ⟨b, 8192, none⟩) u.O.length 160)) rfl (cut_array1 0 160 rfl rfl rfl rfl rfl rfl (by decide) (by decide)) rfl rfl rfl (by rw [hu.lO]; rfl) ?_
    refine d_light rfl rfl rfl rfl rfl ?_
    refine d_light rfl rfl rfl rfl rfl ?_
    refine d_light rfl (light_fa rfl rfl) rfl rfl rfl ?_
    refine d_load rfl rfl rfl (s_own (by repeat (first | exact .head _ | refine .tail _ ?_ | refine List.mem_append_right _ ?_)) (cU_line hu)) rfl rfl ?_
    refine d_loadA rfl rfl rfl rfl (by first | exact srow_own (by repeat (first | exact .head _ | refine .tail _ ?_ | refine List.mem_append_right _ ?_)) | exact srow_own_at (by repeat (first | exact .head _ | refine .tail _ ?_ | refine List.mem_append_right _ ?_)) _ 160 rfl) rfl rfl ?_
    refine d_light rfl rfl rfl rfl rfl ?_
    refine d_light rfl (light_fa rfl rfl) rfl rfl rfl ?_
    refine d_x rfl (x_val call_47 rfl (fun w hw => line_fn (u.r 0) (u.r 7) (u.r 8) (u.r 9) (hu.look 0) (hu.look 7) (hu.look 8) (hu.look 9) _ _ _ _ u.V u.O hu.bV hu.bO (by rw [hu.lO]; decide) u.line (belowU u) (tLine_len _ _ _ _) (tLine_byts _ _ _ _) w (Ns.of (rowV (row_own (by repeat (first | exact .head _ | refine .tail _ ?_ | refine List.mem_append_right _ ?_)) w hw))) (Ns.of (rowO hu (row_own (by repeat (first | exact .head _ | refine .tail _ ?_ | refine List.mem_append_right _ ?_)) w hw))))) rfl rfl (by intro _ _ _ hK x hx; obtain ⟨rfl, rfl⟩ := hK; repeat (first | exact hx | exact List.mem_append_left _ hx | refine List.mem_append_right _ ?_ | refine .tail _ ?_)) ?_
    rintro _ _ ⟨rfl, rfl⟩
    rw [rowU_vals]
    refine d_light rfl (idx_array (s := 160) u.line.toNat rfl rfl rfl (by omega) (by omega)) rfl rfl rfl ?_
    refine d_x rfl (x_storeTo (l' := cU { u with P := putI u.P (u.line.toNat * 160) (rowU u) }) 3 rfl rfl rfl rfl rfl rfl (by rw [cU_len hu, List.length_map, rowU_len]; omega) (putU_P hu (by rw [rowU_len]; omega))) rfl rfl (by intro h; cases h) ?_
    rintro _ _ ⟨rfl, rfl⟩
    simp only [List.set_cons_zero, List.set_cons_succ]
    refine d_nil ?_
    refine c_seq ?_
    refine c_region ?_
    refine l_l rfl rfl rfl ?_
    refine l_nil ?_
    refine c_cond rfl (fun h1 => ?_) (fun h1 => ?_)
    · refine c_region ?_
      refine l_l rfl rfl rfl ?_
      refine l_l rfl rfl rfl ?_
      refine l_l (light_fa rfl rfl) rfl rfl ?_
      refine l_x (x_load rfl rfl (at_own (by repeat (first | exact .head _ | refine .tail _ ?_ | refine List.mem_append_right _ ?_)) (cU_own (hu.P_ (u.line.toNat * 160) (rowU_byts u) (by rw [rowU_len]; omega))))) rfl rfl ?_
      rintro _ _ ⟨rfl, rfl⟩
      refine l_as (v := (.int .i64 (u.own + 1))) rfl rfl rfl (congrArg _ (wrap_i64 (by dsimp only; omega) (by dsimp only; omega))) ?_
      refine l_l rfl rfl rfl ?_
      refine l_l (light_fa rfl rfl) rfl rfl ?_
      refine l_x (x_storeTo (l' := cU { u with P := putI u.P (u.line.toNat * 160) (rowU u), own := u.own + 1 }) 3 rfl rfl rfl rfl rfl rfl (by rw [cU_len (hu.P_ (u.line.toNat * 160) (rowU_byts u) (by rw [rowU_len]; omega))]; simp only [List.length_cons, List.length_nil]; (try simp only [decide_eq_true_eq, decide_eq_false_iff_not, beq_iff_eq, beq_eq_false_iff_ne, bne_iff_ne, bne_eq_false_iff_eq, ne_eq] at *); omega) (putU_own (hu.P_ (u.line.toNat * 160) (rowU_byts u) (by rw [rowU_len]; omega)) _)) rfl rfl ?_
      rintro _ _ ⟨rfl, rfl⟩
      simp only [List.set_cons_zero, List.set_cons_succ]
      refine l_nil ?_
      exact l_end (fun _ _ => rets_none) (.cons _ (.cons _ (.cons _ (List.Sublist.refl _)))) ⟨rfl, by rw [paint_yes h1]⟩
    · refine c_skip ?_
      exact l_end (fun _ _ => rets_none) (.cons _ (.cons _ (.cons _ (List.Sublist.refl _)))) ⟨rfl, by rw [paint_no h1]⟩
  refine d_fork ?_ ?_
  · refine d_x rfl (x_alloc rfl) rfl rfl (by intro _ _ _ hK x hx; obtain ⟨_, rfl, rfl⟩ := hK; repeat (first | exact hx | exact List.mem_append_left _ hx | refine List.mem_append_right _ ?_ | refine .tail _ ?_)) ?_
    rintro _ _ ⟨b5, rfl, rfl⟩
    refine d_x rfl (x_val call_46 rfl (fun w hw => tline_fn _ _ u.V hu.bV (viewU u) (viewU_ok hu) u.line u.own w (Ns.of (rowV (row_own (by repeat (first | exact .head _ | refine .tail _ ?_ | refine List.mem_append_right _ ?_)) w hw))))) rfl rfl (by intro h; cases h) ?_
    rintro _ _ ⟨rfl, rfl⟩
    refine d_mv rfl (vnf_eq rfl) rfl rfl ?_
    refine d_light rfl rfl rfl rfl rfl ?_
    refine d_light rfl rfl rfl rfl rfl ?_
    refine d_x rfl (by first | exact x_store 0 rfl rfl rfl rfl rfl rfl (by first | rfl | exact Nat.le_of_ble_eq_true rfl | (simp; done)) | exact x_store 1 rfl rfl rfl rfl rfl rfl (by first | rfl | exact Nat.le_of_ble_eq_true rfl | (simp; done)) | exact x_store 2 rfl rfl rfl rfl rfl rfl (by first | rfl | exact Nat.le_of_ble_eq_true rfl | (simp; done)) | exact x_store 3 rfl rfl rfl rfl rfl rfl (by first | rfl | exact Nat.le_of_ble_eq_true rfl | (simp; done))) rfl rfl (by intro h; cases h) ?_
    rintro _ _ ⟨rfl, rfl⟩
    refine d_light rfl rfl rfl rfl rfl ?_
    refine d_nil ?_
    refine c_seq ?_
    refine c_draw _ [5, 6, 7, 8, 9, 10, 11, 12, 13, 14, 15, 16, 17, 18, 19, 20, 21] (.step true 0 (.step true 1 (.step true 2 (.step true 3 (.step true 4 (.step true 5 (.step true 6 (.step true 7 (.step true 8 (.step true 9 (.step true 10 (.step true 11 (.step true 12 (.step true 13 (.step true 14 (.step true 15 (.step true 16 (.step true 17 (.step true 18 (.step true 20 (.step true 21 (.step false 19 (.step true 22 (.step false 23 .done)))))))))))))))))))))))) rfl (by kernel_rfl) (by kernel_rfl) (fun _ h => h) ?_
    refine d_light rfl rfl rfl rfl rfl ?_
    refine d_light rfl rfl rfl rfl rfl ?_
    refine d_light rfl rfl rfl rfl rfl ?_
    refine d_light rfl (light_fa rfl rfl) rfl rfl rfl ?_
    refine d_load rfl rfl rfl (s_own (by repeat (first | exact .head _ | refine .tail _ ?_ | refine List.mem_append_right _ ?_)) (cU_line hu)) rfl rfl ?_
    refine d_loadA rfl rfl rfl rfl (by first | exact srow_own (by repeat (first | exact .head _ | refine .tail _ ?_ | refine List.mem_append_right _ ?_)) | exact srow_own_at (by repeat (first | exact .head _ | refine .tail _ ?_ | refine List.mem_append_right _ ?_)) _ 4 rfl) rfl rfl ?_
    refine d_light rfl rfl rfl rfl rfl ?_
    refine d_light rfl rfl rfl rfl rfl ?_
    refine d_light rfl (light_fa rfl rfl) rfl rfl rfl ?_
    refine d_as (v := (.slice (some ⟨b, 0, none⟩) u.V.length 8192)) rfl (cut_array1 0 8192 rfl rfl rfl rfl rfl rfl (by decide) (by decide)) rfl rfl rfl (by rw [hu.lV]; rfl) ?_
    refine d_light rfl rfl rfl rfl rfl ?_
    refine d_light rfl rfl rfl rfl rfl ?_
    refine d_light rfl (light_fa rfl rfl) rfl rfl rfl ?_
    refine d_as (v := (.slice (some ⟨b, 8192, none⟩) u.O.length 160)) rfl (cut_array1 0 160 rfl rfl rfl rfl rfl rfl (by decide) (by decide)) rfl rfl rfl (by rw [hu.lO]; rfl) ?_
    refine d_light rfl rfl rfl rfl rfl ?_
    refine d_light rfl rfl rfl rfl rfl ?_
    refine d_light rfl (light_fa rfl rfl) rfl rfl rfl ?_
    refine d_load rfl rfl rfl (s_own (by repeat (first | exact .head _ | refine .tail _ ?_ | refine List.mem_append_right _ ?_)) (cU_line hu)) rfl rfl ?_
    refine d_loadA rfl rfl rfl rfl (by first | exact srow_own (by repeat (first | exact .head _ | refine .tail _ ?_ | refine List.mem_append_right _ ?_)) | exact srow_own_at (by repeat (first | exact .head _ | refine .tail _ ?_ | refine List.mem_append_right _ ?_)) _ 160 rfl) rfl rfl ?_
    refine d_light rfl rfl rfl rfl rfl ?_
    refine d_light rfl (light_fa rfl rfl) rfl rfl rfl ?_
    refine d_x rfl (x_val call_47 rfl (fun w hw => line_fn (u.r 0) (u.r 7) (u.r 8) (u.r 9) (hu.look 0) (hu.look 7) (hu.look 8) (hu.look 9) _ _ _ _ u.V u.O hu.bV hu.bO (by rw [hu.lO]; decide) u.line (belowU u) (tLine_len _ _ _ _) (tLine_byts _ _ _ _) w (Ns.of (rowV (row_own (by repeat (first | exact .head _ | refine .tail _ ?_ | refine List.mem_append_right _ ?_)) w hw))) (Ns.of (rowO hu (row_own (by repeat (first | exact .head _ | refine .tail _ ?_ | refine List.mem_append_right _ ?_)) w hw))))) rfl rfl (by intro _ _ _ hK x hx; obtain ⟨rfl, rfl⟩ := hK; repeat (first | exact hx | exact List.mem_append_left _ hx | refine List.mem_append_right _ ?_ | refine .tail _ ?_)) ?_
    rintro _ _ ⟨rfl, rfl⟩
    rw [rowU_vals]
    refine d_light rfl (idx_array (s := 160) u.line.toNat rfl rfl rfl (by omega) (by omega)) rfl rfl rfl ?_
    refine d_x rfl (x_storeTo (l' := cU { u with P := putI u.P (u.line.toNat * 160) (rowU u) }) 3 rfl rfl rfl rfl rfl rfl (by rw [cU_len hu, List.length_map, rowU_len]; omega) (putU_P hu (by rw [rowU_len]; omega))) rfl rfl (by intro h; cases h) ?_
    rintro _ _ ⟨rfl, rfl⟩
    simp only [List.set_cons_zero, List.set_cons_succ]
    refine d_nil ?_
    refine c_seq ?_
    refine c_region ?_
    refine l_l rfl rfl rfl ?_
    refine l_nil ?_
    refine c_cond rfl (fun h2 => ?_) (fun h2 => ?_)
    · refine c_region ?_
      refine l_l rfl rfl rfl ?_
      refine l_l rfl rfl rfl ?_
      refine l_l (light_fa rfl rfl) rfl rfl ?_
      refine l_x (x_load rfl rfl (at_own (by repeat (first | exact .head _ | refine .tail _ ?_ | refine List.mem_append_right _ ?_)) (cU_own (hu.P_ (u.line.toNat * 160) (rowU_byts u) (by rw [rowU_len]; omega))))) rfl rfl ?_
      rintro _ _ ⟨rfl, rfl⟩
      refine l_as (v := (.int .i64 (u.own + 1))) rfl rfl rfl (congrArg _ (wrap_i64 (by dsimp only; omega) (by dsimp only; omega))) ?_
      refine l_l rfl rfl rfl ?_
      refine l_l (light_fa rfl rfl) rfl rfl ?_
      refine l_x (x_storeTo (l' := cU { u with P := putI u.P (u.line.toNat * 160) (rowU u), own := u.own + 1 }) 3 rfl rfl rfl rfl rfl rfl (by rw [cU_len (hu.P_ (u.line.toNat * 160) (rowU_byts u) (by rw [rowU_len]; omega))]; simp only [List.length_cons, List.length_nil]; (try simp only [decide_eq_true_eq, decide_eq_false_iff_not, beq_iff_eq, beq_eq_false_iff_ne, bne_iff_ne, bne_eq_false_iff_eq, ne_eq] at *); omega) (putU_own (hu.P_ (u.line.toNat * 160) (rowU_byts u) (by rw [rowU_len]; omega)) _)) rfl rfl ?_
      rintro _ _ ⟨rfl, rfl⟩
      simp only [List.set_cons_zero, List.set_cons_succ]
      refine l_nil ?_
      exact l_end (fun _ _ => rets_none) (.cons _ (.cons _ (.cons _ (List.Sublist.refl _)))) ⟨rfl, by rw [paint_yes h2]⟩
    · refine c_skip ?_
      exact l_end (fun _ _ => rets_none) (.cons _ (.cons _ (.cons _ (List.Sublist.refl _)))) ⟨rfl, by rw [paint_no h2]⟩
  exact d_stop

end Go.Proofs.Ytjceoaomkbabmaa
namespace Go.Proofs.Ytjceoaomkbabmaa
open Go Go.VV Go.Proofs
set_option linter.unusedSimpArgs false
set_option linter.unusedVariables false
set_option maxRecDepth 100000
theorem next_fn (b : Nat) (u : PU) (hu : u.Wf) (w : World) (hst : St w [b] [(b, blk (cU u) 60)] w) (hl : u.line < 154) : Does Try.prog 34 [.pointer (some ⟨b, 0, none⟩)] w [b] (fun v H => v = .int .u8 (nextV u) ∧ H = [(b, blk (cU (nextU u)) 60)]) := by
  have hlb := hu.line
  have hfb := hu.frames
  refine does_of Try.func34 rfl rfl rfl hst ?_
  refine c_seq ?_
  refine c_region ?_
  refine l_l rfl rfl rfl ?_
  refine l_nil ?_
  refine c_seq ?_
  refine c_region ?_
  refine l_l rfl rfl rfl ?_
  refine l_l rfl rfl rfl ?_
  refine l_l (light_fa rfl rfl) rfl rfl ?_
  refine l_x (x_storeTo (l' := cU { u with dot := 0 }) 0 rfl rfl rfl rfl rfl rfl (by rw [cU_len hu]; simp only [List.length_cons, List.length_nil]; (try simp only [decide_eq_true_eq, decide_eq_false_iff_not, beq_iff_eq, beq_eq_false_iff_ne, bne_iff_ne, bne_eq_false_iff_eq, ne_eq] at *); omega) (putU_dot hu _)) rfl rfl ?_
  rintro _ _ ⟨rfl, rfl⟩
  simp only [List.set_cons_zero, List.set_cons_succ]
  refine l_nil ?_
  refine c_seq ?_
  refine c_region ?_
  refine l_l rfl rfl rfl ?_
  refine l_l rfl rfl rfl ?_
  refine l_l (light_fa rfl rfl) rfl rfl ?_
  refine l_x (x_load rfl rfl (at_own (by repeat (first | exact .head _ | refine .tail _ ?_ | refine List.mem_append_right _ ?_)) (cU_line (hu.dot_ (x := 0) (by decide))))) rfl rfl ?_
  rintro _ _ ⟨rfl, rfl⟩
  refine l_as (v := (.int .i64 (u.line + 1))) rfl rfl rfl (congrArg _ (wrap_i64 (by dsimp only; omega) (by dsimp only; omega))) ?_
  refine l_l rfl rfl rfl ?_
  refine l_l (light_fa rfl rfl) rfl rfl ?_
  refine l_x (x_storeTo (l' := cU { u with dot := 0, line := u.line + 1 }) 0 rfl rfl rfl rfl rfl rfl (by rw [cU_len (hu.dot_ (x := 0) (by decide))]; simp only [List.length_cons, List.length_nil]; (try simp only [decide_eq_true_eq, decide_eq_false_iff_not, beq_iff_eq, beq_eq_false_iff_ne, bne_iff_ne, bne_eq_false_iff_eq, ne_eq] at *); omega) (putU_line (hu.dot_ (x := 0) (by decide)) _)) rfl rfl ?_
  rintro _ _ ⟨rfl, rfl⟩
  simp only [List.set_cons_zero, List.set_cons_succ]
  refine l_nil ?_
  refine c_seq ?_
  refine c_seq ?_
  refine c_region ?_
  refine l_l rfl rfl rfl ?_
  refine l_l rfl rfl rfl ?_
  refine l_l (light_fa rfl rfl) rfl rfl ?_
  refine l_x (x_load rfl rfl (at_own (by repeat (first | exact .head _ | refine .tail _ ?_ | refine List.mem_append_right _ ?_)) (cU_line ((hu.dot_ (x := 0) (by decide)).line_ (x := u.line + 1) (by omega))))) rfl rfl ?_
  rintro _ _ ⟨rfl, rfl⟩
  refine l_nil ?_
  refine c_block ?_
  refine c_seq ?_
  refine c_region ?_
  refine l_l rfl rfl rfl ?_
  refine l_l rfl rfl rfl ?_
  refine l_nil ?_
  refine c_cond rfl (fun h1 => ?_) (fun h1 => ?_)
  · refine c_seq ?_
    refine c_region ?_
    refine l_l rfl rfl rfl ?_
    refine l_l rfl rfl rfl ?_
    refine l_l rfl rfl rfl ?_
    refine l_l (light_fa rfl rfl) rfl rfl ?_
    refine l_x (x_load rfl rfl (at_own (by repeat (first | exact .head _ | refine .tail _ ?_ | refine List.mem_append_right _ ?_)) (cU_frames ((hu.dot_ (x := 0) (by decide)).line_ (x := u.line + 1) (by omega))))) rfl rfl ?_
    rintro _ _ ⟨rfl, rfl⟩
    refine l_as (v := (.int .i64 (u.frames + 1))) rfl rfl rfl (congrArg _ (wrap_i64 (by dsimp only; omega) (by dsimp only; omega))) ?_
    refine l_as (v := (.int .i64 ((u.frames + 1) % 65536))) rfl rfl rfl (congrArg _ (Int.tmod_eq_emod_of_nonneg (by omega))) ?_
    refine l_l rfl rfl rfl ?_
    refine l_l (light_fa rfl rfl) rfl rfl ?_
    refine l_x (x_storeTo (l' := cU { u with dot := 0, line := u.line + 1, frames := (u.frames + 1) % 65536 }) 0 rfl rfl rfl rfl rfl rfl (by rw [cU_len ((hu.dot_ (x := 0) (by decide)).line_ (x := u.line + 1) (by omega))]; simp only [List.length_cons, List.length_nil]; (try simp only [decide_eq_true_eq, decide_eq_false_iff_not, beq_iff_eq, beq_eq_false_iff_ne, bne_iff_ne, bne_eq_false_iff_eq, ne_eq] at *); omega) (putU_frames ((hu.dot_ (x := 0) (by decide)).line_ (x := u.line + 1) (by omega)) _)) rfl rfl ?_
    rintro _ _ ⟨rfl, rfl⟩
    simp only [List.set_cons_zero, List.set_cons_succ]
    refine l_nil ?_
    refine c_seq ?_
    refine c_region ?_
    refine l_l rfl rfl rfl ?_
    refine l_nil ?_
    refine c_ret ?_
    exact l_end (fun _ _ => rets_v rfl) (List.Sublist.refl _) ⟨congrArg _ (by unfold nextV; rw [if_pos (by (try simp only [decide_eq_true_eq, decide_eq_false_iff_not, beq_iff_eq, beq_eq_false_iff_ne, bne_iff_ne, bne_eq_false_iff_eq, ne_eq] at *); omega)]), by rw [next_1 (by (try simp only [decide_eq_true_eq, decide_eq_false_iff_not, beq_iff_eq, beq_eq_false_iff_ne, bne_iff_ne, bne_eq_false_iff_eq, ne_eq] at *); omega), show u.line + 1 = 144 by (try simp only [decide_eq_true_eq, decide_eq_false_iff_not, beq_iff_eq, beq_eq_false_iff_ne, bne_iff_ne, bne_eq_false_iff_eq, ne_eq] at *); omega]⟩
  · refine c_seq ?_
    refine c_region ?_
    refine l_l rfl rfl rfl ?_
    refine l_l rfl rfl rfl ?_
    refine l_nil ?_
    refine c_cond rfl (fun h2 => ?_) (fun h2 => ?_)
    · refine c_region ?_
      refine l_l rfl rfl rfl ?_
      refine l_l rfl rfl rfl ?_
      refine l_l rfl rfl rfl ?_
      refine l_l (light_fa rfl rfl) rfl rfl ?_
      refine l_x (x_storeTo (l' := cU { u with dot := 0, line := 0 }) 0 rfl rfl rfl rfl rfl rfl (by rw [cU_len ((hu.dot_ (x := 0) (by decide)).line_ (x := u.line + 1) (by omega))]; simp only [List.length_cons, List.length_nil]; (try simp only [decide_eq_true_eq, decide_eq_false_iff_not, beq_iff_eq, beq_eq_false_iff_ne, bne_iff_ne, bne_eq_false_iff_eq, ne_eq] at *); omega) (putU_line ((hu.dot_ (x := 0) (by decide)).line_ (x := u.line + 1) (by omega)) _)) rfl rfl ?_
      rintro _ _ ⟨rfl, rfl⟩
      simp only [List.set_cons_zero, List.set_cons_succ]
      refine l_l rfl rfl rfl ?_
      refine l_l (light_fa rfl rfl) rfl rfl ?_
      refine l_x (x_storeTo (l' := cU { u with dot := 0, line := 0, own := 0 }) 0 rfl rfl rfl rfl rfl rfl (by rw [cU_len ((hu.dot_ (x := 0) (by decide)).line_ (x := 0) (by decide))]; simp only [List.length_cons, List.length_nil]; (try simp only [decide_eq_true_eq, decide_eq_false_iff_not, beq_iff_eq, beq_eq_false_iff_ne, bne_iff_ne, bne_eq_false_iff_eq, ne_eq] at *); omega) (putU_own ((hu.dot_ (x := 0) (by decide)).line_ (x := 0) (by decide)) _)) rfl rfl ?_
      rintro _ _ ⟨rfl, rfl⟩
      simp only [List.set_cons_zero, List.set_cons_succ]
      refine l_nil ?_
      refine c_seq ?_
      refine c_region ?_
      refine l_l rfl rfl rfl ?_
      refine l_nil ?_
      refine c_ret ?_
      exact l_end (fun _ _ => rets_v rfl) (List.Sublist.refl _) ⟨congrArg _ (by unfold nextV; rw [if_neg (by (try simp only [decide_eq_true_eq, decide_eq_false_iff_not, beq_iff_eq, beq_eq_false_iff_ne, bne_iff_ne, bne_eq_false_iff_eq, ne_eq] at *); omega)]), by rw [next_2 (by (try simp only [decide_eq_true_eq, decide_eq_false_iff_not, beq_iff_eq, beq_eq_false_iff_ne, bne_iff_ne, bne_eq_false_iff_eq, ne_eq] at *); omega)]⟩
    · refine c_skip ?_
      refine c_seq ?_
      refine c_region ?_
      refine l_l rfl rfl rfl ?_
      refine l_nil ?_
      refine c_ret ?_
      exact l_end (fun _ _ => rets_v rfl) (List.Sublist.refl _) ⟨congrArg _ (by unfold nextV; rw [if_neg (by (try simp only [decide_eq_true_eq, decide_eq_false_iff_not, beq_iff_eq, beq_eq_false_iff_ne, bne_iff_ne, bne_eq_false_iff_eq, ne_eq] at *); omega)]), by rw [next_3 (by (try simp only [decide_eq_true_eq, decide_eq_false_iff_not, beq_iff_eq, beq_eq_false_iff_ne, bne_iff_ne, bne_eq_false_iff_eq, ne_eq] at *); omega) (by (try simp only [decide_eq_true_eq, decide_eq_false_iff_not, beq_iff_eq, beq_eq_false_iff_ne, bne_iff_ne, bne_eq_false_iff_eq, ne_eq] at *); omega)]⟩

set_option maxHeartbeats 2000000 in
theorem tick_fn (b : Nat) (u : PU) (hok : u.Ok) (w : World) (hst : St w [b] [(b, blk (cU u) 60)] w) : Does Try.prog 13 [.pointer (some ⟨b, 0, none⟩)] w [b] (fun v H => v = .int .u8 (tickV u) ∧ H = [(b, blk (cU (tickU u)) 60)]) := by
  have hu := hok.wf
  have hd := hok.dot
  have hlb := hu.line
  have hl154 := hok.line
  have hdb := hu.dot
  have hws := hok.step
  refine does_of Try.func13 rfl rfl rfl hst ?_
  refine c_seq ?_
  refine c_region ?_
  refine l_l rfl rfl rfl ?_
  refine l_nil ?_
  refine c_seq ?_
  refine c_seq ?_
  refine c_region ?_
  refine l_l rfl rfl rfl ?_
  refine l_l rfl rfl rfl ?_
  refine l_l rfl rfl rfl ?_
  refine l_l rfl rfl rfl ?_
  refine l_x (x_val call_31 rfl (fun w hw => lit_fn b u hu w (row_own (by repeat (first | exact .head _ | refine .tail _ ?_ | refine List.mem_append_right _ ?_)) w hw))) rfl rfl ?_
  rintro _ _ ⟨rfl, rfl⟩
  refine l_l rfl rfl rfl ?_
  refine l_l rfl rfl rfl ?_
  refine l_nil ?_
  refine c_cond rfl (fun h1 => ?_) (fun h1 => ?_)
  · refine c_seq ?_
    refine c_region ?_
    refine l_l rfl rfl rfl ?_
    refine l_nil ?_
    refine c_ret ?_
    exact l_end (fun _ _ => rets_v rfl) (List.Sublist.refl _) ⟨congrArg _ (by unfold tickV; rw [if_neg (by simp_all)]), by unfold tickU; rw [if_neg (by simp_all)]⟩
  · refine c_skip ?_
    refine c_seq ?_
    refine c_region ?_
    refine l_l rfl rfl rfl ?_
    refine l_nil ?_
    refine c_seq ?_
    refine c_region ?_
    refine l_l rfl rfl rfl ?_
    refine l_l rfl rfl rfl ?_
    refine l_l (light_fa rfl rfl) rfl rfl ?_
    refine l_x (x_load rfl rfl (at_own (by repeat (first | exact .head _ | refine .tail _ ?_ | refine List.mem_append_right _ ?_)) (cU_dot hu))) rfl rfl ?_
    rintro _ _ ⟨rfl, rfl⟩
    refine l_as (v := (.int .i64 (u.dot + 1))) rfl rfl rfl (congrArg _ (wrap_i64 (by omega) (by omega))) ?_
    refine l_l rfl rfl rfl ?_
    refine l_l (light_fa rfl rfl) rfl rfl ?_
    refine l_x (x_storeTo (l' := cU (oneU u)) 0 rfl rfl rfl rfl rfl rfl (by rw [cU_len hu]; simp only [List.length_cons, List.length_nil]; (try simp only [decide_eq_true_eq, decide_eq_false_iff_not, beq_iff_eq, beq_eq_false_iff_ne, bne_iff_ne, bne_eq_false_iff_eq, ne_eq] at *); omega) (putU_dot hu _)) rfl rfl ?_
    rintro _ _ ⟨rfl, rfl⟩
    simp only [List.set_cons_zero, List.set_cons_succ]
    refine l_nil ?_
    refine c_seq ?_
    refine c_block ?_
    refine c_seq ?_
    refine c_region ?_
    refine l_l rfl rfl rfl ?_
    refine l_l rfl rfl rfl ?_
    refine l_l (light_fa rfl rfl) rfl rfl ?_
    refine l_x (x_load rfl rfl (at_own (by repeat (first | exact .head _ | refine .tail _ ?_ | refine List.mem_append_right _ ?_)) (show (cU (oneU u))[8365]? = some (.int .i64 (u.dot + 1)) from cU_dot (hu.one hd)))) rfl rfl ?_
    rintro _ _ ⟨rfl, rfl⟩
    refine l_l rfl rfl rfl ?_
    refine l_b rfl rfl rfl (fun h2 => ?_) (fun h2 => ?_)
    · refine l_l rfl rfl rfl ?_
      refine l_l rfl rfl rfl ?_
      refine l_l (light_fa rfl rfl) rfl rfl ?_
      refine l_x (x_load rfl rfl (at_own (by repeat (first | exact .head _ | refine .tail _ ?_ | refine List.mem_append_right _ ?_)) (show (cU (oneU u))[8364]? = some (.int .i64 u.line) from cU_line (hu.one hd)))) rfl rfl ?_
      rintro _ _ ⟨rfl, rfl⟩
      refine l_l rfl rfl rfl ?_
      refine l_l rfl rfl rfl ?_
      refine l_l rfl rfl rfl ?_
      refine l_nil ?_
      refine c_cond rfl (fun h3 => ?_) (fun h3 => ?_)
      · refine c_region ?_
        refine l_l rfl rfl rfl ?_
        refine l_x (x_callA call_33 rfl (fun w hw => paint_fn b (oneU u) (hu.one hd) w (St.lentA hw) (show u.line < 144 by (try simp only [decide_eq_true_eq, decide_eq_false_iff_not, beq_iff_eq, beq_eq_false_iff_ne, bne_iff_ne, bne_eq_false_iff_eq, ne_eq] at *); omega) hok.own599)) rfl rfl ?_
        rintro _ _ ⟨rfl, rfl⟩
        refine l_nil ?_
        refine c_seq ?_
        refine c_region ?_
        refine l_l rfl rfl rfl ?_
        refine l_l rfl rfl rfl ?_
        have hs9 : stepU u = paintU (oneU u) := step_paint (by (try simp only [decide_eq_true_eq, decide_eq_false_iff_not, beq_iff_eq, beq_eq_false_iff_ne, bne_iff_ne, bne_eq_false_iff_eq, ne_eq] at *); omega) (by (try simp only [decide_eq_true_eq, decide_eq_false_iff_not, beq_iff_eq, beq_eq_false_iff_ne, bne_iff_ne, bne_eq_false_iff_eq, ne_eq] at *); omega)
        refine l_heap (H' := [(b, blk (cU (stepU u)) 60)]) (fun _ h => h.as (by rw [hs9])) ?_
        refine l_x (x_callA call_32 rfl (fun w hw => ask_fn b (stepU u) hws w (St.lentA hw))) rfl rfl ?_
        rintro _ _ ⟨rfl, rfl⟩
        refine l_l rfl rfl rfl ?_
        refine l_l rfl rfl rfl ?_
        refine l_nil ?_
        refine c_ret ?_
        have hlit : litU u = true := by simp_all
        have hnv : 0 = stepV u := by unfold stepV; rw [if_neg (by (try simp only [decide_eq_true_eq, decide_eq_false_iff_not, beq_iff_eq, beq_eq_false_iff_ne, bne_iff_ne, bne_eq_false_iff_eq, ne_eq] at *); omega)]
        exact l_end (fun _ _ => rets_v rfl) (List.Sublist.refl _) ⟨congrArg _ (by unfold tickV; rw [if_pos hlit, ← bor_ask (stepV_one u) (askV_two _), ← hnv]; rfl), by unfold tickU; rw [if_pos hlit]⟩
      · refine c_seq ?_
        refine c_region ?_
        refine l_l rfl rfl rfl ?_
        refine l_l rfl rfl rfl ?_
        refine l_l (light_fa rfl rfl) rfl rfl ?_
        refine l_x (x_load rfl rfl (at_own (by repeat (first | exact .head _ | refine .tail _ ?_ | refine List.mem_append_right _ ?_)) (show (cU (oneU u))[8365]? = some (.int .i64 (u.dot + 1)) from cU_dot (hu.one hd)))) rfl rfl ?_
        rintro _ _ ⟨rfl, rfl⟩
        refine l_l rfl rfl rfl ?_
        refine l_l rfl rfl rfl ?_
        refine l_nil ?_
        refine c_cond rfl (fun h4 => ?_) (fun h4 => ?_)
        · refine c_region ?_
          refine l_l rfl rfl rfl ?_
          refine l_x (x_callA call_34 rfl (fun w hw => next_fn b (oneU u) (hu.one hd) w (St.lentA hw) (show u.line < 154 by (try simp only [decide_eq_true_eq, decide_eq_false_iff_not, beq_iff_eq, beq_eq_false_iff_ne, bne_iff_ne, bne_eq_false_iff_eq, ne_eq] at *); omega))) rfl rfl ?_
          rintro _ _ ⟨rfl, rfl⟩
          refine l_l rfl rfl rfl ?_
          refine l_nil ?_
          refine c_seq ?_
          refine c_region ?_
          refine l_l rfl rfl rfl ?_
          refine l_l rfl rfl rfl ?_
          have hs9 : stepU u = nextU (oneU u) := step_next (by (try simp only [decide_eq_true_eq, decide_eq_false_iff_not, beq_iff_eq, beq_eq_false_iff_ne, bne_iff_ne, bne_eq_false_iff_eq, ne_eq] at *); omega)
          refine l_heap (H' := [(b, blk (cU (stepU u)) 60)]) (fun _ h => h.as (by rw [hs9])) ?_
          refine l_x (x_callA call_32 rfl (fun w hw => ask_fn b (stepU u) hws w (St.lentA hw))) rfl rfl ?_
          rintro _ _ ⟨rfl, rfl⟩
          refine l_l rfl rfl rfl ?_
          refine l_l rfl rfl rfl ?_
          refine l_nil ?_
          refine c_ret ?_
          have hlit : litU u = true := by simp_all
          have hnv : nextV (oneU u) = stepV u := by
            have h8 : u.dot = 113 := (by (try simp only [decide_eq_true_eq, decide_eq_false_iff_not, beq_iff_eq, beq_eq_false_iff_ne, bne_iff_ne, bne_eq_false_iff_eq, ne_eq] at *); omega)
            unfold nextV stepV oneU; simp [h8]
          exact l_end (fun _ _ => rets_v rfl) (List.Sublist.refl _) ⟨congrArg _ (by unfold tickV; rw [if_pos hlit, ← bor_ask (stepV_one u) (askV_two _), ← hnv]; rfl), by unfold tickU; rw [if_pos hlit]⟩
        · refine c_skip ?_
          refine c_seq ?_
          refine c_region ?_
          refine l_l rfl rfl rfl ?_
          refine l_l rfl rfl rfl ?_
          have hs9 : stepU u = oneU u := step_one (by (try simp only [decide_eq_true_eq, decide_eq_false_iff_not, beq_iff_eq, beq_eq_false_iff_ne, bne_iff_ne, bne_eq_false_iff_eq, ne_eq] at *); omega) (by (try simp only [decide_eq_true_eq, decide_eq_false_iff_not, beq_iff_eq, beq_eq_false_iff_ne, bne_iff_ne, bne_eq_false_iff_eq, ne_eq] at *); omega)
          refine l_heap (H' := [(b, blk (cU (stepU u)) 60)]) (fun _ h => h.as (by rw [hs9])) ?_
          refine l_x (x_callA call_32 rfl (fun w hw => ask_fn b (stepU u) hws w (St.lentA hw))) rfl rfl ?_
          rintro _ _ ⟨rfl, rfl⟩
          refine l_l rfl rfl rfl ?_
          refine l_l rfl rfl rfl ?_
          refine l_nil ?_
          refine c_ret ?_
          have hlit : litU u = true := by simp_all
          have hnv : 0 = stepV u := by unfold stepV; rw [if_neg (by (try simp only [decide_eq_true_eq, decide_eq_false_iff_not, beq_iff_eq, beq_eq_false_iff_ne, bne_iff_ne, bne_eq_false_iff_eq, ne_eq] at *); omega)]
          exact l_end (fun _ _ => rets_v rfl) (List.Sublist.refl _) ⟨congrArg _ (by unfold tickV; rw [if_pos hlit, ← bor_ask (stepV_one u) (askV_two _), ← hnv]; rfl), by unfold tickU; rw [if_pos hlit]⟩
    · refine l_p rfl rfl ?_
      refine l_p rfl rfl ?_
      refine l_p rfl rfl ?_
      refine l_p rfl rfl ?_
      refine l_p rfl rfl ?_
      refine l_l rfl rfl rfl ?_
      refine l_l rfl rfl rfl ?_
      refine l_nil ?_
      refine c_false rfl ?_
      refine c_seq ?_
      refine c_region ?_
      refine l_l rfl rfl rfl ?_
      refine l_l rfl rfl rfl ?_
      refine l_l (light_fa rfl rfl) rfl rfl ?_
      refine l_x (x_load rfl rfl (at_own (by repeat (first | exact .head _ | refine .tail _ ?_ | refine List.mem_append_right _ ?_)) (show (cU (oneU u))[8365]? = some (.int .i64 (u.dot + 1)) from cU_dot (hu.one hd)))) rfl rfl ?_
      rintro _ _ ⟨rfl, rfl⟩
      refine l_l rfl rfl rfl ?_
      refine l_l rfl rfl rfl ?_
      refine l_nil ?_
      refine c_cond rfl (fun h5 => ?_) (fun h5 => ?_)
      · refine c_region ?_
        refine l_l rfl rfl rfl ?_
        refine l_x (x_callA call_34 rfl (fun w hw => next_fn b (oneU u) (hu.one hd) w (St.lentA hw) (show u.line < 154 by (try simp only [decide_eq_true_eq, decide_eq_false_iff_not, beq_iff_eq, beq_eq_false_iff_ne, bne_iff_ne, bne_eq_false_iff_eq, ne_eq] at *); omega))) rfl rfl ?_
        rintro _ _ ⟨rfl, rfl⟩
        refine l_l rfl rfl rfl ?_
        refine l_nil ?_
        refine c_seq ?_
        refine c_region ?_
        refine l_l rfl rfl rfl ?_
        refine l_l rfl rfl rfl ?_
        have hs9 : stepU u = nextU (oneU u) := step_next (by (try simp only [decide_eq_true_eq, decide_eq_false_iff_not, beq_iff_eq, beq_eq_false_iff_ne, bne_iff_ne, bne_eq_false_iff_eq, ne_eq] at *); omega)
        refine l_heap (H' := [(b, blk (cU (stepU u)) 60)]) (fun _ h => h.as (by rw [hs9])) ?_
        refine l_x (x_callA call_32 rfl (fun w hw => ask_fn b (stepU u) hws w (St.lentA hw))) rfl rfl ?_
        rintro _ _ ⟨rfl, rfl⟩
        refine l_l rfl rfl rfl ?_
        refine l_l rfl rfl rfl ?_
        refine l_nil ?_
        refine c_ret ?_
        have hlit : litU u = true := by simp_all
        have hnv : nextV (oneU u) = stepV u := by
          have h8 : u.dot = 113 := (by (try simp only [decide_eq_true_eq, decide_eq_false_iff_not, beq_iff_eq, beq_eq_false_iff_ne, bne_iff_ne, bne_eq_false_iff_eq, ne_eq] at *); omega)
          unfold nextV stepV oneU; simp [h8]
        exact l_end (fun _ _ => rets_v rfl) (List.Sublist.refl _) ⟨congrArg _ (by unfold tickV; rw [if_pos hlit, ← bor_ask (stepV_one u) (askV_two _), ← hnv]; rfl), by unfold tickU; rw [if_pos hlit]⟩
      · refine c_skip ?_
        refine c_seq ?_
        refine c_region ?_
        refine l_l rfl rfl rfl ?_
        refine l_l rfl rfl rfl ?_
        have hs9 : stepU u = oneU u := step_one (by (try simp only [decide_eq_true_eq, decide_eq_false_iff_not, beq_iff_eq, beq_eq_false_iff_ne, bne_iff_ne, bne_eq_false_iff_eq, ne_eq] at *); omega) (by (try simp only [decide_eq_true_eq, decide_eq_false_iff_not, beq_iff_eq, beq_eq_false_iff_ne, bne_iff_ne, bne_eq_false_iff_eq, ne_eq] at *); omega)
        refine l_heap (H' := [(b, blk (cU (stepU u)) 60)]) (fun _ h => h.as (by rw [hs9])) ?_
        refine l_x (x_callA call_32 rfl (fun w hw => ask_fn b (stepU u) hws w (St.lentA hw))) rfl rfl ?_
        rintro _ _ ⟨rfl, rfl⟩
        refine l_l rfl rfl rfl ?_
        refine l_l rfl rfl rfl ?_
        refine l_nil ?_
        refine c_ret ?_
        have hlit : litU u = true := by simp_all
        have hnv : 0 = stepV u := by unfold stepV; rw [if_neg (by (try simp only [decide_eq_true_eq, decide_eq_false_iff_not, beq_iff_eq, beq_eq_false_iff_ne, bne_iff_ne, bne_eq_false_iff_eq, ne_eq] at *); omega)]
        exact l_end (fun _ _ => rets_v rfl) (List.Sublist.refl _) ⟨congrArg _ (by unfold tickV; rw [if_pos hlit, ← bor_ask (stepV_one u) (askV_two _), ← hnv]; rfl), by unfold tickU; rw [if_pos hlit]⟩

theorem new_fn (w : World) : Does Try.prog 11 [] w [] (fun v H => ∃ b, v = .pointer (some ⟨b, 0, none⟩) ∧ H = [(b, blk (cU zeroU) 60)]) := by
  refine does_of Try.func11 rfl rfl rfl (St.refl w) ?_
  refine c_seq ?_
  refine c_region ?_
  refine l_l rfl rfl rfl ?_
  refine l_nil ?_
  refine c_seq ?_
  refine c_region ?_
  refine l_l (light_struct (l := cU zeroU) (z := cU zeroU) (ps := []) rfl (by kernel_rfl) rfl rfl) rfl rfl ?_
  refine l_x (x_box (l := cU zeroU) rfl rfl) rfl rfl ?_
  rintro _ _ ⟨b2, rfl, rfl⟩
  refine l_l rfl rfl rfl ?_
  refine l_nil ?_
  refine c_ret ?_
  exact l_end (fun _ _ => rets_v rfl) (List.Sublist.refl _) ⟨b2, rfl, rfl⟩

end Go.Proofs.Ytjceoaomkbabmaa
namespace Go.Proofs.Ytjceoaomkbabmaa
open Go Go.VV Go.Proofs
set_option linter.unusedSimpArgs false
set_option linter.unusedVariables false
set_option maxRecDepth 100000
theorem peek_fn (b : Nat) (u : PU) (hu : u.Wf) (w : World) (hr : Row w b 0 (cU u)) (a : Int) (ha : 0 ≤ a ∧ a < 65536) : Does Try.prog 18 [.pointer (some ⟨b, 0, none⟩), .int .u16 a] w [] (fun v H => H = [] ∧ v = .int .u8 (peekU u a)) := by
  have hlb := hu.line
  have hnr := num_range a
  have hmr := mode_range u
  refine does_of Try.func18 rfl rfl rfl (St.refl w) ?_
  refine c_seq ?_
  refine c_region ?_
  refine l_l rfl rfl rfl ?_
  refine l_nil ?_
  refine c_seq ?_
  refine c_seq ?_
  refine c_region ?_
  refine l_l rfl rfl rfl ?_
  refine l_l rfl rfl rfl ?_
  refine l_nil ?_
  refine c_false rfl ?_
  refine c_skip ?_
  refine c_seq ?_
  refine c_seq ?_
  rcases addr_ways ha with ⟨j, hj, rfl⟩ | ⟨j, hj, rfl⟩ | hno
  · refine c_region ?_
    refine l_l rfl rfl rfl ?_
    refine l_l rfl rfl rfl ?_
    refine l_x (x_val call_29 rfl (fun w hw => place_fn b _ ha w)) rfl rfl ?_
    rintro _ _ ⟨rfl, rfl⟩
    rw [place_V hj]
    refine l_l rfl rfl rfl ?_
    refine l_l rfl rfl rfl ?_
    refine l_l rfl rfl rfl ?_
    refine l_l rfl rfl rfl ?_
    refine l_l rfl rfl rfl ?_
    refine l_nil ?_
    refine c_seq ?_
    refine c_region ?_
    refine l_l rfl rfl rfl ?_
    refine l_sure true rfl rfl rfl rfl ?_
    refine l_nil ?_
    refine c_true rfl ?_
    refine c_seq ?_
    refine c_region ?_
    refine l_l rfl rfl rfl ?_
    refine l_l rfl rfl rfl ?_
    refine l_x (x_load rfl rfl (at_old (hr _ _ (cU_V hu hj)) (by simp))) rfl rfl ?_
    rintro _ _ ⟨rfl, rfl⟩
    refine l_l rfl rfl rfl ?_
    refine l_nil ?_
    refine c_ret ?_
    exact l_end0 (fun _ _ => rets_v rfl) ⟨rfl, congrArg _ (peek_V hj).symm⟩
  · refine c_region ?_
    refine l_l rfl rfl rfl ?_
    refine l_l rfl rfl rfl ?_
    refine l_x (x_val call_29 rfl (fun w hw => place_fn b _ ha w)) rfl rfl ?_
    rintro _ _ ⟨rfl, rfl⟩
    rw [place_O hj]
    refine l_l rfl rfl rfl ?_
    refine l_l rfl rfl rfl ?_
    refine l_l rfl rfl rfl ?_
    refine l_l rfl rfl rfl ?_
    refine l_l rfl rfl rfl ?_
    refine l_nil ?_
    refine c_seq ?_
    refine c_region ?_
    refine l_l rfl rfl rfl ?_
    refine l_sure true rfl rfl rfl rfl ?_
    refine l_nil ?_
    refine c_true rfl ?_
    refine c_seq ?_
    refine c_region ?_
    refine l_l rfl rfl rfl ?_
    refine l_l rfl rfl rfl ?_
    refine l_x (x_load rfl rfl (at_old (get0 hr (cU_O hu hj)) (by simp))) rfl rfl ?_
    rintro _ _ ⟨rfl, rfl⟩
    refine l_l rfl rfl rfl ?_
    refine l_nil ?_
    refine c_ret ?_
    exact l_end0 (fun _ _ => rets_v rfl) ⟨rfl, congrArg _ (peek_O hj).symm⟩
  · refine c_region ?_
    refine l_l rfl rfl rfl ?_
    refine l_l rfl rfl rfl ?_
    refine l_x (x_val call_29 rfl (fun w hw => place_fn b _ ha w)) rfl rfl ?_
    rintro _ _ ⟨rfl, rfl⟩
    rw [place_no hno]
    refine l_l rfl rfl rfl ?_
    refine l_l rfl rfl rfl ?_
    refine l_l rfl rfl rfl ?_
    refine l_l rfl rfl rfl ?_
    refine l_l rfl rfl rfl ?_
    refine l_nil ?_
    refine c_seq ?_
    refine c_region ?_
    refine l_l rfl rfl rfl ?_
    refine l_sure false rfl rfl rfl rfl ?_
    refine l_nil ?_
    refine c_false rfl ?_
    refine c_skip ?_
    refine c_seq ?_
    refine c_region ?_
    refine l_l rfl rfl rfl ?_
    refine l_x (x_val call_30 rfl (fun w hw => number_fn _ ha w)) rfl rfl ?_
    rintro _ _ ⟨rfl, rfl⟩
    refine l_l rfl rfl rfl ?_
    refine l_nil ?_
    refine c_seq ?_
    refine c_seq ?_
    refine c_region ?_
    refine l_l rfl rfl rfl ?_
    refine l_nil ?_
    refine c_block ?_
    refine c_seq ?_
    refine c_region ?_
    refine l_l rfl rfl rfl ?_
    refine l_l rfl rfl rfl ?_
    refine l_nil ?_
    refine c_cond rfl (fun h1 => ?_) (fun h1 => ?_)
    · refine c_seq ?_
      refine c_region ?_
      refine l_l rfl rfl rfl ?_
      refine l_nil ?_
      refine c_ret ?_
      exact l_end0 (fun _ _ => rets_v rfl) ⟨rfl, congrArg _ (by rw [peek_R hno, if_pos (by (try simp only [decide_eq_true_eq, decide_eq_false_iff_not, beq_iff_eq, beq_eq_false_iff_ne, bne_iff_ne, bne_eq_false_iff_eq, ne_eq] at *); omega)])⟩
    · refine c_seq ?_
      refine c_region ?_
      refine l_l rfl rfl rfl ?_
      refine l_l rfl rfl rfl ?_
      refine l_nil ?_
      refine c_cond rfl (fun h2 => ?_) (fun h2 => ?_)
      · refine c_seq ?_
        refine c_region ?_
        refine l_l rfl rfl rfl ?_
        refine l_l rfl rfl rfl ?_
        refine l_l (light_fa rfl rfl) rfl rfl ?_
        refine l_x (x_load rfl rfl (at_old (get0 hr (cU_line hu)) (by simp))) rfl rfl ?_
        rintro _ _ ⟨rfl, rfl⟩
        refine l_as (v := (.int .u8 (u.line % 256))) rfl rfl rfl (congrArg _ (wrap_u8 _)) ?_
        refine l_l rfl rfl rfl ?_
        refine l_nil ?_
        refine c_ret ?_
        exact l_end0 (fun _ _ => rets_v rfl) ⟨rfl, congrArg _ (by rw [peek_R hno, if_neg (by (try simp only [decide_eq_true_eq, decide_eq_false_iff_not, beq_iff_eq, beq_eq_false_iff_ne, bne_iff_ne, bne_eq_false_iff_eq, ne_eq] at *); omega), if_pos (by (try simp only [decide_eq_true_eq, decide_eq_false_iff_not, beq_iff_eq, beq_eq_false_iff_ne, bne_iff_ne, bne_eq_false_iff_eq, ne_eq] at *); omega)])⟩
      · refine c_seq ?_
        refine c_region ?_
        refine l_l rfl rfl rfl ?_
        refine l_l rfl rfl rfl ?_
        refine l_nil ?_
        refine c_cond rfl (fun h3 => ?_) (fun h3 => ?_)
        · refine c_seq ?_
          refine c_draw _ [7, 8, 9] (.step true 0 (.step true 1 (.step true 2 (.step true 3 (.step true 4 (.step true 5 (.step true 6 (.step true 7 (.step false 8 (.step true 9 (.step true 10 (.step true 11 .done)))))))))))) rfl (by kernel_rfl) (by kernel_rfl) (fun _ h => h) ?_
          refine d_light rfl rfl rfl rfl rfl ?_
          refine d_light rfl rfl rfl rfl rfl ?_
          refine d_light rfl rfl rfl rfl rfl ?_
          refine d_light rfl (light_fa rfl rfl) rfl rfl rfl ?_
          refine d_light rfl (idx_array1 (numU a).toNat rfl rfl rfl (by (try simp only [decide_eq_true_eq, decide_eq_false_iff_not, beq_iff_eq, beq_eq_false_iff_ne, bne_iff_ne, bne_eq_false_iff_eq, ne_eq] at *); omega) (by (try simp only [decide_eq_true_eq, decide_eq_false_iff_not, beq_iff_eq, beq_eq_false_iff_ne, bne_iff_ne, bne_eq_false_iff_eq, ne_eq] at *); omega)) rfl rfl rfl ?_
          refine d_load rfl rfl rfl (s_old (get0 hr (cU_R hu (j := (numU a).toNat) (by (try simp only [decide_eq_true_eq, decide_eq_false_iff_not, beq_iff_eq, beq_eq_false_iff_ne, bne_iff_ne, bne_eq_false_iff_eq, ne_eq] at *); omega))) (by simp)) rfl rfl ?_
          refine d_light rfl rfl rfl rfl rfl ?_
          refine d_light rfl rfl rfl rfl rfl ?_
          refine d_x rfl (x_val call_16 rfl (fun w hw => mode_fn b u hu w (row_old hr (by simp) w hw))) rfl rfl (by intro _ _ _ hK x hx; obtain ⟨rfl, rfl⟩ := hK; repeat (first | exact hx | exact List.mem_append_left _ hx | refine List.mem_append_right _ ?_ | refine .tail _ ?_)) ?_
          rintro _ _ ⟨rfl, rfl⟩
          refine d_as (v := (.int .u8 (modeU u))) rfl rfl rfl rfl rfl (congrArg _ (wrap_u8_id (by omega) (by omega))) ?_
          refine d_as (v := (.int .u8 (statU u))) rfl rfl rfl rfl rfl (by have h9 : (numU a).toNat = 1 := (by (try simp only [decide_eq_true_eq, decide_eq_false_iff_not, beq_iff_eq, beq_eq_false_iff_ne, bne_iff_ne, bne_eq_false_iff_eq, ne_eq] at *); omega); rw [h9]; rfl) ?_
          refine d_light rfl rfl rfl rfl rfl ?_
          refine d_nil ?_
          refine c_seq ?_
          refine c_seq ?_
          refine c_region ?_
          refine l_l rfl rfl rfl ?_
          refine l_x (x_val call_35 rfl (fun w hw => found_fn b u hu w (row_old hr (by simp) w hw))) rfl rfl ?_
          rintro _ _ ⟨rfl, rfl⟩
          refine l_nil ?_
          refine c_cond rfl (fun h4 => ?_) (fun h4 => ?_)
          · refine c_region ?_
            refine l_l rfl rfl rfl ?_
            refine l_l rfl rfl rfl ?_
            refine l_l rfl rfl rfl ?_
            refine l_nil ?_
            refine c_seq ?_
            refine c_region ?_
            refine l_l rfl rfl rfl ?_
            refine l_l rfl rfl rfl ?_
            refine l_nil ?_
            refine c_ret ?_
            exact l_end0 (fun _ _ => rets_v rfl) ⟨rfl, congrArg _ (by rw [peek_R hno, if_neg (by (try simp only [decide_eq_true_eq, decide_eq_false_iff_not, beq_iff_eq, beq_eq_false_iff_ne, bne_iff_ne, bne_eq_false_iff_eq, ne_eq] at *); omega), if_neg (by (try simp only [decide_eq_true_eq, decide_eq_false_iff_not, beq_iff_eq, beq_eq_false_iff_ne, bne_iff_ne, bne_eq_false_iff_eq, ne_eq] at *); omega), if_pos (by (try simp only [decide_eq_true_eq, decide_eq_false_iff_not, beq_iff_eq, beq_eq_false_iff_ne, bne_iff_ne, bne_eq_false_iff_eq, ne_eq] at *); omega), if_pos h4]; try rfl)⟩
          · refine c_skip ?_
            refine c_seq ?_
            refine c_region ?_
            refine l_l rfl rfl rfl ?_
            refine l_l rfl rfl rfl ?_
            refine l_nil ?_
            refine c_ret ?_
            exact l_end0 (fun _ _ => rets_v rfl) ⟨rfl, congrArg _ (by rw [peek_R hno, if_neg (by (try simp only [decide_eq_true_eq, decide_eq_false_iff_not, beq_iff_eq, beq_eq_false_iff_ne, bne_iff_ne, bne_eq_false_iff_eq, ne_eq] at *); omega), if_neg (by (try simp only [decide_eq_true_eq, decide_eq_false_iff_not, beq_iff_eq, beq_eq_false_iff_ne, bne_iff_ne, bne_eq_false_iff_eq, ne_eq] at *); omega), if_pos (by (try simp only [decide_eq_true_eq, decide_eq_false_iff_not, beq_iff_eq, beq_eq_false_iff_ne, bne_iff_ne, bne_eq_false_iff_eq, ne_eq] at *); omega), if_neg (by rw [h4]; decide)]; try rfl)⟩
        · refine c_skip ?_
          refine c_seq ?_
          refine c_region ?_
          refine l_l rfl rfl rfl ?_
          refine l_l rfl rfl rfl ?_
          refine l_l rfl rfl rfl ?_
          refine l_l (light_fa rfl rfl) rfl rfl ?_
          refine l_l (idx_array1 (numU a).toNat rfl rfl rfl (by (try simp only [decide_eq_true_eq, decide_eq_false_iff_not, beq_iff_eq, beq_eq_false_iff_ne, bne_iff_ne, bne_eq_false_iff_eq, ne_eq] at *); omega) (by (try simp only [decide_eq_true_eq, decide_eq_false_iff_not, beq_iff_eq, beq_eq_false_iff_ne, bne_iff_ne, bne_eq_false_iff_eq, ne_eq] at *); omega)) rfl rfl ?_
          refine l_x (x_load rfl rfl (at_old (get0 hr (cU_R hu (j := (numU a).toNat) (by (try simp only [decide_eq_true_eq, decide_eq_false_iff_not, beq_iff_eq, beq_eq_false_iff_ne, bne_iff_ne, bne_eq_false_iff_eq, ne_eq] at *); omega))) (by simp))) rfl rfl ?_
          rintro _ _ ⟨rfl, rfl⟩
          refine l_l rfl rfl rfl ?_
          refine l_nil ?_
          refine c_ret ?_
          exact l_end0 (fun _ _ => rets_v rfl) ⟨rfl, congrArg _ (by rw [peek_R hno, if_neg (by (try simp only [decide_eq_true_eq, decide_eq_false_iff_not, beq_iff_eq, beq_eq_false_iff_ne, bne_iff_ne, bne_eq_false_iff_eq, ne_eq] at *); omega), if_neg (by (try simp only [decide_eq_true_eq, decide_eq_false_iff_not, beq_iff_eq, beq_eq_false_iff_ne, bne_iff_ne, bne_eq_false_iff_eq, ne_eq] at *); omega), if_neg (by (try simp only [decide_eq_true_eq, decide_eq_false_iff_not, beq_iff_eq, beq_eq_false_iff_ne, bne_iff_ne, bne_eq_false_iff_eq, ne_eq] at *); omega)])⟩

theorem read_fn (b : Nat) (u : PU) (hu : u.Wf) (w : World) (hr : Row w b 0 (cU u)) (a : Int) (ha : 0 ≤ a ∧ a < 65536) : Does Try.prog 17 [.pointer (some ⟨b, 0, none⟩), .int .u16 a] w [] (fun v H => H = [] ∧ v = .int .u8 (readU u a)) := by
  refine does_of Try.func17 rfl rfl rfl (St.refl w) ?_
  refine c_seq ?_
  refine c_region ?_
  refine l_l rfl rfl rfl ?_
  refine l_nil ?_
  refine c_seq ?_
  refine c_seq ?_
  refine c_region ?_
  refine l_l rfl rfl rfl ?_
  refine l_l rfl rfl rfl ?_
  refine l_nil ?_
  refine c_false rfl ?_
  refine c_skip ?_
  refine c_seq ?_
  refine c_seq ?_
  rcases addr_ways ha with ⟨j, hj, rfl⟩ | ⟨j, hj, rfl⟩ | hno
  · refine c_region ?_
    refine l_l rfl rfl rfl ?_
    refine l_l rfl rfl rfl ?_
    refine l_x (x_val call_29 rfl (fun w hw => place_fn b _ ha w)) rfl rfl ?_
    rintro _ _ ⟨rfl, rfl⟩
    rw [place_V hj]
    refine l_l rfl rfl rfl ?_
    refine l_l rfl rfl rfl ?_
    refine l_l rfl rfl rfl ?_
    refine l_l rfl rfl rfl ?_
    refine l_l rfl rfl rfl ?_
    refine l_nil ?_
    refine c_seq ?_
    refine c_region ?_
    refine l_l rfl rfl rfl ?_
    refine l_sure true rfl rfl rfl rfl ?_
    refine l_l rfl rfl rfl ?_
    refine l_l rfl rfl rfl ?_
    refine l_x (x_val call_16 rfl (fun w hw => mode_fn b u hu w (row_old hr (by simp) w hw))) rfl rfl ?_
    rintro _ _ ⟨rfl, rfl⟩
    refine l_l rfl rfl rfl ?_
    refine l_l rfl rfl rfl ?_
    refine l_l rfl rfl rfl ?_
    refine l_nil ?_
    refine c_cond rfl (fun h1 => ?_) (fun h1 => ?_)
    · refine c_seq ?_
      refine c_region ?_
      refine l_l rfl rfl rfl ?_
      refine l_nil ?_
      refine c_ret ?_
      exact l_end0 (fun _ _ => rets_v rfl) ⟨rfl, congrArg _ (by rw [read_V hj, if_pos (by (try simp only [decide_eq_true_eq, decide_eq_false_iff_not, beq_iff_eq, beq_eq_false_iff_ne, bne_iff_ne, bne_eq_false_iff_eq, ne_eq] at *); omega)])⟩
    · refine c_skip ?_
      refine c_seq ?_
      refine c_region ?_
      refine l_l rfl rfl rfl ?_
      refine l_l rfl rfl rfl ?_
      refine l_x (x_val call_18 rfl (fun w hw => peek_fn b u hu w (row_old hr (by simp) w hw) _ ha)) rfl rfl ?_
      rintro _ _ ⟨rfl, rfl⟩
      refine l_l rfl rfl rfl ?_
      refine l_nil ?_
      refine c_ret ?_
      exact l_end0 (fun _ _ => rets_v rfl) ⟨rfl, congrArg _ (by rw [read_V hj, if_neg (by (try simp only [decide_eq_true_eq, decide_eq_false_iff_not, beq_iff_eq, beq_eq_false_iff_ne, bne_iff_ne, bne_eq_false_iff_eq, ne_eq] at *); omega)])⟩
  · refine c_region ?_
    refine l_l rfl rfl rfl ?_
    refine l_l rfl rfl rfl ?_
    refine l_x (x_val call_29 rfl (fun w hw => place_fn b _ ha w)) rfl rfl ?_
    rintro _ _ ⟨rfl, rfl⟩
    rw [place_O hj]
    refine l_l rfl rfl rfl ?_
    refine l_l rfl rfl rfl ?_
    refine l_l rfl rfl rfl ?_
    refine l_l rfl rfl rfl ?_
    refine l_l rfl rfl rfl ?_
    refine l_nil ?_
    refine c_seq ?_
    refine c_region ?_
    refine l_l rfl rfl rfl ?_
    refine l_sure true rfl rfl rfl rfl ?_
    refine l_l rfl rfl rfl ?_
    refine l_l rfl rfl rfl ?_
    refine l_x (x_val call_16 rfl (fun w hw => mode_fn b u hu w (row_old hr (by simp) w hw))) rfl rfl ?_
    rintro _ _ ⟨rfl, rfl⟩
    refine l_l rfl rfl rfl ?_
    refine l_l rfl rfl rfl ?_
    refine l_l rfl rfl rfl ?_
    refine l_nil ?_
    refine c_cond rfl (fun h2 => ?_) (fun h2 => ?_)
    · refine c_seq ?_
      refine c_region ?_
      refine l_l rfl rfl rfl ?_
      refine l_nil ?_
      refine c_ret ?_
      exact l_end0 (fun _ _ => rets_v rfl) ⟨rfl, congrArg _ (by rw [read_O hj, if_pos (by (try simp only [decide_eq_true_eq, decide_eq_false_iff_not, beq_iff_eq, beq_eq_false_iff_ne, bne_iff_ne, bne_eq_false_iff_eq, ne_eq] at *); omega)])⟩
    · refine c_skip ?_
      refine c_seq ?_
      refine c_region ?_
      refine l_l rfl rfl rfl ?_
      refine l_l rfl rfl rfl ?_
      refine l_x (x_val call_18 rfl (fun w hw => peek_fn b u hu w (row_old hr (by simp) w hw) _ ha)) rfl rfl ?_
      rintro _ _ ⟨rfl, rfl⟩
      refine l_l rfl rfl rfl ?_
      refine l_nil ?_
      refine c_ret ?_
      exact l_end0 (fun _ _ => rets_v rfl) ⟨rfl, congrArg _ (by rw [read_O hj, if_neg (by (try simp only [decide_eq_true_eq, decide_eq_false_iff_not, beq_iff_eq, beq_eq_false_iff_ne, bne_iff_ne, bne_eq_false_iff_eq, ne_eq] at *); omega)])⟩
  · refine c_region ?_
    refine l_l rfl rfl rfl ?_
    refine l_l rfl rfl rfl ?_
    refine l_x (x_val call_29 rfl (fun w hw => place_fn b _ ha w)) rfl rfl ?_
    rintro _ _ ⟨rfl, rfl⟩
    rw [place_no hno]
    refine l_l rfl rfl rfl ?_
    refine l_l rfl rfl rfl ?_
    refine l_l rfl rfl rfl ?_
    refine l_l rfl rfl rfl ?_
    refine l_l rfl rfl rfl ?_
    refine l_nil ?_
    refine c_seq ?_
    refine c_region ?_
    refine l_l rfl rfl rfl ?_
    refine l_sure false rfl rfl rfl rfl ?_
    refine l_l rfl rfl rfl ?_
    refine l_p rfl rfl ?_
    refine l_p rfl rfl ?_
    refine l_p rfl rfl ?_
    refine l_p rfl rfl ?_
    refine l_l rfl rfl rfl ?_
    refine l_nil ?_
    refine c_false rfl ?_
    refine c_skip ?_
    refine c_seq ?_
    refine c_region ?_
    refine l_l rfl rfl rfl ?_
    refine l_l rfl rfl rfl ?_
    refine l_x (x_val call_18 rfl (fun w hw => peek_fn b u hu w (row_old hr (by simp) w hw) _ ha)) rfl rfl ?_
    rintro _ _ ⟨rfl, rfl⟩
    refine l_l rfl rfl rfl ?_
    refine l_nil ?_
    refine c_ret ?_
    exact l_end0 (fun _ _ => rets_v rfl) ⟨rfl, congrArg _ (read_no hno).symm⟩

set_option maxHeartbeats 2000000 in
theorem write_fn (b : Nat) (u : PU) (hu : u.Wf) (w : World) (hst : St w [b] [(b, blk (cU u) 60)] w) (a x : Int) (ha : 0 ≤ a ∧ a < 65536) (hx : 0 ≤ x ∧ x < 256) : Does Try.prog 12 [.pointer (some ⟨b, 0, none⟩), .int .u16 a, .int .u8 x] w [b] (fun v H => v = .int .u8 (writeV u a x) ∧ H = [(b, blk (cU (writeU u a x)) 60)]) := by
  have hnr := num_range a
  refine does_of Try.func12 rfl rfl rfl hst ?_
  refine c_seq ?_
  refine c_region ?_
  refine l_l rfl rfl rfl ?_
  refine l_nil ?_
  refine c_seq ?_
  refine c_seq ?_
  refine c_region ?_
  refine l_l rfl rfl rfl ?_
  refine l_l rfl rfl rfl ?_
  refine l_nil ?_
  refine c_false rfl ?_
  refine c_skip ?_
  refine c_seq ?_
  refine c_seq ?_
  rcases addr_ways ha with ⟨j, hj, rfl⟩ | ⟨j, hj, rfl⟩ | hno
  · refine c_region ?_
    refine l_l rfl rfl rfl ?_
    refine l_l rfl rfl rfl ?_
    refine l_x (x_val call_29 rfl (fun w hw => place_fn b _ ha w)) rfl rfl ?_
    rintro _ _ ⟨rfl, rfl⟩
    rw [place_V hj]
    refine l_l rfl rfl rfl ?_
    refine l_l rfl rfl rfl ?_
    refine l_l rfl rfl rfl ?_
    refine l_l rfl rfl rfl ?_
    refine l_l rfl rfl rfl ?_
    refine l_nil ?_
    refine c_seq ?_
    refine c_region ?_
    refine l_l rfl rfl rfl ?_
    refine l_sure true rfl rfl rfl rfl ?_
    refine l_nil ?_
    refine c_true rfl ?_
    refine c_seq ?_
    refine c_seq ?_
    refine c_region ?_
    refine l_l rfl rfl rfl ?_
    refine l_x (x_val call_16 rfl (fun w hw => mode_fn b u hu w (row_own (by repeat (first | exact .head _ | refine .tail _ ?_ | refine List.mem_append_right _ ?_)) w hw))) rfl rfl ?_
    rintro _ _ ⟨rfl, rfl⟩
    refine l_l rfl rfl rfl ?_
    refine l_l rfl rfl rfl ?_
    refine l_nil ?_
    refine c_cond rfl (fun h1 => ?_) (fun h1 => ?_)
    · refine c_region ?_
      refine l_l rfl rfl rfl ?_
      refine l_l rfl rfl rfl ?_
      refine l_l rfl rfl rfl ?_
      refine l_x (x_storeTo (l' := cU { u with V := u.V.set j x }) 0 rfl rfl rfl rfl rfl rfl (by rw [cU_len hu]; simp only [List.length_cons, List.length_nil]; (try simp only [decide_eq_true_eq, decide_eq_false_iff_not, beq_iff_eq, beq_eq_false_iff_ne, bne_iff_ne, bne_eq_false_iff_eq, ne_eq] at *); omega) (by rw [Nat.zero_add]; exact putU_V hu hj x)) rfl rfl ?_
      rintro _ _ ⟨rfl, rfl⟩
      simp only [List.set_cons_zero, List.set_cons_succ]
      refine l_nil ?_
      refine c_seq ?_
      refine c_region ?_
      refine l_l rfl rfl rfl ?_
      refine l_nil ?_
      refine c_ret ?_
      exact l_end (fun _ _ => rets_v rfl) (List.Sublist.refl _) ⟨congrArg _ (wv_V _ hj).symm, by rw [write_V _ hj, if_pos (by (try simp only [decide_eq_true_eq, decide_eq_false_iff_not, beq_iff_eq, beq_eq_false_iff_ne, bne_iff_ne, bne_eq_false_iff_eq, ne_eq] at *); omega)]⟩
    · refine c_skip ?_
      refine c_seq ?_
      refine c_region ?_
      refine l_l rfl rfl rfl ?_
      refine l_nil ?_
      refine c_ret ?_
      exact l_end (fun _ _ => rets_v rfl) (List.Sublist.refl _) ⟨congrArg _ (wv_V _ hj).symm, by rw [write_V _ hj, if_neg (by (try simp only [decide_eq_true_eq, decide_eq_false_iff_not, beq_iff_eq, beq_eq_false_iff_ne, bne_iff_ne, bne_eq_false_iff_eq, ne_eq] at *); omega)]⟩
  · refine c_region ?_
    refine l_l rfl rfl rfl ?_
    refine l_l rfl rfl rfl ?_
    refine l_x (x_val call_29 rfl (fun w hw => place_fn b _ ha w)) rfl rfl ?_
    rintro _ _ ⟨rfl, rfl⟩
    rw [place_O hj]
    refine l_l rfl rfl rfl ?_
    refine l_l rfl rfl rfl ?_
    refine l_l rfl rfl rfl ?_
    refine l_l rfl rfl rfl ?_
    refine l_l rfl rfl rfl ?_
    refine l_nil ?_
    refine c_seq ?_
    refine c_region ?_
    refine l_l rfl rfl rfl ?_
    refine l_sure true rfl rfl rfl rfl ?_
    refine l_nil ?_
    refine c_true rfl ?_
    refine c_seq ?_
    refine c_seq ?_
    refine c_region ?_
    refine l_l rfl rfl rfl ?_
    refine l_x (x_val call_16 rfl (fun w hw => mode_fn b u hu w (row_own (by repeat (first | exact .head _ | refine .tail _ ?_ | refine List.mem_append_right _ ?_)) w hw))) rfl rfl ?_
    rintro _ _ ⟨rfl, rfl⟩
    refine l_l rfl rfl rfl ?_
    refine l_l rfl rfl rfl ?_
    refine l_nil ?_
    refine c_cond rfl (fun h2 => ?_) (fun h2 => ?_)
    · refine c_region ?_
      refine l_l rfl rfl rfl ?_
      refine l_l rfl rfl rfl ?_
      refine l_l rfl rfl rfl ?_
      refine l_x (x_storeTo (l' := cU { u with O := u.O.set j x }) 0 rfl rfl rfl rfl rfl rfl (by rw [cU_len hu]; simp only [List.length_cons, List.length_nil]; (try simp only [decide_eq_true_eq, decide_eq_false_iff_not, beq_iff_eq, beq_eq_false_iff_ne, bne_iff_ne, bne_eq_false_iff_eq, ne_eq] at *); omega) (putU_O hu hj x)) rfl rfl ?_
      rintro _ _ ⟨rfl, rfl⟩
      simp only [List.set_cons_zero, List.set_cons_succ]
      refine l_nil ?_
      refine c_seq ?_
      refine c_region ?_
      refine l_l rfl rfl rfl ?_
      refine l_nil ?_
      refine c_ret ?_
      exact l_end (fun _ _ => rets_v rfl) (List.Sublist.refl _) ⟨congrArg _ (wv_O _ hj).symm, by rw [write_O _ hj, if_pos (by (try simp only [decide_eq_true_eq, decide_eq_false_iff_not, beq_iff_eq, beq_eq_false_iff_ne, bne_iff_ne, bne_eq_false_iff_eq, ne_eq] at *); omega)]⟩
    · refine c_skip ?_
      refine c_seq ?_
      refine c_region ?_
      refine l_l rfl rfl rfl ?_
      refine l_nil ?_
      refine c_ret ?_
      exact l_end (fun _ _ => rets_v rfl) (List.Sublist.refl _) ⟨congrArg _ (wv_O _ hj).symm, by rw [write_O _ hj, if_neg (by (try simp only [decide_eq_true_eq, decide_eq_false_iff_not, beq_iff_eq, beq_eq_false_iff_ne, bne_iff_ne, bne_eq_false_iff_eq, ne_eq] at *); omega)]⟩
  · refine c_region ?_
    refine l_l rfl rfl rfl ?_
    refine l_l rfl rfl rfl ?_
    refine l_x (x_val call_29 rfl (fun w hw => place_fn b _ ha w)) rfl rfl ?_
    rintro _ _ ⟨rfl, rfl⟩
    rw [place_no hno]
    refine l_l rfl rfl rfl ?_
    refine l_l rfl rfl rfl ?_
    refine l_l rfl rfl rfl ?_
    refine l_l rfl rfl rfl ?_
    refine l_l rfl rfl rfl ?_
    refine l_nil ?_
    refine c_seq ?_
    refine c_region ?_
    refine l_l rfl rfl rfl ?_
    refine l_sure false rfl rfl rfl rfl ?_
    refine l_nil ?_
    refine c_false rfl ?_
    refine c_skip ?_
    refine c_seq ?_
    refine c_region ?_
    refine l_l rfl rfl rfl ?_
    refine l_x (x_val call_30 rfl (fun w hw => number_fn _ ha w)) rfl rfl ?_
    rintro _ _ ⟨rfl, rfl⟩
    refine l_l rfl rfl rfl ?_
    refine l_x (x_val call_31 rfl (fun w hw => lit_fn b u hu w (row_own (by repeat (first | exact .head _ | refine .tail _ ?_ | refine List.mem_append_right _ ?_)) w hw))) rfl rfl ?_
    rintro _ _ ⟨rfl, rfl⟩
    refine l_l rfl rfl rfl ?_
    refine l_l rfl rfl rfl ?_
    refine l_nil ?_
    refine c_seq ?_
    refine c_seq ?_
    refine c_region ?_
    refine l_l rfl rfl rfl ?_
    refine l_nil ?_
    refine c_block ?_
    refine c_seq ?_
    refine c_region ?_
    refine l_l rfl rfl rfl ?_
    refine l_l rfl rfl rfl ?_
    refine l_nil ?_
    refine c_cond rfl (fun h3 => ?_) (fun h3 => ?_)
    · refine c_seq ?_
      refine c_region ?_
      refine l_l rfl rfl rfl ?_
      refine l_nil ?_
      refine c_ret ?_
      exact l_end (fun _ _ => rets_v rfl) (List.Sublist.refl _) ⟨congrArg _ (wv_no _ hno (by (try simp only [decide_eq_true_eq, decide_eq_false_iff_not, beq_iff_eq, beq_eq_false_iff_ne, bne_iff_ne, bne_eq_false_iff_eq, ne_eq] at *); omega)).symm, by rw [write_no _ hno (by (try simp only [decide_eq_true_eq, decide_eq_false_iff_not, beq_iff_eq, beq_eq_false_iff_ne, bne_iff_ne, bne_eq_false_iff_eq, ne_eq] at *); omega)]⟩
    · refine c_seq ?_
      refine c_region ?_
      refine l_l rfl rfl rfl ?_
      refine l_l rfl rfl rfl ?_
      refine l_nil ?_
      refine c_cond rfl (fun h4 => ?_) (fun h4 => ?_)
      · refine c_region ?_
        refine l_l rfl rfl rfl ?_
        refine l_l rfl rfl rfl ?_
        refine l_l rfl rfl rfl ?_
        refine l_l rfl rfl rfl ?_
        refine l_l rfl rfl rfl ?_
        refine l_l (light_fa rfl rfl) rfl rfl ?_
        refine l_l (idx_array1 (numU a).toNat rfl rfl rfl (by (try simp only [decide_eq_true_eq, decide_eq_false_iff_not, beq_iff_eq, beq_eq_false_iff_ne, bne_iff_ne, bne_eq_false_iff_eq, ne_eq] at *); omega) (by (try simp only [decide_eq_true_eq, decide_eq_false_iff_not, beq_iff_eq, beq_eq_false_iff_ne, bne_iff_ne, bne_eq_false_iff_eq, ne_eq] at *); omega)) rfl rfl ?_
        refine l_x (x_storeTo (l' := cU { u with R := u.R.set 1 (band .u8 x 120) }) 0 rfl rfl rfl rfl rfl rfl (by rw [cU_len hu]; simp only [List.length_cons, List.length_nil]; (try simp only [decide_eq_true_eq, decide_eq_false_iff_not, beq_iff_eq, beq_eq_false_iff_ne, bne_iff_ne, bne_eq_false_iff_eq, ne_eq] at *); omega) (by rw [show (numU a).toNat = 1 by (try simp only [decide_eq_true_eq, decide_eq_false_iff_not, beq_iff_eq, beq_eq_false_iff_ne, bne_iff_ne, bne_eq_false_iff_eq, ne_eq] at *); omega]; exact putU_R hu (j := 1) (by decide) _)) rfl rfl ?_
        rintro _ _ ⟨rfl, rfl⟩
        simp only [List.set_cons_zero, List.set_cons_succ]
        refine l_nil ?_
        refine c_seq ?_
        refine c_seq ?_
        refine c_region ?_
        refine l_l rfl rfl rfl ?_
        refine l_b rfl rfl rfl (fun h5 => ?_) (fun h5 => ?_)
        · refine l_l rfl rfl rfl ?_
          refine l_x (x_val call_31 rfl (fun w hw => lit_fn b ({ u with R := u.R.set 1 (band .u8 x 120) }) (hu.set1 hx) w (row_own (by repeat (first | exact .head _ | refine .tail _ ?_ | refine List.mem_append_right _ ?_)) w hw))) rfl rfl ?_
          rintro _ _ ⟨rfl, rfl⟩
          refine l_l rfl rfl rfl ?_
          refine l_l rfl rfl rfl ?_
          refine l_nil ?_
          refine c_cond rfl (fun h6 => ?_) (fun h6 => ?_)
          · refine c_region ?_
            refine l_l rfl rfl rfl ?_
            refine l_l rfl rfl rfl ?_
            refine l_l rfl rfl rfl ?_
            refine l_l rfl rfl rfl ?_
            refine l_l (light_fa rfl rfl) rfl rfl ?_
            refine l_x (x_storeTo (l' := cU ({ ({ u with R := u.R.set 1 (band .u8 x 120) } : PU) with line := 0 } : PU)) 0 rfl rfl rfl rfl rfl rfl (by rw [cU_len (hu.set1 hx)]; simp only [List.length_cons, List.length_nil]; (try simp only [decide_eq_true_eq, decide_eq_false_iff_not, beq_iff_eq, beq_eq_false_iff_ne, bne_iff_ne, bne_eq_false_iff_eq, ne_eq] at *); omega) (putU_line (hu.set1 hx) _)) rfl rfl ?_
            rintro _ _ ⟨rfl, rfl⟩
            simp only [List.set_cons_zero, List.set_cons_succ]
            refine l_l rfl rfl rfl ?_
            refine l_l (light_fa rfl rfl) rfl rfl ?_
            refine l_x (x_storeTo (l' := cU ({ ({ u with R := u.R.set 1 (band .u8 x 120) } : PU) with line := 0, dot := 0 } : PU)) 0 rfl rfl rfl rfl rfl rfl (by rw [cU_len ((hu.set1 hx).line_ (x := 0) (by decide))]; simp only [List.length_cons, List.length_nil]; (try simp only [decide_eq_true_eq, decide_eq_false_iff_not, beq_iff_eq, beq_eq_false_iff_ne, bne_iff_ne, bne_eq_false_iff_eq, ne_eq] at *); omega) (putU_dot ((hu.set1 hx).line_ (x := 0) (by decide)) _)) rfl rfl ?_
            rintro _ _ ⟨rfl, rfl⟩
            simp only [List.set_cons_zero, List.set_cons_succ]
            refine l_l rfl rfl rfl ?_
            refine l_l (light_fa rfl rfl) rfl rfl ?_
            refine l_x (x_storeTo (l' := cU ({ ({ u with R := u.R.set 1 (band .u8 x 120) } : PU) with line := 0, dot := 0, own := 0 } : PU)) 0 rfl rfl rfl rfl rfl rfl (by rw [cU_len (((hu.set1 hx).line_ (x := 0) (by decide)).dot_ (x := 0) (by decide))]; simp only [List.length_cons, List.length_nil]; (try simp only [decide_eq_true_eq, decide_eq_false_iff_not, beq_iff_eq, beq_eq_false_iff_ne, bne_iff_ne, bne_eq_false_iff_eq, ne_eq] at *); omega) (putU_own (((hu.set1 hx).line_ (x := 0) (by decide)).dot_ (x := 0) (by decide)) _)) rfl rfl ?_
            rintro _ _ ⟨rfl, rfl⟩
            simp only [List.set_cons_zero, List.set_cons_succ]
            refine l_nil ?_
            refine c_seq ?_
            refine c_region ?_
            refine l_l rfl rfl rfl ?_
            have hs9 : putU u (numU a) x = ({ ({ u with R := u.R.set 1 (band .u8 x 120) } : PU) with line := 0, dot := 0, own := 0 } : PU) := by
              unfold putU; rw [set_1 (by (try simp only [decide_eq_true_eq, decide_eq_false_iff_not, beq_iff_eq, beq_eq_false_iff_ne, bne_iff_ne, bne_eq_false_iff_eq, ne_eq] at *); omega)]; exact off_yes (by simp_all) (by simp_all)
            have hw9 : (putU u (numU a) x).Wf := (hu.set hx (by (try simp only [decide_eq_true_eq, decide_eq_false_iff_not, beq_iff_eq, beq_eq_false_iff_ne, bne_iff_ne, bne_eq_false_iff_eq, ne_eq] at *); omega)).off _
            refine l_heap (H' := [(b, blk (cU (putU u (numU a) x)) 60)]) (fun _ h => h.as (by rw [hs9])) ?_
            refine l_x (x_callA call_32 rfl (fun w hw => ask_fn b (putU u (numU a) x) hw9 w (St.lentA hw))) rfl rfl ?_
            rintro _ _ ⟨rfl, rfl⟩
            refine l_l rfl rfl rfl ?_
            refine l_nil ?_
            refine c_ret ?_
            exact l_end (fun _ _ => rets_v rfl) (List.Sublist.refl _) ⟨congrArg _ (wv_R _ hno (by (try simp only [decide_eq_true_eq, decide_eq_false_iff_not, beq_iff_eq, beq_eq_false_iff_ne, bne_iff_ne, bne_eq_false_iff_eq, ne_eq] at *); omega)).symm, by rw [write_R _ hno (by (try simp only [decide_eq_true_eq, decide_eq_false_iff_not, beq_iff_eq, beq_eq_false_iff_ne, bne_iff_ne, bne_eq_false_iff_eq, ne_eq] at *); omega)]⟩
          · refine c_skip ?_
            refine c_seq ?_
            refine c_region ?_
            refine l_l rfl rfl rfl ?_
            have hs9 : putU u (numU a) x = { u with R := u.R.set 1 (band .u8 x 120) } := by
              unfold putU; rw [set_1 (by (try simp only [decide_eq_true_eq, decide_eq_false_iff_not, beq_iff_eq, beq_eq_false_iff_ne, bne_iff_ne, bne_eq_false_iff_eq, ne_eq] at *); omega)]; exact off_no (by simp_all)
            have hw9 : (putU u (numU a) x).Wf := (hu.set hx (by (try simp only [decide_eq_true_eq, decide_eq_false_iff_not, beq_iff_eq, beq_eq_false_iff_ne, bne_iff_ne, bne_eq_false_iff_eq, ne_eq] at *); omega)).off _
            refine l_heap (H' := [(b, blk (cU (putU u (numU a) x)) 60)]) (fun _ h => h.as (by rw [hs9])) ?_
            refine l_x (x_callA call_32 rfl (fun w hw => ask_fn b (putU u (numU a) x) hw9 w (St.lentA hw))) rfl rfl ?_
            rintro _ _ ⟨rfl, rfl⟩
            refine l_l rfl rfl rfl ?_
            refine l_nil ?_
            refine c_ret ?_
            exact l_end (fun _ _ => rets_v rfl) (List.Sublist.refl _) ⟨congrArg _ (wv_R _ hno (by (try simp only [decide_eq_true_eq, decide_eq_false_iff_not, beq_iff_eq, beq_eq_false_iff_ne, bne_iff_ne, bne_eq_false_iff_eq, ne_eq] at *); omega)).symm, by rw [write_R _ hno (by (try simp only [decide_eq_true_eq, decide_eq_false_iff_not, beq_iff_eq, beq_eq_false_iff_ne, bne_iff_ne, bne_eq_false_iff_eq, ne_eq] at *); omega)]⟩
        · refine l_p rfl rfl ?_
          refine l_p rfl rfl ?_
          refine l_p rfl rfl ?_
          refine l_l rfl rfl rfl ?_
          refine l_nil ?_
          refine c_false rfl ?_
          refine c_skip ?_
          refine c_seq ?_
          refine c_region ?_
          refine l_l rfl rfl rfl ?_
          have hs9 : putU u (numU a) x = { u with R := u.R.set 1 (band .u8 x 120) } := by
            unfold putU; rw [set_1 (by (try simp only [decide_eq_true_eq, decide_eq_false_iff_not, beq_iff_eq, beq_eq_false_iff_ne, bne_iff_ne, bne_eq_false_iff_eq, ne_eq] at *); omega)]; exact off_no (by simp_all)
          have hw9 : (putU u (numU a) x).Wf := (hu.set hx (by (try simp only [decide_eq_true_eq, decide_eq_false_iff_not, beq_iff_eq, beq_eq_false_iff_ne, bne_iff_ne, bne_eq_false_iff_eq, ne_eq] at *); omega)).off _
          refine l_heap (H' := [(b, blk (cU (putU u (numU a) x)) 60)]) (fun _ h => h.as (by rw [hs9])) ?_
          refine l_x (x_callA call_32 rfl (fun w hw => ask_fn b (putU u (numU a) x) hw9 w (St.lentA hw))) rfl rfl ?_
          rintro _ _ ⟨rfl, rfl⟩
          refine l_l rfl rfl rfl ?_
          refine l_nil ?_
          refine c_ret ?_
          exact l_end (fun _ _ => rets_v rfl) (List.Sublist.refl _) ⟨congrArg _ (wv_R _ hno (by (try simp only [decide_eq_true_eq, decide_eq_false_iff_not, beq_iff_eq, beq_eq_false_iff_ne, bne_iff_ne, bne_eq_false_iff_eq, ne_eq] at *); omega)).symm, by rw [write_R _ hno (by (try simp only [decide_eq_true_eq, decide_eq_false_iff_not, beq_iff_eq, beq_eq_false_iff_ne, bne_iff_ne, bne_eq_false_iff_eq, ne_eq] at *); omega)]⟩
      · refine c_seq ?_
        refine c_region ?_
        refine l_l rfl rfl rfl ?_
        refine l_l rfl rfl rfl ?_
        refine l_nil ?_
        refine c_cond rfl (fun h7 => ?_) (fun h7 => ?_)
        · refine c_skip ?_
          refine c_seq ?_
          refine c_seq ?_
          refine c_region ?_
          refine l_l rfl rfl rfl ?_
          refine l_b rfl rfl rfl (fun h8 => ?_) (fun h8 => ?_)
          · refine l_l rfl rfl rfl ?_
            refine l_x (x_val call_31 rfl (fun w hw => lit_fn b (u) hu w (row_own (by repeat (first | exact .head _ | refine .tail _ ?_ | refine List.mem_append_right _ ?_)) w hw))) rfl rfl ?_
            rintro _ _ ⟨rfl, rfl⟩
            refine l_l rfl rfl rfl ?_
            refine l_l rfl rfl rfl ?_
            refine l_nil ?_
            refine c_cond rfl (fun h9 => ?_) (fun h9 => ?_)
            · refine c_region ?_
              refine l_l rfl rfl rfl ?_
              refine l_l rfl rfl rfl ?_
              refine l_l rfl rfl rfl ?_
              refine l_l rfl rfl rfl ?_
              refine l_l (light_fa rfl rfl) rfl rfl ?_
              refine l_x (x_storeTo (l' := cU ({ (u : PU) with line := 0 } : PU)) 0 rfl rfl rfl rfl rfl rfl (by rw [cU_len hu]; simp only [List.length_cons, List.length_nil]; (try simp only [decide_eq_true_eq, decide_eq_false_iff_not, beq_iff_eq, beq_eq_false_iff_ne, bne_iff_ne, bne_eq_false_iff_eq, ne_eq] at *); omega) (putU_line hu _)) rfl rfl ?_
              rintro _ _ ⟨rfl, rfl⟩
              simp only [List.set_cons_zero, List.set_cons_succ]
              refine l_l rfl rfl rfl ?_
              refine l_l (light_fa rfl rfl) rfl rfl ?_
              refine l_x (x_storeTo (l' := cU ({ (u : PU) with line := 0, dot := 0 } : PU)) 0 rfl rfl rfl rfl rfl rfl (by rw [cU_len (hu.line_ (x := 0) (by decide))]; simp only [List.length_cons, List.length_nil]; (try simp only [decide_eq_true_eq, decide_eq_false_iff_not, beq_iff_eq, beq_eq_false_iff_ne, bne_iff_ne, bne_eq_false_iff_eq, ne_eq] at *); omega) (putU_dot (hu.line_ (x := 0) (by decide)) _)) rfl rfl ?_
              rintro _ _ ⟨rfl, rfl⟩
              simp only [List.set_cons_zero, List.set_cons_succ]
              refine l_l rfl rfl rfl ?_
              refine l_l (light_fa rfl rfl) rfl rfl ?_
              refine l_x (x_storeTo (l' := cU ({ (u : PU) with line := 0, dot := 0, own := 0 } : PU)) 0 rfl rfl rfl rfl rfl rfl (by rw [cU_len ((hu.line_ (x := 0) (by decide)).dot_ (x := 0) (by decide))]; simp only [List.length_cons, List.length_nil]; (try simp only [decide_eq_true_eq, decide_eq_false_iff_not, beq_iff_eq, beq_eq_false_iff_ne, bne_iff_ne, bne_eq_false_iff_eq, ne_eq] at *); omega) (putU_own ((hu.line_ (x := 0) (by decide)).dot_ (x := 0) (by decide)) _)) rfl rfl ?_
              rintro _ _ ⟨rfl, rfl⟩
              simp only [List.set_cons_zero, List.set_cons_succ]
              refine l_nil ?_
              refine c_seq ?_
              refine c_region ?_
              refine l_l rfl rfl rfl ?_
              have hs9 : putU u (numU a) x = ({ (u : PU) with line := 0, dot := 0, own := 0 } : PU) := by
                unfold putU; rw [set_4 (by (try simp only [decide_eq_true_eq, decide_eq_false_iff_not, beq_iff_eq, beq_eq_false_iff_ne, bne_iff_ne, bne_eq_false_iff_eq, ne_eq] at *); omega)]; exact off_yes (by simp_all) (by simp_all)
              have hw9 : (putU u (numU a) x).Wf := (hu.set hx (by (try simp only [decide_eq_true_eq, decide_eq_false_iff_not, beq_iff_eq, beq_eq_false_iff_ne, bne_iff_ne, bne_eq_false_iff_eq, ne_eq] at *); omega)).off _
              refine l_heap (H' := [(b, blk (cU (putU u (numU a) x)) 60)]) (fun _ h => h.as (by rw [hs9])) ?_
              refine l_x (x_callA call_32 rfl (fun w hw => ask_fn b (putU u (numU a) x) hw9 w (St.lentA hw))) rfl rfl ?_
              rintro _ _ ⟨rfl, rfl⟩
              refine l_l rfl rfl rfl ?_
              refine l_nil ?_
              refine c_ret ?_
              exact l_end (fun _ _ => rets_v rfl) (List.Sublist.refl _) ⟨congrArg _ (wv_R _ hno (by (try simp only [decide_eq_true_eq, decide_eq_false_iff_not, beq_iff_eq, beq_eq_false_iff_ne, bne_iff_ne, bne_eq_false_iff_eq, ne_eq] at *); omega)).symm, by rw [write_R _ hno (by (try simp only [decide_eq_true_eq, decide_eq_false_iff_not, beq_iff_eq, beq_eq_false_iff_ne, bne_iff_ne, bne_eq_false_iff_eq, ne_eq] at *); omega)]⟩
            · refine c_skip ?_
              refine c_seq ?_
              refine c_region ?_
              refine l_l rfl rfl rfl ?_
              have hs9 : putU u (numU a) x = u := by
                unfold putU; rw [set_4 (by (try simp only [decide_eq_true_eq, decide_eq_false_iff_not, beq_iff_eq, beq_eq_false_iff_ne, bne_iff_ne, bne_eq_false_iff_eq, ne_eq] at *); omega)]; exact off_no (by simp_all)
              have hw9 : (putU u (numU a) x).Wf := (hu.set hx (by (try simp only [decide_eq_true_eq, decide_eq_false_iff_not, beq_iff_eq, beq_eq_false_iff_ne, bne_iff_ne, bne_eq_false_iff_eq, ne_eq] at *); omega)).off _
              refine l_heap (H' := [(b, blk (cU (putU u (numU a) x)) 60)]) (fun _ h => h.as (by rw [hs9])) ?_
              refine l_x (x_callA call_32 rfl (fun w hw => ask_fn b (putU u (numU a) x) hw9 w (St.lentA hw))) rfl rfl ?_
              rintro _ _ ⟨rfl, rfl⟩
              refine l_l rfl rfl rfl ?_
              refine l_nil ?_
              refine c_ret ?_
              exact l_end (fun _ _ => rets_v rfl) (List.Sublist.refl _) ⟨congrArg _ (wv_R _ hno (by (try simp only [decide_eq_true_eq, decide_eq_false_iff_not, beq_iff_eq, beq_eq_false_iff_ne, bne_iff_ne, bne_eq_false_iff_eq, ne_eq] at *); omega)).symm, by rw [write_R _ hno (by (try simp only [decide_eq_true_eq, decide_eq_false_iff_not, beq_iff_eq, beq_eq_false_iff_ne, bne_iff_ne, bne_eq_false_iff_eq, ne_eq] at *); omega)]⟩
          · refine l_p rfl rfl ?_
            refine l_p rfl rfl ?_
            refine l_p rfl rfl ?_
            refine l_l rfl rfl rfl ?_
            refine l_nil ?_
            refine c_false rfl ?_
            refine c_skip ?_
            refine c_seq ?_
            refine c_region ?_
            refine l_l rfl rfl rfl ?_
            have hs9 : putU u (numU a) x = u := by
              unfold putU; rw [set_4 (by (try simp only [decide_eq_true_eq, decide_eq_false_iff_not, beq_iff_eq, beq_eq_false_iff_ne, bne_iff_ne, bne_eq_false_iff_eq, ne_eq] at *); omega)]; exact off_no (by simp_all)
            have hw9 : (putU u (numU a) x).Wf := (hu.set hx (by (try simp only [decide_eq_true_eq, decide_eq_false_iff_not, beq_iff_eq, beq_eq_false_iff_ne, bne_iff_ne, bne_eq_false_iff_eq, ne_eq] at *); omega)).off _
            refine l_heap (H' := [(b, blk (cU (putU u (numU a) x)) 60)]) (fun _ h => h.as (by rw [hs9])) ?_
            refine l_x (x_callA call_32 rfl (fun w hw => ask_fn b (putU u (numU a) x) hw9 w (St.lentA hw))) rfl rfl ?_
            rintro _ _ ⟨rfl, rfl⟩
            refine l_l rfl rfl rfl ?_
            refine l_nil ?_
            refine c_ret ?_
            exact l_end (fun _ _ => rets_v rfl) (List.Sublist.refl _) ⟨congrArg _ (wv_R _ hno (by (try simp only [decide_eq_true_eq, decide_eq_false_iff_not, beq_iff_eq, beq_eq_false_iff_ne, bne_iff_ne, bne_eq_false_iff_eq, ne_eq] at *); omega)).symm, by rw [write_R _ hno (by (try simp only [decide_eq_true_eq, decide_eq_false_iff_not, beq_iff_eq, beq_eq_false_iff_ne, bne_iff_ne, bne_eq_false_iff_eq, ne_eq] at *); omega)]⟩
        · refine c_region ?_
          refine l_l rfl rfl rfl ?_
          refine l_l rfl rfl rfl ?_
          refine l_l rfl rfl rfl ?_
          refine l_l rfl rfl rfl ?_
          refine l_l (light_fa rfl rfl) rfl rfl ?_
          refine l_l (idx_array1 (numU a).toNat rfl rfl rfl (by (try simp only [decide_eq_true_eq, decide_eq_false_iff_not, beq_iff_eq, beq_eq_false_iff_ne, bne_iff_ne, bne_eq_false_iff_eq, ne_eq] at *); omega) (by (try simp only [decide_eq_true_eq, decide_eq_false_iff_not, beq_iff_eq, beq_eq_false_iff_ne, bne_iff_ne, bne_eq_false_iff_eq, ne_eq] at *); omega)) rfl rfl ?_
          refine l_x (x_storeTo (l' := cU { u with R := u.R.set (numU a).toNat x }) 0 rfl rfl rfl rfl rfl rfl (by rw [cU_len hu]; simp only [List.length_cons, List.length_nil]; (try simp only [decide_eq_true_eq, decide_eq_false_iff_not, beq_iff_eq, beq_eq_false_iff_ne, bne_iff_ne, bne_eq_false_iff_eq, ne_eq] at *); omega) (putU_R hu (j := (numU a).toNat) (by (try simp only [decide_eq_true_eq, decide_eq_false_iff_not, beq_iff_eq, beq_eq_false_iff_ne, bne_iff_ne, bne_eq_false_iff_eq, ne_eq] at *); omega) x)) rfl rfl ?_
          rintro _ _ ⟨rfl, rfl⟩
          simp only [List.set_cons_zero, List.set_cons_succ]
          refine l_nil ?_
          refine c_seq ?_
          refine c_seq ?_
          refine c_region ?_
          refine l_l rfl rfl rfl ?_
          refine l_b rfl rfl rfl (fun h10 => ?_) (fun h10 => ?_)
          · refine l_l rfl rfl rfl ?_
            refine l_x (x_val call_31 rfl (fun w hw => lit_fn b ({ u with R := u.R.set (numU a).toNat x }) (hu.setn hx (by (try simp only [decide_eq_true_eq, decide_eq_false_iff_not, beq_iff_eq, beq_eq_false_iff_ne, bne_iff_ne, bne_eq_false_iff_eq, ne_eq] at *); omega) (by (try simp only [decide_eq_true_eq, decide_eq_false_iff_not, beq_iff_eq, beq_eq_false_iff_ne, bne_iff_ne, bne_eq_false_iff_eq, ne_eq] at *); omega)) w (row_own (by repeat (first | exact .head _ | refine .tail _ ?_ | refine List.mem_append_right _ ?_)) w hw))) rfl rfl ?_
            rintro _ _ ⟨rfl, rfl⟩
            refine l_l rfl rfl rfl ?_
            refine l_l rfl rfl rfl ?_
            refine l_nil ?_
            refine c_cond rfl (fun h11 => ?_) (fun h11 => ?_)
            · refine c_region ?_
              refine l_l rfl rfl rfl ?_
              refine l_l rfl rfl rfl ?_
              refine l_l rfl rfl rfl ?_
              refine l_l rfl rfl rfl ?_
              refine l_l (light_fa rfl rfl) rfl rfl ?_
              refine l_x (x_storeTo (l' := cU ({ ({ u with R := u.R.set (numU a).toNat x } : PU) with line := 0 } : PU)) 0 rfl rfl rfl rfl rfl rfl (by rw [cU_len (hu.setn hx (by (try simp only [decide_eq_true_eq, decide_eq_false_iff_not, beq_iff_eq, beq_eq_false_iff_ne, bne_iff_ne, bne_eq_false_iff_eq, ne_eq] at *); omega) (by (try simp only [decide_eq_true_eq, decide_eq_false_iff_not, beq_iff_eq, beq_eq_false_iff_ne, bne_iff_ne, bne_eq_false_iff_eq, ne_eq] at *); omega))]; simp only [List.length_cons, List.length_nil]; (try simp only [decide_eq_true_eq, decide_eq_false_iff_not, beq_iff_eq, beq_eq_false_iff_ne, bne_iff_ne, bne_eq_false_iff_eq, ne_eq] at *); omega) (putU_line (hu.setn hx (by (try simp only [decide_eq_true_eq, decide_eq_false_iff_not, beq_iff_eq, beq_eq_false_iff_ne, bne_iff_ne, bne_eq_false_iff_eq, ne_eq] at *); omega) (by (try simp only [decide_eq_true_eq, decide_eq_false_iff_not, beq_iff_eq, beq_eq_false_iff_ne, bne_iff_ne, bne_eq_false_iff_eq, ne_eq] at *); omega)) _)) rfl rfl ?_
              rintro _ _ ⟨rfl, rfl⟩
              simp only [List.set_cons_zero, List.set_cons_succ]
              refine l_l rfl rfl rfl ?_
              refine l_l (light_fa rfl rfl) rfl rfl ?_
              refine l_x (x_storeTo (l' := cU ({ ({ u with R := u.R.set (numU a).toNat x } : PU) with line := 0, dot := 0 } : PU)) 0 rfl rfl rfl rfl rfl rfl (by rw [cU_len ((hu.setn hx (by (try simp only [decide_eq_true_eq, decide_eq_false_iff_not, beq_iff_eq, beq_eq_false_iff_ne, bne_iff_ne, bne_eq_false_iff_eq, ne_eq] at *); omega) (by (try simp only [decide_eq_true_eq, decide_eq_false_iff_not, beq_iff_eq, beq_eq_false_iff_ne, bne_iff_ne, bne_eq_false_iff_eq, ne_eq] at *); omega)).line_ (x := 0) (by decide))]; simp only [List.length_cons, List.length_nil]; (try simp only [decide_eq_true_eq, decide_eq_false_iff_not, beq_iff_eq, beq_eq_false_iff_ne, bne_iff_ne, bne_eq_false_iff_eq, ne_eq] at *); omega) (putU_dot ((hu.setn hx (by (try simp only [decide_eq_true_eq, decide_eq_false_iff_not, beq_iff_eq, beq_eq_false_iff_ne, bne_iff_ne, bne_eq_false_iff_eq, ne_eq] at *); omega) (by (try simp only [decide_eq_true_eq, decide_eq_false_iff_not, beq_iff_eq, beq_eq_false_iff_ne, bne_iff_ne, bne_eq_false_iff_eq, ne_eq] at *); omega)).line_ (x := 0) (by decide)) _)) rfl rfl ?_
              rintro _ _ ⟨rfl, rfl⟩
              simp only [List.set_cons_zero, List.set_cons_succ]
              refine l_l rfl rfl rfl ?_
              refine l_l (light_fa rfl rfl) rfl rfl ?_
              refine l_x (x_storeTo (l' := cU ({ ({ u with R := u.R.set (numU a).toNat x } : PU) with line := 0, dot := 0, own := 0 } : PU)) 0 rfl rfl rfl rfl rfl rfl (by rw [cU_len (((hu.setn hx (by (try simp only [decide_eq_true_eq, decide_eq_false_iff_not, beq_iff_eq, beq_eq_false_iff_ne, bne_iff_ne, bne_eq_false_iff_eq, ne_eq] at *); omega) (by (try simp only [decide_eq_true_eq, decide_eq_false_iff_not, beq_iff_eq, beq_eq_false_iff_ne, bne_iff_ne, bne_eq_false_iff_eq, ne_eq] at *); omega)).line_ (x := 0) (by decide)).dot_ (x := 0) (by decide))]; simp only [List.length_cons, List.length_nil]; (try simp only [decide_eq_true_eq, decide_eq_false_iff_not, beq_iff_eq, beq_eq_false_iff_ne, bne_iff_ne, bne_eq_false_iff_eq, ne_eq] at *); omega) (putU_own (((hu.setn hx (by (try simp only [decide_eq_true_eq, decide_eq_false_iff_not, beq_iff_eq, beq_eq_false_iff_ne, bne_iff_ne, bne_eq_false_iff_eq, ne_eq] at *); omega) (by (try simp only [decide_eq_true_eq, decide_eq_false_iff_not, beq_iff_eq, beq_eq_false_iff_ne, bne_iff_ne, bne_eq_false_iff_eq, ne_eq] at *); omega)).line_ (x := 0) (by decide)).dot_ (x := 0) (by decide)) _)) rfl rfl ?_
              rintro _ _ ⟨rfl, rfl⟩
              simp only [List.set_cons_zero, List.set_cons_succ]
              refine l_nil ?_
              refine c_seq ?_
              refine c_region ?_
              refine l_l rfl rfl rfl ?_
              have hs9 : putU u (numU a) x = ({ ({ u with R := u.R.set (numU a).toNat x } : PU) with line := 0, dot := 0, own := 0 } : PU) := by
                unfold putU; rw [set_n (by (try simp only [decide_eq_true_eq, decide_eq_false_iff_not, beq_iff_eq, beq_eq_false_iff_ne, bne_iff_ne, bne_eq_false_iff_eq, ne_eq] at *); omega) (by (try simp only [decide_eq_true_eq, decide_eq_false_iff_not, beq_iff_eq, beq_eq_false_iff_ne, bne_iff_ne, bne_eq_false_iff_eq, ne_eq] at *); omega)]; exact off_yes (by simp_all) (by simp_all)
              have hw9 : (putU u (numU a) x).Wf := (hu.set hx (by (try simp only [decide_eq_true_eq, decide_eq_false_iff_not, beq_iff_eq, beq_eq_false_iff_ne, bne_iff_ne, bne_eq_false_iff_eq, ne_eq] at *); omega)).off _
              refine l_heap (H' := [(b, blk (cU (putU u (numU a) x)) 60)]) (fun _ h => h.as (by rw [hs9])) ?_
              refine l_x (x_callA call_32 rfl (fun w hw => ask_fn b (putU u (numU a) x) hw9 w (St.lentA hw))) rfl rfl ?_
              rintro _ _ ⟨rfl, rfl⟩
              refine l_l rfl rfl rfl ?_
              refine l_nil ?_
              refine c_ret ?_
              exact l_end (fun _ _ => rets_v rfl) (List.Sublist.refl _) ⟨congrArg _ (wv_R _ hno (by (try simp only [decide_eq_true_eq, decide_eq_false_iff_not, beq_iff_eq, beq_eq_false_iff_ne, bne_iff_ne, bne_eq_false_iff_eq, ne_eq] at *); omega)).symm, by rw [write_R _ hno (by (try simp only [decide_eq_true_eq, decide_eq_false_iff_not, beq_iff_eq, beq_eq_false_iff_ne, bne_iff_ne, bne_eq_false_iff_eq, ne_eq] at *); omega)]⟩
            · refine c_skip ?_
              refine c_seq ?_
              refine c_region ?_
              refine l_l rfl rfl rfl ?_
              have hs9 : putU u (numU a) x = { u with R := u.R.set (numU a).toNat x } := by
                unfold putU; rw [set_n (by (try simp only [decide_eq_true_eq, decide_eq_false_iff_not, beq_iff_eq, beq_eq_false_iff_ne, bne_iff_ne, bne_eq_false_iff_eq, ne_eq] at *); omega) (by (try simp only [decide_eq_true_eq, decide_eq_false_iff_not, beq_iff_eq, beq_eq_false_iff_ne, bne_iff_ne, bne_eq_false_iff_eq, ne_eq] at *); omega)]; exact off_no (by simp_all)
              have hw9 : (putU u (numU a) x).Wf := (hu.set hx (by (try simp only [decide_eq_true_eq, decide_eq_false_iff_not, beq_iff_eq, beq_eq_false_iff_ne, bne_iff_ne, bne_eq_false_iff_eq, ne_eq] at *); omega)).off _
              refine l_heap (H' := [(b, blk (cU (putU u (numU a) x)) 60)]) (fun _ h => h.as (by rw [hs9])) ?_
              refine l_x (x_callA call_32 rfl (fun w hw => ask_fn b (putU u (numU a) x) hw9 w (St.lentA hw))) rfl rfl ?_
              rintro _ _ ⟨rfl, rfl⟩
              refine l_l rfl rfl rfl ?_
              refine l_nil ?_
              refine c_ret ?_
              exact l_end (fun _ _ => rets_v rfl) (List.Sublist.refl _) ⟨congrArg _ (wv_R _ hno (by (try simp only [decide_eq_true_eq, decide_eq_false_iff_not, beq_iff_eq, beq_eq_false_iff_ne, bne_iff_ne, bne_eq_false_iff_eq, ne_eq] at *); omega)).symm, by rw [write_R _ hno (by (try simp only [decide_eq_true_eq, decide_eq_false_iff_not, beq_iff_eq, beq_eq_false_iff_ne, bne_iff_ne, bne_eq_false_iff_eq, ne_eq] at *); omega)]⟩
          · refine l_p rfl rfl ?_
            refine l_p rfl rfl ?_
            refine l_p rfl rfl ?_
            refine l_l rfl rfl rfl ?_
            refine l_nil ?_
            refine c_false rfl ?_
            refine c_skip ?_
            refine c_seq ?_
            refine c_region ?_
            refine l_l rfl rfl rfl ?_
            have hs9 : putU u (numU a) x = { u with R := u.R.set (numU a).toNat x } := by
              unfold putU; rw [set_n (by (try simp only [decide_eq_true_eq, decide_eq_false_iff_not, beq_iff_eq, beq_eq_false_iff_ne, bne_iff_ne, bne_eq_false_iff_eq, ne_eq] at *); omega) (by (try simp only [decide_eq_true_eq, decide_eq_false_iff_not, beq_iff_eq, beq_eq_false_iff_ne, bne_iff_ne, bne_eq_false_iff_eq, ne_eq] at *); omega)]; exact off_no (by simp_all)
            have hw9 : (putU u (numU a) x).Wf := (hu.set hx (by (try simp only [decide_eq_true_eq, decide_eq_false_iff_not, beq_iff_eq, beq_eq_false_iff_ne, bne_iff_ne, bne_eq_false_iff_eq, ne_eq] at *); omega)).off _
            refine l_heap (H' := [(b, blk (cU (putU u (numU a) x)) 60)]) (fun _ h => h.as (by rw [hs9])) ?_
            refine l_x (x_callA call_32 rfl (fun w hw => ask_fn b (putU u (numU a) x) hw9 w (St.lentA hw))) rfl rfl ?_
            rintro _ _ ⟨rfl, rfl⟩
            refine l_l rfl rfl rfl ?_
            refine l_nil ?_
            refine c_ret ?_
            exact l_end (fun _ _ => rets_v rfl) (List.Sublist.refl _) ⟨congrArg _ (wv_R _ hno (by (try simp only [decide_eq_true_eq, decide_eq_false_iff_not, beq_iff_eq, beq_eq_false_iff_ne, bne_iff_ne, bne_eq_false_iff_eq, ne_eq] at *); omega)).symm, by rw [write_R _ hno (by (try simp only [decide_eq_true_eq, decide_eq_false_iff_not, beq_iff_eq, beq_eq_false_iff_ne, bne_iff_ne, bne_eq_false_iff_eq, ne_eq] at *); omega)]⟩

theorem sprite_fn (b : Nat) (u : PU) (hu : u.Wf) (w : World) (hst : St w [b] [(b, blk (cU u) 60)] w) (n x : Int) (hx : 0 ≤ x ∧ x < 256) : Does Try.prog 19 [.pointer (some ⟨b, 0, none⟩), .int .i64 n, .int .u8 x] w [b] (fun v H => v = .tuple #[] ∧ H = [(b, blk (cU (spriteU u n x)) 60)]) := by
  refine does_of Try.func19 rfl rfl rfl hst ?_
  refine c_seq ?_
  refine c_region ?_
  refine l_l rfl rfl rfl ?_
  refine l_l rfl rfl rfl ?_
  refine l_l rfl rfl rfl ?_
  refine l_l rfl rfl rfl ?_
  refine l_l rfl rfl rfl ?_
  refine l_l rfl rfl rfl ?_
  refine l_b rfl rfl rfl (fun h1 => ?_) (fun h1 => ?_)
  · refine l_l rfl rfl rfl ?_
    refine l_l rfl rfl rfl ?_
    refine l_l rfl rfl rfl ?_
    refine l_nil ?_
    refine c_cond rfl (fun h2 => ?_) (fun h2 => ?_)
    · refine c_region ?_
      refine l_l rfl rfl rfl ?_
      refine l_l rfl rfl rfl ?_
      refine l_l rfl rfl rfl ?_
      refine l_l rfl rfl rfl ?_
      refine l_l (light_fa rfl rfl) rfl rfl ?_
      refine l_l (idx_array1 n.toNat rfl rfl rfl (by (try simp only [decide_eq_true_eq, decide_eq_false_iff_not, beq_iff_eq, beq_eq_false_iff_ne, bne_iff_ne, bne_eq_false_iff_eq, ne_eq] at *); omega) (by (try simp only [decide_eq_true_eq, decide_eq_false_iff_not, beq_iff_eq, beq_eq_false_iff_ne, bne_iff_ne, bne_eq_false_iff_eq, ne_eq] at *); omega)) rfl rfl ?_
      refine l_x (x_storeTo (l' := cU { u with O := u.O.set n.toNat x }) 0 rfl rfl rfl rfl rfl rfl (by rw [cU_len hu]; simp only [List.length_cons, List.length_nil]; (try simp only [decide_eq_true_eq, decide_eq_false_iff_not, beq_iff_eq, beq_eq_false_iff_ne, bne_iff_ne, bne_eq_false_iff_eq, ne_eq] at *); omega) (putU_O hu (j := n.toNat) (by (try simp only [decide_eq_true_eq, decide_eq_false_iff_not, beq_iff_eq, beq_eq_false_iff_ne, bne_iff_ne, bne_eq_false_iff_eq, ne_eq] at *); omega) x)) rfl rfl ?_
      rintro _ _ ⟨rfl, rfl⟩
      simp only [List.set_cons_zero, List.set_cons_succ]
      refine l_nil ?_
      exact l_end (fun _ _ => rets_none) (List.Sublist.refl _) ⟨rfl, by unfold spriteU; rw [if_pos (by (try simp only [decide_eq_true_eq, decide_eq_false_iff_not, beq_iff_eq, beq_eq_false_iff_ne, bne_iff_ne, bne_eq_false_iff_eq, ne_eq] at *); omega)]⟩
    · refine c_skip ?_
      exact l_end (fun _ _ => rets_none) (List.Sublist.refl _) ⟨rfl, by unfold spriteU; rw [if_neg (by (try simp only [decide_eq_true_eq, decide_eq_false_iff_not, beq_iff_eq, beq_eq_false_iff_ne, bne_iff_ne, bne_eq_false_iff_eq, ne_eq] at *); omega)]⟩
  · refine l_p rfl rfl ?_
    refine l_p rfl rfl ?_
    refine l_l rfl rfl rfl ?_
    refine l_nil ?_
    refine c_false rfl ?_
    refine c_skip ?_
    exact l_end (fun _ _ => rets_none) (List.Sublist.refl _) ⟨rfl, by unfold spriteU; rw [if_neg (by (try simp only [decide_eq_true_eq, decide_eq_false_iff_not, beq_iff_eq, beq_eq_false_iff_ne, bne_iff_ne, bne_eq_false_iff_eq, ne_eq] at *); omega)]⟩

end Go.Proofs.Ytjceoaomkbabmaa
namespace Go.Proofs.Ytjceoaomkbabmaa
open Go Go.VV

def tickN : Nat → PU → PU
  | 0, u => u
  | n + 1, u => tickU (tickN n u)
def posU (u : PU) : Nat := u.line.toNat * 114 + u.dot.toNat
def modeP (p : Nat) : Nat := bif Nat.ble 144 (p / 114) then 1 else bif Nat.blt (p % 114) 20 then 2 else bif Nat.blt (p % 114) 63 then 3 else 0
def onU (x : Int) : PU := writeU zeroU 65344 x
section
variable {u : PU}
theorem tickN_ok (h : u.Ok) : ∀ n, (tickN n u).Ok
  | 0 => h
  | n + 1 => (tickN_ok h n).tick
theorem tickN_add (u : PU) (a : Nat) : ∀ b, tickN b (tickN a u) = tickN (a + b) u
  | 0 => rfl
  | b + 1 => congrArg tickU (tickN_add u a b)
theorem step_keep (u : PU) : (stepU u).V = u.V ∧ (stepU u).O = u.O ∧ (stepU u).R = u.R := by
  unfold stepU paintU nextU oneU
  repeat' split
  all_goals exact ⟨rfl, rfl, rfl⟩
theorem tick_keep (u : PU) : (tickU u).V = u.V ∧ (tickU u).O = u.O ∧ (tickU u).R = u.R := by
  unfold tickU
  split
  · exact step_keep u
  · exact ⟨rfl, rfl, rfl⟩
theorem tickN_keep (u : PU) : ∀ n, (tickN n u).V = u.V ∧ (tickN n u).O = u.O ∧ (tickN n u).R = u.R
  | 0 => ⟨rfl, rfl, rfl⟩
  | n + 1 => by
    obtain ⟨h1, h2, h3⟩ := tickN_keep u n
    obtain ⟨k1, k2, k3⟩ := tick_keep (tickN n u)
    exact ⟨k1.trans h1, k2.trans h2, k3.trans h3⟩
theorem lit_keep (u : PU) (n : Nat) : litU (tickN n u) = litU u := by unfold litU PU.r; rw [(tickN_keep u n).2.2]
theorem lit_step (u : PU) : litU (stepU u) = litU u := by unfold litU PU.r; rw [(step_keep u).2.2]
theorem step_pos (h : u.Ok) : posU (stepU u) = (posU u + 1) % 17556 := by
  have h1 := h.line; have h2 := h.dot; have h3 := h.wf.line; have h4 := h.wf.dot
  unfold posU
  by_cases c1 : u.dot = 62 ∧ u.line < 144
  · rw [step_paint c1.1 c1.2]
    simp only [paintU, oneU]; omega
  · by_cases c2 : u.dot = 113
    · rw [step_next c2]
      unfold nextU oneU
      dsimp only
      split
      · dsimp only; omega
      · split <;> dsimp only <;> omega
    · rw [step_one c1 c2]
      simp only [oneU]; omega
theorem tick_pos (h : u.Ok) (hl : litU u = true) : posU (tickU u) = (posU u + 1) % 17556 := by
  unfold tickU; rw [if_pos hl]; exact step_pos h
theorem posN (h : u.Ok) (hl : litU u = true) : ∀ n, posU (tickN n u) = (posU u + n) % 17556
  | 0 => by
    have h1 := h.line; have h2 := h.dot; have h3 := h.wf.line; have h4 := h.wf.dot
    show posU u = _
    unfold posU; omega
  | n + 1 => by
    show posU (tickU (tickN n u)) = _
    rw [tick_pos (tickN_ok h n) (by rw [lit_keep]; exact hl), posN h hl n]; omega
theorem pos_lt (h : u.Ok) : posU u < 17556 := by
  have h1 := h.line; have h2 := h.dot; have h3 := h.wf.line; have h4 := h.wf.dot
  unfold posU; omega
theorem line_pos (h : u.Ok) : u.line = ((posU u / 114 : Nat) : Int) := by
  have h1 := h.line; have h2 := h.dot; have h3 := h.wf.line; have h4 := h.wf.dot
  unfold posU; omega
theorem dot_pos (h : u.Ok) : u.dot = ((posU u % 114 : Nat) : Int) := by
  have h1 := h.line; have h2 := h.dot; have h3 := h.wf.line; have h4 := h.wf.dot
  unfold posU; omega
theorem modeP_eq (p : Nat) : modeP p = if 144 ≤ p / 114 then 1 else if p % 114 < 20 then 2 else if p % 114 < 63 then 3 else 0 := by
  unfold modeP
  simp only [cond_eq_ite, Nat.ble_eq, Nat.blt_eq]
theorem mode_pos (h : u.Ok) (hl : litU u = true) : modeU u = ((modeP (posU u) : Nat) : Int) := by
  rw [modeP_eq]
  unfold modeU
  rw [if_pos hl, line_pos h, dot_pos h]
  by_cases c1 : 144 ≤ posU u / 114
  · rw [if_pos (by omega), if_pos c1]; rfl
  · rw [if_neg (by omega), if_neg c1]
    by_cases c2 : posU u % 114 < 20
    · rw [if_pos (by omega), if_pos c2]; rfl
    · rw [if_neg (by omega), if_neg c2]
      by_cases c3 : posU u % 114 < 63
      · rw [if_pos (by omega), if_pos c3]; rfl
      · rw [if_neg (by omega), if_neg c3]; rfl
end
/-! ### sums over a picture -/
def sumTo (f : Nat → Nat) : Nat → Nat
  | 0 => 0
  | n + 1 => sumTo f n + f n
theorem sumTo_add (f : Nat → Nat) (a : Nat) : ∀ b, sumTo f (a + b) = sumTo f a + sumTo (fun k => f (a + k)) b
  | 0 => rfl
  | b + 1 => by
    show sumTo f (a + b) + f (a + b) = _
    rw [sumTo_add f a b]; simp only [sumTo]; omega
theorem sumTo_congr {f g : Nat → Nat} : ∀ {n : Nat}, (∀ k, k < n → f k = g k) → sumTo f n = sumTo g n
  | 0, _ => rfl
  | n + 1, h => by
    show sumTo f n + f n = sumTo g n + g n
    rw [sumTo_congr fun k hk => h k (Nat.lt_succ_of_lt hk), h n (Nat.lt_succ_self n)]
theorem sumTo_turn {N : Nat} {f : Nat → Nat} (hf : ∀ k, f (N + k) = f k) (a : Nat) : sumTo (fun k => f (a + k)) N = sumTo f N := by
  have h1 := sumTo_add f a N
  have h2 := sumTo_add f N a
  rw [sumTo_congr (f := fun k => f (N + k)) (g := f) fun k _ => hf k, Nat.add_comm N a] at h2
  omega
theorem sumTo_mul (f : Nat → Nat) (b : Nat) : ∀ a, sumTo f (a * b) = sumTo (fun i => sumTo (fun j => f (i * b + j)) b) a
  | 0 => by rw [Nat.zero_mul]; rfl
  | a + 1 => by
    rw [Nat.add_mul, Nat.one_mul, sumTo_add, sumTo_mul f b a]; rfl
/-- How often it holds in one picture, from anywhere on. -/
theorem lap {u : PU} (h : u.Ok) (hl : litU u = true) (f : Nat → Nat) (a : Nat) : sumTo (fun k => f (posU (tickN (k + a) u))) 17556 = sumTo (fun i => sumTo (fun j => f (i * 114 + j)) 114) 154 := by
  have h1 : sumTo (fun k => f (posU (tickN (k + a) u))) 17556 = sumTo (fun k => (fun m => f (m % 17556)) ((posU u + a) + k)) 17556 :=
    sumTo_congr fun k _ => by rw [posN h hl, show posU u + (k + a) = posU u + a + k by omega]
  rw [h1, sumTo_turn (f := fun m => f (m % 17556)) fun k => by rw [Nat.add_mod_left]]
  rw [← sumTo_mul f 114 154]
  exact sumTo_congr fun k hk => by rw [Nat.mod_eq_of_lt hk]
/-! ### how often, by mode -/
def cntM (m : Nat) (u : PU) (i : Nat) : Nat := sumTo (fun k => if modeU (tickN (k + 1) u) = (m : Int) then 1 else 0) i
def cntB (u : PU) (i : Nat) : Nat := sumTo (fun k => if band .u8 (tickV (tickN k u)) 1 = 0 then 0 else 1) i
def mC (u : PU) (i : Nat) : List Value := [.int .i64 (cntM 0 u i), .int .i64 (cntM 1 u i), .int .i64 (cntM 2 u i), .int .i64 (cntM 3 u i)]
theorem cnt_le (f : Nat → Nat) (hf : ∀ k, f k ≤ 1) : ∀ n, sumTo f n ≤ n
  | 0 => Nat.le_refl _
  | n + 1 => by have h1 := cnt_le f hf n; have h2 := hf n; show sumTo f n + f n ≤ n + 1; omega
theorem cntM_le (m : Nat) (u : PU) (i : Nat) : cntM m u i ≤ i := cnt_le _ (fun k => by split <;> omega) i
theorem cntB_le (u : PU) (i : Nat) : cntB u i ≤ i := cnt_le _ (fun k => by split <;> omega) i
theorem mC_at (u : PU) (i : Nat) {m : Nat} (hm : m < 4) : (mC u i)[m]? = some (.int .i64 (cntM m u i)) := by
  rcases (show m = 0 ∨ m = 1 ∨ m = 2 ∨ m = 3 by omega) with rfl | rfl | rfl | rfl <;> rfl
theorem cntM_hit {u : PU} {i m : Nat} (h : modeU (tickN (i + 1) u) = (m : Int)) : cntM m u (i + 1) = cntM m u i + 1 := by
  show sumTo _ i + (if modeU (tickN (i + 1) u) = (m : Int) then 1 else 0) = _
  rw [if_pos h]; rfl
theorem cntM_miss {u : PU} {i m : Nat} (h : modeU (tickN (i + 1) u) ≠ (m : Int)) : cntM m u (i + 1) = cntM m u i := by
  show sumTo _ i + (if modeU (tickN (i + 1) u) = (m : Int) then 1 else 0) = _
  rw [if_neg h]; rfl
theorem mC_put (u : PU) (i : Nat) {m : Nat} (hm : modeU (tickN (i + 1) u) = (m : Int)) : putL (mC u i) m [.int .i64 ((cntM m u i : Int) + 1)] = mC u (i + 1) := by
  have hr := mode_range (tickN (i + 1) u)
  unfold mC
  rcases (show m = 0 ∨ m = 1 ∨ m = 2 ∨ m = 3 by omega) with rfl | rfl | rfl | rfl
  · rw [cntM_hit hm, cntM_miss (m := 1) (by omega), cntM_miss (m := 2) (by omega), cntM_miss (m := 3) (by omega)]; rfl
  · rw [cntM_hit hm, cntM_miss (m := 0) (by omega), cntM_miss (m := 2) (by omega), cntM_miss (m := 3) (by omega)]; rfl
  · rw [cntM_hit hm, cntM_miss (m := 1) (by omega), cntM_miss (m := 0) (by omega), cntM_miss (m := 3) (by omega)]; rfl
  · rw [cntM_hit hm, cntM_miss (m := 1) (by omega), cntM_miss (m := 2) (by omega), cntM_miss (m := 0) (by omega)]; rfl
theorem modes_all : sumTo (fun i => sumTo (fun j => bif Nat.beq (modeP (i * 114 + j)) 0 then 1 else 0) 114) 154 = 7344 ∧ sumTo (fun i => sumTo (fun j => bif Nat.beq (modeP (i * 114 + j)) 1 then 1 else 0) 114) 154 = 1140 ∧
    sumTo (fun i => sumTo (fun j => bif Nat.beq (modeP (i * 114 + j)) 2 then 1 else 0) 114) 154 = 2880 ∧ sumTo (fun i => sumTo (fun j => bif Nat.beq (modeP (i * 114 + j)) 3 then 1 else 0) 114) 154 = 6192 ∧
    sumTo (fun i => sumTo (fun j => bif Nat.beq (i * 114 + j) 16415 then 1 else 0) 114) 154 = 1 := by decide +kernel
theorem cntM_all {u : PU} (h : u.Ok) (hl : litU u = true) (m : Nat) : cntM m u 17556 = sumTo (fun i => sumTo (fun j => bif Nat.beq (modeP (i * 114 + j)) m then 1 else 0) 114) 154 := by
  rw [← lap h hl (fun p => bif Nat.beq (modeP p) m then 1 else 0) 1]
  refine sumTo_congr fun k _ => ?_
  rw [mode_pos (tickN_ok h _) (by rw [lit_keep]; exact hl)]
  by_cases c : modeP (posU (tickN (k + 1) u)) = m
  · rw [if_pos (by rw [c]), (Nat.beq_eq.symm ▸ c : Nat.beq (modeP (posU (tickN (k + 1) u))) m = true)]; rfl
  · rw [if_neg (by omega), (Bool.eq_false_iff.2 fun h9 => c (Nat.eq_of_beq_eq_true h9) : Nat.beq (modeP (posU (tickN (k + 1) u))) m = false)]; rfl
theorem mC_all {u : PU} (h : u.Ok) (hl : litU u = true) : mC u 17556 = [.int .i64 7344, .int .i64 1140, .int .i64 2880, .int .i64 6192] := by
  unfold mC
  rw [cntM_all h hl, cntM_all h hl, cntM_all h hl, cntM_all h hl, modes_all.1, modes_all.2.1, modes_all.2.2.1, modes_all.2.2.2.1]; rfl
theorem blank_bit {x y : Int} (hx : x = 0 ∨ x = 1) (hy : y = 0 ∨ y = 2) : band .u8 (x + y) 1 = x := by rcases hx with rfl | rfl <;> rcases hy with rfl | rfl <;> decide
theorem cntB_all {u : PU} (h : u.Ok) (hl : litU u = true) : cntB u 17556 = 1 := by
  rw [← modes_all.2.2.2.2, ← lap h hl (fun p => bif Nat.beq p 16415 then 1 else 0) 0]
  refine sumTo_congr fun k _ => ?_
  have hk := tickN_ok h k
  have hd := dot_pos hk
  have hn := line_pos hk
  have hv : tickV (tickN k u) = stepV (tickN k u) + askV (stepU (tickN k u)) := by unfold tickV; rw [if_pos (by rw [lit_keep]; exact hl)]
  rw [hv, blank_bit (stepV_one _) (askV_two _), Nat.add_zero]
  unfold stepV
  by_cases c : posU (tickN k u) = 16415
  · rw [if_pos (show (tickN k u).dot = 113 ∧ (tickN k u).line = 143 by omega), c]; rfl
  · rw [if_neg (show ¬ ((tickN k u).dot = 113 ∧ (tickN k u).line = 143) by omega), (Bool.eq_false_iff.2 fun h9 => c (Nat.eq_of_beq_eq_true h9) : Nat.beq (posU (tickN k u)) 16415 = false)]; rfl
theorem lap_same {u : PU} (h : u.Ok) (hl : litU u = true) : (tickN 17556 u).line = u.line ∧ (tickN 17556 u).dot = u.dot := by
  have h1 := posN h hl 17556
  have h2 := pos_lt h
  have h3 := tickN_ok h 17556
  rw [line_pos h3, dot_pos h3, line_pos h, dot_pos h]
  omega
theorem cntB_hit {u : PU} {i : Nat} (h : band .u8 (tickV (tickN i u)) 1 ≠ 0) : cntB u (i + 1) = cntB u i + 1 := by
  show sumTo _ i + (if band .u8 (tickV (tickN i u)) 1 = 0 then 0 else 1) = _
  rw [if_neg h]; rfl
theorem cntB_miss {u : PU} {i : Nat} (h : band .u8 (tickV (tickN i u)) 1 = 0) : cntB u (i + 1) = cntB u i := by
  show sumTo _ i + (if band .u8 (tickV (tickN i u)) 1 = 0 then 0 else 1) = _
  rw [if_pos h]; rfl
/-! ### switched on -/
theorem onU_ok {x : Int} (hx : 0 ≤ x ∧ x < 256) : (onU x).Ok := zeroU_ok.write hx
theorem onU_as (x : Int) : onU x = askU { zeroU with R := [x, 0, 0, 0, 0, 0, 0, 0, 0, 0, 0, 0] } := by
  show askU (offU (litU zeroU) { zeroU with R := zeroU.R.set 0 x }) = _
  have h0 : litU zeroU = false := rfl
  rw [h0, off_no (.inl rfl)]; rfl
theorem onU_lit {x : Int} (hx : 128 ≤ x) : litU (onU x) = true := by rw [onU_as x]; exact decide_eq_true hx
theorem onU_pos (x : Int) : posU (onU x) = 0 := by rw [onU_as x]; rfl
theorem awake_pos : posU (tickN 114 (onU 128)) = 114 := by rw [posN (onU_ok (by decide)) (onU_lit (by decide)), onU_pos 128]
theorem awake_line : (tickN 114 (onU 128)).line = 1 := by rw [line_pos (tickN_ok (onU_ok (by decide)) _), awake_pos]; rfl
theorem awake_dot : (tickN 114 (onU 128)).dot = 0 := by rw [dot_pos (tickN_ok (onU_ok (by decide)) _), awake_pos]; rfl
theorem awake_mode : modeU (tickN 114 (onU 128)) = 2 := by rw [mode_pos (tickN_ok (onU_ok (by decide)) _) (by rw [lit_keep]; exact onU_lit (by decide)), awake_pos]; rfl
theorem awake_read : readU (tickN 114 (onU 128)) 65348 = 1 := by
  rw [read_no ⟨by decide, by decide⟩]
  show (tickN 114 (onU 128)).line % 256 = 1
  rw [awake_line]; rfl
theorem ctl_byte {y : Int} (hy : 0 ≤ y ∧ y < 256) : 128 ≤ bor .u8 128 (band .u8 y 125) ∧ bor .u8 128 (band .u8 y 125) < 256 :=
  byte_all (p := fun y => 128 ≤ bor .u8 128 (band .u8 y 125) ∧ bor .u8 128 (band .u8 y 125) < 256) (by decide +kernel) hy.1 hy.2
end Go.Proofs.Ytjceoaomkbabmaa
namespace Go.Proofs.Ytjceoaomkbabmaa
open Go Go.VV Go.Proofs
set_option linter.unusedSimpArgs false
set_option linter.unusedVariables false
set_option maxRecDepth 100000
theorem awake_fn (w : World) : Does Try.prog 10 [] w [] (fun v H => H = [] ∧ v = .bool true) := by
  refine does_of Try.func10 rfl rfl rfl (St.refl w) ?_
  refine c_seq ?_
  refine c_region ?_
  refine l_l rfl rfl rfl ?_
  refine l_nil ?_
  refine c_seq ?_
  refine c_region ?_
  refine l_x (x_call call_11 rfl (fun w hw => new_fn w)) rfl rfl ?_
  rintro _ _ ⟨G2, ⟨b, rfl, rfl⟩, rfl⟩
  refine l_l rfl rfl rfl ?_
  refine l_nil ?_
  refine c_seq ?_
  refine c_seq ?_
  refine c_region ?_
  refine l_l rfl rfl rfl ?_
  refine l_l rfl rfl rfl ?_
  refine l_nil ?_
  refine c_false rfl ?_
  refine c_skip ?_
  refine c_seq ?_
  refine c_region ?_
  refine l_l rfl rfl rfl ?_
  refine l_x (x_callA call_12 rfl (fun w hw => write_fn b zeroU zeroU_wf w (St.lentA hw) 65344 128 (by decide) (by decide))) rfl rfl ?_
  rintro _ _ ⟨rfl, rfl⟩
  refine l_nil ?_
  refine c_seq ?_
  refine c_seq ?_
  refine c_region ?_
  refine l_l rfl rfl rfl ?_
  refine l_nil ?_
  refine c_block ?_
  refine c_loop (σ := Nat) [7, 8, 9, 10, 11] (fun i => [(7, .int .i64 i)]) (fun i => [(b, blk (cU (tickN i (onU 128))) 60)]) (fun i => i ≤ 114) (fun i => 114 - i) 0 ?_ ?_ ?_ ?_
  · exact Nat.zero_le _
  · exact .cons rfl .nil
  · exact fun _ h => h
  · rintro i y6 hi
    refine c_seq ?_
    refine c_region ?_
    refine l_l rfl rfl rfl ?_
    refine l_nil ?_
    refine c_seq ?_
    refine c_cond rfl (fun h1 => ?_) (fun h1 => ?_)
    · have h1n := by first | exact of_decide_eq_true h1 | exact of_decide_eq_false h1 | exact eq_of_beq h1 | exact ne_of_beq_false h1 | exact bne_t h1 | exact bne_f h1 | exact h1
      refine c_skip ?_
      refine c_seq ?_
      refine c_block ?_
      refine c_region ?_
      refine l_l rfl rfl rfl ?_
      refine l_x (x_callA call_13 rfl (fun w hw => tick_fn b (tickN i (onU 128)) (tickN_ok (onU_ok (x := 128) (by decide)) i) w (St.lentA hw))) rfl rfl ?_
      rintro _ _ ⟨rfl, rfl⟩
      refine l_nil ?_
      refine c_region ?_
      refine l_as (v := (.int .i64 ((i + 1 : Nat) : Int))) rfl rfl rfl (congrArg _ (succ_law (by omega))) ?_
      refine l_l rfl rfl rfl ?_
      refine l_nil ?_
      exact ⟨i + 1, by omega, by omega, .cons rfl .nil, (by repeat (first | exact Agree.refl _ _ | exact Agree.mix rfl | refine Agree.put rfl ?_ | refine Agree.keep rfl ?_)), fun _ h => h⟩
    · have h1n := by first | exact of_decide_eq_true h1 | exact of_decide_eq_false h1 | exact eq_of_beq h1 | exact ne_of_beq_false h1 | exact bne_t h1 | exact bne_f h1 | exact h1
      refine c_exit rfl ?_
      refine c_seq ?_
      obtain rfl : i = 114 := by omega
      refine c_region ?_
      refine l_l rfl rfl rfl ?_
      refine l_x (x_val call_14 rfl (fun w hw => line_fnU b (tickN 114 (onU 128)) (tickN_ok (onU_ok (x := 128) (by decide)) _).wf w (row_own (by repeat (first | exact .head _ | refine .tail _ ?_ | refine List.mem_append_right _ ?_)) w hw))) rfl rfl ?_
      rintro _ _ ⟨rfl, rfl⟩
      rw [awake_line]
      refine l_sure true rfl rfl rfl rfl ?_
      refine l_l rfl rfl rfl ?_
      refine l_l rfl rfl rfl ?_
      refine l_x (x_val call_15 rfl (fun w hw => dot_fnU b (tickN 114 (onU 128)) (tickN_ok (onU_ok (x := 128) (by decide)) _).wf w (row_own (by repeat (first | exact .head _ | refine .tail _ ?_ | refine List.mem_append_right _ ?_)) w hw))) rfl rfl ?_
      rintro _ _ ⟨rfl, rfl⟩
      rw [awake_dot]
      refine l_sure true rfl rfl rfl rfl ?_
      refine l_l rfl rfl rfl ?_
      refine l_l rfl rfl rfl ?_
      refine l_l rfl rfl rfl ?_
      refine l_x (x_val call_16 rfl (fun w hw => mode_fn b (tickN 114 (onU 128)) (tickN_ok (onU_ok (x := 128) (by decide)) _).wf w (row_own (by repeat (first | exact .head _ | refine .tail _ ?_ | refine List.mem_append_right _ ?_)) w hw))) rfl rfl ?_
      rintro _ _ ⟨rfl, rfl⟩
      rw [awake_mode]
      refine l_sure true rfl rfl rfl rfl ?_
      refine l_l rfl rfl rfl ?_
      refine l_l rfl rfl rfl ?_
      refine l_l rfl rfl rfl ?_
      refine l_x (x_val call_17 rfl (fun w hw => read_fn b (tickN 114 (onU 128)) (tickN_ok (onU_ok (x := 128) (by decide)) _).wf w (row_own (by repeat (first | exact .head _ | refine .tail _ ?_ | refine List.mem_append_right _ ?_)) w hw) 65348 (by decide))) rfl rfl ?_
      rintro _ _ ⟨rfl, rfl⟩
      rw [awake_read]
      refine l_sure true rfl rfl rfl rfl ?_
      refine l_l rfl rfl rfl ?_
      refine l_l rfl rfl rfl ?_
      refine l_nil ?_
      refine c_ret ?_
      exact l_end (fun _ _ => rets_v rfl) (List.nil_sublist _) ⟨rfl, rfl⟩

end Go.Proofs.Ytjceoaomkbabmaa
