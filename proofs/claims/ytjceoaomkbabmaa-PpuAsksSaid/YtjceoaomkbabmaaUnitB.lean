/- The contract of a line that is made. -/
import Derived.Test.YtjceoaomkbabmaaUnitA
import Derived.Test.YtjceoaomkbabmaaTileP
import Derived.Test.YtjceoaomkbabmaaLineP
import Derived.Test.YtjceoaomkbabmaaCalls
namespace Go.Proofs.Ytjceoaomkbabmaa
open Go Go.VV Go.Proofs
set_option linter.unusedSimpArgs false
set_option linter.unusedVariables false
set_option maxRecDepth 100000
set_option maxHeartbeats 2000000 in
theorem paint_fn (b : Nat) (u : PU) (hu : u.Wf) (w : World) (hst : St w [b] [(b, blk (cU u) 60)] w) (hl : u.line < 144) (ho : u.own < 600) : Does Try.prog 33 [.pointer (some ⟨b, 0, none⟩)] w [b] (fun v H => v = .tuple #[] ∧ H = [(b, blk (cU (paintU u)) 60)]) := by
  have hlb := hu.line
  have hob := hu.own
  refine does_of Try.func33 rfl rfl rfl hst ?_
  refine c_seq ?_
  refine c_region ?_
  refine l_l rfl rfl rfl ?_
  refine l_l rfl rfl rfl ?_
  refine l_l (light_fa rfl rfl) rfl rfl ?_
  refine l_l rfl rfl rfl ?_
  refine l_nil ?_
  refine c_seq ?_
  refine c_draw _ [4, 5, 6, 7, 8, 9, 10, 11, 12, 13, 14, 15, 16, 17, 18, 19, 21] (.step true 0 (.step true 1 (.step true 2 (.step true 3 (.step true 4 (.step true 5 (.step true 6 (.step true 7 (.step true 8 (.step true 9 (.step true 10 (.step true 11 (.step true 12 (.step true 13 (.step true 14 (.step true 15 (.step true 16 (.step true 17 (.step true 18 (.step true 19 (.step true 20 (.step false 21 (.step false 22 .done))))))))))))))))))))))) rfl (by kernel_rfl) (by kernel_rfl) (fun _ h => h) ?_
  refine d_light rfl rfl rfl rfl rfl ?_
  refine d_light rfl rfl rfl rfl rfl ?_
  refine d_light rfl (by first | exact idx_array1 0 rfl rfl rfl rfl (by decide) | exact idx_slice1 0 rfl rfl rfl rfl (by decide) | exact idx_array 0 rfl rfl rfl rfl (by decide) | exact idx_slice 0 rfl rfl rfl rfl (by decide)) rfl rfl rfl ?_
  refine d_load rfl rfl rfl (s_own (by repeat (first | exact .head _ | refine .tail _ ?_ | refine List.mem_append_right _ ?_)) (cU_R hu (j := 0) (by decide))) rfl rfl ?_
  refine d_light rfl rfl rfl rfl rfl ?_
  refine d_light rfl rfl rfl rfl rfl ?_
  refine d_light rfl (by first | exact idx_array1 3 rfl rfl rfl rfl (by decide) | exact idx_slice1 3 rfl rfl rfl rfl (by decide) | exact idx_array 3 rfl rfl rfl rfl (by decide) | exact idx_slice 3 rfl rfl rfl rfl (by decide)) rfl rfl rfl ?_
  refine d_load rfl rfl rfl (s_own (by repeat (first | exact .head _ | refine .tail _ ?_ | refine List.mem_append_right _ ?_)) (cU_R hu (j := 3) (by decide))) rfl rfl ?_
  refine d_light rfl rfl rfl rfl rfl ?_
  refine d_light rfl rfl rfl rfl rfl ?_
  refine d_light rfl (by first | exact idx_array1 2 rfl rfl rfl rfl (by decide) | exact idx_slice1 2 rfl rfl rfl rfl (by decide) | exact idx_array 2 rfl rfl rfl rfl (by decide) | exact idx_slice 2 rfl rfl rfl rfl (by decide)) rfl rfl rfl ?_
  refine d_load rfl rfl rfl (s_own (by repeat (first | exact .head _ | refine .tail _ ?_ | refine List.mem_append_right _ ?_)) (cU_R hu (j := 2) (by decide))) rfl rfl ?_
  refine d_light rfl rfl rfl rfl rfl ?_
  refine d_light rfl rfl rfl rfl rfl ?_
  refine d_light rfl (by first | exact idx_array1 11 rfl rfl rfl rfl (by decide) | exact idx_slice1 11 rfl rfl rfl rfl (by decide) | exact idx_array 11 rfl rfl rfl rfl (by decide) | exact idx_slice 11 rfl rfl rfl rfl (by decide)) rfl rfl rfl ?_
  refine d_load rfl rfl rfl (s_own (by repeat (first | exact .head _ | refine .tail _ ?_ | refine List.mem_append_right _ ?_)) (cU_R hu (j := 11) (by decide))) rfl rfl ?_
  refine d_light rfl rfl rfl rfl rfl ?_
  refine d_light rfl rfl rfl rfl rfl ?_
  refine d_light rfl (by first | exact idx_array1 10 rfl rfl rfl rfl (by decide) | exact idx_slice1 10 rfl rfl rfl rfl (by decide) | exact idx_array 10 rfl rfl rfl rfl (by decide) | exact idx_slice 10 rfl rfl rfl rfl (by decide)) rfl rfl rfl ?_
  refine d_load rfl rfl rfl (s_own (by repeat (first | exact .head _ | refine .tail _ ?_ | refine List.mem_append_right _ ?_)) (cU_R hu (j := 10) (by decide))) rfl rfl ?_
  refine d_light rfl (light_struct rfl rfl rfl rfl) rfl rfl rfl ?_
  refine d_x rfl (x_alloc rfl) rfl rfl (by intro _ _ _ hK x hx; obtain ⟨_, rfl, rfl⟩ := hK; repeat (first | exact hx | exact List.mem_append_left _ hx | refine List.mem_append_right _ ?_ | refine .tail _ ?_)) ?_
  rintro _ _ ⟨b3, rfl, rfl⟩
  refine d_x rfl (by first | exact x_store 0 rfl rfl rfl rfl rfl rfl (by first | rfl | exact Nat.le_of_ble_eq_true rfl | (simp; done)) | exact x_store 1 rfl rfl rfl rfl rfl rfl (by first | rfl | exact Nat.le_of_ble_eq_true rfl | (simp; done)) | exact x_store 2 rfl rfl rfl rfl rfl rfl (by first | rfl | exact Nat.le_of_ble_eq_true rfl | (simp; done)) | exact x_store 3 rfl rfl rfl rfl rfl rfl (by first | rfl | exact Nat.le_of_ble_eq_true rfl | (simp; done))) rfl rfl (by intro h; cases h) ?_
  rintro _ _ ⟨rfl, rfl⟩
  refine d_nil ?_
  refine c_seq ?_
  refine c_draw _ [4, 5, 6, 7, 8, 9, 10, 11, 12, 13, 14, 15, 17] (.step true 0 (.step true 1 (.step true 2 (.step true 3 (.step true 4 (.step true 5 (.step true 6 (.step true 7 (.step true 8 (.step true 9 (.step true 10 (.step true 11 (.step true 12 (.step true 13 (.step true 14 (.step true 15 (.step true 16 (.step false 17 (.step false 18 .done))))))))))))))))))) rfl (by kernel_rfl) (by kernel_rfl) (fun _ h => h) ?_
  refine d_light rfl rfl rfl rfl rfl ?_
  refine d_light rfl rfl rfl rfl rfl ?_
  refine d_light rfl (by first | exact idx_array1 0 rfl rfl rfl rfl (by decide) | exact idx_slice1 0 rfl rfl rfl rfl (by decide) | exact idx_array 0 rfl rfl rfl rfl (by decide) | exact idx_slice 0 rfl rfl rfl rfl (by decide)) rfl rfl rfl ?_
  refine d_load rfl rfl rfl (s_own (by repeat (first | exact .head _ | refine .tail _ ?_ | refine List.mem_append_right _ ?_)) (cU_R hu (j := 0) (by decide))) rfl rfl ?_
  refine d_light rfl rfl rfl rfl rfl ?_
  refine d_light rfl rfl rfl rfl rfl ?_
  refine d_light rfl (by first | exact idx_array1 7 rfl rfl rfl rfl (by decide) | exact idx_slice1 7 rfl rfl rfl rfl (by decide) | exact idx_array 7 rfl rfl rfl rfl (by decide) | exact idx_slice 7 rfl rfl rfl rfl (by decide)) rfl rfl rfl ?_
  refine d_load rfl rfl rfl (s_own (by repeat (first | exact .head _ | refine .tail _ ?_ | refine List.mem_append_right _ ?_)) (cU_R hu (j := 7) (by decide))) rfl rfl ?_
  refine d_light rfl rfl rfl rfl rfl ?_
  refine d_light rfl rfl rfl rfl rfl ?_
  refine d_light rfl (by first | exact idx_array1 8 rfl rfl rfl rfl (by decide) | exact idx_slice1 8 rfl rfl rfl rfl (by decide) | exact idx_array 8 rfl rfl rfl rfl (by decide) | exact idx_slice 8 rfl rfl rfl rfl (by decide)) rfl rfl rfl ?_
  refine d_load rfl rfl rfl (s_own (by repeat (first | exact .head _ | refine .tail _ ?_ | refine List.mem_append_right _ ?_)) (cU_R hu (j := 8) (by decide))) rfl rfl ?_
  refine d_light rfl rfl rfl rfl rfl ?_
  refine d_light rfl rfl rfl rfl rfl ?_
  refine d_light rfl (by first | exact idx_array1 9 rfl rfl rfl rfl (by decide) | exact idx_slice1 9 rfl rfl rfl rfl (by decide) | exact idx_array 9 rfl rfl rfl rfl (by decide) | exact idx_slice 9 rfl rfl rfl rfl (by decide)) rfl rfl rfl ?_
  refine d_load rfl rfl rfl (s_own (by repeat (first | exact .head _ | refine .tail _ ?_ | refine List.mem_append_right _ ?_)) (cU_R hu (j := 9) (by decide))) rfl rfl ?_
  refine d_light rfl (light_struct rfl rfl rfl rfl) rfl rfl rfl ?_
  refine d_x rfl (x_alloc rfl) rfl rfl (by intro _ _ _ hK x hx; obtain ⟨_, rfl, rfl⟩ := hK; repeat (first | exact hx | exact List.mem_append_left _ hx | refine List.mem_append_right _ ?_ | refine .tail _ ?_)) ?_
  rintro _ _ ⟨b4, rfl, rfl⟩
  refine d_x rfl (by first | exact x_store 0 rfl rfl rfl rfl rfl rfl (by first | rfl | exact Nat.le_of_ble_eq_true rfl | (simp; done)) | exact x_store 1 rfl rfl rfl rfl rfl rfl (by first | rfl | exact Nat.le_of_ble_eq_true rfl | (simp; done)) | exact x_store 2 rfl rfl rfl rfl rfl rfl (by first | rfl | exact Nat.le_of_ble_eq_true rfl | (simp; done)) | exact x_store 3 rfl rfl rfl rfl rfl rfl (by first | rfl | exact Nat.le_of_ble_eq_true rfl | (simp; done))) rfl rfl (by intro h; cases h) ?_
  rintro _ _ ⟨rfl, rfl⟩
  refine d_nil ?_
  refine c_seq ?_
  refine c_draw _ [1, 2, 3, 4, 5, 6, 7, 8, 9, 10, 11, 12, 17] (.step true 0 (.step true 1 (.step true 2 (.step true 3 (.step true 4 (.step true 5 (.step true 6 (.step true 7 (.step true 8 (.step true 9 (.step true 10 (.step true 11 (.step true 12 (.fork 13 (.step true 14 (.step true 15 (.step true 16 (.step false 17 (.step false 18 (.step true 19 .done)))))) (.fork 17 (.step false 13 (.step true 14 (.step true 15 (.step true 16 (.step false 18 (.step true 19 .done)))))) .stop))))))))))))))) rfl (by kernel_rfl) (by kernel_rfl) (fun _ h => h) ?_
  refine d_loadA rfl rfl rfl rfl (by first | exact srow_own (by repeat (first | exact .head _ | refine .tail _ ?_ | refine List.mem_append_right _ ?_)) | exact srow_own_at (by repeat (first | exact .head _ | refine .tail _ ?_ | refine List.mem_append_right _ ?_)) _ 5 rfl) rfl rfl ?_
  refine d_light rfl rfl rfl rfl rfl ?_
  refine d_light rfl rfl rfl rfl rfl ?_
  refine d_light rfl (light_fa rfl rfl) rfl rfl rfl ?_
  refine d_as (v := (.slice (some ⟨b, 0, none⟩) u.V.length 8192)) rfl (cut_array1 0 8192 rfl rfl rfl rfl rfl rfl (by decide) (by decide)) rfl rfl rfl (by rw [hu.lV]; rfl) ?_
  refine d_light rfl rfl rfl rfl rfl ?_
  refine d_light rfl rfl rfl rfl rfl ?_
  refine d_light rfl (light_fa rfl rfl) rfl rfl rfl ?_
  refine d_load rfl rfl rfl (s_own (by repeat (first | exact .head _ | refine .tail _ ?_ | refine List.mem_append_right _ ?_)) (cU_line hu)) rfl rfl ?_
  refine d_light rfl rfl rfl rfl rfl ?_
  refine d_light rfl rfl rfl rfl rfl ?_
  refine d_light rfl (light_fa rfl rfl) rfl rfl rfl ?_
  refine d_load rfl rfl rfl (s_own (by repeat (first | exact .head _ | refine .tail _ ?_ | refine List.mem_append_right _ ?_)) (cU_own hu)) rfl rfl ?_
  refine d_fork ?_ ?_
  · refine d_x rfl (x_val call_46 rfl (fun w hw => tline_fn _ _ u.V hu.bV (viewU u) (viewU_ok hu) u.line u.own w (Ns.of (rowV (row_own (by repeat (first | exact .head _ | refine .tail _ ?_ | refine List.mem_append_right _ ?_)) w hw))))) rfl rfl (by intro h; cases h) ?_
    rintro _ _ ⟨rfl, rfl⟩
    refine d_mv rfl (vnf_eq rfl) rfl rfl ?_
    refine d_light rfl rfl rfl rfl rfl ?_
    refine d_light rfl rfl rfl rfl rfl ?_
    refine d_x rfl (x_alloc rfl) rfl rfl (by intro _ _ _ hK x hx; obtain ⟨_, rfl, rfl⟩ := hK; repeat (first | exact hx | exact List.mem_append_left _ hx | refine List.mem_append_right _ ?_ | refine .tail _ ?_)) ?_
    rintro _ _ ⟨b5, rfl, rfl⟩
    refine d_x rfl (by first | exact x_store 0 rfl rfl rfl rfl rfl rfl (by first | rfl | exact Nat.le_of_ble_eq_true rfl | (simp; done)) | exact x_store 1 rfl rfl rfl rfl rfl rfl (by first | rfl | exact Nat.le_of_ble_eq_true rfl | (simp; done)) | exact x_store 2 rfl rfl rfl rfl rfl rfl (by first | rfl | exact Nat.le_of_ble_eq_true rfl | (simp; done)) | exact x_store 3 rfl rfl rfl rfl rfl rfl (by first | rfl | exact Nat.le_of_ble_eq_true rfl | (simp; done))) rfl rfl (by intro h; cases h) ?_
    rintro _ _ ⟨rfl, rfl⟩
    refine d_light rfl rfl rfl rfl rfl ?_
    refine d_nil ?_
    refine c_seq ?_
    refine c_draw _ [5, 6, 7, 8, 9, 10, 11, 12, 13, 14, 15, 16, 17, 18, 19, 20, 21] (.step true 0 (.step true 1 (.step true 2 (.step true 3 (.step true 4 (.step true 5 (.step true 6 (.step true 7 (.step true 8 (.step true 9 (.step true 10 (.step true 11 (.step true 12 (.step true 13 (.step true 14 (.step true 15 (.step true 16 (.step true 17 (.step true 18 (.step true 20 (.step true 21 (.step false 19 (.step true 22 (.step false 23 .done)))))))))))))))))))))))) rfl (by kernel_rfl) (by kernel_rfl) (fun _ h => h) ?_
    refine d_light rfl rfl rfl rfl rfl ?_
    refine d_light rfl rfl rfl rfl rfl ?_
    refine d_light rfl rfl rfl rfl rfl ?_
    refine d_light rfl (light_fa rfl rfl) rfl rfl rfl ?_
    refine d_load rfl rfl rfl (s_own (by repeat (first | exact .head _ | refine .tail _ ?_ | refine List.mem_append_right _ ?_)) (cU_line hu)) rfl rfl ?_
    refine d_loadA rfl rfl rfl rfl (by first | exact srow_own (by repeat (first | exact .head _ | refine .tail _ ?_ | refine List.mem_append_right _ ?_)) | exact srow_own_at (by repeat (first | exact .head _ | refine .tail _ ?_ | refine List.mem_append_right _ ?_)) _ 4 rfl) rfl rfl ?_
    refine d_light rfl rfl rfl rfl rfl ?_
    refine d_light rfl rfl rfl rfl rfl ?_
    refine d_light rfl (light_fa rfl rfl) rfl rfl rfl ?_
    refine d_as (v := (.slice (some ⟨b, 0, none⟩) u.V.length 8192)) rfl (cut_array1 0 8192 rfl rfl rfl rfl rfl rfl (by decide) (by decide)) rfl rfl rfl (by rw [hu.lV]; rfl) ?_
    refine d_light rfl rfl rfl rfl rfl ?_
    refine d_light rfl rfl rfl rfl rfl ?_
    refine d_light rfl (light_fa rfl rfl) rfl rfl rfl ?_
    refine d_as (v := (.slice (some ⟨b, 8192, none⟩) u.O.length 160)) rfl (cut_array1 0 160 rfl rfl rfl rfl rfl rfl (by decide) (by decide)) rfl rfl rfl (by rw [hu.lO]; rfl) ?_
    refine d_light rfl rfl rfl rfl rfl ?_
    refine d_light rfl rfl rfl rfl rfl ?_
    refine d_light rfl (light_fa rfl rfl) rfl rfl rfl ?_
    refine d_load rfl rfl rfl (s_own (by repeat (first | exact .head _ | refine .tail _ ?_ | refine List.mem_append_right _ ?_)) (cU_line hu)) rfl rfl ?_
    refine d_loadA rfl rfl rfl rfl (by first | exact srow_own (by repeat (first | exact .head _ | refine .tail _ ?_ | refine List.mem_append_right _ ?_)) | exact srow_own_at (by repeat (first | exact .head _ | refine .tail _ ?_ | refine List.mem_append_right _ ?_)) _ 160 rfl) rfl rfl ?_
    refine d_light rfl rfl rfl rfl rfl ?_
    refine d_light rfl (light_fa rfl rfl) rfl rfl rfl ?_
    refine d_x rfl (x_val call_47 rfl (fun w hw => line_fn (u.r 0) (u.r 7) (u.r 8) (u.r 9) (hu.look 0) (hu.look 7) (hu.look 8) (hu.look 9) _ _ _ _ u.V u.O hu.bV hu.bO (by rw [hu.lO]; decide) u.line (belowU u) (tLine_len _ _ _ _) (tLine_byts _ _ _ _) w (Ns.of (rowV (row_own (by repeat (first | exact .head _ | refine .tail _ ?_ | refine List.mem_append_right _ ?_)) w hw))) (Ns.of (rowO hu (row_own (by repeat (first | exact .head _ | refine .tail _ ?_ | refine List.mem_append_right _ ?_)) w hw))))) rfl rfl (by intro _ _ _ hK x hx; obtain ⟨rfl, rfl⟩ := hK; repeat (first | exact hx | exact List.mem_append_left _ hx | refine List.mem_append_right _ ?_ | refine .tail _ ?_)) ?_
    rintro _ _ ⟨rfl, rfl⟩
    rw [rowU_vals]
    refine d_light rfl (idx_array (s := 160) u.line.toNat rfl rfl rfl (by omega) (by omega)) rfl rfl rfl ?_
    refine d_x rfl (x_storeTo (l' := cU { u with P := putI u.P (u.line.toNat * 160) (rowU u) }) 3 rfl rfl rfl rfl rfl rfl (by rw [cU_len hu, List.length_map, rowU_len]; omega) (putU_P hu (by rw [rowU_len]; omega))) rfl rfl (by intro h; cases h) ?_
    rintro _ _ ⟨rfl, rfl⟩
    simp only [List.set_cons_zero, List.set_cons_succ]
    refine d_nil ?_
    refine c_seq ?_
    refine c_region ?_
    refine l_l rfl rfl rfl ?_
    refine l_nil ?_
    refine c_cond rfl (fun h1 => ?_) (fun h1 => ?_)
    · refine c_region ?_
      refine l_l rfl rfl rfl ?_
      refine l_l rfl rfl rfl ?_
      refine l_l (light_fa rfl rfl) rfl rfl ?_
      refine l_x (x_load rfl rfl (at_own (by repeat (first | exact .head _ | refine .tail _ ?_ | refine List.mem_append_right _ ?_)) (cU_own (hu.P_ (u.line.toNat * 160) (rowU_byts u) (by rw [rowU_len]; omega))))) rfl rfl ?_
      rintro _ _ ⟨rfl, rfl⟩
      refine l_as (v := (.int .i64 (u.own + 1))) rfl rfl rfl (congrArg _ (wrap_i64 (by dsimp only; omega) (by dsimp only; omega))) ?_
      refine l_l rfl rfl rfl ?_
      refine l_l (light_fa rfl rfl) rfl rfl ?_
      refine l_x (x_storeTo (l' := cU { u with P := putI u.P (u.line.toNat * 160) (rowU u), own := u.own + 1 }) 3 rfl rfl rfl rfl rfl rfl (by rw [cU_len (hu.P_ (u.line.toNat * 160) (rowU_byts u) (by rw [rowU_len]; omega))]; simp only [List.length_cons, List.length_nil]; (try simp only [decide_eq_true_eq, decide_eq_false_iff_not, beq_iff_eq, beq_eq_false_iff_ne, bne_iff_ne, bne_eq_false_iff_eq, ne_eq] at *); omega) (putU_own (hu.P_ (u.line.toNat * 160) (rowU_byts u) (by rw [rowU_len]; omega)) _)) rfl rfl ?_
      rintro _ _ ⟨rfl, rfl⟩
      simp only [List.set_cons_zero, List.set_cons_succ]
      refine l_nil ?_
      exact l_end (fun _ _ => rets_none) (.cons _ (.cons _ (.cons _ (List.Sublist.refl _)))) ⟨rfl, by rw [paint_yes h1]⟩
    · refine c_skip ?_
      exact l_end (fun _ _ => rets_none) (.cons _ (.cons _ (.cons _ (List.Sublist.refl _)))) ⟨rfl, by rw [paint_no h1]⟩
  refine d_fork ?_ ?_
  · refine d_x rfl (x_alloc rfl) rfl rfl (by intro _ _ _ hK x hx; obtain ⟨_, rfl, rfl⟩ := hK; repeat (first | exact hx | exact List.mem_append_left _ hx | refine List.mem_append_right _ ?_ | refine .tail _ ?_)) ?_
    rintro _ _ ⟨b5, rfl, rfl⟩
    refine d_x rfl (x_val call_46 rfl (fun w hw => tline_fn _ _ u.V hu.bV (viewU u) (viewU_ok hu) u.line u.own w (Ns.of (rowV (row_own (by repeat (first | exact .head _ | refine .tail _ ?_ | refine List.mem_append_right _ ?_)) w hw))))) rfl rfl (by intro h; cases h) ?_
    rintro _ _ ⟨rfl, rfl⟩
    refine d_mv rfl (vnf_eq rfl) rfl rfl ?_
    refine d_light rfl rfl rfl rfl rfl ?_
    refine d_light rfl rfl rfl rfl rfl ?_
    refine d_x rfl (by first | exact x_store 0 rfl rfl rfl rfl rfl rfl (by first | rfl | exact Nat.le_of_ble_eq_true rfl | (simp; done)) | exact x_store 1 rfl rfl rfl rfl rfl rfl (by first | rfl | exact Nat.le_of_ble_eq_true rfl | (simp; done)) | exact x_store 2 rfl rfl rfl rfl rfl rfl (by first | rfl | exact Nat.le_of_ble_eq_true rfl | (simp; done)) | exact x_store 3 rfl rfl rfl rfl rfl rfl (by first | rfl | exact Nat.le_of_ble_eq_true rfl | (simp; done))) rfl rfl (by intro h; cases h) ?_
    rintro _ _ ⟨rfl, rfl⟩
    refine d_light rfl rfl rfl rfl rfl ?_
    refine d_nil ?_
    refine c_seq ?_
    refine c_draw _ [5, 6, 7, 8, 9, 10, 11, 12, 13, 14, 15, 16, 17, 18, 19, 20, 21] (.step true 0 (.step true 1 (.step true 2 (.step true 3 (.step true 4 (.step true 5 (.step true 6 (.step true 7 (.step true 8 (.step true 9 (.step true 10 (.step true 11 (.step true 12 (.step true 13 (.step true 14 (.step true 15 (.step true 16 (.step true 17 (.step true 18 (.step true 20 (.step true 21 (.step false 19 (.step true 22 (.step false 23 .done)))))))))))))))))))))))) rfl (by kernel_rfl) (by kernel_rfl) (fun _ h => h) ?_
    refine d_light rfl rfl rfl rfl rfl ?_
    refine d_light rfl rfl rfl rfl rfl ?_
    refine d_light rfl rfl rfl rfl rfl ?_
    refine d_light rfl (light_fa rfl rfl) rfl rfl rfl ?_
    refine d_load rfl rfl rfl (s_own (by repeat (first | exact .head _ | refine .tail _ ?_ | refine List.mem_append_right _ ?_)) (cU_line hu)) rfl rfl ?_
    refine d_loadA rfl rfl rfl rfl (by first | exact srow_own (by repeat (first | exact .head _ | refine .tail _ ?_ | refine List.mem_append_right _ ?_)) | exact srow_own_at (by repeat (first | exact .head _ | refine .tail _ ?_ | refine List.mem_append_right _ ?_)) _ 4 rfl) rfl rfl ?_
    refine d_light rfl rfl rfl rfl rfl ?_
    refine d_light rfl rfl rfl rfl rfl ?_
    refine d_light rfl (light_fa rfl rfl) rfl rfl rfl ?_
    refine d_as (v := (.slice (some ⟨b, 0, none⟩) u.V.length 8192)) rfl (cut_array1 0 8192 rfl rfl rfl rfl rfl rfl (by decide) (by decide)) rfl rfl rfl (by rw [hu.lV]; rfl) ?_
    refine d_light rfl rfl rfl rfl rfl ?_
    refine d_light rfl rfl rfl rfl rfl ?_
    refine d_light rfl (light_fa rfl rfl) rfl rfl rfl ?_
    refine d_as (v := (.slice (some ⟨b, 8192, none⟩) u.O.length 160)) rfl (cut_array1 0 160 rfl rfl rfl rfl rfl rfl (by decide) (by decide)) rfl rfl rfl (by rw [hu.lO]; rfl) ?_
    refine d_light rfl rfl rfl rfl rfl ?_
    refine d_light rfl rfl rfl rfl rfl ?_
    refine d_light rfl (light_fa rfl rfl) rfl rfl rfl ?_
    refine d_load rfl rfl rfl (s_own (by repeat (first | exact .head _ | refine .tail _ ?_ | refine List.mem_append_right _ ?_)) (cU_line hu)) rfl rfl ?_
    refine d_loadA rfl rfl rfl rfl (by first | exact srow_own (by repeat (first | exact .head _ | refine .tail _ ?_ | refine List.mem_append_right _ ?_)) | exact srow_own_at (by repeat (first | exact .head _ | refine .tail _ ?_ | refine List.mem_append_right _ ?_)) _ 160 rfl) rfl rfl ?_
    refine d_light rfl rfl rfl rfl rfl ?_
    refine d_light rfl (light_fa rfl rfl) rfl rfl rfl ?_
    refine d_x rfl (x_val call_47 rfl (fun w hw => line_fn (u.r 0) (u.r 7) (u.r 8) (u.r 9) (hu.look 0) (hu.look 7) (hu.look 8) (hu.look 9) _ _ _ _ u.V u.O hu.bV hu.bO (by rw [hu.lO]; decide) u.line (belowU u) (tLine_len _ _ _ _) (tLine_byts _ _ _ _) w (Ns.of (rowV (row_own (by repeat (first | exact .head _ | refine .tail _ ?_ | refine List.mem_append_right _ ?_)) w hw))) (Ns.of (rowO hu (row_own (by repeat (first | exact .head _ | refine .tail _ ?_ | refine List.mem_append_right _ ?_)) w hw))))) rfl rfl (by intro _ _ _ hK x hx; obtain ⟨rfl, rfl⟩ := hK; repeat (first | exact hx | exact List.mem_append_left _ hx | refine List.mem_append_right _ ?_ | refine .tail _ ?_)) ?_
    rintro _ _ ⟨rfl, rfl⟩
    rw [rowU_vals]
    refine d_light rfl (idx_array (s := 160) u.line.toNat rfl rfl rfl (by omega) (by omega)) rfl rfl rfl ?_
    refine d_x rfl (x_storeTo (l' := cU { u with P := putI u.P (u.line.toNat * 160) (rowU u) }) 3 rfl rfl rfl rfl rfl rfl (by rw [cU_len hu, List.length_map, rowU_len]; omega) (putU_P hu (by rw [rowU_len]; omega))) rfl rfl (by intro h; cases h) ?_
    rintro _ _ ⟨rfl, rfl⟩
    simp only [List.set_cons_zero, List.set_cons_succ]
    refine d_nil ?_
    refine c_seq ?_
    refine c_region ?_
    refine l_l rfl rfl rfl ?_
    refine l_nil ?_
    refine c_cond rfl (fun h2 => ?_) (fun h2 => ?_)
    · refine c_region ?_
      refine l_l rfl rfl rfl ?_
      refine l_l rfl rfl rfl ?_
      refine l_l (light_fa rfl rfl) rfl rfl ?_
      refine l_x (x_load rfl rfl (at_own (by repeat (first | exact .head _ | refine .tail _ ?_ | refine List.mem_append_right _ ?_)) (cU_own (hu.P_ (u.line.toNat * 160) (rowU_byts u) (by rw [rowU_len]; omega))))) rfl rfl ?_
      rintro _ _ ⟨rfl, rfl⟩
      refine l_as (v := (.int .i64 (u.own + 1))) rfl rfl rfl (congrArg _ (wrap_i64 (by dsimp only; omega) (by dsimp only; omega))) ?_
      refine l_l rfl rfl rfl ?_
      refine l_l (light_fa rfl rfl) rfl rfl ?_
      refine l_x (x_storeTo (l' := cU { u with P := putI u.P (u.line.toNat * 160) (rowU u), own := u.own + 1 }) 3 rfl rfl rfl rfl rfl rfl (by rw [cU_len (hu.P_ (u.line.toNat * 160) (rowU_byts u) (by rw [rowU_len]; omega))]; simp only [List.length_cons, List.length_nil]; (try simp only [decide_eq_true_eq, decide_eq_false_iff_not, beq_iff_eq, beq_eq_false_iff_ne, bne_iff_ne, bne_eq_false_iff_eq, ne_eq] at *); omega) (putU_own (hu.P_ (u.line.toNat * 160) (rowU_byts u) (by rw [rowU_len]; omega)) _)) rfl rfl ?_
      rintro _ _ ⟨rfl, rfl⟩
      simp only [List.set_cons_zero, List.set_cons_succ]
      refine l_nil ?_
      exact l_end (fun _ _ => rets_none) (.cons _ (.cons _ (.cons _ (List.Sublist.refl _)))) ⟨rfl, by rw [paint_yes h2]⟩
    · refine c_skip ?_
      exact l_end (fun _ _ => rets_none) (.cons _ (.cons _ (.cons _ (List.Sublist.refl _)))) ⟨rfl, by rw [paint_no h2]⟩
  exact d_stop

end Go.Proofs.Ytjceoaomkbabmaa
