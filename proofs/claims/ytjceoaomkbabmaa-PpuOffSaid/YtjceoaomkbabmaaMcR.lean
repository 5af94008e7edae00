/- The contract of the document's unit as bytes. -/
import Derived.Test.YtjceoaomkbabmaaMcF
import Derived.Test.YtjceoaomkbabmaaMcL
import Derived.Test.YtjceoaomkbabmaaMcQ
namespace Go.Proofs.Ytjceoaomkbabmaa
open Go Go.VV Go.Proofs
set_option linter.unusedSimpArgs false
set_option linter.unusedVariables false
set_option maxRecDepth 100000
set_option maxHeartbeats 4000000 in
theorem rtick_fn (b bv bs : Nat) (u : PU) (hok : u.Ok) (w : World) (hst : St w [b, bv, bs] (RH b bv bs u) w) : Does Try.prog 36 [.pointer (some ⟨b, 0, none⟩)] w [b, bv, bs] (fun v H => v = .int .u8 (tickV u) ∧ H = RH b bv bs (tickU u)) := by
  have hu := hok.wf
  have hd := hok.dot
  have hlb := hu.line
  have hl154 := hok.line
  have hdb := hu.dot
  have hws := hok.step
  have hob := hok.own599
  have hob2 := hu.own
  have hfb := hu.frames
  refine does_of Try.func36 rfl rfl rfl hst ?_
  refine c_seq ?_
  refine c_region ?_
  refine l_l rfl rfl rfl ?_
  refine l_nil ?_
  refine c_seq ?_
  refine c_seq ?_
  refine c_region ?_
  refine l_l rfl rfl rfl ?_
  refine l_x (x_val call_48 rfl (fun w hw => on_fn b bv bs u hu w (RRow.of hw (by repeat (first | exact .head _ | refine .tail _ ?_ | refine List.mem_append_right _ ?_)) (by repeat (first | exact .head _ | refine .tail _ ?_ | refine List.mem_append_right _ ?_)) (by repeat (first | exact .head _ | refine .tail _ ?_ | refine List.mem_append_right _ ?_))))) rfl rfl ?_
  rintro _ _ ⟨rfl, rfl⟩
  refine l_l rfl rfl rfl ?_
  refine l_nil ?_
  refine c_cond rfl (fun h1 => ?_) (fun h1 => ?_)
  · have h1n := by first | exact of_decide_eq_true h1 | exact of_decide_eq_false h1 | exact eq_of_beq h1 | exact ne_of_beq_false h1 | exact bne_t h1 | exact bne_f h1 | exact h1
    refine c_seq ?_
    refine c_region ?_
    refine l_l rfl rfl rfl ?_
    refine l_nil ?_
    refine c_ret ?_
    exact l_end (fun _ _ => rets_v rfl) (List.Sublist.refl _) ⟨congrArg _ (by unfold tickV; rw [if_neg (by simpa using h1)]), by unfold tickU; rw [if_neg (by simpa using h1)]⟩
  · have h1n := by first | exact of_decide_eq_true h1 | exact of_decide_eq_false h1 | exact eq_of_beq h1 | exact ne_of_beq_false h1 | exact bne_t h1 | exact bne_f h1 | exact h1
    refine c_skip ?_
    refine c_seq ?_
    refine c_region ?_
    refine l_l rfl rfl rfl ?_
    refine l_nil ?_
    refine c_seq ?_
    refine c_region ?_
    refine l_l rfl rfl rfl ?_
    refine l_l rfl rfl rfl ?_
    refine l_l (light_fa rfl rfl) rfl rfl ?_
    refine l_x (x_load rfl rfl (at_own (by repeat (first | exact .head _ | refine .tail _ ?_ | refine List.mem_append_right _ ?_)) (cW_dot hu))) rfl rfl ?_
    rintro _ _ ⟨rfl, rfl⟩
    refine l_as (v := (.int .i64 (u.dot + 1))) rfl rfl rfl (congrArg _ (wrap_i64 (by omega) (by omega))) ?_
    refine l_l rfl rfl rfl ?_
    refine l_l (light_fa rfl rfl) rfl rfl ?_
    refine l_x (x_storeTo (l' := cW bv bs (oneU u)) 0 rfl rfl rfl rfl rfl rfl (by rw [cW_len hu]; simp only [List.length_cons, List.length_nil]; omega) (putW_dot hu _)) rfl rfl ?_
    rintro _ _ ⟨rfl, rfl⟩
    try simp only [List.set_cons_zero, List.set_cons_succ]
    refine l_nil ?_
    refine c_seq ?_
    refine c_seq ?_
    refine c_region ?_
    refine l_l rfl rfl rfl ?_
    refine l_l rfl rfl rfl ?_
    refine l_l (light_fa rfl rfl) rfl rfl ?_
    refine l_x (x_load rfl rfl (at_own (by repeat (first | exact .head _ | refine .tail _ ?_ | refine List.mem_append_right _ ?_)) (show (cW bv bs (oneU u))[15]? = some (.int .i64 (u.dot + 1)) from cW_dot (hu.one hd)))) rfl rfl ?_
    rintro _ _ ⟨rfl, rfl⟩
    refine l_l rfl rfl rfl ?_
    refine l_b rfl rfl rfl (fun h2 => ?_) (fun h2 => ?_)
    · have h2n := by first | exact of_decide_eq_true h2 | exact of_decide_eq_false h2 | exact eq_of_beq h2 | exact ne_of_beq_false h2 | exact bne_t h2 | exact bne_f h2 | exact h2
      refine l_l rfl rfl rfl ?_
      refine l_l rfl rfl rfl ?_
      refine l_l (light_fa rfl rfl) rfl rfl ?_
      refine l_x (x_load rfl rfl (at_own (by repeat (first | exact .head _ | refine .tail _ ?_ | refine List.mem_append_right _ ?_)) (show (cW bv bs (oneU u))[14]? = some (.int .i64 (u.line)) from cW_line (hu.one hd)))) rfl rfl ?_
      rintro _ _ ⟨rfl, rfl⟩
      refine l_l rfl rfl rfl ?_
      refine l_l rfl rfl rfl ?_
      refine l_nil ?_
      refine c_cond rfl (fun h3 => ?_) (fun h3 => ?_)
      · have h3n := by first | exact of_decide_eq_true h3 | exact of_decide_eq_false h3 | exact eq_of_beq h3 | exact ne_of_beq_false h3 | exact bne_t h3 | exact bne_f h3 | exact h3
        refine c_seq ?_
        have hP : ({ oneU u with P := putI u.P (u.line.toNat * 160) (rowU u) } : PU).Wf := (hu.one hd).P_ (u.line.toNat * 160) (rowU_byts u) (by rw [rowU_len]; omega)
        refine c_draw _ [5, 6, 7, 8, 9, 10, 11, 12, 13, 14, 15, 16, 17, 18, 19, 20, 21, 22, 23, 24, 26] (.step true 0 (.step true 1 (.step true 2 (.step true 3 (.step true 4 (.step true 5 (.step true 6 (.step true 7 (.step true 8 (.step true 9 (.step true 10 (.step true 11 (.step true 12 (.step true 13 (.step true 14 (.step true 15 (.step true 16 (.step true 17 (.step true 18 (.step true 19 (.step true 20 (.step true 21 (.step true 22 (.step true 23 (.step true 24 (.step true 25 (.step false 26 (.step false 27 .done)))))))))))))))))))))))))))) rfl (by kernel_rfl) (by kernel_rfl) (fun _ h => h) ?_
        refine d_light rfl rfl rfl rfl rfl ?_
        refine d_light rfl rfl rfl rfl rfl ?_
        refine d_light rfl (light_fa rfl rfl) rfl rfl rfl ?_
        refine d_light rfl (by first | exact idx_array1 0 rfl rfl rfl rfl (by decide) | exact idx_slice1 0 rfl rfl rfl rfl (by decide) | exact idx_array 0 rfl rfl rfl rfl (by decide) | exact idx_slice 0 rfl rfl rfl rfl (by decide)) rfl rfl rfl ?_
        refine d_load rfl rfl rfl (s_own (by repeat (first | exact .head _ | refine .tail _ ?_ | refine List.mem_append_right _ ?_)) (show (cW bv bs (oneU u))[2 + 0]? = some (.int .u8 (u.R.getD 0 0)) from cW_R (hu.one hd) (j := 0) (by decide))) rfl rfl ?_
        refine d_light rfl rfl rfl rfl rfl ?_
        refine d_light rfl rfl rfl rfl rfl ?_
        refine d_light rfl (light_fa rfl rfl) rfl rfl rfl ?_
        refine d_light rfl (by first | exact idx_array1 3 rfl rfl rfl rfl (by decide) | exact idx_slice1 3 rfl rfl rfl rfl (by decide) | exact idx_array 3 rfl rfl rfl rfl (by decide) | exact idx_slice 3 rfl rfl rfl rfl (by decide)) rfl rfl rfl ?_
        refine d_load rfl rfl rfl (s_own (by repeat (first | exact .head _ | refine .tail _ ?_ | refine List.mem_append_right _ ?_)) (show (cW bv bs (oneU u))[2 + 3]? = some (.int .u8 (u.R.getD 3 0)) from cW_R (hu.one hd) (j := 3) (by decide))) rfl rfl ?_
        refine d_light rfl rfl rfl rfl rfl ?_
        refine d_light rfl rfl rfl rfl rfl ?_
        refine d_light rfl (light_fa rfl rfl) rfl rfl rfl ?_
        refine d_light rfl (by first | exact idx_array1 2 rfl rfl rfl rfl (by decide) | exact idx_slice1 2 rfl rfl rfl rfl (by decide) | exact idx_array 2 rfl rfl rfl rfl (by decide) | exact idx_slice 2 rfl rfl rfl rfl (by decide)) rfl rfl rfl ?_
        refine d_load rfl rfl rfl (s_own (by repeat (first | exact .head _ | refine .tail _ ?_ | refine List.mem_append_right _ ?_)) (show (cW bv bs (oneU u))[2 + 2]? = some (.int .u8 (u.R.getD 2 0)) from cW_R (hu.one hd) (j := 2) (by decide))) rfl rfl ?_
        refine d_light rfl rfl rfl rfl rfl ?_
        refine d_light rfl rfl rfl rfl rfl ?_
        refine d_light rfl (light_fa rfl rfl) rfl rfl rfl ?_
        refine d_light rfl (by first | exact idx_array1 11 rfl rfl rfl rfl (by decide) | exact idx_slice1 11 rfl rfl rfl rfl (by decide) | exact idx_array 11 rfl rfl rfl rfl (by decide) | exact idx_slice 11 rfl rfl rfl rfl (by decide)) rfl rfl rfl ?_
        refine d_load rfl rfl rfl (s_own (by repeat (first | exact .head _ | refine .tail _ ?_ | refine List.mem_append_right _ ?_)) (show (cW bv bs (oneU u))[2 + 11]? = some (.int .u8 (u.R.getD 11 0)) from cW_R (hu.one hd) (j := 11) (by decide))) rfl rfl ?_
        refine d_light rfl rfl rfl rfl rfl ?_
        refine d_light rfl rfl rfl rfl rfl ?_
        refine d_light rfl (light_fa rfl rfl) rfl rfl rfl ?_
        refine d_light rfl (by first | exact idx_array1 10 rfl rfl rfl rfl (by decide) | exact idx_slice1 10 rfl rfl rfl rfl (by decide) | exact idx_array 10 rfl rfl rfl rfl (by decide) | exact idx_slice 10 rfl rfl rfl rfl (by decide)) rfl rfl rfl ?_
        refine d_load rfl rfl rfl (s_own (by repeat (first | exact .head _ | refine .tail _ ?_ | refine List.mem_append_right _ ?_)) (show (cW bv bs (oneU u))[2 + 10]? = some (.int .u8 (u.R.getD 10 0)) from cW_R (hu.one hd) (j := 10) (by decide))) rfl rfl ?_
        refine d_light rfl (light_struct rfl rfl rfl rfl) rfl rfl rfl ?_
        refine d_x rfl (x_alloc rfl) rfl rfl (by intro _ _ _ hK x hx; obtain ⟨_, rfl, rfl⟩ := hK; repeat (first | exact hx | exact List.mem_append_left _ hx | refine List.mem_append_right _ ?_ | refine .tail _ ?_)) ?_
        rintro _ _ ⟨b4, rfl, rfl⟩
        refine d_x rfl (by first | exact x_store 0 rfl rfl rfl rfl rfl rfl (by first | rfl | exact Nat.le_of_ble_eq_true rfl | (simp; done)) | exact x_store 1 rfl rfl rfl rfl rfl rfl (by first | rfl | exact Nat.le_of_ble_eq_true rfl | (simp; done)) | exact x_store 2 rfl rfl rfl rfl rfl rfl (by first | rfl | exact Nat.le_of_ble_eq_true rfl | (simp; done)) | exact x_store 3 rfl rfl rfl rfl rfl rfl (by first | rfl | exact Nat.le_of_ble_eq_true rfl | (simp; done))) rfl rfl (by intro h; cases h) ?_
        rintro _ _ ⟨rfl, rfl⟩
        refine d_nil ?_
        refine c_seq ?_
        refine c_draw _ [5, 6, 7, 8, 9, 10, 11, 12, 13, 14, 15, 16, 17, 18, 19, 21] (.step true 0 (.step true 1 (.step true 2 (.step true 3 (.step true 4 (.step true 5 (.step true 6 (.step true 7 (.step true 8 (.step true 9 (.step true 10 (.step true 11 (.step true 12 (.step true 13 (.step true 14 (.step true 15 (.step true 16 (.step true 17 (.step true 18 (.step true 19 (.step true 20 (.step false 21 (.step false 22 .done))))))))))))))))))))))) rfl (by kernel_rfl) (by kernel_rfl) (fun _ h => h) ?_
        refine d_light rfl rfl rfl rfl rfl ?_
        refine d_light rfl rfl rfl rfl rfl ?_
        refine d_light rfl (light_fa rfl rfl) rfl rfl rfl ?_
        refine d_light rfl (by first | exact idx_array1 0 rfl rfl rfl rfl (by decide) | exact idx_slice1 0 rfl rfl rfl rfl (by decide) | exact idx_array 0 rfl rfl rfl rfl (by decide) | exact idx_slice 0 rfl rfl rfl rfl (by decide)) rfl rfl rfl ?_
        refine d_load rfl rfl rfl (s_own (by repeat (first | exact .head _ | refine .tail _ ?_ | refine List.mem_append_right _ ?_)) (show (cW bv bs (oneU u))[2 + 0]? = some (.int .u8 (u.R.getD 0 0)) from cW_R (hu.one hd) (j := 0) (by decide))) rfl rfl ?_
        refine d_light rfl rfl rfl rfl rfl ?_
        refine d_light rfl rfl rfl rfl rfl ?_
        refine d_light rfl (light_fa rfl rfl) rfl rfl rfl ?_
        refine d_light rfl (by first | exact idx_array1 7 rfl rfl rfl rfl (by decide) | exact idx_slice1 7 rfl rfl rfl rfl (by decide) | exact idx_array 7 rfl rfl rfl rfl (by decide) | exact idx_slice 7 rfl rfl rfl rfl (by decide)) rfl rfl rfl ?_
        refine d_load rfl rfl rfl (s_own (by repeat (first | exact .head _ | refine .tail _ ?_ | refine List.mem_append_right _ ?_)) (show (cW bv bs (oneU u))[2 + 7]? = some (.int .u8 (u.R.getD 7 0)) from cW_R (hu.one hd) (j := 7) (by decide))) rfl rfl ?_
        refine d_light rfl rfl rfl rfl rfl ?_
        refine d_light rfl rfl rfl rfl rfl ?_
        refine d_light rfl (light_fa rfl rfl) rfl rfl rfl ?_
        refine d_light rfl (by first | exact idx_array1 8 rfl rfl rfl rfl (by decide) | exact idx_slice1 8 rfl rfl rfl rfl (by decide) | exact idx_array 8 rfl rfl rfl rfl (by decide) | exact idx_slice 8 rfl rfl rfl rfl (by decide)) rfl rfl rfl ?_
        refine d_load rfl rfl rfl (s_own (by repeat (first | exact .head _ | refine .tail _ ?_ | refine List.mem_append_right _ ?_)) (show (cW bv bs (oneU u))[2 + 8]? = some (.int .u8 (u.R.getD 8 0)) from cW_R (hu.one hd) (j := 8) (by decide))) rfl rfl ?_
        refine d_light rfl rfl rfl rfl rfl ?_
        refine d_light rfl rfl rfl rfl rfl ?_
        refine d_light rfl (light_fa rfl rfl) rfl rfl rfl ?_
        refine d_light rfl (by first | exact idx_array1 9 rfl rfl rfl rfl (by decide) | exact idx_slice1 9 rfl rfl rfl rfl (by decide) | exact idx_array 9 rfl rfl rfl rfl (by decide) | exact idx_slice 9 rfl rfl rfl rfl (by decide)) rfl rfl rfl ?_
        refine d_load rfl rfl rfl (s_own (by repeat (first | exact .head _ | refine .tail _ ?_ | refine List.mem_append_right _ ?_)) (show (cW bv bs (oneU u))[2 + 9]? = some (.int .u8 (u.R.getD 9 0)) from cW_R (hu.one hd) (j := 9) (by decide))) rfl rfl ?_
        refine d_light rfl (light_struct rfl rfl rfl rfl) rfl rfl rfl ?_
        refine d_x rfl (x_alloc rfl) rfl rfl (by intro _ _ _ hK x hx; obtain ⟨_, rfl, rfl⟩ := hK; repeat (first | exact hx | exact List.mem_append_left _ hx | refine List.mem_append_right _ ?_ | refine .tail _ ?_)) ?_
        rintro _ _ ⟨b5, rfl, rfl⟩
        refine d_x rfl (by first | exact x_store 0 rfl rfl rfl rfl rfl rfl (by first | rfl | exact Nat.le_of_ble_eq_true rfl | (simp; done)) | exact x_store 1 rfl rfl rfl rfl rfl rfl (by first | rfl | exact Nat.le_of_ble_eq_true rfl | (simp; done)) | exact x_store 2 rfl rfl rfl rfl rfl rfl (by first | rfl | exact Nat.le_of_ble_eq_true rfl | (simp; done)) | exact x_store 3 rfl rfl rfl rfl rfl rfl (by first | rfl | exact Nat.le_of_ble_eq_true rfl | (simp; done))) rfl rfl (by intro h; cases h) ?_
        rintro _ _ ⟨rfl, rfl⟩
        refine d_nil ?_
        refine c_seq ?_
        refine c_draw _ [5, 6, 7, 8, 9, 10, 11, 12, 13, 14, 15, 16, 17, 18, 19, 20, 21, 22, 23, 24, 25, 26, 27, 28, 29, 30, 31, 32, 33, 34] (.step true 0 (.step true 1 (.step true 2 (.step true 3 (.step true 4 (.step true 5 (.step true 6 (.step true 7 (.step true 8 (.step true 9 (.step true 10 (.step true 11 (.step true 12 (.step true 13 (.step true 14 (.step true 15 (.step true 16 (.step true 17 (.step true 18 (.step true 19 (.step true 20 (.step true 21 (.step true 22 (.step true 23 (.step true 24 (.step true 25 (.step true 26 (.step true 27 (.step true 28 (.step true 29 (.step true 30 (.step true 33 (.step true 34 (.step false 31 (.step false 32 (.step true 35 (.step false 36 .done))))))))))))))))))))))))))))))))))))) rfl (by kernel_rfl) (by kernel_rfl) (fun _ h => h) ?_
        refine d_light rfl rfl rfl rfl rfl ?_
        refine d_light rfl rfl rfl rfl rfl ?_
        refine d_light rfl rfl rfl rfl rfl ?_
        refine d_light rfl (light_fa rfl rfl) rfl rfl rfl ?_
        refine d_load rfl rfl rfl (s_own (by repeat (first | exact .head _ | refine .tail _ ?_ | refine List.mem_append_right _ ?_)) (show (cW bv bs (oneU u))[14]? = some (.int .i64 (u.line)) from cW_line (hu.one hd))) rfl rfl ?_
        refine d_loadA rfl rfl rfl rfl (by first | exact srow_own (by repeat (first | exact .head _ | refine .tail _ ?_ | refine List.mem_append_right _ ?_)) | exact srow_own_at (by repeat (first | exact .head _ | refine .tail _ ?_ | refine List.mem_append_right _ ?_)) _ 4 rfl) rfl rfl ?_
        refine d_light rfl rfl rfl rfl rfl ?_
        refine d_light rfl rfl rfl rfl rfl ?_
        refine d_light rfl (light_fa rfl rfl) rfl rfl rfl ?_
        refine d_load rfl rfl rfl (s_own (by repeat (first | exact .head _ | refine .tail _ ?_ | refine List.mem_append_right _ ?_)) (show (cW bv bs (oneU u))[0]? = some (.slice (some ⟨bv, 0, none⟩) u.V.length 8192) from cW_V (hu.one hd))) rfl rfl ?_
        refine d_light rfl rfl rfl rfl rfl ?_
        refine d_light rfl rfl rfl rfl rfl ?_
        refine d_light rfl (light_fa rfl rfl) rfl rfl rfl ?_
        refine d_load rfl rfl rfl (s_own (by repeat (first | exact .head _ | refine .tail _ ?_ | refine List.mem_append_right _ ?_)) (show (cW bv bs (oneU u))[1]? = some (.slice (some ⟨bs, 0, none⟩) u.O.length 160) from cW_O (hu.one hd))) rfl rfl ?_
        refine d_light rfl rfl rfl rfl rfl ?_
        refine d_light rfl rfl rfl rfl rfl ?_
        refine d_light rfl (light_fa rfl rfl) rfl rfl rfl ?_
        refine d_load rfl rfl rfl (s_own (by repeat (first | exact .head _ | refine .tail _ ?_ | refine List.mem_append_right _ ?_)) (show (cW bv bs (oneU u))[14]? = some (.int .i64 (u.line)) from cW_line (hu.one hd))) rfl rfl ?_
        refine d_loadA rfl rfl rfl rfl (by first | exact srow_own (by repeat (first | exact .head _ | refine .tail _ ?_ | refine List.mem_append_right _ ?_)) | exact srow_own_at (by repeat (first | exact .head _ | refine .tail _ ?_ | refine List.mem_append_right _ ?_)) _ 5 rfl) rfl rfl ?_
        refine d_light rfl rfl rfl rfl rfl ?_
        refine d_light rfl rfl rfl rfl rfl ?_
        refine d_light rfl (light_fa rfl rfl) rfl rfl rfl ?_
        refine d_load rfl rfl rfl (s_own (by repeat (first | exact .head _ | refine .tail _ ?_ | refine List.mem_append_right _ ?_)) (show (cW bv bs (oneU u))[0]? = some (.slice (some ⟨bv, 0, none⟩) u.V.length 8192) from cW_V (hu.one hd))) rfl rfl ?_
        refine d_light rfl rfl rfl rfl rfl ?_
        refine d_light rfl rfl rfl rfl rfl ?_
        refine d_light rfl (light_fa rfl rfl) rfl rfl rfl ?_
        refine d_load rfl rfl rfl (s_own (by repeat (first | exact .head _ | refine .tail _ ?_ | refine List.mem_append_right _ ?_)) (show (cW bv bs (oneU u))[14]? = some (.int .i64 (u.line)) from cW_line (hu.one hd))) rfl rfl ?_
        refine d_light rfl rfl rfl rfl rfl ?_
        refine d_light rfl rfl rfl rfl rfl ?_
        refine d_light rfl (light_fa rfl rfl) rfl rfl rfl ?_
        refine d_load rfl rfl rfl (s_own (by repeat (first | exact .head _ | refine .tail _ ?_ | refine List.mem_append_right _ ?_)) (show (cW bv bs (oneU u))[16]? = some (.int .i64 (u.own)) from cW_own (hu.one hd))) rfl rfl ?_
        refine d_light rfl rfl rfl rfl rfl ?_
        refine d_light rfl (light_fa rfl rfl) rfl rfl rfl ?_
        refine d_x rfl (x_val call_50 rfl (fun w hw => rtline_fn _ _ u.V hu.bV (viewU u) (viewU_ok hu) u.line u.own w (Ns.of (row_own (by repeat (first | exact .head _ | refine .tail _ ?_ | refine List.mem_append_right _ ?_)) w hw)))) rfl rfl (by intro _ _ _ hK x hx; obtain ⟨rfl, rfl⟩ := hK; repeat (first | exact hx | exact List.mem_append_left _ hx | refine List.mem_append_right _ ?_ | refine .tail _ ?_)) ?_
        rintro _ _ ⟨rfl, rfl⟩
        refine d_x rfl (x_val call_49 rfl (fun w hw => rline_fn (u.r 0) (u.r 7) (u.r 8) (u.r 9) (hu.look 0) (hu.look 7) (hu.look 8) (hu.look 9) _ _ _ _ u.V u.O hu.bV hu.bO (by rw [hu.lO]; decide) u.line (belowU u) (tLine_len _ _ _ _) (tLine_byts _ _ _ _) w (Ns.of (row_own (by repeat (first | exact .head _ | refine .tail _ ?_ | refine List.mem_append_right _ ?_)) w hw)) (Ns.of (row_own (by repeat (first | exact .head _ | refine .tail _ ?_ | refine List.mem_append_right _ ?_)) w hw)))) rfl rfl (by intro _ _ _ hK x hx; obtain ⟨rfl, rfl⟩ := hK; repeat (first | exact hx | exact List.mem_append_left _ hx | refine List.mem_append_right _ ?_ | refine .tail _ ?_)) ?_
        rintro _ _ ⟨rfl, rfl⟩
        rw [rowU_vals]
        refine d_light rfl (idx_array (s := 160) u.line.toNat rfl rfl rfl (by omega) (by omega)) rfl rfl rfl ?_
        refine d_x rfl (x_storeTo (l' := cW bv bs ({ oneU u with P := putI u.P (u.line.toNat * 160) (rowU u) } : PU)) 2 rfl rfl rfl rfl rfl rfl (by rw [cW_len (hu.one hd), List.length_map, rowU_len]; omega) (putW_P (hu.one hd) (by rw [rowU_len]; omega))) rfl rfl (by intro h; cases h) ?_
        rintro _ _ ⟨rfl, rfl⟩
        try simp only [List.set_cons_zero, List.set_cons_succ]
        refine d_nil ?_
        refine c_seq ?_
        refine c_draw _ [1, 2, 3, 4] (.step true 0 (.step true 1 (.step true 2 (.step true 3 (.step true 4 (.step false 5 .done)))))) rfl (by kernel_rfl) (by kernel_rfl) (fun _ h => h) ?_
        refine d_loadA rfl rfl rfl rfl (by first | exact srow_own (by repeat (first | exact .head _ | refine .tail _ ?_ | refine List.mem_append_right _ ?_)) | exact srow_own_at (by repeat (first | exact .head _ | refine .tail _ ?_ | refine List.mem_append_right _ ?_)) _ 5 rfl) rfl rfl ?_
        refine d_light rfl rfl rfl rfl rfl ?_
        refine d_light rfl rfl rfl rfl rfl ?_
        refine d_light rfl (light_fa rfl rfl) rfl rfl rfl ?_
        refine d_load rfl rfl rfl (s_own (by repeat (first | exact .head _ | refine .tail _ ?_ | refine List.mem_append_right _ ?_)) (show (cW bv bs ({ oneU u with P := putI u.P (u.line.toNat * 160) (rowU u) } : PU))[14]? = some (.int .i64 (u.line)) from cW_line hP)) rfl rfl ?_
        refine d_x rfl (x_val call_51 rfl (fun w hw => rseen_fn (viewU u) (viewU_ok hu) u.line w)) rfl rfl (by intro h; cases h) ?_
        rintro _ _ ⟨rfl, rfl⟩
        refine d_nil ?_
        refine c_cond rfl (fun h4 => ?_) (fun h4 => ?_)
        · have h4n := by first | exact of_decide_eq_true h4 | exact of_decide_eq_false h4 | exact eq_of_beq h4 | exact ne_of_beq_false h4 | exact bne_t h4 | exact bne_f h4 | exact h4
          refine c_region ?_
          refine l_l rfl rfl rfl ?_
          refine l_l rfl rfl rfl ?_
          refine l_l (light_fa rfl rfl) rfl rfl ?_
          refine l_x (x_load rfl rfl (at_own (by repeat (first | exact .head _ | refine .tail _ ?_ | refine List.mem_append_right _ ?_)) (show (cW bv bs ({ oneU u with P := putI u.P (u.line.toNat * 160) (rowU u) } : PU))[16]? = some (.int .i64 (u.own)) from cW_own hP))) rfl rfl ?_
          rintro _ _ ⟨rfl, rfl⟩
          refine l_as (v := (.int .i64 (u.own + 1))) rfl rfl rfl (congrArg _ (wrap_i64 (by (try dsimp only [oneU]); omega) (by (try dsimp only [oneU]); omega))) ?_
          refine l_l rfl rfl rfl ?_
          refine l_l (light_fa rfl rfl) rfl rfl ?_
          refine l_x (x_storeTo (l' := cW bv bs ({ oneU u with P := putI u.P (u.line.toNat * 160) (rowU u), own := u.own + 1 } : PU)) 2 rfl rfl rfl rfl rfl rfl (by rw [cW_len hP]; simp only [List.length_cons, List.length_nil]; omega) (putW_own hP _)) rfl rfl ?_
          rintro _ _ ⟨rfl, rfl⟩
          try simp only [List.set_cons_zero, List.set_cons_succ]
          refine l_nil ?_
          refine c_seq ?_
          refine c_seq ?_
          refine c_region ?_
          refine l_l rfl rfl rfl ?_
          refine l_l rfl rfl rfl ?_
          refine l_l (light_fa rfl rfl) rfl rfl ?_
          refine l_x (x_load rfl rfl (at_own (by repeat (first | exact .head _ | refine .tail _ ?_ | refine List.mem_append_right _ ?_)) (show (cW bv bs ({ oneU u with P := putI u.P (u.line.toNat * 160) (rowU u), own := u.own + 1 } : PU))[15]? = some (.int .i64 (u.dot + 1)) from cW_dot (hP.own_ (x := u.own + 1) (by have := hok.own599; omega))))) rfl rfl ?_
          rintro _ _ ⟨rfl, rfl⟩
          refine l_sure false rfl rfl rfl (decide_eq_false (by show ¬ u.dot + 1 = 114; omega)) ?_
          refine l_nil ?_
          refine c_false rfl ?_
          refine c_skip ?_
          refine c_seq ?_
          refine c_region ?_
          refine l_l rfl rfl rfl ?_
          refine l_l rfl rfl rfl ?_
          have hs9 : stepU u = ({ oneU u with P := putI u.P (u.line.toNat * 160) (rowU u), own := u.own + 1 } : PU) := (step_paint (by omega) (by omega)).trans (paint_yes (u := oneU u) h4)
          refine l_heap (H' := RH b bv bs (stepU u)) (fun _ h => (h.sub (.cons _ (.cons _ (List.Sublist.refl _)))).as (by rw [hs9] <;> rfl)) ?_
          refine l_x (x_callA call_52 rfl (fun w hw => stat_fn b bv bs (stepU u) hws w (St.lentA hw))) rfl rfl ?_
          rintro _ _ ⟨rfl, rfl⟩
          refine l_as (v := (.int .u8 (0 + askV (stepU u)))) rfl rfl rfl (congrArg _ (wrap_u8_id (by have := askV_two (stepU u); omega) (by have := askV_two (stepU u); omega))) ?_
          refine l_l rfl rfl rfl ?_
          refine l_nil ?_
          refine c_ret ?_
          have hlit : litU u = true := by simpa using h1
          have hnv : stepV u = 0 := by unfold stepV; rw [if_neg (by omega)]
          exact l_end (fun _ _ => rets_v rfl) (List.Sublist.refl _) ⟨congrArg _ (by unfold tickV; rw [if_pos hlit, hnv]), by unfold tickU; rw [if_pos hlit]⟩
        · have h4n := by first | exact of_decide_eq_true h4 | exact of_decide_eq_false h4 | exact eq_of_beq h4 | exact ne_of_beq_false h4 | exact bne_t h4 | exact bne_f h4 | exact h4
          refine c_skip ?_
          refine c_seq ?_
          refine c_seq ?_
          refine c_region ?_
          refine l_l rfl rfl rfl ?_
          refine l_l rfl rfl rfl ?_
          refine l_l (light_fa rfl rfl) rfl rfl ?_
          refine l_x (x_load rfl rfl (at_own (by repeat (first | exact .head _ | refine .tail _ ?_ | refine List.mem_append_right _ ?_)) (show (cW bv bs ({ oneU u with P := putI u.P (u.line.toNat * 160) (rowU u) } : PU))[15]? = some (.int .i64 (u.dot + 1)) from cW_dot hP))) rfl rfl ?_
          rintro _ _ ⟨rfl, rfl⟩
          refine l_sure false rfl rfl rfl (decide_eq_false (by show ¬ u.dot + 1 = 114; omega)) ?_
          refine l_nil ?_
          refine c_false rfl ?_
          refine c_skip ?_
          refine c_seq ?_
          refine c_region ?_
          refine l_l rfl rfl rfl ?_
          refine l_l rfl rfl rfl ?_
          have hs9 : stepU u = ({ oneU u with P := putI u.P (u.line.toNat * 160) (rowU u) } : PU) := (step_paint (by omega) (by omega)).trans (paint_no (u := oneU u) h4)
          refine l_heap (H' := RH b bv bs (stepU u)) (fun _ h => (h.sub (.cons _ (.cons _ (List.Sublist.refl _)))).as (by rw [hs9] <;> rfl)) ?_
          refine l_x (x_callA call_52 rfl (fun w hw => stat_fn b bv bs (stepU u) hws w (St.lentA hw))) rfl rfl ?_
          rintro _ _ ⟨rfl, rfl⟩
          refine l_as (v := (.int .u8 (0 + askV (stepU u)))) rfl rfl rfl (congrArg _ (wrap_u8_id (by have := askV_two (stepU u); omega) (by have := askV_two (stepU u); omega))) ?_
          refine l_l rfl rfl rfl ?_
          refine l_nil ?_
          refine c_ret ?_
          have hlit : litU u = true := by simpa using h1
          have hnv : stepV u = 0 := by unfold stepV; rw [if_neg (by omega)]
          exact l_end (fun _ _ => rets_v rfl) (List.Sublist.refl _) ⟨congrArg _ (by unfold tickV; rw [if_pos hlit, hnv]), by unfold tickU; rw [if_pos hlit]⟩
      · have h3n := by first | exact of_decide_eq_true h3 | exact of_decide_eq_false h3 | exact eq_of_beq h3 | exact ne_of_beq_false h3 | exact bne_t h3 | exact bne_f h3 | exact h3
        refine c_skip ?_
        refine c_seq ?_
        refine c_seq ?_
        refine c_region ?_
        refine l_l rfl rfl rfl ?_
        refine l_l rfl rfl rfl ?_
        refine l_l (light_fa rfl rfl) rfl rfl ?_
        refine l_x (x_load rfl rfl (at_own (by repeat (first | exact .head _ | refine .tail _ ?_ | refine List.mem_append_right _ ?_)) (show (cW bv bs (oneU u))[15]? = some (.int .i64 (u.dot + 1)) from cW_dot (hu.one hd)))) rfl rfl ?_
        rintro _ _ ⟨rfl, rfl⟩
        refine l_l rfl rfl rfl ?_
        refine l_nil ?_
        refine c_cond rfl (fun h5 => ?_) (fun h5 => ?_)
        · have h5n := by first | exact of_decide_eq_true h5 | exact of_decide_eq_false h5 | exact eq_of_beq h5 | exact ne_of_beq_false h5 | exact bne_t h5 | exact bne_f h5 | exact h5
          refine c_seq ?_
          refine c_region ?_
          refine l_l rfl rfl rfl ?_
          refine l_l rfl rfl rfl ?_
          refine l_l (light_fa rfl rfl) rfl rfl ?_
          refine l_x (x_storeTo (l' := cW bv bs ({ u with dot := 0 } : PU)) 0 rfl rfl rfl rfl rfl rfl (by rw [cW_len (hu.one hd)]; simp only [List.length_cons, List.length_nil]; omega) (putW_dot (hu.one hd) _)) rfl rfl ?_
          rintro _ _ ⟨rfl, rfl⟩
          try simp only [List.set_cons_zero, List.set_cons_succ]
          refine l_nil ?_
          refine c_seq ?_
          refine c_region ?_
          refine l_l rfl rfl rfl ?_
          refine l_l rfl rfl rfl ?_
          refine l_l (light_fa rfl rfl) rfl rfl ?_
          refine l_x (x_load rfl rfl (at_own (by repeat (first | exact .head _ | refine .tail _ ?_ | refine List.mem_append_right _ ?_)) (show (cW bv bs ({ u with dot := 0 } : PU))[14]? = some (.int .i64 u.line) from cW_line (hu.dot_ (x := 0) (by decide))))) rfl rfl ?_
          rintro _ _ ⟨rfl, rfl⟩
          refine l_as (v := (.int .i64 (u.line + 1))) rfl rfl rfl (congrArg _ (wrap_i64 (by (try dsimp only); omega) (by (try dsimp only); omega))) ?_
          refine l_l rfl rfl rfl ?_
          refine l_l (light_fa rfl rfl) rfl rfl ?_
          refine l_x (x_storeTo (l' := cW bv bs ({ u with dot := 0, line := u.line + 1 } : PU)) 0 rfl rfl rfl rfl rfl rfl (by rw [cW_len (hu.dot_ (x := 0) (by decide))]; simp only [List.length_cons, List.length_nil]; omega) (putW_line (hu.dot_ (x := 0) (by decide)) _)) rfl rfl ?_
          rintro _ _ ⟨rfl, rfl⟩
          try simp only [List.set_cons_zero, List.set_cons_succ]
          refine l_nil ?_
          refine c_seq ?_
          refine c_seq ?_
          refine c_region ?_
          refine l_l rfl rfl rfl ?_
          refine l_l rfl rfl rfl ?_
          refine l_l (light_fa rfl rfl) rfl rfl ?_
          refine l_x (x_load rfl rfl (at_own (by repeat (first | exact .head _ | refine .tail _ ?_ | refine List.mem_append_right _ ?_)) (show (cW bv bs ({ u with dot := 0, line := u.line + 1 } : PU))[14]? = some (.int .i64 (u.line + 1)) from cW_line ((hu.dot_ (x := 0) (by decide)).line_ (x := u.line + 1) (by omega))))) rfl rfl ?_
          rintro _ _ ⟨rfl, rfl⟩
          refine l_l rfl rfl rfl ?_
          refine l_nil ?_
          refine c_cond rfl (fun h6 => ?_) (fun h6 => ?_)
          · have h6n := by first | exact of_decide_eq_true h6 | exact of_decide_eq_false h6 | exact eq_of_beq h6 | exact ne_of_beq_false h6 | exact bne_t h6 | exact bne_f h6 | exact h6
            refine c_seq ?_
            refine c_region ?_
            refine l_l rfl rfl rfl ?_
            refine l_nil ?_
            refine c_region ?_
            refine l_l rfl rfl rfl ?_
            refine l_l rfl rfl rfl ?_
            refine l_l rfl rfl rfl ?_
            refine l_l (light_fa rfl rfl) rfl rfl ?_
            refine l_x (x_load rfl rfl (at_own (by repeat (first | exact .head _ | refine .tail _ ?_ | refine List.mem_append_right _ ?_)) (show (cW bv bs ({ u with dot := 0, line := u.line + 1 } : PU))[17]? = some (.int .i64 u.frames) from cW_frames ((hu.dot_ (x := 0) (by decide)).line_ (x := u.line + 1) (by omega))))) rfl rfl ?_
            rintro _ _ ⟨rfl, rfl⟩
            refine l_as (v := (.int .i64 (u.frames + 1))) rfl rfl rfl (congrArg _ (wrap_i64 (by (try dsimp only); omega) (by (try dsimp only); omega))) ?_
            refine l_as (v := (.int .i64 ((u.frames + 1) % 65536))) rfl rfl rfl (congrArg _ (Int.tmod_eq_emod_of_nonneg (by omega))) ?_
            refine l_l rfl rfl rfl ?_
            refine l_l (light_fa rfl rfl) rfl rfl ?_
            refine l_x (x_storeTo (l' := cW bv bs ({ u with dot := 0, line := u.line + 1, frames := (u.frames + 1) % 65536 } : PU)) 0 rfl rfl rfl rfl rfl rfl (by rw [cW_len ((hu.dot_ (x := 0) (by decide)).line_ (x := u.line + 1) (by omega))]; simp only [List.length_cons, List.length_nil]; omega) (putW_frames ((hu.dot_ (x := 0) (by decide)).line_ (x := u.line + 1) (by omega)) _)) rfl rfl ?_
            rintro _ _ ⟨rfl, rfl⟩
            try simp only [List.set_cons_zero, List.set_cons_succ]
            refine l_nil ?_
            refine c_seq ?_
            refine c_region ?_
            refine l_l rfl rfl rfl ?_
            refine l_l rfl rfl rfl ?_
            refine l_l (light_fa rfl rfl) rfl rfl ?_
            refine l_x (x_load rfl rfl (at_own (by repeat (first | exact .head _ | refine .tail _ ?_ | refine List.mem_append_right _ ?_)) (show (cW bv bs ({ u with dot := 0, line := u.line + 1, frames := (u.frames + 1) % 65536 } : PU))[14]? = some (.int .i64 (u.line + 1)) from cW_line (((hu.dot_ (x := 0) (by decide)).line_ (x := u.line + 1) (by omega)).frames_ (x := (u.frames + 1) % 65536) (by omega))))) rfl rfl ?_
            rintro _ _ ⟨rfl, rfl⟩
            refine l_sure false rfl rfl rfl (decide_eq_false (by omega)) ?_
            refine l_nil ?_
            refine c_false rfl ?_
            refine c_skip ?_
            refine c_seq ?_
            refine c_region ?_
            refine l_l rfl rfl rfl ?_
            refine l_l rfl rfl rfl ?_
            have hs9 : stepU u = ({ u with dot := 0, line := u.line + 1, frames := (u.frames + 1) % 65536 } : PU) := by rw [step_next (by omega), next_1 (u := oneU u) (show u.line = 143 by omega), show u.line + 1 = 144 by omega]; rfl
            refine l_heap (H' := RH b bv bs (stepU u)) (fun _ h => h.as (by rw [hs9] <;> rfl)) ?_
            refine l_x (x_callA call_52 rfl (fun w hw => stat_fn b bv bs (stepU u) hws w (St.lentA hw))) rfl rfl ?_
            rintro _ _ ⟨rfl, rfl⟩
            refine l_as (v := (.int .u8 (1 + askV (stepU u)))) rfl rfl rfl (congrArg _ (wrap_u8_id (by have := askV_two (stepU u); omega) (by have := askV_two (stepU u); omega))) ?_
            refine l_l rfl rfl rfl ?_
            refine l_nil ?_
            refine c_ret ?_
            have hlit : litU u = true := by simpa using h1
            have hnv : stepV u = 1 := by unfold stepV; rw [if_pos (by omega)]
            exact l_end (fun _ _ => rets_v rfl) (List.Sublist.refl _) ⟨congrArg _ (by unfold tickV; rw [if_pos hlit, hnv]), by unfold tickU; rw [if_pos hlit]⟩
          · have h6n := by first | exact of_decide_eq_true h6 | exact of_decide_eq_false h6 | exact eq_of_beq h6 | exact ne_of_beq_false h6 | exact bne_t h6 | exact bne_f h6 | exact h6
            refine c_skip ?_
            refine c_seq ?_
            refine c_region ?_
            refine l_l rfl rfl rfl ?_
            refine l_l rfl rfl rfl ?_
            refine l_l (light_fa rfl rfl) rfl rfl ?_
            refine l_x (x_load rfl rfl (at_own (by repeat (first | exact .head _ | refine .tail _ ?_ | refine List.mem_append_right _ ?_)) (show (cW bv bs ({ u with dot := 0, line := u.line + 1 } : PU))[14]? = some (.int .i64 (u.line + 1)) from cW_line ((hu.dot_ (x := 0) (by decide)).line_ (x := u.line + 1) (by omega))))) rfl rfl ?_
            rintro _ _ ⟨rfl, rfl⟩
            refine l_l rfl rfl rfl ?_
            refine l_nil ?_
            refine c_cond rfl (fun h7 => ?_) (fun h7 => ?_)
            · have h7n := by first | exact of_decide_eq_true h7 | exact of_decide_eq_false h7 | exact eq_of_beq h7 | exact ne_of_beq_false h7 | exact bne_t h7 | exact bne_f h7 | exact h7
              refine c_region ?_
              refine l_l rfl rfl rfl ?_
              refine l_l rfl rfl rfl ?_
              refine l_l rfl rfl rfl ?_
              refine l_l (light_fa rfl rfl) rfl rfl ?_
              refine l_x (x_storeTo (l' := cW bv bs ({ u with dot := 0, line := 0 } : PU)) 0 rfl rfl rfl rfl rfl rfl (by rw [cW_len ((hu.dot_ (x := 0) (by decide)).line_ (x := u.line + 1) (by omega))]; simp only [List.length_cons, List.length_nil]; omega) (putW_line ((hu.dot_ (x := 0) (by decide)).line_ (x := u.line + 1) (by omega)) _)) rfl rfl ?_
              rintro _ _ ⟨rfl, rfl⟩
              try simp only [List.set_cons_zero, List.set_cons_succ]
              refine l_l rfl rfl rfl ?_
              refine l_l (light_fa rfl rfl) rfl rfl ?_
              refine l_x (x_storeTo (l' := cW bv bs ({ u with dot := 0, line := 0, own := 0 } : PU)) 0 rfl rfl rfl rfl rfl rfl (by rw [cW_len (((hu.dot_ (x := 0) (by decide)).line_ (x := u.line + 1) (by omega)).line_ (x := 0) (by decide))]; simp only [List.length_cons, List.length_nil]; omega) (putW_own (((hu.dot_ (x := 0) (by decide)).line_ (x := u.line + 1) (by omega)).line_ (x := 0) (by decide)) _)) rfl rfl ?_
              rintro _ _ ⟨rfl, rfl⟩
              try simp only [List.set_cons_zero, List.set_cons_succ]
              refine l_nil ?_
              refine c_seq ?_
              refine c_region ?_
              refine l_l rfl rfl rfl ?_
              refine l_l rfl rfl rfl ?_
              have hs9 : stepU u = ({ u with dot := 0, line := 0, own := 0 } : PU) := by rw [step_next (by omega), next_2 (u := oneU u) (show u.line = 153 by omega)]; rfl
              refine l_heap (H' := RH b bv bs (stepU u)) (fun _ h => h.as (by rw [hs9] <;> rfl)) ?_
              refine l_x (x_callA call_52 rfl (fun w hw => stat_fn b bv bs (stepU u) hws w (St.lentA hw))) rfl rfl ?_
              rintro _ _ ⟨rfl, rfl⟩
              refine l_as (v := (.int .u8 (0 + askV (stepU u)))) rfl rfl rfl (congrArg _ (wrap_u8_id (by have := askV_two (stepU u); omega) (by have := askV_two (stepU u); omega))) ?_
              refine l_l rfl rfl rfl ?_
              refine l_nil ?_
              refine c_ret ?_
              have hlit : litU u = true := by simpa using h1
              have hnv : stepV u = 0 := by unfold stepV; rw [if_neg (by omega)]
              exact l_end (fun _ _ => rets_v rfl) (List.Sublist.refl _) ⟨congrArg _ (by unfold tickV; rw [if_pos hlit, hnv]), by unfold tickU; rw [if_pos hlit]⟩
            · have h7n := by first | exact of_decide_eq_true h7 | exact of_decide_eq_false h7 | exact eq_of_beq h7 | exact ne_of_beq_false h7 | exact bne_t h7 | exact bne_f h7 | exact h7
              refine c_skip ?_
              refine c_seq ?_
              refine c_region ?_
              refine l_l rfl rfl rfl ?_
              refine l_l rfl rfl rfl ?_
              have hs9 : stepU u = ({ u with dot := 0, line := u.line + 1 } : PU) := by rw [step_next (by omega), next_3 (u := oneU u) (show ¬ u.line = 143 by omega) (show ¬ u.line = 153 by omega)]; rfl
              refine l_heap (H' := RH b bv bs (stepU u)) (fun _ h => h.as (by rw [hs9] <;> rfl)) ?_
              refine l_x (x_callA call_52 rfl (fun w hw => stat_fn b bv bs (stepU u) hws w (St.lentA hw))) rfl rfl ?_
              rintro _ _ ⟨rfl, rfl⟩
              refine l_as (v := (.int .u8 (0 + askV (stepU u)))) rfl rfl rfl (congrArg _ (wrap_u8_id (by have := askV_two (stepU u); omega) (by have := askV_two (stepU u); omega))) ?_
              refine l_l rfl rfl rfl ?_
              refine l_nil ?_
              refine c_ret ?_
              have hlit : litU u = true := by simpa using h1
              have hnv : stepV u = 0 := by unfold stepV; rw [if_neg (by omega)]
              exact l_end (fun _ _ => rets_v rfl) (List.Sublist.refl _) ⟨congrArg _ (by unfold tickV; rw [if_pos hlit, hnv]), by unfold tickU; rw [if_pos hlit]⟩
        · have h5n := by first | exact of_decide_eq_true h5 | exact of_decide_eq_false h5 | exact eq_of_beq h5 | exact ne_of_beq_false h5 | exact bne_t h5 | exact bne_f h5 | exact h5
          refine c_skip ?_
          refine c_seq ?_
          refine c_region ?_
          refine l_l rfl rfl rfl ?_
          refine l_l rfl rfl rfl ?_
          have hs9 : stepU u = oneU u := step_one (by omega) (by omega)
          refine l_heap (H' := RH b bv bs (stepU u)) (fun _ h => h.as (by rw [hs9] <;> rfl)) ?_
          refine l_x (x_callA call_52 rfl (fun w hw => stat_fn b bv bs (stepU u) hws w (St.lentA hw))) rfl rfl ?_
          rintro _ _ ⟨rfl, rfl⟩
          refine l_as (v := (.int .u8 (0 + askV (stepU u)))) rfl rfl rfl (congrArg _ (wrap_u8_id (by have := askV_two (stepU u); omega) (by have := askV_two (stepU u); omega))) ?_
          refine l_l rfl rfl rfl ?_
          refine l_nil ?_
          refine c_ret ?_
          have hlit : litU u = true := by simpa using h1
          have hnv : stepV u = 0 := by unfold stepV; rw [if_neg (by omega)]
          exact l_end (fun _ _ => rets_v rfl) (List.Sublist.refl _) ⟨congrArg _ (by unfold tickV; rw [if_pos hlit, hnv]), by unfold tickU; rw [if_pos hlit]⟩
    · have h2n := by first | exact of_decide_eq_true h2 | exact of_decide_eq_false h2 | exact eq_of_beq h2 | exact ne_of_beq_false h2 | exact bne_t h2 | exact bne_f h2 | exact h2
      refine l_p rfl rfl ?_
      refine l_p rfl rfl ?_
      refine l_p rfl rfl ?_
      refine l_p rfl rfl ?_
      refine l_p rfl rfl ?_
      refine l_l rfl rfl rfl ?_
      refine l_nil ?_
      refine c_false rfl ?_
      refine c_skip ?_
      refine c_seq ?_
      refine c_seq ?_
      refine c_region ?_
      refine l_l rfl rfl rfl ?_
      refine l_l rfl rfl rfl ?_
      refine l_l (light_fa rfl rfl) rfl rfl ?_
      refine l_x (x_load rfl rfl (at_own (by repeat (first | exact .head _ | refine .tail _ ?_ | refine List.mem_append_right _ ?_)) (show (cW bv bs (oneU u))[15]? = some (.int .i64 (u.dot + 1)) from cW_dot (hu.one hd)))) rfl rfl ?_
      rintro _ _ ⟨rfl, rfl⟩
      refine l_l rfl rfl rfl ?_
      refine l_nil ?_
      refine c_cond rfl (fun h8 => ?_) (fun h8 => ?_)
      · have h8n := by first | exact of_decide_eq_true h8 | exact of_decide_eq_false h8 | exact eq_of_beq h8 | exact ne_of_beq_false h8 | exact bne_t h8 | exact bne_f h8 | exact h8
        refine c_seq ?_
        refine c_region ?_
        refine l_l rfl rfl rfl ?_
        refine l_l rfl rfl rfl ?_
        refine l_l (light_fa rfl rfl) rfl rfl ?_
        refine l_x (x_storeTo (l' := cW bv bs ({ u with dot := 0 } : PU)) 0 rfl rfl rfl rfl rfl rfl (by rw [cW_len (hu.one hd)]; simp only [List.length_cons, List.length_nil]; omega) (putW_dot (hu.one hd) _)) rfl rfl ?_
        rintro _ _ ⟨rfl, rfl⟩
        try simp only [List.set_cons_zero, List.set_cons_succ]
        refine l_nil ?_
        refine c_seq ?_
        refine c_region ?_
        refine l_l rfl rfl rfl ?_
        refine l_l rfl rfl rfl ?_
        refine l_l (light_fa rfl rfl) rfl rfl ?_
        refine l_x (x_load rfl rfl (at_own (by repeat (first | exact .head _ | refine .tail _ ?_ | refine List.mem_append_right _ ?_)) (show (cW bv bs ({ u with dot := 0 } : PU))[14]? = some (.int .i64 u.line) from cW_line (hu.dot_ (x := 0) (by decide))))) rfl rfl ?_
        rintro _ _ ⟨rfl, rfl⟩
        refine l_as (v := (.int .i64 (u.line + 1))) rfl rfl rfl (congrArg _ (wrap_i64 (by (try dsimp only); omega) (by (try dsimp only); omega))) ?_
        refine l_l rfl rfl rfl ?_
        refine l_l (light_fa rfl rfl) rfl rfl ?_
        refine l_x (x_storeTo (l' := cW bv bs ({ u with dot := 0, line := u.line + 1 } : PU)) 0 rfl rfl rfl rfl rfl rfl (by rw [cW_len (hu.dot_ (x := 0) (by decide))]; simp only [List.length_cons, List.length_nil]; omega) (putW_line (hu.dot_ (x := 0) (by decide)) _)) rfl rfl ?_
        rintro _ _ ⟨rfl, rfl⟩
        try simp only [List.set_cons_zero, List.set_cons_succ]
        refine l_nil ?_
        refine c_seq ?_
        refine c_seq ?_
        refine c_region ?_
        refine l_l rfl rfl rfl ?_
        refine l_l rfl rfl rfl ?_
        refine l_l (light_fa rfl rfl) rfl rfl ?_
        refine l_x (x_load rfl rfl (at_own (by repeat (first | exact .head _ | refine .tail _ ?_ | refine List.mem_append_right _ ?_)) (show (cW bv bs ({ u with dot := 0, line := u.line + 1 } : PU))[14]? = some (.int .i64 (u.line + 1)) from cW_line ((hu.dot_ (x := 0) (by decide)).line_ (x := u.line + 1) (by omega))))) rfl rfl ?_
        rintro _ _ ⟨rfl, rfl⟩
        refine l_l rfl rfl rfl ?_
        refine l_nil ?_
        refine c_cond rfl (fun h9 => ?_) (fun h9 => ?_)
        · have h9n := by first | exact of_decide_eq_true h9 | exact of_decide_eq_false h9 | exact eq_of_beq h9 | exact ne_of_beq_false h9 | exact bne_t h9 | exact bne_f h9 | exact h9
          refine c_seq ?_
          refine c_region ?_
          refine l_l rfl rfl rfl ?_
          refine l_nil ?_
          refine c_region ?_
          refine l_l rfl rfl rfl ?_
          refine l_l rfl rfl rfl ?_
          refine l_l rfl rfl rfl ?_
          refine l_l (light_fa rfl rfl) rfl rfl ?_
          refine l_x (x_load rfl rfl (at_own (by repeat (first | exact .head _ | refine .tail _ ?_ | refine List.mem_append_right _ ?_)) (show (cW bv bs ({ u with dot := 0, line := u.line + 1 } : PU))[17]? = some (.int .i64 u.frames) from cW_frames ((hu.dot_ (x := 0) (by decide)).line_ (x := u.line + 1) (by omega))))) rfl rfl ?_
          rintro _ _ ⟨rfl, rfl⟩
          refine l_as (v := (.int .i64 (u.frames + 1))) rfl rfl rfl (congrArg _ (wrap_i64 (by (try dsimp only); omega) (by (try dsimp only); omega))) ?_
          refine l_as (v := (.int .i64 ((u.frames + 1) % 65536))) rfl rfl rfl (congrArg _ (Int.tmod_eq_emod_of_nonneg (by omega))) ?_
          refine l_l rfl rfl rfl ?_
          refine l_l (light_fa rfl rfl) rfl rfl ?_
          refine l_x (x_storeTo (l' := cW bv bs ({ u with dot := 0, line := u.line + 1, frames := (u.frames + 1) % 65536 } : PU)) 0 rfl rfl rfl rfl rfl rfl (by rw [cW_len ((hu.dot_ (x := 0) (by decide)).line_ (x := u.line + 1) (by omega))]; simp only [List.length_cons, List.length_nil]; omega) (putW_frames ((hu.dot_ (x := 0) (by decide)).line_ (x := u.line + 1) (by omega)) _)) rfl rfl ?_
          rintro _ _ ⟨rfl, rfl⟩
          try simp only [List.set_cons_zero, List.set_cons_succ]
          refine l_nil ?_
          refine c_seq ?_
          refine c_region ?_
          refine l_l rfl rfl rfl ?_
          refine l_l rfl rfl rfl ?_
          refine l_l (light_fa rfl rfl) rfl rfl ?_
          refine l_x (x_load rfl rfl (at_own (by repeat (first | exact .head _ | refine .tail _ ?_ | refine List.mem_append_right _ ?_)) (show (cW bv bs ({ u with dot := 0, line := u.line + 1, frames := (u.frames + 1) % 65536 } : PU))[14]? = some (.int .i64 (u.line + 1)) from cW_line (((hu.dot_ (x := 0) (by decide)).line_ (x := u.line + 1) (by omega)).frames_ (x := (u.frames + 1) % 65536) (by omega))))) rfl rfl ?_
          rintro _ _ ⟨rfl, rfl⟩
          refine l_sure false rfl rfl rfl (decide_eq_false (by omega)) ?_
          refine l_nil ?_
          refine c_false rfl ?_
          refine c_skip ?_
          refine c_seq ?_
          refine c_region ?_
          refine l_l rfl rfl rfl ?_
          refine l_l rfl rfl rfl ?_
          have hs9 : stepU u = ({ u with dot := 0, line := u.line + 1, frames := (u.frames + 1) % 65536 } : PU) := by rw [step_next (by omega), next_1 (u := oneU u) (show u.line = 143 by omega), show u.line + 1 = 144 by omega]; rfl
          refine l_heap (H' := RH b bv bs (stepU u)) (fun _ h => h.as (by rw [hs9] <;> rfl)) ?_
          refine l_x (x_callA call_52 rfl (fun w hw => stat_fn b bv bs (stepU u) hws w (St.lentA hw))) rfl rfl ?_
          rintro _ _ ⟨rfl, rfl⟩
          refine l_as (v := (.int .u8 (1 + askV (stepU u)))) rfl rfl rfl (congrArg _ (wrap_u8_id (by have := askV_two (stepU u); omega) (by have := askV_two (stepU u); omega))) ?_
          refine l_l rfl rfl rfl ?_
          refine l_nil ?_
          refine c_ret ?_
          have hlit : litU u = true := by simpa using h1
          have hnv : stepV u = 1 := by unfold stepV; rw [if_pos (by omega)]
          exact l_end (fun _ _ => rets_v rfl) (List.Sublist.refl _) ⟨congrArg _ (by unfold tickV; rw [if_pos hlit, hnv]), by unfold tickU; rw [if_pos hlit]⟩
        · have h9n := by first | exact of_decide_eq_true h9 | exact of_decide_eq_false h9 | exact eq_of_beq h9 | exact ne_of_beq_false h9 | exact bne_t h9 | exact bne_f h9 | exact h9
          refine c_skip ?_
          refine c_seq ?_
          refine c_region ?_
          refine l_l rfl rfl rfl ?_
          refine l_l rfl rfl rfl ?_
          refine l_l (light_fa rfl rfl) rfl rfl ?_
          refine l_x (x_load rfl rfl (at_own (by repeat (first | exact .head _ | refine .tail _ ?_ | refine List.mem_append_right _ ?_)) (show (cW bv bs ({ u with dot := 0, line := u.line + 1 } : PU))[14]? = some (.int .i64 (u.line + 1)) from cW_line ((hu.dot_ (x := 0) (by decide)).line_ (x := u.line + 1) (by omega))))) rfl rfl ?_
          rintro _ _ ⟨rfl, rfl⟩
          refine l_l rfl rfl rfl ?_
          refine l_nil ?_
          refine c_cond rfl (fun h10 => ?_) (fun h10 => ?_)
          · have h10n := by first | exact of_decide_eq_true h10 | exact of_decide_eq_false h10 | exact eq_of_beq h10 | exact ne_of_beq_false h10 | exact bne_t h10 | exact bne_f h10 | exact h10
            refine c_region ?_
            refine l_l rfl rfl rfl ?_
            refine l_l rfl rfl rfl ?_
            refine l_l rfl rfl rfl ?_
            refine l_l (light_fa rfl rfl) rfl rfl ?_
            refine l_x (x_storeTo (l' := cW bv bs ({ u with dot := 0, line := 0 } : PU)) 0 rfl rfl rfl rfl rfl rfl (by rw [cW_len ((hu.dot_ (x := 0) (by decide)).line_ (x := u.line + 1) (by omega))]; simp only [List.length_cons, List.length_nil]; omega) (putW_line ((hu.dot_ (x := 0) (by decide)).line_ (x := u.line + 1) (by omega)) _)) rfl rfl ?_
            rintro _ _ ⟨rfl, rfl⟩
            try simp only [List.set_cons_zero, List.set_cons_succ]
            refine l_l rfl rfl rfl ?_
            refine l_l (light_fa rfl rfl) rfl rfl ?_
            refine l_x (x_storeTo (l' := cW bv bs ({ u with dot := 0, line := 0, own := 0 } : PU)) 0 rfl rfl rfl rfl rfl rfl (by rw [cW_len (((hu.dot_ (x := 0) (by decide)).line_ (x := u.line + 1) (by omega)).line_ (x := 0) (by decide))]; simp only [List.length_cons, List.length_nil]; omega) (putW_own (((hu.dot_ (x := 0) (by decide)).line_ (x := u.line + 1) (by omega)).line_ (x := 0) (by decide)) _)) rfl rfl ?_
            rintro _ _ ⟨rfl, rfl⟩
            try simp only [List.set_cons_zero, List.set_cons_succ]
            refine l_nil ?_
            refine c_seq ?_
            refine c_region ?_
            refine l_l rfl rfl rfl ?_
            refine l_l rfl rfl rfl ?_
            have hs9 : stepU u = ({ u with dot := 0, line := 0, own := 0 } : PU) := by rw [step_next (by omega), next_2 (u := oneU u) (show u.line = 153 by omega)]; rfl
            refine l_heap (H' := RH b bv bs (stepU u)) (fun _ h => h.as (by rw [hs9] <;> rfl)) ?_
            refine l_x (x_callA call_52 rfl (fun w hw => stat_fn b bv bs (stepU u) hws w (St.lentA hw))) rfl rfl ?_
            rintro _ _ ⟨rfl, rfl⟩
            refine l_as (v := (.int .u8 (0 + askV (stepU u)))) rfl rfl rfl (congrArg _ (wrap_u8_id (by have := askV_two (stepU u); omega) (by have := askV_two (stepU u); omega))) ?_
            refine l_l rfl rfl rfl ?_
            refine l_nil ?_
            refine c_ret ?_
            have hlit : litU u = true := by simpa using h1
            have hnv : stepV u = 0 := by unfold stepV; rw [if_neg (by omega)]
            exact l_end (fun _ _ => rets_v rfl) (List.Sublist.refl _) ⟨congrArg _ (by unfold tickV; rw [if_pos hlit, hnv]), by unfold tickU; rw [if_pos hlit]⟩
          · have h10n := by first | exact of_decide_eq_true h10 | exact of_decide_eq_false h10 | exact eq_of_beq h10 | exact ne_of_beq_false h10 | exact bne_t h10 | exact bne_f h10 | exact h10
            refine c_skip ?_
            refine c_seq ?_
            refine c_region ?_
            refine l_l rfl rfl rfl ?_
            refine l_l rfl rfl rfl ?_
            have hs9 : stepU u = ({ u with dot := 0, line := u.line + 1 } : PU) := by rw [step_next (by omega), next_3 (u := oneU u) (show ¬ u.line = 143 by omega) (show ¬ u.line = 153 by omega)]; rfl
            refine l_heap (H' := RH b bv bs (stepU u)) (fun _ h => h.as (by rw [hs9] <;> rfl)) ?_
            refine l_x (x_callA call_52 rfl (fun w hw => stat_fn b bv bs (stepU u) hws w (St.lentA hw))) rfl rfl ?_
            rintro _ _ ⟨rfl, rfl⟩
            refine l_as (v := (.int .u8 (0 + askV (stepU u)))) rfl rfl rfl (congrArg _ (wrap_u8_id (by have := askV_two (stepU u); omega) (by have := askV_two (stepU u); omega))) ?_
            refine l_l rfl rfl rfl ?_
            refine l_nil ?_
            refine c_ret ?_
            have hlit : litU u = true := by simpa using h1
            have hnv : stepV u = 0 := by unfold stepV; rw [if_neg (by omega)]
            exact l_end (fun _ _ => rets_v rfl) (List.Sublist.refl _) ⟨congrArg _ (by unfold tickV; rw [if_pos hlit, hnv]), by unfold tickU; rw [if_pos hlit]⟩
      · have h8n := by first | exact of_decide_eq_true h8 | exact of_decide_eq_false h8 | exact eq_of_beq h8 | exact ne_of_beq_false h8 | exact bne_t h8 | exact bne_f h8 | exact h8
        refine c_skip ?_
        refine c_seq ?_
        refine c_region ?_
        refine l_l rfl rfl rfl ?_
        refine l_l rfl rfl rfl ?_
        have hs9 : stepU u = oneU u := step_one (by omega) (by omega)
        refine l_heap (H' := RH b bv bs (stepU u)) (fun _ h => h.as (by rw [hs9] <;> rfl)) ?_
        refine l_x (x_callA call_52 rfl (fun w hw => stat_fn b bv bs (stepU u) hws w (St.lentA hw))) rfl rfl ?_
        rintro _ _ ⟨rfl, rfl⟩
        refine l_as (v := (.int .u8 (0 + askV (stepU u)))) rfl rfl rfl (congrArg _ (wrap_u8_id (by have := askV_two (stepU u); omega) (by have := askV_two (stepU u); omega))) ?_
        refine l_l rfl rfl rfl ?_
        refine l_nil ?_
        refine c_ret ?_
        have hlit : litU u = true := by simpa using h1
        have hnv : stepV u = 0 := by unfold stepV; rw [if_neg (by omega)]
        exact l_end (fun _ _ => rets_v rfl) (List.Sublist.refl _) ⟨congrArg _ (by unfold tickV; rw [if_pos hlit, hnv]), by unfold tickU; rw [if_pos hlit]⟩

end Go.Proofs.Ytjceoaomkbabmaa
namespace Go.Proofs.Ytjceoaomkbabmaa
open Go Go.VV

def regI (u : PU) (i : Nat) : List Int := ((List.range i).filter (fun k => k != 6)).map (fun k => (r4 u).getD k 0)
theorem regI_0 (u : PU) : regI u 0 = [] := rfl
theorem regI_skip (u : PU) {i : Nat} (h : i = 6) : regI u (i + 1) = regI u i := by subst h; rfl
theorem regI_next (u : PU) {i : Nat} (h : i ≠ 6) : regI u (i + 1) = regI u i ++ [(r4 u).getD i 0] := by
  unfold regI
  rw [List.range_succ, List.filter_append, List.map_append]
  congr 1
  simp [h]
theorem regI_len (u : PU) (i : Nat) : (regI u i).length ≤ i := by
  unfold regI
  rw [List.length_map]
  exact Nat.le_trans (List.length_filter_le _ _) (by simp)
theorem regs_12 : ∀ (l : List Int), l.length = 12 → ((List.range 12).filter (fun k => k != 6)).map (fun k => l.getD k 0) = l.take 6 ++ l.drop 7
  | [_, _, _, _, _, _, _, _, _, _, _, _], _ => rfl
theorem regI_all {u : PU} (h : u.Wf) : regI u 12 = regsE u := regs_12 (r4 u) (r4_len h)
theorem regI_4 {u : PU} (hu : u.Wf) {i : Nat} (h : i = 4) : regI u (i + 1) = regI u i ++ [u.line] := by
  rw [regI_next u (by omega)]
  subst h
  unfold r4
  rw [List.getD_eq_getElem?_getD, List.getElem?_set_self (by rw [hu.lR]; decide)]; rfl
theorem regI_n (u : PU) {i : Nat} (h : i ≠ 6) (h4 : i ≠ 4) : regI u (i + 1) = regI u i ++ [u.R.getD i 0] := by
  rw [regI_next u h]
  unfold r4
  rw [List.getD_eq_getElem?_getD, List.getElem?_set_ne (by omega), ← List.getD_eq_getElem?_getD]
theorem tail_1 {u : PU} (h : u.sig = true) : tailE u = [u.dot, u.own % 256, u.frames % 256, u.frames / 256, 1] := by unfold tailE boolI; rw [h]; rfl
theorem tail_0 {u : PU} (h : u.sig = false) : tailE u = [u.dot, u.own % 256, u.frames % 256, u.frames / 256, 0] := by unfold tailE boolI; rw [h]; rfl
end Go.Proofs.Ytjceoaomkbabmaa
namespace Go.Proofs.Ytjceoaomkbabmaa
open Go Go.VV Go.Proofs
set_option linter.unusedSimpArgs false
set_option linter.unusedVariables false
set_option maxRecDepth 100000
set_option maxHeartbeats 2000000 in
theorem renc_fn (b bv bs : Nat) (u : PU) (hu : u.Wf) (w : World) (hr : RRow w b bv bs u) : Does Try.prog 26 [.pointer (some ⟨b, 0, none⟩)] w [] (fun v H => Vec 5 1 v (encU u).length ((encU u).map (.int .u8)) H) := by
  have hdb := hu.dot
  have hlb := hu.line
  have hob := hu.own
  have hfb := hu.frames
  have hlV := hu.lV
  have hlO := hu.lO
  refine does_of Try.func26 rfl rfl rfl (St.refl w) ?_
  refine c_seq ?_
  refine c_region ?_
  refine l_l rfl rfl rfl ?_
  refine l_nil ?_
  refine c_seq ?_
  refine c_region ?_
  refine l_l rfl rfl rfl ?_
  refine l_nil ?_
  refine c_seq ?_
  refine c_region ?_
  refine l_l rfl rfl rfl ?_
  refine l_l rfl rfl rfl ?_
  refine l_l rfl rfl rfl ?_
  refine l_l (light_fa rfl rfl) rfl rfl ?_
  refine l_x (x_load rfl rfl (at_old (get0 hr.r (cW_V hu (bv := bv) (bs := bs))) (by simp))) rfl rfl ?_
  rintro _ _ ⟨rfl, rfl⟩
  refine l_x (x_appendE (A := []) (G := []) (n := 0) (m := u.V.length) (T := 5) (s := 1) (by_ := 1) (ys := u.V.map (.int .u8)) rfl rfl rfl rfl .nil (fun w hw => .row _ _ _ _ _ (by simp) (row_old hr.v (by simp) w hw)) (ones_int _ _) (by omega) (by omega)) rfl rfl ?_
  rintro v12 _ ⟨G12, hV12, _, rfl⟩
  refine l_as' (v := v12) rfl rfl rfl ?_
  refine l_nil ?_
  refine c_seq ?_
  refine c_region ?_
  refine l_mv (v := v12) rfl rfl rfl ?_
  refine l_l rfl rfl rfl ?_
  refine l_l rfl rfl rfl ?_
  refine l_l (light_fa rfl rfl) rfl rfl ?_
  refine l_x (x_load rfl rfl (at_old (get0 hr.r (cW_O hu (bv := bv) (bs := bs))) (by simp))) rfl rfl ?_
  rintro _ _ ⟨rfl, rfl⟩
  refine l_x (x_appendE (A := []) (G := G12 ++ []) (n := 0 + u.V.length) (m := u.O.length) (T := 5) (s := 1) (by_ := 1) (ys := u.O.map (.int .u8)) rfl rfl rfl rfl (by rw [List.append_nil]; exact hV12) (fun w hw => .row _ _ _ _ _ (by simp) (row_old hr.s (by simp) w hw)) (ones_int _ _) (by omega) (by omega)) rfl rfl ?_
  rintro v18 _ ⟨G18, hV18, _, rfl⟩
  refine l_as' (v := v18) rfl rfl rfl ?_
  refine l_nil ?_
  refine c_seq ?_
  refine c_seq ?_
  have hV18' : Vec 5 1 v18 (u.V ++ u.O ++ regI u 0).length ((u.V ++ u.O ++ regI u 0).map (.int .u8)) G18 := hV18.as (by simp [regI_0]) (by simp [regI_0])
  refine c_region ?_
  refine l_l rfl rfl rfl ?_
  refine l_nil ?_
  refine c_block ?_
  refine c_loop (σ := Nat × Value × Heap) [3, 4, 19, 20, 21, 22, 23, 24, 25, 26, 27, 28, 29, 30, 31, 32, 33, 34, 35, 36, 37, 38, 39, 40, 41, 42, 43] (fun s => [(3, s.2.1), (4, .int .i64 s.1)]) (fun s => s.2.2 ++ []) (fun s => s.1 ≤ 12 ∧ Vec 5 1 s.2.1 (u.V ++ u.O ++ regI u s.1).length ((u.V ++ u.O ++ regI u s.1).map (.int .u8)) s.2.2) (fun s => 12 - s.1) (0, v18, G18) ?_ ?_ ?_ ?_
  · exact ⟨Nat.zero_le _, hV18'⟩
  · exact .cons rfl (.cons rfl .nil)
  · exact fun _ h => h.sub ((List.Sublist.refl _).append (List.nil_sublist _))
  · rintro ⟨i, v3, G3⟩ y5 ⟨hi, hV3⟩
    dsimp only at hi hV3 ⊢
    obtain ⟨a3, c3, rfl⟩ := hV3.slice
    have hl3 : (u.V ++ u.O ++ regI u i).length ≤ 8364 := by have := regI_len u i; simp only [List.length_append]; omega
    refine c_seq ?_
    refine c_seq ?_
    refine c_region ?_
    refine l_l rfl rfl rfl ?_
    refine l_l rfl rfl rfl ?_
    refine l_nil ?_
    refine c_cond rfl (fun h1 => ?_) (fun h1 => ?_)
    · have h1n := by first | exact of_decide_eq_true h1 | exact of_decide_eq_false h1 | exact eq_of_beq h1 | exact ne_of_beq_false h1 | exact bne_t h1 | exact bne_f h1 | exact h1
      refine c_skip ?_
      refine c_seq ?_
      refine c_block ?_
      refine c_seq ?_
      refine c_region ?_
      refine l_l rfl rfl rfl ?_
      refine l_l rfl rfl rfl ?_
      refine l_nil ?_
      refine c_cond rfl (fun h2 => ?_) (fun h2 => ?_)
      · have h2n := by first | exact of_decide_eq_true h2 | exact of_decide_eq_false h2 | exact eq_of_beq h2 | exact ne_of_beq_false h2 | exact bne_t h2 | exact bne_f h2 | exact h2
        refine c_region ?_
        refine l_l rfl rfl rfl ?_
        refine l_l rfl rfl rfl ?_
        refine l_l rfl rfl rfl ?_
        refine l_l (light_fa rfl rfl) rfl rfl ?_
        refine l_x (x_load rfl rfl (at_old (get0 hr.r (cW_line hu)) (by simp))) rfl rfl ?_
        rintro _ _ ⟨rfl, rfl⟩
        refine l_as (l_conv rfl rfl rfl) rfl rfl (by first | exact as_u8 (by omega) (by omega) | exact as_u8m _) ?_
        refine l_x (x_slc (z := [.int .u8 0]) (l := [.int .u8 u.line]) (ps := [(0, .int .u8 u.line)]) rfl rfl rfl rfl (by kernel_rfl) rfl) rfl rfl ?_
        rintro _ _ ⟨b31, rfl, rfl⟩
        refine l_x (x_appendE (A := [(b31, blk [.int .u8 u.line] 5)]) (G := G3 ++ []) (n := (u.V ++ u.O ++ regI u i).length) (m := 1) (T := 5) (s := 1) (by_ := 1) (ys := [.int .u8 u.line]) rfl rfl rfl rfl (by rw [List.append_nil]; exact hV3) (fun w hw => .row _ _ _ _ _ rfl (row_own (.head _) w hw)) rfl (by omega) (by omega)) rfl rfl ?_
        rintro v32 _ ⟨G32, hV32, _, rfl⟩
        refine l_as' (v := v32) rfl rfl rfl ?_
        refine l_nil ?_
        refine c_region ?_
        refine l_l rfl rfl rfl ?_
        refine l_as (v := (.int .i64 ((i + 1 : Nat) : Int))) rfl rfl rfl (congrArg _ (succ_law (by omega))) ?_
        refine l_l rfl rfl rfl ?_
        refine l_nil ?_
        exact ⟨(i + 1, _, G32), ⟨by omega, hV32.as (by rw [regI_4 hu (by omega)]; simp; omega) (by rw [regI_4 hu (by omega)]; simp)⟩, by omega, .cons rfl (.cons rfl .nil), (by repeat (first | exact Agree.refl _ _ | exact Agree.mix rfl | refine Agree.put rfl ?_ | refine Agree.keep rfl ?_)), fun _ h => h.sub ((List.Sublist.refl _).append (List.nil_sublist _))⟩
      · have h2n := by first | exact of_decide_eq_true h2 | exact of_decide_eq_false h2 | exact eq_of_beq h2 | exact ne_of_beq_false h2 | exact bne_t h2 | exact bne_f h2 | exact h2
        refine c_seq ?_
        refine c_region ?_
        refine l_l rfl rfl rfl ?_
        refine l_l rfl rfl rfl ?_
        refine l_nil ?_
        refine c_cond rfl (fun h3 => ?_) (fun h3 => ?_)
        · have h3n := by first | exact of_decide_eq_true h3 | exact of_decide_eq_false h3 | exact eq_of_beq h3 | exact ne_of_beq_false h3 | exact bne_t h3 | exact bne_f h3 | exact h3
          refine c_region ?_
          refine l_l rfl rfl rfl ?_
          refine l_l rfl rfl rfl ?_
          refine l_l rfl rfl rfl ?_
          refine l_l rfl rfl rfl ?_
          refine l_l (light_fa rfl rfl) rfl rfl ?_
          refine l_l (idx_array1 i rfl rfl rfl rfl (by omega)) rfl rfl ?_
          refine l_x (x_load rfl rfl (at_old (get0 hr.r (cW_R hu (j := i) (by omega))) (by simp))) rfl rfl ?_
          rintro _ _ ⟨rfl, rfl⟩
          refine l_x (x_slc (z := [.int .u8 0]) (l := [.int .u8 (u.R.getD i 0)]) (ps := [(0, .int .u8 (u.R.getD i 0))]) rfl rfl rfl rfl (by kernel_rfl) rfl) rfl rfl ?_
          rintro _ _ ⟨b42, rfl, rfl⟩
          refine l_x (x_appendE (A := [(b42, blk [.int .u8 (u.R.getD i 0)] 5)]) (G := G3 ++ []) (n := (u.V ++ u.O ++ regI u i).length) (m := 1) (T := 5) (s := 1) (by_ := 1) (ys := [.int .u8 (u.R.getD i 0)]) rfl rfl rfl rfl (by rw [List.append_nil]; exact hV3) (fun w hw => .row _ _ _ _ _ rfl (row_own (.head _) w hw)) rfl (by omega) (by omega)) rfl rfl ?_
          rintro v43 _ ⟨G43, hV43, _, rfl⟩
          refine l_as' (v := v43) rfl rfl rfl ?_
          refine l_nil ?_
          refine c_region ?_
          refine l_l rfl rfl rfl ?_
          refine l_as (v := (.int .i64 ((i + 1 : Nat) : Int))) rfl rfl rfl (congrArg _ (succ_law (by omega))) ?_
          refine l_l rfl rfl rfl ?_
          refine l_nil ?_
          exact ⟨(i + 1, _, G43), ⟨by omega, hV43.as (by rw [regI_n u (i := i) (by omega) (by omega)]; simp; omega) (by rw [regI_n u (i := i) (by omega) (by omega)]; simp)⟩, by omega, .cons rfl (.cons rfl .nil), (by repeat (first | exact Agree.refl _ _ | exact Agree.mix rfl | refine Agree.put rfl ?_ | refine Agree.keep rfl ?_)), fun _ h => h.sub ((List.Sublist.refl _).append (List.nil_sublist _))⟩
        · have h3n := by first | exact of_decide_eq_true h3 | exact of_decide_eq_false h3 | exact eq_of_beq h3 | exact ne_of_beq_false h3 | exact bne_t h3 | exact bne_f h3 | exact h3
          refine c_skip ?_
          refine c_region ?_
          refine l_l rfl rfl rfl ?_
          refine l_as (v := (.int .i64 ((i + 1 : Nat) : Int))) rfl rfl rfl (congrArg _ (succ_law (by omega))) ?_
          refine l_l rfl rfl rfl ?_
          refine l_nil ?_
          exact ⟨(i + 1, _, G3), ⟨by omega, by rw [regI_skip u (by omega)]; exact hV3⟩, by omega, .cons rfl (.cons rfl .nil), (by repeat (first | exact Agree.refl _ _ | exact Agree.mix rfl | refine Agree.put rfl ?_ | refine Agree.keep rfl ?_)), fun _ h => h.sub ((List.Sublist.refl _).append (List.nil_sublist _))⟩
    · have h1n := by first | exact of_decide_eq_true h1 | exact of_decide_eq_false h1 | exact eq_of_beq h1 | exact ne_of_beq_false h1 | exact bne_t h1 | exact bne_f h1 | exact h1
      refine c_exit rfl ?_
      refine c_seq ?_
      obtain rfl : i = 12 := by omega
      refine c_region ?_
      refine l_l rfl rfl rfl ?_
      refine l_nil ?_
      refine c_seq ?_
      refine c_seq ?_
      refine c_region ?_
      refine l_l rfl rfl rfl ?_
      refine l_l rfl rfl rfl ?_
      refine l_l (light_fa rfl rfl) rfl rfl ?_
      refine l_x (x_load rfl rfl (at_old (get0 hr.r (cW_sig hu)) (by simp))) rfl rfl ?_
      rintro _ _ ⟨rfl, rfl⟩
      refine l_nil ?_
      refine c_cond rfl (fun h4 => ?_) (fun h4 => ?_)
      · have h4n := by first | exact of_decide_eq_true h4 | exact of_decide_eq_false h4 | exact eq_of_beq h4 | exact ne_of_beq_false h4 | exact bne_t h4 | exact bne_f h4 | exact h4
        refine c_region ?_
        refine l_l rfl rfl rfl ?_
        refine l_nil ?_
        refine c_seq ?_
        refine c_draw _ [6, 7, 8, 9, 10, 11, 12, 13, 14, 15, 16, 17, 18, 19, 20, 21, 22, 23] (.step true 0 (.step true 1 (.step true 2 (.step true 3 (.step true 4 (.step true 5 (.step true 6 (.step true 7 (.step true 8 (.step true 9 (.step true 10 (.step true 11 (.step true 12 (.step true 13 (.step true 14 (.step true 15 (.step true 16 (.step true 17 (.step true 18 (.step true 19 (.step true 20 (.step true 21 (.step true 22 (.step true 23 (.step false 24 (.step false 25 (.step true 26 .done))))))))))))))))))))))))))) rfl (by kernel_rfl) (by kernel_rfl) (fun _ h => h) ?_
        refine d_light rfl rfl rfl rfl rfl ?_
        refine d_light rfl rfl rfl rfl rfl ?_
        refine d_light rfl rfl rfl rfl rfl ?_
        refine d_light rfl (light_fa rfl rfl) rfl rfl rfl ?_
        refine d_load rfl rfl rfl (s_old (get0 hr.r (cW_dot hu)) (by simp)) rfl rfl ?_
        refine d_as rfl (l_conv rfl rfl rfl) rfl rfl rfl (by first | exact as_u8 (by omega) (by omega) | exact as_u8m _) ?_
        refine d_light rfl rfl rfl rfl rfl ?_
        refine d_light rfl rfl rfl rfl rfl ?_
        refine d_light rfl (light_fa rfl rfl) rfl rfl rfl ?_
        refine d_load rfl rfl rfl (s_old (get0 hr.r (cW_own hu)) (by simp)) rfl rfl ?_
        refine d_as rfl (l_conv rfl rfl rfl) rfl rfl rfl (by first | exact as_u8 (by omega) (by omega) | exact as_u8m _) ?_
        refine d_light rfl rfl rfl rfl rfl ?_
        refine d_light rfl rfl rfl rfl rfl ?_
        refine d_light rfl (light_fa rfl rfl) rfl rfl rfl ?_
        refine d_load rfl rfl rfl (s_old (get0 hr.r (cW_frames hu)) (by simp)) rfl rfl ?_
        refine d_as rfl (rem_pos rfl rfl (by decide)) rfl rfl rfl (by first | exact as_rem (by omega) | rfl) ?_
        refine d_as rfl (l_conv rfl rfl rfl) rfl rfl rfl (by first | exact as_u8 (by omega) (by omega) | exact as_u8m _) ?_
        refine d_light rfl rfl rfl rfl rfl ?_
        refine d_light rfl rfl rfl rfl rfl ?_
        refine d_light rfl (light_fa rfl rfl) rfl rfl rfl ?_
        refine d_load rfl rfl rfl (s_old (get0 hr.r (cW_frames hu)) (by simp)) rfl rfl ?_
        refine d_as rfl (quo_pos rfl rfl (by decide)) rfl rfl rfl (by first | exact as_quo (by omega) (show _ < (9223372036854775808 : Int) by omega) (by decide) | rfl) ?_
        refine d_as rfl (l_conv rfl rfl rfl) rfl rfl rfl (by first | exact as_u8 (by omega) (by omega) | exact as_u8m _) ?_
        refine d_light rfl rfl rfl rfl rfl ?_
        refine d_x rfl (x_slc rfl rfl rfl rfl rfl rfl) rfl rfl (by intro h; cases h) ?_
        rintro _ _ ⟨b72, rfl, rfl⟩
        refine d_x rfl (x_appendE (A := [(b72, blk [.int .u8 u.dot, .int .u8 (u.own % 256), .int .u8 (u.frames % 256), .int .u8 (u.frames / 256), .int .u8 1] 5)]) (G := G3 ++ []) (n := (u.V ++ u.O ++ regI u 12).length) (m := 5) (T := 5) (s := 1) (by_ := 1) (ys := [.int .u8 u.dot, .int .u8 (u.own % 256), .int .u8 (u.frames % 256), .int .u8 (u.frames / 256), .int .u8 1]) rfl rfl rfl rfl (by rw [List.append_nil]; exact hV3) (fun w hw => .row _ _ _ _ _ rfl (row_own (.head _) w hw)) rfl (by omega) (by omega)) rfl rfl (by intro h; cases h) ?_
        rintro v73 _ ⟨G73, hV73, _, rfl⟩
        refine d_as' (v := v73) rfl rfl rfl rfl ?_
        refine d_nil ?_
        refine c_seq ?_
        refine c_seq ?_
        have hV5 : Vec 5 1 v73 (headE u).length ((headE u).map (.int .u8)) G73 := hV73.as (by unfold headE; rw [tail_1 h4, regI_all hu]; simp; omega) (by unfold headE; rw [tail_1 h4, regI_all hu]; simp)
        refine c_region ?_
        refine l_l rfl rfl rfl ?_
        refine l_nil ?_
        refine c_block ?_
        refine c_loop (σ := Nat × Value × Heap) [3, 6, 74, 75, 76, 77, 78, 79, 80, 81, 82, 83, 84, 85] (fun s => [(3, s.2.1), (74, .int .i64 s.1)]) (fun s => s.2.2 ++ []) (fun s => s.1 ≤ 144 ∧ Vec 5 1 s.2.1 (headE u ++ u.P.take (s.1 * 160)).length ((headE u ++ u.P.take (s.1 * 160)).map (.int .u8)) s.2.2) (fun s => 144 - s.1) (0, v73, G73) ?_ ?_ ?_ ?_
        · exact ⟨Nat.zero_le _, by simpa using hV5⟩
        · exact .cons rfl (.cons rfl .nil)
        · exact fun _ h => h.sub ((List.Sublist.refl _).append (List.nil_sublist _))
        · rintro ⟨i, v4, G4⟩ y16 ⟨hi, hV4⟩
          dsimp only at hi hV4 ⊢
          obtain ⟨a4, c4, rfl⟩ := hV4.slice
          have hl4 : (headE u ++ u.P.take (i * 160)).length ≤ 31408 := by rw [List.length_append, headE_len hu, List.length_take, hu.lP]; omega
          refine c_seq ?_
          refine c_region ?_
          refine l_l rfl rfl rfl ?_
          refine l_nil ?_
          refine c_seq ?_
          refine c_cond rfl (fun h5 => ?_) (fun h5 => ?_)
          · have h5n := by first | exact of_decide_eq_true h5 | exact of_decide_eq_false h5 | exact eq_of_beq h5 | exact ne_of_beq_false h5 | exact bne_t h5 | exact bne_f h5 | exact h5
            refine c_skip ?_
            refine c_seq ?_
            refine c_block ?_
            refine c_seq ?_
            have hi144 : i < 144 := by omega
            refine c_region ?_
            refine l_l rfl rfl rfl ?_
            refine l_l rfl rfl rfl ?_
            refine l_nil ?_
            refine c_region ?_
            refine l_l rfl rfl rfl ?_
            refine l_l rfl rfl rfl ?_
            refine l_l rfl rfl rfl ?_
            refine l_l rfl rfl rfl ?_
            refine l_l (light_fa rfl rfl) rfl rfl ?_
            refine l_l (idx_array (s := 160) i rfl rfl rfl rfl (by omega)) rfl rfl ?_
            refine l_as (v := (.slice (some ⟨b, 19 + i * 160, none⟩) 160 160)) (cut_array1 0 160 rfl rfl rfl rfl rfl rfl (by decide) (by decide)) rfl rfl rfl ?_
            refine l_x (x_appendE (A := []) (G := G4 ++ []) (n := (headE u ++ u.P.take (i * 160)).length) (m := 160) (T := 5) (s := 1) (by_ := 1) (ys := ((u.P.drop (i * 160)).take 160).map (.int .u8)) rfl rfl rfl rfl (by rw [List.append_nil]; exact hV4) (fun w hw => .row _ _ _ _ _ (by rw [List.length_map, List.length_take, List.length_drop, hu.lP]; omega) (row_old (rowWP hu hr.r (by omega)) (by simp) w hw)) (ones_int _ _) (by omega) (by omega)) rfl rfl ?_
            rintro v84 _ ⟨G84, hV84, _, rfl⟩
            refine l_as' (v := v84) rfl rfl rfl ?_
            refine l_nil ?_
            refine c_region ?_
            refine l_as (v := (.int .i64 ((i + 1 : Nat) : Int))) rfl rfl rfl (congrArg _ (succ_law (by omega))) ?_
            refine l_l rfl rfl rfl ?_
            refine l_nil ?_
            exact ⟨(i + 1, _, G84), ⟨by omega, hV84.as (by rw [← take_rows u.P i]; simp only [List.length_append, List.length_take, List.length_drop, hu.lP]; omega) (by rw [← take_rows u.P i]; simp)⟩, by omega, .cons rfl (.cons rfl .nil), (by repeat (first | exact Agree.refl _ _ | exact Agree.mix rfl | refine Agree.put rfl ?_ | refine Agree.keep rfl ?_)), fun _ h => h⟩
          · have h5n := by first | exact of_decide_eq_true h5 | exact of_decide_eq_false h5 | exact eq_of_beq h5 | exact ne_of_beq_false h5 | exact bne_t h5 | exact bne_f h5 | exact h5
            refine c_exit rfl ?_
            refine c_seq ?_
            obtain rfl : i = 144 := by omega
            refine c_region ?_
            refine l_l rfl rfl rfl ?_
            refine l_l rfl rfl rfl ?_
            refine l_nil ?_
            refine c_ret ?_
            exact l_end (fun _ _ => rets_v rfl) (List.sublist_append_left _ _) (hV4.as (by rw [show 144 * 160 = u.P.length by rw [hu.lP], List.take_length]; rfl) (by rw [show 144 * 160 = u.P.length by rw [hu.lP], List.take_length]; rfl))
      · have h4n := by first | exact of_decide_eq_true h4 | exact of_decide_eq_false h4 | exact eq_of_beq h4 | exact ne_of_beq_false h4 | exact bne_t h4 | exact bne_f h4 | exact h4
        refine c_skip ?_
        refine c_seq ?_
        refine c_draw _ [6, 7, 8, 9, 10, 11, 12, 13, 14, 15, 16, 17, 18, 19, 20, 21, 22, 23] (.step true 0 (.step true 1 (.step true 2 (.step true 3 (.step true 4 (.step true 5 (.step true 6 (.step true 7 (.step true 8 (.step true 9 (.step true 10 (.step true 11 (.step true 12 (.step true 13 (.step true 14 (.step true 15 (.step true 16 (.step true 17 (.step true 18 (.step true 19 (.step true 20 (.step true 21 (.step true 22 (.step true 23 (.step false 24 (.step false 25 (.step true 26 .done))))))))))))))))))))))))))) rfl (by kernel_rfl) (by kernel_rfl) (fun _ h => h) ?_
        refine d_light rfl rfl rfl rfl rfl ?_
        refine d_light rfl rfl rfl rfl rfl ?_
        refine d_light rfl rfl rfl rfl rfl ?_
        refine d_light rfl (light_fa rfl rfl) rfl rfl rfl ?_
        refine d_load rfl rfl rfl (s_old (get0 hr.r (cW_dot hu)) (by simp)) rfl rfl ?_
        refine d_as rfl (l_conv rfl rfl rfl) rfl rfl rfl (by first | exact as_u8 (by omega) (by omega) | exact as_u8m _) ?_
        refine d_light rfl rfl rfl rfl rfl ?_
        refine d_light rfl rfl rfl rfl rfl ?_
        refine d_light rfl (light_fa rfl rfl) rfl rfl rfl ?_
        refine d_load rfl rfl rfl (s_old (get0 hr.r (cW_own hu)) (by simp)) rfl rfl ?_
        refine d_as rfl (l_conv rfl rfl rfl) rfl rfl rfl (by first | exact as_u8 (by omega) (by omega) | exact as_u8m _) ?_
        refine d_light rfl rfl rfl rfl rfl ?_
        refine d_light rfl rfl rfl rfl rfl ?_
        refine d_light rfl (light_fa rfl rfl) rfl rfl rfl ?_
        refine d_load rfl rfl rfl (s_old (get0 hr.r (cW_frames hu)) (by simp)) rfl rfl ?_
        refine d_as rfl (rem_pos rfl rfl (by decide)) rfl rfl rfl (by first | exact as_rem (by omega) | rfl) ?_
        refine d_as rfl (l_conv rfl rfl rfl) rfl rfl rfl (by first | exact as_u8 (by omega) (by omega) | exact as_u8m _) ?_
        refine d_light rfl rfl rfl rfl rfl ?_
        refine d_light rfl rfl rfl rfl rfl ?_
        refine d_light rfl (light_fa rfl rfl) rfl rfl rfl ?_
        refine d_load rfl rfl rfl (s_old (get0 hr.r (cW_frames hu)) (by simp)) rfl rfl ?_
        refine d_as rfl (quo_pos rfl rfl (by decide)) rfl rfl rfl (by first | exact as_quo (by omega) (show _ < (9223372036854775808 : Int) by omega) (by decide) | rfl) ?_
        refine d_as rfl (l_conv rfl rfl rfl) rfl rfl rfl (by first | exact as_u8 (by omega) (by omega) | exact as_u8m _) ?_
        refine d_light rfl rfl rfl rfl rfl ?_
        refine d_x rfl (x_slc rfl rfl rfl rfl rfl rfl) rfl rfl (by intro h; cases h) ?_
        rintro _ _ ⟨b72, rfl, rfl⟩
        refine d_x rfl (x_appendE (A := [(b72, blk [.int .u8 u.dot, .int .u8 (u.own % 256), .int .u8 (u.frames % 256), .int .u8 (u.frames / 256), .int .u8 0] 5)]) (G := G3 ++ []) (n := (u.V ++ u.O ++ regI u 12).length) (m := 5) (T := 5) (s := 1) (by_ := 1) (ys := [.int .u8 u.dot, .int .u8 (u.own % 256), .int .u8 (u.frames % 256), .int .u8 (u.frames / 256), .int .u8 0]) rfl rfl rfl rfl (by rw [List.append_nil]; exact hV3) (fun w hw => .row _ _ _ _ _ rfl (row_own (.head _) w hw)) rfl (by omega) (by omega)) rfl rfl (by intro h; cases h) ?_
        rintro v73 _ ⟨G73, hV73, _, rfl⟩
        refine d_as' (v := v73) rfl rfl rfl rfl ?_
        refine d_nil ?_
        refine c_seq ?_
        refine c_seq ?_
        have hV5 : Vec 5 1 v73 (headE u).length ((headE u).map (.int .u8)) G73 := hV73.as (by unfold headE; rw [tail_0 h4, regI_all hu]; simp; omega) (by unfold headE; rw [tail_0 h4, regI_all hu]; simp)
        refine c_region ?_
        refine l_l rfl rfl rfl ?_
        refine l_nil ?_
        refine c_block ?_
        refine c_loop (σ := Nat × Value × Heap) [3, 6, 74, 75, 76, 77, 78, 79, 80, 81, 82, 83, 84, 85] (fun s => [(3, s.2.1), (74, .int .i64 s.1)]) (fun s => s.2.2 ++ []) (fun s => s.1 ≤ 144 ∧ Vec 5 1 s.2.1 (headE u ++ u.P.take (s.1 * 160)).length ((headE u ++ u.P.take (s.1 * 160)).map (.int .u8)) s.2.2) (fun s => 144 - s.1) (0, v73, G73) ?_ ?_ ?_ ?_
        · exact ⟨Nat.zero_le _, by simpa using hV5⟩
        · exact .cons rfl (.cons rfl .nil)
        · exact fun _ h => h.sub ((List.Sublist.refl _).append (List.nil_sublist _))
        · rintro ⟨i, v4, G4⟩ y16 ⟨hi, hV4⟩
          dsimp only at hi hV4 ⊢
          obtain ⟨a4, c4, rfl⟩ := hV4.slice
          have hl4 : (headE u ++ u.P.take (i * 160)).length ≤ 31408 := by rw [List.length_append, headE_len hu, List.length_take, hu.lP]; omega
          refine c_seq ?_
          refine c_region ?_
          refine l_l rfl rfl rfl ?_
          refine l_nil ?_
          refine c_seq ?_
          refine c_cond rfl (fun h6 => ?_) (fun h6 => ?_)
          · have h6n := by first | exact of_decide_eq_true h6 | exact of_decide_eq_false h6 | exact eq_of_beq h6 | exact ne_of_beq_false h6 | exact bne_t h6 | exact bne_f h6 | exact h6
            refine c_skip ?_
            refine c_seq ?_
            refine c_block ?_
            refine c_seq ?_
            have hi144 : i < 144 := by omega
            refine c_region ?_
            refine l_l rfl rfl rfl ?_
            refine l_l rfl rfl rfl ?_
            refine l_nil ?_
            refine c_region ?_
            refine l_l rfl rfl rfl ?_
            refine l_l rfl rfl rfl ?_
            refine l_l rfl rfl rfl ?_
            refine l_l rfl rfl rfl ?_
            refine l_l (light_fa rfl rfl) rfl rfl ?_
            refine l_l (idx_array (s := 160) i rfl rfl rfl rfl (by omega)) rfl rfl ?_
            refine l_as (v := (.slice (some ⟨b, 19 + i * 160, none⟩) 160 160)) (cut_array1 0 160 rfl rfl rfl rfl rfl rfl (by decide) (by decide)) rfl rfl rfl ?_
            refine l_x (x_appendE (A := []) (G := G4 ++ []) (n := (headE u ++ u.P.take (i * 160)).length) (m := 160) (T := 5) (s := 1) (by_ := 1) (ys := ((u.P.drop (i * 160)).take 160).map (.int .u8)) rfl rfl rfl rfl (by rw [List.append_nil]; exact hV4) (fun w hw => .row _ _ _ _ _ (by rw [List.length_map, List.length_take, List.length_drop, hu.lP]; omega) (row_old (rowWP hu hr.r (by omega)) (by simp) w hw)) (ones_int _ _) (by omega) (by omega)) rfl rfl ?_
            rintro v84 _ ⟨G84, hV84, _, rfl⟩
            refine l_as' (v := v84) rfl rfl rfl ?_
            refine l_nil ?_
            refine c_region ?_
            refine l_as (v := (.int .i64 ((i + 1 : Nat) : Int))) rfl rfl rfl (congrArg _ (succ_law (by omega))) ?_
            refine l_l rfl rfl rfl ?_
            refine l_nil ?_
            exact ⟨(i + 1, _, G84), ⟨by omega, hV84.as (by rw [← take_rows u.P i]; simp only [List.length_append, List.length_take, List.length_drop, hu.lP]; omega) (by rw [← take_rows u.P i]; simp)⟩, by omega, .cons rfl (.cons rfl .nil), (by repeat (first | exact Agree.refl _ _ | exact Agree.mix rfl | refine Agree.put rfl ?_ | refine Agree.keep rfl ?_)), fun _ h => h⟩
          · have h6n := by first | exact of_decide_eq_true h6 | exact of_decide_eq_false h6 | exact eq_of_beq h6 | exact ne_of_beq_false h6 | exact bne_t h6 | exact bne_f h6 | exact h6
            refine c_exit rfl ?_
            refine c_seq ?_
            obtain rfl : i = 144 := by omega
            refine c_region ?_
            refine l_l rfl rfl rfl ?_
            refine l_l rfl rfl rfl ?_
            refine l_nil ?_
            refine c_ret ?_
            exact l_end (fun _ _ => rets_v rfl) (List.sublist_append_left _ _) (hV4.as (by rw [show 144 * 160 = u.P.length by rw [hu.lP], List.take_length]; rfl) (by rw [show 144 * 160 = u.P.length by rw [hu.lP], List.take_length]; rfl))

end Go.Proofs.Ytjceoaomkbabmaa
