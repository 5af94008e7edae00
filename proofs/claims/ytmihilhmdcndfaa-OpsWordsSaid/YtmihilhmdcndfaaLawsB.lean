/- The contracts of the laws of texts that differ, and of words in texts. -/
import Derived.Test.YtmihilhmdcndfaaLawsA
import Derived.Test.YtmihilhmdcndfaaOpsX
import Derived.Test.YtmihilhmdcndfaaCalls
namespace Go.Proofs.Ytmihilhmdcndfaa
open Go Go.VV Go.Proofs
set_option linter.unusedSimpArgs false
set_option linter.unusedVariables false
set_option maxRecDepth 100000
theorem has_fn (p x q : List UInt8) (hl : (p ++ x ++ q).length < 100000) (w : World) :
    Does Try.prog 15 [.string (bs (p ++ x ++ q)), .string (bs x)] w [] (fun v H => H = [] ∧ v = .bool true) := by
  have hl2 : (p ++ x ++ q).length = p.length + x.length + q.length := by simp [Nat.add_assoc]
  refine does_of Try.func15 rfl rfl rfl (St.refl w) ?_
  refine c_seq ?_
  refine c_region ?_
  refine l_l rfl rfl rfl ?_
  refine l_nil ?_
  refine c_seq ?_
  refine c_seq ?_
  refine c_region ?_
  refine l_l rfl rfl rfl ?_
  refine l_nil ?_
  refine c_block ?_
  refine c_loopk (σ := Nat) [4, 5, 6, 7, 8, 9, 10, 11, 12, 13, 14, 15, 16, 17, 18, 19, 20, 21, 22, 23] (fun i => [(5, .int .i64 i)]) (fun i => i ≤ p.length) (fun i => p.length - i) 0 ?_ ?_ ?_
  · exact Nat.zero_le _
  · exact .cons rfl .nil
  · intro i y2 hi
    refine c_seq ?_
    refine c_seq ?_
    refine c_region ?_
    refine l_l rfl rfl rfl ?_
    refine l_l rfl rfl rfl ?_
    refine l_l (light_lenstr rfl rfl) rfl rfl ?_
    refine l_as (v := (.int .i64 ((i + x.length : Nat) : Int))) rfl rfl rfl (congrArg _ (by rw [wrap_i64 (by omega) (by omega)]; omega)) ?_
    refine l_l rfl rfl rfl ?_
    refine l_l (light_lenstr rfl rfl) rfl rfl ?_
    refine l_sure true rfl rfl rfl (by simp only [decide_eq_true_eq]; omega) ?_
    refine l_nil ?_
    refine c_true rfl ?_
    refine c_skip ?_
    refine c_seq ?_
    refine c_block ?_
    refine c_seq ?_
    refine c_region ?_
    refine l_l rfl rfl rfl ?_
    refine l_l rfl rfl rfl ?_
    refine l_l rfl rfl rfl ?_
    refine l_l rfl rfl rfl ?_
    refine l_l (light_lenstr rfl rfl) rfl rfl ?_
    refine l_as (v := (.int .i64 ((i + x.length : Nat) : Int))) rfl rfl rfl (congrArg _ (by rw [wrap_i64 (by omega) (by omega)]; omega)) ?_
    refine l_l (light_cutstr i (i + x.length) rfl rfl rfl rfl rfl rfl (by omega) (by omega)) rfl rfl ?_
    refine l_l rfl rfl rfl ?_
    refine l_l (light_eqstr rfl rfl) rfl rfl ?_
    refine l_nil ?_
    refine c_cond rfl (fun h1 => ?_) (fun h1 => ?_)
    · refine c_seq ?_
      refine c_region ?_
      refine l_l rfl rfl rfl ?_
      refine l_nil ?_
      refine c_ret ?_
      exact l_end0 (fun _ _ => rets_v rfl) ⟨rfl, rfl⟩
    · refine c_skip ?_
      refine c_region ?_
      refine l_l rfl rfl rfl ?_
      refine l_as (v := (.int .i64 ((i + 1 : Nat) : Int))) rfl rfl rfl (congrArg _ (succ_law (by omega))) ?_
      refine l_l rfl rfl rfl ?_
      refine l_nil ?_
      have hs9 := has_step hi h1
      exact ⟨i + 1, hs9, by omega, .cons rfl .nil, (by repeat (first | exact Agree.refl _ _ | exact Agree.mix rfl | refine Agree.put rfl ?_ | refine Agree.keep rfl ?_)), fun _ h => h⟩

theorem apart_law (a b c : Int) (ha : 0 ≤ a ∧ a < 256) (hb : 0 ≤ b ∧ b < 256) (hc : 0 ≤ c ∧ c < 256) (d e : Int) (hd : 0 ≤ d ∧ d < 256) (he : 0 ≤ e ∧ e < 256) (far : Bool) (w : World) :
    Does Try.prog 6 [.int .u8 a, .int .u8 b, .int .u8 c, .int .u8 d, .int .u8 e, .bool far] w [] (fun v H => H = [] ∧ v = .bool true) := by
  have hN1 := (dcd_fine ha hb hc).num
  have hN2 := (dcd_fine hd hb hc).num
  have hN3 := (dcd_fine ha he hc).num
  refine does_of Try.func6 rfl rfl rfl (St.refl w) ?_
  refine c_seq ?_
  refine c_region ?_
  refine l_l rfl rfl rfl ?_
  refine l_nil ?_
  refine c_seq ?_
  refine c_seq ?_
  refine c_region ?_
  refine l_x (x_val call_9 rfl (fun w hw => awake_fn w)) rfl rfl ?_
  rintro _ _ ⟨rfl, rfl⟩
  refine l_sure false rfl rfl rfl rfl ?_
  refine l_nil ?_
  refine c_false rfl ?_
  refine c_skip ?_
  refine c_seq ?_
  refine c_region ?_
  refine l_x (x_call call_10 rfl (fun w hw => tnew_fn w)) rfl rfl ?_
  rintro _ _ ⟨G13, ⟨b13, rfl, hT13⟩, rfl⟩
  refine l_l rfl rfl rfl ?_
  refine l_nil ?_
  refine c_seq ?_
  refine c_region ?_
  refine l_l rfl rfl rfl ?_
  refine l_l rfl rfl rfl ?_
  refine l_l rfl rfl rfl ?_
  refine l_l rfl rfl rfl ?_
  refine l_x (x_callF (A := G13) (G := []) [b13] call_11 rfl (TabH.mem hT13) (fun w hw => decode_fn b13 (.int .u32 0) G13 hT13 a b c ha hb hc w (TabH.lent hT13 hw))) rfl rfl ?_
  rintro _ _ ⟨G23, ⟨rfl, hT23⟩, rfl⟩
  refine l_x (x_alloc rfl) rfl rfl ?_
  rintro _ _ ⟨b14, rfl, rfl⟩
  refine l_x (by first | exact x_store 0 rfl rfl rfl rfl rfl rfl (by first | rfl | exact Nat.le_of_ble_eq_true rfl | (simp; done)) | exact x_store 1 rfl rfl rfl rfl rfl rfl (by first | rfl | exact Nat.le_of_ble_eq_true rfl | (simp; done)) | exact x_store 2 rfl rfl rfl rfl rfl rfl (by first | rfl | exact Nat.le_of_ble_eq_true rfl | (simp; done)) | exact x_store 3 rfl rfl rfl rfl rfl rfl (by first | rfl | exact Nat.le_of_ble_eq_true rfl | (simp; done))) rfl rfl ?_
  rintro _ _ ⟨rfl, rfl⟩
  refine l_nil ?_
  refine c_seq ?_
  refine c_region ?_
  refine l_l rfl rfl rfl ?_
  refine l_l rfl rfl rfl ?_
  refine l_l rfl rfl rfl ?_
  refine l_l rfl rfl rfl ?_
  refine l_heap (H' := G23 ++ [(b14, _)]) (fun _ h => St.fl [[_], G23, []] [1, 0] rfl h) ?_
  refine l_x (x_callF (A := G23) (G := [(b14, _)]) [b13] call_11 rfl (TabH.mem hT23) (fun w hw => decode_fn b13 (.int .u32 0) G23 hT23 d b c hd hb hc w (TabH.lent hT23 hw))) rfl rfl ?_
  rintro _ _ ⟨G28, ⟨rfl, hT28⟩, rfl⟩
  refine l_x (x_alloc rfl) rfl rfl ?_
  rintro _ _ ⟨b15, rfl, rfl⟩
  refine l_x (by first | exact x_store 0 rfl rfl rfl rfl rfl rfl (by first | rfl | exact Nat.le_of_ble_eq_true rfl | (simp; done)) | exact x_store 1 rfl rfl rfl rfl rfl rfl (by first | rfl | exact Nat.le_of_ble_eq_true rfl | (simp; done)) | exact x_store 2 rfl rfl rfl rfl rfl rfl (by first | rfl | exact Nat.le_of_ble_eq_true rfl | (simp; done)) | exact x_store 3 rfl rfl rfl rfl rfl rfl (by first | rfl | exact Nat.le_of_ble_eq_true rfl | (simp; done))) rfl rfl ?_
  rintro _ _ ⟨rfl, rfl⟩
  refine l_nil ?_
  refine c_seq ?_
  refine c_seq ?_
  refine c_region ?_
  refine l_l rfl rfl rfl ?_
  refine l_nil ?_
  refine c_cond rfl (fun h1 => ?_) (fun h1 => ?_)
  · refine c_region ?_
    refine l_l rfl rfl rfl ?_
    refine l_l rfl rfl rfl ?_
    refine l_l rfl rfl rfl ?_
    refine l_l rfl rfl rfl ?_
    refine l_heap (H' := G28 ++ [(b15, _), (b14, _)]) (fun _ h => St.fl [[_], G28, [_]] [1, 0, 2] rfl h) ?_
    refine l_x (x_callF (A := G28) (G := [(b15, _), (b14, _)]) [b13] call_11 rfl (TabH.mem hT28) (fun w hw => decode_fn b13 (.int .u32 0) G28 hT28 a e c ha he hc w (TabH.lent hT28 hw))) rfl rfl ?_
    rintro _ _ ⟨G34, ⟨rfl, hT34⟩, rfl⟩
    refine l_heap (H' := [(b15, _), (b14, _)] ++ G34) (fun _ h => St.fl [G34, [_], [_]] [1, 2, 0] rfl h) ?_
    refine l_x (by first | exact x_store 0 rfl rfl rfl rfl rfl rfl (by first | rfl | exact Nat.le_of_ble_eq_true rfl | (simp; done)) | exact x_store 1 rfl rfl rfl rfl rfl rfl (by first | rfl | exact Nat.le_of_ble_eq_true rfl | (simp; done)) | exact x_store 2 rfl rfl rfl rfl rfl rfl (by first | rfl | exact Nat.le_of_ble_eq_true rfl | (simp; done)) | exact x_store 3 rfl rfl rfl rfl rfl rfl (by first | rfl | exact Nat.le_of_ble_eq_true rfl | (simp; done))) rfl rfl ?_
    rintro _ _ ⟨rfl, rfl⟩
    refine l_nil ?_
    refine c_seq ?_
    refine c_draw _ [1, 2, 3, 4, 5, 6, 7] (.step true 0 (.step true 2 (.step true 5 (.step true 6 (.step true 7 (.step false 1 (.step false 3 (.step true 4 (.step true 8 (.step true 9 .done)))))))))) rfl (by kernel_rfl) (by kernel_rfl) (fun _ h => h) ?_
    refine d_loadA rfl rfl rfl rfl (by first | exact srow_own (by repeat (first | exact .head _ | refine .tail _ ?_ | refine List.mem_append_right _ ?_)) | exact srow_own_at (by repeat (first | exact .head _ | refine .tail _ ?_ | refine List.mem_append_right _ ?_)) _ 5 rfl) rfl rfl ?_
    refine d_loadA rfl rfl rfl rfl (by first | exact srow_own (by repeat (first | exact .head _ | refine .tail _ ?_ | refine List.mem_append_right _ ?_)) | exact srow_own_at (by repeat (first | exact .head _ | refine .tail _ ?_ | refine List.mem_append_right _ ?_)) _ 5 rfl) rfl rfl ?_
    refine d_loadA rfl rfl rfl rfl (by first | exact srow_own (by repeat (first | exact .head _ | refine .tail _ ?_ | refine List.mem_append_right _ ?_)) | exact srow_own_at (by repeat (first | exact .head _ | refine .tail _ ?_ | refine List.mem_append_right _ ?_)) _ 5 rfl) rfl rfl ?_
    refine d_loadA rfl rfl rfl rfl (by first | exact srow_own (by repeat (first | exact .head _ | refine .tail _ ?_ | refine List.mem_append_right _ ?_)) | exact srow_own_at (by repeat (first | exact .head _ | refine .tail _ ?_ | refine List.mem_append_right _ ?_)) _ 5 rfl) rfl rfl ?_
    refine d_eqs (ks := [.int .i64, .int .i64, .int .i64, .int .i64, .int .u16]) rfl rfl rfl (by kernel_rfl) (by kernel_rfl) rfl rfl rfl rfl rfl ?_
    refine d_x rfl (x_val call_13 rfl (fun w hw => text_fn _ hN1.1 hN1.2 w)) rfl rfl (by intro _ _ _ hK x hx; obtain ⟨rfl, rfl⟩ := hK; repeat (first | exact hx | exact List.mem_append_left _ hx | refine List.mem_append_right _ ?_ | refine .tail _ ?_)) ?_
    rintro _ _ ⟨rfl, rfl⟩
    refine d_x rfl (x_val call_13 rfl (fun w hw => text_fn _ hN3.1 hN3.2 w)) rfl rfl (by intro _ _ _ hK x hx; obtain ⟨rfl, rfl⟩ := hK; repeat (first | exact hx | exact List.mem_append_left _ hx | refine List.mem_append_right _ ?_ | refine .tail _ ?_)) ?_
    rintro _ _ ⟨rfl, rfl⟩
    refine d_light rfl (light_eqstr rfl rfl) rfl rfl rfl ?_
    refine d_light rfl (light_eqb rfl rfl rfl) rfl rfl rfl ?_
    refine d_light rfl rfl rfl rfl rfl ?_
    refine d_nil ?_
    refine c_ret ?_
    exact l_end0 (fun _ _ => rets_v rfl) ⟨rfl, congrArg _ (apartB (apart_be ha hb he hc))⟩
  · refine c_skip ?_
    refine c_seq ?_
    refine c_draw _ [1, 2, 3, 4, 5, 6, 7] (.step true 0 (.step true 2 (.step true 5 (.step true 6 (.step true 7 (.step false 1 (.step false 3 (.step true 4 (.step true 8 (.step true 9 .done)))))))))) rfl (by kernel_rfl) (by kernel_rfl) (fun _ h => h) ?_
    refine d_loadA rfl rfl rfl rfl (by first | exact srow_own (by repeat (first | exact .head _ | refine .tail _ ?_ | refine List.mem_append_right _ ?_)) | exact srow_own_at (by repeat (first | exact .head _ | refine .tail _ ?_ | refine List.mem_append_right _ ?_)) _ 5 rfl) rfl rfl ?_
    refine d_loadA rfl rfl rfl rfl (by first | exact srow_own (by repeat (first | exact .head _ | refine .tail _ ?_ | refine List.mem_append_right _ ?_)) | exact srow_own_at (by repeat (first | exact .head _ | refine .tail _ ?_ | refine List.mem_append_right _ ?_)) _ 5 rfl) rfl rfl ?_
    refine d_loadA rfl rfl rfl rfl (by first | exact srow_own (by repeat (first | exact .head _ | refine .tail _ ?_ | refine List.mem_append_right _ ?_)) | exact srow_own_at (by repeat (first | exact .head _ | refine .tail _ ?_ | refine List.mem_append_right _ ?_)) _ 5 rfl) rfl rfl ?_
    refine d_loadA rfl rfl rfl rfl (by first | exact srow_own (by repeat (first | exact .head _ | refine .tail _ ?_ | refine List.mem_append_right _ ?_)) | exact srow_own_at (by repeat (first | exact .head _ | refine .tail _ ?_ | refine List.mem_append_right _ ?_)) _ 5 rfl) rfl rfl ?_
    refine d_eqs (ks := [.int .i64, .int .i64, .int .i64, .int .i64, .int .u16]) rfl rfl rfl (by kernel_rfl) (by kernel_rfl) rfl rfl rfl rfl rfl ?_
    refine d_x rfl (x_val call_13 rfl (fun w hw => text_fn _ hN1.1 hN1.2 w)) rfl rfl (by intro _ _ _ hK x hx; obtain ⟨rfl, rfl⟩ := hK; repeat (first | exact hx | exact List.mem_append_left _ hx | refine List.mem_append_right _ ?_ | refine .tail _ ?_)) ?_
    rintro _ _ ⟨rfl, rfl⟩
    refine d_x rfl (x_val call_13 rfl (fun w hw => text_fn _ hN2.1 hN2.2 w)) rfl rfl (by intro _ _ _ hK x hx; obtain ⟨rfl, rfl⟩ := hK; repeat (first | exact hx | exact List.mem_append_left _ hx | refine List.mem_append_right _ ?_ | refine .tail _ ?_)) ?_
    rintro _ _ ⟨rfl, rfl⟩
    refine d_light rfl (light_eqstr rfl rfl) rfl rfl rfl ?_
    refine d_light rfl (light_eqb rfl rfl rfl) rfl rfl rfl ?_
    refine d_light rfl rfl rfl rfl rfl ?_
    refine d_nil ?_
    refine c_ret ?_
    exact l_end0 (fun _ _ => rets_v rfl) ⟨rfl, congrArg _ (apartB (apart_ad ha hd hb))⟩

theorem words_law (a b c : Int) (ha : 0 ≤ a ∧ a < 256) (hb : 0 ≤ b ∧ b < 256) (hc : 0 ≤ c ∧ c < 256) (w : World) :
    Does Try.prog 8 [.int .u8 a, .int .u8 b, .int .u8 c] w [] (fun v H => H = [] ∧ v = .bool true) := by
  have hN1 := (dcd_fine ha hb hc).num
  have e2 := hex2 (n := b.toNat) (by omega)
  have e4 := hex4 (b := b.toNat) (c := c.toNat) (by omega) (by omega)
  have e5 : (b + 256 * c).toNat = b.toNat + 256 * c.toNat := by omega
  refine does_of Try.func8 rfl rfl rfl (St.refl w) ?_
  refine c_seq ?_
  refine c_region ?_
  refine l_l rfl rfl rfl ?_
  refine l_nil ?_
  refine c_seq ?_
  refine c_seq ?_
  refine c_region ?_
  refine l_x (x_val call_9 rfl (fun w hw => awake_fn w)) rfl rfl ?_
  rintro _ _ ⟨rfl, rfl⟩
  refine l_sure false rfl rfl rfl rfl ?_
  refine l_nil ?_
  refine c_false rfl ?_
  refine c_skip ?_
  refine c_seq ?_
  refine c_region ?_
  refine l_x (x_call call_10 rfl (fun w hw => tnew_fn w)) rfl rfl ?_
  rintro _ _ ⟨G13, ⟨b13, rfl, hT13⟩, rfl⟩
  refine l_l rfl rfl rfl ?_
  refine l_l rfl rfl rfl ?_
  refine l_l rfl rfl rfl ?_
  refine l_x (x_callF (A := G13) (G := []) [b13] call_11 rfl (TabH.mem hT13) (fun w hw => decode_fn b13 (.int .u32 0) G13 hT13 a b c ha hb hc w (TabH.lent hT13 hw))) rfl rfl ?_
  rintro _ _ ⟨G18, ⟨rfl, hT18⟩, rfl⟩
  refine l_x (x_alloc rfl) rfl rfl ?_
  rintro _ _ ⟨b7, rfl, rfl⟩
  refine l_x (by first | exact x_store 0 rfl rfl rfl rfl rfl rfl (by first | rfl | exact Nat.le_of_ble_eq_true rfl | (simp; done)) | exact x_store 1 rfl rfl rfl rfl rfl rfl (by first | rfl | exact Nat.le_of_ble_eq_true rfl | (simp; done)) | exact x_store 2 rfl rfl rfl rfl rfl rfl (by first | rfl | exact Nat.le_of_ble_eq_true rfl | (simp; done)) | exact x_store 3 rfl rfl rfl rfl rfl rfl (by first | rfl | exact Nat.le_of_ble_eq_true rfl | (simp; done))) rfl rfl ?_
  rintro _ _ ⟨rfl, rfl⟩
  refine l_nil ?_
  refine c_seq ?_
  refine c_region ?_
  refine l_x (x_loadA rfl rfl rfl (by first | exact row_own (by repeat (first | exact .head _ | refine .tail _ ?_ | refine List.mem_append_right _ ?_)) | exact row_own_at (by repeat (first | exact .head _ | refine .tail _ ?_ | refine List.mem_append_right _ ?_)) _ 5 rfl)) rfl rfl ?_
  rintro _ _ ⟨rfl, rfl⟩
  refine l_x (x_val call_13 rfl (fun w hw => text_fn _ hN1.1 hN1.2 w)) rfl rfl ?_
  rintro _ _ ⟨rfl, rfl⟩
  refine l_l rfl rfl rfl ?_
  refine l_nil ?_
  refine c_seq ?_
  refine c_region ?_
  refine l_l rfl rfl rfl ?_
  refine l_nil ?_
  refine c_seq ?_
  refine c_draw _ [] (.step true 0 (.step true 1 (.step true 2 (.step true 3 (.step true 4 (.step true 5 (.step true 6 (.step true 7 (.step false 8 (.step false 9 (.step true 10 .done))))))))))) rfl (by kernel_rfl) (by kernel_rfl) (fun _ h => h) ?_
  refine d_light rfl rfl rfl rfl rfl ?_
  refine d_light rfl rfl rfl rfl rfl ?_
  refine d_as (v := (.int .u8 ((b.toNat / 16 : Nat) : Int))) rfl (quo_pos rfl rfl (by decide)) rfl rfl rfl (congrArg _ (by rw [Int.tdiv_eq_ediv_of_nonneg (by omega), wrap_u8_id (by omega) (by omega)]; omega)) ?_
  refine d_light rfl (light_idxstr (b.toNat / 16) rfl rfl rfl rfl (dig_get (by omega))) rfl rfl rfl ?_
  refine d_light rfl rfl rfl rfl rfl ?_
  refine d_light rfl rfl rfl rfl rfl ?_
  refine d_as (v := (.int .u8 ((b.toNat % 16 : Nat) : Int))) rfl (rem_pos rfl rfl (by decide)) rfl rfl rfl (congrArg _ (by rw [Int.tmod_eq_emod_of_nonneg (by omega)]; omega)) ?_
  refine d_light rfl (light_idxstr (b.toNat % 16) rfl rfl rfl rfl (dig_get (by omega))) rfl rfl rfl ?_
  refine d_x rfl (x_slc rfl rfl rfl rfl rfl rfl) rfl rfl (by intro h; cases h) ?_
  rintro _ _ ⟨b29, rfl, rfl⟩
  refine d_x rfl (x_str (l := [dig (b.toNat / 16), dig (b.toNat % 16)]) rfl rfl rfl rfl (fun w hw => row_own (by repeat (first | exact .head _ | refine .tail _ ?_ | refine List.mem_append_right _ ?_)) w hw)) rfl rfl (by intro h; cases h) ?_
  rintro _ _ ⟨rfl, rfl⟩
  refine d_light rfl rfl rfl rfl rfl ?_
  refine d_nil ?_
  refine c_seq ?_
  refine c_draw _ [] (.step true 0 (.step true 1 (.step true 2 (.step true 3 (.step true 4 (.step true 5 (.step true 6 (.step true 7 (.step true 10 (.step false 8 (.step false 9 (.step true 11 (.step true 12 .done))))))))))))) rfl (by kernel_rfl) (by kernel_rfl) (fun _ h => h) ?_
  refine d_light rfl rfl rfl rfl rfl ?_
  refine d_light rfl rfl rfl rfl rfl ?_
  refine d_as (v := (.int .u8 ((c.toNat / 16 : Nat) : Int))) rfl (quo_pos rfl rfl (by decide)) rfl rfl rfl (congrArg _ (by rw [Int.tdiv_eq_ediv_of_nonneg (by omega), wrap_u8_id (by omega) (by omega)]; omega)) ?_
  refine d_light rfl (light_idxstr (c.toNat / 16) rfl rfl rfl rfl (dig_get (by omega))) rfl rfl rfl ?_
  refine d_light rfl rfl rfl rfl rfl ?_
  refine d_light rfl rfl rfl rfl rfl ?_
  refine d_as (v := (.int .u8 ((c.toNat % 16 : Nat) : Int))) rfl (rem_pos rfl rfl (by decide)) rfl rfl rfl (congrArg _ (by rw [Int.tmod_eq_emod_of_nonneg (by omega)]; omega)) ?_
  refine d_light rfl (light_idxstr (c.toNat % 16) rfl rfl rfl rfl (dig_get (by omega))) rfl rfl rfl ?_
  refine d_light rfl rfl rfl rfl rfl ?_
  refine d_x rfl (x_slc rfl rfl rfl rfl rfl rfl) rfl rfl (by intro h; cases h) ?_
  rintro _ _ ⟨b39, rfl, rfl⟩
  refine d_x rfl (x_str (l := [dig (c.toNat / 16), dig (c.toNat % 16)]) rfl rfl rfl rfl (fun w hw => row_own (by repeat (first | exact .head _ | refine .tail _ ?_ | refine List.mem_append_right _ ?_)) w hw)) rfl rfl (by intro h; cases h) ?_
  rintro _ _ ⟨rfl, rfl⟩
  refine d_light rfl (light_cat rfl rfl (by (try simp only [List.length_append, List.length_cons, List.length_nil]); omega)) rfl rfl rfl ?_
  refine d_light rfl rfl rfl rfl rfl ?_
  refine d_nil ?_
  refine c_seq ?_
  refine c_seq ?_
  refine c_region ?_
  refine l_l (light_fa rfl rfl) rfl rfl ?_
  refine l_x (x_load rfl rfl (at_own (by repeat (first | exact .head _ | refine .tail _ ?_ | refine List.mem_append_right _ ?_)) (by rfl))) rfl rfl ?_
  rintro _ _ ⟨rfl, rfl⟩
  refine l_l rfl rfl rfl ?_
  refine l_nil ?_
  refine c_cond rfl (fun h1 => ?_) (fun h1 => ?_)
  · refine c_seq ?_
    obtain ⟨hn9, p, q, hpq⟩ := word_3 (b := b) (c := c) ha (by (try simp only [decide_eq_true_eq, decide_eq_false_iff_not, beq_iff_eq, beq_eq_false_iff_ne, bne_iff_ne, bne_eq_false_iff_eq, ne_eq] at *); omega)
    rw [e5, e4] at hpq
    refine c_region ?_
    refine l_l (light_fa rfl rfl) rfl rfl ?_
    refine l_x (x_load rfl rfl (at_own (by repeat (first | exact .head _ | refine .tail _ ?_ | refine List.mem_append_right _ ?_)) (by rfl))) rfl rfl ?_
    rintro _ _ ⟨rfl, rfl⟩
    refine l_l rfl rfl rfl ?_
    refine l_as (v := (.int .u16 c)) rfl rfl rfl (congrArg _ (wrap_u16_id (by omega) (by omega))) ?_
    refine l_l (shl_pos rfl rfl (by decide)) rfl rfl ?_
    refine l_l rfl rfl rfl ?_
    refine l_as (v := (.int .u16 b)) rfl rfl rfl (congrArg _ (wrap_u16_id (by omega) (by omega))) ?_
    refine l_as (v := (.int .u16 (b + 256 * c))) rfl rfl rfl (congrArg _ (or_law' hb hc)) ?_
    refine l_sure true rfl rfl rfl (by rw [hn9]; simp) ?_
    refine l_l rfl rfl rfl ?_
    refine l_l rfl rfl rfl ?_
    refine l_l rfl rfl rfl ?_
    rw [hpq]
    refine l_x (x_val call_15 rfl (fun w hw => has_fn p _ q (by have h9 := txt_short (c := c) ha hb; rw [hpq] at h9; omega) w)) rfl rfl ?_
    rintro _ _ ⟨rfl, rfl⟩
    refine l_l rfl rfl rfl ?_
    refine l_l rfl rfl rfl ?_
    refine l_nil ?_
    refine c_ret ?_
    exact l_end0 (fun _ _ => rets_v rfl) ⟨rfl, rfl⟩
  · refine c_skip ?_
    refine c_seq ?_
    refine c_seq ?_
    refine c_region ?_
    refine l_l (light_fa rfl rfl) rfl rfl ?_
    refine l_x (x_load rfl rfl (at_own (by repeat (first | exact .head _ | refine .tail _ ?_ | refine List.mem_append_right _ ?_)) (by rfl))) rfl rfl ?_
    rintro _ _ ⟨rfl, rfl⟩
    refine l_l rfl rfl rfl ?_
    refine l_b rfl rfl rfl (fun h2 => ?_) (fun h2 => ?_)
    · refine l_l rfl rfl rfl ?_
      refine l_l rfl rfl rfl ?_
      refine l_l rfl rfl rfl ?_
      refine l_nil ?_
      refine c_cond rfl (fun h3 => ?_) (fun h3 => ?_)
      · refine c_seq ?_
        obtain ⟨hn9, p, q, hpq⟩ := word_2 (c := c) ha (by (try simp only [decide_eq_true_eq, decide_eq_false_iff_not, beq_iff_eq, beq_eq_false_iff_ne, bne_iff_ne, bne_eq_false_iff_eq, ne_eq] at *); omega) (by (try simp only [decide_eq_true_eq, decide_eq_false_iff_not, beq_iff_eq, beq_eq_false_iff_ne, bne_iff_ne, bne_eq_false_iff_eq, ne_eq] at *); omega)
        rw [e2] at hpq
        refine c_region ?_
        refine l_l (light_fa rfl rfl) rfl rfl ?_
        refine l_x (x_load rfl rfl (at_own (by repeat (first | exact .head _ | refine .tail _ ?_ | refine List.mem_append_right _ ?_)) (by rfl))) rfl rfl ?_
        rintro _ _ ⟨rfl, rfl⟩
        refine l_l rfl rfl rfl ?_
        refine l_as (v := (.int .u16 b)) rfl rfl rfl (congrArg _ (wrap_u16_id (by omega) (by omega))) ?_
        refine l_sure true rfl rfl rfl (by rw [hn9]; simp) ?_
        refine l_l rfl rfl rfl ?_
        refine l_l rfl rfl rfl ?_
        refine l_l rfl rfl rfl ?_
        rw [hpq]
        refine l_x (x_val call_15 rfl (fun w hw => has_fn p _ q (by have h9 := txt_short (c := c) ha hb; rw [hpq] at h9; omega) w)) rfl rfl ?_
        rintro _ _ ⟨rfl, rfl⟩
        refine l_l rfl rfl rfl ?_
        refine l_l rfl rfl rfl ?_
        refine l_nil ?_
        refine c_ret ?_
        exact l_end0 (fun _ _ => rets_v rfl) ⟨rfl, rfl⟩
      · refine c_skip ?_
        refine c_seq ?_
        refine c_region ?_
        refine l_l (light_fa rfl rfl) rfl rfl ?_
        refine l_x (x_load rfl rfl (at_own (by repeat (first | exact .head _ | refine .tail _ ?_ | refine List.mem_append_right _ ?_)) (by rfl))) rfl rfl ?_
        rintro _ _ ⟨rfl, rfl⟩
        refine l_l rfl rfl rfl ?_
        refine l_b rfl rfl rfl (fun h4 => ?_) (fun h4 => ?_)
        · refine l_p rfl rfl ?_
          refine l_p rfl rfl ?_
          refine l_p rfl rfl ?_
          refine l_l rfl rfl rfl ?_
          refine l_l rfl rfl rfl ?_
          refine l_nil ?_
          refine c_ret ?_
          exact l_end0 (fun _ _ => rets_v rfl) ⟨rfl, rfl⟩
        · refine l_l (light_fa rfl rfl) rfl rfl ?_
          refine l_x (x_load rfl rfl (at_own (by repeat (first | exact .head _ | refine .tail _ ?_ | refine List.mem_append_right _ ?_)) (by rfl))) rfl rfl ?_
          rintro _ _ ⟨rfl, rfl⟩
          refine l_sure true rfl rfl rfl (by have h9 := word_1 (a := a) (b := b) (c := c) ha (by first | exact .inr ⟨by (try simp only [decide_eq_true_eq, decide_eq_false_iff_not, beq_iff_eq, beq_eq_false_iff_ne, bne_iff_ne, bne_eq_false_iff_eq, ne_eq] at *); omega, by (try simp only [decide_eq_true_eq, decide_eq_false_iff_not, beq_iff_eq, beq_eq_false_iff_ne, bne_iff_ne, bne_eq_false_iff_eq, ne_eq] at *); omega⟩ | exact .inl (by (try simp only [decide_eq_true_eq, decide_eq_false_iff_not, beq_iff_eq, beq_eq_false_iff_ne, bne_iff_ne, bne_eq_false_iff_eq, ne_eq] at *); omega)); exact h9.elim (fun h9 => absurd h9 (by (try simp only [decide_eq_true_eq, decide_eq_false_iff_not, beq_iff_eq, beq_eq_false_iff_ne, bne_iff_ne, bne_eq_false_iff_eq, ne_eq] at *); omega)) (fun h9 => by rw [h9]; rfl)) ?_
          refine l_l rfl rfl rfl ?_
          refine l_l rfl rfl rfl ?_
          refine l_nil ?_
          refine c_ret ?_
          exact l_end0 (fun _ _ => rets_v rfl) ⟨rfl, rfl⟩
    · refine l_p rfl rfl ?_
      refine l_p rfl rfl ?_
      refine l_l rfl rfl rfl ?_
      refine l_nil ?_
      refine c_false rfl ?_
      refine c_skip ?_
      refine c_seq ?_
      refine c_region ?_
      refine l_l (light_fa rfl rfl) rfl rfl ?_
      refine l_x (x_load rfl rfl (at_own (by repeat (first | exact .head _ | refine .tail _ ?_ | refine List.mem_append_right _ ?_)) (by rfl))) rfl rfl ?_
      rintro _ _ ⟨rfl, rfl⟩
      refine l_l rfl rfl rfl ?_
      refine l_b rfl rfl rfl (fun h5 => ?_) (fun h5 => ?_)
      · refine l_p rfl rfl ?_
        refine l_p rfl rfl ?_
        refine l_p rfl rfl ?_
        refine l_l rfl rfl rfl ?_
        refine l_l rfl rfl rfl ?_
        refine l_nil ?_
        refine c_ret ?_
        exact l_end0 (fun _ _ => rets_v rfl) ⟨rfl, rfl⟩
      · refine l_l (light_fa rfl rfl) rfl rfl ?_
        refine l_x (x_load rfl rfl (at_own (by repeat (first | exact .head _ | refine .tail _ ?_ | refine List.mem_append_right _ ?_)) (by rfl))) rfl rfl ?_
        rintro _ _ ⟨rfl, rfl⟩
        refine l_sure true rfl rfl rfl (by have h9 := word_1 (a := a) (b := b) (c := c) ha (by first | exact .inr ⟨by (try simp only [decide_eq_true_eq, decide_eq_false_iff_not, beq_iff_eq, beq_eq_false_iff_ne, bne_iff_ne, bne_eq_false_iff_eq, ne_eq] at *); omega, by (try simp only [decide_eq_true_eq, decide_eq_false_iff_not, beq_iff_eq, beq_eq_false_iff_ne, bne_iff_ne, bne_eq_false_iff_eq, ne_eq] at *); omega⟩ | exact .inl (by (try simp only [decide_eq_true_eq, decide_eq_false_iff_not, beq_iff_eq, beq_eq_false_iff_ne, bne_iff_ne, bne_eq_false_iff_eq, ne_eq] at *); omega)); exact h9.elim (fun h9 => absurd h9 (by (try simp only [decide_eq_true_eq, decide_eq_false_iff_not, beq_iff_eq, beq_eq_false_iff_ne, bne_iff_ne, bne_eq_false_iff_eq, ne_eq] at *); omega)) (fun h9 => by rw [h9]; rfl)) ?_
        refine l_l rfl rfl rfl ?_
        refine l_l rfl rfl rfl ?_
        refine l_nil ?_
        refine c_ret ?_
        exact l_end0 (fun _ _ => rets_v rfl) ⟨rfl, rfl⟩

end Go.Proofs.Ytmihilhmdcndfaa
