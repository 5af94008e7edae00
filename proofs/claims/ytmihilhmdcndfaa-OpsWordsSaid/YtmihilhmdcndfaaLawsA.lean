/- The contracts of the laws of what bytes begin with, of texts, of sizes, of no table. -/
import Derived.Test.YtmihilhmdcndfaaTable
import Derived.Test.YtmihilhmdcndfaaTextB
import Derived.Test.YtmihilhmdcndfaaTextR
import Derived.Test.YtmihilhmdcndfaaDecR
import Derived.Test.YtmihilhmdcndfaaCalls
namespace Go.Proofs.Ytmihilhmdcndfaa
open Go Go.VV Go.Proofs
set_option linter.unusedSimpArgs false
set_option linter.unusedVariables false
set_option maxRecDepth 100000
theorem awake_fn (w : World) : Does Try.prog 9 [] w [] (fun v H => H = [] ∧ v = .bool true) := by
  refine does_of Try.func9 rfl rfl rfl (St.refl w) ?_
  refine c_seq ?_
  refine c_region ?_
  refine l_l rfl rfl rfl ?_
  refine l_nil ?_
  refine c_seq ?_
  refine c_region ?_
  refine l_x (x_call call_10 rfl (fun w hw => tnew_fn w)) rfl rfl ?_
  rintro _ _ ⟨G3, ⟨b3, rfl, hT3⟩, rfl⟩
  refine l_l rfl rfl rfl ?_
  refine l_nil ?_
  refine c_seq ?_
  refine c_seq ?_
  refine c_region ?_
  refine l_l rfl rfl rfl ?_
  refine l_l rfl rfl rfl ?_
  refine l_nil ?_
  refine c_false rfl ?_
  refine c_skip ?_
  refine c_seq ?_
  refine c_region ?_
  refine l_l rfl rfl rfl ?_
  refine l_x (x_callF (A := G3) (G := []) [b3] call_11 rfl (TabH.mem hT3) (fun w hw => decode_fn b3 (.int .u32 0) G3 hT3 62 18 0 (by decide) (by decide) (by decide) w (TabH.lent hT3 hw))) rfl rfl ?_
  rintro _ _ ⟨G7, ⟨rfl, hT7⟩, rfl⟩
  rw [show dcd 62 18 0 = ⟨8, 7, 0, 2, 18⟩ by kernel_rfl]
  refine l_x (x_alloc rfl) rfl rfl ?_
  rintro _ _ ⟨b2, rfl, rfl⟩
  refine l_x (by first | exact x_store 0 rfl rfl rfl rfl rfl rfl (by first | rfl | exact Nat.le_of_ble_eq_true rfl | (simp; done)) | exact x_store 1 rfl rfl rfl rfl rfl rfl (by first | rfl | exact Nat.le_of_ble_eq_true rfl | (simp; done)) | exact x_store 2 rfl rfl rfl rfl rfl rfl (by first | rfl | exact Nat.le_of_ble_eq_true rfl | (simp; done)) | exact x_store 3 rfl rfl rfl rfl rfl rfl (by first | rfl | exact Nat.le_of_ble_eq_true rfl | (simp; done))) rfl rfl ?_
  rintro _ _ ⟨rfl, rfl⟩
  refine l_nil ?_
  refine c_seq ?_
  refine c_region ?_
  refine l_l (light_fa rfl rfl) rfl rfl ?_
  refine l_x (x_load rfl rfl (at_own (by repeat (first | exact .head _ | refine .tail _ ?_ | refine List.mem_append_right _ ?_)) (by rfl))) rfl rfl ?_
  rintro _ _ ⟨rfl, rfl⟩
  refine l_sure true rfl rfl rfl rfl ?_
  refine l_l rfl rfl rfl ?_
  refine l_l (light_fa rfl rfl) rfl rfl ?_
  refine l_x (x_load rfl rfl (at_own (by repeat (first | exact .head _ | refine .tail _ ?_ | refine List.mem_append_right _ ?_)) (by rfl))) rfl rfl ?_
  rintro _ _ ⟨rfl, rfl⟩
  refine l_sure true rfl rfl rfl rfl ?_
  refine l_l rfl rfl rfl ?_
  refine l_l rfl rfl rfl ?_
  refine l_l (light_fa rfl rfl) rfl rfl ?_
  refine l_x (x_load rfl rfl (at_own (by repeat (first | exact .head _ | refine .tail _ ?_ | refine List.mem_append_right _ ?_)) (by rfl))) rfl rfl ?_
  rintro _ _ ⟨rfl, rfl⟩
  refine l_sure true rfl rfl rfl rfl ?_
  refine l_l rfl rfl rfl ?_
  refine l_l rfl rfl rfl ?_
  refine l_x (x_loadA rfl rfl rfl (by first | exact row_own (by repeat (first | exact .head _ | refine .tail _ ?_ | refine List.mem_append_right _ ?_)) | exact row_own_at (by repeat (first | exact .head _ | refine .tail _ ?_ | refine List.mem_append_right _ ?_)) _ 5 rfl)) rfl rfl ?_
  rintro _ _ ⟨rfl, rfl⟩
  refine l_x (x_val call_13 rfl (fun w hw => text_fn ⟨8, 7, 0, 2, 18⟩ (by decide) (by decide) w)) rfl rfl ?_
  rintro _ _ ⟨rfl, rfl⟩
  refine l_sure true (light_eqstr rfl rfl) rfl rfl (by kernel_rfl) ?_
  refine l_l rfl rfl rfl ?_
  refine l_l rfl rfl rfl ?_
  refine l_nil ?_
  refine c_ret ?_
  exact l_end0 (fun _ _ => rets_v rfl) ⟨rfl, rfl⟩

theorem decode_law (a b c : Int) (ha : 0 ≤ a ∧ a < 256) (hb : 0 ≤ b ∧ b < 256) (hc : 0 ≤ c ∧ c < 256) (d : Int) (hd : 0 ≤ d ∧ d < 256) (w : World) :
    Does Try.prog 3 [.int .u8 a, .int .u8 b, .int .u8 c, .int .u8 d] w [] (fun v H => H = [] ∧ v = .bool true) := by
  refine does_of Try.func3 rfl rfl rfl (St.refl w) ?_
  refine c_seq ?_
  refine c_region ?_
  refine l_l rfl rfl rfl ?_
  refine l_nil ?_
  refine c_seq ?_
  refine c_seq ?_
  refine c_region ?_
  refine l_x (x_val call_9 rfl (fun w hw => awake_fn w)) rfl rfl ?_
  rintro _ _ ⟨rfl, rfl⟩
  refine l_sure false rfl rfl rfl rfl ?_
  refine l_nil ?_
  refine c_false rfl ?_
  refine c_skip ?_
  refine c_seq ?_
  refine c_region ?_
  refine l_x (x_call call_10 rfl (fun w hw => tnew_fn w)) rfl rfl ?_
  rintro _ _ ⟨G13, ⟨b13, rfl, hT13⟩, rfl⟩
  refine l_l rfl rfl rfl ?_
  refine l_nil ?_
  refine c_seq ?_
  refine c_region ?_
  refine l_l rfl rfl rfl ?_
  refine l_l rfl rfl rfl ?_
  refine l_l rfl rfl rfl ?_
  refine l_l rfl rfl rfl ?_
  refine l_x (x_callF (A := G13) (G := []) [b13] call_11 rfl (TabH.mem hT13) (fun w hw => decode_fn b13 (.int .u32 0) G13 hT13 a b c ha hb hc w (TabH.lent hT13 hw))) rfl rfl ?_
  rintro _ _ ⟨G18, ⟨rfl, hT18⟩, rfl⟩
  refine l_x (x_alloc rfl) rfl rfl ?_
  rintro _ _ ⟨b10, rfl, rfl⟩
  refine l_x (by first | exact x_store 0 rfl rfl rfl rfl rfl rfl (by first | rfl | exact Nat.le_of_ble_eq_true rfl | (simp; done)) | exact x_store 1 rfl rfl rfl rfl rfl rfl (by first | rfl | exact Nat.le_of_ble_eq_true rfl | (simp; done)) | exact x_store 2 rfl rfl rfl rfl rfl rfl (by first | rfl | exact Nat.le_of_ble_eq_true rfl | (simp; done)) | exact x_store 3 rfl rfl rfl rfl rfl rfl (by first | rfl | exact Nat.le_of_ble_eq_true rfl | (simp; done))) rfl rfl ?_
  rintro _ _ ⟨rfl, rfl⟩
  refine l_nil ?_
  refine c_seq ?_
  refine c_region ?_
  refine l_l rfl rfl rfl ?_
  refine l_l rfl rfl rfl ?_
  refine l_l rfl rfl rfl ?_
  refine l_l rfl rfl rfl ?_
  refine l_heap (H' := G18 ++ [(b10, _)]) (fun _ h => St.fl [[_], G18, []] [1, 0] rfl h) ?_
  refine l_x (x_callF (A := G18) (G := [(b10, _)]) [b13] call_11 rfl (TabH.mem hT18) (fun w hw => decode_fn b13 (.int .u32 0) G18 hT18 d c b hd hc hb w (TabH.lent hT18 hw))) rfl rfl ?_
  rintro _ _ ⟨G23, ⟨rfl, hT23⟩, rfl⟩
  refine l_nil ?_
  refine c_seq ?_
  refine c_draw _ [1, 2, 3, 4] (.step true 0 (.step true 1 (.step true 2 (.step true 3 (.step false 4 (.step true 5 (.step true 6 (.step true 7 (.step true 8 (.step true 9 (.step true 10 (.fork 11 (.step false 12 (.step true 13 (.step true 14 (.step true 15 .done)))) (.fork 12 (.step false 11 (.step true 13 (.step true 14 (.step true 15 .done)))) .stop))))))))))))) rfl (by kernel_rfl) (by kernel_rfl) (fun _ h => h) ?_
  refine d_loadA rfl rfl rfl rfl (by first | exact srow_own (by repeat (first | exact .head _ | refine .tail _ ?_ | refine List.mem_append_right _ ?_)) | exact srow_own_at (by repeat (first | exact .head _ | refine .tail _ ?_ | refine List.mem_append_right _ ?_)) _ 5 rfl) rfl rfl ?_
  refine d_light rfl rfl rfl rfl rfl ?_
  refine d_light rfl rfl rfl rfl rfl ?_
  refine d_light rfl rfl rfl rfl rfl ?_
  refine d_x rfl (x_val call_12 rfl (fun w hw => rdecode_fn a b c ha hb hc w)) rfl rfl (by intro _ _ _ hK x hx; obtain ⟨rfl, rfl⟩ := hK; repeat (first | exact hx | exact List.mem_append_left _ hx | refine List.mem_append_right _ ?_ | refine .tail _ ?_)) ?_
  rintro _ _ ⟨rfl, rfl⟩
  refine d_eqs (ks := [.int .i64, .int .i64, .int .i64, .int .i64, .int .u16]) rfl rfl rfl (by kernel_rfl) (by kernel_rfl) rfl rfl rfl rfl (b := true) (lveq_cO _) ?_
  refine d_light rfl rfl rfl rfl rfl ?_
  refine d_light rfl rfl rfl rfl rfl ?_
  refine d_light rfl rfl rfl rfl rfl ?_
  refine d_light rfl rfl rfl rfl rfl ?_
  refine d_light rfl rfl rfl rfl rfl ?_
  refine d_fork ?_ ?_
  · refine d_x rfl (x_callF (A := G23) (G := [(b10, _)]) [b13] call_11 rfl (TabH.mem hT23) (fun w hw => decode_fn b13 (.int .u32 0) G23 hT23 a b c ha hb hc w (TabH.lent hT23 hw))) rfl rfl (by intro h; cases h) ?_
    rintro _ _ ⟨G35, ⟨rfl, hT35⟩, rfl⟩
    refine d_x rfl (x_loadA rfl rfl rfl (by first | exact row_own (by repeat (first | exact .head _ | refine .tail _ ?_ | refine List.mem_append_right _ ?_)) | exact row_own_at (by repeat (first | exact .head _ | refine .tail _ ?_ | refine List.mem_append_right _ ?_)) _ 5 rfl)) rfl rfl (by intro h; cases h) ?_
    rintro _ _ ⟨rfl, rfl⟩
    refine d_eqs (ks := [.int .i64, .int .i64, .int .i64, .int .i64, .int .u16]) rfl rfl rfl (by kernel_rfl) (by kernel_rfl) rfl rfl rfl rfl (b := true) (lveq_cO _) ?_
    refine d_light rfl rfl rfl rfl rfl ?_
    refine d_light rfl rfl rfl rfl rfl ?_
    refine d_nil ?_
    refine c_ret ?_
    exact l_end0 (fun _ _ => rets_v rfl) ⟨rfl, rfl⟩
  refine d_fork ?_ ?_
  · refine d_x rfl (x_loadA rfl rfl rfl (by first | exact row_own (by repeat (first | exact .head _ | refine .tail _ ?_ | refine List.mem_append_right _ ?_)) | exact row_own_at (by repeat (first | exact .head _ | refine .tail _ ?_ | refine List.mem_append_right _ ?_)) _ 5 rfl)) rfl rfl (by intro h; cases h) ?_
    rintro _ _ ⟨rfl, rfl⟩
    refine d_x rfl (x_callF (A := G23) (G := [(b10, _)]) [b13] call_11 rfl (TabH.mem hT23) (fun w hw => decode_fn b13 (.int .u32 0) G23 hT23 a b c ha hb hc w (TabH.lent hT23 hw))) rfl rfl (by intro h; cases h) ?_
    rintro _ _ ⟨G35, ⟨rfl, hT35⟩, rfl⟩
    refine d_eqs (ks := [.int .i64, .int .i64, .int .i64, .int .i64, .int .u16]) rfl rfl rfl (by kernel_rfl) (by kernel_rfl) rfl rfl rfl rfl (b := true) (lveq_cO _) ?_
    refine d_light rfl rfl rfl rfl rfl ?_
    refine d_light rfl rfl rfl rfl rfl ?_
    refine d_nil ?_
    refine c_ret ?_
    exact l_end0 (fun _ _ => rets_v rfl) ⟨rfl, rfl⟩
  exact d_stop

theorem text_law (o : Opr) (ho : 0 ≤ o.n ∧ o.n < 65536) (a b c : Int) (ha : 0 ≤ a ∧ a < 256) (hb : 0 ≤ b ∧ b < 256) (hc : 0 ≤ c ∧ c < 256) (w : World) :
    Does Try.prog 4 [.agg (cO o).toArray, .int .u8 a, .int .u8 b, .int .u8 c] w [] (fun v H => H = [] ∧ v = .bool true) := by
  have hN := (dcd_fine ha hb hc).num
  refine does_of Try.func4 rfl rfl rfl (St.refl w) ?_
  refine c_seq ?_
  refine c_region ?_
  refine l_x (x_box rfl rfl) rfl rfl ?_
  rintro _ _ ⟨b4, rfl, rfl⟩
  refine l_l rfl rfl rfl ?_
  refine l_nil ?_
  refine c_seq ?_
  refine c_seq ?_
  refine c_region ?_
  refine l_x (x_val call_9 rfl (fun w hw => awake_fn w)) rfl rfl ?_
  rintro _ _ ⟨rfl, rfl⟩
  refine l_sure false rfl rfl rfl rfl ?_
  refine l_nil ?_
  refine c_false rfl ?_
  refine c_skip ?_
  refine c_seq ?_
  refine c_region ?_
  refine l_x (x_call call_10 rfl (fun w hw => tnew_fn w)) rfl rfl ?_
  rintro _ _ ⟨G13, ⟨b13, rfl, hT13⟩, rfl⟩
  refine l_l rfl rfl rfl ?_
  refine l_l rfl rfl rfl ?_
  refine l_l rfl rfl rfl ?_
  refine l_x (x_callF (A := G13) (G := [(b4, _)]) [b13] call_11 rfl (TabH.mem hT13) (fun w hw => decode_fn b13 (.int .u32 0) G13 hT13 a b c ha hb hc w (TabH.lent hT13 hw))) rfl rfl ?_
  rintro _ _ ⟨G16, ⟨rfl, hT16⟩, rfl⟩
  refine l_x (x_alloc rfl) rfl rfl ?_
  rintro _ _ ⟨b9, rfl, rfl⟩
  refine l_x (by first | exact x_store 0 rfl rfl rfl rfl rfl rfl (by first | rfl | exact Nat.le_of_ble_eq_true rfl | (simp; done)) | exact x_store 1 rfl rfl rfl rfl rfl rfl (by first | rfl | exact Nat.le_of_ble_eq_true rfl | (simp; done)) | exact x_store 2 rfl rfl rfl rfl rfl rfl (by first | rfl | exact Nat.le_of_ble_eq_true rfl | (simp; done)) | exact x_store 3 rfl rfl rfl rfl rfl rfl (by first | rfl | exact Nat.le_of_ble_eq_true rfl | (simp; done))) rfl rfl ?_
  rintro _ _ ⟨rfl, rfl⟩
  refine l_nil ?_
  refine c_seq ?_
  refine c_draw _ [1, 2, 3, 8, 9, 10] (.step true 0 (.step true 2 (.step false 1 (.step false 3 (.step true 4 (.step true 5 (.step true 6 (.step true 8 (.step true 9 (.step true 10 (.step false 7 (.step false 11 (.step false 12 (.step true 13 (.step true 14 (.step true 15 .done)))))))))))))))) rfl (by kernel_rfl) (by kernel_rfl) (fun _ h => h) ?_
  refine d_loadA rfl rfl rfl rfl (by first | exact srow_own (by repeat (first | exact .head _ | refine .tail _ ?_ | refine List.mem_append_right _ ?_)) | exact srow_own_at (by repeat (first | exact .head _ | refine .tail _ ?_ | refine List.mem_append_right _ ?_)) _ 5 rfl) rfl rfl ?_
  refine d_loadA rfl rfl rfl rfl (by first | exact srow_own (by repeat (first | exact .head _ | refine .tail _ ?_ | refine List.mem_append_right _ ?_)) | exact srow_own_at (by repeat (first | exact .head _ | refine .tail _ ?_ | refine List.mem_append_right _ ?_)) _ 5 rfl) rfl rfl ?_
  refine d_x rfl (x_val call_13 rfl (fun w hw => text_fn _ ho.1 ho.2 w)) rfl rfl (by intro _ _ _ hK x hx; obtain ⟨rfl, rfl⟩ := hK; repeat (first | exact hx | exact List.mem_append_left _ hx | refine List.mem_append_right _ ?_ | refine .tail _ ?_)) ?_
  rintro _ _ ⟨rfl, rfl⟩
  refine d_x rfl (x_val call_14 rfl (fun w hw => rtext_fn _ ho.1 ho.2 w)) rfl rfl (by intro _ _ _ hK x hx; obtain ⟨rfl, rfl⟩ := hK; repeat (first | exact hx | exact List.mem_append_left _ hx | refine List.mem_append_right _ ?_ | refine .tail _ ?_)) ?_
  rintro _ _ ⟨rfl, rfl⟩
  refine d_sure true rfl (light_eqstr rfl rfl) rfl rfl (by simp) ?_
  refine d_light rfl rfl rfl rfl rfl ?_
  refine d_loadA rfl rfl rfl rfl (by first | exact srow_own (by repeat (first | exact .head _ | refine .tail _ ?_ | refine List.mem_append_right _ ?_)) | exact srow_own_at (by repeat (first | exact .head _ | refine .tail _ ?_ | refine List.mem_append_right _ ?_)) _ 5 rfl) rfl rfl ?_
  refine d_light rfl rfl rfl rfl rfl ?_
  refine d_light rfl rfl rfl rfl rfl ?_
  refine d_light rfl rfl rfl rfl rfl ?_
  refine d_x rfl (x_val call_13 rfl (fun w hw => text_fn _ hN.1 hN.2 w)) rfl rfl (by intro h; cases h) ?_
  rintro _ _ ⟨rfl, rfl⟩
  refine d_x rfl (x_val call_12 rfl (fun w hw => rdecode_fn a b c ha hb hc w)) rfl rfl (by intro h; cases h) ?_
  rintro _ _ ⟨rfl, rfl⟩
  refine d_x rfl (x_val call_14 rfl (fun w hw => rtext_fn _ hN.1 hN.2 w)) rfl rfl (by intro h; cases h) ?_
  rintro _ _ ⟨rfl, rfl⟩
  refine d_sure true rfl (light_eqstr rfl rfl) rfl rfl (by simp) ?_
  refine d_light rfl rfl rfl rfl rfl ?_
  refine d_light rfl rfl rfl rfl rfl ?_
  refine d_nil ?_
  refine c_ret ?_
  exact l_end0 (fun _ _ => rets_v rfl) ⟨rfl, rfl⟩

theorem sizes_law (a b c : Int) (ha : 0 ≤ a ∧ a < 256) (hb : 0 ≤ b ∧ b < 256) (hc : 0 ≤ c ∧ c < 256) (d : Int) (hd : 0 ≤ d ∧ d < 256) (w : World) :
    Does Try.prog 5 [.int .u8 a, .int .u8 b, .int .u8 c, .int .u8 d] w [] (fun v H => H = [] ∧ v = .bool true) := by
  obtain ⟨hk, hs, hN, hsm⟩ := dcd_fine ha hb hc
  refine does_of Try.func5 rfl rfl rfl (St.refl w) ?_
  refine c_seq ?_
  refine c_region ?_
  refine l_l rfl rfl rfl ?_
  refine l_nil ?_
  refine c_seq ?_
  refine c_seq ?_
  refine c_region ?_
  refine l_x (x_val call_9 rfl (fun w hw => awake_fn w)) rfl rfl ?_
  rintro _ _ ⟨rfl, rfl⟩
  refine l_sure false rfl rfl rfl rfl ?_
  refine l_nil ?_
  refine c_false rfl ?_
  refine c_skip ?_
  refine c_seq ?_
  refine c_region ?_
  refine l_x (x_call call_10 rfl (fun w hw => tnew_fn w)) rfl rfl ?_
  rintro _ _ ⟨G13, ⟨b13, rfl, hT13⟩, rfl⟩
  refine l_l rfl rfl rfl ?_
  refine l_nil ?_
  refine c_seq ?_
  refine c_region ?_
  refine l_l rfl rfl rfl ?_
  refine l_l rfl rfl rfl ?_
  refine l_l rfl rfl rfl ?_
  refine l_l rfl rfl rfl ?_
  refine l_x (x_callF (A := G13) (G := []) [b13] call_11 rfl (TabH.mem hT13) (fun w hw => decode_fn b13 (.int .u32 0) G13 hT13 a b c ha hb hc w (TabH.lent hT13 hw))) rfl rfl ?_
  rintro _ _ ⟨G18, ⟨rfl, hT18⟩, rfl⟩
  refine l_x (x_alloc rfl) rfl rfl ?_
  rintro _ _ ⟨b10, rfl, rfl⟩
  refine l_x (by first | exact x_store 0 rfl rfl rfl rfl rfl rfl (by first | rfl | exact Nat.le_of_ble_eq_true rfl | (simp; done)) | exact x_store 1 rfl rfl rfl rfl rfl rfl (by first | rfl | exact Nat.le_of_ble_eq_true rfl | (simp; done)) | exact x_store 2 rfl rfl rfl rfl rfl rfl (by first | rfl | exact Nat.le_of_ble_eq_true rfl | (simp; done)) | exact x_store 3 rfl rfl rfl rfl rfl rfl (by first | rfl | exact Nat.le_of_ble_eq_true rfl | (simp; done))) rfl rfl ?_
  rintro _ _ ⟨rfl, rfl⟩
  refine l_nil ?_
  refine c_seq ?_
  refine c_seq ?_
  refine c_region ?_
  refine l_l (light_fa rfl rfl) rfl rfl ?_
  refine l_x (x_load rfl rfl (at_own (by repeat (first | exact .head _ | refine .tail _ ?_ | refine List.mem_append_right _ ?_)) (by rfl))) rfl rfl ?_
  rintro _ _ ⟨rfl, rfl⟩
  refine l_sure false rfl rfl rfl (by (try simp only [decide_eq_true_eq, decide_eq_false_iff_not, beq_iff_eq, beq_eq_false_iff_ne, bne_iff_ne, bne_eq_false_iff_eq, ne_eq] at *); omega) ?_
  refine l_l rfl rfl rfl ?_
  refine l_l (light_fa rfl rfl) rfl rfl ?_
  refine l_x (x_load rfl rfl (at_own (by repeat (first | exact .head _ | refine .tail _ ?_ | refine List.mem_append_right _ ?_)) (by rfl))) rfl rfl ?_
  rintro _ _ ⟨rfl, rfl⟩
  refine l_sure false rfl rfl rfl (by (try simp only [decide_eq_true_eq, decide_eq_false_iff_not, beq_iff_eq, beq_eq_false_iff_ne, bne_iff_ne, bne_eq_false_iff_eq, ne_eq] at *); omega) ?_
  refine l_l rfl rfl rfl ?_
  refine l_l rfl rfl rfl ?_
  refine l_l (light_fa rfl rfl) rfl rfl ?_
  refine l_x (x_load rfl rfl (at_own (by repeat (first | exact .head _ | refine .tail _ ?_ | refine List.mem_append_right _ ?_)) (by rfl))) rfl rfl ?_
  rintro _ _ ⟨rfl, rfl⟩
  refine l_sure false rfl rfl rfl (by (try simp only [decide_eq_true_eq, decide_eq_false_iff_not, beq_iff_eq, beq_eq_false_iff_ne, bne_iff_ne, bne_eq_false_iff_eq, ne_eq] at *); omega) ?_
  refine l_l rfl rfl rfl ?_
  refine l_l rfl rfl rfl ?_
  refine l_l (light_fa rfl rfl) rfl rfl ?_
  refine l_x (x_load rfl rfl (at_own (by repeat (first | exact .head _ | refine .tail _ ?_ | refine List.mem_append_right _ ?_)) (by rfl))) rfl rfl ?_
  rintro _ _ ⟨rfl, rfl⟩
  refine l_sure false rfl rfl rfl (by (try simp only [decide_eq_true_eq, decide_eq_false_iff_not, beq_iff_eq, beq_eq_false_iff_ne, bne_iff_ne, bne_eq_false_iff_eq, ne_eq] at *); omega) ?_
  refine l_l rfl rfl rfl ?_
  refine l_nil ?_
  refine c_false rfl ?_
  refine c_skip ?_
  refine c_seq ?_
  refine c_draw _ [] (.step true 0 (.step true 1 (.step true 2 (.step true 3 (.step true 4 (.step true 5 (.step true 6 (.step true 7 (.fork 8 (.step false 9 (.step true 10 (.step true 11 (.step true 12 (.step true 13 (.step false 14 (.step true 15 (.step true 16 (.step true 17 (.step true 18 (.step true 19 (.step true 20 (.fork 21 (.step false 22 (.step true 23 (.step true 24 (.step true 25 (.step true 26 (.step true 27 (.step false 28 (.step true 29 (.step true 30 (.step true 31 (.step false 32 (.step true 33 (.step true 34 (.step true 35 (.step true 36 .done))))))))))))))) (.fork 22 (.step false 21 (.step true 23 (.step true 24 (.step true 25 (.step true 26 (.step true 27 (.step false 28 (.step true 29 (.step true 30 (.step true 31 (.step false 32 (.step true 33 (.step true 34 (.step true 35 (.step true 36 .done))))))))))))))) .stop)))))))))))))) (.fork 9 (.step false 8 (.step true 10 (.step true 11 (.step true 12 (.step true 13 (.step false 14 (.step true 15 (.step true 16 (.step true 17 (.step true 18 (.step true 19 (.step true 20 (.fork 21 (.step false 22 (.step true 23 (.step true 24 (.step true 25 (.step true 26 (.step true 27 (.step false 28 (.step true 29 (.step true 30 (.step true 31 (.step false 32 (.step true 33 (.step true 34 (.step true 35 (.step true 36 .done))))))))))))))) (.fork 22 (.step false 21 (.step true 23 (.step true 24 (.step true 25 (.step true 26 (.step true 27 (.step false 28 (.step true 29 (.step true 30 (.step true 31 (.step false 32 (.step true 33 (.step true 34 (.step true 35 (.step true 36 .done))))))))))))))) .stop)))))))))))))) .stop)))))))))) rfl (by kernel_rfl) (by kernel_rfl) (fun _ h => h) ?_
  refine d_light rfl (light_fa rfl rfl) rfl rfl rfl ?_
  refine d_load rfl rfl rfl (s_own (by repeat (first | exact .head _ | refine .tail _ ?_ | refine List.mem_append_right _ ?_)) (by rfl)) rfl rfl ?_
  refine d_light rfl rfl rfl rfl rfl ?_
  refine d_bool rfl rfl rfl rfl (fun h1 => ?_) (fun h1 => ?_)
  · refine d_pass rfl rfl rfl ?_
    refine d_pass rfl rfl rfl ?_
    refine d_pass rfl rfl rfl ?_
    refine d_pass rfl rfl rfl ?_
    refine d_fork ?_ ?_
    · refine d_passH rfl rfl rfl ?_
      refine d_passH rfl rfl rfl ?_
      refine d_pass rfl rfl rfl ?_
      refine d_light rfl rfl rfl rfl rfl ?_
      refine d_light rfl rfl rfl rfl rfl ?_
      refine d_light rfl (light_fa rfl rfl) rfl rfl rfl ?_
      refine d_x rfl (x_load rfl rfl (at_own (by repeat (first | exact .head _ | refine .tail _ ?_ | refine List.mem_append_right _ ?_)) (by rfl))) rfl rfl (by intro h; cases h) ?_
      rintro _ _ ⟨rfl, rfl⟩
      refine d_light rfl rfl rfl rfl rfl ?_
      refine d_bool rfl rfl rfl rfl (fun h2 => ?_) (fun h2 => ?_)
      · refine d_pass rfl rfl rfl ?_
        refine d_pass rfl rfl rfl ?_
        refine d_pass rfl rfl rfl ?_
        refine d_pass rfl rfl rfl ?_
        refine d_fork ?_ ?_
        · refine d_passH rfl rfl rfl ?_
          refine d_passH rfl rfl rfl ?_
          refine d_pass rfl rfl rfl ?_
          refine d_light rfl rfl rfl rfl rfl ?_
          refine d_light rfl rfl rfl rfl rfl ?_
          refine d_light rfl rfl rfl rfl rfl ?_
          refine d_light rfl (light_fa rfl rfl) rfl rfl rfl ?_
          refine d_x rfl (x_load rfl rfl (at_own (by repeat (first | exact .head _ | refine .tail _ ?_ | refine List.mem_append_right _ ?_)) (by rfl))) rfl rfl (by intro h; cases h) ?_
          rintro _ _ ⟨rfl, rfl⟩
          refine d_light rfl rfl rfl rfl rfl ?_
          refine d_bool rfl rfl rfl rfl (fun h3 => ?_) (fun h3 => ?_)
          · refine d_pass rfl rfl rfl ?_
            refine d_passH rfl rfl rfl ?_
            refine d_pass rfl rfl rfl ?_
            refine d_light rfl rfl rfl rfl rfl ?_
            refine d_light rfl rfl rfl rfl rfl ?_
            refine d_light rfl rfl rfl rfl rfl ?_
            refine d_nil ?_
            refine c_ret ?_
            exact l_end0 (fun _ _ => rets_v rfl) ⟨rfl, rfl⟩
          · refine d_light rfl (light_fa rfl rfl) rfl rfl rfl ?_
            refine d_x rfl (x_load rfl rfl (at_own (by repeat (first | exact .head _ | refine .tail _ ?_ | refine List.mem_append_right _ ?_)) (by rfl))) rfl rfl (by intro h; cases h) ?_
            rintro _ _ ⟨rfl, rfl⟩
            refine d_sure true rfl rfl rfl rfl (by (try simp only [decide_eq_true_eq, decide_eq_false_iff_not, beq_iff_eq, beq_eq_false_iff_ne, bne_iff_ne, bne_eq_false_iff_eq, ne_eq] at *); omega) ?_
            refine d_light rfl rfl rfl rfl rfl ?_
            refine d_light rfl rfl rfl rfl rfl ?_
            refine d_light rfl rfl rfl rfl rfl ?_
            refine d_nil ?_
            refine c_ret ?_
            exact l_end0 (fun _ _ => rets_v rfl) ⟨rfl, rfl⟩
        refine d_fork ?_ ?_
        · refine d_passH rfl rfl rfl ?_
          refine d_passH rfl rfl rfl ?_
          refine d_pass rfl rfl rfl ?_
          refine d_light rfl rfl rfl rfl rfl ?_
          refine d_light rfl rfl rfl rfl rfl ?_
          refine d_light rfl rfl rfl rfl rfl ?_
          refine d_light rfl (light_fa rfl rfl) rfl rfl rfl ?_
          refine d_x rfl (x_load rfl rfl (at_own (by repeat (first | exact .head _ | refine .tail _ ?_ | refine List.mem_append_right _ ?_)) (by rfl))) rfl rfl (by intro h; cases h) ?_
          rintro _ _ ⟨rfl, rfl⟩
          refine d_light rfl rfl rfl rfl rfl ?_
          refine d_bool rfl rfl rfl rfl (fun h4 => ?_) (fun h4 => ?_)
          · refine d_pass rfl rfl rfl ?_
            refine d_passH rfl rfl rfl ?_
            refine d_pass rfl rfl rfl ?_
            refine d_light rfl rfl rfl rfl rfl ?_
            refine d_light rfl rfl rfl rfl rfl ?_
            refine d_light rfl rfl rfl rfl rfl ?_
            refine d_nil ?_
            refine c_ret ?_
            exact l_end0 (fun _ _ => rets_v rfl) ⟨rfl, rfl⟩
          · refine d_light rfl (light_fa rfl rfl) rfl rfl rfl ?_
            refine d_x rfl (x_load rfl rfl (at_own (by repeat (first | exact .head _ | refine .tail _ ?_ | refine List.mem_append_right _ ?_)) (by rfl))) rfl rfl (by intro h; cases h) ?_
            rintro _ _ ⟨rfl, rfl⟩
            refine d_sure true rfl rfl rfl rfl (by (try simp only [decide_eq_true_eq, decide_eq_false_iff_not, beq_iff_eq, beq_eq_false_iff_ne, bne_iff_ne, bne_eq_false_iff_eq, ne_eq] at *); omega) ?_
            refine d_light rfl rfl rfl rfl rfl ?_
            refine d_light rfl rfl rfl rfl rfl ?_
            refine d_light rfl rfl rfl rfl rfl ?_
            refine d_nil ?_
            refine c_ret ?_
            exact l_end0 (fun _ _ => rets_v rfl) ⟨rfl, rfl⟩
        exact d_stop
      · refine d_light rfl rfl rfl rfl rfl ?_
        refine d_light rfl rfl rfl rfl rfl ?_
        refine d_light rfl rfl rfl rfl rfl ?_
        refine d_light rfl rfl rfl rfl rfl ?_
        refine d_fork ?_ ?_
        · refine d_heap (H' := G18 ++ [(b10, _)]) (fun _ h => St.fl [[_], G18, []] [1, 0] rfl h) ?_
          refine d_x rfl (x_callF (A := G18) (G := [(b10, _)]) [b13] call_11 rfl (TabH.mem hT18) (fun w hw => decode_fn b13 (.int .u32 0) G18 hT18 a b d ha hb hd w (TabH.lent hT18 hw))) rfl rfl (by intro h; cases h) ?_
          rintro _ _ ⟨G58, ⟨rfl, hT58⟩, rfl⟩
          rw [dcd_behind2 (b := b) (c := c) (d := d) ha (by (try simp only [decide_eq_true_eq, decide_eq_false_iff_not, beq_iff_eq, beq_eq_false_iff_ne, bne_iff_ne, bne_eq_false_iff_eq, ne_eq] at *); omega)]
          refine d_x rfl (x_loadA rfl rfl rfl (by first | exact row_own (by repeat (first | exact .head _ | refine .tail _ ?_ | refine List.mem_append_right _ ?_)) | exact row_own_at (by repeat (first | exact .head _ | refine .tail _ ?_ | refine List.mem_append_right _ ?_)) _ 5 rfl)) rfl rfl (by intro h; cases h) ?_
          rintro _ _ ⟨rfl, rfl⟩
          refine d_eqs (ks := [.int .i64, .int .i64, .int .i64, .int .i64, .int .u16]) rfl rfl rfl (by kernel_rfl) (by kernel_rfl) rfl rfl rfl rfl (b := true) (lveq_cO _) ?_
          refine d_light rfl rfl rfl rfl rfl ?_
          refine d_light rfl rfl rfl rfl rfl ?_
          refine d_light rfl rfl rfl rfl rfl ?_
          refine d_light rfl (light_fa rfl rfl) rfl rfl rfl ?_
          refine d_x rfl (x_load rfl rfl (at_own (by repeat (first | exact .head _ | refine .tail _ ?_ | refine List.mem_append_right _ ?_)) (by rfl))) rfl rfl (by intro h; cases h) ?_
          rintro _ _ ⟨rfl, rfl⟩
          refine d_light rfl rfl rfl rfl rfl ?_
          refine d_bool rfl rfl rfl rfl (fun h5 => ?_) (fun h5 => ?_)
          · refine d_pass rfl rfl rfl ?_
            refine d_passH rfl rfl rfl ?_
            refine d_pass rfl rfl rfl ?_
            refine d_light rfl rfl rfl rfl rfl ?_
            refine d_light rfl rfl rfl rfl rfl ?_
            refine d_light rfl rfl rfl rfl rfl ?_
            refine d_nil ?_
            refine c_ret ?_
            exact l_end0 (fun _ _ => rets_v rfl) ⟨rfl, rfl⟩
          · refine d_light rfl (light_fa rfl rfl) rfl rfl rfl ?_
            refine d_x rfl (x_load rfl rfl (at_own (by repeat (first | exact .head _ | refine .tail _ ?_ | refine List.mem_append_right _ ?_)) (by rfl))) rfl rfl (by intro h; cases h) ?_
            rintro _ _ ⟨rfl, rfl⟩
            refine d_sure true rfl rfl rfl rfl (by (try simp only [decide_eq_true_eq, decide_eq_false_iff_not, beq_iff_eq, beq_eq_false_iff_ne, bne_iff_ne, bne_eq_false_iff_eq, ne_eq] at *); omega) ?_
            refine d_light rfl rfl rfl rfl rfl ?_
            refine d_light rfl rfl rfl rfl rfl ?_
            refine d_light rfl rfl rfl rfl rfl ?_
            refine d_nil ?_
            refine c_ret ?_
            exact l_end0 (fun _ _ => rets_v rfl) ⟨rfl, rfl⟩
        refine d_fork ?_ ?_
        · refine d_x rfl (x_loadA rfl rfl rfl (by first | exact row_own (by repeat (first | exact .head _ | refine .tail _ ?_ | refine List.mem_append_right _ ?_)) | exact row_own_at (by repeat (first | exact .head _ | refine .tail _ ?_ | refine List.mem_append_right _ ?_)) _ 5 rfl)) rfl rfl (by intro h; cases h) ?_
          rintro _ _ ⟨rfl, rfl⟩
          refine d_heap (H' := G18 ++ [(b10, _)]) (fun _ h => St.fl [[_], G18, []] [1, 0] rfl h) ?_
          refine d_x rfl (x_callF (A := G18) (G := [(b10, _)]) [b13] call_11 rfl (TabH.mem hT18) (fun w hw => decode_fn b13 (.int .u32 0) G18 hT18 a b d ha hb hd w (TabH.lent hT18 hw))) rfl rfl (by intro h; cases h) ?_
          rintro _ _ ⟨G58, ⟨rfl, hT58⟩, rfl⟩
          rw [dcd_behind2 (b := b) (c := c) (d := d) ha (by (try simp only [decide_eq_true_eq, decide_eq_false_iff_not, beq_iff_eq, beq_eq_false_iff_ne, bne_iff_ne, bne_eq_false_iff_eq, ne_eq] at *); omega)]
          refine d_eqs (ks := [.int .i64, .int .i64, .int .i64, .int .i64, .int .u16]) rfl rfl rfl (by kernel_rfl) (by kernel_rfl) rfl rfl rfl rfl (b := true) (lveq_cO _) ?_
          refine d_light rfl rfl rfl rfl rfl ?_
          refine d_light rfl rfl rfl rfl rfl ?_
          refine d_light rfl rfl rfl rfl rfl ?_
          refine d_light rfl (light_fa rfl rfl) rfl rfl rfl ?_
          refine d_x rfl (x_load rfl rfl (at_own (by repeat (first | exact .head _ | refine .tail _ ?_ | refine List.mem_append_right _ ?_)) (by rfl))) rfl rfl (by intro h; cases h) ?_
          rintro _ _ ⟨rfl, rfl⟩
          refine d_light rfl rfl rfl rfl rfl ?_
          refine d_bool rfl rfl rfl rfl (fun h6 => ?_) (fun h6 => ?_)
          · refine d_pass rfl rfl rfl ?_
            refine d_passH rfl rfl rfl ?_
            refine d_pass rfl rfl rfl ?_
            refine d_light rfl rfl rfl rfl rfl ?_
            refine d_light rfl rfl rfl rfl rfl ?_
            refine d_light rfl rfl rfl rfl rfl ?_
            refine d_nil ?_
            refine c_ret ?_
            exact l_end0 (fun _ _ => rets_v rfl) ⟨rfl, rfl⟩
          · refine d_light rfl (light_fa rfl rfl) rfl rfl rfl ?_
            refine d_x rfl (x_load rfl rfl (at_own (by repeat (first | exact .head _ | refine .tail _ ?_ | refine List.mem_append_right _ ?_)) (by rfl))) rfl rfl (by intro h; cases h) ?_
            rintro _ _ ⟨rfl, rfl⟩
            refine d_sure true rfl rfl rfl rfl (by (try simp only [decide_eq_true_eq, decide_eq_false_iff_not, beq_iff_eq, beq_eq_false_iff_ne, bne_iff_ne, bne_eq_false_iff_eq, ne_eq] at *); omega) ?_
            refine d_light rfl rfl rfl rfl rfl ?_
            refine d_light rfl rfl rfl rfl rfl ?_
            refine d_light rfl rfl rfl rfl rfl ?_
            refine d_nil ?_
            refine c_ret ?_
            exact l_end0 (fun _ _ => rets_v rfl) ⟨rfl, rfl⟩
        exact d_stop
    refine d_fork ?_ ?_
    · refine d_passH rfl rfl rfl ?_
      refine d_passH rfl rfl rfl ?_
      refine d_pass rfl rfl rfl ?_
      refine d_light rfl rfl rfl rfl rfl ?_
      refine d_light rfl rfl rfl rfl rfl ?_
      refine d_light rfl (light_fa rfl rfl) rfl rfl rfl ?_
      refine d_x rfl (x_load rfl rfl (at_own (by repeat (first | exact .head _ | refine .tail _ ?_ | refine List.mem_append_right _ ?_)) (by rfl))) rfl rfl (by intro h; cases h) ?_
      rintro _ _ ⟨rfl, rfl⟩
      refine d_light rfl rfl rfl rfl rfl ?_
      refine d_bool rfl rfl rfl rfl (fun h7 => ?_) (fun h7 => ?_)
      · refine d_pass rfl rfl rfl ?_
        refine d_pass rfl rfl rfl ?_
        refine d_pass rfl rfl rfl ?_
        refine d_pass rfl rfl rfl ?_
        refine d_fork ?_ ?_
        · refine d_passH rfl rfl rfl ?_
          refine d_passH rfl rfl rfl ?_
          refine d_pass rfl rfl rfl ?_
          refine d_light rfl rfl rfl rfl rfl ?_
          refine d_light rfl rfl rfl rfl rfl ?_
          refine d_light rfl rfl rfl rfl rfl ?_
          refine d_light rfl (light_fa rfl rfl) rfl rfl rfl ?_
          refine d_x rfl (x_load rfl rfl (at_own (by repeat (first | exact .head _ | refine .tail _ ?_ | refine List.mem_append_right _ ?_)) (by rfl))) rfl rfl (by intro h; cases h) ?_
          rintro _ _ ⟨rfl, rfl⟩
          refine d_light rfl rfl rfl rfl rfl ?_
          refine d_bool rfl rfl rfl rfl (fun h8 => ?_) (fun h8 => ?_)
          · refine d_pass rfl rfl rfl ?_
            refine d_passH rfl rfl rfl ?_
            refine d_pass rfl rfl rfl ?_
            refine d_light rfl rfl rfl rfl rfl ?_
            refine d_light rfl rfl rfl rfl rfl ?_
            refine d_light rfl rfl rfl rfl rfl ?_
            refine d_nil ?_
            refine c_ret ?_
            exact l_end0 (fun _ _ => rets_v rfl) ⟨rfl, rfl⟩
          · refine d_light rfl (light_fa rfl rfl) rfl rfl rfl ?_
            refine d_x rfl (x_load rfl rfl (at_own (by repeat (first | exact .head _ | refine .tail _ ?_ | refine List.mem_append_right _ ?_)) (by rfl))) rfl rfl (by intro h; cases h) ?_
            rintro _ _ ⟨rfl, rfl⟩
            refine d_sure true rfl rfl rfl rfl (by (try simp only [decide_eq_true_eq, decide_eq_false_iff_not, beq_iff_eq, beq_eq_false_iff_ne, bne_iff_ne, bne_eq_false_iff_eq, ne_eq] at *); omega) ?_
            refine d_light rfl rfl rfl rfl rfl ?_
            refine d_light rfl rfl rfl rfl rfl ?_
            refine d_light rfl rfl rfl rfl rfl ?_
            refine d_nil ?_
            refine c_ret ?_
            exact l_end0 (fun _ _ => rets_v rfl) ⟨rfl, rfl⟩
        refine d_fork ?_ ?_
        · refine d_passH rfl rfl rfl ?_
          refine d_passH rfl rfl rfl ?_
          refine d_pass rfl rfl rfl ?_
          refine d_light rfl rfl rfl rfl rfl ?_
          refine d_light rfl rfl rfl rfl rfl ?_
          refine d_light rfl rfl rfl rfl rfl ?_
          refine d_light rfl (light_fa rfl rfl) rfl rfl rfl ?_
          refine d_x rfl (x_load rfl rfl (at_own (by repeat (first | exact .head _ | refine .tail _ ?_ | refine List.mem_append_right _ ?_)) (by rfl))) rfl rfl (by intro h; cases h) ?_
          rintro _ _ ⟨rfl, rfl⟩
          refine d_light rfl rfl rfl rfl rfl ?_
          refine d_bool rfl rfl rfl rfl (fun h9 => ?_) (fun h9 => ?_)
          · refine d_pass rfl rfl rfl ?_
            refine d_passH rfl rfl rfl ?_
            refine d_pass rfl rfl rfl ?_
            refine d_light rfl rfl rfl rfl rfl ?_
            refine d_light rfl rfl rfl rfl rfl ?_
            refine d_light rfl rfl rfl rfl rfl ?_
            refine d_nil ?_
            refine c_ret ?_
            exact l_end0 (fun _ _ => rets_v rfl) ⟨rfl, rfl⟩
          · refine d_light rfl (light_fa rfl rfl) rfl rfl rfl ?_
            refine d_x rfl (x_load rfl rfl (at_own (by repeat (first | exact .head _ | refine .tail _ ?_ | refine List.mem_append_right _ ?_)) (by rfl))) rfl rfl (by intro h; cases h) ?_
            rintro _ _ ⟨rfl, rfl⟩
            refine d_sure true rfl rfl rfl rfl (by (try simp only [decide_eq_true_eq, decide_eq_false_iff_not, beq_iff_eq, beq_eq_false_iff_ne, bne_iff_ne, bne_eq_false_iff_eq, ne_eq] at *); omega) ?_
            refine d_light rfl rfl rfl rfl rfl ?_
            refine d_light rfl rfl rfl rfl rfl ?_
            refine d_light rfl rfl rfl rfl rfl ?_
            refine d_nil ?_
            refine c_ret ?_
            exact l_end0 (fun _ _ => rets_v rfl) ⟨rfl, rfl⟩
        exact d_stop
      · refine d_light rfl rfl rfl rfl rfl ?_
        refine d_light rfl rfl rfl rfl rfl ?_
        refine d_light rfl rfl rfl rfl rfl ?_
        refine d_light rfl rfl rfl rfl rfl ?_
        refine d_fork ?_ ?_
        · refine d_heap (H' := G18 ++ [(b10, _)]) (fun _ h => St.fl [[_], G18, []] [1, 0] rfl h) ?_
          refine d_x rfl (x_callF (A := G18) (G := [(b10, _)]) [b13] call_11 rfl (TabH.mem hT18) (fun w hw => decode_fn b13 (.int .u32 0) G18 hT18 a b d ha hb hd w (TabH.lent hT18 hw))) rfl rfl (by intro h; cases h) ?_
          rintro _ _ ⟨G58, ⟨rfl, hT58⟩, rfl⟩
          rw [dcd_behind2 (b := b) (c := c) (d := d) ha (by (try simp only [decide_eq_true_eq, decide_eq_false_iff_not, beq_iff_eq, beq_eq_false_iff_ne, bne_iff_ne, bne_eq_false_iff_eq, ne_eq] at *); omega)]
          refine d_x rfl (x_loadA rfl rfl rfl (by first | exact row_own (by repeat (first | exact .head _ | refine .tail _ ?_ | refine List.mem_append_right _ ?_)) | exact row_own_at (by repeat (first | exact .head _ | refine .tail _ ?_ | refine List.mem_append_right _ ?_)) _ 5 rfl)) rfl rfl (by intro h; cases h) ?_
          rintro _ _ ⟨rfl, rfl⟩
          refine d_eqs (ks := [.int .i64, .int .i64, .int .i64, .int .i64, .int .u16]) rfl rfl rfl (by kernel_rfl) (by kernel_rfl) rfl rfl rfl rfl (b := true) (lveq_cO _) ?_
          refine d_light rfl rfl rfl rfl rfl ?_
          refine d_light rfl rfl rfl rfl rfl ?_
          refine d_light rfl rfl rfl rfl rfl ?_
          refine d_light rfl (light_fa rfl rfl) rfl rfl rfl ?_
          refine d_x rfl (x_load rfl rfl (at_own (by repeat (first | exact .head _ | refine .tail _ ?_ | refine List.mem_append_right _ ?_)) (by rfl))) rfl rfl (by intro h; cases h) ?_
          rintro _ _ ⟨rfl, rfl⟩
          refine d_light rfl rfl rfl rfl rfl ?_
          refine d_bool rfl rfl rfl rfl (fun h10 => ?_) (fun h10 => ?_)
          · refine d_pass rfl rfl rfl ?_
            refine d_passH rfl rfl rfl ?_
            refine d_pass rfl rfl rfl ?_
            refine d_light rfl rfl rfl rfl rfl ?_
            refine d_light rfl rfl rfl rfl rfl ?_
            refine d_light rfl rfl rfl rfl rfl ?_
            refine d_nil ?_
            refine c_ret ?_
            exact l_end0 (fun _ _ => rets_v rfl) ⟨rfl, rfl⟩
          · refine d_light rfl (light_fa rfl rfl) rfl rfl rfl ?_
            refine d_x rfl (x_load rfl rfl (at_own (by repeat (first | exact .head _ | refine .tail _ ?_ | refine List.mem_append_right _ ?_)) (by rfl))) rfl rfl (by intro h; cases h) ?_
            rintro _ _ ⟨rfl, rfl⟩
            refine d_sure true rfl rfl rfl rfl (by (try simp only [decide_eq_true_eq, decide_eq_false_iff_not, beq_iff_eq, beq_eq_false_iff_ne, bne_iff_ne, bne_eq_false_iff_eq, ne_eq] at *); omega) ?_
            refine d_light rfl rfl rfl rfl rfl ?_
            refine d_light rfl rfl rfl rfl rfl ?_
            refine d_light rfl rfl rfl rfl rfl ?_
            refine d_nil ?_
            refine c_ret ?_
            exact l_end0 (fun _ _ => rets_v rfl) ⟨rfl, rfl⟩
        refine d_fork ?_ ?_
        · refine d_x rfl (x_loadA rfl rfl rfl (by first | exact row_own (by repeat (first | exact .head _ | refine .tail _ ?_ | refine List.mem_append_right _ ?_)) | exact row_own_at (by repeat (first | exact .head _ | refine .tail _ ?_ | refine List.mem_append_right _ ?_)) _ 5 rfl)) rfl rfl (by intro h; cases h) ?_
          rintro _ _ ⟨rfl, rfl⟩
          refine d_heap (H' := G18 ++ [(b10, _)]) (fun _ h => St.fl [[_], G18, []] [1, 0] rfl h) ?_
          refine d_x rfl (x_callF (A := G18) (G := [(b10, _)]) [b13] call_11 rfl (TabH.mem hT18) (fun w hw => decode_fn b13 (.int .u32 0) G18 hT18 a b d ha hb hd w (TabH.lent hT18 hw))) rfl rfl (by intro h; cases h) ?_
          rintro _ _ ⟨G58, ⟨rfl, hT58⟩, rfl⟩
          rw [dcd_behind2 (b := b) (c := c) (d := d) ha (by (try simp only [decide_eq_true_eq, decide_eq_false_iff_not, beq_iff_eq, beq_eq_false_iff_ne, bne_iff_ne, bne_eq_false_iff_eq, ne_eq] at *); omega)]
          refine d_eqs (ks := [.int .i64, .int .i64, .int .i64, .int .i64, .int .u16]) rfl rfl rfl (by kernel_rfl) (by kernel_rfl) rfl rfl rfl rfl (b := true) (lveq_cO _) ?_
          refine d_light rfl rfl rfl rfl rfl ?_
          refine d_light rfl rfl rfl rfl rfl ?_
          refine d_light rfl rfl rfl rfl rfl ?_
          refine d_light rfl (light_fa rfl rfl) rfl rfl rfl ?_
          refine d_x rfl (x_load rfl rfl (at_own (by repeat (first | exact .head _ | refine .tail _ ?_ | refine List.mem_append_right _ ?_)) (by rfl))) rfl rfl (by intro h; cases h) ?_
          rintro _ _ ⟨rfl, rfl⟩
          refine d_light rfl rfl rfl rfl rfl ?_
          refine d_bool rfl rfl rfl rfl (fun h11 => ?_) (fun h11 => ?_)
          · refine d_pass rfl rfl rfl ?_
            refine d_passH rfl rfl rfl ?_
            refine d_pass rfl rfl rfl ?_
            refine d_light rfl rfl rfl rfl rfl ?_
            refine d_light rfl rfl rfl rfl rfl ?_
            refine d_light rfl rfl rfl rfl rfl ?_
            refine d_nil ?_
            refine c_ret ?_
            exact l_end0 (fun _ _ => rets_v rfl) ⟨rfl, rfl⟩
          · refine d_light rfl (light_fa rfl rfl) rfl rfl rfl ?_
            refine d_x rfl (x_load rfl rfl (at_own (by repeat (first | exact .head _ | refine .tail _ ?_ | refine List.mem_append_right _ ?_)) (by rfl))) rfl rfl (by intro h; cases h) ?_
            rintro _ _ ⟨rfl, rfl⟩
            refine d_sure true rfl rfl rfl rfl (by (try simp only [decide_eq_true_eq, decide_eq_false_iff_not, beq_iff_eq, beq_eq_false_iff_ne, bne_iff_ne, bne_eq_false_iff_eq, ne_eq] at *); omega) ?_
            refine d_light rfl rfl rfl rfl rfl ?_
            refine d_light rfl rfl rfl rfl rfl ?_
            refine d_light rfl rfl rfl rfl rfl ?_
            refine d_nil ?_
            refine c_ret ?_
            exact l_end0 (fun _ _ => rets_v rfl) ⟨rfl, rfl⟩
        exact d_stop
    exact d_stop
  · refine d_light rfl rfl rfl rfl rfl ?_
    refine d_light rfl rfl rfl rfl rfl ?_
    refine d_light rfl rfl rfl rfl rfl ?_
    refine d_light rfl rfl rfl rfl rfl ?_
    refine d_fork ?_ ?_
    · refine d_heap (H' := G18 ++ [(b10, _)]) (fun _ h => St.fl [[_], G18, []] [1, 0] rfl h) ?_
      refine d_x rfl (x_callF (A := G18) (G := [(b10, _)]) [b13] call_11 rfl (TabH.mem hT18) (fun w hw => decode_fn b13 (.int .u32 0) G18 hT18 a d c ha hd hc w (TabH.lent hT18 hw))) rfl rfl (by intro h; cases h) ?_
      rintro _ _ ⟨G45, ⟨rfl, hT45⟩, rfl⟩
      rw [dcd_behind1 (b := b) (c := c) (d := d) ha (by (try simp only [decide_eq_true_eq, decide_eq_false_iff_not, beq_iff_eq, beq_eq_false_iff_ne, bne_iff_ne, bne_eq_false_iff_eq, ne_eq] at *); omega)]
      refine d_x rfl (x_loadA rfl rfl rfl (by first | exact row_own (by repeat (first | exact .head _ | refine .tail _ ?_ | refine List.mem_append_right _ ?_)) | exact row_own_at (by repeat (first | exact .head _ | refine .tail _ ?_ | refine List.mem_append_right _ ?_)) _ 5 rfl)) rfl rfl (by intro h; cases h) ?_
      rintro _ _ ⟨rfl, rfl⟩
      refine d_eqs (ks := [.int .i64, .int .i64, .int .i64, .int .i64, .int .u16]) rfl rfl rfl (by kernel_rfl) (by kernel_rfl) rfl rfl rfl rfl (b := true) (lveq_cO _) ?_
      refine d_light rfl rfl rfl rfl rfl ?_
      refine d_light rfl rfl rfl rfl rfl ?_
      refine d_light rfl (light_fa rfl rfl) rfl rfl rfl ?_
      refine d_x rfl (x_load rfl rfl (at_own (by repeat (first | exact .head _ | refine .tail _ ?_ | refine List.mem_append_right _ ?_)) (by rfl))) rfl rfl (by intro h; cases h) ?_
      rintro _ _ ⟨rfl, rfl⟩
      refine d_light rfl rfl rfl rfl rfl ?_
      refine d_bool rfl rfl rfl rfl (fun h12 => ?_) (fun h12 => ?_)
      · refine d_pass rfl rfl rfl ?_
        refine d_pass rfl rfl rfl ?_
        refine d_pass rfl rfl rfl ?_
        refine d_pass rfl rfl rfl ?_
        refine d_fork ?_ ?_
        · refine d_passH rfl rfl rfl ?_
          refine d_passH rfl rfl rfl ?_
          refine d_pass rfl rfl rfl ?_
          refine d_light rfl rfl rfl rfl rfl ?_
          refine d_light rfl rfl rfl rfl rfl ?_
          refine d_light rfl rfl rfl rfl rfl ?_
          refine d_light rfl (light_fa rfl rfl) rfl rfl rfl ?_
          refine d_x rfl (x_load rfl rfl (at_own (by repeat (first | exact .head _ | refine .tail _ ?_ | refine List.mem_append_right _ ?_)) (by rfl))) rfl rfl (by intro h; cases h) ?_
          rintro _ _ ⟨rfl, rfl⟩
          refine d_light rfl rfl rfl rfl rfl ?_
          refine d_bool rfl rfl rfl rfl (fun h13 => ?_) (fun h13 => ?_)
          · refine d_pass rfl rfl rfl ?_
            refine d_passH rfl rfl rfl ?_
            refine d_pass rfl rfl rfl ?_
            refine d_light rfl rfl rfl rfl rfl ?_
            refine d_light rfl rfl rfl rfl rfl ?_
            refine d_light rfl rfl rfl rfl rfl ?_
            refine d_nil ?_
            refine c_ret ?_
            exact l_end0 (fun _ _ => rets_v rfl) ⟨rfl, rfl⟩
          · refine d_light rfl (light_fa rfl rfl) rfl rfl rfl ?_
            refine d_x rfl (x_load rfl rfl (at_own (by repeat (first | exact .head _ | refine .tail _ ?_ | refine List.mem_append_right _ ?_)) (by rfl))) rfl rfl (by intro h; cases h) ?_
            rintro _ _ ⟨rfl, rfl⟩
            refine d_sure true rfl rfl rfl rfl (by (try simp only [decide_eq_true_eq, decide_eq_false_iff_not, beq_iff_eq, beq_eq_false_iff_ne, bne_iff_ne, bne_eq_false_iff_eq, ne_eq] at *); omega) ?_
            refine d_light rfl rfl rfl rfl rfl ?_
            refine d_light rfl rfl rfl rfl rfl ?_
            refine d_light rfl rfl rfl rfl rfl ?_
            refine d_nil ?_
            refine c_ret ?_
            exact l_end0 (fun _ _ => rets_v rfl) ⟨rfl, rfl⟩
        refine d_fork ?_ ?_
        · refine d_passH rfl rfl rfl ?_
          refine d_passH rfl rfl rfl ?_
          refine d_pass rfl rfl rfl ?_
          refine d_light rfl rfl rfl rfl rfl ?_
          refine d_light rfl rfl rfl rfl rfl ?_
          refine d_light rfl rfl rfl rfl rfl ?_
          refine d_light rfl (light_fa rfl rfl) rfl rfl rfl ?_
          refine d_x rfl (x_load rfl rfl (at_own (by repeat (first | exact .head _ | refine .tail _ ?_ | refine List.mem_append_right _ ?_)) (by rfl))) rfl rfl (by intro h; cases h) ?_
          rintro _ _ ⟨rfl, rfl⟩
          refine d_light rfl rfl rfl rfl rfl ?_
          refine d_bool rfl rfl rfl rfl (fun h14 => ?_) (fun h14 => ?_)
          · refine d_pass rfl rfl rfl ?_
            refine d_passH rfl rfl rfl ?_
            refine d_pass rfl rfl rfl ?_
            refine d_light rfl rfl rfl rfl rfl ?_
            refine d_light rfl rfl rfl rfl rfl ?_
            refine d_light rfl rfl rfl rfl rfl ?_
            refine d_nil ?_
            refine c_ret ?_
            exact l_end0 (fun _ _ => rets_v rfl) ⟨rfl, rfl⟩
          · refine d_light rfl (light_fa rfl rfl) rfl rfl rfl ?_
            refine d_x rfl (x_load rfl rfl (at_own (by repeat (first | exact .head _ | refine .tail _ ?_ | refine List.mem_append_right _ ?_)) (by rfl))) rfl rfl (by intro h; cases h) ?_
            rintro _ _ ⟨rfl, rfl⟩
            refine d_sure true rfl rfl rfl rfl (by (try simp only [decide_eq_true_eq, decide_eq_false_iff_not, beq_iff_eq, beq_eq_false_iff_ne, bne_iff_ne, bne_eq_false_iff_eq, ne_eq] at *); omega) ?_
            refine d_light rfl rfl rfl rfl rfl ?_
            refine d_light rfl rfl rfl rfl rfl ?_
            refine d_light rfl rfl rfl rfl rfl ?_
            refine d_nil ?_
            refine c_ret ?_
            exact l_end0 (fun _ _ => rets_v rfl) ⟨rfl, rfl⟩
        exact d_stop
      · refine d_light rfl rfl rfl rfl rfl ?_
        refine d_light rfl rfl rfl rfl rfl ?_
        refine d_light rfl rfl rfl rfl rfl ?_
        refine d_light rfl rfl rfl rfl rfl ?_
        refine d_fork ?_ ?_
        · refine d_x rfl (x_callF (A := G45) (G := [(b10, _)]) [b13] call_11 rfl (TabH.mem hT45) (fun w hw => decode_fn b13 (.int .u32 0) G45 hT45 a b d ha hb hd w (TabH.lent hT45 hw))) rfl rfl (by intro h; cases h) ?_
          rintro _ _ ⟨G58, ⟨rfl, hT58⟩, rfl⟩
          rw [dcd_behind2 (b := b) (c := c) (d := d) ha (by (try simp only [decide_eq_true_eq, decide_eq_false_iff_not, beq_iff_eq, beq_eq_false_iff_ne, bne_iff_ne, bne_eq_false_iff_eq, ne_eq] at *); omega)]
          refine d_x rfl (x_loadA rfl rfl rfl (by first | exact row_own (by repeat (first | exact .head _ | refine .tail _ ?_ | refine List.mem_append_right _ ?_)) | exact row_own_at (by repeat (first | exact .head _ | refine .tail _ ?_ | refine List.mem_append_right _ ?_)) _ 5 rfl)) rfl rfl (by intro h; cases h) ?_
          rintro _ _ ⟨rfl, rfl⟩
          refine d_eqs (ks := [.int .i64, .int .i64, .int .i64, .int .i64, .int .u16]) rfl rfl rfl (by kernel_rfl) (by kernel_rfl) rfl rfl rfl rfl (b := true) (lveq_cO _) ?_
          refine d_light rfl rfl rfl rfl rfl ?_
          refine d_light rfl rfl rfl rfl rfl ?_
          refine d_light rfl rfl rfl rfl rfl ?_
          refine d_light rfl (light_fa rfl rfl) rfl rfl rfl ?_
          refine d_x rfl (x_load rfl rfl (at_own (by repeat (first | exact .head _ | refine .tail _ ?_ | refine List.mem_append_right _ ?_)) (by rfl))) rfl rfl (by intro h; cases h) ?_
          rintro _ _ ⟨rfl, rfl⟩
          refine d_light rfl rfl rfl rfl rfl ?_
          refine d_bool rfl rfl rfl rfl (fun h15 => ?_) (fun h15 => ?_)
          · refine d_pass rfl rfl rfl ?_
            refine d_passH rfl rfl rfl ?_
            refine d_pass rfl rfl rfl ?_
            refine d_light rfl rfl rfl rfl rfl ?_
            refine d_light rfl rfl rfl rfl rfl ?_
            refine d_light rfl rfl rfl rfl rfl ?_
            refine d_nil ?_
            refine c_ret ?_
            exact l_end0 (fun _ _ => rets_v rfl) ⟨rfl, rfl⟩
          · refine d_light rfl (light_fa rfl rfl) rfl rfl rfl ?_
            refine d_x rfl (x_load rfl rfl (at_own (by repeat (first | exact .head _ | refine .tail _ ?_ | refine List.mem_append_right _ ?_)) (by rfl))) rfl rfl (by intro h; cases h) ?_
            rintro _ _ ⟨rfl, rfl⟩
            refine d_sure true rfl rfl rfl rfl (by (try simp only [decide_eq_true_eq, decide_eq_false_iff_not, beq_iff_eq, beq_eq_false_iff_ne, bne_iff_ne, bne_eq_false_iff_eq, ne_eq] at *); omega) ?_
            refine d_light rfl rfl rfl rfl rfl ?_
            refine d_light rfl rfl rfl rfl rfl ?_
            refine d_light rfl rfl rfl rfl rfl ?_
            refine d_nil ?_
            refine c_ret ?_
            exact l_end0 (fun _ _ => rets_v rfl) ⟨rfl, rfl⟩
        refine d_fork ?_ ?_
        · refine d_x rfl (x_loadA rfl rfl rfl (by first | exact row_own (by repeat (first | exact .head _ | refine .tail _ ?_ | refine List.mem_append_right _ ?_)) | exact row_own_at (by repeat (first | exact .head _ | refine .tail _ ?_ | refine List.mem_append_right _ ?_)) _ 5 rfl)) rfl rfl (by intro h; cases h) ?_
          rintro _ _ ⟨rfl, rfl⟩
          refine d_x rfl (x_callF (A := G45) (G := [(b10, _)]) [b13] call_11 rfl (TabH.mem hT45) (fun w hw => decode_fn b13 (.int .u32 0) G45 hT45 a b d ha hb hd w (TabH.lent hT45 hw))) rfl rfl (by intro h; cases h) ?_
          rintro _ _ ⟨G58, ⟨rfl, hT58⟩, rfl⟩
          rw [dcd_behind2 (b := b) (c := c) (d := d) ha (by (try simp only [decide_eq_true_eq, decide_eq_false_iff_not, beq_iff_eq, beq_eq_false_iff_ne, bne_iff_ne, bne_eq_false_iff_eq, ne_eq] at *); omega)]
          refine d_eqs (ks := [.int .i64, .int .i64, .int .i64, .int .i64, .int .u16]) rfl rfl rfl (by kernel_rfl) (by kernel_rfl) rfl rfl rfl rfl (b := true) (lveq_cO _) ?_
          refine d_light rfl rfl rfl rfl rfl ?_
          refine d_light rfl rfl rfl rfl rfl ?_
          refine d_light rfl rfl rfl rfl rfl ?_
          refine d_light rfl (light_fa rfl rfl) rfl rfl rfl ?_
          refine d_x rfl (x_load rfl rfl (at_own (by repeat (first | exact .head _ | refine .tail _ ?_ | refine List.mem_append_right _ ?_)) (by rfl))) rfl rfl (by intro h; cases h) ?_
          rintro _ _ ⟨rfl, rfl⟩
          refine d_light rfl rfl rfl rfl rfl ?_
          refine d_bool rfl rfl rfl rfl (fun h16 => ?_) (fun h16 => ?_)
          · refine d_pass rfl rfl rfl ?_
            refine d_passH rfl rfl rfl ?_
            refine d_pass rfl rfl rfl ?_
            refine d_light rfl rfl rfl rfl rfl ?_
            refine d_light rfl rfl rfl rfl rfl ?_
            refine d_light rfl rfl rfl rfl rfl ?_
            refine d_nil ?_
            refine c_ret ?_
            exact l_end0 (fun _ _ => rets_v rfl) ⟨rfl, rfl⟩
          · refine d_light rfl (light_fa rfl rfl) rfl rfl rfl ?_
            refine d_x rfl (x_load rfl rfl (at_own (by repeat (first | exact .head _ | refine .tail _ ?_ | refine List.mem_append_right _ ?_)) (by rfl))) rfl rfl (by intro h; cases h) ?_
            rintro _ _ ⟨rfl, rfl⟩
            refine d_sure true rfl rfl rfl rfl (by (try simp only [decide_eq_true_eq, decide_eq_false_iff_not, beq_iff_eq, beq_eq_false_iff_ne, bne_iff_ne, bne_eq_false_iff_eq, ne_eq] at *); omega) ?_
            refine d_light rfl rfl rfl rfl rfl ?_
            refine d_light rfl rfl rfl rfl rfl ?_
            refine d_light rfl rfl rfl rfl rfl ?_
            refine d_nil ?_
            refine c_ret ?_
            exact l_end0 (fun _ _ => rets_v rfl) ⟨rfl, rfl⟩
        exact d_stop
    refine d_fork ?_ ?_
    · refine d_x rfl (x_loadA rfl rfl rfl (by first | exact row_own (by repeat (first | exact .head _ | refine .tail _ ?_ | refine List.mem_append_right _ ?_)) | exact row_own_at (by repeat (first | exact .head _ | refine .tail _ ?_ | refine List.mem_append_right _ ?_)) _ 5 rfl)) rfl rfl (by intro h; cases h) ?_
      rintro _ _ ⟨rfl, rfl⟩
      refine d_heap (H' := G18 ++ [(b10, _)]) (fun _ h => St.fl [[_], G18, []] [1, 0] rfl h) ?_
      refine d_x rfl (x_callF (A := G18) (G := [(b10, _)]) [b13] call_11 rfl (TabH.mem hT18) (fun w hw => decode_fn b13 (.int .u32 0) G18 hT18 a d c ha hd hc w (TabH.lent hT18 hw))) rfl rfl (by intro h; cases h) ?_
      rintro _ _ ⟨G45, ⟨rfl, hT45⟩, rfl⟩
      rw [dcd_behind1 (b := b) (c := c) (d := d) ha (by (try simp only [decide_eq_true_eq, decide_eq_false_iff_not, beq_iff_eq, beq_eq_false_iff_ne, bne_iff_ne, bne_eq_false_iff_eq, ne_eq] at *); omega)]
      refine d_eqs (ks := [.int .i64, .int .i64, .int .i64, .int .i64, .int .u16]) rfl rfl rfl (by kernel_rfl) (by kernel_rfl) rfl rfl rfl rfl (b := true) (lveq_cO _) ?_
      refine d_light rfl rfl rfl rfl rfl ?_
      refine d_light rfl rfl rfl rfl rfl ?_
      refine d_light rfl (light_fa rfl rfl) rfl rfl rfl ?_
      refine d_x rfl (x_load rfl rfl (at_own (by repeat (first | exact .head _ | refine .tail _ ?_ | refine List.mem_append_right _ ?_)) (by rfl))) rfl rfl (by intro h; cases h) ?_
      rintro _ _ ⟨rfl, rfl⟩
      refine d_light rfl rfl rfl rfl rfl ?_
      refine d_bool rfl rfl rfl rfl (fun h17 => ?_) (fun h17 => ?_)
      · refine d_pass rfl rfl rfl ?_
        refine d_pass rfl rfl rfl ?_
        refine d_pass rfl rfl rfl ?_
        refine d_pass rfl rfl rfl ?_
        refine d_fork ?_ ?_
        · refine d_passH rfl rfl rfl ?_
          refine d_passH rfl rfl rfl ?_
          refine d_pass rfl rfl rfl ?_
          refine d_light rfl rfl rfl rfl rfl ?_
          refine d_light rfl rfl rfl rfl rfl ?_
          refine d_light rfl rfl rfl rfl rfl ?_
          refine d_light rfl (light_fa rfl rfl) rfl rfl rfl ?_
          refine d_x rfl (x_load rfl rfl (at_own (by repeat (first | exact .head _ | refine .tail _ ?_ | refine List.mem_append_right _ ?_)) (by rfl))) rfl rfl (by intro h; cases h) ?_
          rintro _ _ ⟨rfl, rfl⟩
          refine d_light rfl rfl rfl rfl rfl ?_
          refine d_bool rfl rfl rfl rfl (fun h18 => ?_) (fun h18 => ?_)
          · refine d_pass rfl rfl rfl ?_
            refine d_passH rfl rfl rfl ?_
            refine d_pass rfl rfl rfl ?_
            refine d_light rfl rfl rfl rfl rfl ?_
            refine d_light rfl rfl rfl rfl rfl ?_
            refine d_light rfl rfl rfl rfl rfl ?_
            refine d_nil ?_
            refine c_ret ?_
            exact l_end0 (fun _ _ => rets_v rfl) ⟨rfl, rfl⟩
          · refine d_light rfl (light_fa rfl rfl) rfl rfl rfl ?_
            refine d_x rfl (x_load rfl rfl (at_own (by repeat (first | exact .head _ | refine .tail _ ?_ | refine List.mem_append_right _ ?_)) (by rfl))) rfl rfl (by intro h; cases h) ?_
            rintro _ _ ⟨rfl, rfl⟩
            refine d_sure true rfl rfl rfl rfl (by (try simp only [decide_eq_true_eq, decide_eq_false_iff_not, beq_iff_eq, beq_eq_false_iff_ne, bne_iff_ne, bne_eq_false_iff_eq, ne_eq] at *); omega) ?_
            refine d_light rfl rfl rfl rfl rfl ?_
            refine d_light rfl rfl rfl rfl rfl ?_
            refine d_light rfl rfl rfl rfl rfl ?_
            refine d_nil ?_
            refine c_ret ?_
            exact l_end0 (fun _ _ => rets_v rfl) ⟨rfl, rfl⟩
        refine d_fork ?_ ?_
        · refine d_passH rfl rfl rfl ?_
          refine d_passH rfl rfl rfl ?_
          refine d_pass rfl rfl rfl ?_
          refine d_light rfl rfl rfl rfl rfl ?_
          refine d_light rfl rfl rfl rfl rfl ?_
          refine d_light rfl rfl rfl rfl rfl ?_
          refine d_light rfl (light_fa rfl rfl) rfl rfl rfl ?_
          refine d_x rfl (x_load rfl rfl (at_own (by repeat (first | exact .head _ | refine .tail _ ?_ | refine List.mem_append_right _ ?_)) (by rfl))) rfl rfl (by intro h; cases h) ?_
          rintro _ _ ⟨rfl, rfl⟩
          refine d_light rfl rfl rfl rfl rfl ?_
          refine d_bool rfl rfl rfl rfl (fun h19 => ?_) (fun h19 => ?_)
          · refine d_pass rfl rfl rfl ?_
            refine d_passH rfl rfl rfl ?_
            refine d_pass rfl rfl rfl ?_
            refine d_light rfl rfl rfl rfl rfl ?_
            refine d_light rfl rfl rfl rfl rfl ?_
            refine d_light rfl rfl rfl rfl rfl ?_
            refine d_nil ?_
            refine c_ret ?_
            exact l_end0 (fun _ _ => rets_v rfl) ⟨rfl, rfl⟩
          · refine d_light rfl (light_fa rfl rfl) rfl rfl rfl ?_
            refine d_x rfl (x_load rfl rfl (at_own (by repeat (first | exact .head _ | refine .tail _ ?_ | refine List.mem_append_right _ ?_)) (by rfl))) rfl rfl (by intro h; cases h) ?_
            rintro _ _ ⟨rfl, rfl⟩
            refine d_sure true rfl rfl rfl rfl (by (try simp only [decide_eq_true_eq, decide_eq_false_iff_not, beq_iff_eq, beq_eq_false_iff_ne, bne_iff_ne, bne_eq_false_iff_eq, ne_eq] at *); omega) ?_
            refine d_light rfl rfl rfl rfl rfl ?_
            refine d_light rfl rfl rfl rfl rfl ?_
            refine d_light rfl rfl rfl rfl rfl ?_
            refine d_nil ?_
            refine c_ret ?_
            exact l_end0 (fun _ _ => rets_v rfl) ⟨rfl, rfl⟩
        exact d_stop
      · refine d_light rfl rfl rfl rfl rfl ?_
        refine d_light rfl rfl rfl rfl rfl ?_
        refine d_light rfl rfl rfl rfl rfl ?_
        refine d_light rfl rfl rfl rfl rfl ?_
        refine d_fork ?_ ?_
        · refine d_x rfl (x_callF (A := G45) (G := [(b10, _)]) [b13] call_11 rfl (TabH.mem hT45) (fun w hw => decode_fn b13 (.int .u32 0) G45 hT45 a b d ha hb hd w (TabH.lent hT45 hw))) rfl rfl (by intro h; cases h) ?_
          rintro _ _ ⟨G58, ⟨rfl, hT58⟩, rfl⟩
          rw [dcd_behind2 (b := b) (c := c) (d := d) ha (by (try simp only [decide_eq_true_eq, decide_eq_false_iff_not, beq_iff_eq, beq_eq_false_iff_ne, bne_iff_ne, bne_eq_false_iff_eq, ne_eq] at *); omega)]
          refine d_x rfl (x_loadA rfl rfl rfl (by first | exact row_own (by repeat (first | exact .head _ | refine .tail _ ?_ | refine List.mem_append_right _ ?_)) | exact row_own_at (by repeat (first | exact .head _ | refine .tail _ ?_ | refine List.mem_append_right _ ?_)) _ 5 rfl)) rfl rfl (by intro h; cases h) ?_
          rintro _ _ ⟨rfl, rfl⟩
          refine d_eqs (ks := [.int .i64, .int .i64, .int .i64, .int .i64, .int .u16]) rfl rfl rfl (by kernel_rfl) (by kernel_rfl) rfl rfl rfl rfl (b := true) (lveq_cO _) ?_
          refine d_light rfl rfl rfl rfl rfl ?_
          refine d_light rfl rfl rfl rfl rfl ?_
          refine d_light rfl rfl rfl rfl rfl ?_
          refine d_light rfl (light_fa rfl rfl) rfl rfl rfl ?_
          refine d_x rfl (x_load rfl rfl (at_own (by repeat (first | exact .head _ | refine .tail _ ?_ | refine List.mem_append_right _ ?_)) (by rfl))) rfl rfl (by intro h; cases h) ?_
          rintro _ _ ⟨rfl, rfl⟩
          refine d_light rfl rfl rfl rfl rfl ?_
          refine d_bool rfl rfl rfl rfl (fun h20 => ?_) (fun h20 => ?_)
          · refine d_pass rfl rfl rfl ?_
            refine d_passH rfl rfl rfl ?_
            refine d_pass rfl rfl rfl ?_
            refine d_light rfl rfl rfl rfl rfl ?_
            refine d_light rfl rfl rfl rfl rfl ?_
            refine d_light rfl rfl rfl rfl rfl ?_
            refine d_nil ?_
            refine c_ret ?_
            exact l_end0 (fun _ _ => rets_v rfl) ⟨rfl, rfl⟩
          · refine d_light rfl (light_fa rfl rfl) rfl rfl rfl ?_
            refine d_x rfl (x_load rfl rfl (at_own (by repeat (first | exact .head _ | refine .tail _ ?_ | refine List.mem_append_right _ ?_)) (by rfl))) rfl rfl (by intro h; cases h) ?_
            rintro _ _ ⟨rfl, rfl⟩
            refine d_sure true rfl rfl rfl rfl (by (try simp only [decide_eq_true_eq, decide_eq_false_iff_not, beq_iff_eq, beq_eq_false_iff_ne, bne_iff_ne, bne_eq_false_iff_eq, ne_eq] at *); omega) ?_
            refine d_light rfl rfl rfl rfl rfl ?_
            refine d_light rfl rfl rfl rfl rfl ?_
            refine d_light rfl rfl rfl rfl rfl ?_
            refine d_nil ?_
            refine c_ret ?_
            exact l_end0 (fun _ _ => rets_v rfl) ⟨rfl, rfl⟩
        refine d_fork ?_ ?_
        · refine d_x rfl (x_loadA rfl rfl rfl (by first | exact row_own (by repeat (first | exact .head _ | refine .tail _ ?_ | refine List.mem_append_right _ ?_)) | exact row_own_at (by repeat (first | exact .head _ | refine .tail _ ?_ | refine List.mem_append_right _ ?_)) _ 5 rfl)) rfl rfl (by intro h; cases h) ?_
          rintro _ _ ⟨rfl, rfl⟩
          refine d_x rfl (x_callF (A := G45) (G := [(b10, _)]) [b13] call_11 rfl (TabH.mem hT45) (fun w hw => decode_fn b13 (.int .u32 0) G45 hT45 a b d ha hb hd w (TabH.lent hT45 hw))) rfl rfl (by intro h; cases h) ?_
          rintro _ _ ⟨G58, ⟨rfl, hT58⟩, rfl⟩
          rw [dcd_behind2 (b := b) (c := c) (d := d) ha (by (try simp only [decide_eq_true_eq, decide_eq_false_iff_not, beq_iff_eq, beq_eq_false_iff_ne, bne_iff_ne, bne_eq_false_iff_eq, ne_eq] at *); omega)]
          refine d_eqs (ks := [.int .i64, .int .i64, .int .i64, .int .i64, .int .u16]) rfl rfl rfl (by kernel_rfl) (by kernel_rfl) rfl rfl rfl rfl (b := true) (lveq_cO _) ?_
          refine d_light rfl rfl rfl rfl rfl ?_
          refine d_light rfl rfl rfl rfl rfl ?_
          refine d_light rfl rfl rfl rfl rfl ?_
          refine d_light rfl (light_fa rfl rfl) rfl rfl rfl ?_
          refine d_x rfl (x_load rfl rfl (at_own (by repeat (first | exact .head _ | refine .tail _ ?_ | refine List.mem_append_right _ ?_)) (by rfl))) rfl rfl (by intro h; cases h) ?_
          rintro _ _ ⟨rfl, rfl⟩
          refine d_light rfl rfl rfl rfl rfl ?_
          refine d_bool rfl rfl rfl rfl (fun h21 => ?_) (fun h21 => ?_)
          · refine d_pass rfl rfl rfl ?_
            refine d_passH rfl rfl rfl ?_
            refine d_pass rfl rfl rfl ?_
            refine d_light rfl rfl rfl rfl rfl ?_
            refine d_light rfl rfl rfl rfl rfl ?_
            refine d_light rfl rfl rfl rfl rfl ?_
            refine d_nil ?_
            refine c_ret ?_
            exact l_end0 (fun _ _ => rets_v rfl) ⟨rfl, rfl⟩
          · refine d_light rfl (light_fa rfl rfl) rfl rfl rfl ?_
            refine d_x rfl (x_load rfl rfl (at_own (by repeat (first | exact .head _ | refine .tail _ ?_ | refine List.mem_append_right _ ?_)) (by rfl))) rfl rfl (by intro h; cases h) ?_
            rintro _ _ ⟨rfl, rfl⟩
            refine d_sure true rfl rfl rfl rfl (by (try simp only [decide_eq_true_eq, decide_eq_false_iff_not, beq_iff_eq, beq_eq_false_iff_ne, bne_iff_ne, bne_eq_false_iff_eq, ne_eq] at *); omega) ?_
            refine d_light rfl rfl rfl rfl rfl ?_
            refine d_light rfl rfl rfl rfl rfl ?_
            refine d_light rfl rfl rfl rfl rfl ?_
            refine d_nil ?_
            refine c_ret ?_
            exact l_end0 (fun _ _ => rets_v rfl) ⟨rfl, rfl⟩
        exact d_stop
    exact d_stop

theorem nil_law (a b c : Int) (ha : 0 ≤ a ∧ a < 256) (hb : 0 ≤ b ∧ b < 256) (hc : 0 ≤ c ∧ c < 256) (w : World) :
    Does Try.prog 7 [.int .u8 a, .int .u8 b, .int .u8 c] w [] (fun v H => H = [] ∧ v = .bool true) := by
  refine does_of Try.func7 rfl rfl rfl (St.refl w) ?_
  refine c_seq ?_
  refine c_region ?_
  refine l_l rfl rfl rfl ?_
  refine l_nil ?_
  refine c_seq ?_
  refine c_seq ?_
  refine c_region ?_
  refine l_x (x_val call_9 rfl (fun w hw => awake_fn w)) rfl rfl ?_
  rintro _ _ ⟨rfl, rfl⟩
  refine l_sure false rfl rfl rfl rfl ?_
  refine l_nil ?_
  refine c_false rfl ?_
  refine c_skip ?_
  refine c_seq ?_
  refine c_region ?_
  refine l_l rfl rfl rfl ?_
  refine l_nil ?_
  refine c_seq ?_
  refine c_region ?_
  refine l_x (x_call call_10 rfl (fun w hw => tnew_fn w)) rfl rfl ?_
  rintro _ _ ⟨G12, ⟨b12, rfl, hT12⟩, rfl⟩
  refine l_x (x_call call_10 rfl (fun w hw => tnew_fn w)) rfl rfl ?_
  rintro _ _ ⟨G13, ⟨b13, rfl, hT13⟩, rfl⟩
  refine l_l rfl rfl rfl ?_
  refine l_l rfl rfl rfl ?_
  refine l_nil ?_
  refine c_seq ?_
  refine c_region ?_
  refine l_l rfl rfl rfl ?_
  refine l_l rfl rfl rfl ?_
  refine l_l rfl rfl rfl ?_
  refine l_l rfl rfl rfl ?_
  refine l_x (x_val call_11 rfl (fun w hw => decode0_fn a b c w)) rfl rfl ?_
  rintro _ _ ⟨rfl, rfl⟩
  refine l_l (light_struct rfl rfl rfl rfl) rfl rfl ?_
  refine l_eqs (ks := [.int .i64, .int .i64, .int .i64, .int .i64, .int .u16]) rfl rfl (by kernel_rfl) (by kernel_rfl) rfl rfl rfl rfl (b := true) (lveq_cO ⟨4, 0, 0, 1, 0⟩) ?_
  refine l_l rfl rfl rfl ?_
  refine l_l rfl rfl rfl ?_
  refine l_l rfl rfl rfl ?_
  refine l_l rfl rfl rfl ?_
  refine l_l rfl rfl rfl ?_
  refine l_heap (H' := G12 ++ G13) (fun _ h => St.fl [G13, G12] [1, 0] rfl (h.as (by simp [fl]))) ?_
  refine l_x (x_callF (A := G12) (G := G13) [b12] call_11 rfl (TabH.mem hT12) (fun w hw => decode_fn b12 (.int .u32 0) G12 hT12 a b c ha hb hc w (TabH.lent hT12 hw))) rfl rfl ?_
  rintro _ _ ⟨G26, ⟨rfl, hT26⟩, rfl⟩
  refine l_l rfl rfl rfl ?_
  refine l_l rfl rfl rfl ?_
  refine l_l rfl rfl rfl ?_
  refine l_l rfl rfl rfl ?_
  refine l_heap (H' := G13 ++ G26) (fun _ h => St.fl [G26, G13] [1, 0] rfl h) ?_
  refine l_x (x_callF (A := G13) (G := G26) [b13] call_11 rfl (TabH.mem hT13) (fun w hw => decode_fn b13 (.int .u32 0) G13 hT13 a b c ha hb hc w (TabH.lent hT13 hw))) rfl rfl ?_
  rintro _ _ ⟨G31, ⟨rfl, hT31⟩, rfl⟩
  refine l_eqs (ks := [.int .i64, .int .i64, .int .i64, .int .i64, .int .u16]) rfl rfl (by kernel_rfl) (by kernel_rfl) rfl rfl rfl rfl (b := true) (lveq_cO _) ?_
  refine l_l rfl rfl rfl ?_
  refine l_l rfl rfl rfl ?_
  refine l_nil ?_
  refine c_ret ?_
  exact l_end0 (fun _ _ => rets_v rfl) ⟨rfl, rfl⟩

end Go.Proofs.Ytmihilhmdcndfaa
