/- The document: digits, names, signs. -/
import Derived.Test.YtiadmbhafplepaaDoorYC
import Derived.Test.YtiadmbhafplepaaDoorYF
import Derived.Test.YtiadmbhafplepaaDoorYI
namespace Go.Proofs.YtiadmbhafplepaaDoor
open Go Go.VV Go.Proofs Go.RowKit
set_option linter.unusedSimpArgs false
set_option linter.unusedVariables false
set_option maxRecDepth 100000
theorem rnames_fn (w : World) : Does Tryd.prog 20 [] w [] (fun v H => ∃ b, v = .slice (some ⟨b, 0, none⟩) 18 18 ∧ H = [(b, blk (nms.map strV) 9)]) := by
 refine does_of Tryd.func20 rfl rfl rfl (St.refl w) ?_
 refine c_seq ?_
 refine c_region ?_
 refine RL ?_
 refine l_nil ?_
 refine c_seq ?_
 refine c_region ?_
 refine l_x (x_slc (z := [.string (bs [])]) (l := [.string (bs [97]), .string (bs [102]), .string (bs [98]), .string (bs [99]), .string (bs [100]), .string (bs [101]), .string (bs [104]), .string (bs [108]), .string (bs [97, 102]), .string (bs [98, 99]), .string (bs [100, 101]), .string (bs [104, 108]), .string (bs [115, 112]), .string (bs [112, 99]), .string (bs [97, 100, 100, 114]), .string (bs [118, 97, 108, 117, 101]), .string (bs [107, 105, 110, 100]), .string (bs [98, 97, 110, 107])]) (ps := [(0, .string (bs [97])), (1, .string (bs [102])), (2, .string (bs [98])), (3, .string (bs [99])), (4, .string (bs [100])), (5, .string (bs [101])), (6, .string (bs [104])), (7, .string (bs [108])), (8, .string (bs [97, 102])), (9, .string (bs [98, 99])), (10, .string (bs [100, 101])), (11, .string (bs [104, 108])), (12, .string (bs [115, 112])), (13, .string (bs [112, 99])), (14, .string (bs [97, 100, 100, 114])), (15, .string (bs [118, 97, 108, 117, 101])), (16, .string (bs [107, 105, 110, 100])), (17, .string (bs [98, 97, 110, 107]))]) rfl rfl rfl rfl (by kernel_rfl) (by kernel_rfl)) rfl rfl ?_
 rintro _ _ ⟨b1, rfl, rfl⟩
 refine RL ?_
 refine l_nil ?_
 refine c_ret ?_
 exact l_end (fun _ _ => rets_v rfl) (List.Sublist.refl _) ⟨b1, rfl, rfl⟩

theorem dig_ok (m : Nat) (h : m < 10) : ((48 + m).toUInt8.toNat : Int) = 48 + (m : Int) := by
 have : (48 + m).toUInt8.toNat = (48 + m) % 256 := rfl
 omega

theorem digits1_fn (k : Nat) (h9 : k < 10) (w : World) : Does Tryd.prog 19 [.int .i64 k] w [] (fun v H => H = H ∧ v = .string (bs [(48 + k).toUInt8])) := by
 refine does_of Tryd.func19 rfl rfl rfl (St.refl w) ?_
 refine c_seq ?_
 refine c_region ?_
 refine RL ?_
 refine l_nil ?_
 refine c_seq ?_
 refine c_seq ?_
 refine c_region ?_
 refine RL ?_
 refine l_sure true rfl rfl rfl (decide_eq_true o_m) ?_
 refine l_nil ?_
 refine c_true rfl ?_
 refine c_seq ?_
 refine c_region ?_
 refine RL ?_
 refine l_as (l_add rfl rfl) rfl rfl (by first | exact as_i64 o_m o_m | rfl) ?_
 refine l_as (v := (.int .u8 ((48 + k).toUInt8.toNat : Int))) rfl rfl rfl ((as_u8 o_m o_m).trans (congrArg _ (dig_ok k h9).symm)) ?_
 refine l_x (x_slc (z := [.int .u8 0]) (l := [.int .u8 ((48 + k).toUInt8.toNat : Int)]) (ps := [(0, .int .u8 ((48 + k).toUInt8.toNat : Int))]) rfl rfl rfl rfl rfl rfl) rfl rfl ?_
 rintro _ _ ⟨b8, rfl, rfl⟩
 refine l_x (x_str (l := [(48 + k).toUInt8]) rfl rfl rfl rfl (fun w hw => row_own (.head _) w hw)) rfl rfl ?_
 rintro _ _ ⟨rfl, rfl⟩
 refine RL ?_
 refine l_nil ?_
 refine c_ret ?_
 exact l_end (fun _ _ => rets_v rfl) (List.nil_sublist _) ⟨by trivial, rfl⟩

theorem digits2_fn (k : Nat) (h9 : ¬ k < 10) (hk : k ≤ 2147483647) (ih : ∀ w, Does Tryd.prog 19 [.int .i64 ((k / 10 : Nat) : Int)] w [] (fun v H => H = H ∧ v = .string (bs (decT (k / 10))))) (w : World) : Does Tryd.prog 19 [.int .i64 k] w [] (fun v H => H = H ∧ v = .string (bs (decT (k / 10) ++ [(48 + k % 10).toUInt8]))) := by
 have hl9 : (decT (k / 10)).length ≤ 30 := by
  rw [decT_lib]
  have := Lib.itoa_length_le ((k / 10 : Nat) : Int) o_m o_m
  rw [Lib.itoa_nonneg] at this; omega
 refine does_of Tryd.func19 rfl rfl rfl (St.refl w) ?_
 refine c_seq ?_
 refine c_region ?_
 refine RL ?_
 refine l_nil ?_
 refine c_seq ?_
 refine c_seq ?_
 refine c_region ?_
 refine RL ?_
 refine l_sure false rfl rfl rfl (decide_eq_false o_m) ?_
 refine l_nil ?_
 refine c_false rfl ?_
 refine c_skip ?_
 refine c_seq ?_
 refine c_draw _ [] (.step true 0 (.step true 1 (.step true 3 (.step true 4 (.step true 5 (.step true 6 (.fork 2 (.step false 7 (.step false 8 (.step true 9 (.step true 10 .done)))) (.fork 7 (.fork 2 (.step false 8 (.step true 9 (.step true 10 .done))) (.fork 8 (.step false 2 (.step true 9 (.step true 10 .done))) .stop)) .stop)))))))) rfl (by kernel_rfl) (by kernel_rfl) (fun _ h => h) ?_
 refine RD ?_
 refine d_as (v := (.int .i64 ((k / 10 : Nat) : Int))) rfl (quo_pos rfl rfl (by decide)) rfl rfl rfl ((congrArg _ (congrArg _ (Int.tdiv_eq_ediv_of_nonneg o_m))).trans ((as_i64 o_m o_m).trans (congrArg _ o_m))) ?_
 refine RD ?_
 refine d_as (v := (.int .i64 ((k % 10 : Nat) : Int))) rfl (rem_pos rfl rfl (by decide)) rfl rfl rfl (congrArg _ ((Int.tmod_eq_emod_of_nonneg o_m).trans o_m)) ?_
 refine d_as rfl (l_add rfl rfl) rfl rfl rfl (by first | exact as_i64 o_m o_m | rfl) ?_
 refine d_as (v := (.int .u8 ((48 + k % 10).toUInt8.toNat : Int))) rfl rfl rfl rfl rfl ((as_u8 o_m o_m).trans (congrArg _ (dig_ok (k % 10) o_m).symm)) ?_
 refine d_fork ?_ ?_
 ·refine d_x rfl (x_call call_19 rfl (fun w hw => ih w)) rfl rfl n_h ?_
  rintro _ _ ⟨G12, ⟨_, rfl⟩, rfl⟩
  refine d_x rfl (x_slc (z := [.int .u8 0]) (l := [.int .u8 ((48 + k % 10).toUInt8.toNat : Int)]) (ps := [(0, .int .u8 ((48 + k % 10).toUInt8.toNat : Int))]) rfl rfl rfl rfl rfl rfl) rfl rfl n_h ?_
  rintro _ _ ⟨b17, rfl, rfl⟩
  refine d_x rfl (x_str (l := [(48 + k % 10).toUInt8]) rfl rfl rfl rfl (fun w hw => row_own (b := b17) m_m w hw)) rfl rfl n_h ?_
  rintro _ _ ⟨rfl, rfl⟩
  refine d_light rfl (light_cat rfl rfl (by (try simp only [List.length_append, List.length_cons, List.length_nil]); omega)) rfl rfl rfl ?_
  refine RD ?_
  refine d_nil ?_
  refine c_ret ?_
  exact l_end (fun _ _ => rets_v rfl) (List.nil_sublist _) ⟨by trivial, rfl⟩
 refine d_fork ?_ ?_
 ·refine d_x rfl (x_slc (z := [.int .u8 0]) (l := [.int .u8 ((48 + k % 10).toUInt8.toNat : Int)]) (ps := [(0, .int .u8 ((48 + k % 10).toUInt8.toNat : Int))]) rfl rfl rfl rfl rfl rfl) rfl rfl n_h ?_
  rintro _ _ ⟨b17, rfl, rfl⟩
  refine d_fork ?_ ?_
  ·refine d_x rfl (x_call call_19 rfl (fun w hw => ih w)) rfl rfl n_h ?_
   rintro _ _ ⟨G12, ⟨_, rfl⟩, rfl⟩
   refine d_x rfl (x_str (l := [(48 + k % 10).toUInt8]) rfl rfl rfl rfl (fun w hw => row_own (b := b17) m_m w hw)) rfl rfl n_h ?_
   rintro _ _ ⟨rfl, rfl⟩
   refine d_light rfl (light_cat rfl rfl (by (try simp only [List.length_append, List.length_cons, List.length_nil]); omega)) rfl rfl rfl ?_
   refine RD ?_
   refine d_nil ?_
   refine c_ret ?_
   exact l_end (fun _ _ => rets_v rfl) (List.nil_sublist _) ⟨by trivial, rfl⟩
  refine d_fork ?_ ?_
  ·refine d_x rfl (x_str (l := [(48 + k % 10).toUInt8]) rfl rfl rfl rfl (fun w hw => row_own (b := b17) m_m w hw)) rfl rfl n_h ?_
   rintro _ _ ⟨rfl, rfl⟩
   refine d_x rfl (x_call call_19 rfl (fun w hw => ih w)) rfl rfl n_h ?_
   rintro _ _ ⟨G12, ⟨_, rfl⟩, rfl⟩
   refine d_light rfl (light_cat rfl rfl (by (try simp only [List.length_append, List.length_cons, List.length_nil]); omega)) rfl rfl rfl ?_
   refine RD ?_
   refine d_nil ?_
   refine c_ret ?_
   exact l_end (fun _ _ => rets_v rfl) (List.nil_sublist _) ⟨by trivial, rfl⟩
  exact d_stop
 exact d_stop

theorem digits_fn (k : Nat) : k ≤ 2147483647 → ∀ w, Does Tryd.prog 19 [.int .i64 k] w [] (fun v H => H = H ∧ v = .string (bs (decT k))) := by
 refine Nat.strongRecOn k fun k ih hk w => ?_
 by_cases h9 : k < 10
 ·rw [decT_1 h9]; exact digits1_fn k h9 w
 ·rw [decT_2 h9]; exact digits2_fn k h9 hk (fun w => ih (k / 10) o_m o_m w) w

theorem sign_fn (op : Int) (ho : 7 ≤ op ∧ op ≤ 24) (w : World) : Does Tryd.prog 21 [.int .i64 op] w [] (fun v H => H = H ∧ ∃ m, v = .tuple #[.string (bs (wordT op)), .int .i64 m]) := by
 refine does_of Tryd.func21 rfl rfl rfl (St.refl w) ?_
 refine c_seq ?_
 refine c_region ?_
 refine RL ?_
 refine RL ?_
 refine l_nil ?_
 refine c_seq ?_
 refine c_seq ?_
 refine c_region ?_
 refine RL ?_
 refine l_nil ?_
 refine c_block ?_
 refine c_seq ?_
 rcases (show op = 7 ∨ op = 8 ∨ op = 9 ∨ op = 10 ∨ op = 11 ∨ op = 12 ∨ op = 13 ∨ op = 14 ∨ op = 15 ∨ op = 16 ∨ op = 17 ∨ op = 18 ∨ op = 19 ∨ op = 20 ∨ op = 21 ∨ op = 22 ∨ op = 23 ∨ op = 24 by omega) with rfl | rfl | rfl | rfl | rfl | rfl | rfl | rfl | rfl | rfl | rfl | rfl | rfl | rfl | rfl | rfl | rfl | rfl
 ·refine c_region ?_
  refine l_sure true rfl rfl rfl rfl ?_
  refine RL ?_
  refine l_nil ?_
  refine c_true rfl ?_
  refine c_seq ?_
  refine c_region ?_
  refine RL ?_
  refine RL ?_
  refine l_nil ?_
  refine c_ret ?_
  exact l_end (fun _ _ => rets_two rfl rfl) (List.nil_sublist _) ⟨by trivial, _, rfl⟩
 ·refine c_region ?_
  refine l_sure false rfl rfl rfl rfl ?_
  refine RL ?_
  refine l_nil ?_
  refine c_false rfl ?_
  refine c_seq ?_
  refine c_region ?_
  refine l_sure true rfl rfl rfl rfl ?_
  refine RL ?_
  refine l_nil ?_
  refine c_true rfl ?_
  refine c_seq ?_
  refine c_region ?_
  refine RL ?_
  refine RL ?_
  refine l_nil ?_
  refine c_ret ?_
  exact l_end (fun _ _ => rets_two rfl rfl) (List.nil_sublist _) ⟨by trivial, _, rfl⟩
 ·refine c_region ?_
  refine l_sure false rfl rfl rfl rfl ?_
  refine RL ?_
  refine l_nil ?_
  refine c_false rfl ?_
  refine c_seq ?_
  refine c_region ?_
  refine l_sure false rfl rfl rfl rfl ?_
  refine RL ?_
  refine l_nil ?_
  refine c_false rfl ?_
  refine c_seq ?_
  refine c_region ?_
  refine l_sure true rfl rfl rfl rfl ?_
  refine RL ?_
  refine l_nil ?_
  refine c_true rfl ?_
  refine c_seq ?_
  refine c_region ?_
  refine RL ?_
  refine RL ?_
  refine l_nil ?_
  refine c_ret ?_
  exact l_end (fun _ _ => rets_two rfl rfl) (List.nil_sublist _) ⟨by trivial, _, rfl⟩
 ·refine c_region ?_
  refine l_sure false rfl rfl rfl rfl ?_
  refine RL ?_
  refine l_nil ?_
  refine c_false rfl ?_
  refine c_seq ?_
  refine c_region ?_
  refine l_sure false rfl rfl rfl rfl ?_
  refine RL ?_
  refine l_nil ?_
  refine c_false rfl ?_
  refine c_seq ?_
  refine c_region ?_
  refine l_sure false rfl rfl rfl rfl ?_
  refine RL ?_
  refine l_nil ?_
  refine c_false rfl ?_
  refine c_seq ?_
  refine c_region ?_
  refine l_sure true rfl rfl rfl rfl ?_
  refine RL ?_
  refine l_nil ?_
  refine c_true rfl ?_
  refine c_seq ?_
  refine c_region ?_
  refine RL ?_
  refine RL ?_
  refine l_nil ?_
  refine c_ret ?_
  exact l_end (fun _ _ => rets_two rfl rfl) (List.nil_sublist _) ⟨by trivial, _, rfl⟩
 ·refine c_region ?_
  refine l_sure false rfl rfl rfl rfl ?_
  refine RL ?_
  refine l_nil ?_
  refine c_false rfl ?_
  refine c_seq ?_
  refine c_region ?_
  refine l_sure false rfl rfl rfl rfl ?_
  refine RL ?_
  refine l_nil ?_
  refine c_false rfl ?_
  refine c_seq ?_
  refine c_region ?_
  refine l_sure false rfl rfl rfl rfl ?_
  refine RL ?_
  refine l_nil ?_
  refine c_false rfl ?_
  refine c_seq ?_
  refine c_region ?_
  refine l_sure false rfl rfl rfl rfl ?_
  refine RL ?_
  refine l_nil ?_
  refine c_false rfl ?_
  refine c_seq ?_
  refine c_region ?_
  refine l_sure true rfl rfl rfl rfl ?_
  refine RL ?_
  refine l_nil ?_
  refine c_true rfl ?_
  refine c_seq ?_
  refine c_region ?_
  refine RL ?_
  refine RL ?_
  refine l_nil ?_
  refine c_ret ?_
  exact l_end (fun _ _ => rets_two rfl rfl) (List.nil_sublist _) ⟨by trivial, _, rfl⟩
 ·refine c_region ?_
  refine l_sure false rfl rfl rfl rfl ?_
  refine RL ?_
  refine l_nil ?_
  refine c_false rfl ?_
  refine c_seq ?_
  refine c_region ?_
  refine l_sure false rfl rfl rfl rfl ?_
  refine RL ?_
  refine l_nil ?_
  refine c_false rfl ?_
  refine c_seq ?_
  refine c_region ?_
  refine l_sure false rfl rfl rfl rfl ?_
  refine RL ?_
  refine l_nil ?_
  refine c_false rfl ?_
  refine c_seq ?_
  refine c_region ?_
  refine l_sure false rfl rfl rfl rfl ?_
  refine RL ?_
  refine l_nil ?_
  refine c_false rfl ?_
  refine c_seq ?_
  refine c_region ?_
  refine l_sure false rfl rfl rfl rfl ?_
  refine RL ?_
  refine l_nil ?_
  refine c_false rfl ?_
  refine c_seq ?_
  refine c_region ?_
  refine l_sure true rfl rfl rfl rfl ?_
  refine RL ?_
  refine l_nil ?_
  refine c_true rfl ?_
  refine c_seq ?_
  refine c_region ?_
  refine RL ?_
  refine RL ?_
  refine l_nil ?_
  refine c_ret ?_
  exact l_end (fun _ _ => rets_two rfl rfl) (List.nil_sublist _) ⟨by trivial, _, rfl⟩
 ·refine c_region ?_
  refine l_sure false rfl rfl rfl rfl ?_
  refine RL ?_
  refine l_nil ?_
  refine c_false rfl ?_
  refine c_seq ?_
  refine c_region ?_
  refine l_sure false rfl rfl rfl rfl ?_
  refine RL ?_
  refine l_nil ?_
  refine c_false rfl ?_
  refine c_seq ?_
  refine c_region ?_
  refine l_sure false rfl rfl rfl rfl ?_
  refine RL ?_
  refine l_nil ?_
  refine c_false rfl ?_
  refine c_seq ?_
  refine c_region ?_
  refine l_sure false rfl rfl rfl rfl ?_
  refine RL ?_
  refine l_nil ?_
  refine c_false rfl ?_
  refine c_seq ?_
  refine c_region ?_
  refine l_sure false rfl rfl rfl rfl ?_
  refine RL ?_
  refine l_nil ?_
  refine c_false rfl ?_
  refine c_seq ?_
  refine c_region ?_
  refine l_sure false rfl rfl rfl rfl ?_
  refine RL ?_
  refine l_nil ?_
  refine c_false rfl ?_
  refine c_seq ?_
  refine c_region ?_
  refine l_sure true rfl rfl rfl rfl ?_
  refine RL ?_
  refine l_nil ?_
  refine c_true rfl ?_
  refine c_seq ?_
  refine c_region ?_
  refine RL ?_
  refine RL ?_
  refine l_nil ?_
  refine c_ret ?_
  exact l_end (fun _ _ => rets_two rfl rfl) (List.nil_sublist _) ⟨by trivial, _, rfl⟩
 ·refine c_region ?_
  refine l_sure false rfl rfl rfl rfl ?_
  refine RL ?_
  refine l_nil ?_
  refine c_false rfl ?_
  refine c_seq ?_
  refine c_region ?_
  refine l_sure false rfl rfl rfl rfl ?_
  refine RL ?_
  refine l_nil ?_
  refine c_false rfl ?_
  refine c_seq ?_
  refine c_region ?_
  refine l_sure false rfl rfl rfl rfl ?_
  refine RL ?_
  refine l_nil ?_
  refine c_false rfl ?_
  refine c_seq ?_
  refine c_region ?_
  refine l_sure false rfl rfl rfl rfl ?_
  refine RL ?_
  refine l_nil ?_
  refine c_false rfl ?_
  refine c_seq ?_
  refine c_region ?_
  refine l_sure false rfl rfl rfl rfl ?_
  refine RL ?_
  refine l_nil ?_
  refine c_false rfl ?_
  refine c_seq ?_
  refine c_region ?_
  refine l_sure false rfl rfl rfl rfl ?_
  refine RL ?_
  refine l_nil ?_
  refine c_false rfl ?_
  refine c_seq ?_
  refine c_region ?_
  refine l_sure false rfl rfl rfl rfl ?_
  refine RL ?_
  refine l_nil ?_
  refine c_false rfl ?_
  refine c_seq ?_
  refine c_region ?_
  refine l_sure true rfl rfl rfl rfl ?_
  refine RL ?_
  refine l_nil ?_
  refine c_true rfl ?_
  refine c_seq ?_
  refine c_region ?_
  refine RL ?_
  refine RL ?_
  refine l_nil ?_
  refine c_ret ?_
  exact l_end (fun _ _ => rets_two rfl rfl) (List.nil_sublist _) ⟨by trivial, _, rfl⟩
 ·refine c_region ?_
  refine l_sure false rfl rfl rfl rfl ?_
  refine RL ?_
  refine l_nil ?_
  refine c_false rfl ?_
  refine c_seq ?_
  refine c_region ?_
  refine l_sure false rfl rfl rfl rfl ?_
  refine RL ?_
  refine l_nil ?_
  refine c_false rfl ?_
  refine c_seq ?_
  refine c_region ?_
  refine l_sure false rfl rfl rfl rfl ?_
  refine RL ?_
  refine l_nil ?_
  refine c_false rfl ?_
  refine c_seq ?_
  refine c_region ?_
  refine l_sure false rfl rfl rfl rfl ?_
  refine RL ?_
  refine l_nil ?_
  refine c_false rfl ?_
  refine c_seq ?_
  refine c_region ?_
  refine l_sure false rfl rfl rfl rfl ?_
  refine RL ?_
  refine l_nil ?_
  refine c_false rfl ?_
  refine c_seq ?_
  refine c_region ?_
  refine l_sure false rfl rfl rfl rfl ?_
  refine RL ?_
  refine l_nil ?_
  refine c_false rfl ?_
  refine c_seq ?_
  refine c_region ?_
  refine l_sure false rfl rfl rfl rfl ?_
  refine RL ?_
  refine l_nil ?_
  refine c_false rfl ?_
  refine c_seq ?_
  refine c_region ?_
  refine l_sure false rfl rfl rfl rfl ?_
  refine RL ?_
  refine l_nil ?_
  refine c_false rfl ?_
  refine c_seq ?_
  refine c_region ?_
  refine l_sure true rfl rfl rfl rfl ?_
  refine RL ?_
  refine l_nil ?_
  refine c_true rfl ?_
  refine c_seq ?_
  refine c_region ?_
  refine RL ?_
  refine RL ?_
  refine l_nil ?_
  refine c_ret ?_
  exact l_end (fun _ _ => rets_two rfl rfl) (List.nil_sublist _) ⟨by trivial, _, rfl⟩
 ·refine c_region ?_
  refine l_sure false rfl rfl rfl rfl ?_
  refine RL ?_
  refine l_nil ?_
  refine c_false rfl ?_
  refine c_seq ?_
  refine c_region ?_
  refine l_sure false rfl rfl rfl rfl ?_
  refine RL ?_
  refine l_nil ?_
  refine c_false rfl ?_
  refine c_seq ?_
  refine c_region ?_
  refine l_sure false rfl rfl rfl rfl ?_
  refine RL ?_
  refine l_nil ?_
  refine c_false rfl ?_
  refine c_seq ?_
  refine c_region ?_
  refine l_sure false rfl rfl rfl rfl ?_
  refine RL ?_
  refine l_nil ?_
  refine c_false rfl ?_
  refine c_seq ?_
  refine c_region ?_
  refine l_sure false rfl rfl rfl rfl ?_
  refine RL ?_
  refine l_nil ?_
  refine c_false rfl ?_
  refine c_seq ?_
  refine c_region ?_
  refine l_sure false rfl rfl rfl rfl ?_
  refine RL ?_
  refine l_nil ?_
  refine c_false rfl ?_
  refine c_seq ?_
  refine c_region ?_
  refine l_sure false rfl rfl rfl rfl ?_
  refine RL ?_
  refine l_nil ?_
  refine c_false rfl ?_
  refine c_seq ?_
  refine c_region ?_
  refine l_sure false rfl rfl rfl rfl ?_
  refine RL ?_
  refine l_nil ?_
  refine c_false rfl ?_
  refine c_seq ?_
  refine c_region ?_
  refine l_sure false rfl rfl rfl rfl ?_
  refine RL ?_
  refine l_nil ?_
  refine c_false rfl ?_
  refine c_seq ?_
  refine c_region ?_
  refine l_sure true rfl rfl rfl rfl ?_
  refine RL ?_
  refine l_nil ?_
  refine c_true rfl ?_
  refine c_seq ?_
  refine c_region ?_
  refine RL ?_
  refine RL ?_
  refine l_nil ?_
  refine c_ret ?_
  exact l_end (fun _ _ => rets_two rfl rfl) (List.nil_sublist _) ⟨by trivial, _, rfl⟩
 ·refine c_region ?_
  refine l_sure false rfl rfl rfl rfl ?_
  refine RL ?_
  refine l_nil ?_
  refine c_false rfl ?_
  refine c_seq ?_
  refine c_region ?_
  refine l_sure false rfl rfl rfl rfl ?_
  refine RL ?_
  refine l_nil ?_
  refine c_false rfl ?_
  refine c_seq ?_
  refine c_region ?_
  refine l_sure false rfl rfl rfl rfl ?_
  refine RL ?_
  refine l_nil ?_
  refine c_false rfl ?_
  refine c_seq ?_
  refine c_region ?_
  refine l_sure false rfl rfl rfl rfl ?_
  refine RL ?_
  refine l_nil ?_
  refine c_false rfl ?_
  refine c_seq ?_
  refine c_region ?_
  refine l_sure false rfl rfl rfl rfl ?_
  refine RL ?_
  refine l_nil ?_
  refine c_false rfl ?_
  refine c_seq ?_
  refine c_region ?_
  refine l_sure false rfl rfl rfl rfl ?_
  refine RL ?_
  refine l_nil ?_
  refine c_false rfl ?_
  refine c_seq ?_
  refine c_region ?_
  refine l_sure false rfl rfl rfl rfl ?_
  refine RL ?_
  refine l_nil ?_
  refine c_false rfl ?_
  refine c_seq ?_
  refine c_region ?_
  refine l_sure false rfl rfl rfl rfl ?_
  refine RL ?_
  refine l_nil ?_
  refine c_false rfl ?_
  refine c_seq ?_
  refine c_region ?_
  refine l_sure false rfl rfl rfl rfl ?_
  refine RL ?_
  refine l_nil ?_
  refine c_false rfl ?_
  refine c_seq ?_
  refine c_region ?_
  refine l_sure false rfl rfl rfl rfl ?_
  refine RL ?_
  refine l_nil ?_
  refine c_false rfl ?_
  refine c_seq ?_
  refine c_region ?_
  refine l_sure true rfl rfl rfl rfl ?_
  refine RL ?_
  refine l_nil ?_
  refine c_true rfl ?_
  refine c_seq ?_
  refine c_region ?_
  refine RL ?_
  refine RL ?_
  refine l_nil ?_
  refine c_ret ?_
  exact l_end (fun _ _ => rets_two rfl rfl) (List.nil_sublist _) ⟨by trivial, _, rfl⟩
 ·refine c_region ?_
  refine l_sure false rfl rfl rfl rfl ?_
  refine RL ?_
  refine l_nil ?_
  refine c_false rfl ?_
  refine c_seq ?_
  refine c_region ?_
  refine l_sure false rfl rfl rfl rfl ?_
  refine RL ?_
  refine l_nil ?_
  refine c_false rfl ?_
  refine c_seq ?_
  refine c_region ?_
  refine l_sure false rfl rfl rfl rfl ?_
  refine RL ?_
  refine l_nil ?_
  refine c_false rfl ?_
  refine c_seq ?_
  refine c_region ?_
  refine l_sure false rfl rfl rfl rfl ?_
  refine RL ?_
  refine l_nil ?_
  refine c_false rfl ?_
  refine c_seq ?_
  refine c_region ?_
  refine l_sure false rfl rfl rfl rfl ?_
  refine RL ?_
  refine l_nil ?_
  refine c_false rfl ?_
  refine c_seq ?_
  refine c_region ?_
  refine l_sure false rfl rfl rfl rfl ?_
  refine RL ?_
  refine l_nil ?_
  refine c_false rfl ?_
  refine c_seq ?_
  refine c_region ?_
  refine l_sure false rfl rfl rfl rfl ?_
  refine RL ?_
  refine l_nil ?_
  refine c_false rfl ?_
  refine c_seq ?_
  refine c_region ?_
  refine l_sure false rfl rfl rfl rfl ?_
  refine RL ?_
  refine l_nil ?_
  refine c_false rfl ?_
  refine c_seq ?_
  refine c_region ?_
  refine l_sure false rfl rfl rfl rfl ?_
  refine RL ?_
  refine l_nil ?_
  refine c_false rfl ?_
  refine c_seq ?_
  refine c_region ?_
  refine l_sure false rfl rfl rfl rfl ?_
  refine RL ?_
  refine l_nil ?_
  refine c_false rfl ?_
  refine c_seq ?_
  refine c_region ?_
  refine l_sure false rfl rfl rfl rfl ?_
  refine RL ?_
  refine l_nil ?_
  refine c_false rfl ?_
  refine c_seq ?_
  refine c_region ?_
  refine l_sure true rfl rfl rfl rfl ?_
  refine RL ?_
  refine l_nil ?_
  refine c_true rfl ?_
  refine c_seq ?_
  refine c_region ?_
  refine RL ?_
  refine RL ?_
  refine l_nil ?_
  refine c_ret ?_
  exact l_end (fun _ _ => rets_two rfl rfl) (List.nil_sublist _) ⟨by trivial, _, rfl⟩
 ·refine c_region ?_
  refine l_sure false rfl rfl rfl rfl ?_
  refine RL ?_
  refine l_nil ?_
  refine c_false rfl ?_
  refine c_seq ?_
  refine c_region ?_
  refine l_sure false rfl rfl rfl rfl ?_
  refine RL ?_
  refine l_nil ?_
  refine c_false rfl ?_
  refine c_seq ?_
  refine c_region ?_
  refine l_sure false rfl rfl rfl rfl ?_
  refine RL ?_
  refine l_nil ?_
  refine c_false rfl ?_
  refine c_seq ?_
  refine c_region ?_
  refine l_sure false rfl rfl rfl rfl ?_
  refine RL ?_
  refine l_nil ?_
  refine c_false rfl ?_
  refine c_seq ?_
  refine c_region ?_
  refine l_sure false rfl rfl rfl rfl ?_
  refine RL ?_
  refine l_nil ?_
  refine c_false rfl ?_
  refine c_seq ?_
  refine c_region ?_
  refine l_sure false rfl rfl rfl rfl ?_
  refine RL ?_
  refine l_nil ?_
  refine c_false rfl ?_
  refine c_seq ?_
  refine c_region ?_
  refine l_sure false rfl rfl rfl rfl ?_
  refine RL ?_
  refine l_nil ?_
  refine c_false rfl ?_
  refine c_seq ?_
  refine c_region ?_
  refine l_sure false rfl rfl rfl rfl ?_
  refine RL ?_
  refine l_nil ?_
  refine c_false rfl ?_
  refine c_seq ?_
  refine c_region ?_
  refine l_sure false rfl rfl rfl rfl ?_
  refine RL ?_
  refine l_nil ?_
  refine c_false rfl ?_
  refine c_seq ?_
  refine c_region ?_
  refine l_sure false rfl rfl rfl rfl ?_
  refine RL ?_
  refine l_nil ?_
  refine c_false rfl ?_
  refine c_seq ?_
  refine c_region ?_
  refine l_sure false rfl rfl rfl rfl ?_
  refine RL ?_
  refine l_nil ?_
  refine c_false rfl ?_
  refine c_seq ?_
  refine c_region ?_
  refine l_sure false rfl rfl rfl rfl ?_
  refine RL ?_
  refine l_nil ?_
  refine c_false rfl ?_
  refine c_seq ?_
  refine c_region ?_
  refine l_sure true rfl rfl rfl rfl ?_
  refine RL ?_
  refine l_nil ?_
  refine c_true rfl ?_
  refine c_seq ?_
  refine c_region ?_
  refine RL ?_
  refine RL ?_
  refine l_nil ?_
  refine c_ret ?_
  exact l_end (fun _ _ => rets_two rfl rfl) (List.nil_sublist _) ⟨by trivial, _, rfl⟩
 ·refine c_region ?_
  refine l_sure false rfl rfl rfl rfl ?_
  refine RL ?_
  refine l_nil ?_
  refine c_false rfl ?_
  refine c_seq ?_
  refine c_region ?_
  refine l_sure false rfl rfl rfl rfl ?_
  refine RL ?_
  refine l_nil ?_
  refine c_false rfl ?_
  refine c_seq ?_
  refine c_region ?_
  refine l_sure false rfl rfl rfl rfl ?_
  refine RL ?_
  refine l_nil ?_
  refine c_false rfl ?_
  refine c_seq ?_
  refine c_region ?_
  refine l_sure false rfl rfl rfl rfl ?_
  refine RL ?_
  refine l_nil ?_
  refine c_false rfl ?_
  refine c_seq ?_
  refine c_region ?_
  refine l_sure false rfl rfl rfl rfl ?_
  refine RL ?_
  refine l_nil ?_
  refine c_false rfl ?_
  refine c_seq ?_
  refine c_region ?_
  refine l_sure false rfl rfl rfl rfl ?_
  refine RL ?_
  refine l_nil ?_
  refine c_false rfl ?_
  refine c_seq ?_
  refine c_region ?_
  refine l_sure false rfl rfl rfl rfl ?_
  refine RL ?_
  refine l_nil ?_
  refine c_false rfl ?_
  refine c_seq ?_
  refine c_region ?_
  refine l_sure false rfl rfl rfl rfl ?_
  refine RL ?_
  refine l_nil ?_
  refine c_false rfl ?_
  refine c_seq ?_
  refine c_region ?_
  refine l_sure false rfl rfl rfl rfl ?_
  refine RL ?_
  refine l_nil ?_
  refine c_false rfl ?_
  refine c_seq ?_
  refine c_region ?_
  refine l_sure false rfl rfl rfl rfl ?_
  refine RL ?_
  refine l_nil ?_
  refine c_false rfl ?_
  refine c_seq ?_
  refine c_region ?_
  refine l_sure false rfl rfl rfl rfl ?_
  refine RL ?_
  refine l_nil ?_
  refine c_false rfl ?_
  refine c_seq ?_
  refine c_region ?_
  refine l_sure false rfl rfl rfl rfl ?_
  refine RL ?_
  refine l_nil ?_
  refine c_false rfl ?_
  refine c_seq ?_
  refine c_region ?_
  refine l_sure false rfl rfl rfl rfl ?_
  refine RL ?_
  refine l_nil ?_
  refine c_false rfl ?_
  refine c_seq ?_
  refine c_region ?_
  refine l_sure true rfl rfl rfl rfl ?_
  refine RL ?_
  refine l_nil ?_
  refine c_true rfl ?_
  refine c_seq ?_
  refine c_region ?_
  refine RL ?_
  refine RL ?_
  refine l_nil ?_
  refine c_ret ?_
  exact l_end (fun _ _ => rets_two rfl rfl) (List.nil_sublist _) ⟨by trivial, _, rfl⟩
 ·refine c_region ?_
  refine l_sure false rfl rfl rfl rfl ?_
  refine RL ?_
  refine l_nil ?_
  refine c_false rfl ?_
  refine c_seq ?_
  refine c_region ?_
  refine l_sure false rfl rfl rfl rfl ?_
  refine RL ?_
  refine l_nil ?_
  refine c_false rfl ?_
  refine c_seq ?_
  refine c_region ?_
  refine l_sure false rfl rfl rfl rfl ?_
  refine RL ?_
  refine l_nil ?_
  refine c_false rfl ?_
  refine c_seq ?_
  refine c_region ?_
  refine l_sure false rfl rfl rfl rfl ?_
  refine RL ?_
  refine l_nil ?_
  refine c_false rfl ?_
  refine c_seq ?_
  refine c_region ?_
  refine l_sure false rfl rfl rfl rfl ?_
  refine RL ?_
  refine l_nil ?_
  refine c_false rfl ?_
  refine c_seq ?_
  refine c_region ?_
  refine l_sure false rfl rfl rfl rfl ?_
  refine RL ?_
  refine l_nil ?_
  refine c_false rfl ?_
  refine c_seq ?_
  refine c_region ?_
  refine l_sure false rfl rfl rfl rfl ?_
  refine RL ?_
  refine l_nil ?_
  refine c_false rfl ?_
  refine c_seq ?_
  refine c_region ?_
  refine l_sure false rfl rfl rfl rfl ?_
  refine RL ?_
  refine l_nil ?_
  refine c_false rfl ?_
  refine c_seq ?_
  refine c_region ?_
  refine l_sure false rfl rfl rfl rfl ?_
  refine RL ?_
  refine l_nil ?_
  refine c_false rfl ?_
  refine c_seq ?_
  refine c_region ?_
  refine l_sure false rfl rfl rfl rfl ?_
  refine RL ?_
  refine l_nil ?_
  refine c_false rfl ?_
  refine c_seq ?_
  refine c_region ?_
  refine l_sure false rfl rfl rfl rfl ?_
  refine RL ?_
  refine l_nil ?_
  refine c_false rfl ?_
  refine c_seq ?_
  refine c_region ?_
  refine l_sure false rfl rfl rfl rfl ?_
  refine RL ?_
  refine l_nil ?_
  refine c_false rfl ?_
  refine c_seq ?_
  refine c_region ?_
  refine l_sure false rfl rfl rfl rfl ?_
  refine RL ?_
  refine l_nil ?_
  refine c_false rfl ?_
  refine c_seq ?_
  refine c_region ?_
  refine l_sure false rfl rfl rfl rfl ?_
  refine RL ?_
  refine l_nil ?_
  refine c_false rfl ?_
  refine c_seq ?_
  refine c_region ?_
  refine l_sure true rfl rfl rfl rfl ?_
  refine RL ?_
  refine l_nil ?_
  refine c_true rfl ?_
  refine c_seq ?_
  refine c_region ?_
  refine RL ?_
  refine RL ?_
  refine l_nil ?_
  refine c_ret ?_
  exact l_end (fun _ _ => rets_two rfl rfl) (List.nil_sublist _) ⟨by trivial, _, rfl⟩
 ·refine c_region ?_
  refine l_sure false rfl rfl rfl rfl ?_
  refine RL ?_
  refine l_nil ?_
  refine c_false rfl ?_
  refine c_seq ?_
  refine c_region ?_
  refine l_sure false rfl rfl rfl rfl ?_
  refine RL ?_
  refine l_nil ?_
  refine c_false rfl ?_
  refine c_seq ?_
  refine c_region ?_
  refine l_sure false rfl rfl rfl rfl ?_
  refine RL ?_
  refine l_nil ?_
  refine c_false rfl ?_
  refine c_seq ?_
  refine c_region ?_
  refine l_sure false rfl rfl rfl rfl ?_
  refine RL ?_
  refine l_nil ?_
  refine c_false rfl ?_
  refine c_seq ?_
  refine c_region ?_
  refine l_sure false rfl rfl rfl rfl ?_
  refine RL ?_
  refine l_nil ?_
  refine c_false rfl ?_
  refine c_seq ?_
  refine c_region ?_
  refine l_sure false rfl rfl rfl rfl ?_
  refine RL ?_
  refine l_nil ?_
  refine c_false rfl ?_
  refine c_seq ?_
  refine c_region ?_
  refine l_sure false rfl rfl rfl rfl ?_
  refine RL ?_
  refine l_nil ?_
  refine c_false rfl ?_
  refine c_seq ?_
  refine c_region ?_
  refine l_sure false rfl rfl rfl rfl ?_
  refine RL ?_
  refine l_nil ?_
  refine c_false rfl ?_
  refine c_seq ?_
  refine c_region ?_
  refine l_sure false rfl rfl rfl rfl ?_
  refine RL ?_
  refine l_nil ?_
  refine c_false rfl ?_
  refine c_seq ?_
  refine c_region ?_
  refine l_sure false rfl rfl rfl rfl ?_
  refine RL ?_
  refine l_nil ?_
  refine c_false rfl ?_
  refine c_seq ?_
  refine c_region ?_
  refine l_sure false rfl rfl rfl rfl ?_
  refine RL ?_
  refine l_nil ?_
  refine c_false rfl ?_
  refine c_seq ?_
  refine c_region ?_
  refine l_sure false rfl rfl rfl rfl ?_
  refine RL ?_
  refine l_nil ?_
  refine c_false rfl ?_
  refine c_seq ?_
  refine c_region ?_
  refine l_sure false rfl rfl rfl rfl ?_
  refine RL ?_
  refine l_nil ?_
  refine c_false rfl ?_
  refine c_seq ?_
  refine c_region ?_
  refine l_sure false rfl rfl rfl rfl ?_
  refine RL ?_
  refine l_nil ?_
  refine c_false rfl ?_
  refine c_seq ?_
  refine c_region ?_
  refine l_sure false rfl rfl rfl rfl ?_
  refine RL ?_
  refine l_nil ?_
  refine c_false rfl ?_
  refine c_seq ?_
  refine c_region ?_
  refine l_sure true rfl rfl rfl rfl ?_
  refine RL ?_
  refine l_nil ?_
  refine c_true rfl ?_
  refine c_seq ?_
  refine c_region ?_
  refine RL ?_
  refine RL ?_
  refine l_nil ?_
  refine c_ret ?_
  exact l_end (fun _ _ => rets_two rfl rfl) (List.nil_sublist _) ⟨by trivial, _, rfl⟩
 ·refine c_region ?_
  refine l_sure false rfl rfl rfl rfl ?_
  refine RL ?_
  refine l_nil ?_
  refine c_false rfl ?_
  refine c_seq ?_
  refine c_region ?_
  refine l_sure false rfl rfl rfl rfl ?_
  refine RL ?_
  refine l_nil ?_
  refine c_false rfl ?_
  refine c_seq ?_
  refine c_region ?_
  refine l_sure false rfl rfl rfl rfl ?_
  refine RL ?_
  refine l_nil ?_
  refine c_false rfl ?_
  refine c_seq ?_
  refine c_region ?_
  refine l_sure false rfl rfl rfl rfl ?_
  refine RL ?_
  refine l_nil ?_
  refine c_false rfl ?_
  refine c_seq ?_
  refine c_region ?_
  refine l_sure false rfl rfl rfl rfl ?_
  refine RL ?_
  refine l_nil ?_
  refine c_false rfl ?_
  refine c_seq ?_
  refine c_region ?_
  refine l_sure false rfl rfl rfl rfl ?_
  refine RL ?_
  refine l_nil ?_
  refine c_false rfl ?_
  refine c_seq ?_
  refine c_region ?_
  refine l_sure false rfl rfl rfl rfl ?_
  refine RL ?_
  refine l_nil ?_
  refine c_false rfl ?_
  refine c_seq ?_
  refine c_region ?_
  refine l_sure false rfl rfl rfl rfl ?_
  refine RL ?_
  refine l_nil ?_
  refine c_false rfl ?_
  refine c_seq ?_
  refine c_region ?_
  refine l_sure false rfl rfl rfl rfl ?_
  refine RL ?_
  refine l_nil ?_
  refine c_false rfl ?_
  refine c_seq ?_
  refine c_region ?_
  refine l_sure false rfl rfl rfl rfl ?_
  refine RL ?_
  refine l_nil ?_
  refine c_false rfl ?_
  refine c_seq ?_
  refine c_region ?_
  refine l_sure false rfl rfl rfl rfl ?_
  refine RL ?_
  refine l_nil ?_
  refine c_false rfl ?_
  refine c_seq ?_
  refine c_region ?_
  refine l_sure false rfl rfl rfl rfl ?_
  refine RL ?_
  refine l_nil ?_
  refine c_false rfl ?_
  refine c_seq ?_
  refine c_region ?_
  refine l_sure false rfl rfl rfl rfl ?_
  refine RL ?_
  refine l_nil ?_
  refine c_false rfl ?_
  refine c_seq ?_
  refine c_region ?_
  refine l_sure false rfl rfl rfl rfl ?_
  refine RL ?_
  refine l_nil ?_
  refine c_false rfl ?_
  refine c_seq ?_
  refine c_region ?_
  refine l_sure false rfl rfl rfl rfl ?_
  refine RL ?_
  refine l_nil ?_
  refine c_false rfl ?_
  refine c_seq ?_
  refine c_region ?_
  refine l_sure false rfl rfl rfl rfl ?_
  refine RL ?_
  refine l_nil ?_
  refine c_false rfl ?_
  refine c_seq ?_
  refine c_region ?_
  refine l_sure true rfl rfl rfl rfl ?_
  refine RL ?_
  refine l_nil ?_
  refine c_true rfl ?_
  refine c_seq ?_
  refine c_region ?_
  refine RL ?_
  refine RL ?_
  refine l_nil ?_
  refine c_ret ?_
  exact l_end (fun _ _ => rets_two rfl rfl) (List.nil_sublist _) ⟨by trivial, _, rfl⟩
 ·refine c_region ?_
  refine l_sure false rfl rfl rfl rfl ?_
  refine RL ?_
  refine l_nil ?_
  refine c_false rfl ?_
  refine c_seq ?_
  refine c_region ?_
  refine l_sure false rfl rfl rfl rfl ?_
  refine RL ?_
  refine l_nil ?_
  refine c_false rfl ?_
  refine c_seq ?_
  refine c_region ?_
  refine l_sure false rfl rfl rfl rfl ?_
  refine RL ?_
  refine l_nil ?_
  refine c_false rfl ?_
  refine c_seq ?_
  refine c_region ?_
  refine l_sure false rfl rfl rfl rfl ?_
  refine RL ?_
  refine l_nil ?_
  refine c_false rfl ?_
  refine c_seq ?_
  refine c_region ?_
  refine l_sure false rfl rfl rfl rfl ?_
  refine RL ?_
  refine l_nil ?_
  refine c_false rfl ?_
  refine c_seq ?_
  refine c_region ?_
  refine l_sure false rfl rfl rfl rfl ?_
  refine RL ?_
  refine l_nil ?_
  refine c_false rfl ?_
  refine c_seq ?_
  refine c_region ?_
  refine l_sure false rfl rfl rfl rfl ?_
  refine RL ?_
  refine l_nil ?_
  refine c_false rfl ?_
  refine c_seq ?_
  refine c_region ?_
  refine l_sure false rfl rfl rfl rfl ?_
  refine RL ?_
  refine l_nil ?_
  refine c_false rfl ?_
  refine c_seq ?_
  refine c_region ?_
  refine l_sure false rfl rfl rfl rfl ?_
  refine RL ?_
  refine l_nil ?_
  refine c_false rfl ?_
  refine c_seq ?_
  refine c_region ?_
  refine l_sure false rfl rfl rfl rfl ?_
  refine RL ?_
  refine l_nil ?_
  refine c_false rfl ?_
  refine c_seq ?_
  refine c_region ?_
  refine l_sure false rfl rfl rfl rfl ?_
  refine RL ?_
  refine l_nil ?_
  refine c_false rfl ?_
  refine c_seq ?_
  refine c_region ?_
  refine l_sure false rfl rfl rfl rfl ?_
  refine RL ?_
  refine l_nil ?_
  refine c_false rfl ?_
  refine c_seq ?_
  refine c_region ?_
  refine l_sure false rfl rfl rfl rfl ?_
  refine RL ?_
  refine l_nil ?_
  refine c_false rfl ?_
  refine c_seq ?_
  refine c_region ?_
  refine l_sure false rfl rfl rfl rfl ?_
  refine RL ?_
  refine l_nil ?_
  refine c_false rfl ?_
  refine c_seq ?_
  refine c_region ?_
  refine l_sure false rfl rfl rfl rfl ?_
  refine RL ?_
  refine l_nil ?_
  refine c_false rfl ?_
  refine c_seq ?_
  refine c_region ?_
  refine l_sure false rfl rfl rfl rfl ?_
  refine RL ?_
  refine l_nil ?_
  refine c_false rfl ?_
  refine c_seq ?_
  refine c_region ?_
  refine l_sure false rfl rfl rfl rfl ?_
  refine RL ?_
  refine l_nil ?_
  refine c_false rfl ?_
  refine c_seq ?_
  refine c_region ?_
  refine l_sure true rfl rfl rfl rfl ?_
  refine RL ?_
  refine l_nil ?_
  refine c_true rfl ?_
  refine c_seq ?_
  refine c_region ?_
  refine RL ?_
  refine RL ?_
  refine l_nil ?_
  refine c_ret ?_
  exact l_end (fun _ _ => rets_two rfl rfl) (List.nil_sublist _) ⟨by trivial, _, rfl⟩

end Go.Proofs.YtiadmbhafplepaaDoor
