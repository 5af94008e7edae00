/- The document's orders. -/
import Derived.Test.YtmihilhmdcndfaaOpsT
import Derived.Test.YtmihilhmdcndfaaProg
import Derived.Test.YtmihilhmdcndfaaCalls
namespace Go.Proofs.Ytmihilhmdcndfaa
open Go Go.VV Go.Proofs
set_option linter.unusedSimpArgs false
set_option linter.unusedVariables false
set_option maxRecDepth 100000
theorem rbehind_fn (b : Int) (hb : 0 ≤ b) (hb2 : b < 256) (w : World) :
    Does Try.prog 40 [.int .i64 b] w [] (fun v H => H = [] ∧ v = .agg (cO (behS b)).toArray) := by
  refine does_of Try.func40 rfl rfl rfl (St.refl w) ?_
  refine c_seq ?_
  refine c_region ?_
  refine l_x (x_alloc rfl) rfl rfl ?_
  rintro _ _ ⟨b2, rfl, rfl⟩
  refine l_nil ?_
  refine c_seq ?_
  refine c_region ?_
  refine l_l rfl rfl rfl ?_
  refine l_as (v := (.int .i64 (b / 64))) (quo_pos rfl rfl (by decide)) rfl rfl (congrArg _ (by rw [Int.tdiv_eq_ediv_of_nonneg (by omega), wrap_i64 (by omega) (by omega)])) ?_
  refine l_l rfl rfl rfl ?_
  refine l_as (v := (.int .i64 (b / 8))) (quo_pos rfl rfl (by decide)) rfl rfl (congrArg _ (by rw [Int.tdiv_eq_ediv_of_nonneg (by omega), wrap_i64 (by omega) (by omega)])) ?_
  refine l_as (v := (.int .i64 (b / 8 % 8))) (rem_pos rfl rfl (by decide)) rfl rfl (congrArg _ (Int.tmod_eq_emod_of_nonneg (by omega))) ?_
  refine l_l rfl rfl rfl ?_
  refine l_as (v := (.int .i64 (b % 8))) (rem_pos rfl rfl (by decide)) rfl rfl (congrArg _ (Int.tmod_eq_emod_of_nonneg (by omega))) ?_
  refine l_l rfl rfl rfl ?_
  refine l_l rfl rfl rfl ?_
  refine l_l rfl rfl rfl ?_
  refine l_nil ?_
  refine c_seq ?_
  refine c_seq ?_
  refine c_region ?_
  refine l_l rfl rfl rfl ?_
  refine l_l rfl rfl rfl ?_
  refine l_nil ?_
  refine c_cond rfl (fun h1 => ?_) (fun h1 => ?_)
  · refine c_seq ?_
    refine c_region ?_
    refine l_l rfl rfl rfl ?_
    refine l_l rfl rfl rfl ?_
    refine l_l (light_struct rfl rfl rfl rfl) rfl rfl ?_
    refine l_x (by first | exact x_store 0 rfl rfl rfl rfl rfl rfl (by first | rfl | exact Nat.le_of_ble_eq_true rfl | (simp; done)) | exact x_store 1 rfl rfl rfl rfl rfl rfl (by first | rfl | exact Nat.le_of_ble_eq_true rfl | (simp; done)) | exact x_store 2 rfl rfl rfl rfl rfl rfl (by first | rfl | exact Nat.le_of_ble_eq_true rfl | (simp; done)) | exact x_store 3 rfl rfl rfl rfl rfl rfl (by first | rfl | exact Nat.le_of_ble_eq_true rfl | (simp; done))) rfl rfl ?_
    rintro _ _ ⟨rfl, rfl⟩
    refine l_nil ?_
    refine c_ret ?_
    exact l_end0 (fun w hw => rets_cell rfl rfl rfl (row_own (by repeat (first | exact .head _ | refine .tail _ ?_ | refine List.mem_append_right _ ?_)) w hw)) ⟨rfl, aggE (by simp_all [putL, cO, behS])⟩
  · refine c_skip ?_
    refine c_seq ?_
    refine c_region ?_
    refine l_l rfl rfl rfl ?_
    refine l_as (v := (.int .i64 (43 + b / 64))) rfl rfl rfl (congrArg _ (wrap_i64 (by omega) (by omega))) ?_
    refine l_l rfl rfl rfl ?_
    refine l_l rfl rfl rfl ?_
    refine l_l (light_struct rfl rfl rfl rfl) rfl rfl ?_
    refine l_x (by first | exact x_store 0 rfl rfl rfl rfl rfl rfl (by first | rfl | exact Nat.le_of_ble_eq_true rfl | (simp; done)) | exact x_store 1 rfl rfl rfl rfl rfl rfl (by first | rfl | exact Nat.le_of_ble_eq_true rfl | (simp; done)) | exact x_store 2 rfl rfl rfl rfl rfl rfl (by first | rfl | exact Nat.le_of_ble_eq_true rfl | (simp; done)) | exact x_store 3 rfl rfl rfl rfl rfl rfl (by first | rfl | exact Nat.le_of_ble_eq_true rfl | (simp; done))) rfl rfl ?_
    rintro _ _ ⟨rfl, rfl⟩
    refine l_nil ?_
    refine c_ret ?_
    exact l_end0 (fun w hw => rets_cell rfl rfl rfl (row_own (by repeat (first | exact .head _ | refine .tail _ ?_ | refine List.mem_append_right _ ?_)) w hw)) ⟨rfl, aggE (by simp_all [putL, cO, behS])⟩

theorem rpair_fn (p : Int) (w : World) :
    Does Try.prog 39 [.int .i64 p] w [] (fun v H => H = [] ∧ v = .int .i64 (prS p)) := by
  refine does_of Try.func39 rfl rfl rfl (St.refl w) ?_
  refine c_seq ?_
  refine c_region ?_
  refine l_l rfl rfl rfl ?_
  refine l_nil ?_
  refine c_seq ?_
  refine c_seq ?_
  refine c_region ?_
  refine l_l rfl rfl rfl ?_
  refine l_l rfl rfl rfl ?_
  refine l_nil ?_
  refine c_cond rfl (fun h1 => ?_) (fun h1 => ?_)
  · refine c_seq ?_
    refine c_region ?_
    refine l_l rfl rfl rfl ?_
    refine l_nil ?_
    refine c_ret ?_
    exact l_end0 (fun _ _ => rets_v rfl) ⟨rfl, congrArg _ (by simp_all [prS])⟩
  · refine c_skip ?_
    refine c_seq ?_
    refine c_region ?_
    refine l_l rfl rfl rfl ?_
    refine l_l rfl rfl rfl ?_
    refine l_nil ?_
    refine c_ret ?_
    exact l_end0 (fun _ _ => rets_v rfl) ⟨rfl, congrArg _ (by simp_all [prS])⟩

theorem rlow_fn (y z b c : Int) (hy : 0 ≤ y ∧ y < 8) (hz : 0 ≤ z ∧ z < 8) (hb : 0 ≤ b ∧ b < 256) (w : World) :
    Does Try.prog 18 [.int .i64 y, .int .i64 z, .int .u8 b, .int .u16 c] w [] (fun v H => H = [] ∧ v = .agg (cO (numO (lowS y z) b c)).toArray) := by
  refine does_of Try.func18 rfl rfl rfl (St.refl w) ?_
  refine c_seq ?_
  refine c_region ?_
  refine l_x (x_alloc rfl) rfl rfl ?_
  rintro _ _ ⟨b8, rfl, rfl⟩
  refine l_nil ?_
  refine c_seq ?_
  refine c_region ?_
  refine l_l rfl rfl rfl ?_
  refine l_as (v := (.int .i64 (y / 2))) (quo_pos rfl rfl (by decide)) rfl rfl (congrArg _ (by rw [Int.tdiv_eq_ediv_of_nonneg (by omega), wrap_i64 (by omega) (by omega)])) ?_
  refine l_l rfl rfl rfl ?_
  refine l_as (v := (.int .i64 (y % 2))) (rem_pos rfl rfl (by decide)) rfl rfl (congrArg _ (Int.tmod_eq_emod_of_nonneg (by omega))) ?_
  refine l_l rfl rfl rfl ?_
  refine l_l rfl rfl rfl ?_
  refine l_nil ?_
  refine c_seq ?_
  refine c_seq ?_
  refine c_region ?_
  refine l_l rfl rfl rfl ?_
  refine l_nil ?_
  refine c_block ?_
  refine c_seq ?_
  refine c_region ?_
  refine l_l rfl rfl rfl ?_
  refine l_l rfl rfl rfl ?_
  refine l_nil ?_
  refine c_cond rfl (fun h1 => ?_) (fun h1 => ?_)
  · refine c_seq ?_
    refine c_seq ?_
    refine c_region ?_
    refine l_l rfl rfl rfl ?_
    refine l_nil ?_
    refine c_block ?_
    refine c_seq ?_
    refine c_region ?_
    refine l_l rfl rfl rfl ?_
    refine l_l rfl rfl rfl ?_
    refine l_nil ?_
    refine c_cond rfl (fun h2 => ?_) (fun h2 => ?_)
    · refine c_seq ?_
      refine c_region ?_
      refine l_l (light_struct rfl rfl rfl rfl) rfl rfl ?_
      refine l_x (by first | exact x_store 0 rfl rfl rfl rfl rfl rfl (by first | rfl | exact Nat.le_of_ble_eq_true rfl | (simp; done)) | exact x_store 1 rfl rfl rfl rfl rfl rfl (by first | rfl | exact Nat.le_of_ble_eq_true rfl | (simp; done)) | exact x_store 2 rfl rfl rfl rfl rfl rfl (by first | rfl | exact Nat.le_of_ble_eq_true rfl | (simp; done)) | exact x_store 3 rfl rfl rfl rfl rfl rfl (by first | rfl | exact Nat.le_of_ble_eq_true rfl | (simp; done))) rfl rfl ?_
      rintro _ _ ⟨rfl, rfl⟩
      refine l_nil ?_
      refine c_ret ?_
      exact l_end0 (fun w hw => rets_cell rfl rfl rfl (row_own (by repeat (first | exact .head _ | refine .tail _ ?_ | refine List.mem_append_right _ ?_)) w hw)) ⟨rfl, aggE (by simp_all [putL, cO, numO, lowS] <;> simp [if_neg (show ¬ y < 4 by omega)])⟩
    · refine c_seq ?_
      refine c_region ?_
      refine l_l rfl rfl rfl ?_
      refine l_l rfl rfl rfl ?_
      refine l_nil ?_
      refine c_cond rfl (fun h3 => ?_) (fun h3 => ?_)
      · refine c_seq ?_
        refine c_region ?_
        refine l_l rfl rfl rfl ?_
        refine l_l (light_struct rfl rfl rfl rfl) rfl rfl ?_
        refine l_x (by first | exact x_store 0 rfl rfl rfl rfl rfl rfl (by first | rfl | exact Nat.le_of_ble_eq_true rfl | (simp; done)) | exact x_store 1 rfl rfl rfl rfl rfl rfl (by first | rfl | exact Nat.le_of_ble_eq_true rfl | (simp; done)) | exact x_store 2 rfl rfl rfl rfl rfl rfl (by first | rfl | exact Nat.le_of_ble_eq_true rfl | (simp; done)) | exact x_store 3 rfl rfl rfl rfl rfl rfl (by first | rfl | exact Nat.le_of_ble_eq_true rfl | (simp; done))) rfl rfl ?_
        rintro _ _ ⟨rfl, rfl⟩
        refine l_nil ?_
        refine c_ret ?_
        exact l_end0 (fun w hw => rets_cell rfl rfl rfl (row_own (by repeat (first | exact .head _ | refine .tail _ ?_ | refine List.mem_append_right _ ?_)) w hw)) ⟨rfl, aggE (by simp_all [putL, cO, numO, lowS] <;> simp [if_neg (show ¬ y < 4 by omega)])⟩
      · refine c_seq ?_
        refine c_region ?_
        refine l_l rfl rfl rfl ?_
        refine l_l rfl rfl rfl ?_
        refine l_nil ?_
        refine c_cond rfl (fun h4 => ?_) (fun h4 => ?_)
        · refine c_seq ?_
          refine c_region ?_
          refine l_l rfl rfl rfl ?_
          refine l_as (v := (.int .u16 (b))) rfl rfl rfl (congrArg _ (wrap_u16_id (by omega) (by omega))) ?_
          refine l_l (light_struct rfl rfl rfl rfl) rfl rfl ?_
          refine l_x (by first | exact x_store 0 rfl rfl rfl rfl rfl rfl (by first | rfl | exact Nat.le_of_ble_eq_true rfl | (simp; done)) | exact x_store 1 rfl rfl rfl rfl rfl rfl (by first | rfl | exact Nat.le_of_ble_eq_true rfl | (simp; done)) | exact x_store 2 rfl rfl rfl rfl rfl rfl (by first | rfl | exact Nat.le_of_ble_eq_true rfl | (simp; done)) | exact x_store 3 rfl rfl rfl rfl rfl rfl (by first | rfl | exact Nat.le_of_ble_eq_true rfl | (simp; done))) rfl rfl ?_
          rintro _ _ ⟨rfl, rfl⟩
          refine l_nil ?_
          refine c_ret ?_
          exact l_end0 (fun w hw => rets_cell rfl rfl rfl (row_own (by repeat (first | exact .head _ | refine .tail _ ?_ | refine List.mem_append_right _ ?_)) w hw)) ⟨rfl, aggE (by simp_all [putL, cO, numO, lowS] <;> simp [if_neg (show ¬ y < 4 by omega)])⟩
        · refine c_seq ?_
          refine c_region ?_
          refine l_l rfl rfl rfl ?_
          refine l_l rfl rfl rfl ?_
          refine l_nil ?_
          refine c_cond rfl (fun h5 => ?_) (fun h5 => ?_)
          · refine c_seq ?_
            refine c_region ?_
            refine l_l rfl rfl rfl ?_
            refine l_as (v := (.int .u16 (b))) rfl rfl rfl (congrArg _ (wrap_u16_id (by omega) (by omega))) ?_
            refine l_l (light_struct rfl rfl rfl rfl) rfl rfl ?_
            refine l_x (by first | exact x_store 0 rfl rfl rfl rfl rfl rfl (by first | rfl | exact Nat.le_of_ble_eq_true rfl | (simp; done)) | exact x_store 1 rfl rfl rfl rfl rfl rfl (by first | rfl | exact Nat.le_of_ble_eq_true rfl | (simp; done)) | exact x_store 2 rfl rfl rfl rfl rfl rfl (by first | rfl | exact Nat.le_of_ble_eq_true rfl | (simp; done)) | exact x_store 3 rfl rfl rfl rfl rfl rfl (by first | rfl | exact Nat.le_of_ble_eq_true rfl | (simp; done))) rfl rfl ?_
            rintro _ _ ⟨rfl, rfl⟩
            refine l_nil ?_
            refine c_ret ?_
            exact l_end0 (fun w hw => rets_cell rfl rfl rfl (row_own (by repeat (first | exact .head _ | refine .tail _ ?_ | refine List.mem_append_right _ ?_)) w hw)) ⟨rfl, aggE (by simp_all [putL, cO, numO, lowS] <;> simp [if_neg (show ¬ y < 4 by omega)])⟩
          · refine c_skip ?_
            refine c_seq ?_
            refine c_region ?_
            refine l_l rfl rfl rfl ?_
            refine l_as (v := (.int .i64 (y - 4))) rfl rfl rfl (congrArg _ (wrap_i64 (by omega) (by omega))) ?_
            refine l_l rfl rfl rfl ?_
            refine l_as (v := (.int .u16 (b))) rfl rfl rfl (congrArg _ (wrap_u16_id (by omega) (by omega))) ?_
            refine l_l (light_struct rfl rfl rfl rfl) rfl rfl ?_
            refine l_x (by first | exact x_store 0 rfl rfl rfl rfl rfl rfl (by first | rfl | exact Nat.le_of_ble_eq_true rfl | (simp; done)) | exact x_store 1 rfl rfl rfl rfl rfl rfl (by first | rfl | exact Nat.le_of_ble_eq_true rfl | (simp; done)) | exact x_store 2 rfl rfl rfl rfl rfl rfl (by first | rfl | exact Nat.le_of_ble_eq_true rfl | (simp; done)) | exact x_store 3 rfl rfl rfl rfl rfl rfl (by first | rfl | exact Nat.le_of_ble_eq_true rfl | (simp; done))) rfl rfl ?_
            rintro _ _ ⟨rfl, rfl⟩
            refine l_nil ?_
            refine c_ret ?_
            exact l_end0 (fun w hw => rets_cell rfl rfl rfl (row_own (by repeat (first | exact .head _ | refine .tail _ ?_ | refine List.mem_append_right _ ?_)) w hw)) ⟨rfl, aggE (by simp_all [putL, cO, numO, lowS] <;> simp [if_neg (show ¬ y < 4 by omega)])⟩
  · refine c_seq ?_
    refine c_region ?_
    refine l_l rfl rfl rfl ?_
    refine l_l rfl rfl rfl ?_
    refine l_nil ?_
    refine c_cond rfl (fun h6 => ?_) (fun h6 => ?_)
    · refine c_seq ?_
      refine c_seq ?_
      refine c_region ?_
      refine l_l rfl rfl rfl ?_
      refine l_l rfl rfl rfl ?_
      refine l_nil ?_
      refine c_cond rfl (fun h7 => ?_) (fun h7 => ?_)
      · refine c_seq ?_
        refine c_region ?_
        refine l_l rfl rfl rfl ?_
        refine l_l rfl rfl rfl ?_
        refine l_l (light_struct rfl rfl rfl rfl) rfl rfl ?_
        refine l_x (by first | exact x_store 0 rfl rfl rfl rfl rfl rfl (by first | rfl | exact Nat.le_of_ble_eq_true rfl | (simp; done)) | exact x_store 1 rfl rfl rfl rfl rfl rfl (by first | rfl | exact Nat.le_of_ble_eq_true rfl | (simp; done)) | exact x_store 2 rfl rfl rfl rfl rfl rfl (by first | rfl | exact Nat.le_of_ble_eq_true rfl | (simp; done)) | exact x_store 3 rfl rfl rfl rfl rfl rfl (by first | rfl | exact Nat.le_of_ble_eq_true rfl | (simp; done))) rfl rfl ?_
        rintro _ _ ⟨rfl, rfl⟩
        refine l_nil ?_
        refine c_ret ?_
        exact l_end0 (fun w hw => rets_cell rfl rfl rfl (row_own (by repeat (first | exact .head _ | refine .tail _ ?_ | refine List.mem_append_right _ ?_)) w hw)) ⟨rfl, aggE (by simp_all [putL, cO, numO, lowS] <;> simp [if_neg (show ¬ y < 4 by omega)])⟩
      · refine c_skip ?_
        refine c_seq ?_
        refine c_region ?_
        refine l_l rfl rfl rfl ?_
        refine l_l (light_struct rfl rfl rfl rfl) rfl rfl ?_
        refine l_x (by first | exact x_store 0 rfl rfl rfl rfl rfl rfl (by first | rfl | exact Nat.le_of_ble_eq_true rfl | (simp; done)) | exact x_store 1 rfl rfl rfl rfl rfl rfl (by first | rfl | exact Nat.le_of_ble_eq_true rfl | (simp; done)) | exact x_store 2 rfl rfl rfl rfl rfl rfl (by first | rfl | exact Nat.le_of_ble_eq_true rfl | (simp; done)) | exact x_store 3 rfl rfl rfl rfl rfl rfl (by first | rfl | exact Nat.le_of_ble_eq_true rfl | (simp; done))) rfl rfl ?_
        rintro _ _ ⟨rfl, rfl⟩
        refine l_nil ?_
        refine c_ret ?_
        exact l_end0 (fun w hw => rets_cell rfl rfl rfl (row_own (by repeat (first | exact .head _ | refine .tail _ ?_ | refine List.mem_append_right _ ?_)) w hw)) ⟨rfl, aggE (by simp_all [putL, cO, numO, lowS] <;> simp [if_neg (show ¬ y < 4 by omega)])⟩
    · refine c_seq ?_
      refine c_region ?_
      refine l_l rfl rfl rfl ?_
      refine l_l rfl rfl rfl ?_
      refine l_nil ?_
      refine c_cond rfl (fun h8 => ?_) (fun h8 => ?_)
      · refine c_seq ?_
        refine c_region ?_
        refine l_l rfl rfl rfl ?_
        refine l_as (v := (.int .i64 (33 - y % 2))) rfl rfl rfl (congrArg _ (wrap_i64 (by omega) (by omega))) ?_
        refine l_l rfl rfl rfl ?_
        refine l_l (light_struct rfl rfl rfl rfl) rfl rfl ?_
        refine l_x (by first | exact x_store 0 rfl rfl rfl rfl rfl rfl (by first | rfl | exact Nat.le_of_ble_eq_true rfl | (simp; done)) | exact x_store 1 rfl rfl rfl rfl rfl rfl (by first | rfl | exact Nat.le_of_ble_eq_true rfl | (simp; done)) | exact x_store 2 rfl rfl rfl rfl rfl rfl (by first | rfl | exact Nat.le_of_ble_eq_true rfl | (simp; done)) | exact x_store 3 rfl rfl rfl rfl rfl rfl (by first | rfl | exact Nat.le_of_ble_eq_true rfl | (simp; done))) rfl rfl ?_
        rintro _ _ ⟨rfl, rfl⟩
        refine l_nil ?_
        refine c_ret ?_
        exact l_end0 (fun w hw => rets_cell rfl rfl rfl (row_own (by repeat (first | exact .head _ | refine .tail _ ?_ | refine List.mem_append_right _ ?_)) w hw)) ⟨rfl, aggE (by simp_all [putL, cO, numO, lowS] <;> simp [if_neg (show ¬ y < 4 by omega)])⟩
      · refine c_seq ?_
        refine c_region ?_
        refine l_l rfl rfl rfl ?_
        refine l_l rfl rfl rfl ?_
        refine l_nil ?_
        refine c_cond rfl (fun h9 => ?_) (fun h9 => ?_)
        · refine c_seq ?_
          refine c_region ?_
          refine l_l rfl rfl rfl ?_
          refine l_as (v := (.int .i64 (14 + y % 2))) rfl rfl rfl (congrArg _ (wrap_i64 (by omega) (by omega))) ?_
          refine l_l rfl rfl rfl ?_
          refine l_l (light_struct rfl rfl rfl rfl) rfl rfl ?_
          refine l_x (by first | exact x_store 0 rfl rfl rfl rfl rfl rfl (by first | rfl | exact Nat.le_of_ble_eq_true rfl | (simp; done)) | exact x_store 1 rfl rfl rfl rfl rfl rfl (by first | rfl | exact Nat.le_of_ble_eq_true rfl | (simp; done)) | exact x_store 2 rfl rfl rfl rfl rfl rfl (by first | rfl | exact Nat.le_of_ble_eq_true rfl | (simp; done)) | exact x_store 3 rfl rfl rfl rfl rfl rfl (by first | rfl | exact Nat.le_of_ble_eq_true rfl | (simp; done))) rfl rfl ?_
          rintro _ _ ⟨rfl, rfl⟩
          refine l_nil ?_
          refine c_ret ?_
          exact l_end0 (fun w hw => rets_cell rfl rfl rfl (row_own (by repeat (first | exact .head _ | refine .tail _ ?_ | refine List.mem_append_right _ ?_)) w hw)) ⟨rfl, aggE (by simp_all [putL, cO, numO, lowS] <;> simp [if_neg (show ¬ y < 4 by omega)])⟩
        · refine c_seq ?_
          refine c_region ?_
          refine l_l rfl rfl rfl ?_
          refine l_l rfl rfl rfl ?_
          refine l_nil ?_
          refine c_cond rfl (fun h10 => ?_) (fun h10 => ?_)
          · refine c_seq ?_
            refine c_region ?_
            refine l_l rfl rfl rfl ?_
            refine l_l (light_struct rfl rfl rfl rfl) rfl rfl ?_
            refine l_x (by first | exact x_store 0 rfl rfl rfl rfl rfl rfl (by first | rfl | exact Nat.le_of_ble_eq_true rfl | (simp; done)) | exact x_store 1 rfl rfl rfl rfl rfl rfl (by first | rfl | exact Nat.le_of_ble_eq_true rfl | (simp; done)) | exact x_store 2 rfl rfl rfl rfl rfl rfl (by first | rfl | exact Nat.le_of_ble_eq_true rfl | (simp; done)) | exact x_store 3 rfl rfl rfl rfl rfl rfl (by first | rfl | exact Nat.le_of_ble_eq_true rfl | (simp; done))) rfl rfl ?_
            rintro _ _ ⟨rfl, rfl⟩
            refine l_nil ?_
            refine c_ret ?_
            exact l_end0 (fun w hw => rets_cell rfl rfl rfl (row_own (by repeat (first | exact .head _ | refine .tail _ ?_ | refine List.mem_append_right _ ?_)) w hw)) ⟨rfl, aggE (by simp_all [putL, cO, numO, lowS] <;> simp [if_neg (show ¬ y < 4 by omega)])⟩
          · refine c_seq ?_
            refine c_region ?_
            refine l_l rfl rfl rfl ?_
            refine l_l rfl rfl rfl ?_
            refine l_nil ?_
            refine c_cond rfl (fun h11 => ?_) (fun h11 => ?_)
            · refine c_seq ?_
              refine c_region ?_
              refine l_l rfl rfl rfl ?_
              refine l_l (light_struct rfl rfl rfl rfl) rfl rfl ?_
              refine l_x (by first | exact x_store 0 rfl rfl rfl rfl rfl rfl (by first | rfl | exact Nat.le_of_ble_eq_true rfl | (simp; done)) | exact x_store 1 rfl rfl rfl rfl rfl rfl (by first | rfl | exact Nat.le_of_ble_eq_true rfl | (simp; done)) | exact x_store 2 rfl rfl rfl rfl rfl rfl (by first | rfl | exact Nat.le_of_ble_eq_true rfl | (simp; done)) | exact x_store 3 rfl rfl rfl rfl rfl rfl (by first | rfl | exact Nat.le_of_ble_eq_true rfl | (simp; done))) rfl rfl ?_
              rintro _ _ ⟨rfl, rfl⟩
              refine l_nil ?_
              refine c_ret ?_
              exact l_end0 (fun w hw => rets_cell rfl rfl rfl (row_own (by repeat (first | exact .head _ | refine .tail _ ?_ | refine List.mem_append_right _ ?_)) w hw)) ⟨rfl, aggE (by simp_all [putL, cO, numO, lowS] <;> simp [if_neg (show ¬ y < 4 by omega)])⟩
            · refine c_seq ?_
              refine c_region ?_
              refine l_l rfl rfl rfl ?_
              refine l_l rfl rfl rfl ?_
              refine l_nil ?_
              refine c_cond rfl (fun h12 => ?_) (fun h12 => ?_)
              · refine c_seq ?_
                refine c_region ?_
                refine l_l rfl rfl rfl ?_
                refine l_l rfl rfl rfl ?_
                refine l_as (v := (.int .u16 (b))) rfl rfl rfl (congrArg _ (wrap_u16_id (by omega) (by omega))) ?_
                refine l_l (light_struct rfl rfl rfl rfl) rfl rfl ?_
                refine l_x (by first | exact x_store 0 rfl rfl rfl rfl rfl rfl (by first | rfl | exact Nat.le_of_ble_eq_true rfl | (simp; done)) | exact x_store 1 rfl rfl rfl rfl rfl rfl (by first | rfl | exact Nat.le_of_ble_eq_true rfl | (simp; done)) | exact x_store 2 rfl rfl rfl rfl rfl rfl (by first | rfl | exact Nat.le_of_ble_eq_true rfl | (simp; done)) | exact x_store 3 rfl rfl rfl rfl rfl rfl (by first | rfl | exact Nat.le_of_ble_eq_true rfl | (simp; done))) rfl rfl ?_
                rintro _ _ ⟨rfl, rfl⟩
                refine l_nil ?_
                refine c_ret ?_
                exact l_end0 (fun w hw => rets_cell rfl rfl rfl (row_own (by repeat (first | exact .head _ | refine .tail _ ?_ | refine List.mem_append_right _ ?_)) w hw)) ⟨rfl, aggE (by simp_all [putL, cO, numO, lowS] <;> simp [if_neg (show ¬ y < 4 by omega)])⟩
              · refine c_skip ?_
                refine c_seq ?_
                refine c_seq ?_
                refine c_region ?_
                refine l_l rfl rfl rfl ?_
                refine l_l rfl rfl rfl ?_
                refine l_nil ?_
                refine c_cond rfl (fun h13 => ?_) (fun h13 => ?_)
                · refine c_seq ?_
                  refine c_region ?_
                  refine l_l rfl rfl rfl ?_
                  refine l_l (light_struct rfl rfl rfl rfl) rfl rfl ?_
                  refine l_x (by first | exact x_store 0 rfl rfl rfl rfl rfl rfl (by first | rfl | exact Nat.le_of_ble_eq_true rfl | (simp; done)) | exact x_store 1 rfl rfl rfl rfl rfl rfl (by first | rfl | exact Nat.le_of_ble_eq_true rfl | (simp; done)) | exact x_store 2 rfl rfl rfl rfl rfl rfl (by first | rfl | exact Nat.le_of_ble_eq_true rfl | (simp; done)) | exact x_store 3 rfl rfl rfl rfl rfl rfl (by first | rfl | exact Nat.le_of_ble_eq_true rfl | (simp; done))) rfl rfl ?_
                  rintro _ _ ⟨rfl, rfl⟩
                  refine l_nil ?_
                  refine c_ret ?_
                  exact l_end0 (fun w hw => rets_cell rfl rfl rfl (row_own (by repeat (first | exact .head _ | refine .tail _ ?_ | refine List.mem_append_right _ ?_)) w hw)) ⟨rfl, aggE (by simp_all [putL, cO, numO, lowS] <;> simp [if_neg (show ¬ y < 4 by omega)])⟩
                · refine c_skip ?_
                  refine c_seq ?_
                  refine c_region ?_
                  refine l_l rfl rfl rfl ?_
                  refine l_as (v := (.int .i64 (15 + y))) rfl rfl rfl (congrArg _ (wrap_i64 (by omega) (by omega))) ?_
                  refine l_l (light_struct rfl rfl rfl rfl) rfl rfl ?_
                  refine l_x (by first | exact x_store 0 rfl rfl rfl rfl rfl rfl (by first | rfl | exact Nat.le_of_ble_eq_true rfl | (simp; done)) | exact x_store 1 rfl rfl rfl rfl rfl rfl (by first | rfl | exact Nat.le_of_ble_eq_true rfl | (simp; done)) | exact x_store 2 rfl rfl rfl rfl rfl rfl (by first | rfl | exact Nat.le_of_ble_eq_true rfl | (simp; done)) | exact x_store 3 rfl rfl rfl rfl rfl rfl (by first | rfl | exact Nat.le_of_ble_eq_true rfl | (simp; done))) rfl rfl ?_
                  rintro _ _ ⟨rfl, rfl⟩
                  refine l_nil ?_
                  refine c_ret ?_
                  exact l_end0 (fun w hw => rets_cell rfl rfl rfl (row_own (by repeat (first | exact .head _ | refine .tail _ ?_ | refine List.mem_append_right _ ?_)) w hw)) ⟨rfl, aggE (by simp_all [putL, cO, numO, lowS] <;> simp [if_neg (show ¬ y < 4 by omega)])⟩

set_option maxHeartbeats 2000000 in
theorem rhigh_fn (y z b c : Int) (hy : 0 ≤ y ∧ y < 8) (hz : 0 ≤ z ∧ z < 8) (hb : 0 ≤ b ∧ b < 256) (w : World) :
    Does Try.prog 19 [.int .i64 y, .int .i64 z, .int .u8 b, .int .u16 c] w [] (fun v H => H = [] ∧ v = .agg (cO (highR y z b c)).toArray) := by
  refine does_of Try.func19 rfl rfl rfl (St.refl w) ?_
  refine c_seq ?_
  refine c_region ?_
  refine l_x (x_alloc rfl) rfl rfl ?_
  rintro _ _ ⟨b8, rfl, rfl⟩
  refine l_nil ?_
  refine c_seq ?_
  refine c_region ?_
  refine l_l rfl rfl rfl ?_
  refine l_as (v := (.int .i64 (y / 2))) (quo_pos rfl rfl (by decide)) rfl rfl (congrArg _ (by rw [Int.tdiv_eq_ediv_of_nonneg (by omega), wrap_i64 (by omega) (by omega)])) ?_
  refine l_l rfl rfl rfl ?_
  refine l_as (v := (.int .i64 (y % 2))) (rem_pos rfl rfl (by decide)) rfl rfl (congrArg _ (Int.tmod_eq_emod_of_nonneg (by omega))) ?_
  refine l_l rfl rfl rfl ?_
  refine l_l rfl rfl rfl ?_
  refine l_nil ?_
  refine c_seq ?_
  refine c_region ?_
  refine l_l rfl rfl rfl ?_
  refine l_as (v := (.int .u16 (b))) rfl rfl rfl (congrArg _ (wrap_u16_id (by omega) (by omega))) ?_
  refine l_l rfl rfl rfl ?_
  refine l_nil ?_
  refine c_seq ?_
  refine c_seq ?_
  refine c_region ?_
  refine l_l rfl rfl rfl ?_
  refine l_nil ?_
  refine c_block ?_
  refine c_seq ?_
  refine c_region ?_
  refine l_l rfl rfl rfl ?_
  refine l_l rfl rfl rfl ?_
  refine l_nil ?_
  refine c_cond rfl (fun h1 => ?_) (fun h1 => ?_)
  · refine c_seq ?_
    refine c_seq ?_
    refine c_region ?_
    refine l_l rfl rfl rfl ?_
    refine l_nil ?_
    refine c_block ?_
    refine c_seq ?_
    refine c_region ?_
    refine l_l rfl rfl rfl ?_
    refine l_l rfl rfl rfl ?_
    refine l_nil ?_
    refine c_cond rfl (fun h2 => ?_) (fun h2 => ?_)
    · refine c_seq ?_
      refine c_region ?_
      refine l_l rfl rfl rfl ?_
      refine l_l (light_struct rfl rfl rfl rfl) rfl rfl ?_
      refine l_x (by first | exact x_store 0 rfl rfl rfl rfl rfl rfl (by first | rfl | exact Nat.le_of_ble_eq_true rfl | (simp; done)) | exact x_store 1 rfl rfl rfl rfl rfl rfl (by first | rfl | exact Nat.le_of_ble_eq_true rfl | (simp; done)) | exact x_store 2 rfl rfl rfl rfl rfl rfl (by first | rfl | exact Nat.le_of_ble_eq_true rfl | (simp; done)) | exact x_store 3 rfl rfl rfl rfl rfl rfl (by first | rfl | exact Nat.le_of_ble_eq_true rfl | (simp; done))) rfl rfl ?_
      rintro _ _ ⟨rfl, rfl⟩
      refine l_nil ?_
      refine c_ret ?_
      exact l_end0 (fun w hw => rets_cell rfl rfl rfl (row_own (by repeat (first | exact .head _ | refine .tail _ ?_ | refine List.mem_append_right _ ?_)) w hw)) ⟨rfl, aggE (by simp_all [putL, cO, numO, highS, highR] <;> simp [if_neg (show ¬ y < 4 by omega)])⟩
    · refine c_seq ?_
      refine c_region ?_
      refine l_l rfl rfl rfl ?_
      refine l_l rfl rfl rfl ?_
      refine l_nil ?_
      refine c_cond rfl (fun h3 => ?_) (fun h3 => ?_)
      · refine c_seq ?_
        refine c_region ?_
        refine l_l rfl rfl rfl ?_
        refine l_l (light_struct rfl rfl rfl rfl) rfl rfl ?_
        refine l_x (by first | exact x_store 0 rfl rfl rfl rfl rfl rfl (by first | rfl | exact Nat.le_of_ble_eq_true rfl | (simp; done)) | exact x_store 1 rfl rfl rfl rfl rfl rfl (by first | rfl | exact Nat.le_of_ble_eq_true rfl | (simp; done)) | exact x_store 2 rfl rfl rfl rfl rfl rfl (by first | rfl | exact Nat.le_of_ble_eq_true rfl | (simp; done)) | exact x_store 3 rfl rfl rfl rfl rfl rfl (by first | rfl | exact Nat.le_of_ble_eq_true rfl | (simp; done))) rfl rfl ?_
        rintro _ _ ⟨rfl, rfl⟩
        refine l_nil ?_
        refine c_ret ?_
        exact l_end0 (fun w hw => rets_cell rfl rfl rfl (row_own (by repeat (first | exact .head _ | refine .tail _ ?_ | refine List.mem_append_right _ ?_)) w hw)) ⟨rfl, aggE (by simp_all [putL, cO, numO, highS, highR] <;> simp [if_neg (show ¬ y < 4 by omega)])⟩
      · refine c_seq ?_
        refine c_region ?_
        refine l_l rfl rfl rfl ?_
        refine l_l rfl rfl rfl ?_
        refine l_nil ?_
        refine c_cond rfl (fun h4 => ?_) (fun h4 => ?_)
        · refine c_seq ?_
          refine c_region ?_
          refine l_l rfl rfl rfl ?_
          refine l_l (light_struct rfl rfl rfl rfl) rfl rfl ?_
          refine l_x (by first | exact x_store 0 rfl rfl rfl rfl rfl rfl (by first | rfl | exact Nat.le_of_ble_eq_true rfl | (simp; done)) | exact x_store 1 rfl rfl rfl rfl rfl rfl (by first | rfl | exact Nat.le_of_ble_eq_true rfl | (simp; done)) | exact x_store 2 rfl rfl rfl rfl rfl rfl (by first | rfl | exact Nat.le_of_ble_eq_true rfl | (simp; done)) | exact x_store 3 rfl rfl rfl rfl rfl rfl (by first | rfl | exact Nat.le_of_ble_eq_true rfl | (simp; done))) rfl rfl ?_
          rintro _ _ ⟨rfl, rfl⟩
          refine l_nil ?_
          refine c_ret ?_
          exact l_end0 (fun w hw => rets_cell rfl rfl rfl (row_own (by repeat (first | exact .head _ | refine .tail _ ?_ | refine List.mem_append_right _ ?_)) w hw)) ⟨rfl, aggE (by simp_all [putL, cO, numO, highS, highR] <;> simp [if_neg (show ¬ y < 4 by omega)])⟩
        · refine c_seq ?_
          refine c_region ?_
          refine l_l rfl rfl rfl ?_
          refine l_l rfl rfl rfl ?_
          refine l_nil ?_
          refine c_cond rfl (fun h5 => ?_) (fun h5 => ?_)
          · refine c_seq ?_
            refine c_region ?_
            refine l_l rfl rfl rfl ?_
            refine l_l (light_struct rfl rfl rfl rfl) rfl rfl ?_
            refine l_x (by first | exact x_store 0 rfl rfl rfl rfl rfl rfl (by first | rfl | exact Nat.le_of_ble_eq_true rfl | (simp; done)) | exact x_store 1 rfl rfl rfl rfl rfl rfl (by first | rfl | exact Nat.le_of_ble_eq_true rfl | (simp; done)) | exact x_store 2 rfl rfl rfl rfl rfl rfl (by first | rfl | exact Nat.le_of_ble_eq_true rfl | (simp; done)) | exact x_store 3 rfl rfl rfl rfl rfl rfl (by first | rfl | exact Nat.le_of_ble_eq_true rfl | (simp; done))) rfl rfl ?_
            rintro _ _ ⟨rfl, rfl⟩
            refine l_nil ?_
            refine c_ret ?_
            exact l_end0 (fun w hw => rets_cell rfl rfl rfl (row_own (by repeat (first | exact .head _ | refine .tail _ ?_ | refine List.mem_append_right _ ?_)) w hw)) ⟨rfl, aggE (by simp_all [putL, cO, numO, highS, highR] <;> simp [if_neg (show ¬ y < 4 by omega)])⟩
          · refine c_skip ?_
            refine c_seq ?_
            refine c_region ?_
            refine l_l rfl rfl rfl ?_
            refine l_l (light_struct rfl rfl rfl rfl) rfl rfl ?_
            refine l_x (by first | exact x_store 0 rfl rfl rfl rfl rfl rfl (by first | rfl | exact Nat.le_of_ble_eq_true rfl | (simp; done)) | exact x_store 1 rfl rfl rfl rfl rfl rfl (by first | rfl | exact Nat.le_of_ble_eq_true rfl | (simp; done)) | exact x_store 2 rfl rfl rfl rfl rfl rfl (by first | rfl | exact Nat.le_of_ble_eq_true rfl | (simp; done)) | exact x_store 3 rfl rfl rfl rfl rfl rfl (by first | rfl | exact Nat.le_of_ble_eq_true rfl | (simp; done))) rfl rfl ?_
            rintro _ _ ⟨rfl, rfl⟩
            refine l_nil ?_
            refine c_ret ?_
            exact l_end0 (fun w hw => rets_cell rfl rfl rfl (row_own (by repeat (first | exact .head _ | refine .tail _ ?_ | refine List.mem_append_right _ ?_)) w hw)) ⟨rfl, aggE (by simp_all [putL, cO, numO, highS, highR] <;> simp [if_neg (show ¬ y < 4 by omega)])⟩
  · refine c_seq ?_
    refine c_region ?_
    refine l_l rfl rfl rfl ?_
    refine l_l rfl rfl rfl ?_
    refine l_nil ?_
    refine c_cond rfl (fun h6 => ?_) (fun h6 => ?_)
    · refine c_seq ?_
      refine c_seq ?_
      refine c_region ?_
      refine l_l rfl rfl rfl ?_
      refine l_l rfl rfl rfl ?_
      refine l_nil ?_
      refine c_cond rfl (fun h7 => ?_) (fun h7 => ?_)
      · refine c_seq ?_
        refine c_region ?_
        refine l_l rfl rfl rfl ?_
        refine l_x (x_val call_39 rfl (fun w hw => rpair_fn _ w)) rfl rfl ?_
        rintro _ _ ⟨rfl, rfl⟩
        refine l_l (light_struct rfl rfl rfl rfl) rfl rfl ?_
        refine l_x (by first | exact x_store 0 rfl rfl rfl rfl rfl rfl (by first | rfl | exact Nat.le_of_ble_eq_true rfl | (simp; done)) | exact x_store 1 rfl rfl rfl rfl rfl rfl (by first | rfl | exact Nat.le_of_ble_eq_true rfl | (simp; done)) | exact x_store 2 rfl rfl rfl rfl rfl rfl (by first | rfl | exact Nat.le_of_ble_eq_true rfl | (simp; done)) | exact x_store 3 rfl rfl rfl rfl rfl rfl (by first | rfl | exact Nat.le_of_ble_eq_true rfl | (simp; done))) rfl rfl ?_
        rintro _ _ ⟨rfl, rfl⟩
        refine l_nil ?_
        refine c_ret ?_
        exact l_end0 (fun w hw => rets_cell rfl rfl rfl (row_own (by repeat (first | exact .head _ | refine .tail _ ?_ | refine List.mem_append_right _ ?_)) w hw)) ⟨rfl, aggE (by simp_all [putL, cO, numO, highS, highR] <;> simp [if_neg (show ¬ y < 4 by omega)])⟩
      · refine c_skip ?_
        refine c_seq ?_
        refine c_seq ?_
        refine c_region ?_
        refine l_l rfl rfl rfl ?_
        refine l_nil ?_
        refine c_block ?_
        refine c_seq ?_
        refine c_region ?_
        refine l_l rfl rfl rfl ?_
        refine l_l rfl rfl rfl ?_
        refine l_nil ?_
        refine c_cond rfl (fun h8 => ?_) (fun h8 => ?_)
        · refine c_seq ?_
          refine c_region ?_
          refine l_l (light_struct rfl rfl rfl rfl) rfl rfl ?_
          refine l_x (by first | exact x_store 0 rfl rfl rfl rfl rfl rfl (by first | rfl | exact Nat.le_of_ble_eq_true rfl | (simp; done)) | exact x_store 1 rfl rfl rfl rfl rfl rfl (by first | rfl | exact Nat.le_of_ble_eq_true rfl | (simp; done)) | exact x_store 2 rfl rfl rfl rfl rfl rfl (by first | rfl | exact Nat.le_of_ble_eq_true rfl | (simp; done)) | exact x_store 3 rfl rfl rfl rfl rfl rfl (by first | rfl | exact Nat.le_of_ble_eq_true rfl | (simp; done))) rfl rfl ?_
          rintro _ _ ⟨rfl, rfl⟩
          refine l_nil ?_
          refine c_ret ?_
          exact l_end0 (fun w hw => rets_cell rfl rfl rfl (row_own (by repeat (first | exact .head _ | refine .tail _ ?_ | refine List.mem_append_right _ ?_)) w hw)) ⟨rfl, aggE (by simp_all [putL, cO, numO, highS, highR] <;> simp [if_neg (show ¬ y < 4 by omega)])⟩
        · refine c_seq ?_
          refine c_region ?_
          refine l_l rfl rfl rfl ?_
          refine l_l rfl rfl rfl ?_
          refine l_nil ?_
          refine c_cond rfl (fun h9 => ?_) (fun h9 => ?_)
          · refine c_seq ?_
            refine c_region ?_
            refine l_l (light_struct rfl rfl rfl rfl) rfl rfl ?_
            refine l_x (by first | exact x_store 0 rfl rfl rfl rfl rfl rfl (by first | rfl | exact Nat.le_of_ble_eq_true rfl | (simp; done)) | exact x_store 1 rfl rfl rfl rfl rfl rfl (by first | rfl | exact Nat.le_of_ble_eq_true rfl | (simp; done)) | exact x_store 2 rfl rfl rfl rfl rfl rfl (by first | rfl | exact Nat.le_of_ble_eq_true rfl | (simp; done)) | exact x_store 3 rfl rfl rfl rfl rfl rfl (by first | rfl | exact Nat.le_of_ble_eq_true rfl | (simp; done))) rfl rfl ?_
            rintro _ _ ⟨rfl, rfl⟩
            refine l_nil ?_
            refine c_ret ?_
            exact l_end0 (fun w hw => rets_cell rfl rfl rfl (row_own (by repeat (first | exact .head _ | refine .tail _ ?_ | refine List.mem_append_right _ ?_)) w hw)) ⟨rfl, aggE (by simp_all [putL, cO, numO, highS, highR] <;> simp [if_neg (show ¬ y < 4 by omega)])⟩
          · refine c_seq ?_
            refine c_region ?_
            refine l_l rfl rfl rfl ?_
            refine l_l rfl rfl rfl ?_
            refine l_nil ?_
            refine c_cond rfl (fun h10 => ?_) (fun h10 => ?_)
            · refine c_seq ?_
              refine c_region ?_
              refine l_l (light_struct rfl rfl rfl rfl) rfl rfl ?_
              refine l_x (by first | exact x_store 0 rfl rfl rfl rfl rfl rfl (by first | rfl | exact Nat.le_of_ble_eq_true rfl | (simp; done)) | exact x_store 1 rfl rfl rfl rfl rfl rfl (by first | rfl | exact Nat.le_of_ble_eq_true rfl | (simp; done)) | exact x_store 2 rfl rfl rfl rfl rfl rfl (by first | rfl | exact Nat.le_of_ble_eq_true rfl | (simp; done)) | exact x_store 3 rfl rfl rfl rfl rfl rfl (by first | rfl | exact Nat.le_of_ble_eq_true rfl | (simp; done))) rfl rfl ?_
              rintro _ _ ⟨rfl, rfl⟩
              refine l_nil ?_
              refine c_ret ?_
              exact l_end0 (fun w hw => rets_cell rfl rfl rfl (row_own (by repeat (first | exact .head _ | refine .tail _ ?_ | refine List.mem_append_right _ ?_)) w hw)) ⟨rfl, aggE (by simp_all [putL, cO, numO, highS, highR] <;> simp [if_neg (show ¬ y < 4 by omega)])⟩
            · refine c_skip ?_
              refine c_seq ?_
              refine c_region ?_
              refine l_l (light_struct rfl rfl rfl rfl) rfl rfl ?_
              refine l_x (by first | exact x_store 0 rfl rfl rfl rfl rfl rfl (by first | rfl | exact Nat.le_of_ble_eq_true rfl | (simp; done)) | exact x_store 1 rfl rfl rfl rfl rfl rfl (by first | rfl | exact Nat.le_of_ble_eq_true rfl | (simp; done)) | exact x_store 2 rfl rfl rfl rfl rfl rfl (by first | rfl | exact Nat.le_of_ble_eq_true rfl | (simp; done)) | exact x_store 3 rfl rfl rfl rfl rfl rfl (by first | rfl | exact Nat.le_of_ble_eq_true rfl | (simp; done))) rfl rfl ?_
              rintro _ _ ⟨rfl, rfl⟩
              refine l_nil ?_
              refine c_ret ?_
              exact l_end0 (fun w hw => rets_cell rfl rfl rfl (row_own (by repeat (first | exact .head _ | refine .tail _ ?_ | refine List.mem_append_right _ ?_)) w hw)) ⟨rfl, aggE (by simp_all [putL, cO, numO, highS, highR] <;> simp [if_neg (show ¬ y < 4 by omega)])⟩
    · refine c_seq ?_
      refine c_region ?_
      refine l_l rfl rfl rfl ?_
      refine l_l rfl rfl rfl ?_
      refine l_nil ?_
      refine c_cond rfl (fun h11 => ?_) (fun h11 => ?_)
      · refine c_seq ?_
        refine c_seq ?_
        refine c_region ?_
        refine l_l rfl rfl rfl ?_
        refine l_nil ?_
        refine c_block ?_
        refine c_seq ?_
        refine c_region ?_
        refine l_l rfl rfl rfl ?_
        refine l_l rfl rfl rfl ?_
        refine l_nil ?_
        refine c_cond rfl (fun h12 => ?_) (fun h12 => ?_)
        · refine c_seq ?_
          refine c_region ?_
          refine l_l (light_struct rfl rfl rfl rfl) rfl rfl ?_
          refine l_x (by first | exact x_store 0 rfl rfl rfl rfl rfl rfl (by first | rfl | exact Nat.le_of_ble_eq_true rfl | (simp; done)) | exact x_store 1 rfl rfl rfl rfl rfl rfl (by first | rfl | exact Nat.le_of_ble_eq_true rfl | (simp; done)) | exact x_store 2 rfl rfl rfl rfl rfl rfl (by first | rfl | exact Nat.le_of_ble_eq_true rfl | (simp; done)) | exact x_store 3 rfl rfl rfl rfl rfl rfl (by first | rfl | exact Nat.le_of_ble_eq_true rfl | (simp; done))) rfl rfl ?_
          rintro _ _ ⟨rfl, rfl⟩
          refine l_nil ?_
          refine c_ret ?_
          exact l_end0 (fun w hw => rets_cell rfl rfl rfl (row_own (by repeat (first | exact .head _ | refine .tail _ ?_ | refine List.mem_append_right _ ?_)) w hw)) ⟨rfl, aggE (by simp_all [putL, cO, numO, highS, highR] <;> simp [if_neg (show ¬ y < 4 by omega)])⟩
        · refine c_seq ?_
          refine c_region ?_
          refine l_l rfl rfl rfl ?_
          refine l_l rfl rfl rfl ?_
          refine l_nil ?_
          refine c_cond rfl (fun h13 => ?_) (fun h13 => ?_)
          · refine c_seq ?_
            refine c_region ?_
            refine l_l rfl rfl rfl ?_
            refine l_l (light_struct rfl rfl rfl rfl) rfl rfl ?_
            refine l_x (by first | exact x_store 0 rfl rfl rfl rfl rfl rfl (by first | rfl | exact Nat.le_of_ble_eq_true rfl | (simp; done)) | exact x_store 1 rfl rfl rfl rfl rfl rfl (by first | rfl | exact Nat.le_of_ble_eq_true rfl | (simp; done)) | exact x_store 2 rfl rfl rfl rfl rfl rfl (by first | rfl | exact Nat.le_of_ble_eq_true rfl | (simp; done)) | exact x_store 3 rfl rfl rfl rfl rfl rfl (by first | rfl | exact Nat.le_of_ble_eq_true rfl | (simp; done))) rfl rfl ?_
            rintro _ _ ⟨rfl, rfl⟩
            refine l_nil ?_
            refine c_ret ?_
            exact l_end0 (fun w hw => rets_cell rfl rfl rfl (row_own (by repeat (first | exact .head _ | refine .tail _ ?_ | refine List.mem_append_right _ ?_)) w hw)) ⟨rfl, aggE (by simp_all [putL, cO, numO, highS, highR] <;> simp [if_neg (show ¬ y < 4 by omega)])⟩
          · refine c_seq ?_
            refine c_region ?_
            refine l_l rfl rfl rfl ?_
            refine l_l rfl rfl rfl ?_
            refine l_nil ?_
            refine c_cond rfl (fun h14 => ?_) (fun h14 => ?_)
            · refine c_seq ?_
              refine c_region ?_
              refine l_l (light_struct rfl rfl rfl rfl) rfl rfl ?_
              refine l_x (by first | exact x_store 0 rfl rfl rfl rfl rfl rfl (by first | rfl | exact Nat.le_of_ble_eq_true rfl | (simp; done)) | exact x_store 1 rfl rfl rfl rfl rfl rfl (by first | rfl | exact Nat.le_of_ble_eq_true rfl | (simp; done)) | exact x_store 2 rfl rfl rfl rfl rfl rfl (by first | rfl | exact Nat.le_of_ble_eq_true rfl | (simp; done)) | exact x_store 3 rfl rfl rfl rfl rfl rfl (by first | rfl | exact Nat.le_of_ble_eq_true rfl | (simp; done))) rfl rfl ?_
              rintro _ _ ⟨rfl, rfl⟩
              refine l_nil ?_
              refine c_ret ?_
              exact l_end0 (fun w hw => rets_cell rfl rfl rfl (row_own (by repeat (first | exact .head _ | refine .tail _ ?_ | refine List.mem_append_right _ ?_)) w hw)) ⟨rfl, aggE (by simp_all [putL, cO, numO, highS, highR] <;> simp [if_neg (show ¬ y < 4 by omega)])⟩
            · refine c_seq ?_
              refine c_region ?_
              refine l_l rfl rfl rfl ?_
              refine l_l rfl rfl rfl ?_
              refine l_nil ?_
              refine c_cond rfl (fun h15 => ?_) (fun h15 => ?_)
              · refine c_seq ?_
                refine c_region ?_
                refine l_l rfl rfl rfl ?_
                refine l_l (light_struct rfl rfl rfl rfl) rfl rfl ?_
                refine l_x (by first | exact x_store 0 rfl rfl rfl rfl rfl rfl (by first | rfl | exact Nat.le_of_ble_eq_true rfl | (simp; done)) | exact x_store 1 rfl rfl rfl rfl rfl rfl (by first | rfl | exact Nat.le_of_ble_eq_true rfl | (simp; done)) | exact x_store 2 rfl rfl rfl rfl rfl rfl (by first | rfl | exact Nat.le_of_ble_eq_true rfl | (simp; done)) | exact x_store 3 rfl rfl rfl rfl rfl rfl (by first | rfl | exact Nat.le_of_ble_eq_true rfl | (simp; done))) rfl rfl ?_
                rintro _ _ ⟨rfl, rfl⟩
                refine l_nil ?_
                refine c_ret ?_
                exact l_end0 (fun w hw => rets_cell rfl rfl rfl (row_own (by repeat (first | exact .head _ | refine .tail _ ?_ | refine List.mem_append_right _ ?_)) w hw)) ⟨rfl, aggE (by simp_all [putL, cO, numO, highS, highR] <;> simp [if_neg (show ¬ y < 4 by omega)])⟩
              · refine c_skip ?_
                refine c_seq ?_
                refine c_region ?_
                refine l_l rfl rfl rfl ?_
                refine l_l rfl rfl rfl ?_
                refine l_l (light_struct rfl rfl rfl rfl) rfl rfl ?_
                refine l_x (by first | exact x_store 0 rfl rfl rfl rfl rfl rfl (by first | rfl | exact Nat.le_of_ble_eq_true rfl | (simp; done)) | exact x_store 1 rfl rfl rfl rfl rfl rfl (by first | rfl | exact Nat.le_of_ble_eq_true rfl | (simp; done)) | exact x_store 2 rfl rfl rfl rfl rfl rfl (by first | rfl | exact Nat.le_of_ble_eq_true rfl | (simp; done)) | exact x_store 3 rfl rfl rfl rfl rfl rfl (by first | rfl | exact Nat.le_of_ble_eq_true rfl | (simp; done))) rfl rfl ?_
                rintro _ _ ⟨rfl, rfl⟩
                refine l_nil ?_
                refine c_ret ?_
                exact l_end0 (fun w hw => rets_cell rfl rfl rfl (row_own (by repeat (first | exact .head _ | refine .tail _ ?_ | refine List.mem_append_right _ ?_)) w hw)) ⟨rfl, aggE (by simp_all [putL, cO, numO, highS, highR] <;> simp [if_neg (show ¬ y < 4 by omega)])⟩
      · refine c_seq ?_
        refine c_region ?_
        refine l_l rfl rfl rfl ?_
        refine l_l rfl rfl rfl ?_
        refine l_nil ?_
        refine c_cond rfl (fun h16 => ?_) (fun h16 => ?_)
        · refine c_seq ?_
          refine c_region ?_
          refine l_l rfl rfl rfl ?_
          refine l_nil ?_
          refine c_block ?_
          refine c_seq ?_
          refine c_region ?_
          refine l_l rfl rfl rfl ?_
          refine l_l rfl rfl rfl ?_
          refine l_nil ?_
          refine c_cond rfl (fun h17 => ?_) (fun h17 => ?_)
          · refine c_seq ?_
            refine c_region ?_
            refine l_l rfl rfl rfl ?_
            refine l_l (light_struct rfl rfl rfl rfl) rfl rfl ?_
            refine l_x (by first | exact x_store 0 rfl rfl rfl rfl rfl rfl (by first | rfl | exact Nat.le_of_ble_eq_true rfl | (simp; done)) | exact x_store 1 rfl rfl rfl rfl rfl rfl (by first | rfl | exact Nat.le_of_ble_eq_true rfl | (simp; done)) | exact x_store 2 rfl rfl rfl rfl rfl rfl (by first | rfl | exact Nat.le_of_ble_eq_true rfl | (simp; done)) | exact x_store 3 rfl rfl rfl rfl rfl rfl (by first | rfl | exact Nat.le_of_ble_eq_true rfl | (simp; done))) rfl rfl ?_
            rintro _ _ ⟨rfl, rfl⟩
            refine l_nil ?_
            refine c_ret ?_
            exact l_end0 (fun w hw => rets_cell rfl rfl rfl (row_own (by repeat (first | exact .head _ | refine .tail _ ?_ | refine List.mem_append_right _ ?_)) w hw)) ⟨rfl, aggE (by simp_all [putL, cO, numO, highS, highR] <;> simp [if_neg (show ¬ y < 4 by omega)])⟩
          · refine c_seq ?_
            refine c_region ?_
            refine l_l rfl rfl rfl ?_
            refine l_l rfl rfl rfl ?_
            refine l_nil ?_
            refine c_cond rfl (fun h18 => ?_) (fun h18 => ?_)
            · refine c_seq ?_
              refine c_region ?_
              refine l_l rfl rfl rfl ?_
              refine l_as (v := (.int .i64 (b))) rfl rfl rfl (congrArg _ (wrap_i64 (by omega) (by omega))) ?_
              refine l_x (x_val call_40 rfl (fun w hw => rbehind_fn b hb.1 hb.2 w)) rfl rfl ?_
              rintro _ _ ⟨rfl, rfl⟩
              refine l_x (by first | exact x_store 0 rfl rfl rfl rfl rfl rfl (by first | rfl | exact Nat.le_of_ble_eq_true rfl | (simp; done)) | exact x_store 1 rfl rfl rfl rfl rfl rfl (by first | rfl | exact Nat.le_of_ble_eq_true rfl | (simp; done)) | exact x_store 2 rfl rfl rfl rfl rfl rfl (by first | rfl | exact Nat.le_of_ble_eq_true rfl | (simp; done)) | exact x_store 3 rfl rfl rfl rfl rfl rfl (by first | rfl | exact Nat.le_of_ble_eq_true rfl | (simp; done))) rfl rfl ?_
              rintro _ _ ⟨rfl, rfl⟩
              refine l_nil ?_
              refine c_ret ?_
              exact l_end0 (fun w hw => rets_cell rfl rfl rfl (row_own (by repeat (first | exact .head _ | refine .tail _ ?_ | refine List.mem_append_right _ ?_)) w hw)) ⟨rfl, aggE (by simp_all [putL, cO, numO, highS, highR] <;> simp [if_neg (show ¬ y < 4 by omega)])⟩
            · refine c_seq ?_
              refine c_region ?_
              refine l_l rfl rfl rfl ?_
              refine l_l rfl rfl rfl ?_
              refine l_nil ?_
              refine c_cond rfl (fun h19 => ?_) (fun h19 => ?_)
              · refine c_seq ?_
                refine c_region ?_
                refine l_l (light_struct rfl rfl rfl rfl) rfl rfl ?_
                refine l_x (by first | exact x_store 0 rfl rfl rfl rfl rfl rfl (by first | rfl | exact Nat.le_of_ble_eq_true rfl | (simp; done)) | exact x_store 1 rfl rfl rfl rfl rfl rfl (by first | rfl | exact Nat.le_of_ble_eq_true rfl | (simp; done)) | exact x_store 2 rfl rfl rfl rfl rfl rfl (by first | rfl | exact Nat.le_of_ble_eq_true rfl | (simp; done)) | exact x_store 3 rfl rfl rfl rfl rfl rfl (by first | rfl | exact Nat.le_of_ble_eq_true rfl | (simp; done))) rfl rfl ?_
                rintro _ _ ⟨rfl, rfl⟩
                refine l_nil ?_
                refine c_ret ?_
                exact l_end0 (fun w hw => rets_cell rfl rfl rfl (row_own (by repeat (first | exact .head _ | refine .tail _ ?_ | refine List.mem_append_right _ ?_)) w hw)) ⟨rfl, aggE (by simp_all [putL, cO, numO, highS, highR] <;> simp [if_neg (show ¬ y < 4 by omega)])⟩
              · refine c_seq ?_
                refine c_region ?_
                refine l_l rfl rfl rfl ?_
                refine l_l rfl rfl rfl ?_
                refine l_nil ?_
                refine c_cond rfl (fun h20 => ?_) (fun h20 => ?_)
                · refine c_seq ?_
                  refine c_region ?_
                  refine l_l (light_struct rfl rfl rfl rfl) rfl rfl ?_
                  refine l_x (by first | exact x_store 0 rfl rfl rfl rfl rfl rfl (by first | rfl | exact Nat.le_of_ble_eq_true rfl | (simp; done)) | exact x_store 1 rfl rfl rfl rfl rfl rfl (by first | rfl | exact Nat.le_of_ble_eq_true rfl | (simp; done)) | exact x_store 2 rfl rfl rfl rfl rfl rfl (by first | rfl | exact Nat.le_of_ble_eq_true rfl | (simp; done)) | exact x_store 3 rfl rfl rfl rfl rfl rfl (by first | rfl | exact Nat.le_of_ble_eq_true rfl | (simp; done))) rfl rfl ?_
                  rintro _ _ ⟨rfl, rfl⟩
                  refine l_nil ?_
                  refine c_ret ?_
                  exact l_end0 (fun w hw => rets_cell rfl rfl rfl (row_own (by repeat (first | exact .head _ | refine .tail _ ?_ | refine List.mem_append_right _ ?_)) w hw)) ⟨rfl, aggE (by simp_all [putL, cO, numO, highS, highR] <;> simp [if_neg (show ¬ y < 4 by omega)])⟩
                · refine c_skip ?_
                  refine c_seq ?_
                  refine c_region ?_
                  refine l_l (light_struct rfl rfl rfl rfl) rfl rfl ?_
                  refine l_x (by first | exact x_store 0 rfl rfl rfl rfl rfl rfl (by first | rfl | exact Nat.le_of_ble_eq_true rfl | (simp; done)) | exact x_store 1 rfl rfl rfl rfl rfl rfl (by first | rfl | exact Nat.le_of_ble_eq_true rfl | (simp; done)) | exact x_store 2 rfl rfl rfl rfl rfl rfl (by first | rfl | exact Nat.le_of_ble_eq_true rfl | (simp; done)) | exact x_store 3 rfl rfl rfl rfl rfl rfl (by first | rfl | exact Nat.le_of_ble_eq_true rfl | (simp; done))) rfl rfl ?_
                  rintro _ _ ⟨rfl, rfl⟩
                  refine l_nil ?_
                  refine c_ret ?_
                  exact l_end0 (fun w hw => rets_cell rfl rfl rfl (row_own (by repeat (first | exact .head _ | refine .tail _ ?_ | refine List.mem_append_right _ ?_)) w hw)) ⟨rfl, aggE (by simp_all [putL, cO, numO, highS, highR] <;> simp [if_neg (show ¬ y < 4 by omega)])⟩
        · refine c_seq ?_
          refine c_region ?_
          refine l_l rfl rfl rfl ?_
          refine l_l rfl rfl rfl ?_
          refine l_nil ?_
          refine c_cond rfl (fun h21 => ?_) (fun h21 => ?_)
          · refine c_seq ?_
            refine c_region ?_
            refine l_l rfl rfl rfl ?_
            refine l_l rfl rfl rfl ?_
            refine l_nil ?_
            refine c_cond rfl (fun h22 => ?_) (fun h22 => ?_)
            · refine c_seq ?_
              refine c_region ?_
              refine l_l rfl rfl rfl ?_
              refine l_l rfl rfl rfl ?_
              refine l_l (light_struct rfl rfl rfl rfl) rfl rfl ?_
              refine l_x (by first | exact x_store 0 rfl rfl rfl rfl rfl rfl (by first | rfl | exact Nat.le_of_ble_eq_true rfl | (simp; done)) | exact x_store 1 rfl rfl rfl rfl rfl rfl (by first | rfl | exact Nat.le_of_ble_eq_true rfl | (simp; done)) | exact x_store 2 rfl rfl rfl rfl rfl rfl (by first | rfl | exact Nat.le_of_ble_eq_true rfl | (simp; done)) | exact x_store 3 rfl rfl rfl rfl rfl rfl (by first | rfl | exact Nat.le_of_ble_eq_true rfl | (simp; done))) rfl rfl ?_
              rintro _ _ ⟨rfl, rfl⟩
              refine l_nil ?_
              refine c_ret ?_
              exact l_end0 (fun w hw => rets_cell rfl rfl rfl (row_own (by repeat (first | exact .head _ | refine .tail _ ?_ | refine List.mem_append_right _ ?_)) w hw)) ⟨rfl, aggE (by simp_all [putL, cO, numO, highS, highR] <;> simp [if_neg (show ¬ y < 4 by omega)])⟩
            · refine c_skip ?_
              refine c_seq ?_
              refine c_region ?_
              refine l_l (light_struct rfl rfl rfl rfl) rfl rfl ?_
              refine l_x (by first | exact x_store 0 rfl rfl rfl rfl rfl rfl (by first | rfl | exact Nat.le_of_ble_eq_true rfl | (simp; done)) | exact x_store 1 rfl rfl rfl rfl rfl rfl (by first | rfl | exact Nat.le_of_ble_eq_true rfl | (simp; done)) | exact x_store 2 rfl rfl rfl rfl rfl rfl (by first | rfl | exact Nat.le_of_ble_eq_true rfl | (simp; done)) | exact x_store 3 rfl rfl rfl rfl rfl rfl (by first | rfl | exact Nat.le_of_ble_eq_true rfl | (simp; done))) rfl rfl ?_
              rintro _ _ ⟨rfl, rfl⟩
              refine l_nil ?_
              refine c_ret ?_
              exact l_end0 (fun w hw => rets_cell rfl rfl rfl (row_own (by repeat (first | exact .head _ | refine .tail _ ?_ | refine List.mem_append_right _ ?_)) w hw)) ⟨rfl, aggE (by simp_all [putL, cO, numO, highS, highR] <;> simp [if_neg (show ¬ y < 4 by omega)])⟩
          · refine c_seq ?_
            refine c_region ?_
            refine l_l rfl rfl rfl ?_
            refine l_l rfl rfl rfl ?_
            refine l_nil ?_
            refine c_cond rfl (fun h23 => ?_) (fun h23 => ?_)
            · refine c_seq ?_
              refine c_seq ?_
              refine c_region ?_
              refine l_l rfl rfl rfl ?_
              refine l_l rfl rfl rfl ?_
              refine l_nil ?_
              refine c_cond rfl (fun h24 => ?_) (fun h24 => ?_)
              · refine c_seq ?_
                refine c_region ?_
                refine l_l rfl rfl rfl ?_
                refine l_x (x_val call_39 rfl (fun w hw => rpair_fn _ w)) rfl rfl ?_
                rintro _ _ ⟨rfl, rfl⟩
                refine l_l (light_struct rfl rfl rfl rfl) rfl rfl ?_
                refine l_x (by first | exact x_store 0 rfl rfl rfl rfl rfl rfl (by first | rfl | exact Nat.le_of_ble_eq_true rfl | (simp; done)) | exact x_store 1 rfl rfl rfl rfl rfl rfl (by first | rfl | exact Nat.le_of_ble_eq_true rfl | (simp; done)) | exact x_store 2 rfl rfl rfl rfl rfl rfl (by first | rfl | exact Nat.le_of_ble_eq_true rfl | (simp; done)) | exact x_store 3 rfl rfl rfl rfl rfl rfl (by first | rfl | exact Nat.le_of_ble_eq_true rfl | (simp; done))) rfl rfl ?_
                rintro _ _ ⟨rfl, rfl⟩
                refine l_nil ?_
                refine c_ret ?_
                exact l_end0 (fun w hw => rets_cell rfl rfl rfl (row_own (by repeat (first | exact .head _ | refine .tail _ ?_ | refine List.mem_append_right _ ?_)) w hw)) ⟨rfl, aggE (by simp_all [putL, cO, numO, highS, highR] <;> simp [if_neg (show ¬ y < 4 by omega)])⟩
              · refine c_skip ?_
                refine c_seq ?_
                refine c_region ?_
                refine l_l rfl rfl rfl ?_
                refine l_l rfl rfl rfl ?_
                refine l_nil ?_
                refine c_cond rfl (fun h25 => ?_) (fun h25 => ?_)
                · refine c_seq ?_
                  refine c_region ?_
                  refine l_l rfl rfl rfl ?_
                  refine l_l (light_struct rfl rfl rfl rfl) rfl rfl ?_
                  refine l_x (by first | exact x_store 0 rfl rfl rfl rfl rfl rfl (by first | rfl | exact Nat.le_of_ble_eq_true rfl | (simp; done)) | exact x_store 1 rfl rfl rfl rfl rfl rfl (by first | rfl | exact Nat.le_of_ble_eq_true rfl | (simp; done)) | exact x_store 2 rfl rfl rfl rfl rfl rfl (by first | rfl | exact Nat.le_of_ble_eq_true rfl | (simp; done)) | exact x_store 3 rfl rfl rfl rfl rfl rfl (by first | rfl | exact Nat.le_of_ble_eq_true rfl | (simp; done))) rfl rfl ?_
                  rintro _ _ ⟨rfl, rfl⟩
                  refine l_nil ?_
                  refine c_ret ?_
                  exact l_end0 (fun w hw => rets_cell rfl rfl rfl (row_own (by repeat (first | exact .head _ | refine .tail _ ?_ | refine List.mem_append_right _ ?_)) w hw)) ⟨rfl, aggE (by simp_all [putL, cO, numO, highS, highR] <;> simp [if_neg (show ¬ y < 4 by omega)])⟩
                · refine c_skip ?_
                  refine c_seq ?_
                  refine c_region ?_
                  refine l_l (light_struct rfl rfl rfl rfl) rfl rfl ?_
                  refine l_x (by first | exact x_store 0 rfl rfl rfl rfl rfl rfl (by first | rfl | exact Nat.le_of_ble_eq_true rfl | (simp; done)) | exact x_store 1 rfl rfl rfl rfl rfl rfl (by first | rfl | exact Nat.le_of_ble_eq_true rfl | (simp; done)) | exact x_store 2 rfl rfl rfl rfl rfl rfl (by first | rfl | exact Nat.le_of_ble_eq_true rfl | (simp; done)) | exact x_store 3 rfl rfl rfl rfl rfl rfl (by first | rfl | exact Nat.le_of_ble_eq_true rfl | (simp; done))) rfl rfl ?_
                  rintro _ _ ⟨rfl, rfl⟩
                  refine l_nil ?_
                  refine c_ret ?_
                  exact l_end0 (fun w hw => rets_cell rfl rfl rfl (row_own (by repeat (first | exact .head _ | refine .tail _ ?_ | refine List.mem_append_right _ ?_)) w hw)) ⟨rfl, aggE (by simp_all [putL, cO, numO, highS, highR] <;> simp [if_neg (show ¬ y < 4 by omega)])⟩
            · refine c_seq ?_
              refine c_region ?_
              refine l_l rfl rfl rfl ?_
              refine l_l rfl rfl rfl ?_
              refine l_nil ?_
              refine c_cond rfl (fun h26 => ?_) (fun h26 => ?_)
              · refine c_seq ?_
                refine c_region ?_
                refine l_l rfl rfl rfl ?_
                refine l_l rfl rfl rfl ?_
                refine l_l (light_struct rfl rfl rfl rfl) rfl rfl ?_
                refine l_x (by first | exact x_store 0 rfl rfl rfl rfl rfl rfl (by first | rfl | exact Nat.le_of_ble_eq_true rfl | (simp; done)) | exact x_store 1 rfl rfl rfl rfl rfl rfl (by first | rfl | exact Nat.le_of_ble_eq_true rfl | (simp; done)) | exact x_store 2 rfl rfl rfl rfl rfl rfl (by first | rfl | exact Nat.le_of_ble_eq_true rfl | (simp; done)) | exact x_store 3 rfl rfl rfl rfl rfl rfl (by first | rfl | exact Nat.le_of_ble_eq_true rfl | (simp; done))) rfl rfl ?_
                rintro _ _ ⟨rfl, rfl⟩
                refine l_nil ?_
                refine c_ret ?_
                exact l_end0 (fun w hw => rets_cell rfl rfl rfl (row_own (by repeat (first | exact .head _ | refine .tail _ ?_ | refine List.mem_append_right _ ?_)) w hw)) ⟨rfl, aggE (by simp_all [putL, cO, numO, highS, highR] <;> simp [if_neg (show ¬ y < 4 by omega)])⟩
              · refine c_seq ?_
                refine c_region ?_
                refine l_l rfl rfl rfl ?_
                refine l_l rfl rfl rfl ?_
                refine l_nil ?_
                refine c_cond rfl (fun h27 => ?_) (fun h27 => ?_)
                · refine c_seq ?_
                  refine c_region ?_
                  refine l_l rfl rfl rfl ?_
                  refine l_as (v := (.int .i64 (8 * y))) rfl rfl rfl (congrArg _ (wrap_i64 (by omega) (by omega))) ?_
                  refine l_as (v := (.int .u16 (8 * y))) rfl rfl rfl (congrArg _ (wrap_u16_id (by omega) (by omega))) ?_
                  refine l_l (light_struct rfl rfl rfl rfl) rfl rfl ?_
                  refine l_x (by first | exact x_store 0 rfl rfl rfl rfl rfl rfl (by first | rfl | exact Nat.le_of_ble_eq_true rfl | (simp; done)) | exact x_store 1 rfl rfl rfl rfl rfl rfl (by first | rfl | exact Nat.le_of_ble_eq_true rfl | (simp; done)) | exact x_store 2 rfl rfl rfl rfl rfl rfl (by first | rfl | exact Nat.le_of_ble_eq_true rfl | (simp; done)) | exact x_store 3 rfl rfl rfl rfl rfl rfl (by first | rfl | exact Nat.le_of_ble_eq_true rfl | (simp; done))) rfl rfl ?_
                  rintro _ _ ⟨rfl, rfl⟩
                  refine l_nil ?_
                  refine c_ret ?_
                  exact l_end0 (fun w hw => rets_cell rfl rfl rfl (row_own (by repeat (first | exact .head _ | refine .tail _ ?_ | refine List.mem_append_right _ ?_)) w hw)) ⟨rfl, aggE (by simp_all [putL, cO, numO, highS, highR] <;> simp [if_neg (show ¬ y < 4 by omega)])⟩
                · refine c_skip ?_
                  refine c_seq ?_
                  refine c_region ?_
                  refine l_l (light_struct rfl rfl rfl rfl) rfl rfl ?_
                  refine l_x (by first | exact x_store 0 rfl rfl rfl rfl rfl rfl (by first | rfl | exact Nat.le_of_ble_eq_true rfl | (simp; done)) | exact x_store 1 rfl rfl rfl rfl rfl rfl (by first | rfl | exact Nat.le_of_ble_eq_true rfl | (simp; done)) | exact x_store 2 rfl rfl rfl rfl rfl rfl (by first | rfl | exact Nat.le_of_ble_eq_true rfl | (simp; done)) | exact x_store 3 rfl rfl rfl rfl rfl rfl (by first | rfl | exact Nat.le_of_ble_eq_true rfl | (simp; done))) rfl rfl ?_
                  rintro _ _ ⟨rfl, rfl⟩
                  refine l_nil ?_
                  refine c_ret ?_
                  exact l_end0 (fun w hw => rets_cell rfl rfl rfl (row_own (by repeat (first | exact .head _ | refine .tail _ ?_ | refine List.mem_append_right _ ?_)) w hw)) ⟨rfl, aggE (by simp_all [putL, cO, numO, highS, highR] <;> simp [if_neg (show ¬ y < 4 by omega)])⟩

theorem rdecode_fn (a b c : Int) (ha : 0 ≤ a ∧ a < 256) (hb : 0 ≤ b ∧ b < 256) (hc : 0 ≤ c ∧ c < 256) (w : World) :
    Does Try.prog 12 [.int .u8 a, .int .u8 b, .int .u8 c] w [] (fun v H => H = [] ∧ v = .agg (cO (dcd a b c)).toArray) := by
  rw [← ref_eq ha.1 ha.2]
  refine does_of Try.func12 rfl rfl rfl (St.refl w) ?_
  refine c_seq ?_
  refine c_region ?_
  refine l_x (x_alloc rfl) rfl rfl ?_
  rintro _ _ ⟨b6, rfl, rfl⟩
  refine l_nil ?_
  refine c_seq ?_
  refine c_region ?_
  refine l_l rfl rfl rfl ?_
  refine l_as (v := (.int .i64 (a))) rfl rfl rfl (congrArg _ (wrap_i64 (by omega) (by omega))) ?_
  refine l_as (v := (.int .i64 (a / 64))) (quo_pos rfl rfl (by decide)) rfl rfl (congrArg _ (by rw [Int.tdiv_eq_ediv_of_nonneg (by omega), wrap_i64 (by omega) (by omega)])) ?_
  refine l_l rfl rfl rfl ?_
  refine l_as (v := (.int .i64 (a))) rfl rfl rfl (congrArg _ (wrap_i64 (by omega) (by omega))) ?_
  refine l_as (v := (.int .i64 (a / 8))) (quo_pos rfl rfl (by decide)) rfl rfl (congrArg _ (by rw [Int.tdiv_eq_ediv_of_nonneg (by omega), wrap_i64 (by omega) (by omega)])) ?_
  refine l_as (v := (.int .i64 (a / 8 % 8))) (rem_pos rfl rfl (by decide)) rfl rfl (congrArg _ (Int.tmod_eq_emod_of_nonneg (by omega))) ?_
  refine l_l rfl rfl rfl ?_
  refine l_as (v := (.int .i64 (a))) rfl rfl rfl (congrArg _ (wrap_i64 (by omega) (by omega))) ?_
  refine l_as (v := (.int .i64 (a % 8))) (rem_pos rfl rfl (by decide)) rfl rfl (congrArg _ (Int.tmod_eq_emod_of_nonneg (by omega))) ?_
  refine l_l rfl rfl rfl ?_
  refine l_l rfl rfl rfl ?_
  refine l_l rfl rfl rfl ?_
  refine l_nil ?_
  refine c_seq ?_
  refine c_region ?_
  refine l_l rfl rfl rfl ?_
  refine l_as (v := (.int .i64 (c))) rfl rfl rfl (congrArg _ (wrap_i64 (by omega) (by omega))) ?_
  refine l_as (v := (.int .i64 (256 * c))) rfl rfl rfl (congrArg _ (by rw [wrap_i64 (by omega) (by omega)]; omega)) ?_
  refine l_l rfl rfl rfl ?_
  refine l_as (v := (.int .i64 (b))) rfl rfl rfl (congrArg _ (wrap_i64 (by omega) (by omega))) ?_
  refine l_as (v := (.int .i64 (b + 256 * c))) rfl rfl rfl (congrArg _ (by rw [wrap_i64 (by omega) (by omega)]; omega)) ?_
  refine l_as (v := (.int .u16 (b + 256 * c))) rfl rfl rfl (congrArg _ (wrap_u16_id (by omega) (by omega))) ?_
  refine l_l rfl rfl rfl ?_
  refine l_nil ?_
  refine c_seq ?_
  refine c_seq ?_
  refine c_region ?_
  refine l_l rfl rfl rfl ?_
  refine l_nil ?_
  refine c_block ?_
  refine c_seq ?_
  refine c_region ?_
  refine l_l rfl rfl rfl ?_
  refine l_l rfl rfl rfl ?_
  refine l_nil ?_
  refine c_cond rfl (fun h1 => ?_) (fun h1 => ?_)
  · refine c_seq ?_
    refine c_region ?_
    refine l_l rfl rfl rfl ?_
    refine l_l rfl rfl rfl ?_
    refine l_l rfl rfl rfl ?_
    refine l_l rfl rfl rfl ?_
    refine l_x (x_val call_18 rfl (fun w hw => rlow_fn _ _ b _ (by omega) (by omega) hb w)) rfl rfl ?_
    rintro _ _ ⟨rfl, rfl⟩
    refine l_x (by first | exact x_store 0 rfl rfl rfl rfl rfl rfl (by first | rfl | exact Nat.le_of_ble_eq_true rfl | (simp; done)) | exact x_store 1 rfl rfl rfl rfl rfl rfl (by first | rfl | exact Nat.le_of_ble_eq_true rfl | (simp; done)) | exact x_store 2 rfl rfl rfl rfl rfl rfl (by first | rfl | exact Nat.le_of_ble_eq_true rfl | (simp; done)) | exact x_store 3 rfl rfl rfl rfl rfl rfl (by first | rfl | exact Nat.le_of_ble_eq_true rfl | (simp; done))) rfl rfl ?_
    rintro _ _ ⟨rfl, rfl⟩
    refine l_nil ?_
    refine c_ret ?_
    exact l_end0 (fun w hw => rets_cell rfl rfl rfl (row_own (by repeat (first | exact .head _ | refine .tail _ ?_ | refine List.mem_append_right _ ?_)) w hw)) ⟨rfl, aggE (by simp_all [putL, cO, refO])⟩
  · refine c_seq ?_
    refine c_region ?_
    refine l_l rfl rfl rfl ?_
    refine l_l rfl rfl rfl ?_
    refine l_nil ?_
    refine c_cond rfl (fun h2 => ?_) (fun h2 => ?_)
    · refine c_seq ?_
      refine c_seq ?_
      refine c_region ?_
      refine l_l rfl rfl rfl ?_
      refine l_l rfl rfl rfl ?_
      refine l_b rfl rfl rfl (fun h3 => ?_) (fun h3 => ?_)
      · refine l_l rfl rfl rfl ?_
        refine l_l rfl rfl rfl ?_
        refine l_l rfl rfl rfl ?_
        refine l_nil ?_
        refine c_cond rfl (fun h4 => ?_) (fun h4 => ?_)
        · refine c_seq ?_
          refine c_region ?_
          refine l_l (light_struct rfl rfl rfl rfl) rfl rfl ?_
          refine l_x (by first | exact x_store 0 rfl rfl rfl rfl rfl rfl (by first | rfl | exact Nat.le_of_ble_eq_true rfl | (simp; done)) | exact x_store 1 rfl rfl rfl rfl rfl rfl (by first | rfl | exact Nat.le_of_ble_eq_true rfl | (simp; done)) | exact x_store 2 rfl rfl rfl rfl rfl rfl (by first | rfl | exact Nat.le_of_ble_eq_true rfl | (simp; done)) | exact x_store 3 rfl rfl rfl rfl rfl rfl (by first | rfl | exact Nat.le_of_ble_eq_true rfl | (simp; done))) rfl rfl ?_
          rintro _ _ ⟨rfl, rfl⟩
          refine l_nil ?_
          refine c_ret ?_
          exact l_end0 (fun w hw => rets_cell rfl rfl rfl (row_own (by repeat (first | exact .head _ | refine .tail _ ?_ | refine List.mem_append_right _ ?_)) w hw)) ⟨rfl, aggE (by simp_all [putL, cO, refO])⟩
        · refine c_skip ?_
          refine c_seq ?_
          refine c_region ?_
          refine l_l rfl rfl rfl ?_
          refine l_l rfl rfl rfl ?_
          refine l_l (light_struct rfl rfl rfl rfl) rfl rfl ?_
          refine l_x (by first | exact x_store 0 rfl rfl rfl rfl rfl rfl (by first | rfl | exact Nat.le_of_ble_eq_true rfl | (simp; done)) | exact x_store 1 rfl rfl rfl rfl rfl rfl (by first | rfl | exact Nat.le_of_ble_eq_true rfl | (simp; done)) | exact x_store 2 rfl rfl rfl rfl rfl rfl (by first | rfl | exact Nat.le_of_ble_eq_true rfl | (simp; done)) | exact x_store 3 rfl rfl rfl rfl rfl rfl (by first | rfl | exact Nat.le_of_ble_eq_true rfl | (simp; done))) rfl rfl ?_
          rintro _ _ ⟨rfl, rfl⟩
          refine l_nil ?_
          refine c_ret ?_
          exact l_end0 (fun w hw => rets_cell rfl rfl rfl (row_own (by repeat (first | exact .head _ | refine .tail _ ?_ | refine List.mem_append_right _ ?_)) w hw)) ⟨rfl, aggE (by simp_all [putL, cO, refO])⟩
      · refine l_p rfl rfl ?_
        refine l_p rfl rfl ?_
        refine l_l rfl rfl rfl ?_
        refine l_nil ?_
        refine c_false rfl ?_
        refine c_skip ?_
        refine c_seq ?_
        refine c_region ?_
        refine l_l rfl rfl rfl ?_
        refine l_l rfl rfl rfl ?_
        refine l_l (light_struct rfl rfl rfl rfl) rfl rfl ?_
        refine l_x (by first | exact x_store 0 rfl rfl rfl rfl rfl rfl (by first | rfl | exact Nat.le_of_ble_eq_true rfl | (simp; done)) | exact x_store 1 rfl rfl rfl rfl rfl rfl (by first | rfl | exact Nat.le_of_ble_eq_true rfl | (simp; done)) | exact x_store 2 rfl rfl rfl rfl rfl rfl (by first | rfl | exact Nat.le_of_ble_eq_true rfl | (simp; done)) | exact x_store 3 rfl rfl rfl rfl rfl rfl (by first | rfl | exact Nat.le_of_ble_eq_true rfl | (simp; done))) rfl rfl ?_
        rintro _ _ ⟨rfl, rfl⟩
        refine l_nil ?_
        refine c_ret ?_
        exact l_end0 (fun w hw => rets_cell rfl rfl rfl (row_own (by repeat (first | exact .head _ | refine .tail _ ?_ | refine List.mem_append_right _ ?_)) w hw)) ⟨rfl, aggE (by simp_all [putL, cO, refO])⟩
    · refine c_seq ?_
      refine c_region ?_
      refine l_l rfl rfl rfl ?_
      refine l_l rfl rfl rfl ?_
      refine l_nil ?_
      refine c_cond rfl (fun h5 => ?_) (fun h5 => ?_)
      · refine c_seq ?_
        refine c_region ?_
        refine l_l rfl rfl rfl ?_
        refine l_l rfl rfl rfl ?_
        refine l_l (light_struct rfl rfl rfl rfl) rfl rfl ?_
        refine l_x (by first | exact x_store 0 rfl rfl rfl rfl rfl rfl (by first | rfl | exact Nat.le_of_ble_eq_true rfl | (simp; done)) | exact x_store 1 rfl rfl rfl rfl rfl rfl (by first | rfl | exact Nat.le_of_ble_eq_true rfl | (simp; done)) | exact x_store 2 rfl rfl rfl rfl rfl rfl (by first | rfl | exact Nat.le_of_ble_eq_true rfl | (simp; done)) | exact x_store 3 rfl rfl rfl rfl rfl rfl (by first | rfl | exact Nat.le_of_ble_eq_true rfl | (simp; done))) rfl rfl ?_
        rintro _ _ ⟨rfl, rfl⟩
        refine l_nil ?_
        refine c_ret ?_
        exact l_end0 (fun w hw => rets_cell rfl rfl rfl (row_own (by repeat (first | exact .head _ | refine .tail _ ?_ | refine List.mem_append_right _ ?_)) w hw)) ⟨rfl, aggE (by simp_all [putL, cO, refO])⟩
      · refine c_skip ?_
        refine c_seq ?_
        refine c_region ?_
        refine l_l rfl rfl rfl ?_
        refine l_l rfl rfl rfl ?_
        refine l_l rfl rfl rfl ?_
        refine l_l rfl rfl rfl ?_
        refine l_x (x_val call_19 rfl (fun w hw => rhigh_fn _ _ b _ (by omega) (by omega) hb w)) rfl rfl ?_
        rintro _ _ ⟨rfl, rfl⟩
        refine l_x (by first | exact x_store 0 rfl rfl rfl rfl rfl rfl (by first | rfl | exact Nat.le_of_ble_eq_true rfl | (simp; done)) | exact x_store 1 rfl rfl rfl rfl rfl rfl (by first | rfl | exact Nat.le_of_ble_eq_true rfl | (simp; done)) | exact x_store 2 rfl rfl rfl rfl rfl rfl (by first | rfl | exact Nat.le_of_ble_eq_true rfl | (simp; done)) | exact x_store 3 rfl rfl rfl rfl rfl rfl (by first | rfl | exact Nat.le_of_ble_eq_true rfl | (simp; done))) rfl rfl ?_
        rintro _ _ ⟨rfl, rfl⟩
        refine l_nil ?_
        refine c_ret ?_
        exact l_end0 (fun w hw => rets_cell rfl rfl rfl (row_own (by repeat (first | exact .head _ | refine .tail _ ?_ | refine List.mem_append_right _ ?_)) w hw)) ⟨rfl, aggE (by simp_all [putL, cO, refO])⟩

end Go.Proofs.Ytmihilhmdcndfaa
