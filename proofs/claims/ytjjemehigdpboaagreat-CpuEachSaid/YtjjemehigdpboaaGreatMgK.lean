/- The document's sums over its state. -/
import Derived.Test.YtjjemehigdpboaaGreatMgC
import Derived.Test.YtjjemehigdpboaaGreatMgD
import Derived.Test.YtjjemehigdpboaaGreatMgF
import Derived.Test.YtjjemehigdpboaaGreatMgI
import Derived.Test.YtjjemehigdpboaaGreatMgJ
import Derived.Test.YtjjemehigdpboaaGreatProg
namespace Go.Proofs.YtjjemehigdpboaaGreat
open Go Go.VV Go.Proofs
set_option linter.unusedSimpArgs false
set_option linter.unusedVariables false
set_option maxRecDepth 100000
theorem rbehind_fn (b : Int) (hb : 0 ≤ b) (hb2 : b < 256) (w : World) :
  Does Tryz.prog 73 [.int .i64 b] w [] (fun v H => H = [] ∧ v = .agg (cO (behS b)).toArray) := by
 refine does_of Tryz.func73 rfl rfl rfl (St.refl w) ?_
 refine c_seq ?_
 refine c_region ?_
 refine l_x (x_alloc rfl) rfl rfl ?_
 rintro _ _ ⟨b2, rfl, rfl⟩
 refine l_nil ?_
 refine c_seq ?_
 refine c_region ?_
 refine RL ?_
 refine l_as (v := (.int .i64 (b / 64))) (quo_pos rfl rfl (by decide)) rfl rfl (congrArg _ (by rw [Int.tdiv_eq_ediv_of_nonneg o_m, wrap_i64 o_m o_m])) ?_
 refine RL ?_
 refine l_as (v := (.int .i64 (b / 8))) (quo_pos rfl rfl (by decide)) rfl rfl (congrArg _ (by rw [Int.tdiv_eq_ediv_of_nonneg o_m, wrap_i64 o_m o_m])) ?_
 refine l_as (v := (.int .i64 (b / 8 % 8))) (rem_pos rfl rfl (by decide)) rfl rfl (congrArg _ (Int.tmod_eq_emod_of_nonneg o_m)) ?_
 refine RL ?_
 refine l_as (v := (.int .i64 (b % 8))) (rem_pos rfl rfl (by decide)) rfl rfl (congrArg _ (Int.tmod_eq_emod_of_nonneg o_m)) ?_
 iterate 3 refine RL ?_
 refine l_nil ?_
 refine c_seq ?_
 refine c_seq ?_
 refine c_region ?_
 refine RL ?_
 refine RL ?_
 refine l_nil ?_
 refine c_cond rfl (fun h1 => ?_) (fun h1 => ?_)
 ·refine c_seq ?_
  refine c_region ?_
  refine RL ?_
  refine RL ?_
  refine l_l (light_struct rfl rfl rfl rfl) rfl rfl ?_
  refine l_x s_t rfl rfl ?_
  rintro _ _ ⟨rfl, rfl⟩
  refine l_nil ?_
  refine c_ret ?_
  exact l_end0 (fun w hw => rets_cell rfl rfl rfl (row_own m_m w hw)) ⟨rfl, aggE (by simp_all [putL, cO, behS])⟩
 ·refine c_skip ?_
  refine c_seq ?_
  refine c_region ?_
  refine RL ?_
  refine l_as (v := (.int .i64 (43 + b / 64))) rfl rfl rfl (congrArg _ (wrap_i64 o_m o_m)) ?_
  refine RL ?_
  refine RL ?_
  refine l_l (light_struct rfl rfl rfl rfl) rfl rfl ?_
  refine l_x s_t rfl rfl ?_
  rintro _ _ ⟨rfl, rfl⟩
  refine l_nil ?_
  refine c_ret ?_
  exact l_end0 (fun w hw => rets_cell rfl rfl rfl (row_own m_m w hw)) ⟨rfl, aggE (by simp_all [putL, cO, behS])⟩

theorem qpairO_fn (p : Int) (w : World) :
  Does Tryz.prog 72 [.int .i64 p] w [] (fun v H => H = [] ∧ v = .int .i64 (prS p)) := by
 refine does_of Tryz.func72 rfl rfl rfl (St.refl w) ?_
 refine c_seq ?_
 refine c_region ?_
 refine RL ?_
 refine l_nil ?_
 refine c_seq ?_
 refine c_seq ?_
 refine c_region ?_
 refine RL ?_
 refine RL ?_
 refine l_nil ?_
 refine c_cond rfl (fun h1 => ?_) (fun h1 => ?_)
 ·refine c_seq ?_
  refine c_region ?_
  refine RL ?_
  refine l_nil ?_
  refine c_ret ?_
  exact l_end0 (fun _ _ => rets_v rfl) ⟨rfl, congrArg _ (by simp_all [prS])⟩
 ·refine c_skip ?_
  refine c_seq ?_
  refine c_region ?_
  refine RL ?_
  refine RL ?_
  refine l_nil ?_
  refine c_ret ?_
  exact l_end0 (fun _ _ => rets_v rfl) ⟨rfl, congrArg _ (by simp_all [prS])⟩

theorem rlow_fn (y z b c : Int) (hy : 0 ≤ y ∧ y < 8) (hz : 0 ≤ z ∧ z < 8) (hb : 0 ≤ b ∧ b < 256) (w : World) :
  Does Tryz.prog 32 [.int .i64 y, .int .i64 z, .int .u8 b, .int .u16 c] w [] (fun v H => H = [] ∧ v = .agg (cO (numO (lowS y z) b c)).toArray) := by
 refine does_of Tryz.func32 rfl rfl rfl (St.refl w) ?_
 refine c_seq ?_
 refine c_region ?_
 refine l_x (x_alloc rfl) rfl rfl ?_
 rintro _ _ ⟨b8, rfl, rfl⟩
 refine l_nil ?_
 refine c_seq ?_
 refine c_region ?_
 refine RL ?_
 refine l_as (v := (.int .i64 (y / 2))) (quo_pos rfl rfl (by decide)) rfl rfl (congrArg _ (by rw [Int.tdiv_eq_ediv_of_nonneg o_m, wrap_i64 o_m o_m])) ?_
 refine RL ?_
 refine l_as (v := (.int .i64 (y % 2))) (rem_pos rfl rfl (by decide)) rfl rfl (congrArg _ (Int.tmod_eq_emod_of_nonneg o_m)) ?_
 refine RL ?_
 refine RL ?_
 refine l_nil ?_
 refine c_seq ?_
 refine c_seq ?_
 refine c_region ?_
 refine RL ?_
 refine l_nil ?_
 refine c_block ?_
 refine c_seq ?_
 refine c_region ?_
 refine RL ?_
 refine RL ?_
 refine l_nil ?_
 refine c_cond rfl (fun h1 => ?_) (fun h1 => ?_)
 ·refine c_seq ?_
  refine c_seq ?_
  refine c_region ?_
  refine RL ?_
  refine l_nil ?_
  refine c_block ?_
  refine c_seq ?_
  refine c_region ?_
  refine RL ?_
  refine RL ?_
  refine l_nil ?_
  refine c_cond rfl (fun h2 => ?_) (fun h2 => ?_)
  ·refine c_seq ?_
   refine c_region ?_
   refine l_l (light_struct rfl rfl rfl rfl) rfl rfl ?_
   refine l_x s_t rfl rfl ?_
   rintro _ _ ⟨rfl, rfl⟩
   refine l_nil ?_
   refine c_ret ?_
   exact l_end0 (fun w hw => rets_cell rfl rfl rfl (row_own m_m w hw)) ⟨rfl, aggE (by simp_all [putL, cO, numO, lowS] <;> simp [if_neg (show ¬ y < 4 by omega)])⟩
  ·refine c_seq ?_
   refine c_region ?_
   refine RL ?_
   refine RL ?_
   refine l_nil ?_
   refine c_cond rfl (fun h3 => ?_) (fun h3 => ?_)
   ·refine c_seq ?_
    refine c_region ?_
    refine RL ?_
    refine l_l (light_struct rfl rfl rfl rfl) rfl rfl ?_
    refine l_x s_t rfl rfl ?_
    rintro _ _ ⟨rfl, rfl⟩
    refine l_nil ?_
    refine c_ret ?_
    exact l_end0 (fun w hw => rets_cell rfl rfl rfl (row_own m_m w hw)) ⟨rfl, aggE (by simp_all [putL, cO, numO, lowS] <;> simp [if_neg (show ¬ y < 4 by omega)])⟩
   ·refine c_seq ?_
    refine c_region ?_
    refine RL ?_
    refine RL ?_
    refine l_nil ?_
    refine c_cond rfl (fun h4 => ?_) (fun h4 => ?_)
    ·refine c_seq ?_
     refine c_region ?_
     refine RL ?_
     refine l_as (v := (.int .u16 (b))) rfl rfl rfl (congrArg _ (wrap_u16_id o_m o_m)) ?_
     refine l_l (light_struct rfl rfl rfl rfl) rfl rfl ?_
     refine l_x s_t rfl rfl ?_
     rintro _ _ ⟨rfl, rfl⟩
     refine l_nil ?_
     refine c_ret ?_
     exact l_end0 (fun w hw => rets_cell rfl rfl rfl (row_own m_m w hw)) ⟨rfl, aggE (by simp_all [putL, cO, numO, lowS] <;> simp [if_neg (show ¬ y < 4 by omega)])⟩
    ·refine c_seq ?_
     refine c_region ?_
     refine RL ?_
     refine RL ?_
     refine l_nil ?_
     refine c_cond rfl (fun h5 => ?_) (fun h5 => ?_)
     ·refine c_seq ?_
      refine c_region ?_
      refine RL ?_
      refine l_as (v := (.int .u16 (b))) rfl rfl rfl (congrArg _ (wrap_u16_id o_m o_m)) ?_
      refine l_l (light_struct rfl rfl rfl rfl) rfl rfl ?_
      refine l_x s_t rfl rfl ?_
      rintro _ _ ⟨rfl, rfl⟩
      refine l_nil ?_
      refine c_ret ?_
      exact l_end0 (fun w hw => rets_cell rfl rfl rfl (row_own m_m w hw)) ⟨rfl, aggE (by simp_all [putL, cO, numO, lowS] <;> simp [if_neg (show ¬ y < 4 by omega)])⟩
     ·refine c_skip ?_
      refine c_seq ?_
      refine c_region ?_
      refine RL ?_
      refine l_as (v := (.int .i64 (y - 4))) rfl rfl rfl (congrArg _ (wrap_i64 o_m o_m)) ?_
      refine RL ?_
      refine l_as (v := (.int .u16 (b))) rfl rfl rfl (congrArg _ (wrap_u16_id o_m o_m)) ?_
      refine l_l (light_struct rfl rfl rfl rfl) rfl rfl ?_
      refine l_x s_t rfl rfl ?_
      rintro _ _ ⟨rfl, rfl⟩
      refine l_nil ?_
      refine c_ret ?_
      exact l_end0 (fun w hw => rets_cell rfl rfl rfl (row_own m_m w hw)) ⟨rfl, aggE (by simp_all [putL, cO, numO, lowS] <;> simp [if_neg (show ¬ y < 4 by omega)])⟩
 ·refine c_seq ?_
  refine c_region ?_
  refine RL ?_
  refine RL ?_
  refine l_nil ?_
  refine c_cond rfl (fun h6 => ?_) (fun h6 => ?_)
  ·refine c_seq ?_
   refine c_seq ?_
   refine c_region ?_
   refine RL ?_
   refine RL ?_
   refine l_nil ?_
   refine c_cond rfl (fun h7 => ?_) (fun h7 => ?_)
   ·refine c_seq ?_
    refine c_region ?_
    refine RL ?_
    refine RL ?_
    refine l_l (light_struct rfl rfl rfl rfl) rfl rfl ?_
    refine l_x s_t rfl rfl ?_
    rintro _ _ ⟨rfl, rfl⟩
    refine l_nil ?_
    refine c_ret ?_
    exact l_end0 (fun w hw => rets_cell rfl rfl rfl (row_own m_m w hw)) ⟨rfl, aggE (by simp_all [putL, cO, numO, lowS] <;> simp [if_neg (show ¬ y < 4 by omega)])⟩
   ·refine c_skip ?_
    refine c_seq ?_
    refine c_region ?_
    refine RL ?_
    refine l_l (light_struct rfl rfl rfl rfl) rfl rfl ?_
    refine l_x s_t rfl rfl ?_
    rintro _ _ ⟨rfl, rfl⟩
    refine l_nil ?_
    refine c_ret ?_
    exact l_end0 (fun w hw => rets_cell rfl rfl rfl (row_own m_m w hw)) ⟨rfl, aggE (by simp_all [putL, cO, numO, lowS] <;> simp [if_neg (show ¬ y < 4 by omega)])⟩
  ·refine c_seq ?_
   refine c_region ?_
   refine RL ?_
   refine RL ?_
   refine l_nil ?_
   refine c_cond rfl (fun h8 => ?_) (fun h8 => ?_)
   ·refine c_seq ?_
    refine c_region ?_
    refine RL ?_
    refine l_as (v := (.int .i64 (33 - y % 2))) rfl rfl rfl (congrArg _ (wrap_i64 o_m o_m)) ?_
    refine RL ?_
    refine l_l (light_struct rfl rfl rfl rfl) rfl rfl ?_
    refine l_x s_t rfl rfl ?_
    rintro _ _ ⟨rfl, rfl⟩
    refine l_nil ?_
    refine c_ret ?_
    exact l_end0 (fun w hw => rets_cell rfl rfl rfl (row_own m_m w hw)) ⟨rfl, aggE (by simp_all [putL, cO, numO, lowS] <;> simp [if_neg (show ¬ y < 4 by omega)])⟩
   ·refine c_seq ?_
    refine c_region ?_
    refine RL ?_
    refine RL ?_
    refine l_nil ?_
    refine c_cond rfl (fun h9 => ?_) (fun h9 => ?_)
    ·refine c_seq ?_
     refine c_region ?_
     refine RL ?_
     refine l_as (v := (.int .i64 (14 + y % 2))) rfl rfl rfl (congrArg _ (wrap_i64 o_m o_m)) ?_
     refine RL ?_
     refine l_l (light_struct rfl rfl rfl rfl) rfl rfl ?_
     refine l_x s_t rfl rfl ?_
     rintro _ _ ⟨rfl, rfl⟩
     refine l_nil ?_
     refine c_ret ?_
     exact l_end0 (fun w hw => rets_cell rfl rfl rfl (row_own m_m w hw)) ⟨rfl, aggE (by simp_all [putL, cO, numO, lowS] <;> simp [if_neg (show ¬ y < 4 by omega)])⟩
    ·refine c_seq ?_
     refine c_region ?_
     refine RL ?_
     refine RL ?_
     refine l_nil ?_
     refine c_cond rfl (fun h10 => ?_) (fun h10 => ?_)
     ·refine c_seq ?_
      refine c_region ?_
      refine RL ?_
      refine l_l (light_struct rfl rfl rfl rfl) rfl rfl ?_
      refine l_x s_t rfl rfl ?_
      rintro _ _ ⟨rfl, rfl⟩
      refine l_nil ?_
      refine c_ret ?_
      exact l_end0 (fun w hw => rets_cell rfl rfl rfl (row_own m_m w hw)) ⟨rfl, aggE (by simp_all [putL, cO, numO, lowS] <;> simp [if_neg (show ¬ y < 4 by omega)])⟩
     ·refine c_seq ?_
      refine c_region ?_
      refine RL ?_
      refine RL ?_
      refine l_nil ?_
      refine c_cond rfl (fun h11 => ?_) (fun h11 => ?_)
      ·refine c_seq ?_
       refine c_region ?_
       refine RL ?_
       refine l_l (light_struct rfl rfl rfl rfl) rfl rfl ?_
       refine l_x s_t rfl rfl ?_
       rintro _ _ ⟨rfl, rfl⟩
       refine l_nil ?_
       refine c_ret ?_
       exact l_end0 (fun w hw => rets_cell rfl rfl rfl (row_own m_m w hw)) ⟨rfl, aggE (by simp_all [putL, cO, numO, lowS] <;> simp [if_neg (show ¬ y < 4 by omega)])⟩
      ·refine c_seq ?_
       refine c_region ?_
       refine RL ?_
       refine RL ?_
       refine l_nil ?_
       refine c_cond rfl (fun h12 => ?_) (fun h12 => ?_)
       ·refine c_seq ?_
        refine c_region ?_
        refine RL ?_
        refine RL ?_
        refine l_as (v := (.int .u16 (b))) rfl rfl rfl (congrArg _ (wrap_u16_id o_m o_m)) ?_
        refine l_l (light_struct rfl rfl rfl rfl) rfl rfl ?_
        refine l_x s_t rfl rfl ?_
        rintro _ _ ⟨rfl, rfl⟩
        refine l_nil ?_
        refine c_ret ?_
        exact l_end0 (fun w hw => rets_cell rfl rfl rfl (row_own m_m w hw)) ⟨rfl, aggE (by simp_all [putL, cO, numO, lowS] <;> simp [if_neg (show ¬ y < 4 by omega)])⟩
       ·refine c_skip ?_
        refine c_seq ?_
        refine c_seq ?_
        refine c_region ?_
        refine RL ?_
        refine RL ?_
        refine l_nil ?_
        refine c_cond rfl (fun h13 => ?_) (fun h13 => ?_)
        ·refine c_seq ?_
         refine c_region ?_
         refine RL ?_
         refine l_l (light_struct rfl rfl rfl rfl) rfl rfl ?_
         refine l_x s_t rfl rfl ?_
         rintro _ _ ⟨rfl, rfl⟩
         refine l_nil ?_
         refine c_ret ?_
         exact l_end0 (fun w hw => rets_cell rfl rfl rfl (row_own m_m w hw)) ⟨rfl, aggE (by simp_all [putL, cO, numO, lowS] <;> simp [if_neg (show ¬ y < 4 by omega)])⟩
        ·refine c_skip ?_
         refine c_seq ?_
         refine c_region ?_
         refine RL ?_
         refine l_as (v := (.int .i64 (15 + y))) rfl rfl rfl (congrArg _ (wrap_i64 o_m o_m)) ?_
         refine l_l (light_struct rfl rfl rfl rfl) rfl rfl ?_
         refine l_x s_t rfl rfl ?_
         rintro _ _ ⟨rfl, rfl⟩
         refine l_nil ?_
         refine c_ret ?_
         exact l_end0 (fun w hw => rets_cell rfl rfl rfl (row_own m_m w hw)) ⟨rfl, aggE (by simp_all [putL, cO, numO, lowS] <;> simp [if_neg (show ¬ y < 4 by omega)])⟩

set_option maxHeartbeats 2000000 in
theorem rhigh_fn (y z b c : Int) (hy : 0 ≤ y ∧ y < 8) (hz : 0 ≤ z ∧ z < 8) (hb : 0 ≤ b ∧ b < 256) (w : World) :
  Does Tryz.prog 33 [.int .i64 y, .int .i64 z, .int .u8 b, .int .u16 c] w [] (fun v H => H = [] ∧ v = .agg (cO (highR y z b c)).toArray) := by
 refine does_of Tryz.func33 rfl rfl rfl (St.refl w) ?_
 refine c_seq ?_
 refine c_region ?_
 refine l_x (x_alloc rfl) rfl rfl ?_
 rintro _ _ ⟨b8, rfl, rfl⟩
 refine l_nil ?_
 refine c_seq ?_
 refine c_region ?_
 refine RL ?_
 refine l_as (v := (.int .i64 (y / 2))) (quo_pos rfl rfl (by decide)) rfl rfl (congrArg _ (by rw [Int.tdiv_eq_ediv_of_nonneg o_m, wrap_i64 o_m o_m])) ?_
 refine RL ?_
 refine l_as (v := (.int .i64 (y % 2))) (rem_pos rfl rfl (by decide)) rfl rfl (congrArg _ (Int.tmod_eq_emod_of_nonneg o_m)) ?_
 refine RL ?_
 refine RL ?_
 refine l_nil ?_
 refine c_seq ?_
 refine c_region ?_
 refine RL ?_
 refine l_as (v := (.int .u16 (b))) rfl rfl rfl (congrArg _ (wrap_u16_id o_m o_m)) ?_
 refine RL ?_
 refine l_nil ?_
 refine c_seq ?_
 refine c_seq ?_
 refine c_region ?_
 refine RL ?_
 refine l_nil ?_
 refine c_block ?_
 refine c_seq ?_
 refine c_region ?_
 refine RL ?_
 refine RL ?_
 refine l_nil ?_
 refine c_cond rfl (fun h1 => ?_) (fun h1 => ?_)
 ·refine c_seq ?_
  refine c_seq ?_
  refine c_region ?_
  refine RL ?_
  refine l_nil ?_
  refine c_block ?_
  refine c_seq ?_
  refine c_region ?_
  refine RL ?_
  refine RL ?_
  refine l_nil ?_
  refine c_cond rfl (fun h2 => ?_) (fun h2 => ?_)
  ·refine c_seq ?_
   refine c_region ?_
   refine RL ?_
   refine l_l (light_struct rfl rfl rfl rfl) rfl rfl ?_
   refine l_x s_t rfl rfl ?_
   rintro _ _ ⟨rfl, rfl⟩
   refine l_nil ?_
   refine c_ret ?_
   exact l_end0 (fun w hw => rets_cell rfl rfl rfl (row_own m_m w hw)) ⟨rfl, aggE (by simp_all [putL, cO, numO, highS, highR] <;> simp [if_neg (show ¬ y < 4 by omega)])⟩
  ·refine c_seq ?_
   refine c_region ?_
   refine RL ?_
   refine RL ?_
   refine l_nil ?_
   refine c_cond rfl (fun h3 => ?_) (fun h3 => ?_)
   ·refine c_seq ?_
    refine c_region ?_
    refine RL ?_
    refine l_l (light_struct rfl rfl rfl rfl) rfl rfl ?_
    refine l_x s_t rfl rfl ?_
    rintro _ _ ⟨rfl, rfl⟩
    refine l_nil ?_
    refine c_ret ?_
    exact l_end0 (fun w hw => rets_cell rfl rfl rfl (row_own m_m w hw)) ⟨rfl, aggE (by simp_all [putL, cO, numO, highS, highR] <;> simp [if_neg (show ¬ y < 4 by omega)])⟩
   ·refine c_seq ?_
    refine c_region ?_
    refine RL ?_
    refine RL ?_
    refine l_nil ?_
    refine c_cond rfl (fun h4 => ?_) (fun h4 => ?_)
    ·refine c_seq ?_
     refine c_region ?_
     refine RL ?_
     refine l_l (light_struct rfl rfl rfl rfl) rfl rfl ?_
     refine l_x s_t rfl rfl ?_
     rintro _ _ ⟨rfl, rfl⟩
     refine l_nil ?_
     refine c_ret ?_
     exact l_end0 (fun w hw => rets_cell rfl rfl rfl (row_own m_m w hw)) ⟨rfl, aggE (by simp_all [putL, cO, numO, highS, highR] <;> simp [if_neg (show ¬ y < 4 by omega)])⟩
    ·refine c_seq ?_
     refine c_region ?_
     refine RL ?_
     refine RL ?_
     refine l_nil ?_
     refine c_cond rfl (fun h5 => ?_) (fun h5 => ?_)
     ·refine c_seq ?_
      refine c_region ?_
      refine RL ?_
      refine l_l (light_struct rfl rfl rfl rfl) rfl rfl ?_
      refine l_x s_t rfl rfl ?_
      rintro _ _ ⟨rfl, rfl⟩
      refine l_nil ?_
      refine c_ret ?_
      exact l_end0 (fun w hw => rets_cell rfl rfl rfl (row_own m_m w hw)) ⟨rfl, aggE (by simp_all [putL, cO, numO, highS, highR] <;> simp [if_neg (show ¬ y < 4 by omega)])⟩
     ·refine c_skip ?_
      refine c_seq ?_
      refine c_region ?_
      refine RL ?_
      refine l_l (light_struct rfl rfl rfl rfl) rfl rfl ?_
      refine l_x s_t rfl rfl ?_
      rintro _ _ ⟨rfl, rfl⟩
      refine l_nil ?_
      refine c_ret ?_
      exact l_end0 (fun w hw => rets_cell rfl rfl rfl (row_own m_m w hw)) ⟨rfl, aggE (by simp_all [putL, cO, numO, highS, highR] <;> simp [if_neg (show ¬ y < 4 by omega)])⟩
 ·refine c_seq ?_
  refine c_region ?_
  refine RL ?_
  refine RL ?_
  refine l_nil ?_
  refine c_cond rfl (fun h6 => ?_) (fun h6 => ?_)
  ·refine c_seq ?_
   refine c_seq ?_
   refine c_region ?_
   refine RL ?_
   refine RL ?_
   refine l_nil ?_
   refine c_cond rfl (fun h7 => ?_) (fun h7 => ?_)
   ·refine c_seq ?_
    refine c_region ?_
    refine RL ?_
    refine RLv call_72 (fun w hw => qpairO_fn _ w) ?_
    refine l_l (light_struct rfl rfl rfl rfl) rfl rfl ?_
    refine l_x s_t rfl rfl ?_
    rintro _ _ ⟨rfl, rfl⟩
    refine l_nil ?_
    refine c_ret ?_
    exact l_end0 (fun w hw => rets_cell rfl rfl rfl (row_own m_m w hw)) ⟨rfl, aggE (by simp_all [putL, cO, numO, highS, highR] <;> simp [if_neg (show ¬ y < 4 by omega)])⟩
   ·refine c_skip ?_
    refine c_seq ?_
    refine c_seq ?_
    refine c_region ?_
    refine RL ?_
    refine l_nil ?_
    refine c_block ?_
    refine c_seq ?_
    refine c_region ?_
    refine RL ?_
    refine RL ?_
    refine l_nil ?_
    refine c_cond rfl (fun h8 => ?_) (fun h8 => ?_)
    ·refine c_seq ?_
     refine c_region ?_
     refine l_l (light_struct rfl rfl rfl rfl) rfl rfl ?_
     refine l_x s_t rfl rfl ?_
     rintro _ _ ⟨rfl, rfl⟩
     refine l_nil ?_
     refine c_ret ?_
     exact l_end0 (fun w hw => rets_cell rfl rfl rfl (row_own m_m w hw)) ⟨rfl, aggE (by simp_all [putL, cO, numO, highS, highR] <;> simp [if_neg (show ¬ y < 4 by omega)])⟩
    ·refine c_seq ?_
     refine c_region ?_
     refine RL ?_
     refine RL ?_
     refine l_nil ?_
     refine c_cond rfl (fun h9 => ?_) (fun h9 => ?_)
     ·refine c_seq ?_
      refine c_region ?_
      refine l_l (light_struct rfl rfl rfl rfl) rfl rfl ?_
      refine l_x s_t rfl rfl ?_
      rintro _ _ ⟨rfl, rfl⟩
      refine l_nil ?_
      refine c_ret ?_
      exact l_end0 (fun w hw => rets_cell rfl rfl rfl (row_own m_m w hw)) ⟨rfl, aggE (by simp_all [putL, cO, numO, highS, highR] <;> simp [if_neg (show ¬ y < 4 by omega)])⟩
     ·refine c_seq ?_
      refine c_region ?_
      refine RL ?_
      refine RL ?_
      refine l_nil ?_
      refine c_cond rfl (fun h10 => ?_) (fun h10 => ?_)
      ·refine c_seq ?_
       refine c_region ?_
       refine l_l (light_struct rfl rfl rfl rfl) rfl rfl ?_
       refine l_x s_t rfl rfl ?_
       rintro _ _ ⟨rfl, rfl⟩
       refine l_nil ?_
       refine c_ret ?_
       exact l_end0 (fun w hw => rets_cell rfl rfl rfl (row_own m_m w hw)) ⟨rfl, aggE (by simp_all [putL, cO, numO, highS, highR] <;> simp [if_neg (show ¬ y < 4 by omega)])⟩
      ·refine c_skip ?_
       refine c_seq ?_
       refine c_region ?_
       refine l_l (light_struct rfl rfl rfl rfl) rfl rfl ?_
       refine l_x s_t rfl rfl ?_
       rintro _ _ ⟨rfl, rfl⟩
       refine l_nil ?_
       refine c_ret ?_
       exact l_end0 (fun w hw => rets_cell rfl rfl rfl (row_own m_m w hw)) ⟨rfl, aggE (by simp_all [putL, cO, numO, highS, highR] <;> simp [if_neg (show ¬ y < 4 by omega)])⟩
  ·refine c_seq ?_
   refine c_region ?_
   refine RL ?_
   refine RL ?_
   refine l_nil ?_
   refine c_cond rfl (fun h11 => ?_) (fun h11 => ?_)
   ·refine c_seq ?_
    refine c_seq ?_
    refine c_region ?_
    refine RL ?_
    refine l_nil ?_
    refine c_block ?_
    refine c_seq ?_
    refine c_region ?_
    refine RL ?_
    refine RL ?_
    refine l_nil ?_
    refine c_cond rfl (fun h12 => ?_) (fun h12 => ?_)
    ·refine c_seq ?_
     refine c_region ?_
     refine l_l (light_struct rfl rfl rfl rfl) rfl rfl ?_
     refine l_x s_t rfl rfl ?_
     rintro _ _ ⟨rfl, rfl⟩
     refine l_nil ?_
     refine c_ret ?_
     exact l_end0 (fun w hw => rets_cell rfl rfl rfl (row_own m_m w hw)) ⟨rfl, aggE (by simp_all [putL, cO, numO, highS, highR] <;> simp [if_neg (show ¬ y < 4 by omega)])⟩
    ·refine c_seq ?_
     refine c_region ?_
     refine RL ?_
     refine RL ?_
     refine l_nil ?_
     refine c_cond rfl (fun h13 => ?_) (fun h13 => ?_)
     ·refine c_seq ?_
      refine c_region ?_
      refine RL ?_
      refine l_l (light_struct rfl rfl rfl rfl) rfl rfl ?_
      refine l_x s_t rfl rfl ?_
      rintro _ _ ⟨rfl, rfl⟩
      refine l_nil ?_
      refine c_ret ?_
      exact l_end0 (fun w hw => rets_cell rfl rfl rfl (row_own m_m w hw)) ⟨rfl, aggE (by simp_all [putL, cO, numO, highS, highR] <;> simp [if_neg (show ¬ y < 4 by omega)])⟩
     ·refine c_seq ?_
      refine c_region ?_
      refine RL ?_
      refine RL ?_
      refine l_nil ?_
      refine c_cond rfl (fun h14 => ?_) (fun h14 => ?_)
      ·refine c_seq ?_
       refine c_region ?_
       refine l_l (light_struct rfl rfl rfl rfl) rfl rfl ?_
       refine l_x s_t rfl rfl ?_
       rintro _ _ ⟨rfl, rfl⟩
       refine l_nil ?_
       refine c_ret ?_
       exact l_end0 (fun w hw => rets_cell rfl rfl rfl (row_own m_m w hw)) ⟨rfl, aggE (by simp_all [putL, cO, numO, highS, highR] <;> simp [if_neg (show ¬ y < 4 by omega)])⟩
      ·refine c_seq ?_
       refine c_region ?_
       refine RL ?_
       refine RL ?_
       refine l_nil ?_
       refine c_cond rfl (fun h15 => ?_) (fun h15 => ?_)
       ·refine c_seq ?_
        refine c_region ?_
        refine RL ?_
        refine l_l (light_struct rfl rfl rfl rfl) rfl rfl ?_
        refine l_x s_t rfl rfl ?_
        rintro _ _ ⟨rfl, rfl⟩
        refine l_nil ?_
        refine c_ret ?_
        exact l_end0 (fun w hw => rets_cell rfl rfl rfl (row_own m_m w hw)) ⟨rfl, aggE (by simp_all [putL, cO, numO, highS, highR] <;> simp [if_neg (show ¬ y < 4 by omega)])⟩
       ·refine c_skip ?_
        refine c_seq ?_
        refine c_region ?_
        refine RL ?_
        refine RL ?_
        refine l_l (light_struct rfl rfl rfl rfl) rfl rfl ?_
        refine l_x s_t rfl rfl ?_
        rintro _ _ ⟨rfl, rfl⟩
        refine l_nil ?_
        refine c_ret ?_
        exact l_end0 (fun w hw => rets_cell rfl rfl rfl (row_own m_m w hw)) ⟨rfl, aggE (by simp_all [putL, cO, numO, highS, highR] <;> simp [if_neg (show ¬ y < 4 by omega)])⟩
   ·refine c_seq ?_
    refine c_region ?_
    refine RL ?_
    refine RL ?_
    refine l_nil ?_
    refine c_cond rfl (fun h16 => ?_) (fun h16 => ?_)
    ·refine c_seq ?_
     refine c_region ?_
     refine RL ?_
     refine l_nil ?_
     refine c_block ?_
     refine c_seq ?_
     refine c_region ?_
     refine RL ?_
     refine RL ?_
     refine l_nil ?_
     refine c_cond rfl (fun h17 => ?_) (fun h17 => ?_)
     ·refine c_seq ?_
      refine c_region ?_
      refine RL ?_
      refine l_l (light_struct rfl rfl rfl rfl) rfl rfl ?_
      refine l_x s_t rfl rfl ?_
      rintro _ _ ⟨rfl, rfl⟩
      refine l_nil ?_
      refine c_ret ?_
      exact l_end0 (fun w hw => rets_cell rfl rfl rfl (row_own m_m w hw)) ⟨rfl, aggE (by simp_all [putL, cO, numO, highS, highR] <;> simp [if_neg (show ¬ y < 4 by omega)])⟩
     ·refine c_seq ?_
      refine c_region ?_
      refine RL ?_
      refine RL ?_
      refine l_nil ?_
      refine c_cond rfl (fun h18 => ?_) (fun h18 => ?_)
      ·refine c_seq ?_
       refine c_region ?_
       refine RL ?_
       refine l_as (v := (.int .i64 (b))) rfl rfl rfl (congrArg _ (wrap_i64 o_m o_m)) ?_
       refine RLv call_73 (fun w hw => rbehind_fn b hb.1 hb.2 w) ?_
       refine l_x s_t rfl rfl ?_
       rintro _ _ ⟨rfl, rfl⟩
       refine l_nil ?_
       refine c_ret ?_
       exact l_end0 (fun w hw => rets_cell rfl rfl rfl (row_own m_m w hw)) ⟨rfl, aggE (by simp_all [putL, cO, numO, highS, highR] <;> simp [if_neg (show ¬ y < 4 by omega)])⟩
      ·refine c_seq ?_
       refine c_region ?_
       refine RL ?_
       refine RL ?_
       refine l_nil ?_
       refine c_cond rfl (fun h19 => ?_) (fun h19 => ?_)
       ·refine c_seq ?_
        refine c_region ?_
        refine l_l (light_struct rfl rfl rfl rfl) rfl rfl ?_
        refine l_x s_t rfl rfl ?_
        rintro _ _ ⟨rfl, rfl⟩
        refine l_nil ?_
        refine c_ret ?_
        exact l_end0 (fun w hw => rets_cell rfl rfl rfl (row_own m_m w hw)) ⟨rfl, aggE (by simp_all [putL, cO, numO, highS, highR] <;> simp [if_neg (show ¬ y < 4 by omega)])⟩
       ·refine c_seq ?_
        refine c_region ?_
        refine RL ?_
        refine RL ?_
        refine l_nil ?_
        refine c_cond rfl (fun h20 => ?_) (fun h20 => ?_)
        ·refine c_seq ?_
         refine c_region ?_
         refine l_l (light_struct rfl rfl rfl rfl) rfl rfl ?_
         refine l_x s_t rfl rfl ?_
         rintro _ _ ⟨rfl, rfl⟩
         refine l_nil ?_
         refine c_ret ?_
         exact l_end0 (fun w hw => rets_cell rfl rfl rfl (row_own m_m w hw)) ⟨rfl, aggE (by simp_all [putL, cO, numO, highS, highR] <;> simp [if_neg (show ¬ y < 4 by omega)])⟩
        ·refine c_skip ?_
         refine c_seq ?_
         refine c_region ?_
         refine l_l (light_struct rfl rfl rfl rfl) rfl rfl ?_
         refine l_x s_t rfl rfl ?_
         rintro _ _ ⟨rfl, rfl⟩
         refine l_nil ?_
         refine c_ret ?_
         exact l_end0 (fun w hw => rets_cell rfl rfl rfl (row_own m_m w hw)) ⟨rfl, aggE (by simp_all [putL, cO, numO, highS, highR] <;> simp [if_neg (show ¬ y < 4 by omega)])⟩
    ·refine c_seq ?_
     refine c_region ?_
     refine RL ?_
     refine RL ?_
     refine l_nil ?_
     refine c_cond rfl (fun h21 => ?_) (fun h21 => ?_)
     ·refine c_seq ?_
      refine c_region ?_
      refine RL ?_
      refine RL ?_
      refine l_nil ?_
      refine c_cond rfl (fun h22 => ?_) (fun h22 => ?_)
      ·refine c_seq ?_
       refine c_region ?_
       refine RL ?_
       refine RL ?_
       refine l_l (light_struct rfl rfl rfl rfl) rfl rfl ?_
       refine l_x s_t rfl rfl ?_
       rintro _ _ ⟨rfl, rfl⟩
       refine l_nil ?_
       refine c_ret ?_
       exact l_end0 (fun w hw => rets_cell rfl rfl rfl (row_own m_m w hw)) ⟨rfl, aggE (by simp_all [putL, cO, numO, highS, highR] <;> simp [if_neg (show ¬ y < 4 by omega)])⟩
      ·refine c_skip ?_
       refine c_seq ?_
       refine c_region ?_
       refine l_l (light_struct rfl rfl rfl rfl) rfl rfl ?_
       refine l_x s_t rfl rfl ?_
       rintro _ _ ⟨rfl, rfl⟩
       refine l_nil ?_
       refine c_ret ?_
       exact l_end0 (fun w hw => rets_cell rfl rfl rfl (row_own m_m w hw)) ⟨rfl, aggE (by simp_all [putL, cO, numO, highS, highR] <;> simp [if_neg (show ¬ y < 4 by omega)])⟩
     ·refine c_seq ?_
      refine c_region ?_
      refine RL ?_
      refine RL ?_
      refine l_nil ?_
      refine c_cond rfl (fun h23 => ?_) (fun h23 => ?_)
      ·refine c_seq ?_
       refine c_seq ?_
       refine c_region ?_
       refine RL ?_
       refine RL ?_
       refine l_nil ?_
       refine c_cond rfl (fun h24 => ?_) (fun h24 => ?_)
       ·refine c_seq ?_
        refine c_region ?_
        refine RL ?_
        refine RLv call_72 (fun w hw => qpairO_fn _ w) ?_
        refine l_l (light_struct rfl rfl rfl rfl) rfl rfl ?_
        refine l_x s_t rfl rfl ?_
        rintro _ _ ⟨rfl, rfl⟩
        refine l_nil ?_
        refine c_ret ?_
        exact l_end0 (fun w hw => rets_cell rfl rfl rfl (row_own m_m w hw)) ⟨rfl, aggE (by simp_all [putL, cO, numO, highS, highR] <;> simp [if_neg (show ¬ y < 4 by omega)])⟩
       ·refine c_skip ?_
        refine c_seq ?_
        refine c_region ?_
        refine RL ?_
        refine RL ?_
        refine l_nil ?_
        refine c_cond rfl (fun h25 => ?_) (fun h25 => ?_)
        ·refine c_seq ?_
         refine c_region ?_
         refine RL ?_
         refine l_l (light_struct rfl rfl rfl rfl) rfl rfl ?_
         refine l_x s_t rfl rfl ?_
         rintro _ _ ⟨rfl, rfl⟩
         refine l_nil ?_
         refine c_ret ?_
         exact l_end0 (fun w hw => rets_cell rfl rfl rfl (row_own m_m w hw)) ⟨rfl, aggE (by simp_all [putL, cO, numO, highS, highR] <;> simp [if_neg (show ¬ y < 4 by omega)])⟩
        ·refine c_skip ?_
         refine c_seq ?_
         refine c_region ?_
         refine l_l (light_struct rfl rfl rfl rfl) rfl rfl ?_
         refine l_x s_t rfl rfl ?_
         rintro _ _ ⟨rfl, rfl⟩
         refine l_nil ?_
         refine c_ret ?_
         exact l_end0 (fun w hw => rets_cell rfl rfl rfl (row_own m_m w hw)) ⟨rfl, aggE (by simp_all [putL, cO, numO, highS, highR] <;> simp [if_neg (show ¬ y < 4 by omega)])⟩
      ·refine c_seq ?_
       refine c_region ?_
       refine RL ?_
       refine RL ?_
       refine l_nil ?_
       refine c_cond rfl (fun h26 => ?_) (fun h26 => ?_)
       ·refine c_seq ?_
        refine c_region ?_
        refine RL ?_
        refine RL ?_
        refine l_l (light_struct rfl rfl rfl rfl) rfl rfl ?_
        refine l_x s_t rfl rfl ?_
        rintro _ _ ⟨rfl, rfl⟩
        refine l_nil ?_
        refine c_ret ?_
        exact l_end0 (fun w hw => rets_cell rfl rfl rfl (row_own m_m w hw)) ⟨rfl, aggE (by simp_all [putL, cO, numO, highS, highR] <;> simp [if_neg (show ¬ y < 4 by omega)])⟩
       ·refine c_seq ?_
        refine c_region ?_
        refine RL ?_
        refine RL ?_
        refine l_nil ?_
        refine c_cond rfl (fun h27 => ?_) (fun h27 => ?_)
        ·refine c_seq ?_
         refine c_region ?_
         refine RL ?_
         refine l_as (v := (.int .i64 (8 * y))) rfl rfl rfl (congrArg _ (wrap_i64 o_m o_m)) ?_
         refine l_as (v := (.int .u16 (8 * y))) rfl rfl rfl (congrArg _ (wrap_u16_id o_m o_m)) ?_
         refine l_l (light_struct rfl rfl rfl rfl) rfl rfl ?_
         refine l_x s_t rfl rfl ?_
         rintro _ _ ⟨rfl, rfl⟩
         refine l_nil ?_
         refine c_ret ?_
         exact l_end0 (fun w hw => rets_cell rfl rfl rfl (row_own m_m w hw)) ⟨rfl, aggE (by simp_all [putL, cO, numO, highS, highR] <;> simp [if_neg (show ¬ y < 4 by omega)])⟩
        ·refine c_skip ?_
         refine c_seq ?_
         refine c_region ?_
         refine l_l (light_struct rfl rfl rfl rfl) rfl rfl ?_
         refine l_x s_t rfl rfl ?_
         rintro _ _ ⟨rfl, rfl⟩
         refine l_nil ?_
         refine c_ret ?_
         exact l_end0 (fun w hw => rets_cell rfl rfl rfl (row_own m_m w hw)) ⟨rfl, aggE (by simp_all [putL, cO, numO, highS, highR] <;> simp [if_neg (show ¬ y < 4 by omega)])⟩

theorem rdecode_fn (a b c : Int) (ha : 0 ≤ a ∧ a < 256) (hb : 0 ≤ b ∧ b < 256) (hc : 0 ≤ c ∧ c < 256) (w : World) :
  Does Tryz.prog 23 [.int .u8 a, .int .u8 b, .int .u8 c] w [] (fun v H => H = [] ∧ v = .agg (cO (dcd a b c)).toArray) := by
 rw [← ref_eq ha.1 ha.2]
 refine does_of Tryz.func23 rfl rfl rfl (St.refl w) ?_
 refine c_seq ?_
 refine c_region ?_
 refine l_x (x_alloc rfl) rfl rfl ?_
 rintro _ _ ⟨b6, rfl, rfl⟩
 refine l_nil ?_
 refine c_seq ?_
 refine c_region ?_
 refine RL ?_
 refine l_as (v := (.int .i64 (a))) rfl rfl rfl (congrArg _ (wrap_i64 o_m o_m)) ?_
 refine l_as (v := (.int .i64 (a / 64))) (quo_pos rfl rfl (by decide)) rfl rfl (congrArg _ (by rw [Int.tdiv_eq_ediv_of_nonneg o_m, wrap_i64 o_m o_m])) ?_
 refine RL ?_
 refine l_as (v := (.int .i64 (a))) rfl rfl rfl (congrArg _ (wrap_i64 o_m o_m)) ?_
 refine l_as (v := (.int .i64 (a / 8))) (quo_pos rfl rfl (by decide)) rfl rfl (congrArg _ (by rw [Int.tdiv_eq_ediv_of_nonneg o_m, wrap_i64 o_m o_m])) ?_
 refine l_as (v := (.int .i64 (a / 8 % 8))) (rem_pos rfl rfl (by decide)) rfl rfl (congrArg _ (Int.tmod_eq_emod_of_nonneg o_m)) ?_
 refine RL ?_
 refine l_as (v := (.int .i64 (a))) rfl rfl rfl (congrArg _ (wrap_i64 o_m o_m)) ?_
 refine l_as (v := (.int .i64 (a % 8))) (rem_pos rfl rfl (by decide)) rfl rfl (congrArg _ (Int.tmod_eq_emod_of_nonneg o_m)) ?_
 iterate 3 refine RL ?_
 refine l_nil ?_
 refine c_seq ?_
 refine c_region ?_
 refine RL ?_
 refine l_as (v := (.int .i64 (c))) rfl rfl rfl (congrArg _ (wrap_i64 o_m o_m)) ?_
 refine l_as (v := (.int .i64 (256 * c))) rfl rfl rfl (congrArg _ (by rw [wrap_i64 o_m o_m]; omega)) ?_
 refine RL ?_
 refine l_as (v := (.int .i64 (b))) rfl rfl rfl (congrArg _ (wrap_i64 o_m o_m)) ?_
 refine l_as (v := (.int .i64 (b + 256 * c))) rfl rfl rfl (congrArg _ (by rw [wrap_i64 o_m o_m]; omega)) ?_
 refine l_as (v := (.int .u16 (b + 256 * c))) rfl rfl rfl (congrArg _ (wrap_u16_id o_m o_m)) ?_
 refine RL ?_
 refine l_nil ?_
 refine c_seq ?_
 refine c_seq ?_
 refine c_region ?_
 refine RL ?_
 refine l_nil ?_
 refine c_block ?_
 refine c_seq ?_
 refine c_region ?_
 refine RL ?_
 refine RL ?_
 refine l_nil ?_
 refine c_cond rfl (fun h1 => ?_) (fun h1 => ?_)
 ·refine c_seq ?_
  refine c_region ?_
  iterate 4 refine RL ?_
  refine l_x (x_val call_32 rfl (fun w hw => rlow_fn _ _ b _ o_m o_m hb w)) rfl rfl ?_
  rintro _ _ ⟨rfl, rfl⟩
  refine l_x s_t rfl rfl ?_
  rintro _ _ ⟨rfl, rfl⟩
  refine l_nil ?_
  refine c_ret ?_
  exact l_end0 (fun w hw => rets_cell rfl rfl rfl (row_own m_m w hw)) ⟨rfl, aggE (by simp_all [putL, cO, refO])⟩
 ·refine c_seq ?_
  refine c_region ?_
  refine RL ?_
  refine RL ?_
  refine l_nil ?_
  refine c_cond rfl (fun h2 => ?_) (fun h2 => ?_)
  ·refine c_seq ?_
   refine c_seq ?_
   refine c_region ?_
   refine RL ?_
   refine RL ?_
   refine RLb (fun h3 => ?_) (fun h3 => ?_)
   ·iterate 3 refine RL ?_
    refine l_nil ?_
    refine c_cond rfl (fun h4 => ?_) (fun h4 => ?_)
    ·refine c_seq ?_
     refine c_region ?_
     refine l_l (light_struct rfl rfl rfl rfl) rfl rfl ?_
     refine l_x s_t rfl rfl ?_
     rintro _ _ ⟨rfl, rfl⟩
     refine l_nil ?_
     refine c_ret ?_
     exact l_end0 (fun w hw => rets_cell rfl rfl rfl (row_own m_m w hw)) ⟨rfl, aggE (by simp_all [putL, cO, refO])⟩
    ·refine c_skip ?_
     refine c_seq ?_
     refine c_region ?_
     refine RL ?_
     refine RL ?_
     refine l_l (light_struct rfl rfl rfl rfl) rfl rfl ?_
     refine l_x s_t rfl rfl ?_
     rintro _ _ ⟨rfl, rfl⟩
     refine l_nil ?_
     refine c_ret ?_
     exact l_end0 (fun w hw => rets_cell rfl rfl rfl (row_own m_m w hw)) ⟨rfl, aggE (by simp_all [putL, cO, refO])⟩
   ·refine RLp ?_
    refine RLp ?_
    refine RL ?_
    refine l_nil ?_
    refine c_false rfl ?_
    refine c_skip ?_
    refine c_seq ?_
    refine c_region ?_
    refine RL ?_
    refine RL ?_
    refine l_l (light_struct rfl rfl rfl rfl) rfl rfl ?_
    refine l_x s_t rfl rfl ?_
    rintro _ _ ⟨rfl, rfl⟩
    refine l_nil ?_
    refine c_ret ?_
    exact l_end0 (fun w hw => rets_cell rfl rfl rfl (row_own m_m w hw)) ⟨rfl, aggE (by simp_all [putL, cO, refO])⟩
  ·refine c_seq ?_
   refine c_region ?_
   refine RL ?_
   refine RL ?_
   refine l_nil ?_
   refine c_cond rfl (fun h5 => ?_) (fun h5 => ?_)
   ·refine c_seq ?_
    refine c_region ?_
    refine RL ?_
    refine RL ?_
    refine l_l (light_struct rfl rfl rfl rfl) rfl rfl ?_
    refine l_x s_t rfl rfl ?_
    rintro _ _ ⟨rfl, rfl⟩
    refine l_nil ?_
    refine c_ret ?_
    exact l_end0 (fun w hw => rets_cell rfl rfl rfl (row_own m_m w hw)) ⟨rfl, aggE (by simp_all [putL, cO, refO])⟩
   ·refine c_skip ?_
    refine c_seq ?_
    refine c_region ?_
    iterate 4 refine RL ?_
    refine l_x (x_val call_33 rfl (fun w hw => rhigh_fn _ _ b _ o_m o_m hb w)) rfl rfl ?_
    rintro _ _ ⟨rfl, rfl⟩
    refine l_x s_t rfl rfl ?_
    rintro _ _ ⟨rfl, rfl⟩
    refine l_nil ?_
    refine c_ret ?_
    exact l_end0 (fun w hw => rets_cell rfl rfl rfl (row_own m_m w hw)) ⟨rfl, aggE (by simp_all [putL, cO, refO])⟩

end Go.Proofs.YtjjemehigdpboaaGreat
namespace Go.Proofs.YtjjemehigdpboaaGreat
open Go Go.VV Go.Proofs
set_option linter.unusedSimpArgs false
set_option linter.unusedVariables false
set_option maxRecDepth 100000
/-- A memory of the document's, as an algebra: what its calls do to what stands for it. -/
structure MemK (P : Program) (β : Type) extends BusO β where
 p : Nat
 rep : β → Heap → Prop
 dF : ∀ {n : Nat} {m : β} {H : Heap} {w : World} {a : Int}, ok (n + 1) m → rep m H → St w (H.map (·.1)) H w → 0 ≤ a ∧ a < 65536 → Does P 21 [.pointer (some ⟨p, 0, none⟩), .int .i64 3, .int .u16 a, .int .u8 0] w (H.map (·.1)) (fun u H' => u = .int .u8 (fetch a m).1 ∧ rep (fetch a m).2 H')
 dR : ∀ {n : Nat} {m : β} {H : Heap} {w : World} {a : Int}, ok (n + 1) m → rep m H → St w (H.map (·.1)) H w → 0 ≤ a ∧ a < 65536 → Does P 21 [.pointer (some ⟨p, 0, none⟩), .int .i64 1, .int .u16 a, .int .u8 0] w (H.map (·.1)) (fun u H' => u = .int .u8 (read a m).1 ∧ rep (read a m).2 H')
 dW : ∀ {n : Nat} {m : β} {H : Heap} {w : World} {a x : Int}, ok (n + 1) m → rep m H → St w (H.map (·.1)) H w → 0 ≤ a ∧ a < 65536 → 0 ≤ x ∧ x < 256 → Does P 21 [.pointer (some ⟨p, 0, none⟩), .int .i64 2, .int .u16 a, .int .u8 x] w (H.map (·.1)) (fun u H' => u = .int .u8 x ∧ rep (write a x m) H')
 dI : ∀ {n : Nat} {m : β} {H : Heap} {w : World}, ok (n + 1) m → rep m H → St w (H.map (·.1)) H w → Does P 21 [.pointer (some ⟨p, 0, none⟩), .int .i64 0, .int .u16 0, .int .u8 0] w (H.map (·.1)) (fun u H' => u = .int .u8 0 ∧ rep (idle m) H')
 dP : ∀ {n : Nat} {m : β} {H : Heap} {w : World}, ok n m → rep m H → St w (H.map (·.1)) H w → Does P 18 [.pointer (some ⟨p, 0, none⟩)] w (H.map (·.1)) (fun u H' => u = .int .u8 (pend m) ∧ H' = H)
 dA : ∀ {k : Nat} {m : β} {H : Heap} {w : World} {n : Int}, ok k m → rep m H → St w (H.map (·.1)) H w → 0 ≤ n ∧ n < 5 → Does P 20 [.pointer (some ⟨p, 0, none⟩), .int .i64 n] w (H.map (·.1)) (fun u H' => u = .tuple #[] ∧ rep (ack n m) H')
def StaH {P : Program} {β : Type} (K : MemK P β) (sb : Nat) (x : Rn β) (H : Heap) : Prop := ∃ G, H = (sb, blk (cS x.s) 26) :: G ∧ K.rep x.m G

theorem qwordN_fn (n : Int) (hn : -65536 ≤ n ∧ n < 1000000) (w : World) : Does Tryz.prog 22 [.int .i64 n] w [] (fun v H => H = [] ∧ v = .int .u16 (n % 65536)) := by
 refine does_of Tryz.func22 rfl rfl rfl (St.refl w) ?_
 refine c_seq ?_
 refine c_region ?_
 refine RL ?_
 refine l_nil ?_
 refine c_seq ?_
 refine c_region ?_
 refine RL ?_
 refine l_as (v := (.int .i64 (n + 65536))) rfl rfl rfl (as_i64 o_m o_m) ?_
 refine l_as (v := (.int .i64 (n % 65536))) (rem_pos rfl rfl (by decide)) rfl rfl (congrArg _ ((Int.tmod_eq_emod_of_nonneg o_m).trans o_m)) ?_
 refine l_as (v := (.int .u16 (n % 65536))) rfl rfl rfl (as_u16 o_m o_m) ?_
 refine RL ?_
 refine l_nil ?_
 refine c_ret ?_
 exact l_end0 (fun _ _ => rets_v rfl) ⟨rfl, rfl⟩

theorem qidle_fn {β : Type} (K : MemK Tryz.prog β) {bn : Nat} (m : β) (h : K.ok (bn + 1) m) (G : Heap) (hG : K.rep m G) (w : World) (hst : St w (G.map (·.1)) G w) : Does Tryz.prog 17 [.pointer (some ⟨K.p, 0, none⟩)] w (G.map (·.1)) (fun v H => v = .tuple #[] ∧ K.rep (K.idle m) H) := by
 refine does_of Tryz.func17 rfl rfl rfl hst ?_
 refine c_region ?_
 refine RL ?_
 refine l_x (x_callA call_21 rfl (fun w hw => K.dI h hG (St.lentA hw))) rfl rfl ?_
 rintro _ G1 ⟨rfl, hG1⟩
 refine l_nil ?_
 exact l_end (fun _ _ => rets_none) (List.Sublist.refl _) ⟨rfl, hG1⟩

theorem qspair_fn (sb : Nat) (s : CS) (hr : s.r.Ok) (w : World) (hrow : Row w sb 0 (cS s)) (n : Int) : Does Tryz.prog 43 [.pointer (some ⟨sb, 0, none⟩), .int .i64 n] w [] (fun v H => H = [] ∧ v = .int .u16 (pairR s.r n)) := by
 refine does_of Tryz.func43 rfl rfl rfl (St.refl w) ?_
 refine c_seq ?_
 refine c_region ?_
 refine RL ?_
 refine l_nil ?_
 refine c_seq ?_
 refine c_region ?_
 refine RL ?_
 refine RL ?_
 refine RLa ?_
 refine l_x (x_loadA rfl rfl rfl (row_old (Row.left hrow) (by simp))) rfl rfl ?_
 rintro _ _ ⟨rfl, rfl⟩
 refine RL ?_
 refine l_x (x_call call_74 rfl (fun w hw => qpair_fn s.r hr n w)) rfl rfl ?_
 rintro _ _ ⟨G13, ⟨rfl, k13, rfl⟩, rfl⟩
 iterate 5 refine RL ?_
 refine l_nil ?_
 refine c_seq ?_
 refine c_region ?_
 refine RL ?_
 refine RL ?_
 refine l_nil ?_
 refine c_ret ?_
 exact l_end0 (fun _ _ => rets_v rfl) ⟨rfl, rfl⟩

theorem qsget_fn {β : Type} (K : MemK Tryz.prog β) (sb : Nat) {bn : Nat} (x : Rn β) (h : RunOk K.toBusO (bn + 1) x) (G : Heap) (hG : K.rep x.m G) (n : Int) (w : World) (hst : St w (sb :: G.map (·.1)) ((sb, blk (cS x.s) 26) :: G) w) : Does Tryz.prog 38 [.pointer (some ⟨sb, 0, none⟩), .pointer (some ⟨K.p, 0, none⟩), .int .i64 n] w (sb :: G.map (·.1)) (fun v H => v = .int .u8 (gett K.toBusA n x).1 ∧ ∃ G', H = (sb, blk (cS x.s) 26) :: G' ∧ K.rep (gett K.toBusA n x).2.m G') := by
 refine does_of Tryz.func38 rfl rfl rfl hst ?_
 refine c_seq ?_
 refine c_region ?_
 refine RL ?_
 refine l_nil ?_
 refine c_seq ?_
 refine c_seq ?_
 refine c_region ?_
 refine RL ?_
 refine RL ?_
 refine l_nil ?_
 refine c_cond rfl (fun h1 => ?_) (fun h1 => ?_)
 ·have h1n := r_f h1
  refine c_seq ?_
  obtain rfl : n = 6 := by omega
  refine c_region ?_
  refine RL ?_
  refine RL ?_
  refine RLa ?_
  refine l_x (x_loadA rfl rfl rfl (fun w hw => Row.left (row_own (l := cS x.s) m_m w hw))) rfl rfl ?_
  rintro _ _ ⟨rfl, rfl⟩
  refine l_x (x_call call_74 rfl (fun w hw => qpair_fn x.s.r h.r 2 w)) rfl rfl ?_
  rintro _ _ ⟨G18, ⟨rfl, k18, rfl⟩, rfl⟩
  iterate 5 refine RL ?_
  refine l_nil ?_
  refine c_seq ?_
  refine c_region ?_
  refine RL ?_
  refine RL ?_
  refine l_x (x_callT (F := [(sb, _)]) (A := G) call_21 rfl (fun w hw => K.dR h.m hG (St.lentV hw) (pairR_word h.r 2))) rfl rfl ?_
  rintro _ _ ⟨G1, ⟨rfl, hG1⟩, rfl⟩
  refine RL ?_
  refine l_nil ?_
  refine c_ret ?_
  exact l_end (fun _ _ => rets_v rfl) (List.Sublist.refl _) ⟨rfl, G1, rfl, hG1⟩
 ·have h1n := r_f h1
  refine c_skip ?_
  refine c_seq ?_
  refine c_region ?_
  refine RL ?_
  refine RL ?_
  refine RLa ?_
  refine l_x (x_loadA rfl rfl rfl (fun w hw => Row.left (row_own (l := cS x.s) m_m w hw))) rfl rfl ?_
  rintro _ _ ⟨rfl, rfl⟩
  refine RL ?_
  refine l_x (x_call call_76 rfl (fun w hw => qget_fn x.s.r n w)) rfl rfl ?_
  rintro _ _ ⟨G30, ⟨rfl, k30, rfl⟩, rfl⟩
  iterate 5 refine RL ?_
  refine l_nil ?_
  refine c_seq ?_
  refine c_region ?_
  refine RL ?_
  refine RL ?_
  refine l_nil ?_
  refine c_ret ?_
  have hn : gett K.toBusA n x = (getR x.s.r n, x) := if_neg o_m
  exact l_end (fun _ _ => rets_v rfl) (List.Sublist.refl _) ⟨by rw [hn], G, rfl, by rw [hn]; exact hG⟩

theorem qsset_fn {β : Type} (K : MemK Tryz.prog β) (sb : Nat) {bn : Nat} (x : Rn β) (h : RunOk K.toBusO (bn + 1) x) (G : Heap) (hG : K.rep x.m G) (n u : Int) (hu : 0 ≤ u ∧ u < 256) (w : World) (hst : St w (sb :: G.map (·.1)) ((sb, blk (cS x.s) 26) :: G) w) : Does Tryz.prog 37 [.pointer (some ⟨sb, 0, none⟩), .pointer (some ⟨K.p, 0, none⟩), .int .i64 n, .int .u8 u] w (sb :: G.map (·.1)) (fun v H => v = .tuple #[] ∧ StaH K sb (sett K.toBusA n u x) H) := by
 refine does_of Tryz.func37 rfl rfl rfl hst ?_
 refine c_seq ?_
 refine c_seq ?_
 refine c_region ?_
 refine RL ?_
 refine RL ?_
 refine l_nil ?_
 refine c_cond rfl (fun h1 => ?_) (fun h1 => ?_)
 ·have h1n := r_f h1
  refine c_seq ?_
  obtain rfl : n = 6 := by omega
  refine c_region ?_
  refine RL ?_
  refine RL ?_
  refine RLa ?_
  refine l_x (x_loadA rfl rfl rfl (fun w hw => Row.left (row_own (l := cS x.s) m_m w hw))) rfl rfl ?_
  rintro _ _ ⟨rfl, rfl⟩
  refine l_x (x_call call_74 rfl (fun w hw => qpair_fn x.s.r h.r 2 w)) rfl rfl ?_
  rintro _ _ ⟨G17, ⟨rfl, k17, rfl⟩, rfl⟩
  iterate 5 refine RL ?_
  refine l_nil ?_
  refine c_seq ?_
  refine c_region ?_
  iterate 3 refine RL ?_
  refine l_x (x_callT (F := [(sb, _)]) (A := G) call_21 rfl (fun w hw => K.dW h.m hG (St.lentV hw) (pairR_word h.r 2) hu)) rfl rfl ?_
  rintro _ _ ⟨G1, ⟨rfl, hG1⟩, rfl⟩
  refine l_nil ?_
  refine c_ret ?_
  exact l_end (fun _ _ => rets_none) (List.Sublist.refl _) ⟨rfl, G1, rfl, hG1⟩
 ·have h1n := r_f h1
  refine c_skip ?_
  refine c_region ?_
  iterate 3 refine RL ?_
  refine RLa ?_
  refine l_x (x_loadA rfl rfl rfl (fun w hw => Row.left (row_own (l := cS x.s) m_m w hw))) rfl rfl ?_
  rintro _ _ ⟨rfl, rfl⟩
  refine RL ?_
  refine RL ?_
  refine l_x (x_call call_75 rfl (fun w hw => qset_fn x.s.r n u w)) rfl rfl ?_
  rintro _ _ ⟨G32, ⟨rfl, k32, rfl⟩, rfl⟩
  iterate 4 refine RL ?_
  refine RLa ?_
  refine l_x (x_storeTo (l' := cS { x.s with r := setR x.s.r n u }) 0 rfl rfl rfl rfl rfl rfl (Nat.le_of_ble_eq_true rfl) rfl) rfl rfl ?_
  rintro _ _ ⟨rfl, rfl⟩
  refine c_u ?_
  refine l_nil ?_
  have hn : sett K.toBusA n u x = x.reg (setR x.s.r n u) := if_neg o_m
  exact l_end (fun _ _ => rets_none) (List.Sublist.refl _) ⟨rfl, by rw [hn]; exact ⟨G, rfl, hG⟩⟩

set_option maxHeartbeats 400000 in
theorem qspush_fn {β : Type} (K : MemK Tryz.prog β) (sb : Nat) {bn : Nat} (x : Rn β) (h : RunOk K.toBusO (bn + 2) x) (G : Heap) (hG : K.rep x.m G) (p : Int) (hp : 0 ≤ p ∧ p < 65536) (w : World) (hst : St w (sb :: G.map (·.1)) ((sb, blk (cS x.s) 26) :: G) w) : Does Tryz.prog 19 [.pointer (some ⟨sb, 0, none⟩), .pointer (some ⟨K.p, 0, none⟩), .int .u16 p] w (sb :: G.map (·.1)) (fun v H => v = .tuple #[] ∧ StaH K sb (push K.toBusA p x) H) := by
 have hs9 := h.r.sp
 have hd9 := dec16_ok (w := x.s.r.sp)
 have hi9 := inc16_ok (w := x.s.r.sp)
 refine does_of Tryz.func19 rfl rfl rfl hst ?_
 refine c_seq ?_
 refine c_region ?_
 iterate 3 refine RL ?_
 refine RLa ?_
 refine RLa ?_
 refine l_x (x_load rfl rfl (at_own (v := .int .u16 x.s.r.sp) m_m (by rfl))) rfl rfl ?_
 rintro _ _ ⟨rfl, rfl⟩
 refine l_as (l_conv rfl rfl rfl) rfl rfl (by first | exact as_i64 o_m o_m | rfl) ?_
 refine l_as (l_sub rfl rfl) rfl rfl (by first | exact as_i64 o_m o_m | rfl) ?_
 refine RLv call_22 (fun w hw => qwordN_fn (x.s.r.sp - 1) o_m w) ?_
 refine RL ?_
 refine RLa ?_
 refine RLa ?_
 refine l_x (x_storeTo (l' := cS { x.s with r := { x.s.r with sp := (dec16 x.s.r.sp) } }) 0 rfl rfl rfl rfl rfl rfl (Nat.le_of_ble_eq_true rfl) rfl) rfl rfl ?_
 rintro _ _ ⟨rfl, rfl⟩
 refine c_u ?_
 refine l_nil ?_
 refine c_seq ?_
 refine c_region ?_
 iterate 3 refine RL ?_
 refine RLa ?_
 refine RLa ?_
 refine l_x (x_load rfl rfl (at_own (v := .int .u16 (dec16 x.s.r.sp)) m_m (by rfl))) rfl rfl ?_
 rintro _ _ ⟨rfl, rfl⟩
 refine RL ?_
 refine l_as (quo_pos rfl rfl (by decide)) rfl rfl (by first | exact as_quo o_m (show _ < (65536 : Int) by omega) (by decide) | rfl) ?_
 refine l_as (l_conv rfl rfl rfl) rfl rfl (by first | exact as_u8 o_m o_m | exact as_u8m _) ?_
 refine l_x (x_callT (F := [(sb, _)]) (A := G) call_21 rfl (fun w hw => K.dW (n := bn + 1) h.m hG (St.lentV hw) hd9 o_m)) rfl rfl ?_
 rintro _ _ ⟨G1, ⟨rfl, hG1⟩, rfl⟩
 refine l_nil ?_
 refine c_seq ?_
 refine c_region ?_
 iterate 3 refine RL ?_
 refine RLa ?_
 refine RLa ?_
 refine l_x (x_load rfl rfl (at_own (v := .int .u16 (dec16 x.s.r.sp)) m_m (by rfl))) rfl rfl ?_
 rintro _ _ ⟨rfl, rfl⟩
 refine l_as (l_conv rfl rfl rfl) rfl rfl (by first | exact as_i64 o_m o_m | rfl) ?_
 refine l_as (l_sub rfl rfl) rfl rfl (by first | exact as_i64 o_m o_m | rfl) ?_
 refine RLv call_22 (fun w hw => qwordN_fn (dec16 x.s.r.sp - 1) o_m w) ?_
 refine RL ?_
 refine RLa ?_
 refine RLa ?_
 refine l_x (x_storeTo (l' := cS { x.s with r := { x.s.r with sp := (dec16 (dec16 x.s.r.sp)) } }) 0 rfl rfl rfl rfl rfl rfl (Nat.le_of_ble_eq_true rfl) rfl) rfl rfl ?_
 rintro _ _ ⟨rfl, rfl⟩
 refine c_u ?_
 refine l_nil ?_
 refine c_region ?_
 iterate 3 refine RL ?_
 refine RLa ?_
 refine RLa ?_
 refine l_x (x_load rfl rfl (at_own (v := .int .u16 (dec16 (dec16 x.s.r.sp))) m_m (by rfl))) rfl rfl ?_
 rintro _ _ ⟨rfl, rfl⟩
 refine RL ?_
 refine l_as (rem_pos rfl rfl (by decide)) rfl rfl (by first | exact as_rem o_m | rfl) ?_
 refine l_as (l_conv rfl rfl rfl) rfl rfl (by first | exact as_u8 o_m o_m | exact as_u8m _) ?_
 refine l_x (x_callT (F := [(sb, _)]) (A := G1) call_21 rfl (fun w hw => K.dW (n := bn) (K.oW (n := bn + 1) h.m hd9 o_m) hG1 (St.lentV hw) dec16_ok o_m)) rfl rfl ?_
 rintro _ _ ⟨G2, ⟨rfl, hG2⟩, rfl⟩
 refine l_nil ?_
 exact l_end (fun _ _ => rets_none) (List.Sublist.refl _) ⟨rfl, G2, rfl, hG2⟩

set_option maxHeartbeats 400000 in
theorem qspop_fn {β : Type} (K : MemK Tryz.prog β) (sb : Nat) {bn : Nat} (x : Rn β) (h : RunOk K.toBusO (bn + 2) x) (G : Heap) (hG : K.rep x.m G) (w : World) (hst : St w (sb :: G.map (·.1)) ((sb, blk (cS x.s) 26) :: G) w) : Does Tryz.prog 48 [.pointer (some ⟨sb, 0, none⟩), .pointer (some ⟨K.p, 0, none⟩)] w (sb :: G.map (·.1)) (fun v H => v = .int .u16 (pop K.toBusA x).1 ∧ StaH K sb ((pop K.toBusA x).2) H) := by
 have hs9 := h.r.sp
 have hd9 := dec16_ok (w := x.s.r.sp)
 have hi9 := inc16_ok (w := x.s.r.sp)
 have hr9 := K.oR (n := bn + 1) h.m h.r.sp
 have hq9 := K.oR (n := bn) hr9.1 hi9
 refine does_of Tryz.func48 rfl rfl rfl hst ?_
 refine c_seq ?_
 refine c_region ?_
 refine RL ?_
 refine l_nil ?_
 refine c_seq ?_
 refine c_region ?_
 iterate 3 refine RL ?_
 refine RLa ?_
 refine RLa ?_
 refine l_x (x_load rfl rfl (at_own (v := .int .u16 x.s.r.sp) m_m (by rfl))) rfl rfl ?_
 rintro _ _ ⟨rfl, rfl⟩
 refine l_x (x_callT (F := [(sb, _)]) (A := G) call_21 rfl (fun w hw => K.dR (n := bn + 1) h.m hG (St.lentV hw) hs9)) rfl rfl ?_
 rintro _ _ ⟨G1, ⟨rfl, hG1⟩, rfl⟩
 refine RL ?_
 refine l_nil ?_
 refine c_seq ?_
 refine c_region ?_
 iterate 3 refine RL ?_
 refine RLa ?_
 refine RLa ?_
 refine l_x (x_load rfl rfl (at_own (v := .int .u16 x.s.r.sp) m_m (by rfl))) rfl rfl ?_
 rintro _ _ ⟨rfl, rfl⟩
 refine l_as (l_conv rfl rfl rfl) rfl rfl (by first | exact as_i64 o_m o_m | rfl) ?_
 refine l_as (l_add rfl rfl) rfl rfl (by first | exact as_i64 o_m o_m | rfl) ?_
 refine RLv call_22 (fun w hw => qwordN_fn (x.s.r.sp + 1) o_m w) ?_
 refine RL ?_
 refine RLa ?_
 refine RLa ?_
 refine l_x (x_storeTo (l' := cS { x.s with r := { x.s.r with sp := (inc16 x.s.r.sp) } }) 0 rfl rfl rfl rfl rfl rfl (Nat.le_of_ble_eq_true rfl) rfl) rfl rfl ?_
 rintro _ _ ⟨rfl, rfl⟩
 refine c_u ?_
 refine l_nil ?_
 refine c_seq ?_
 refine c_region ?_
 iterate 3 refine RL ?_
 refine RLa ?_
 refine RLa ?_
 refine l_x (x_load rfl rfl (at_own (v := .int .u16 (inc16 x.s.r.sp)) m_m (by rfl))) rfl rfl ?_
 rintro _ _ ⟨rfl, rfl⟩
 refine l_x (x_callT (F := [(sb, _)]) (A := G1) call_21 rfl (fun w hw => K.dR (n := bn) hr9.1 hG1 (St.lentV hw) hi9)) rfl rfl ?_
 rintro _ _ ⟨G2, ⟨rfl, hG2⟩, rfl⟩
 refine RL ?_
 refine l_nil ?_
 refine c_seq ?_
 refine c_region ?_
 iterate 3 refine RL ?_
 refine RLa ?_
 refine RLa ?_
 refine l_x (x_load rfl rfl (at_own (v := .int .u16 (inc16 x.s.r.sp)) m_m (by rfl))) rfl rfl ?_
 rintro _ _ ⟨rfl, rfl⟩
 refine l_as (l_conv rfl rfl rfl) rfl rfl (by first | exact as_i64 o_m o_m | rfl) ?_
 refine l_as (l_add rfl rfl) rfl rfl (by first | exact as_i64 o_m o_m | rfl) ?_
 refine RLv call_22 (fun w hw => qwordN_fn (inc16 x.s.r.sp + 1) o_m w) ?_
 refine RL ?_
 refine RLa ?_
 refine RLa ?_
 refine l_x (x_storeTo (l' := cS { x.s with r := { x.s.r with sp := (inc16 (inc16 x.s.r.sp)) } }) 0 rfl rfl rfl rfl rfl rfl (Nat.le_of_ble_eq_true rfl) rfl) rfl rfl ?_
 rintro _ _ ⟨rfl, rfl⟩
 refine c_u ?_
 refine l_nil ?_
 refine c_seq ?_
 refine c_region ?_
 refine RL ?_
 refine RL ?_
 refine RLv call_85 (fun w hw => qword_fn (K.read (inc16 x.s.r.sp) (K.read x.s.r.sp x.m).2).1 (K.read x.s.r.sp x.m).1 hq9.2 hr9.2 w) ?_
 refine RL ?_
 refine l_nil ?_
 refine c_ret ?_
 exact l_end (fun _ _ => rets_v rfl) (List.Sublist.refl _) ⟨rfl, G2, rfl, hG2⟩

end Go.Proofs.YtjjemehigdpboaaGreat
namespace Go.Proofs.YtjjemehigdpboaaGreat
open Go Go.VV

def turnL (j a f : Int) : List Int :=
  if j = 0 then [a / 128 % 2, a % 2, a / 2 % 2, a / 4 % 2, a / 8 % 2, a / 16 % 2, a / 32 % 2, a / 64 % 2]
  else if j = 1 then [a / 2 % 2, a / 4 % 2, a / 8 % 2, a / 16 % 2, a / 32 % 2, a / 64 % 2, a / 128 % 2, a % 2]
  else if j = 2 then [b2i (cF f), a % 2, a / 2 % 2, a / 4 % 2, a / 8 % 2, a / 16 % 2, a / 32 % 2, a / 64 % 2]
  else if j = 3 then [a / 2 % 2, a / 4 % 2, a / 8 % 2, a / 16 % 2, a / 32 % 2, a / 64 % 2, a / 128 % 2, b2i (cF f)]
  else if j = 4 then [0, a % 2, a / 2 % 2, a / 4 % 2, a / 8 % 2, a / 16 % 2, a / 32 % 2, a / 64 % 2]
  else if j = 5 then [a / 2 % 2, a / 4 % 2, a / 8 % 2, a / 16 % 2, a / 32 % 2, a / 64 % 2, a / 128 % 2, a / 128 % 2]
  else if j = 6 then [a / 16 % 2, a / 32 % 2, a / 64 % 2, a / 128 % 2, a % 2, a / 2 % 2, a / 4 % 2, a / 8 % 2]
  else [a / 2 % 2, a / 4 % 2, a / 8 % 2, a / 16 % 2, a / 32 % 2, a / 64 % 2, a / 128 % 2, 0]
def turnU (j a : Int) : Int := if j = 6 then 0 else if j = 0 ∨ j = 2 ∨ j = 4 then a / 128 % 2 else a % 2
theorem turnL_len (j a f : Int) : (turnL j a f).length = 8 := by unfold turnL; (repeat' split) <;> rfl
theorem turnL_ok (j a f : Int) : bitsL (turnL j a f) := by
  have h := b2i_le (cF f)
  intro x hx
  unfold turnL at hx
  repeat' split at hx
  all_goals (simp only [List.mem_cons, List.not_mem_nil, or_false] at hx; rcases hx with rfl | rfl | rfl | rfl | rfl | rfl | rfl | rfl <;> omega)
theorem turnL_eq {a : Int} (ha : 0 ≤ a ∧ a < 256) (k f : Int) : polI (turnL (k % 8) a f) = turnR k a f := by
  have h8 : 0 ≤ k % 8 ∧ k % 8 < 8 := by omega
  unfold turnL turnR
  repeat' split
  all_goals (simp only [polI]; omega)
theorem turnU_eq {a : Int} (ha : 0 ≤ a ∧ a < 256) (k : Int) : (turnU (k % 8) a == 1) = turnO k a := by
  unfold turnU turnO
  split
  · rfl
  · split
    · rw [show a / 128 % 2 = a / 128 by omega]
    · rfl
theorem cut1_at {l c : Nat} (h : l < c) : cut1 0 l c = l := by unfold cut1; rw [if_neg (by omega)]; omega
theorem pow_up {n : Nat} (h : n < 8) : (0 : Int) < 2 ^ n ∧ (2 : Int) ^ n ≤ 128 ∧ (2 : Int) ^ (n + 1) = 2 ^ n * 2 := by
  refine ⟨Int.pow_pos (by decide), ?_, Int.pow_succ 2 n⟩
  match n, h with
  | 0, _ | 1, _ | 2, _ | 3, _ | 4, _ | 5, _ | 6, _ | 7, _ => decide
end Go.Proofs.YtjjemehigdpboaaGreat
namespace Go.Proofs.YtjjemehigdpboaaGreat
open Go Go.VV Go.Proofs
set_option linter.unusedSimpArgs false
set_option linter.unusedVariables false
set_option maxRecDepth 100000
theorem qturn_fn (k a f : Int) (ha : 0 ≤ a ∧ a < 256) (hf : 0 ≤ f ∧ f < 256) (w : World) : Does Tryz.prog 45 [.int .i64 k, .int .u8 a, .int .u8 f] w [] (fun v H => H = [] ∧ v = .tuple #[.int .u8 (turnR k a f), .int .u8 (turnF k a f)]) := by
 have hk9 := kmod_le k
 obtain ⟨j, hj⟩ : ∃ j, j = k % 8 := ⟨_, rfl⟩
 refine does_of Tryz.func45 rfl rfl rfl (St.refl w) ?_
 refine c_seq ?_
 refine c_region ?_
 refine RL ?_
 refine RL ?_
 refine l_nil ?_
 refine c_seq ?_
 refine c_region ?_
 refine RL ?_
 refine l_as (v := (.int .i64 (k.tmod 8))) (rem_pos rfl rfl (by decide)) rfl rfl rfl ?_
 refine l_as (v := (.int .i64 (k.tmod 8 + 8))) rfl rfl rfl (as_i64 o_m o_m) ?_
 refine l_as (v := (.int .i64 j)) (rem_pos rfl rfl (by decide)) rfl rfl (congrArg _ ((kmod k).trans hj.symm)) ?_
 refine RL ?_
 refine l_nil ?_
 refine c_seq ?_
 refine c_region ?_
 refine RL ?_
 refine l_nil ?_
 refine c_seq ?_
 refine c_seq ?_
 refine c_region ?_
 refine RL ?_
 refine l_nil ?_
 refine c_block ?_
 refine c_loop (σ := Nat × Value × Heap) [8, 9, 17, 18, 19, 20, 21, 22, 23, 24, 25, 26] (fun q => [(8, q.2.1), (9, .int .i64 q.1)]) (fun q => q.2.2 ++ []) (fun q => q.1 ≤ 8 ∧ Vec 3 1 q.2.1 q.1 ((bitsN a q.1).map (.int .i64)) q.2.2) (fun q => 8 - q.1) (0, .slice none 0 0, []) ?_ ?_ ?_ ?_
 ·exact ⟨Nat.zero_le _, .nil⟩
 ·exact .cons rfl (.cons rfl .nil)
 ·exact fun _ h => h
 ·rintro ⟨i, vi, Gi⟩ y4 ⟨hi, hVi⟩
  dsimp only at hi hVi ⊢
  obtain ⟨ai, ci, rfl⟩ := hVi.slice
  refine c_seq ?_
  refine c_seq ?_
  refine c_region ?_
  refine RL ?_
  refine RL ?_
  refine l_nil ?_
  refine c_cond rfl (fun h1 => ?_) (fun h1 => ?_)
  ·have h1n := r_f h1
   refine c_skip ?_
   refine c_seq ?_
   refine c_block ?_
   refine c_region ?_
   iterate 3 refine RL ?_
   refine RLv call_81 (fun w hw => qbit_fn a i ha o_m w) ?_
   refine l_x (x_slc (z := [.int .i64 0]) (l := [.int .i64 (bitI a i)]) (ps := [(0, .int .i64 (bitI a i))]) rfl rfl rfl rfl rfl rfl) rfl rfl ?_
   rintro _ _ ⟨b25, rfl, rfl⟩
   refine l_x (x_appendE (A := [(b25, _)]) (G := Gi ++ []) (v := .slice ai i ci) (n := i) (xs := (bitsN a i).map (.int .i64)) (m := 1) (T := 3) (s := 1) (by_ := 8) (ys := [.int .i64 (bitI a i)]) rfl rfl rfl rfl (by rw [List.append_nil]; exact hVi) (fun w hw => .row _ _ _ _ _ rfl (row_own (b := b25) (.head _) w hw)) rfl o_m o_m) rfl rfl ?_
   rintro v26 _ ⟨G26, hV26, _, rfl⟩
   obtain ⟨a26, c26, rfl⟩ := hV26.slice
   refine RL ?_
   refine l_nil ?_
   refine c_region ?_
   refine RL ?_
   refine l_as (v := (.int .i64 ((i + 1 : Nat) : Int))) rfl rfl rfl (congrArg _ (succ_law o_m)) ?_
   refine RL ?_
   refine l_nil ?_
   exact ⟨(i + 1, .slice a26 _ c26, G26), ⟨by omega, hV26.as rfl (by rw [bitsN_succ, List.map_append]; rfl)⟩, by show 8 - (i + 1) < 8 - i; omega, .cons rfl (.cons rfl .nil), a_g, fun w h => (h.sub (List.sublist_append_left _ _)).as (List.append_nil _).symm⟩
  ·have h1n := r_f h1
   refine c_exit rfl ?_
   refine c_seq ?_
   obtain rfl : i = 8 := by omega
   obtain ⟨bL, cp, sp, hv9, hG9, hl9, hc9, -⟩ := hVi.full (by decide)
   rw [bits8] at hG9
   cases hv9
   subst hG9
   refine c_region ?_
   refine RL ?_
   refine RLv call_35 (fun w hw => qC_fn f hf w) ?_
   refine RLv call_82 (fun w hw => qone_fn (cF f) w) ?_
   refine RL ?_
   refine l_nil ?_
   refine c_seq ?_
   refine c_region ?_
   refine RL ?_
   refine l_nil ?_
   refine c_cut (σ := Value × Heap) [8, 11, 30, 31, 32, 33, 34, 35, 36, 37, 38, 39, 40, 41, 42, 43, 44, 45, 46, 47, 48, 49, 50, 51, 52, 53, 54, 55, 56, 57, 58, 59, 60, 61, 62, 63, 64, 65, 66, 67, 68, 69, 70, 71, 72, 73, 74, 75, 76, 77, 78, 79, 80, 81, 82, 83, 84, 85, 86, 87, 88, 89, 90, 91, 92, 93, 94, 95, 96, 97, 98, 99, 100, 101, 102, 103, 104, 105, 106, 107, 108, 109, 110, 111, 112, 113, 114, 115, 116, 117, 118, 119, 120, 121] (fun q => [(8, q.1), (11, .int .i64 (turnU j a))]) (fun q => q.2 ++ []) (fun q => Vec 3 1 q.1 8 ((turnL j a f).map (.int .i64)) q.2) ?_ ?_
   ·refine c_seq ?_
    refine c_region ?_
    refine RL ?_
    refine l_nil ?_
    refine c_block ?_
    refine c_seq ?_
    rcases (show j = 0 ∨ j = 1 ∨ j = 2 ∨ j = 3 ∨ j = 4 ∨ j = 5 ∨ j = 6 ∨ j = 7 by omega) with rfl | rfl | rfl | rfl | rfl | rfl | rfl | rfl
    ·refine c_region ?_
     refine l_sure true rfl rfl rfl rfl ?_
     refine RL ?_
     refine l_nil ?_
     refine c_true rfl ?_
     refine c_seq ?_
     refine c_region ?_
     refine RL ?_
     refine l_l (by first | exact idx_array1 7 rfl rfl rfl rfl (by decide) | exact idx_slice1 7 rfl rfl rfl rfl (by decide) | exact idx_array 7 rfl rfl rfl rfl (by decide) | exact idx_slice 7 rfl rfl rfl rfl (by decide)) rfl rfl ?_
     refine RLo ?_
     refine RL ?_
     refine l_nil ?_
     refine c_draw [(bL, blk (List.map (Value.int .i64) [a % 2, a / 2 % 2, a / 4 % 2, a / 8 % 2, a / 16 % 2, a / 32 % 2, a / 64 % 2, a / 128 % 2] ++ sp) 3)] [4, 5] (.step true 0 (.step true 1 (.step true 2 (.step true 4 (.step true 5 (.step false 3 (.step false 6 (.step true 7 .done)))))))) rfl (by kernel_rfl) (by kernel_rfl) (fun x hx => by obtain rfl := List.mem_singleton.1 hx; exact .head _) ?_
     refine RD ?_
     refine d_light rfl (by first | exact idx_array1 7 rfl rfl rfl rfl (by decide) | exact idx_slice1 7 rfl rfl rfl rfl (by decide) | exact idx_array 7 rfl rfl rfl rfl (by decide) | exact idx_slice 7 rfl rfl rfl rfl (by decide)) rfl rfl rfl ?_
     refine RDo ?_
     refine RD ?_
     refine d_as (v := (.slice (some ⟨bL, 0, none⟩) 7 (ci - 0))) rfl (cut_slice1 0 7 rfl rfl rfl rfl rfl rfl (by decide) o_m) rfl rfl rfl (congrArg (fun x => Value.slice (some ⟨bL, x, none⟩) 7 (ci - 0)) (cut1_at o_m)) ?_
     refine d_x rfl (x_slc (z := [.int .i64 0]) (l := [.int .i64 (a / 128 % 2)]) (ps := [(0, .int .i64 (a / 128 % 2))]) rfl rfl rfl rfl rfl rfl) rfl rfl n_h ?_
     rintro _ _ ⟨b39, rfl, rfl⟩
     refine d_x rfl (x_append (A := []) (G := [(b39, blk [.int .i64 (a / 128 % 2)] 3)]) (R := [(bL, blk (List.map (Value.int .i64) [a % 2, a / 2 % 2, a / 4 % 2, a / 8 % 2, a / 16 % 2, a / 32 % 2, a / 64 % 2, a / 128 % 2] ++ sp) 3)]) (v := (.slice (some ⟨b39, 0, none⟩) 1 1)) (n := 1) (xs := [.int .i64 (a / 128 % 2)]) (m := 7) (T := 3) (s := 1) (by_ := 8) (ys := [.int .i64 (a % 2), .int .i64 (a / 2 % 2), .int .i64 (a / 4 % 2), .int .i64 (a / 8 % 2), .int .i64 (a / 16 % 2), .int .i64 (a / 32 % 2), .int .i64 (a / 64 % 2)]) rfl rfl rfl rfl (.row b39 1 1 [.int .i64 (a / 128 % 2)] [] rfl rfl (by decide) (Nat.le_refl _)) (fun w hw => .row _ _ _ _ _ rfl (row_own_at m_m 0 7 rfl w hw)) rfl o_m o_m) rfl rfl n_h ?_
     rintro v42 _ ⟨G42, hV42, _, rfl⟩
     obtain ⟨a42, c42, rfl⟩ := hV42.slice
     refine RD ?_
     refine d_nil ?_
     exact ⟨(.slice a42 _ c42, G42), hV42.as rfl rfl, .cons rfl (.cons (congrArg (Value.int .i64) rfl) .nil), a_g, fun w h => (h.sub (List.sublist_append_left _ _)).as (List.append_nil _).symm⟩
    ·refine c_region ?_
     refine l_sure false rfl rfl rfl rfl ?_
     refine RL ?_
     refine l_nil ?_
     refine c_false rfl ?_
     refine c_seq ?_
     refine c_region ?_
     refine l_sure true rfl rfl rfl rfl ?_
     refine RL ?_
     refine l_nil ?_
     refine c_true rfl ?_
     refine c_seq ?_
     refine c_region ?_
     refine RL ?_
     refine l_l (by first | exact idx_array1 0 rfl rfl rfl rfl (by decide) | exact idx_slice1 0 rfl rfl rfl rfl (by decide) | exact idx_array 0 rfl rfl rfl rfl (by decide) | exact idx_slice 0 rfl rfl rfl rfl (by decide)) rfl rfl ?_
     refine RLo ?_
     refine RL ?_
     refine l_nil ?_
     refine c_draw [(bL, blk (List.map (Value.int .i64) [a % 2, a / 2 % 2, a / 4 % 2, a / 8 % 2, a / 16 % 2, a / 32 % 2, a / 64 % 2, a / 128 % 2] ++ sp) 3)] [0, 3] (.step true 1 (.step true 2 (.step true 4 (.step true 5 (.step true 6 (.fork 0 (.fork 3 (.step false 7 (.step false 8 (.step true 9 .done))) (.fork 7 (.step false 3 (.step false 8 (.step true 9 .done))) .stop)) (.fork 7 (.step false 0 (.step false 3 (.step false 8 (.step true 9 .done)))) .stop))))))) rfl (by kernel_rfl) (by kernel_rfl) (fun x hx => by obtain rfl := List.mem_singleton.1 hx; exact .head _) ?_
     refine RD ?_
     refine d_as (v := (.slice (some ⟨bL, 1, none⟩) 7 (ci - 1))) rfl (cut_slice1 1 8 rfl rfl rfl rfl rfl rfl (by decide) o_m) rfl rfl rfl (congrArg (fun x => Value.slice (some ⟨bL, x, none⟩) 7 (ci - 1)) (cut1_at o_m)) ?_
     refine RD ?_
     refine d_light rfl (by first | exact idx_array1 0 rfl rfl rfl rfl (by decide) | exact idx_slice1 0 rfl rfl rfl rfl (by decide) | exact idx_array 0 rfl rfl rfl rfl (by decide) | exact idx_slice 0 rfl rfl rfl rfl (by decide)) rfl rfl rfl ?_
     refine RDo ?_
     refine d_fork ?_ ?_
     ·refine d_x rfl (x_slc0 (el := 3) (n := 1) rfl) rfl rfl (by intro _ _ _ hK x hx; obtain ⟨_, rfl, rfl⟩ := hK; repeat (first | exact hx | exact List.mem_append_left _ hx | refine List.mem_append_right _ ?_ | refine .tail _ ?_)) ?_
      rintro _ _ ⟨b48, rfl, rfl⟩
      refine d_fork ?_ ?_
      ·refine d_x rfl (x_append (A := []) (G := [(b48, blk [] 3)]) (R := [(bL, blk (List.map (Value.int .i64) [a % 2, a / 2 % 2, a / 4 % 2, a / 8 % 2, a / 16 % 2, a / 32 % 2, a / 64 % 2, a / 128 % 2] ++ sp) 3)]) (v := (.slice (some ⟨b48, 0, none⟩) 0 0)) (n := 0) (xs := []) (m := 7) (T := 3) (s := 1) (by_ := 8) (ys := [.int .i64 (a / 2 % 2), .int .i64 (a / 4 % 2), .int .i64 (a / 8 % 2), .int .i64 (a / 16 % 2), .int .i64 (a / 32 % 2), .int .i64 (a / 64 % 2), .int .i64 (a / 128 % 2)]) rfl rfl rfl rfl (.row b48 0 0 [] [] rfl rfl (by decide) (Nat.le_refl _)) (fun w hw => .row _ _ _ _ _ rfl (row_own_at m_m 1 7 rfl w hw)) rfl o_m o_m) rfl rfl (by intro _ _ _ hK x hx; obtain ⟨G51, hV51, _, rfl⟩ := hK; repeat (first | exact hx | exact List.mem_append_left _ hx | refine List.mem_append_right _ ?_ | refine .tail _ ?_)) ?_
       rintro v51 _ ⟨G51, hV51, _, rfl⟩
       obtain ⟨a51, c51, rfl⟩ := hV51.slice
       refine d_x rfl (x_slc (z := [.int .i64 0]) (l := [.int .i64 (a % 2)]) (ps := [(0, .int .i64 (a % 2))]) rfl rfl rfl rfl rfl rfl) rfl rfl n_h ?_
       rintro _ _ ⟨b55, rfl, rfl⟩
       refine d_x rfl (x_append (A := [(b55, _)]) (G := G51) (R := [(bL, blk (List.map (Value.int .i64) [a % 2, a / 2 % 2, a / 4 % 2, a / 8 % 2, a / 16 % 2, a / 32 % 2, a / 64 % 2, a / 128 % 2] ++ sp) 3)]) (v := (.slice a51 (0 + 7) c51)) (n := 0 + 7) (xs := [.int .i64 (a / 2 % 2), .int .i64 (a / 4 % 2), .int .i64 (a / 8 % 2), .int .i64 (a / 16 % 2), .int .i64 (a / 32 % 2), .int .i64 (a / 64 % 2), .int .i64 (a / 128 % 2)]) (m := 1) (T := 3) (s := 1) (by_ := 8) (ys := [.int .i64 (a % 2)]) rfl rfl rfl rfl hV51 (fun w hw => .row _ _ _ _ _ rfl (row_own m_m w hw)) rfl o_m o_m) rfl rfl n_h ?_
       rintro v56 _ ⟨G56, hV56, _, rfl⟩
       obtain ⟨a56, c56, rfl⟩ := hV56.slice
       refine RD ?_
       refine d_nil ?_
       exact ⟨(.slice a56 _ c56, G56), hV56.as rfl rfl, .cons rfl (.cons (congrArg (Value.int .i64) rfl) .nil), a_g, fun w h => (h.sub (List.sublist_append_left _ _)).as (List.append_nil _).symm⟩
      refine d_fork ?_ ?_
      ·refine d_x rfl (x_slc (z := [.int .i64 0]) (l := [.int .i64 (a % 2)]) (ps := [(0, .int .i64 (a % 2))]) rfl rfl rfl rfl rfl rfl) rfl rfl n_h ?_
       rintro _ _ ⟨b55, rfl, rfl⟩
       refine d_x rfl (x_append (A := [(b55, _)]) (G := [(b48, blk [] 3)]) (R := [(bL, blk (List.map (Value.int .i64) [a % 2, a / 2 % 2, a / 4 % 2, a / 8 % 2, a / 16 % 2, a / 32 % 2, a / 64 % 2, a / 128 % 2] ++ sp) 3)]) (v := (.slice (some ⟨b48, 0, none⟩) 0 0)) (n := 0) (xs := []) (m := 7) (T := 3) (s := 1) (by_ := 8) (ys := [.int .i64 (a / 2 % 2), .int .i64 (a / 4 % 2), .int .i64 (a / 8 % 2), .int .i64 (a / 16 % 2), .int .i64 (a / 32 % 2), .int .i64 (a / 64 % 2), .int .i64 (a / 128 % 2)]) rfl rfl rfl rfl (.row b48 0 0 [] [] rfl rfl (by decide) (Nat.le_refl _)) (fun w hw => .row _ _ _ _ _ rfl (row_own_at m_m 1 7 rfl w hw)) rfl o_m o_m) rfl rfl (by intro _ _ _ hK x hx; obtain ⟨G51, hV51, _, rfl⟩ := hK; repeat (first | exact hx | exact List.mem_append_left _ hx | refine List.mem_append_right _ ?_ | refine .tail _ ?_)) ?_
       rintro v51 _ ⟨G51, hV51, _, rfl⟩
       obtain ⟨a51, c51, rfl⟩ := hV51.slice
       refine d_x rfl (x_append (A := []) (G := G51) (R := [(b55, _), (bL, blk (List.map (Value.int .i64) [a % 2, a / 2 % 2, a / 4 % 2, a / 8 % 2, a / 16 % 2, a / 32 % 2, a / 64 % 2, a / 128 % 2] ++ sp) 3)]) (v := (.slice a51 (0 + 7) c51)) (n := 0 + 7) (xs := [.int .i64 (a / 2 % 2), .int .i64 (a / 4 % 2), .int .i64 (a / 8 % 2), .int .i64 (a / 16 % 2), .int .i64 (a / 32 % 2), .int .i64 (a / 64 % 2), .int .i64 (a / 128 % 2)]) (m := 1) (T := 3) (s := 1) (by_ := 8) (ys := [.int .i64 (a % 2)]) rfl rfl rfl rfl hV51 (fun w hw => .row _ _ _ _ _ rfl (row_own m_m w hw)) rfl o_m o_m) rfl rfl n_h ?_
       rintro v56 _ ⟨G56, hV56, _, rfl⟩
       obtain ⟨a56, c56, rfl⟩ := hV56.slice
       refine RD ?_
       refine d_nil ?_
       exact ⟨(.slice a56 _ c56, G56), hV56.as rfl rfl, .cons rfl (.cons (congrArg (Value.int .i64) rfl) .nil), a_g, fun w h => (h.sub (List.sublist_append_left _ _)).as (List.append_nil _).symm⟩
      exact d_stop
     refine d_fork ?_ ?_
     ·refine d_x rfl (x_slc (z := [.int .i64 0]) (l := [.int .i64 (a % 2)]) (ps := [(0, .int .i64 (a % 2))]) rfl rfl rfl rfl rfl rfl) rfl rfl n_h ?_
      rintro _ _ ⟨b55, rfl, rfl⟩
      refine d_x rfl (x_slc0 (el := 3) (n := 1) rfl) rfl rfl (by intro _ _ _ hK x hx; obtain ⟨_, rfl, rfl⟩ := hK; repeat (first | exact hx | exact List.mem_append_left _ hx | refine List.mem_append_right _ ?_ | refine .tail _ ?_)) ?_
      rintro _ _ ⟨b48, rfl, rfl⟩
      refine d_x rfl (x_append (A := []) (G := [(b48, blk [] 3)]) (R := [(b55, _), (bL, blk (List.map (Value.int .i64) [a % 2, a / 2 % 2, a / 4 % 2, a / 8 % 2, a / 16 % 2, a / 32 % 2, a / 64 % 2, a / 128 % 2] ++ sp) 3)]) (v := (.slice (some ⟨b48, 0, none⟩) 0 0)) (n := 0) (xs := []) (m := 7) (T := 3) (s := 1) (by_ := 8) (ys := [.int .i64 (a / 2 % 2), .int .i64 (a / 4 % 2), .int .i64 (a / 8 % 2), .int .i64 (a / 16 % 2), .int .i64 (a / 32 % 2), .int .i64 (a / 64 % 2), .int .i64 (a / 128 % 2)]) rfl rfl rfl rfl (.row b48 0 0 [] [] rfl rfl (by decide) (Nat.le_refl _)) (fun w hw => .row _ _ _ _ _ rfl (row_own_at m_m 1 7 rfl w hw)) rfl o_m o_m) rfl rfl (by intro _ _ _ hK x hx; obtain ⟨G51, hV51, _, rfl⟩ := hK; repeat (first | exact hx | exact List.mem_append_left _ hx | refine List.mem_append_right _ ?_ | refine .tail _ ?_)) ?_
      rintro v51 _ ⟨G51, hV51, _, rfl⟩
      obtain ⟨a51, c51, rfl⟩ := hV51.slice
      refine d_x rfl (x_append (A := []) (G := G51) (R := [(b55, _), (bL, blk (List.map (Value.int .i64) [a % 2, a / 2 % 2, a / 4 % 2, a / 8 % 2, a / 16 % 2, a / 32 % 2, a / 64 % 2, a / 128 % 2] ++ sp) 3)]) (v := (.slice a51 (0 + 7) c51)) (n := 0 + 7) (xs := [.int .i64 (a / 2 % 2), .int .i64 (a / 4 % 2), .int .i64 (a / 8 % 2), .int .i64 (a / 16 % 2), .int .i64 (a / 32 % 2), .int .i64 (a / 64 % 2), .int .i64 (a / 128 % 2)]) (m := 1) (T := 3) (s := 1) (by_ := 8) (ys := [.int .i64 (a % 2)]) rfl rfl rfl rfl hV51 (fun w hw => .row _ _ _ _ _ rfl (row_own m_m w hw)) rfl o_m o_m) rfl rfl n_h ?_
      rintro v56 _ ⟨G56, hV56, _, rfl⟩
      obtain ⟨a56, c56, rfl⟩ := hV56.slice
      refine RD ?_
      refine d_nil ?_
      exact ⟨(.slice a56 _ c56, G56), hV56.as rfl rfl, .cons rfl (.cons (congrArg (Value.int .i64) rfl) .nil), a_g, fun w h => (h.sub (List.sublist_append_left _ _)).as (List.append_nil _).symm⟩
     exact d_stop
    ·refine c_region ?_
     refine l_sure false rfl rfl rfl rfl ?_
     refine RL ?_
     refine l_nil ?_
     refine c_false rfl ?_
     refine c_seq ?_
     refine c_region ?_
     refine l_sure false rfl rfl rfl rfl ?_
     refine RL ?_
     refine l_nil ?_
     refine c_false rfl ?_
     refine c_seq ?_
     refine c_region ?_
     refine l_sure true rfl rfl rfl rfl ?_
     refine RL ?_
     refine l_nil ?_
     refine c_true rfl ?_
     refine c_seq ?_
     refine c_region ?_
     refine RL ?_
     refine l_l (by first | exact idx_array1 7 rfl rfl rfl rfl (by decide) | exact idx_slice1 7 rfl rfl rfl rfl (by decide) | exact idx_array 7 rfl rfl rfl rfl (by decide) | exact idx_slice 7 rfl rfl rfl rfl (by decide)) rfl rfl ?_
     refine RLo ?_
     refine RL ?_
     refine l_nil ?_
     refine c_region ?_
     refine RL ?_
     refine l_x (x_slc (z := [.int .i64 0]) (l := [.int .i64 (b2i (cF f))]) (ps := [(0, .int .i64 (b2i (cF f)))]) rfl rfl rfl rfl rfl rfl) rfl rfl ?_
     rintro _ _ ⟨b63, rfl, rfl⟩
     refine RL ?_
     refine l_as (v := (.slice (some ⟨bL, 0, none⟩) 7 (ci - 0))) (cut_slice1 0 7 rfl rfl rfl rfl rfl rfl (by decide) o_m) rfl rfl (congrArg (fun x => Value.slice (some ⟨bL, x, none⟩) 7 (ci - 0)) (cut1_at o_m)) ?_
     refine l_x (x_append (A := []) (G := [(b63, blk [.int .i64 (b2i (cF f))] 3)]) (R := [(bL, blk (List.map (Value.int .i64) [a % 2, a / 2 % 2, a / 4 % 2, a / 8 % 2, a / 16 % 2, a / 32 % 2, a / 64 % 2, a / 128 % 2] ++ sp) 3)]) (v := (.slice (some ⟨b63, 0, none⟩) 1 1)) (n := 1) (xs := [.int .i64 (b2i (cF f))]) (m := 7) (T := 3) (s := 1) (by_ := 8) (ys := [.int .i64 (a % 2), .int .i64 (a / 2 % 2), .int .i64 (a / 4 % 2), .int .i64 (a / 8 % 2), .int .i64 (a / 16 % 2), .int .i64 (a / 32 % 2), .int .i64 (a / 64 % 2)]) rfl rfl rfl rfl (.row b63 1 1 [.int .i64 (b2i (cF f))] [] rfl rfl (by decide) (Nat.le_refl _)) (fun w hw => .row _ _ _ _ _ rfl (row_own_at m_m 0 7 rfl w hw)) rfl o_m o_m) rfl rfl ?_
     rintro v66 _ ⟨G66, hV66, _, rfl⟩
     obtain ⟨a66, c66, rfl⟩ := hV66.slice
     refine RL ?_
     refine l_nil ?_
     exact ⟨(.slice a66 _ c66, G66), hV66.as rfl rfl, .cons rfl (.cons (congrArg (Value.int .i64) rfl) .nil), a_g, fun w h => (h.sub (List.sublist_append_left _ _)).as (List.append_nil _).symm⟩
    ·refine c_region ?_
     refine l_sure false rfl rfl rfl rfl ?_
     refine RL ?_
     refine l_nil ?_
     refine c_false rfl ?_
     refine c_seq ?_
     refine c_region ?_
     refine l_sure false rfl rfl rfl rfl ?_
     refine RL ?_
     refine l_nil ?_
     refine c_false rfl ?_
     refine c_seq ?_
     refine c_region ?_
     refine l_sure false rfl rfl rfl rfl ?_
     refine RL ?_
     refine l_nil ?_
     refine c_false rfl ?_
     refine c_seq ?_
     refine c_region ?_
     refine l_sure true rfl rfl rfl rfl ?_
     refine RL ?_
     refine l_nil ?_
     refine c_true rfl ?_
     refine c_seq ?_
     refine c_region ?_
     refine RL ?_
     refine l_l (by first | exact idx_array1 0 rfl rfl rfl rfl (by decide) | exact idx_slice1 0 rfl rfl rfl rfl (by decide) | exact idx_array 0 rfl rfl rfl rfl (by decide) | exact idx_slice 0 rfl rfl rfl rfl (by decide)) rfl rfl ?_
     refine RLo ?_
     refine RL ?_
     refine l_nil ?_
     refine c_region ?_
     refine l_x (x_slc0 (el := 3) (n := 1) rfl) rfl rfl ?_
     rintro _ _ ⟨b72, rfl, rfl⟩
     refine RL ?_
     refine l_as (v := (.slice (some ⟨bL, 1, none⟩) 7 (ci - 1))) (cut_slice1 1 8 rfl rfl rfl rfl rfl rfl (by decide) o_m) rfl rfl (congrArg (fun x => Value.slice (some ⟨bL, x, none⟩) 7 (ci - 1)) (cut1_at o_m)) ?_
     refine l_x (x_append (A := []) (G := [(b72, blk [] 3)]) (R := [(bL, blk (List.map (Value.int .i64) [a % 2, a / 2 % 2, a / 4 % 2, a / 8 % 2, a / 16 % 2, a / 32 % 2, a / 64 % 2, a / 128 % 2] ++ sp) 3)]) (v := (.slice (some ⟨b72, 0, none⟩) 0 0)) (n := 0) (xs := []) (m := 7) (T := 3) (s := 1) (by_ := 8) (ys := [.int .i64 (a / 2 % 2), .int .i64 (a / 4 % 2), .int .i64 (a / 8 % 2), .int .i64 (a / 16 % 2), .int .i64 (a / 32 % 2), .int .i64 (a / 64 % 2), .int .i64 (a / 128 % 2)]) rfl rfl rfl rfl (.row b72 0 0 [] [] rfl rfl (by decide) (Nat.le_refl _)) (fun w hw => .row _ _ _ _ _ rfl (row_own_at m_m 1 7 rfl w hw)) rfl o_m o_m) rfl rfl ?_
     rintro v75 _ ⟨G75, hV75, _, rfl⟩
     obtain ⟨a75, c75, rfl⟩ := hV75.slice
     refine RL ?_
     refine l_x (x_slc (z := [.int .i64 0]) (l := [.int .i64 (b2i (cF f))]) (ps := [(0, .int .i64 (b2i (cF f)))]) rfl rfl rfl rfl rfl rfl) rfl rfl ?_
     rintro _ _ ⟨b77, rfl, rfl⟩
     refine l_x (x_append (A := [(b77, _)]) (G := G75) (R := [(bL, blk (List.map (Value.int .i64) [a % 2, a / 2 % 2, a / 4 % 2, a / 8 % 2, a / 16 % 2, a / 32 % 2, a / 64 % 2, a / 128 % 2] ++ sp) 3)]) (v := (.slice a75 (0 + 7) c75)) (n := 0 + 7) (xs := [.int .i64 (a / 2 % 2), .int .i64 (a / 4 % 2), .int .i64 (a / 8 % 2), .int .i64 (a / 16 % 2), .int .i64 (a / 32 % 2), .int .i64 (a / 64 % 2), .int .i64 (a / 128 % 2)]) (m := 1) (T := 3) (s := 1) (by_ := 8) (ys := [.int .i64 (b2i (cF f))]) rfl rfl rfl rfl hV75 (fun w hw => .row _ _ _ _ _ rfl (row_own m_m w hw)) rfl o_m o_m) rfl rfl ?_
     rintro v78 _ ⟨G78, hV78, _, rfl⟩
     obtain ⟨a78, c78, rfl⟩ := hV78.slice
     refine RL ?_
     refine l_nil ?_
     exact ⟨(.slice a78 _ c78, G78), hV78.as rfl rfl, .cons rfl (.cons (congrArg (Value.int .i64) rfl) .nil), a_g, fun w h => (h.sub (List.sublist_append_left _ _)).as (List.append_nil _).symm⟩
    ·refine c_region ?_
     refine l_sure false rfl rfl rfl rfl ?_
     refine RL ?_
     refine l_nil ?_
     refine c_false rfl ?_
     refine c_seq ?_
     refine c_region ?_
     refine l_sure false rfl rfl rfl rfl ?_
     refine RL ?_
     refine l_nil ?_
     refine c_false rfl ?_
     refine c_seq ?_
     refine c_region ?_
     refine l_sure false rfl rfl rfl rfl ?_
     refine RL ?_
     refine l_nil ?_
     refine c_false rfl ?_
     refine c_seq ?_
     refine c_region ?_
     refine l_sure false rfl rfl rfl rfl ?_
     refine RL ?_
     refine l_nil ?_
     refine c_false rfl ?_
     refine c_seq ?_
     refine c_region ?_
     refine l_sure true rfl rfl rfl rfl ?_
     refine RL ?_
     refine l_nil ?_
     refine c_true rfl ?_
     refine c_seq ?_
     refine c_region ?_
     refine RL ?_
     refine l_l (by first | exact idx_array1 7 rfl rfl rfl rfl (by decide) | exact idx_slice1 7 rfl rfl rfl rfl (by decide) | exact idx_array 7 rfl rfl rfl rfl (by decide) | exact idx_slice 7 rfl rfl rfl rfl (by decide)) rfl rfl ?_
     refine RLo ?_
     refine RL ?_
     refine l_nil ?_
     refine c_region ?_
     refine l_x (x_slc (z := [.int .i64 0]) (l := [.int .i64 (0)]) (ps := [(0, .int .i64 (0))]) rfl rfl rfl rfl rfl rfl) rfl rfl ?_
     rintro _ _ ⟨b84, rfl, rfl⟩
     refine RL ?_
     refine l_as (v := (.slice (some ⟨bL, 0, none⟩) 7 (ci - 0))) (cut_slice1 0 7 rfl rfl rfl rfl rfl rfl (by decide) o_m) rfl rfl (congrArg (fun x => Value.slice (some ⟨bL, x, none⟩) 7 (ci - 0)) (cut1_at o_m)) ?_
     refine l_x (x_append (A := []) (G := [(b84, blk [.int .i64 (0)] 3)]) (R := [(bL, blk (List.map (Value.int .i64) [a % 2, a / 2 % 2, a / 4 % 2, a / 8 % 2, a / 16 % 2, a / 32 % 2, a / 64 % 2, a / 128 % 2] ++ sp) 3)]) (v := (.slice (some ⟨b84, 0, none⟩) 1 1)) (n := 1) (xs := [.int .i64 (0)]) (m := 7) (T := 3) (s := 1) (by_ := 8) (ys := [.int .i64 (a % 2), .int .i64 (a / 2 % 2), .int .i64 (a / 4 % 2), .int .i64 (a / 8 % 2), .int .i64 (a / 16 % 2), .int .i64 (a / 32 % 2), .int .i64 (a / 64 % 2)]) rfl rfl rfl rfl (.row b84 1 1 [.int .i64 (0)] [] rfl rfl (by decide) (Nat.le_refl _)) (fun w hw => .row _ _ _ _ _ rfl (row_own_at m_m 0 7 rfl w hw)) rfl o_m o_m) rfl rfl ?_
     rintro v87 _ ⟨G87, hV87, _, rfl⟩
     obtain ⟨a87, c87, rfl⟩ := hV87.slice
     refine RL ?_
     refine l_nil ?_
     exact ⟨(.slice a87 _ c87, G87), hV87.as rfl rfl, .cons rfl (.cons (congrArg (Value.int .i64) rfl) .nil), a_g, fun w h => (h.sub (List.sublist_append_left _ _)).as (List.append_nil _).symm⟩
    ·refine c_region ?_
     refine l_sure false rfl rfl rfl rfl ?_
     refine RL ?_
     refine l_nil ?_
     refine c_false rfl ?_
     refine c_seq ?_
     refine c_region ?_
     refine l_sure false rfl rfl rfl rfl ?_
     refine RL ?_
     refine l_nil ?_
     refine c_false rfl ?_
     refine c_seq ?_
     refine c_region ?_
     refine l_sure false rfl rfl rfl rfl ?_
     refine RL ?_
     refine l_nil ?_
     refine c_false rfl ?_
     refine c_seq ?_
     refine c_region ?_
     refine l_sure false rfl rfl rfl rfl ?_
     refine RL ?_
     refine l_nil ?_
     refine c_false rfl ?_
     refine c_seq ?_
     refine c_region ?_
     refine l_sure false rfl rfl rfl rfl ?_
     refine RL ?_
     refine l_nil ?_
     refine c_false rfl ?_
     refine c_seq ?_
     refine c_region ?_
     refine l_sure true rfl rfl rfl rfl ?_
     refine RL ?_
     refine l_nil ?_
     refine c_true rfl ?_
     refine c_seq ?_
     refine c_region ?_
     refine RL ?_
     refine l_l (by first | exact idx_array1 0 rfl rfl rfl rfl (by decide) | exact idx_slice1 0 rfl rfl rfl rfl (by decide) | exact idx_array 0 rfl rfl rfl rfl (by decide) | exact idx_slice 0 rfl rfl rfl rfl (by decide)) rfl rfl ?_
     refine RLo ?_
     refine RL ?_
     refine l_nil ?_
     refine c_draw [(bL, blk (List.map (Value.int .i64) [a % 2, a / 2 % 2, a / 4 % 2, a / 8 % 2, a / 16 % 2, a / 32 % 2, a / 64 % 2, a / 128 % 2] ++ sp) 3)] [0, 3] (.step true 1 (.step true 2 (.step true 4 (.step true 5 (.step true 6 (.fork 0 (.fork 3 (.step false 7 (.step false 8 (.step true 9 .done))) (.fork 7 (.step false 3 (.step false 8 (.step true 9 .done))) .stop)) (.fork 7 (.step false 0 (.step false 3 (.step false 8 (.step true 9 .done)))) .stop))))))) rfl (by kernel_rfl) (by kernel_rfl) (fun x hx => by obtain rfl := List.mem_singleton.1 hx; exact .head _) ?_
     refine RD ?_
     refine d_as (v := (.slice (some ⟨bL, 1, none⟩) 7 (ci - 1))) rfl (cut_slice1 1 8 rfl rfl rfl rfl rfl rfl (by decide) o_m) rfl rfl rfl (congrArg (fun x => Value.slice (some ⟨bL, x, none⟩) 7 (ci - 1)) (cut1_at o_m)) ?_
     refine RD ?_
     refine d_light rfl (by first | exact idx_array1 7 rfl rfl rfl rfl (by decide) | exact idx_slice1 7 rfl rfl rfl rfl (by decide) | exact idx_array 7 rfl rfl rfl rfl (by decide) | exact idx_slice 7 rfl rfl rfl rfl (by decide)) rfl rfl rfl ?_
     refine RDo ?_
     refine d_fork ?_ ?_
     ·refine d_x rfl (x_slc0 (el := 3) (n := 1) rfl) rfl rfl (by intro _ _ _ hK x hx; obtain ⟨_, rfl, rfl⟩ := hK; repeat (first | exact hx | exact List.mem_append_left _ hx | refine List.mem_append_right _ ?_ | refine .tail _ ?_)) ?_
      rintro _ _ ⟨b93, rfl, rfl⟩
      refine d_fork ?_ ?_
      ·refine d_x rfl (x_append (A := []) (G := [(b93, blk [] 3)]) (R := [(bL, blk (List.map (Value.int .i64) [a % 2, a / 2 % 2, a / 4 % 2, a / 8 % 2, a / 16 % 2, a / 32 % 2, a / 64 % 2, a / 128 % 2] ++ sp) 3)]) (v := (.slice (some ⟨b93, 0, none⟩) 0 0)) (n := 0) (xs := []) (m := 7) (T := 3) (s := 1) (by_ := 8) (ys := [.int .i64 (a / 2 % 2), .int .i64 (a / 4 % 2), .int .i64 (a / 8 % 2), .int .i64 (a / 16 % 2), .int .i64 (a / 32 % 2), .int .i64 (a / 64 % 2), .int .i64 (a / 128 % 2)]) rfl rfl rfl rfl (.row b93 0 0 [] [] rfl rfl (by decide) (Nat.le_refl _)) (fun w hw => .row _ _ _ _ _ rfl (row_own_at m_m 1 7 rfl w hw)) rfl o_m o_m) rfl rfl (by intro _ _ _ hK x hx; obtain ⟨G96, hV96, _, rfl⟩ := hK; repeat (first | exact hx | exact List.mem_append_left _ hx | refine List.mem_append_right _ ?_ | refine .tail _ ?_)) ?_
       rintro v96 _ ⟨G96, hV96, _, rfl⟩
       obtain ⟨a96, c96, rfl⟩ := hV96.slice
       refine d_x rfl (x_slc (z := [.int .i64 0]) (l := [.int .i64 (a / 128 % 2)]) (ps := [(0, .int .i64 (a / 128 % 2))]) rfl rfl rfl rfl rfl rfl) rfl rfl n_h ?_
       rintro _ _ ⟨b100, rfl, rfl⟩
       refine d_x rfl (x_append (A := [(b100, _)]) (G := G96) (R := [(bL, blk (List.map (Value.int .i64) [a % 2, a / 2 % 2, a / 4 % 2, a / 8 % 2, a / 16 % 2, a / 32 % 2, a / 64 % 2, a / 128 % 2] ++ sp) 3)]) (v := (.slice a96 (0 + 7) c96)) (n := 0 + 7) (xs := [.int .i64 (a / 2 % 2), .int .i64 (a / 4 % 2), .int .i64 (a / 8 % 2), .int .i64 (a / 16 % 2), .int .i64 (a / 32 % 2), .int .i64 (a / 64 % 2), .int .i64 (a / 128 % 2)]) (m := 1) (T := 3) (s := 1) (by_ := 8) (ys := [.int .i64 (a / 128 % 2)]) rfl rfl rfl rfl hV96 (fun w hw => .row _ _ _ _ _ rfl (row_own m_m w hw)) rfl o_m o_m) rfl rfl n_h ?_
       rintro v101 _ ⟨G101, hV101, _, rfl⟩
       obtain ⟨a101, c101, rfl⟩ := hV101.slice
       refine RD ?_
       refine d_nil ?_
       exact ⟨(.slice a101 _ c101, G101), hV101.as rfl rfl, .cons rfl (.cons (congrArg (Value.int .i64) rfl) .nil), a_g, fun w h => (h.sub (List.sublist_append_left _ _)).as (List.append_nil _).symm⟩
      refine d_fork ?_ ?_
      ·refine d_x rfl (x_slc (z := [.int .i64 0]) (l := [.int .i64 (a / 128 % 2)]) (ps := [(0, .int .i64 (a / 128 % 2))]) rfl rfl rfl rfl rfl rfl) rfl rfl n_h ?_
       rintro _ _ ⟨b100, rfl, rfl⟩
       refine d_x rfl (x_append (A := [(b100, _)]) (G := [(b93, blk [] 3)]) (R := [(bL, blk (List.map (Value.int .i64) [a % 2, a / 2 % 2, a / 4 % 2, a / 8 % 2, a / 16 % 2, a / 32 % 2, a / 64 % 2, a / 128 % 2] ++ sp) 3)]) (v := (.slice (some ⟨b93, 0, none⟩) 0 0)) (n := 0) (xs := []) (m := 7) (T := 3) (s := 1) (by_ := 8) (ys := [.int .i64 (a / 2 % 2), .int .i64 (a / 4 % 2), .int .i64 (a / 8 % 2), .int .i64 (a / 16 % 2), .int .i64 (a / 32 % 2), .int .i64 (a / 64 % 2), .int .i64 (a / 128 % 2)]) rfl rfl rfl rfl (.row b93 0 0 [] [] rfl rfl (by decide) (Nat.le_refl _)) (fun w hw => .row _ _ _ _ _ rfl (row_own_at m_m 1 7 rfl w hw)) rfl o_m o_m) rfl rfl (by intro _ _ _ hK x hx; obtain ⟨G96, hV96, _, rfl⟩ := hK; repeat (first | exact hx | exact List.mem_append_left _ hx | refine List.mem_append_right _ ?_ | refine .tail _ ?_)) ?_
       rintro v96 _ ⟨G96, hV96, _, rfl⟩
       obtain ⟨a96, c96, rfl⟩ := hV96.slice
       refine d_x rfl (x_append (A := []) (G := G96) (R := [(b100, _), (bL, blk (List.map (Value.int .i64) [a % 2, a / 2 % 2, a / 4 % 2, a / 8 % 2, a / 16 % 2, a / 32 % 2, a / 64 % 2, a / 128 % 2] ++ sp) 3)]) (v := (.slice a96 (0 + 7) c96)) (n := 0 + 7) (xs := [.int .i64 (a / 2 % 2), .int .i64 (a / 4 % 2), .int .i64 (a / 8 % 2), .int .i64 (a / 16 % 2), .int .i64 (a / 32 % 2), .int .i64 (a / 64 % 2), .int .i64 (a / 128 % 2)]) (m := 1) (T := 3) (s := 1) (by_ := 8) (ys := [.int .i64 (a / 128 % 2)]) rfl rfl rfl rfl hV96 (fun w hw => .row _ _ _ _ _ rfl (row_own m_m w hw)) rfl o_m o_m) rfl rfl n_h ?_
       rintro v101 _ ⟨G101, hV101, _, rfl⟩
       obtain ⟨a101, c101, rfl⟩ := hV101.slice
       refine RD ?_
       refine d_nil ?_
       exact ⟨(.slice a101 _ c101, G101), hV101.as rfl rfl, .cons rfl (.cons (congrArg (Value.int .i64) rfl) .nil), a_g, fun w h => (h.sub (List.sublist_append_left _ _)).as (List.append_nil _).symm⟩
      exact d_stop
     refine d_fork ?_ ?_
     ·refine d_x rfl (x_slc (z := [.int .i64 0]) (l := [.int .i64 (a / 128 % 2)]) (ps := [(0, .int .i64 (a / 128 % 2))]) rfl rfl rfl rfl rfl rfl) rfl rfl n_h ?_
      rintro _ _ ⟨b100, rfl, rfl⟩
      refine d_x rfl (x_slc0 (el := 3) (n := 1) rfl) rfl rfl (by intro _ _ _ hK x hx; obtain ⟨_, rfl, rfl⟩ := hK; repeat (first | exact hx | exact List.mem_append_left _ hx | refine List.mem_append_right _ ?_ | refine .tail _ ?_)) ?_
      rintro _ _ ⟨b93, rfl, rfl⟩
      refine d_x rfl (x_append (A := []) (G := [(b93, blk [] 3)]) (R := [(b100, _), (bL, blk (List.map (Value.int .i64) [a % 2, a / 2 % 2, a / 4 % 2, a / 8 % 2, a / 16 % 2, a / 32 % 2, a / 64 % 2, a / 128 % 2] ++ sp) 3)]) (v := (.slice (some ⟨b93, 0, none⟩) 0 0)) (n := 0) (xs := []) (m := 7) (T := 3) (s := 1) (by_ := 8) (ys := [.int .i64 (a / 2 % 2), .int .i64 (a / 4 % 2), .int .i64 (a / 8 % 2), .int .i64 (a / 16 % 2), .int .i64 (a / 32 % 2), .int .i64 (a / 64 % 2), .int .i64 (a / 128 % 2)]) rfl rfl rfl rfl (.row b93 0 0 [] [] rfl rfl (by decide) (Nat.le_refl _)) (fun w hw => .row _ _ _ _ _ rfl (row_own_at m_m 1 7 rfl w hw)) rfl o_m o_m) rfl rfl (by intro _ _ _ hK x hx; obtain ⟨G96, hV96, _, rfl⟩ := hK; repeat (first | exact hx | exact List.mem_append_left _ hx | refine List.mem_append_right _ ?_ | refine .tail _ ?_)) ?_
      rintro v96 _ ⟨G96, hV96, _, rfl⟩
      obtain ⟨a96, c96, rfl⟩ := hV96.slice
      refine d_x rfl (x_append (A := []) (G := G96) (R := [(b100, _), (bL, blk (List.map (Value.int .i64) [a % 2, a / 2 % 2, a / 4 % 2, a / 8 % 2, a / 16 % 2, a / 32 % 2, a / 64 % 2, a / 128 % 2] ++ sp) 3)]) (v := (.slice a96 (0 + 7) c96)) (n := 0 + 7) (xs := [.int .i64 (a / 2 % 2), .int .i64 (a / 4 % 2), .int .i64 (a / 8 % 2), .int .i64 (a / 16 % 2), .int .i64 (a / 32 % 2), .int .i64 (a / 64 % 2), .int .i64 (a / 128 % 2)]) (m := 1) (T := 3) (s := 1) (by_ := 8) (ys := [.int .i64 (a / 128 % 2)]) rfl rfl rfl rfl hV96 (fun w hw => .row _ _ _ _ _ rfl (row_own m_m w hw)) rfl o_m o_m) rfl rfl n_h ?_
      rintro v101 _ ⟨G101, hV101, _, rfl⟩
      obtain ⟨a101, c101, rfl⟩ := hV101.slice
      refine RD ?_
      refine d_nil ?_
      exact ⟨(.slice a101 _ c101, G101), hV101.as rfl rfl, .cons rfl (.cons (congrArg (Value.int .i64) rfl) .nil), a_g, fun w h => (h.sub (List.sublist_append_left _ _)).as (List.append_nil _).symm⟩
     exact d_stop
    ·refine c_region ?_
     refine l_sure false rfl rfl rfl rfl ?_
     refine RL ?_
     refine l_nil ?_
     refine c_false rfl ?_
     refine c_seq ?_
     refine c_region ?_
     refine l_sure false rfl rfl rfl rfl ?_
     refine RL ?_
     refine l_nil ?_
     refine c_false rfl ?_
     refine c_seq ?_
     refine c_region ?_
     refine l_sure false rfl rfl rfl rfl ?_
     refine RL ?_
     refine l_nil ?_
     refine c_false rfl ?_
     refine c_seq ?_
     refine c_region ?_
     refine l_sure false rfl rfl rfl rfl ?_
     refine RL ?_
     refine l_nil ?_
     refine c_false rfl ?_
     refine c_seq ?_
     refine c_region ?_
     refine l_sure false rfl rfl rfl rfl ?_
     refine RL ?_
     refine l_nil ?_
     refine c_false rfl ?_
     refine c_seq ?_
     refine c_region ?_
     refine l_sure false rfl rfl rfl rfl ?_
     refine RL ?_
     refine l_nil ?_
     refine c_false rfl ?_
     refine c_seq ?_
     refine c_region ?_
     refine l_sure true rfl rfl rfl rfl ?_
     refine RL ?_
     refine l_nil ?_
     refine c_true rfl ?_
     refine c_draw [(bL, blk (List.map (Value.int .i64) [a % 2, a / 2 % 2, a / 4 % 2, a / 8 % 2, a / 16 % 2, a / 32 % 2, a / 64 % 2, a / 128 % 2] ++ sp) 3)] [] (.step true 1 (.step true 2 (.step true 4 (.step true 5 (.step false 0 (.step false 3 (.step false 6 (.step true 7 .done)))))))) rfl (by kernel_rfl) (by kernel_rfl) (fun x hx => by obtain rfl := List.mem_singleton.1 hx; exact .head _) ?_
     refine RD ?_
     refine d_as (v := (.slice (some ⟨bL, 4, none⟩) 4 (ci - 4))) rfl (cut_slice1 4 8 rfl rfl rfl rfl rfl rfl (by decide) o_m) rfl rfl rfl (congrArg (fun x => Value.slice (some ⟨bL, x, none⟩) 4 (ci - 4)) (cut1_at o_m)) ?_
     refine RD ?_
     refine d_as (v := (.slice (some ⟨bL, 0, none⟩) 4 (ci - 0))) rfl (cut_slice1 0 4 rfl rfl rfl rfl rfl rfl (by decide) o_m) rfl rfl rfl (congrArg (fun x => Value.slice (some ⟨bL, x, none⟩) 4 (ci - 0)) (cut1_at o_m)) ?_
     refine d_x rfl (x_slc0 (el := 3) (n := 1) rfl) rfl rfl n_h ?_
     rintro _ _ ⟨b104, rfl, rfl⟩
     refine d_x rfl (x_append (A := []) (G := [(b104, blk [] 3)]) (R := [(bL, blk (List.map (Value.int .i64) [a % 2, a / 2 % 2, a / 4 % 2, a / 8 % 2, a / 16 % 2, a / 32 % 2, a / 64 % 2, a / 128 % 2] ++ sp) 3)]) (v := (.slice (some ⟨b104, 0, none⟩) 0 0)) (n := 0) (xs := []) (m := 4) (T := 3) (s := 1) (by_ := 8) (ys := [.int .i64 (a / 16 % 2), .int .i64 (a / 32 % 2), .int .i64 (a / 64 % 2), .int .i64 (a / 128 % 2)]) rfl rfl rfl rfl (.row b104 0 0 [] [] rfl rfl (by decide) (Nat.le_refl _)) (fun w hw => .row _ _ _ _ _ rfl (row_own_at m_m 4 4 rfl w hw)) rfl o_m o_m) rfl rfl n_h ?_
     rintro v107 _ ⟨G107, hV107, _, rfl⟩
     obtain ⟨a107, c107, rfl⟩ := hV107.slice
     refine d_x rfl (x_append (A := []) (G := G107) (R := [(bL, blk (List.map (Value.int .i64) [a % 2, a / 2 % 2, a / 4 % 2, a / 8 % 2, a / 16 % 2, a / 32 % 2, a / 64 % 2, a / 128 % 2] ++ sp) 3)]) (v := (.slice a107 (0 + 4) c107)) (n := 0 + 4) (xs := [.int .i64 (a / 16 % 2), .int .i64 (a / 32 % 2), .int .i64 (a / 64 % 2), .int .i64 (a / 128 % 2)]) (m := 4) (T := 3) (s := 1) (by_ := 8) (ys := [.int .i64 (a % 2), .int .i64 (a / 2 % 2), .int .i64 (a / 4 % 2), .int .i64 (a / 8 % 2)]) rfl rfl rfl rfl hV107 (fun w hw => .row _ _ _ _ _ rfl (row_own_at m_m 0 4 rfl w hw)) rfl o_m o_m) rfl rfl n_h ?_
     rintro v110 _ ⟨G110, hV110, _, rfl⟩
     obtain ⟨a110, c110, rfl⟩ := hV110.slice
     refine RD ?_
     refine d_nil ?_
     exact ⟨(.slice a110 _ c110, G110), hV110.as rfl rfl, .cons rfl (.cons (congrArg (Value.int .i64) rfl) .nil), a_g, fun w h => (h.sub (List.sublist_append_left _ _)).as (List.append_nil _).symm⟩
    ·refine c_region ?_
     refine l_sure false rfl rfl rfl rfl ?_
     refine RL ?_
     refine l_nil ?_
     refine c_false rfl ?_
     refine c_seq ?_
     refine c_region ?_
     refine l_sure false rfl rfl rfl rfl ?_
     refine RL ?_
     refine l_nil ?_
     refine c_false rfl ?_
     refine c_seq ?_
     refine c_region ?_
     refine l_sure false rfl rfl rfl rfl ?_
     refine RL ?_
     refine l_nil ?_
     refine c_false rfl ?_
     refine c_seq ?_
     refine c_region ?_
     refine l_sure false rfl rfl rfl rfl ?_
     refine RL ?_
     refine l_nil ?_
     refine c_false rfl ?_
     refine c_seq ?_
     refine c_region ?_
     refine l_sure false rfl rfl rfl rfl ?_
     refine RL ?_
     refine l_nil ?_
     refine c_false rfl ?_
     refine c_seq ?_
     refine c_region ?_
     refine l_sure false rfl rfl rfl rfl ?_
     refine RL ?_
     refine l_nil ?_
     refine c_false rfl ?_
     refine c_seq ?_
     refine c_region ?_
     refine l_sure false rfl rfl rfl rfl ?_
     refine RL ?_
     refine l_nil ?_
     refine c_false rfl ?_
     refine c_seq ?_
     refine c_region ?_
     refine l_sure true rfl rfl rfl rfl ?_
     refine RL ?_
     refine l_nil ?_
     refine c_true rfl ?_
     refine c_seq ?_
     refine c_region ?_
     refine RL ?_
     refine l_l (by first | exact idx_array1 0 rfl rfl rfl rfl (by decide) | exact idx_slice1 0 rfl rfl rfl rfl (by decide) | exact idx_array 0 rfl rfl rfl rfl (by decide) | exact idx_slice 0 rfl rfl rfl rfl (by decide)) rfl rfl ?_
     refine RLo ?_
     refine RL ?_
     refine l_nil ?_
     refine c_region ?_
     refine l_x (x_slc0 (el := 3) (n := 1) rfl) rfl rfl ?_
     rintro _ _ ⟨b116, rfl, rfl⟩
     refine RL ?_
     refine l_as (v := (.slice (some ⟨bL, 1, none⟩) 7 (ci - 1))) (cut_slice1 1 8 rfl rfl rfl rfl rfl rfl (by decide) o_m) rfl rfl (congrArg (fun x => Value.slice (some ⟨bL, x, none⟩) 7 (ci - 1)) (cut1_at o_m)) ?_
     refine l_x (x_append (A := []) (G := [(b116, blk [] 3)]) (R := [(bL, blk (List.map (Value.int .i64) [a % 2, a / 2 % 2, a / 4 % 2, a / 8 % 2, a / 16 % 2, a / 32 % 2, a / 64 % 2, a / 128 % 2] ++ sp) 3)]) (v := (.slice (some ⟨b116, 0, none⟩) 0 0)) (n := 0) (xs := []) (m := 7) (T := 3) (s := 1) (by_ := 8) (ys := [.int .i64 (a / 2 % 2), .int .i64 (a / 4 % 2), .int .i64 (a / 8 % 2), .int .i64 (a / 16 % 2), .int .i64 (a / 32 % 2), .int .i64 (a / 64 % 2), .int .i64 (a / 128 % 2)]) rfl rfl rfl rfl (.row b116 0 0 [] [] rfl rfl (by decide) (Nat.le_refl _)) (fun w hw => .row _ _ _ _ _ rfl (row_own_at m_m 1 7 rfl w hw)) rfl o_m o_m) rfl rfl ?_
     rintro v119 _ ⟨G119, hV119, _, rfl⟩
     obtain ⟨a119, c119, rfl⟩ := hV119.slice
     refine l_x (x_slc (z := [.int .i64 0]) (l := [.int .i64 (0)]) (ps := [(0, .int .i64 (0))]) rfl rfl rfl rfl rfl rfl) rfl rfl ?_
     rintro _ _ ⟨b120, rfl, rfl⟩
     refine l_x (x_append (A := [(b120, _)]) (G := G119) (R := [(bL, blk (List.map (Value.int .i64) [a % 2, a / 2 % 2, a / 4 % 2, a / 8 % 2, a / 16 % 2, a / 32 % 2, a / 64 % 2, a / 128 % 2] ++ sp) 3)]) (v := (.slice a119 (0 + 7) c119)) (n := 0 + 7) (xs := [.int .i64 (a / 2 % 2), .int .i64 (a / 4 % 2), .int .i64 (a / 8 % 2), .int .i64 (a / 16 % 2), .int .i64 (a / 32 % 2), .int .i64 (a / 64 % 2), .int .i64 (a / 128 % 2)]) (m := 1) (T := 3) (s := 1) (by_ := 8) (ys := [.int .i64 (0)]) rfl rfl rfl rfl hV119 (fun w hw => .row _ _ _ _ _ rfl (row_own m_m w hw)) rfl o_m o_m) rfl rfl ?_
     rintro v121 _ ⟨G121, hV121, _, rfl⟩
     obtain ⟨a121, c121, rfl⟩ := hV121.slice
     refine RL ?_
     refine l_nil ?_
     exact ⟨(.slice a121 _ c121, G121), hV121.as rfl rfl, .cons rfl (.cons (congrArg (Value.int .i64) rfl) .nil), a_g, fun w h => (h.sub (List.sublist_append_left _ _)).as (List.append_nil _).symm⟩
   ·rintro ⟨v9, G9⟩ y9 hV9
    dsimp only at hV9 ⊢
    obtain ⟨a9, c9, rfl, hc9, hgv⟩ := Lst.of_vec hV9
    refine c_seq ?_
    refine c_region ?_
    refine RL ?_
    refine l_x (x_val call_83 rfl (fun w hw => qbyteOf_fn (turnL j a f) (turnL_ok _ _ _) (by rw [turnL_len]; omega) a9 c9 w (Gives.ns hgv hw (fun x hx => List.mem_append_left _ hx)))) rfl rfl ?_
    rintro _ _ ⟨rfl, rfl⟩
    refine RL ?_
    refine l_nil ?_
    refine c_seq ?_
    refine c_region ?_
    iterate 5 refine RL ?_
    refine RLv call_46 (fun w hw => qflags_fn _ _ _ _ w) ?_
    refine RL ?_
    refine RL ?_
    refine l_nil ?_
    refine c_ret ?_
    have e8 : polI (turnL j a f) = turnR k a f := by rw [hj]; exact turnL_eq ha k f
    have e9 : fl (polI (turnL j a f) == 0) false false (turnU j a == 1) = turnF k a f := by rw [e8, show (turnU j a == 1) = turnO k a by rw [hj]; exact turnU_eq ha k]; rfl
    exact l_end0 (fun _ _ => rets_two rfl rfl) ⟨rfl, (congrArg Value.tuple ((congrArg (fun x => #[Value.int .u8 (polI (turnL j a f)), Value.int .u8 x]) e9).trans (congrArg (fun x => #[Value.int .u8 x, Value.int .u8 (turnF k a f)]) e8)))⟩

end Go.Proofs.YtjjemehigdpboaaGreat
namespace Go.Proofs.YtjjemehigdpboaaGreat
open Go Go.VV Go.Proofs
set_option linter.unusedSimpArgs false
set_option linter.unusedVariables false
set_option maxRecDepth 100000
set_option maxHeartbeats 1000000 in
theorem qssum_fn (sb : Nat) (s : CS) (hr : s.r.Ok) (k u : Int) (hu : 0 ≤ u ∧ u < 256) (G : Heap) (w : World) (hst : St w (sb :: G.map (·.1)) ((sb, blk (cS s) 26) :: G) w) : Does Tryz.prog 40 [.pointer (some ⟨sb, 0, none⟩), .int .i64 k, .int .u8 u] w (sb :: G.map (·.1)) (fun v H => v = .tuple #[] ∧ H = (sb, blk (cS { s with r := sumR s.r k u }) 26) :: G) := by
 have ha9 := hr.a
 have hf9 := hr.f
 refine does_of Tryz.func40 rfl rfl rfl hst ?_
 refine c_seq ?_
 refine c_region ?_
 refine RL ?_
 refine RL ?_
 refine RLa ?_
 refine RLa ?_
 refine RLo ?_
 refine RLv call_35 (fun w hw => qC_fn s.r.f hr.f w) ?_
 refine RL ?_
 refine l_nil ?_
 refine c_seq ?_
 refine c_region ?_
 refine RL ?_
 refine l_nil ?_
 refine c_block ?_
 refine c_seq ?_
 refine c_region ?_
 refine RL ?_
 refine RL ?_
 refine l_nil ?_
 refine c_cond rfl (fun h1 => ?_) (fun h1 => ?_)
 ·have h1n := r_f h1
  refine c_region ?_
  iterate 4 refine RL ?_
  refine RLa ?_
  refine RLa ?_
  refine RLo ?_
  refine RL ?_
  refine RLv call_77 (fun w hw => qadd_fn s.r.a u false hr.a hu w) ?_
  iterate 4 refine RL ?_
  refine RLa ?_
  refine RLa ?_
  refine l_x (x_storeTo (l' := cS { s with r := { s.r with a := addR s.r.a u false } }) 0 rfl rfl rfl rfl rfl rfl (Nat.le_of_ble_eq_true rfl) rfl) rfl rfl ?_
  rintro _ _ ⟨rfl, rfl⟩
  refine c_u ?_
  refine RL ?_
  refine RLa ?_
  refine RLa ?_
  refine l_x (x_storeTo (l' := cS { s with r := { s.r with a := addR s.r.a u false, f := addF s.r.a u false } }) 0 rfl rfl rfl rfl rfl rfl (Nat.le_of_ble_eq_true rfl) rfl) rfl rfl ?_
  rintro _ _ ⟨rfl, rfl⟩
  refine c_u ?_
  refine l_nil ?_
  obtain rfl : k = 0 := by omega
  exact l_end (fun _ _ => rets_none) (List.Sublist.refl _) ⟨rfl, rfl⟩
 ·have h1n := r_f h1
  refine c_seq ?_
  refine c_region ?_
  refine RL ?_
  refine RL ?_
  refine l_nil ?_
  refine c_cond rfl (fun h2 => ?_) (fun h2 => ?_)
  ·have h2n := r_f h2
   refine c_region ?_
   iterate 4 refine RL ?_
   refine RLa ?_
   refine RLa ?_
   refine RLo ?_
   refine RL ?_
   refine RL ?_
   refine RLv call_77 (fun w hw => qadd_fn s.r.a u (cF s.r.f) hr.a hu w) ?_
   iterate 4 refine RL ?_
   refine RLa ?_
   refine RLa ?_
   refine l_x (x_storeTo (l' := cS { s with r := { s.r with a := addR s.r.a u (cF s.r.f) } }) 0 rfl rfl rfl rfl rfl rfl (Nat.le_of_ble_eq_true rfl) rfl) rfl rfl ?_
   rintro _ _ ⟨rfl, rfl⟩
   refine c_u ?_
   refine RL ?_
   refine RLa ?_
   refine RLa ?_
   refine l_x (x_storeTo (l' := cS { s with r := { s.r with a := addR s.r.a u (cF s.r.f), f := addF s.r.a u (cF s.r.f) } }) 0 rfl rfl rfl rfl rfl rfl (Nat.le_of_ble_eq_true rfl) rfl) rfl rfl ?_
   rintro _ _ ⟨rfl, rfl⟩
   refine c_u ?_
   refine l_nil ?_
   obtain rfl : k = 1 := by omega
   exact l_end (fun _ _ => rets_none) (List.Sublist.refl _) ⟨rfl, rfl⟩
  ·have h2n := r_f h2
   refine c_seq ?_
   refine c_region ?_
   refine RL ?_
   refine RL ?_
   refine l_nil ?_
   refine c_cond rfl (fun h3 => ?_) (fun h3 => ?_)
   ·have h3n := r_f h3
    refine c_region ?_
    iterate 4 refine RL ?_
    refine RLa ?_
    refine RLa ?_
    refine RLo ?_
    refine RL ?_
    refine RLv call_78 (fun w hw => qsub_fn s.r.a u false hr.a hu w) ?_
    iterate 4 refine RL ?_
    refine RLa ?_
    refine RLa ?_
    refine l_x (x_storeTo (l' := cS { s with r := { s.r with a := subR s.r.a u false } }) 0 rfl rfl rfl rfl rfl rfl (Nat.le_of_ble_eq_true rfl) rfl) rfl rfl ?_
    rintro _ _ ⟨rfl, rfl⟩
    refine c_u ?_
    refine RL ?_
    refine RLa ?_
    refine RLa ?_
    refine l_x (x_storeTo (l' := cS { s with r := { s.r with a := subR s.r.a u false, f := subF s.r.a u false } }) 0 rfl rfl rfl rfl rfl rfl (Nat.le_of_ble_eq_true rfl) rfl) rfl rfl ?_
    rintro _ _ ⟨rfl, rfl⟩
    refine c_u ?_
    refine l_nil ?_
    obtain rfl : k = 2 := by omega
    exact l_end (fun _ _ => rets_none) (List.Sublist.refl _) ⟨rfl, rfl⟩
   ·have h3n := r_f h3
    refine c_seq ?_
    refine c_region ?_
    refine RL ?_
    refine RL ?_
    refine l_nil ?_
    refine c_cond rfl (fun h4 => ?_) (fun h4 => ?_)
    ·have h4n := r_f h4
     refine c_region ?_
     iterate 4 refine RL ?_
     refine RLa ?_
     refine RLa ?_
     refine RLo ?_
     refine RL ?_
     refine RL ?_
     refine RLv call_78 (fun w hw => qsub_fn s.r.a u (cF s.r.f) hr.a hu w) ?_
     iterate 4 refine RL ?_
     refine RLa ?_
     refine RLa ?_
     refine l_x (x_storeTo (l' := cS { s with r := { s.r with a := subR s.r.a u (cF s.r.f) } }) 0 rfl rfl rfl rfl rfl rfl (Nat.le_of_ble_eq_true rfl) rfl) rfl rfl ?_
     rintro _ _ ⟨rfl, rfl⟩
     refine c_u ?_
     refine RL ?_
     refine RLa ?_
     refine RLa ?_
     refine l_x (x_storeTo (l' := cS { s with r := { s.r with a := subR s.r.a u (cF s.r.f), f := subF s.r.a u (cF s.r.f) } }) 0 rfl rfl rfl rfl rfl rfl (Nat.le_of_ble_eq_true rfl) rfl) rfl rfl ?_
     rintro _ _ ⟨rfl, rfl⟩
     refine c_u ?_
     refine l_nil ?_
     obtain rfl : k = 3 := by omega
     exact l_end (fun _ _ => rets_none) (List.Sublist.refl _) ⟨rfl, rfl⟩
    ·have h4n := r_f h4
     refine c_seq ?_
     refine c_region ?_
     refine RL ?_
     refine RL ?_
     refine l_nil ?_
     refine c_cond rfl (fun h5 => ?_) (fun h5 => ?_)
     ·have h5n := r_f h5
      refine c_region ?_
      iterate 4 refine RL ?_
      refine RLa ?_
      refine RLa ?_
      refine RLo ?_
      refine RL ?_
      refine RLv call_79 (fun w hw => qlogic_fn 0 (by decide) s.r.a u hr.a hu w) ?_
      iterate 4 refine RL ?_
      refine RLa ?_
      refine RLa ?_
      refine l_x (x_storeTo (l' := cS { s with r := { s.r with a := lgR 0 s.r.a u } }) 0 rfl rfl rfl rfl rfl rfl (Nat.le_of_ble_eq_true rfl) rfl) rfl rfl ?_
      rintro _ _ ⟨rfl, rfl⟩
      refine c_u ?_
      refine RL ?_
      refine RLa ?_
      refine RLa ?_
      refine l_x (x_storeTo (l' := cS { s with r := { s.r with a := lgR 0 s.r.a u, f := logF 0 (lgR 0 s.r.a u) } }) 0 rfl rfl rfl rfl rfl rfl (Nat.le_of_ble_eq_true rfl) rfl) rfl rfl ?_
      rintro _ _ ⟨rfl, rfl⟩
      refine c_u ?_
      refine l_nil ?_
      obtain rfl : k = 4 := by omega
      exact l_end (fun _ _ => rets_none) (List.Sublist.refl _) ⟨rfl, by rw [lgR_0 hr.a hu]; rfl⟩
     ·have h5n := r_f h5
      refine c_seq ?_
      refine c_region ?_
      refine RL ?_
      refine RL ?_
      refine l_nil ?_
      refine c_cond rfl (fun h6 => ?_) (fun h6 => ?_)
      ·have h6n := r_f h6
       refine c_region ?_
       iterate 4 refine RL ?_
       refine RLa ?_
       refine RLa ?_
       refine RLo ?_
       refine RL ?_
       refine RLv call_79 (fun w hw => qlogic_fn 2 (by decide) s.r.a u hr.a hu w) ?_
       iterate 4 refine RL ?_
       refine RLa ?_
       refine RLa ?_
       refine l_x (x_storeTo (l' := cS { s with r := { s.r with a := lgR 2 s.r.a u } }) 0 rfl rfl rfl rfl rfl rfl (Nat.le_of_ble_eq_true rfl) rfl) rfl rfl ?_
       rintro _ _ ⟨rfl, rfl⟩
       refine c_u ?_
       refine RL ?_
       refine RLa ?_
       refine RLa ?_
       refine l_x (x_storeTo (l' := cS { s with r := { s.r with a := lgR 2 s.r.a u, f := logF 2 (lgR 2 s.r.a u) } }) 0 rfl rfl rfl rfl rfl rfl (Nat.le_of_ble_eq_true rfl) rfl) rfl rfl ?_
       rintro _ _ ⟨rfl, rfl⟩
       refine c_u ?_
       refine l_nil ?_
       obtain rfl : k = 5 := by omega
       exact l_end (fun _ _ => rets_none) (List.Sublist.refl _) ⟨rfl, by rw [lgR_2 hr.a hu]; rfl⟩
      ·have h6n := r_f h6
       refine c_seq ?_
       refine c_region ?_
       refine RL ?_
       refine RL ?_
       refine l_nil ?_
       refine c_cond rfl (fun h7 => ?_) (fun h7 => ?_)
       ·have h7n := r_f h7
        refine c_region ?_
        iterate 4 refine RL ?_
        refine RLa ?_
        refine RLa ?_
        refine RLo ?_
        refine RL ?_
        refine RLv call_79 (fun w hw => qlogic_fn 1 (by decide) s.r.a u hr.a hu w) ?_
        iterate 4 refine RL ?_
        refine RLa ?_
        refine RLa ?_
        refine l_x (x_storeTo (l' := cS { s with r := { s.r with a := lgR 1 s.r.a u } }) 0 rfl rfl rfl rfl rfl rfl (Nat.le_of_ble_eq_true rfl) rfl) rfl rfl ?_
        rintro _ _ ⟨rfl, rfl⟩
        refine c_u ?_
        refine RL ?_
        refine RLa ?_
        refine RLa ?_
        refine l_x (x_storeTo (l' := cS { s with r := { s.r with a := lgR 1 s.r.a u, f := logF 1 (lgR 1 s.r.a u) } }) 0 rfl rfl rfl rfl rfl rfl (Nat.le_of_ble_eq_true rfl) rfl) rfl rfl ?_
        rintro _ _ ⟨rfl, rfl⟩
        refine c_u ?_
        refine l_nil ?_
        obtain rfl : k = 6 := by omega
        exact l_end (fun _ _ => rets_none) (List.Sublist.refl _) ⟨rfl, by rw [lgR_1 hr.a hu]; rfl⟩
       ·have h7n := r_f h7
        refine c_seq ?_
        refine c_region ?_
        refine RL ?_
        refine RL ?_
        refine l_nil ?_
        refine c_cond rfl (fun h8 => ?_) (fun h8 => ?_)
        ·have h8n := r_f h8
         refine c_region ?_
         iterate 3 refine RL ?_
         refine RLa ?_
         refine RLa ?_
         refine RLo ?_
         refine RL ?_
         refine RLv call_78 (fun w hw => qsub_fn s.r.a u false hr.a hu w) ?_
         iterate 4 refine RL ?_
         refine RLa ?_
         refine RLa ?_
         refine l_x (x_storeTo (l' := cS { s with r := { s.r with f := subF s.r.a u false } }) 0 rfl rfl rfl rfl rfl rfl (Nat.le_of_ble_eq_true rfl) rfl) rfl rfl ?_
         rintro _ _ ⟨rfl, rfl⟩
         refine c_u ?_
         refine l_nil ?_
         obtain rfl : k = 7 := by omega
         exact l_end (fun _ _ => rets_none) (List.Sublist.refl _) ⟨rfl, rfl⟩
        ·have h8n := r_f h8
         refine c_skip ?_
         exact l_end (fun _ _ => rets_none) (List.Sublist.refl _) ⟨rfl, by rw [show sumR s.r k u = s.r by unfold sumR; repeat rw [if_neg o_m]]⟩

theorem qsfar_fn (sb : Nat) (s : CS) (hr : s.r.Ok) {β : Type} (m : β) (n : Int) (hn : n < 4) (G : Heap) (w : World) (hst : St w (sb :: G.map (·.1)) ((sb, blk (cS s) 26) :: G) w) : Does Tryz.prog 49 [.pointer (some ⟨sb, 0, none⟩), .int .i64 n] w (sb :: G.map (·.1)) (fun v H => v = .int .u16 (far n (⟨s, m⟩ : Rn β)).1 ∧ H = (sb, blk (cS (far n (⟨s, m⟩ : Rn β)).2.s) 26) :: G) := by
 have hp9 := pairR_word hr 2
 refine does_of Tryz.func49 rfl rfl rfl hst ?_
 refine c_seq ?_
 refine c_region ?_
 refine RL ?_
 refine l_nil ?_
 refine c_seq ?_
 refine c_seq ?_
 refine c_region ?_
 refine RL ?_
 refine RL ?_
 refine l_nil ?_
 refine c_cond rfl (fun h1 => ?_) (fun h1 => ?_)
 ·have h1n := r_f h1
  refine c_seq ?_
  refine c_region ?_
  refine RL ?_
  refine RL ?_
  refine RLv call_43 (fun w hw => qspair_fn sb s hr w (row_own (l := cS s) m_m w hw) n) ?_
  refine RL ?_
  refine l_nil ?_
  refine c_ret ?_
  have e9 : far n (⟨s, m⟩ : Rn β) = (pairR s.r n, ⟨s, m⟩) := if_pos o_m
  exact l_end (fun _ _ => rets_v rfl) (List.Sublist.refl _) ⟨by rw [e9], by rw [e9]⟩
 ·have h1n := r_f h1
  refine c_skip ?_
  refine c_seq ?_
  refine c_region ?_
  refine RL ?_
  refine RLv call_43 (fun w hw => qspair_fn sb s hr w (row_own (l := cS s) m_m w hw) 2) ?_
  refine RL ?_
  refine l_nil ?_
  refine c_seq ?_
  refine c_region ?_
  refine RL ?_
  refine l_nil ?_
  refine c_seq ?_
  refine c_seq ?_
  refine c_region ?_
  refine RL ?_
  refine RL ?_
  refine l_nil ?_
  refine c_cond rfl (fun h2 => ?_) (fun h2 => ?_)
  ·have h2n := r_f h2
   refine c_region ?_
   refine RL ?_
   refine l_nil ?_
   refine c_seq ?_
   refine c_draw [(sb, blk (cS s) 26)] [5, 6, 7, 8, 9] (.step true 0 (.step true 1 (.step true 2 (.step true 3 (.step true 4 (.step true 5 (.step true 6 (.step true 7 (.step true 8 (.step false 9 (.step false 10 (.step true 11 (.step true 12 (.step true 13 (.step true 14 (.step true 15 (.step false 16 .done))))))))))))))))) rfl (by kernel_rfl) (by kernel_rfl) (fun x hx => by obtain rfl := List.mem_singleton.1 hx; exact .head _) ?_
   iterate 3 refine RD ?_
   refine RDa ?_
   refine d_loadA rfl rfl rfl rfl (fun w hw => Row.left (srow_own (l := cS s) m_m w hw)) rfl rfl ?_
   refine RD ?_
   refine d_as rfl (l_conv rfl rfl rfl) rfl rfl rfl (by first | exact as_i64 o_m o_m | rfl) ?_
   refine RD ?_
   refine d_as (v := (.int .i64 ((pairR s.r 2) - 1))) rfl rfl rfl rfl rfl ((as_i64 o_m o_m).trans (congrArg _ o_m)) ?_
   refine d_x rfl (x_val call_22 rfl (fun w hw => qwordN_fn ((pairR s.r 2) - 1) o_m w)) rfl rfl (by intro _ _ _ hK x hx; obtain ⟨rfl, rfl⟩ := hK; repeat (first | exact hx | exact List.mem_append_left _ hx | refine List.mem_append_right _ ?_ | refine .tail _ ?_)) ?_
   rintro _ _ ⟨rfl, rfl⟩
   refine d_x rfl (x_call call_39 rfl (fun w hw => qsetPair_fn s.r 2 (dec16 (pairR s.r 2)) dec16_ok w)) rfl rfl n_h ?_
   rintro _ _ ⟨G27, ⟨rfl, k27, rfl⟩, rfl⟩
   refine d_mv rfl (vnf_eq rfl) rfl rfl ?_
   iterate 3 refine RD ?_
   refine RDa ?_
   refine d_x rfl (x_storeTo (l' := cS { s with r := setPR s.r 2 (dec16 (pairR s.r 2)) }) 0 rfl rfl rfl rfl rfl rfl (Nat.le_of_ble_eq_true rfl) rfl) rfl rfl n_h ?_
   rintro _ _ ⟨rfl, rfl⟩
   refine c_u ?_
   refine d_nil ?_
   refine c_seq ?_
   refine c_region ?_
   refine RL ?_
   refine RL ?_
   refine l_nil ?_
   refine c_ret ?_
   have e9 : far n (⟨s, m⟩ : Rn β) = (pairR s.r 2, ⟨{ s with r := setPR s.r 2 (dec16 (pairR s.r 2)) }, m⟩) := by unfold far; rw [if_neg (show ¬ n < 2 by omega), if_neg o_m]; rfl
   exact l_end (fun _ _ => rets_v rfl) (List.Sublist.refl _) ⟨by rw [e9], by rw [e9]⟩
  ·have h2n := r_f h2
   refine c_skip ?_
   refine c_seq ?_
   refine c_draw [(sb, blk (cS s) 26)] [5, 6, 7, 8, 9] (.step true 0 (.step true 1 (.step true 2 (.step true 3 (.step true 4 (.step true 5 (.step true 6 (.step true 7 (.step true 8 (.step false 9 (.step false 10 (.step true 11 (.step true 12 (.step true 13 (.step true 14 (.step true 15 (.step false 16 .done))))))))))))))))) rfl (by kernel_rfl) (by kernel_rfl) (fun x hx => by obtain rfl := List.mem_singleton.1 hx; exact .head _) ?_
   iterate 3 refine RD ?_
   refine RDa ?_
   refine d_loadA rfl rfl rfl rfl (fun w hw => Row.left (srow_own (l := cS s) m_m w hw)) rfl rfl ?_
   refine RD ?_
   refine d_as rfl (l_conv rfl rfl rfl) rfl rfl rfl (by first | exact as_i64 o_m o_m | rfl) ?_
   refine RD ?_
   refine d_as (v := (.int .i64 ((pairR s.r 2) + 1))) rfl rfl rfl rfl rfl ((as_i64 o_m o_m).trans (congrArg _ o_m)) ?_
   refine d_x rfl (x_val call_22 rfl (fun w hw => qwordN_fn ((pairR s.r 2) + 1) o_m w)) rfl rfl (by intro _ _ _ hK x hx; obtain ⟨rfl, rfl⟩ := hK; repeat (first | exact hx | exact List.mem_append_left _ hx | refine List.mem_append_right _ ?_ | refine .tail _ ?_)) ?_
   rintro _ _ ⟨rfl, rfl⟩
   refine d_x rfl (x_call call_39 rfl (fun w hw => qsetPair_fn s.r 2 (inc16 (pairR s.r 2)) inc16_ok w)) rfl rfl n_h ?_
   rintro _ _ ⟨G27, ⟨rfl, k27, rfl⟩, rfl⟩
   refine d_mv rfl (vnf_eq rfl) rfl rfl ?_
   iterate 3 refine RD ?_
   refine RDa ?_
   refine d_x rfl (x_storeTo (l' := cS { s with r := setPR s.r 2 (inc16 (pairR s.r 2)) }) 0 rfl rfl rfl rfl rfl rfl (Nat.le_of_ble_eq_true rfl) rfl) rfl rfl n_h ?_
   rintro _ _ ⟨rfl, rfl⟩
   refine c_u ?_
   refine d_nil ?_
   refine c_seq ?_
   refine c_region ?_
   refine RL ?_
   refine RL ?_
   refine l_nil ?_
   refine c_ret ?_
   have e9 : far n (⟨s, m⟩ : Rn β) = (pairR s.r 2, ⟨{ s with r := setPR s.r 2 (inc16 (pairR s.r 2)) }, m⟩) := by unfold far; rw [if_neg (show ¬ n < 2 by omega), if_pos o_m]; rfl
   exact l_end (fun _ _ => rets_v rfl) (List.Sublist.refl _) ⟨by rw [e9], by rw [e9]⟩

theorem qchanged_fn (b : Int) (n : Nat) (on : Bool) (hb : 0 ≤ b ∧ b < 256) (hn : n < 8) (w : World) : Does Tryz.prog 52 [.int .u8 b, .int .i64 n, .bool on] w [] (fun v H => H = [] ∧ v = .int .u8 (if on = true then setB b n else resB b n)) := by
 have hu9 := pow_up hn
 refine does_of Tryz.func52 rfl rfl rfl (St.refl w) ?_
 refine c_seq ?_
 refine c_region ?_
 refine RL ?_
 refine l_nil ?_
 refine c_seq ?_
 refine c_region ?_
 refine RL ?_
 refine l_nil ?_
 refine c_seq ?_
 refine c_seq ?_
 refine c_region ?_
 refine RL ?_
 refine l_nil ?_
 refine c_block ?_
 refine c_loop (σ := Nat) [7, 8, 11, 12, 13, 14, 15, 16, 17] (fun i => [(7, .int .i64 (2 ^ i)), (8, .int .i64 i)]) (fun _ => []) (fun i => i ≤ n) (fun i => n - i) 0 ?_ ?_ ?_ ?_
 ·exact Nat.zero_le _
 ·exact .cons rfl (.cons rfl .nil)
 ·exact fun _ h => h
 ·intro i y3 hi
  refine c_seq ?_
  refine c_seq ?_
  refine c_region ?_
  iterate 3 refine RL ?_
  refine l_nil ?_
  refine c_cond rfl (fun h1 => ?_) (fun h1 => ?_)
  ·have h1n := r_f h1
   refine c_skip ?_
   refine c_seq ?_
   refine c_block ?_
   have hi9 := pow_up (show i < 8 by omega)
   refine c_region ?_
   refine RL ?_
   refine l_as (v := (.int .i64 (2 ^ (i + 1)))) rfl rfl rfl ((as_i64 o_m o_m).trans (congrArg _ hi9.2.2.symm)) ?_
   refine RL ?_
   refine l_nil ?_
   refine c_region ?_
   refine RL ?_
   refine l_as (v := (.int .i64 ((i + 1 : Nat) : Int))) rfl rfl rfl (congrArg _ (succ_law o_m)) ?_
   refine RL ?_
   refine l_nil ?_
   exact ⟨i + 1, by omega, by omega, .cons rfl (.cons rfl .nil), a_g, fun _ h => h⟩
  ·have h1n := r_f h1
   refine c_exit rfl ?_
   refine c_seq ?_
   obtain rfl : i = n := by omega
   have hq9 := bit_ok b i
   have hh9 := half_le hb i
   have hk9 := bits_ok hb (n := (i : Int)) ⟨by omega, by omega⟩
   rcases (show bitI b i = 0 ∨ bitI b i = 1 by omega) with hz9 | hz9 <;> cases on
   ·refine c_region ?_
    refine RL ?_
    refine l_as (l_conv rfl rfl rfl) rfl rfl (by first | exact as_i64 o_m o_m | rfl) ?_
    refine RL ?_
    refine l_nil ?_
    refine c_seq ?_
    refine c_region ?_
    refine RL ?_
    refine RL ?_
    refine l_as (v := (.int .i64 (b / 2 ^ i))) (quo_pos rfl rfl (Int.ne_of_gt hu9.1)) rfl rfl (as_quo o_m (show _ < (9223372036854775808 : Int) by omega) hu9.1) ?_
    refine l_as (rem_pos rfl rfl (by decide)) rfl rfl (by first | exact as_rem o_m | rfl) ?_
    refine l_sure false rfl rfl rfl (beq_eq_false_iff_ne.2 (fun h9 => by rw [show b / 2 ^ i % 2 = 0 from hz9] at h9; cases h9)) ?_
    refine RL ?_
    refine l_nil ?_
    refine c_seq ?_
    refine c_seq ?_
    refine c_region ?_
    refine RL ?_
    refine RL ?_
    refine RLp ?_
    refine RLp ?_
    refine RL ?_
    refine l_nil ?_
    refine c_false rfl ?_
    refine c_skip ?_
    refine c_seq ?_
    refine c_seq ?_
    refine c_region ?_
    iterate 3 refine RL ?_
    refine l_sure false rfl rfl rfl rfl ?_
    refine RL ?_
    refine l_nil ?_
    refine c_false rfl ?_
    refine c_skip ?_
    refine c_seq ?_
    refine c_region ?_
    refine RL ?_
    refine l_as (v := (.int .u8 (resB b i))) rfl rfl rfl ((congrArg (fun z => Value.int .u8 (IntKind.u8.wrap z)) (show b = resB b i by unfold resB; rw [Int.toNat_natCast, show b / 2 ^ i % 2 = 0 from hz9]; omega)).trans (as_u8 hk9.1.1 hk9.1.2)) ?_
    refine RL ?_
    refine l_nil ?_
    refine c_ret ?_
    exact l_end0 (fun _ _ => rets_v rfl) ⟨rfl, rfl⟩
   ·refine c_region ?_
    refine RL ?_
    refine l_as (l_conv rfl rfl rfl) rfl rfl (by first | exact as_i64 o_m o_m | rfl) ?_
    refine RL ?_
    refine l_nil ?_
    refine c_seq ?_
    refine c_region ?_
    refine RL ?_
    refine RL ?_
    refine l_as (v := (.int .i64 (b / 2 ^ i))) (quo_pos rfl rfl (Int.ne_of_gt hu9.1)) rfl rfl (as_quo o_m (show _ < (9223372036854775808 : Int) by omega) hu9.1) ?_
    refine l_as (rem_pos rfl rfl (by decide)) rfl rfl (by first | exact as_rem o_m | rfl) ?_
    refine l_sure false rfl rfl rfl (beq_eq_false_iff_ne.2 (fun h9 => by rw [show b / 2 ^ i % 2 = 0 from hz9] at h9; cases h9)) ?_
    refine RL ?_
    refine l_nil ?_
    refine c_seq ?_
    refine c_seq ?_
    refine c_region ?_
    refine RL ?_
    refine RL ?_
    refine RLp ?_
    refine RLp ?_
    refine RL ?_
    refine l_nil ?_
    refine c_false rfl ?_
    refine c_skip ?_
    refine c_seq ?_
    refine c_seq ?_
    refine c_region ?_
    iterate 3 refine RL ?_
    refine l_sure true rfl rfl rfl rfl ?_
    refine RL ?_
    refine l_nil ?_
    refine c_true rfl ?_
    refine c_region ?_
    refine RL ?_
    refine RL ?_
    refine l_as (l_add rfl rfl) rfl rfl (by first | exact as_i64 o_m o_m | rfl) ?_
    refine RL ?_
    refine l_nil ?_
    refine c_seq ?_
    refine c_region ?_
    refine RL ?_
    refine l_as (v := (.int .u8 (setB b i))) rfl rfl rfl ((congrArg (fun z => Value.int .u8 (IntKind.u8.wrap z)) (show b + 2 ^ i = setB b i by unfold setB; rw [Int.toNat_natCast, show b / 2 ^ i % 2 = 0 from hz9]; omega)).trans (as_u8 hk9.2.1 hk9.2.2)) ?_
    refine RL ?_
    refine l_nil ?_
    refine c_ret ?_
    exact l_end0 (fun _ _ => rets_v rfl) ⟨rfl, rfl⟩
   ·refine c_region ?_
    refine RL ?_
    refine l_as (l_conv rfl rfl rfl) rfl rfl (by first | exact as_i64 o_m o_m | rfl) ?_
    refine RL ?_
    refine l_nil ?_
    refine c_seq ?_
    refine c_region ?_
    refine RL ?_
    refine RL ?_
    refine l_as (v := (.int .i64 (b / 2 ^ i))) (quo_pos rfl rfl (Int.ne_of_gt hu9.1)) rfl rfl (as_quo o_m (show _ < (9223372036854775808 : Int) by omega) hu9.1) ?_
    refine l_as (rem_pos rfl rfl (by decide)) rfl rfl (by first | exact as_rem o_m | rfl) ?_
    refine l_sure true rfl rfl rfl (beq_iff_eq.2 hz9) ?_
    refine RL ?_
    refine l_nil ?_
    refine c_seq ?_
    refine c_seq ?_
    refine c_region ?_
    refine RL ?_
    refine RL ?_
    refine l_sure false rfl rfl rfl rfl ?_
    refine RL ?_
    refine RL ?_
    refine l_nil ?_
    refine c_true rfl ?_
    refine c_region ?_
    refine RL ?_
    refine RL ?_
    refine l_as (l_sub rfl rfl) rfl rfl (by first | exact as_i64 o_m o_m | rfl) ?_
    refine RL ?_
    refine l_nil ?_
    refine c_seq ?_
    refine c_seq ?_
    refine c_region ?_
    iterate 3 refine RL ?_
    refine RLp ?_
    refine RL ?_
    refine l_nil ?_
    refine c_false rfl ?_
    refine c_skip ?_
    refine c_seq ?_
    refine c_region ?_
    refine RL ?_
    refine l_as (v := (.int .u8 (resB b i))) rfl rfl rfl ((congrArg (fun z => Value.int .u8 (IntKind.u8.wrap z)) (show b - 2 ^ i = resB b i by unfold resB; rw [Int.toNat_natCast, show b / 2 ^ i % 2 = 1 from hz9]; omega)).trans (as_u8 hk9.1.1 hk9.1.2)) ?_
    refine RL ?_
    refine l_nil ?_
    refine c_ret ?_
    exact l_end0 (fun _ _ => rets_v rfl) ⟨rfl, rfl⟩
   ·refine c_region ?_
    refine RL ?_
    refine l_as (l_conv rfl rfl rfl) rfl rfl (by first | exact as_i64 o_m o_m | rfl) ?_
    refine RL ?_
    refine l_nil ?_
    refine c_seq ?_
    refine c_region ?_
    refine RL ?_
    refine RL ?_
    refine l_as (v := (.int .i64 (b / 2 ^ i))) (quo_pos rfl rfl (Int.ne_of_gt hu9.1)) rfl rfl (as_quo o_m (show _ < (9223372036854775808 : Int) by omega) hu9.1) ?_
    refine l_as (rem_pos rfl rfl (by decide)) rfl rfl (by first | exact as_rem o_m | rfl) ?_
    refine l_sure true rfl rfl rfl (beq_iff_eq.2 hz9) ?_
    refine RL ?_
    refine l_nil ?_
    refine c_seq ?_
    refine c_seq ?_
    refine c_region ?_
    refine RL ?_
    refine RL ?_
    refine l_sure true rfl rfl rfl rfl ?_
    refine RL ?_
    refine RL ?_
    refine l_nil ?_
    refine c_false rfl ?_
    refine c_skip ?_
    refine c_seq ?_
    refine c_seq ?_
    refine c_region ?_
    iterate 3 refine RL ?_
    refine RLp ?_
    refine RL ?_
    refine l_nil ?_
    refine c_false rfl ?_
    refine c_skip ?_
    refine c_seq ?_
    refine c_region ?_
    refine RL ?_
    refine l_as (v := (.int .u8 (setB b i))) rfl rfl rfl ((congrArg (fun z => Value.int .u8 (IntKind.u8.wrap z)) (show b = setB b i by unfold setB; rw [Int.toNat_natCast, show b / 2 ^ i % 2 = 1 from hz9]; omega)).trans (as_u8 hk9.2.1 hk9.2.2)) ?_
    refine RL ?_
    refine l_nil ?_
    refine c_ret ?_
    exact l_end0 (fun _ _ => rets_v rfl) ⟨rfl, rfl⟩

theorem qres_fn (b x : Int) (hb : 0 ≤ b ∧ b < 256) (hx : 0 ≤ x ∧ x < 8) (w : World) : Does Tryz.prog 52 [.int .u8 b, .int .i64 x, .bool false] w [] (fun v H => H = [] ∧ v = .int .u8 (resB b x)) := by
 have h9 := qchanged_fn b x.toNat false hb o_m w
 rwa [Int.toNat_of_nonneg hx.1] at h9
theorem qsetb_fn (b x : Int) (hb : 0 ≤ b ∧ b < 256) (hx : 0 ≤ x ∧ x < 8) (w : World) : Does Tryz.prog 52 [.int .u8 b, .int .i64 x, .bool true] w [] (fun v H => H = [] ∧ v = .int .u8 (setB b x)) := by
 have h9 := qchanged_fn b x.toNat true hb o_m w
 rwa [Int.toNat_of_nonneg hx.1] at h9

end Go.Proofs.YtjjemehigdpboaaGreat
