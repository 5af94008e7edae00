/- The contracts of sorting. -/
import Derived.Test.YtjceoaomkbabmaaSort
import Derived.Test.YtjceoaomkbabmaaScan
import Derived.Test.YtjceoaomkbabmaaVvK
import Derived.Test.YtjceoaomkbabmaaCalls
namespace Go.Proofs.Ytjceoaomkbabmaa
open Go Go.VV Go.Proofs
set_option linter.unusedSimpArgs false
set_option linter.unusedVariables false
set_option maxRecDepth 100000

theorem isnan_fn (x : Int) (w : World) : Does Try.prog 76 [.int .i64 x] w [] (fun v H => H = [] ∧ v = .bool false) := by
  refine does_of Try.func76 rfl rfl rfl (St.refl w) ?_
  refine c_seq ?_
  refine c_region ?_
  refine l_l rfl rfl rfl ?_
  refine l_nil ?_
  refine c_seq ?_
  refine c_region ?_
  refine l_l rfl rfl rfl ?_
  refine l_l rfl rfl rfl ?_
  refine l_l rfl rfl rfl ?_
  refine l_l rfl rfl rfl ?_
  refine l_nil ?_
  refine c_ret ?_
  exact l_end0 (fun _ _ => rets_v rfl) ⟨rfl, (congrArg _ (by simp))⟩

theorem compare_fn (x y : Int) (w : World) : Does Try.prog 62 [.int .i64 x, .int .i64 y] w [] (fun v H => H = [] ∧ v = .int .i64 (cmpI x y)) := by
  refine does_of Try.func62 rfl rfl rfl (St.refl w) ?_
  refine c_seq ?_
  refine c_region ?_
  refine l_l rfl rfl rfl ?_
  refine l_nil ?_
  refine c_seq ?_
  refine c_region ?_
  refine l_l rfl rfl rfl ?_
  refine l_x (x_val call_76 rfl (fun w hw => isnan_fn _ w)) rfl rfl ?_
  rintro _ _ ⟨rfl, rfl⟩
  refine l_l rfl rfl rfl ?_
  refine l_nil ?_
  refine c_seq ?_
  refine c_region ?_
  refine l_l rfl rfl rfl ?_
  refine l_x (x_val call_76 rfl (fun w hw => isnan_fn _ w)) rfl rfl ?_
  rintro _ _ ⟨rfl, rfl⟩
  refine l_l rfl rfl rfl ?_
  refine l_nil ?_
  refine c_seq ?_
  refine c_seq ?_
  refine c_region ?_
  refine l_l rfl rfl rfl ?_
  refine l_nil ?_
  refine c_false rfl ?_
  refine c_skip ?_
  refine c_seq ?_
  refine c_seq ?_
  refine c_region ?_
  refine l_l rfl rfl rfl ?_
  refine l_nil ?_
  refine c_false rfl ?_
  refine c_skip ?_
  refine c_seq ?_
  refine c_seq ?_
  refine c_region ?_
  refine l_l rfl rfl rfl ?_
  refine l_l rfl rfl rfl ?_
  refine l_l rfl rfl rfl ?_
  refine l_nil ?_
  refine c_cond rfl (fun h1 => ?_) (fun h1 => ?_)
  · refine c_seq ?_
    refine c_region ?_
    refine l_l rfl rfl rfl ?_
    refine l_nil ?_
    refine c_ret ?_
    exact l_end0 (fun _ _ => rets_v rfl) ⟨rfl, (congrArg _ (by simp at *; unfold cmpI; split <;> (try split) <;> omega))⟩
  · refine c_skip ?_
    refine c_seq ?_
    refine c_seq ?_
    refine c_region ?_
    refine l_l rfl rfl rfl ?_
    refine l_l rfl rfl rfl ?_
    refine l_l rfl rfl rfl ?_
    refine l_nil ?_
    refine c_cond rfl (fun h2 => ?_) (fun h2 => ?_)
    · refine c_seq ?_
      refine c_region ?_
      refine l_l rfl rfl rfl ?_
      refine l_nil ?_
      refine c_ret ?_
      exact l_end0 (fun _ _ => rets_v rfl) ⟨rfl, (congrArg _ (by simp at *; unfold cmpI; split <;> (try split) <;> omega))⟩
    · refine c_skip ?_
      refine c_seq ?_
      refine c_region ?_
      refine l_l rfl rfl rfl ?_
      refine l_nil ?_
      refine c_ret ?_
      exact l_end0 (fun _ _ => rets_v rfl) ⟨rfl, (congrArg _ (by simp at *; unfold cmpI; split <;> (try split) <;> omega))⟩

theorem line1_fn (a b : Sp) (w : World) : Does Try.prog 61 [.agg (spc a).toArray, .agg (spc b).toArray] w [] (fun v H => H = [] ∧ v = .int .i64 (cmpI a.x b.x)) := by
  refine does_of Try.func61 rfl rfl rfl (St.refl w) ?_
  refine c_seq ?_
  refine c_region ?_
  refine l_x (x_box rfl rfl) rfl rfl ?_
  rintro _ _ ⟨b2, rfl, rfl⟩
  refine l_x (x_box rfl rfl) rfl rfl ?_
  rintro _ _ ⟨b3, rfl, rfl⟩
  refine l_l rfl rfl rfl ?_
  refine l_nil ?_
  refine c_seq ?_
  refine c_region ?_
  refine l_l (light_fa rfl rfl) rfl rfl ?_
  refine l_x (x_load rfl rfl (at_own (by repeat (first | exact .head _ | refine .tail _ ?_ | refine List.mem_append_right _ ?_)) (by rfl))) rfl rfl ?_
  rintro _ _ ⟨rfl, rfl⟩
  refine l_l (light_fa rfl rfl) rfl rfl ?_
  refine l_x (x_load rfl rfl (at_own (by repeat (first | exact .head _ | refine .tail _ ?_ | refine List.mem_append_right _ ?_)) (by rfl))) rfl rfl ?_
  rintro _ _ ⟨rfl, rfl⟩
  refine l_x (x_val call_62 rfl (fun w hw => compare_fn _ _ w)) rfl rfl ?_
  rintro _ _ ⟨rfl, rfl⟩
  refine l_l rfl rfl rfl ?_
  refine l_nil ?_
  refine c_ret ?_
  exact l_end0 (fun _ _ => rets_v rfl) ⟨rfl, rfl⟩

theorem ins_fn (b n cap : Nat) (l : List Sp) (sp' : List Value) (hn : l.length = n) (h10 : n ≤ 1000) (w : World) (hb : w.heap[b]? = some (blk (flat spc l ++ sp') 91)) :
    Does Try.prog 86 [.slice (some ⟨b, 0, none⟩) n cap, .int .i64 0, .int .i64 n, .func (.func 61) #[] #[]] w [b] (fun v H => v = .tuple #[] ∧ H = [(b, blk (flat spc (isort l) ++ sp') 91)]) := by
  refine does_of Try.func86 rfl rfl rfl (St.lent1 hb) ?_
  refine c_seq ?_
  refine c_region ?_
  refine l_l rfl rfl rfl ?_
  refine l_l rfl rfl rfl ?_
  refine l_l rfl rfl rfl ?_
  refine l_nil ?_
  refine c_block ?_
  refine c_loop (σ := Nat) [8, 9, 12, 13, 14, 15, 16, 17, 18, 19, 20, 21, 22, 23, 24, 25, 26, 27, 28, 29, 30, 31, 32, 33, 34, 35, 36, 37, 38, 39, 40, 41, 42, 43, 44, 45, 46, 47, 48, 49, 50, 51, 52] (fun i => [(8, .int .i64 i)]) (fun i => [(b, blk (flat spc (isort (l.take i) ++ l.drop i) ++ sp') 91)]) (fun i => 1 ≤ i ∧ (i ≤ n ∨ i = 1)) (fun i => n - i) 1 ?_ ?_ ?_ ?_
  · exact ⟨by omega, .inr rfl⟩
  · exact .cons rfl .nil
  · exact fun w h => by rw [isort_one]; exact h
  · rintro i y ⟨hi1, hi2⟩
    refine c_seq ?_
    refine c_seq ?_
    refine c_region ?_
    refine l_l rfl rfl rfl ?_
    refine l_l rfl rfl rfl ?_
    refine l_l rfl rfl rfl ?_
    refine l_nil ?_
    refine c_cond rfl (fun h1 => ?_) (fun h1 => ?_)
    · refine c_skip ?_
      refine c_seq ?_
      refine c_block ?_
      refine c_seq ?_
      have hin : i < n := by simp at *; omega
      have hlt : i < l.length := by omega
      obtain ⟨e, R, hd, hR, hI⟩ : ∃ e R, l.drop i = e :: R ∧ R = l.drop (i + 1) ∧ isort (l.take (i + 1)) = insB e (isort (l.take i)).reverse [] := ⟨l[i], l.drop (i + 1), List.drop_eq_getElem_cons hlt, rfl, isort_next hlt⟩
      have hS : (isort (l.take i)).length = i := by rw [isort_len, List.length_take]; omega
      refine c_region ?_
      refine l_l rfl rfl rfl ?_
      refine l_l rfl rfl rfl ?_
      refine l_nil ?_
      refine c_block ?_
      refine c_loop (σ := List Sp × List Sp) [9, 18, 19, 20, 21, 22, 23, 24, 25, 26, 27, 28, 29, 30, 31, 32, 33, 34, 35, 36, 37, 38, 39, 40, 41, 42, 43, 44, 45, 46, 47, 48, 49, 50, 51, 52] (fun s => [(9, .int .i64 s.1.length)]) (fun s => [(b, blk (flat spc (s.1 ++ e :: (s.2 ++ R)) ++ sp') 91)]) (fun s => insB e s.1.reverse s.2 = insB e (isort (l.take i)).reverse [] ∧ s.1.length + s.2.length = i) (fun s => s.1.length) (isort (l.take i), []) ?_ ?_ ?_ ?_
      · exact ⟨rfl, hS⟩
      · exact .cons (congrArg (fun k : Nat => Value.int .i64 k) hS.symm) .nil
      · exact fun w h => by rw [hd] at h; exact h
      · rintro ⟨A, B⟩ y2 ⟨hI2, hAB⟩
        simp only at hI2 hAB ⊢
        refine c_seq ?_
        refine c_seq ?_
        refine c_draw _ [9, 10, 11, 12, 13] (.step true 0 (.step true 1 (.step true 2 (.step true 3 (.step true 4 (.step true 5 (.step true 6 (.step true 7 (.step true 8 (.step true 9 (.step true 10 (.step true 11 (.step true 12 (.step true 13 (.step false 14 (.step true 15 (.step true 16 .done))))))))))))))))) rfl (by kernel_rfl) (by kernel_rfl) (fun _ h => h) ?_
        refine d_light rfl rfl rfl rfl rfl ?_
        refine d_light rfl rfl rfl rfl rfl ?_
        refine d_light rfl rfl rfl rfl rfl ?_
        refine d_bool rfl rfl rfl rfl (fun h2 => ?_) (fun h2 => ?_)
        · obtain ⟨A', x, rfl⟩ := snoc_of (l := A) (by simp at *; omega)
          refine d_light rfl rfl rfl rfl rfl ?_
          refine d_light rfl rfl rfl rfl rfl ?_
          refine d_light rfl rfl rfl rfl rfl ?_
          refine d_light rfl (idx_slice (s := 5) (A' ++ [x]).length rfl rfl rfl rfl (by simp at *; omega)) rfl rfl rfl ?_
          refine d_loadA rfl rfl rfl rfl (fun w hS => Row.elem spc_len (srow_own (.head _) w hS)) rfl rfl ?_
          refine d_light rfl rfl rfl rfl rfl ?_
          refine d_light rfl rfl rfl rfl rfl ?_
          refine d_as (v := (.int .i64 (A'.length : Int))) rfl rfl rfl rfl rfl (congrArg _ (pred_len (by simp at *; omega))) ?_
          refine d_light rfl (idx_slice (s := 5) A'.length rfl rfl rfl rfl (by simp at *; omega)) rfl rfl rfl ?_
          refine d_loadA rfl rfl rfl rfl (fun w hS => Row.elem2 spc_len (srow_own (.head _) w hS)) rfl rfl ?_
          refine d_x rfl (x_valV (A := []) (B := []) rfl call_61 rfl (fun w hw => line1_fn e x w)) rfl rfl (by intro h; cases h) ?_
          rintro _ _ ⟨rfl, rfl⟩
          refine d_light rfl rfl rfl rfl rfl ?_
          refine d_light rfl rfl rfl rfl rfl ?_
          refine d_nil ?_
          refine c_cond rfl (fun h3 => ?_) (fun h3 => ?_)
          · refine c_skip ?_
            refine c_seq ?_
            refine c_block ?_
            refine c_draw _ [10, 11, 12, 13] (.step true 0 (.step true 1 (.step true 2 (.step true 3 (.step true 4 (.step true 5 (.step true 6 (.step true 7 (.step true 8 (.step true 9 (.step true 10 (.step true 11 (.step true 12 (.step true 13 (.step true 14 (.step false 15 (.step true 16 (.step false 17 .done)))))))))))))))))) rfl (by kernel_rfl) (by kernel_rfl) (fun _ h => h) ?_
            refine d_light rfl rfl rfl rfl rfl ?_
            refine d_light rfl rfl rfl rfl rfl ?_
            refine d_light rfl rfl rfl rfl rfl ?_
            refine d_light rfl rfl rfl rfl rfl ?_
            refine d_as (v := (.int .i64 (A'.length : Int))) rfl rfl rfl rfl rfl (congrArg _ (pred_len (by simp at *; omega))) ?_
            refine d_light rfl rfl rfl rfl rfl ?_
            refine d_light rfl rfl rfl rfl rfl ?_
            refine d_as (v := (.int .i64 (A'.length : Int))) rfl rfl rfl rfl rfl (congrArg _ (pred_len (by simp at *; omega))) ?_
            refine d_light rfl (idx_slice (s := 5) A'.length rfl rfl rfl rfl (by simp at *; omega)) rfl rfl rfl ?_
            refine d_loadA rfl rfl rfl rfl (fun w hS => Row.elem2 spc_len (srow_own (.head _) w hS)) rfl rfl ?_
            refine d_light rfl rfl rfl rfl rfl ?_
            refine d_light rfl rfl rfl rfl rfl ?_
            refine d_light rfl (idx_slice (s := 5) (A' ++ [x]).length rfl rfl rfl rfl (by simp at *; omega)) rfl rfl rfl ?_
            refine d_loadA rfl rfl rfl rfl (fun w hS => Row.elem spc_len (srow_own (.head _) w hS)) rfl rfl ?_
            refine d_light rfl (idx_slice (s := 5) (A' ++ [x]).length rfl rfl rfl rfl (by simp at *; omega)) rfl rfl rfl ?_
            refine d_x rfl (x_store (vs := spc x) 0 rfl rfl rfl rfl rfl rfl (flat_fits spc_len _ _ _ _ _)) rfl rfl (by intro h; cases h) ?_
            rintro _ _ ⟨rfl, rfl⟩
            rw [List.set_cons_zero, putL_flat2 spc_len]
            refine d_light rfl (idx_slice (s := 5) A'.length rfl rfl rfl rfl (by simp at *; omega)) rfl rfl rfl ?_
            refine d_x rfl (x_store (vs := spc e) 0 rfl rfl rfl rfl rfl rfl (flat_fits spc_len _ _ _ _ _)) rfl rfl (by intro h; cases h) ?_
            rintro _ _ ⟨rfl, rfl⟩
            rw [List.set_cons_zero, putL_flat spc_len]
            refine d_nil ?_
            refine c_region ?_
            refine l_l rfl rfl rfl ?_
            refine l_as (v := (.int .i64 (A'.length : Int))) rfl rfl rfl (congrArg _ (pred_len (by simp at *; omega))) ?_
            refine l_l rfl rfl rfl ?_
            refine l_nil ?_
            exact ⟨(A', x :: B), ⟨by rw [← insB_step e x A' B (by have h0 := h3; rw [cmpI_lt] at h0; simpa using h0)]; exact hI2, by simp at *; omega⟩, by simp, .cons rfl .nil, (by repeat (first | exact Agree.refl _ _ | exact Agree.mix rfl | refine Agree.put rfl ?_ | refine Agree.keep rfl ?_)), fun _ h => h⟩
          · refine c_exit rfl ?_
            refine c_region ?_
            refine l_l rfl rfl rfl ?_
            refine l_l rfl rfl rfl ?_
            refine l_l rfl rfl rfl ?_
            refine l_nil ?_
            exact ⟨i + 1, ⟨by omega, .inl (by omega)⟩, by omega, .cons (congrArg _ (succ_law (by omega))) .nil, (by repeat (first | exact Agree.refl _ _ | exact Agree.mix rfl | refine Agree.put rfl ?_ | refine Agree.keep rfl ?_)), fun w h => by rw [ins_done (.inr ⟨A', x, rfl, by have h0 := h3; rw [cmpI_lt] at h0; simpa using h0⟩) hI2, ← hI, hR] at h; exact h⟩
        · refine d_pass rfl rfl rfl ?_
          refine d_pass rfl rfl rfl ?_
          refine d_pass rfl rfl rfl ?_
          refine d_pass rfl rfl rfl ?_
          refine d_pass rfl rfl rfl ?_
          refine d_pass rfl rfl rfl ?_
          refine d_pass rfl rfl rfl ?_
          refine d_pass rfl rfl rfl ?_
          refine d_pass rfl rfl rfl ?_
          refine d_pass rfl rfl rfl ?_
          refine d_passH rfl rfl rfl ?_
          refine d_pass rfl rfl rfl ?_
          refine d_light rfl rfl rfl rfl rfl ?_
          refine d_nil ?_
          refine c_false rfl ?_
          refine c_exit rfl ?_
          refine c_region ?_
          refine l_l rfl rfl rfl ?_
          refine l_l rfl rfl rfl ?_
          refine l_l rfl rfl rfl ?_
          refine l_nil ?_
          exact ⟨i + 1, ⟨by omega, .inl (by omega)⟩, by omega, .cons (congrArg _ (succ_law (by omega))) .nil, (by repeat (first | exact Agree.refl _ _ | exact Agree.mix rfl | refine Agree.put rfl ?_ | refine Agree.keep rfl ?_)), fun w h => by rw [ins_done (.inl (List.eq_nil_of_length_eq_zero (by simp at *; omega))) hI2, ← hI, hR] at h; exact h⟩
    · refine c_exit rfl ?_
      exact l_end (fun _ _ => rets_none) (List.Sublist.refl _) ⟨rfl, by rw [isort_end (by simp at *; omega)]⟩

theorem insnil_fn (w : World) :
    Does Try.prog 86 [.slice none 0 0, .int .i64 0, .int .i64 0, .func (.func 61) #[] #[]] w [] (fun v H => H = [] ∧ v = .tuple #[]) := by
  refine does_of Try.func86 rfl rfl rfl (St.refl w) ?_
  refine c_seq ?_
  refine c_region ?_
  refine l_l rfl rfl rfl ?_
  refine l_l rfl rfl rfl ?_
  refine l_l rfl rfl rfl ?_
  refine l_nil ?_
  refine c_block ?_
  refine c_loopk (σ := Unit) [8, 9, 12, 13, 14, 15, 16, 17, 18, 19, 20, 21, 22, 23, 24, 25, 26, 27, 28, 29, 30, 31, 32, 33, 34, 35, 36, 37, 38, 39, 40, 41, 42, 43, 44, 45, 46, 47, 48, 49, 50, 51, 52] (fun _ => [(8, .int .i64 1)]) (fun _ => True) (fun _ => 0) () ?_ ?_ ?_
  · trivial
  · exact .cons rfl .nil
  · rintro _ y _
    refine c_seq ?_
    refine c_seq ?_
    refine c_region ?_
    refine l_l rfl rfl rfl ?_
    refine l_l rfl rfl rfl ?_
    refine l_sure false rfl rfl rfl (by decide) ?_
    refine l_nil ?_
    refine c_false rfl ?_
    refine c_exit rfl ?_
    exact l_end0 (fun _ _ => rets_none) ⟨rfl, rfl⟩

theorem stable_fn (b n cap : Nat) (l : List Sp) (sp' : List Value) (hn : l.length = n) (h10 : n ≤ 10) (w : World) (hb : w.heap[b]? = some (blk (flat spc l ++ sp') 91)) :
    Does Try.prog 75 [.slice (some ⟨b, 0, none⟩) n cap, .int .i64 n, .func (.func 61) #[] #[]] w [b] (fun v H => v = .tuple #[] ∧ H = [(b, blk (flat spc (isort l) ++ sp') 91)]) := by
  refine does_of Try.func75 rfl rfl rfl (St.lent1 hb) ?_
  refine c_seq ?_
  refine c_region ?_
  refine l_l rfl rfl rfl ?_
  refine l_nil ?_
  refine c_seq ?_
  refine c_region ?_
  refine l_l rfl rfl rfl ?_
  refine l_l rfl rfl rfl ?_
  refine l_l rfl rfl rfl ?_
  refine l_nil ?_
  refine c_seq ?_
  refine c_block ?_
  refine c_loopk (σ := Unit) [7, 8, 11, 12, 13, 14, 15, 16, 17, 18, 19, 20, 21, 22] (fun _ => [(7, .int .i64 0), (8, .int .i64 20)]) (fun _ => True) (fun _ => 0) () ?_ ?_ ?_
  · trivial
  · exact .cons rfl (.cons rfl .nil)
  · rintro _ y _
    refine c_seq ?_
    refine c_seq ?_
    refine c_region ?_
    refine l_l rfl rfl rfl ?_
    refine l_l rfl rfl rfl ?_
    refine l_sure false rfl rfl rfl (by simp; omega) ?_
    refine l_nil ?_
    refine c_false rfl ?_
    refine c_exit rfl ?_
    refine c_seq ?_
    refine c_region ?_
    refine l_l rfl rfl rfl ?_
    refine l_l rfl rfl rfl ?_
    refine l_l rfl rfl rfl ?_
    refine l_l rfl rfl rfl ?_
    refine l_x (x_callF (A := [_]) (G := []) [b] call_86 rfl (by simp) (fun w hw => ins_fn b n cap l sp' hn (by omega) w (hw.own_blk (.head _)))) rfl rfl ?_
    rintro _ _ ⟨_, ⟨rfl, rfl⟩, rfl⟩
    refine l_nil ?_
    refine c_block ?_
    refine c_loopk (σ := Unit) [6, 7, 8, 9, 28, 29, 30, 31, 32, 33, 34, 35, 36, 37, 38, 39, 40, 41, 42, 43, 44, 45, 46, 47, 48, 49, 50, 51, 52, 53, 54, 55, 56, 57, 58, 59, 60, 61, 62] (fun _ => [(6, .int .i64 20)]) (fun _ => True) (fun _ => 0) () ?_ ?_ ?_
    · trivial
    · exact .cons rfl .nil
    · rintro _ y _
      refine c_seq ?_
      refine c_seq ?_
      refine c_region ?_
      refine l_l rfl rfl rfl ?_
      refine l_l rfl rfl rfl ?_
      refine l_sure false rfl rfl rfl (by simp; omega) ?_
      refine l_nil ?_
      refine c_false rfl ?_
      refine c_exit rfl ?_
      exact l_end (fun _ _ => rets_none) (List.Sublist.refl _) ⟨rfl, rfl⟩

theorem stablenil_fn (w : World) :
    Does Try.prog 75 [.slice none 0 0, .int .i64 0, .func (.func 61) #[] #[]] w [] (fun v H => H = [] ∧ v = .tuple #[]) := by
  refine does_of Try.func75 rfl rfl rfl (St.refl w) ?_
  refine c_seq ?_
  refine c_region ?_
  refine l_l rfl rfl rfl ?_
  refine l_nil ?_
  refine c_seq ?_
  refine c_region ?_
  refine l_l rfl rfl rfl ?_
  refine l_l rfl rfl rfl ?_
  refine l_l rfl rfl rfl ?_
  refine l_nil ?_
  refine c_seq ?_
  refine c_block ?_
  refine c_loopk (σ := Unit) [7, 8, 11, 12, 13, 14, 15, 16, 17, 18, 19, 20, 21, 22] (fun _ => [(7, .int .i64 0), (8, .int .i64 20)]) (fun _ => True) (fun _ => 0) () ?_ ?_ ?_
  · trivial
  · exact .cons rfl (.cons rfl .nil)
  · rintro _ y _
    refine c_seq ?_
    refine c_seq ?_
    refine c_region ?_
    refine l_l rfl rfl rfl ?_
    refine l_l rfl rfl rfl ?_
    refine l_sure false rfl rfl rfl (by decide) ?_
    refine l_nil ?_
    refine c_false rfl ?_
    refine c_exit rfl ?_
    refine c_seq ?_
    refine c_region ?_
    refine l_l rfl rfl rfl ?_
    refine l_l rfl rfl rfl ?_
    refine l_l rfl rfl rfl ?_
    refine l_l rfl rfl rfl ?_
    refine l_x (x_val call_86 rfl (fun w hw => insnil_fn w)) rfl rfl ?_
    rintro _ _ ⟨rfl, rfl⟩
    refine l_nil ?_
    refine c_block ?_
    refine c_loopk (σ := Unit) [6, 7, 8, 9, 28, 29, 30, 31, 32, 33, 34, 35, 36, 37, 38, 39, 40, 41, 42, 43, 44, 45, 46, 47, 48, 49, 50, 51, 52, 53, 54, 55, 56, 57, 58, 59, 60, 61, 62] (fun _ => [(6, .int .i64 20)]) (fun _ => True) (fun _ => 0) () ?_ ?_ ?_
    · trivial
    · exact .cons rfl .nil
    · rintro _ y _
      refine c_seq ?_
      refine c_seq ?_
      refine c_region ?_
      refine l_l rfl rfl rfl ?_
      refine l_l rfl rfl rfl ?_
      refine l_sure false rfl rfl rfl (by decide) ?_
      refine l_nil ?_
      refine c_false rfl ?_
      refine c_exit rfl ?_
      exact l_end0 (fun _ _ => rets_none) ⟨rfl, rfl⟩

theorem sortrow_fn (b n cap : Nat) (l : List Sp) (sp' : List Value) (hn : l.length = n) (h10 : n ≤ 10) (w : World) (hb : w.heap[b]? = some (blk (flat spc l ++ sp') 91)) :
    Does Try.prog 60 [.slice (some ⟨b, 0, none⟩) n cap, .func (.func 61) #[] #[]] w [b] (fun v H => v = .tuple #[] ∧ H = [(b, blk (flat spc (isort l) ++ sp') 91)]) := by
  refine does_of Try.func60 rfl rfl rfl (St.lent1 hb) ?_
  refine c_region ?_
  refine l_l rfl rfl rfl ?_
  refine l_l rfl rfl rfl ?_
  refine l_l (by first | exact light_len rfl rfl | exact light_lens rfl rfl | rfl) rfl rfl ?_
  refine l_l rfl rfl rfl ?_
  refine l_x (x_callF (A := [_]) (G := []) [b] call_75 rfl (by simp) (fun w hw => stable_fn b n cap l sp' hn h10 w (hw.own_blk (.head _)))) rfl rfl ?_
  rintro _ _ ⟨_, ⟨rfl, rfl⟩, rfl⟩
  refine l_nil ?_
  exact l_end (fun _ _ => rets_none) (List.Sublist.refl _) ⟨rfl, rfl⟩

theorem sortnil_fn (w : World) :
    Does Try.prog 60 [.slice none 0 0, .func (.func 61) #[] #[]] w [] (fun v H => H = [] ∧ v = .tuple #[]) := by
  refine does_of Try.func60 rfl rfl rfl (St.refl w) ?_
  refine c_region ?_
  refine l_l rfl rfl rfl ?_
  refine l_l rfl rfl rfl ?_
  refine l_l (by first | exact light_len rfl rfl | exact light_lens rfl rfl | rfl) rfl rfl ?_
  refine l_l rfl rfl rfl ?_
  refine l_x (x_val call_75 rfl (fun w hw => stablenil_fn w)) rfl rfl ?_
  rintro _ _ ⟨rfl, rfl⟩
  refine l_nil ?_
  exact l_end0 (fun _ _ => rets_none) ⟨rfl, rfl⟩

theorem sort_fn {v : Value} {n : Nat} {l : List Sp} {G : Heap} (hV : Vec 91 5 v n (flat spc l) G) (h10 : n ≤ 10) (w : World) (hG : ∀ x ∈ G, w.heap[x.1]? = some x.2) :
    Does Try.prog 60 [v, .func (.func 61) #[] #[]] w (G.map (·.1)) (fun u H => u = .tuple #[] ∧ Vec 91 5 v n (flat spc (isort l)) H) := by
  have hl := hV.len
  rw [flat_len spc_len] at hl
  generalize hx : flat spc l = xs at hV
  cases hV with
  | nil =>
    have : l = [] := List.eq_nil_of_length_eq_zero (by omega)
    subst this
    exact (sortnil_fn w).mono fun u H ⟨h1, h2⟩ => by subst h1; exact ⟨h2, .nil⟩
  | row b _ cap _ sp h1 h2 h3 h4 =>
    subst hx
    refine (sortrow_fn b n cap l sp (by omega) h10 w (hG _ (.head _))).mono fun u H ⟨h5, h6⟩ => ?_
    subst h6
    have hi := isort_len l
    have h7 := flat_len spc_len (isort l)
    have h8 := flat_len spc_len l
    exact ⟨h5, .row b n cap _ sp (by rw [h7, hi]; omega) (by rw [List.length_append, h7, hi] ; rw [List.length_append, h8] at h2; omega) h3 h4⟩

end Go.Proofs.Ytjceoaomkbabmaa
