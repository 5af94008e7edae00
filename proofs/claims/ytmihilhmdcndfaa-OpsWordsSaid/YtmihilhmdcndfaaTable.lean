/- The table's contracts: New, Decode. -/
import Derived.Test.YtmihilhmdcndfaaOnce
import Derived.Test.YtmihilhmdcndfaaOpsD
import Derived.Test.YtmihilhmdcndfaaCalls
namespace Go.Proofs.Ytmihilhmdcndfaa
open Go Go.VV Go.Proofs
set_option linter.unusedSimpArgs false
set_option linter.unusedVariables false
set_option maxRecDepth 100000
theorem TabH.blocks {b : Nat} {u3 : Value} {H : Heap} (h : TabH b u3 H) : H.map (·.1) = [b] := by
  rcases h with ⟨_, _, _, _, rfl⟩ | rfl <;> rfl
theorem TabH.lent {b : Nat} {u3 : Value} {H R : Heap} (h : TabH b u3 H) {w0 w : World} {ms : List Nat} (hw : St w0 ms (H ++ R) w) : St w [b] H w := by
  have := hw.lentV
  rwa [h.blocks] at this
theorem TabH.mem {b : Nat} {u3 : Value} {H : Heap} (h : TabH b u3 H) : ∀ x ∈ [b], ∃ o, (x, o) ∈ H := fun x hx => by
  rw [← h.blocks] at hx; exact mem_fst hx
theorem TabF.tab (b : Nat) (u3 : Value) : TabH b u3 (TabF b u3) := .inr rfl

theorem do_fn (b : Nat) (u3 : Value) (H0 : Heap) (hT : TabH b u3 H0) (w : World) (hst : St w [b] H0 w) :
    Does Try.prog 16 [.pointer (some ⟨b, 0, none⟩), (.func (.func 17) #[.pointer (some ⟨b, 0, none⟩)] #[])] w [b] (fun v H => v = .tuple #[] ∧ H = TabF b u3) := by
  refine does_of Try.func16 rfl rfl rfl hst ?_
  refine c_seq ?_
  rcases hT with ⟨P, B, hP, hB, rfl⟩ | rfl
  · refine c_region ?_
    refine l_l rfl rfl rfl ?_
    refine l_l rfl rfl rfl ?_
    refine l_l (light_fa rfl rfl) rfl rfl ?_
    refine l_x (x_val call_36 rfl (fun w hw => load_fn b 0 w (at_own (.head _) rfl w hw))) rfl rfl ?_
    rintro _ _ ⟨rfl, rfl⟩
    refine l_l rfl rfl rfl ?_
    refine l_nil ?_
    refine c_true rfl ?_
    refine c_region ?_
    refine l_l rfl rfl rfl ?_
    refine l_l rfl rfl rfl ?_
    refine l_x (x_callA call_37 rfl (fun w hw => slow_fn b u3 P B hP hB w (hw.holds _ (.head _)))) rfl rfl ?_
    rintro _ _ ⟨rfl, rfl⟩
    refine l_nil ?_
    exact l_end (fun _ _ => rets_none) (List.Sublist.refl _) ⟨rfl, rfl⟩
  · refine c_region ?_
    refine l_l rfl rfl rfl ?_
    refine l_l rfl rfl rfl ?_
    refine l_l (light_fa rfl rfl) rfl rfl ?_
    refine l_x (x_val call_36 rfl (fun w hw => load_fn b 1 w (at_own (.head _) rfl w hw))) rfl rfl ?_
    rintro _ _ ⟨rfl, rfl⟩
    refine l_l rfl rfl rfl ?_
    refine l_nil ?_
    refine c_false rfl ?_
    refine c_skip ?_
    exact l_end (fun _ _ => rets_none) (List.Sublist.refl _) ⟨rfl, rfl⟩

theorem tnew_fn (w : World) :
    Does Try.prog 10 [] w [] (fun v H => ∃ b, v = .pointer (some ⟨b, 0, none⟩) ∧ TabH b (.int .u32 0) H) := by
  refine does_of Try.func10 rfl rfl rfl (St.refl w) ?_
  refine c_seq ?_
  refine c_region ?_
  refine l_l rfl rfl rfl ?_
  refine l_nil ?_
  refine c_seq ?_
  refine c_region ?_
  refine l_l (light_struct (pl := [(0, 3), (3, 1280), (1283, 1280)]) (z := tabL (.int .u32 0) (.int .i32 0) (.int .u32 0) (List.replicate 256 o0) (List.replicate 256 o0)) (l := tabL (.int .u32 0) (.int .i32 0) (.int .u32 0) (List.replicate 256 o0) (List.replicate 256 o0)) (ps := []) (by kernel_rfl) (by kernel_rfl) rfl (by kernel_rfl)) rfl rfl ?_
  refine l_x (x_box rfl (l := tabL (.int .u32 0) (.int .i32 0) (.int .u32 0) (List.replicate 256 o0) (List.replicate 256 o0)) rfl) rfl rfl ?_
  rintro _ _ ⟨b2, rfl, rfl⟩
  refine l_l rfl rfl rfl ?_
  refine l_nil ?_
  refine c_ret ?_
  exact l_end (fun _ _ => rets_v rfl) (List.Sublist.refl _) ⟨_, rfl, .inl ⟨_, _, by simp, by simp, rfl⟩⟩

theorem decode_fn (b : Nat) (u3 : Value) (H0 : Heap) (hT : TabH b u3 H0) (a x c : Int) (ha : 0 ≤ a ∧ a < 256) (hx : 0 ≤ x ∧ x < 256) (hc : 0 ≤ c ∧ c < 256) (w : World) (hst : St w [b] H0 w) :
    Does Try.prog 11 [.pointer (some ⟨b, 0, none⟩), .int .u8 a, .int .u8 x, .int .u8 c] w [b] (fun v H => v = .agg (cO (dcd a x c)).toArray ∧ TabH b u3 H) := by
  obtain ⟨m, o, rfl, hm, ho⟩ := tab_some ha.1 ha.2
  obtain ⟨k, rfl⟩ : ∃ k : Nat, x = k := ⟨x.toNat, by omega⟩
  refine does_of Try.func11 rfl rfl rfl hst ?_
  refine c_seq ?_
  refine c_region ?_
  refine l_x (x_alloc rfl) rfl rfl ?_
  rintro _ _ ⟨b8, rfl, rfl⟩
  refine l_nil ?_
  refine c_seq ?_
  refine c_seq ?_
  refine c_region ?_
  refine l_l rfl rfl rfl ?_
  refine l_l rfl rfl rfl ?_
  refine l_nil ?_
  refine c_false rfl ?_
  refine c_skip ?_
  refine c_seq ?_
  refine c_region ?_
  refine l_l rfl rfl rfl ?_
  refine l_l rfl rfl rfl ?_
  refine l_l (light_fa rfl rfl) rfl rfl ?_
  refine l_l rfl rfl rfl ?_
  refine l_as (v := (.func (.func 17) #[.pointer (some ⟨b, 0, none⟩)] #[])) rfl rfl rfl (by simp only [List.map_toArray, List.map_cons, List.map_nil]; rfl) ?_
  refine l_heap (H' := H0 ++ [(b8, _)]) (fun _ h => St.fl [[_], H0] [1, 0] rfl (h.as rfl)) ?_
  refine l_x (x_callF (A := H0) (G := [(b8, _)]) [b] call_16 rfl hT.mem (fun w hw => do_fn b u3 H0 hT w (hT.lent hw))) rfl rfl ?_
  rintro _ _ ⟨_, ⟨rfl, rfl⟩, rfl⟩
  refine l_nil ?_
  refine c_seq ?_
  refine c_seq ?_
  refine c_region ?_
  refine l_l rfl rfl rfl ?_
  refine l_l rfl rfl rfl ?_
  refine l_nil ?_
  refine c_cond rfl (fun h1 => ?_) (fun h1 => ?_)
  · refine c_seq ?_
    refine c_region ?_
    refine l_l rfl rfl rfl ?_
    refine l_l rfl rfl rfl ?_
    refine l_l rfl rfl rfl ?_
    refine l_l (light_fa rfl rfl) rfl rfl ?_
    refine l_l (idx_array (s := 5) k rfl rfl rfl rfl (by omega)) rfl rfl ?_
    refine l_x (x_loadA rfl rfl rfl (fun w hw => tabL_rowB tabP_len (row_own (.head _) w hw) (tabB_get (by omega)))) rfl rfl ?_
    rintro _ _ ⟨rfl, rfl⟩
    refine l_x (by first | exact x_store 0 rfl rfl rfl rfl rfl rfl (by first | rfl | exact Nat.le_of_ble_eq_true rfl | (simp; done)) | exact x_store 1 rfl rfl rfl rfl rfl rfl (by first | rfl | exact Nat.le_of_ble_eq_true rfl | (simp; done)) | exact x_store 2 rfl rfl rfl rfl rfl rfl (by first | rfl | exact Nat.le_of_ble_eq_true rfl | (simp; done)) | exact x_store 3 rfl rfl rfl rfl rfl rfl (by first | rfl | exact Nat.le_of_ble_eq_true rfl | (simp; done))) rfl rfl ?_
    rintro _ _ ⟨rfl, rfl⟩
    refine l_nil ?_
    refine c_ret ?_
    exact ends_of (H' := TabF b u3) (fun w hw => rets_cell rfl rfl rfl (row_own (by repeat (first | exact .head _ | refine .tail _ ?_ | refine List.mem_append_right _ ?_)) w hw)) (fun _ h => h.sub (List.sublist_append_left _ _)) ⟨aggE (by rw [dcd_beh (by (try simp only [decide_eq_true_eq, decide_eq_false_iff_not, beq_iff_eq, beq_eq_false_iff_ne, bne_iff_ne, bne_eq_false_iff_eq, ne_eq] at *); omega)]; rfl), TabF.tab b u3⟩
  · refine c_skip ?_
    refine c_seq ?_
    refine c_region ?_
    refine l_l rfl rfl rfl ?_
    refine l_l rfl rfl rfl ?_
    refine l_l rfl rfl rfl ?_
    refine l_l (light_fa rfl rfl) rfl rfl ?_
    refine l_l (idx_array (s := 5) m rfl rfl rfl rfl hm) rfl rfl ?_
    refine l_x (x_loadA rfl rfl rfl (fun w hw => tabL_rowP (row_own (.head _) w hw) ho)) rfl rfl ?_
    rintro _ _ ⟨rfl, rfl⟩
    refine l_x (x_alloc rfl) rfl rfl ?_
    rintro _ _ ⟨b9, rfl, rfl⟩
    refine l_x (by first | exact x_store 0 rfl rfl rfl rfl rfl rfl (by first | rfl | exact Nat.le_of_ble_eq_true rfl | (simp; done)) | exact x_store 1 rfl rfl rfl rfl rfl rfl (by first | rfl | exact Nat.le_of_ble_eq_true rfl | (simp; done)) | exact x_store 2 rfl rfl rfl rfl rfl rfl (by first | rfl | exact Nat.le_of_ble_eq_true rfl | (simp; done)) | exact x_store 3 rfl rfl rfl rfl rfl rfl (by first | rfl | exact Nat.le_of_ble_eq_true rfl | (simp; done))) rfl rfl ?_
    rintro _ _ ⟨rfl, rfl⟩
    refine l_nil ?_
    refine c_seq ?_
    refine c_seq ?_
    refine c_region ?_
    refine l_l (light_fa rfl rfl) rfl rfl ?_
    refine l_x (x_load rfl rfl (at_own (by repeat (first | exact .head _ | refine .tail _ ?_ | refine List.mem_append_right _ ?_)) (by rfl))) rfl rfl ?_
    rintro _ _ ⟨rfl, rfl⟩
    refine l_nil ?_
    refine c_block ?_
    refine c_seq ?_
    refine c_region ?_
    refine l_l rfl rfl rfl ?_
    refine l_l rfl rfl rfl ?_
    refine l_nil ?_
    refine c_cond rfl (fun h2 => ?_) (fun h2 => ?_)
    · refine c_region ?_
      refine l_l rfl rfl rfl ?_
      refine l_as (v := (.int .u16 k)) rfl rfl rfl (congrArg _ (wrap_u16_id (by omega) (by omega))) ?_
      refine l_l (light_fa rfl rfl) rfl rfl ?_
      refine l_x (by first | exact x_store 0 rfl rfl rfl rfl rfl rfl (by first | rfl | exact Nat.le_of_ble_eq_true rfl | (simp; done)) | exact x_store 1 rfl rfl rfl rfl rfl rfl (by first | rfl | exact Nat.le_of_ble_eq_true rfl | (simp; done)) | exact x_store 2 rfl rfl rfl rfl rfl rfl (by first | rfl | exact Nat.le_of_ble_eq_true rfl | (simp; done)) | exact x_store 3 rfl rfl rfl rfl rfl rfl (by first | rfl | exact Nat.le_of_ble_eq_true rfl | (simp; done))) rfl rfl ?_
      rintro _ _ ⟨rfl, rfl⟩
      refine l_nil ?_
      refine c_seq ?_
      refine c_region ?_
      refine l_x (x_loadA rfl rfl rfl (by first | exact row_own (by repeat (first | exact .head _ | refine .tail _ ?_ | refine List.mem_append_right _ ?_)) | exact row_own_at (by repeat (first | exact .head _ | refine .tail _ ?_ | refine List.mem_append_right _ ?_)) _ 5 rfl)) rfl rfl ?_
      rintro _ _ ⟨rfl, rfl⟩
      refine l_x (by first | exact x_store 0 rfl rfl rfl rfl rfl rfl (by first | rfl | exact Nat.le_of_ble_eq_true rfl | (simp; done)) | exact x_store 1 rfl rfl rfl rfl rfl rfl (by first | rfl | exact Nat.le_of_ble_eq_true rfl | (simp; done)) | exact x_store 2 rfl rfl rfl rfl rfl rfl (by first | rfl | exact Nat.le_of_ble_eq_true rfl | (simp; done)) | exact x_store 3 rfl rfl rfl rfl rfl rfl (by first | rfl | exact Nat.le_of_ble_eq_true rfl | (simp; done))) rfl rfl ?_
      rintro _ _ ⟨rfl, rfl⟩
      refine l_nil ?_
      refine c_ret ?_
      exact ends_of (H' := TabF b u3) (fun w hw => rets_cell rfl rfl rfl (row_own (by repeat (first | exact .head _ | refine .tail _ ?_ | refine List.mem_append_right _ ?_)) w hw)) (fun _ h => St.fl [[_], [_], [_]] [1] rfl h) ⟨aggE (by rw [dcd_plain rfl (by (try simp only [decide_eq_true_eq, decide_eq_false_iff_not, beq_iff_eq, beq_eq_false_iff_ne, bne_iff_ne, bne_eq_false_iff_eq, ne_eq] at *); omega) ho, numO_2 (by (try simp only [decide_eq_true_eq, decide_eq_false_iff_not, beq_iff_eq, beq_eq_false_iff_ne, bne_iff_ne, bne_eq_false_iff_eq, ne_eq] at *); omega)]; rfl), TabF.tab b u3⟩
    · refine c_seq ?_
      refine c_region ?_
      refine l_l rfl rfl rfl ?_
      refine l_l rfl rfl rfl ?_
      refine l_nil ?_
      refine c_cond rfl (fun h3 => ?_) (fun h3 => ?_)
      · refine c_region ?_
        refine l_l rfl rfl rfl ?_
        refine l_as (v := (.int .u16 k)) rfl rfl rfl (congrArg _ (wrap_u16_id (by omega) (by omega))) ?_
        refine l_l rfl rfl rfl ?_
        refine l_as (v := (.int .u16 c)) rfl rfl rfl (congrArg _ (wrap_u16_id (by omega) (by omega))) ?_
        refine l_l (shl_pos rfl rfl (by decide)) rfl rfl ?_
        refine l_as (v := (.int .u16 (k + 256 * c))) rfl rfl rfl (congrArg _ (or_law hx hc)) ?_
        refine l_l (light_fa rfl rfl) rfl rfl ?_
        refine l_x (by first | exact x_store 0 rfl rfl rfl rfl rfl rfl (by first | rfl | exact Nat.le_of_ble_eq_true rfl | (simp; done)) | exact x_store 1 rfl rfl rfl rfl rfl rfl (by first | rfl | exact Nat.le_of_ble_eq_true rfl | (simp; done)) | exact x_store 2 rfl rfl rfl rfl rfl rfl (by first | rfl | exact Nat.le_of_ble_eq_true rfl | (simp; done)) | exact x_store 3 rfl rfl rfl rfl rfl rfl (by first | rfl | exact Nat.le_of_ble_eq_true rfl | (simp; done))) rfl rfl ?_
        rintro _ _ ⟨rfl, rfl⟩
        refine l_nil ?_
        refine c_seq ?_
        refine c_region ?_
        refine l_x (x_loadA rfl rfl rfl (by first | exact row_own (by repeat (first | exact .head _ | refine .tail _ ?_ | refine List.mem_append_right _ ?_)) | exact row_own_at (by repeat (first | exact .head _ | refine .tail _ ?_ | refine List.mem_append_right _ ?_)) _ 5 rfl)) rfl rfl ?_
        rintro _ _ ⟨rfl, rfl⟩
        refine l_x (by first | exact x_store 0 rfl rfl rfl rfl rfl rfl (by first | rfl | exact Nat.le_of_ble_eq_true rfl | (simp; done)) | exact x_store 1 rfl rfl rfl rfl rfl rfl (by first | rfl | exact Nat.le_of_ble_eq_true rfl | (simp; done)) | exact x_store 2 rfl rfl rfl rfl rfl rfl (by first | rfl | exact Nat.le_of_ble_eq_true rfl | (simp; done)) | exact x_store 3 rfl rfl rfl rfl rfl rfl (by first | rfl | exact Nat.le_of_ble_eq_true rfl | (simp; done))) rfl rfl ?_
        rintro _ _ ⟨rfl, rfl⟩
        refine l_nil ?_
        refine c_ret ?_
        exact ends_of (H' := TabF b u3) (fun w hw => rets_cell rfl rfl rfl (row_own (by repeat (first | exact .head _ | refine .tail _ ?_ | refine List.mem_append_right _ ?_)) w hw)) (fun _ h => St.fl [[_], [_], [_]] [1] rfl h) ⟨aggE (by rw [dcd_plain rfl (by (try simp only [decide_eq_true_eq, decide_eq_false_iff_not, beq_iff_eq, beq_eq_false_iff_ne, bne_iff_ne, bne_eq_false_iff_eq, ne_eq] at *); omega) ho, numO_3 (by (try simp only [decide_eq_true_eq, decide_eq_false_iff_not, beq_iff_eq, beq_eq_false_iff_ne, bne_iff_ne, bne_eq_false_iff_eq, ne_eq] at *); omega)]; rfl), TabF.tab b u3⟩
      · refine c_skip ?_
        refine c_seq ?_
        refine c_region ?_
        refine l_x (x_loadA rfl rfl rfl (by first | exact row_own (by repeat (first | exact .head _ | refine .tail _ ?_ | refine List.mem_append_right _ ?_)) | exact row_own_at (by repeat (first | exact .head _ | refine .tail _ ?_ | refine List.mem_append_right _ ?_)) _ 5 rfl)) rfl rfl ?_
        rintro _ _ ⟨rfl, rfl⟩
        refine l_x (by first | exact x_store 0 rfl rfl rfl rfl rfl rfl (by first | rfl | exact Nat.le_of_ble_eq_true rfl | (simp; done)) | exact x_store 1 rfl rfl rfl rfl rfl rfl (by first | rfl | exact Nat.le_of_ble_eq_true rfl | (simp; done)) | exact x_store 2 rfl rfl rfl rfl rfl rfl (by first | rfl | exact Nat.le_of_ble_eq_true rfl | (simp; done)) | exact x_store 3 rfl rfl rfl rfl rfl rfl (by first | rfl | exact Nat.le_of_ble_eq_true rfl | (simp; done))) rfl rfl ?_
        rintro _ _ ⟨rfl, rfl⟩
        refine l_nil ?_
        refine c_ret ?_
        exact ends_of (H' := TabF b u3) (fun w hw => rets_cell rfl rfl rfl (row_own (by repeat (first | exact .head _ | refine .tail _ ?_ | refine List.mem_append_right _ ?_)) w hw)) (fun _ h => St.fl [[_], [_], [_]] [1] rfl h) ⟨aggE (by rw [dcd_plain rfl (by (try simp only [decide_eq_true_eq, decide_eq_false_iff_not, beq_iff_eq, beq_eq_false_iff_ne, bne_iff_ne, bne_eq_false_iff_eq, ne_eq] at *); omega) ho, numO_1 (by (try simp only [decide_eq_true_eq, decide_eq_false_iff_not, beq_iff_eq, beq_eq_false_iff_ne, bne_iff_ne, bne_eq_false_iff_eq, ne_eq] at *); omega) (by (try simp only [decide_eq_true_eq, decide_eq_false_iff_not, beq_iff_eq, beq_eq_false_iff_ne, bne_iff_ne, bne_eq_false_iff_eq, ne_eq] at *); omega)]; rfl), TabF.tab b u3⟩

theorem decode0_fn (a x c : Int) (w : World) :
    Does Try.prog 11 [.pointer none, .int .u8 a, .int .u8 x, .int .u8 c] w [] (fun v H => H = [] ∧ v = .agg (cO ⟨4, 0, 0, 1, 0⟩).toArray) := by
  refine does_of Try.func11 rfl rfl rfl (St.refl w) ?_
  refine c_seq ?_
  refine c_region ?_
  refine l_x (x_alloc rfl) rfl rfl ?_
  rintro _ _ ⟨b8, rfl, rfl⟩
  refine l_nil ?_
  refine c_seq ?_
  refine c_seq ?_
  refine c_region ?_
  refine l_l rfl rfl rfl ?_
  refine l_l rfl rfl rfl ?_
  refine l_nil ?_
  refine c_true rfl ?_
  refine c_seq ?_
  refine c_region ?_
  refine l_l (light_struct rfl rfl rfl rfl) rfl rfl ?_
  refine l_x (by first | exact x_store 0 rfl rfl rfl rfl rfl rfl (by first | rfl | exact Nat.le_of_ble_eq_true rfl | (simp; done)) | exact x_store 1 rfl rfl rfl rfl rfl rfl (by first | rfl | exact Nat.le_of_ble_eq_true rfl | (simp; done)) | exact x_store 2 rfl rfl rfl rfl rfl rfl (by first | rfl | exact Nat.le_of_ble_eq_true rfl | (simp; done)) | exact x_store 3 rfl rfl rfl rfl rfl rfl (by first | rfl | exact Nat.le_of_ble_eq_true rfl | (simp; done))) rfl rfl ?_
  rintro _ _ ⟨rfl, rfl⟩
  refine l_nil ?_
  refine c_ret ?_
  exact l_end0 (fun w hw => rets_cell rfl rfl rfl (row_own (by repeat (first | exact .head _ | refine .tail _ ?_ | refine List.mem_append_right _ ?_)) w hw)) ⟨rfl, rfl⟩

end Go.Proofs.Ytmihilhmdcndfaa
