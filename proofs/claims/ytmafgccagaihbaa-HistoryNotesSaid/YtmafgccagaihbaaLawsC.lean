/- The contract of the law of notes. -/
import Derived.Test.YtmafgccagaihbaaAwake
import Derived.Test.YtmafgccagaihbaaNoted
import Derived.Test.YtmafgccagaihbaaSame
import Derived.Test.YtmafgccagaihbaaCalls
namespace Go.Proofs.Ytmafgccagaihbaa
open Go Go.VV Go.Proofs
set_option linter.unusedSimpArgs false
set_option linter.unusedVariables false
set_option maxRecDepth 100000
theorem toN_mod {x : Int} {m : Nat} (h : 0 ≤ x) : x.tmod ((m + 1 : Nat) : Int) = ((x.toNat % (m + 1) : Nat) : Int) := by
  rw [Int.tmod_eq_emod_of_nonneg h, Int.natCast_emod, Int.toNat_of_nonneg h]
theorem els_take {α : Type} {w : World} {c : α → List Value} {a : Option Addr} {l : List α} (h : Els w c a l) (n : Nat) : Els w c a (l.take n) := fun h0 => by
  rw [List.length_take] at h0
  obtain ⟨b, off, h1, h2⟩ := h (by omega)
  refine ⟨b, off, h1, ?_⟩
  have h3 : flat c l = flat c (l.take n) ++ flat c (l.drop n) := by rw [← flat_append, List.take_append_drop]
  rw [h3] at h2
  exact h2.left

theorem notes_fn (a : Option Addr) (c : Nat) (l : List Stp) (hok : ∀ s ∈ l, StpOk s) (hc : l.length ≤ c) (keep x : Int) (hx : 0 ≤ x ∧ x < 65536) (w : World) (hE : Els w cS a l) :
    Does Try.prog 5 [.slice a l.length c, .int .i64 keep, .int .u16 x] w [] (fun v H => H = [] ∧ v = .bool true) := by
  refine does_of Try.func5 rfl rfl rfl (St.refl w) ?_
  refine c_seq ?_
  refine c_region ?_
  refine l_l rfl rfl rfl ?_
  refine l_nil ?_
  refine c_seq ?_
  refine c_seq ?_
  refine c_region ?_
  refine l_x (x_val call_9 rfl (fun w hw => awake_fn w)) rfl rfl ?_
  rintro _ _ ⟨rfl, rfl⟩
  refine l_sure false rfl rfl rfl rfl ?_
  refine l_l rfl rfl rfl ?_
  refine l_l rfl rfl rfl ?_
  refine l_l (by first | exact light_len rfl rfl | exact light_lens rfl rfl | rfl) rfl rfl ?_
  refine l_l rfl rfl rfl ?_
  refine l_l rfl rfl rfl ?_
  refine l_nil ?_
  refine c_cond rfl (fun h1 => ?_) (fun h1 => ?_)
  · refine c_seq ?_
    refine c_region ?_
    refine l_x (x_val call_9 rfl (fun w hw => awake_fn w)) rfl rfl ?_
    rintro _ _ ⟨rfl, rfl⟩
    refine l_l rfl rfl rfl ?_
    refine l_nil ?_
    refine c_ret ?_
    exact l_end0 (fun _ _ => rets_v rfl) ⟨rfl, rfl⟩
  · refine c_skip ?_
    refine c_seq ?_
    have hl7 : l.length ≤ 700 := by (try simp only [decide_eq_true_eq, decide_eq_false_iff_not, beq_iff_eq, beq_eq_false_iff_ne, bne_iff_ne, bne_eq_false_iff_eq, ne_eq] at *); omega
    refine c_region ?_
    refine l_l rfl rfl rfl ?_
    refine l_as (v := (.int .i64 x)) rfl rfl rfl (congrArg _ (wrap_i64 (by omega) (by omega))) ?_
    refine l_l rfl rfl rfl ?_
    refine l_l (by first | exact light_len rfl rfl | exact light_lens rfl rfl | rfl) rfl rfl ?_
    refine l_as (v := (.int .i64 ((l.length + 1 : Nat) : Int))) rfl rfl rfl (congrArg _ (succ_law (by omega))) ?_
    refine l_as (v := (.int .i64 ((x.toNat % (l.length + 1) : Nat) : Int))) (rem_pos rfl rfl (by omega)) rfl rfl (congrArg _ (toN_mod hx.1)) ?_
    refine l_l rfl rfl rfl ?_
    refine l_nil ?_
    refine c_seq ?_
    have hn9 : x.toNat % (l.length + 1) < l.length + 1 := Nat.mod_lt _ (by omega)
    generalize x.toNat % (l.length + 1) = n at *
    have ht9 : (l.take n).length = n := by rw [List.length_take]; omega
    have hE9 : Els w cS a (l.take n) := els_take hE n
    refine c_draw _ [] (.step true 0 (.step true 1 (.step true 3 (.step true 4 (.step false 2 (.step false 5 (.step true 6 (.step true 7 (.step true 8 (.step true 9 (.step true 10 (.step true 12 (.step true 13 (.step true 14 (.step true 15 (.step false 11 (.step false 16 (.step true 17 (.step true 18 .done))))))))))))))))))) rfl (by kernel_rfl) (by kernel_rfl) (fun _ h => h) ?_
    refine d_light rfl rfl rfl rfl rfl ?_
    refine d_light rfl rfl rfl rfl rfl ?_
    refine d_light rfl rfl rfl rfl rfl ?_
    refine d_light rfl rfl rfl rfl rfl ?_
    refine d_x rfl (x_call call_13 rfl (fun w hw => noted_fn a c l hok (by omega) keep w (hE.later0 hw))) rfl rfl (by intro h; cases h) ?_
    rintro _ _ ⟨G5, ⟨b5, ring5, rfl, hH5, hR5⟩, rfl⟩
    refine d_x rfl (x_val call_15 rfl (fun w hw => same_fn b5 ring5 a c l hok (by omega) hc keep hR5 w (hH5.histW hw (fun x hx => by simp only [List.mem_append, List.mem_cons]; simp only [hx, true_or, or_true])) (hE.later0 hw))) rfl rfl (by intro h; cases h) ?_
    rintro _ _ ⟨rfl, rfl⟩
    refine d_sure true rfl rfl rfl rfl rfl ?_
    refine d_light rfl rfl rfl rfl rfl ?_
    refine d_light rfl rfl rfl rfl rfl ?_
    refine d_as (v := (.slice a (l.take n).length c)) rfl (cut_pre n rfl rfl rfl rfl (by omega)) rfl rfl rfl (by rw [ht9]) ?_
    refine d_light rfl rfl rfl rfl rfl ?_
    refine d_light rfl rfl rfl rfl rfl ?_
    refine d_light rfl rfl rfl rfl rfl ?_
    refine d_as (v := (.slice a (l.take n).length c)) rfl (cut_pre n rfl rfl rfl rfl (by omega)) rfl rfl rfl (by rw [ht9]) ?_
    refine d_light rfl rfl rfl rfl rfl ?_
    refine d_x rfl (x_call call_13 rfl (fun w hw => noted_fn a c (l.take n) (fun s hs => hok s (List.mem_of_mem_take hs)) (by omega) keep w (hE9.later0 hw))) rfl rfl (by intro h; cases h) ?_
    rintro _ _ ⟨G6, ⟨b6, ring6, rfl, hH6, hR6⟩, rfl⟩
    refine d_x rfl (x_val call_15 rfl (fun w hw => same_fn b6 ring6 a c (l.take n) (fun s hs => hok s (List.mem_of_mem_take hs)) (by omega) (by omega) keep hR6 w (hH6.histW hw (fun x hx => by simp only [List.mem_append, List.mem_cons]; simp only [hx, true_or, or_true])) (hE9.later0 hw))) rfl rfl (by intro h; cases h) ?_
    rintro _ _ ⟨rfl, rfl⟩
    refine d_light rfl rfl rfl rfl rfl ?_
    refine d_light rfl rfl rfl rfl rfl ?_
    refine d_nil ?_
    refine c_ret ?_
    exact l_end0 (fun _ _ => rets_v rfl) ⟨rfl, rfl⟩

end Go.Proofs.Ytmafgccagaihbaa
