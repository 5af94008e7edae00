/- Conditions: what one order more makes, case by case; what the document's stack needs. Plain laws, no program's code. -/
import Derived.Test.YtiadmbhafplepaaDoorYC
import Derived.Test.YtiadmbhafplepaaDoorYD
import Derived.Test.YtiadmbhafplepaaDoorYF
import Derived.Test.YtiadmbhafplepaaDoorYH
namespace Go.Proofs.YtiadmbhafplepaaDoor
open Go Go.VV Go.Proofs Go.RowKit
set_option linter.unusedSimpArgs false
set_option linter.unusedVariables false
set_option maxRecDepth 100000
/-- internal/strconv.uint64pow10 holds what it is laid with. -/
def GlP (w : World) : Prop := Lib.TabIs Tryd.prog w "internal/strconv.uint64pow10" .u64 Lib.pow10Tab
theorem pow_at : Tryd.prog.globalNamed "internal/strconv.uint64pow10" = some 0 := by kernel_rfl
theorem gp_later {w0 w : World} {ms : List Nat} {H : Heap} (h : GlP w0) (hm : 0 ∉ ms) (hw : St w0 ms H w) : GlP w := by
 unfold GlP Lib.TabIs World.var? at h ⊢
 rw [pow_at] at h ⊢
 dsimp only [Option.bind_some] at h ⊢
 have h0 : 0 < w0.heap.size := by
  refine Nat.lt_of_not_le fun hn => ?_
  rw [Array.getElem?_eq_none hn] at h
  cases h
 rw [hw.block 0 h0 hm]
 exact h
/-- What Itoa answers of a number. -/
def ItoaC (n : Int) : Prop := ∀ w, GlP w → Does Tryd.prog 25 [.int .i64 n] w [] (fun v _ => ∃ s, v = .string (bs s) ∧ s.length ≤ 30 ∧ (0 ≤ n → s = decT n.toNat))

theorem wone_fn (s : Sg) (b1 : Nat) (op : Int) (w : World) (hc : w.cell? ⟨b1, 0, none⟩ = some (.int .i64 op)) : Does Tryd.prog 33 [.agg (cSg s).toArray, .pointer (some ⟨b1, 0, none⟩)] w [] (fun v H => H = [] ∧ v = .bool (s.op == op)) := by
 refine does_of Tryd.func33 rfl rfl rfl (St.refl w) ?_
 refine c_seq ?_
 refine c_region ?_
 refine l_x (x_box (l := cSg s) rfl rfl) rfl rfl ?_
 rintro _ _ ⟨b2, rfl, rfl⟩
 refine RL ?_
 refine l_nil ?_
 refine c_seq ?_
 refine c_region ?_
 refine RLa ?_
 refine l_x (x_load rfl rfl (at_own (v := .int .i64 s.op) m_m (by rfl))) rfl rfl ?_
 rintro _ _ ⟨rfl, rfl⟩
 refine l_x (x_load rfl rfl (at_old hc (by simp))) rfl rfl ?_
 rintro _ _ ⟨rfl, rfl⟩
 refine RL ?_
 refine RL ?_
 refine l_nil ?_
 refine c_ret ?_
 exact l_end0 (fun _ _ => rets_v rfl) ⟨rfl, rfl⟩

theorem ixw_fn (bg b1 : Nat) (op : Int) (w : World) (hr : Row w bg 0 (flat cSg sgs)) (hc : w.cell? ⟨b1, 0, none⟩ = some (.int .i64 op)) : Does Tryd.prog 32 [.slice (some ⟨bg, 0, none⟩) 18 18, (.func (.func 33) #[] #[.pointer (some ⟨b1, 0, none⟩)])] w [] (fun v H => H = [] ∧ v = .int .i64 (ixW op)) := by
 refine does_of Tryd.func32 rfl rfl rfl (St.refl w) ?_
 refine c_seq ?_
 refine c_region ?_
 refine RL ?_
 refine l_nil ?_
 refine c_seq ?_
 refine c_seq ?_
 refine c_region ?_
 refine RL ?_
 refine l_l l_n rfl rfl ?_
 refine RL ?_
 refine l_nil ?_
 refine c_block ?_
 refine c_loopk (σ := Nat) [4, 5, 8, 9, 10, 11, 12, 13, 14, 15, 16, 17, 18] (fun i => [(8, .int .i64 i)]) (fun i => i ≤ 18 ∧ ∀ j s', j < i → sgs[j]? = some s' → (s'.op == op) = false) (fun i => 18 - i) 0 ?_ ?_ ?_
 ·exact ⟨Nat.zero_le _, fun j _ hj => absurd hj (Nat.not_lt_zero _)⟩
 ·exact .cons rfl .nil
 ·rintro i y2 ⟨hi, hj9⟩
  refine c_seq ?_
  refine c_region ?_
  refine RL ?_
  refine l_nil ?_
  refine c_seq ?_
  refine c_cond rfl (fun h1 => ?_) (fun h1 => ?_)
  ·have h1n := r_f h1
   refine c_skip ?_
   refine c_seq ?_
   refine c_block ?_
   refine c_seq ?_
   obtain ⟨s, hi9⟩ : ∃ s, sgs[i]? = some s := ⟨_, List.getElem?_eq_getElem (show i < sgs.length by show i < 18; omega)⟩
   refine c_region ?_
   refine RL ?_
   refine RL ?_
   refine l_nil ?_
   refine c_seq ?_
   refine c_region ?_
   iterate 3 refine RL ?_
   refine l_l (idx_slice (s := 3) i rfl rfl rfl rfl o_m) rfl rfl ?_
   refine l_x (x_loadA rfl rfl rfl (fun w hw => (row_old hr (by simp) w hw).nth' cSg_len hi9)) rfl rfl ?_
   rintro _ _ ⟨rfl, rfl⟩
   refine l_x (x_valV (A := []) (B := [.pointer (some ⟨b1, 0, none⟩)]) rfl call_33 rfl (fun w hw => wone_fn s b1 op w (at_old hc (by simp) w hw))) rfl rfl ?_
   rintro _ _ ⟨rfl, rfl⟩
   refine l_nil ?_
   refine c_cond rfl (fun h2 => ?_) (fun h2 => ?_)
   ·have h2n := r_f h2
    refine c_seq ?_
    refine c_region ?_
    refine RL ?_
    refine RL ?_
    refine l_nil ?_
    refine c_ret ?_
    exact l_end0 (fun _ _ => rets_v rfl) ⟨rfl, (congrArg (Value.int .i64) (ixW_at hj9 hi9 h2).symm)⟩
   ·have h2n := r_f h2
    refine c_skip ?_
    refine c_region ?_
    refine l_as (v := (.int .i64 ((i + 1 : Nat) : Int))) rfl rfl rfl (congrArg _ (succ_law o_m)) ?_
    refine RL ?_
    refine l_nil ?_
    exact ⟨i + 1, ⟨by omega, fun j s' hj hs' => by rcases Nat.lt_succ_iff_lt_or_eq.1 hj with h | rfl; exact hj9 j s' h hs'; rw [hi9] at hs'; cases hs'; exact h2⟩, by omega, .cons rfl .nil, a_g, fun _ h => h⟩
  ·have h1n := r_f h1
   refine c_exit rfl ?_
   refine c_seq ?_
   refine c_region ?_
   refine RL ?_
   refine l_nil ?_
   refine c_ret ?_
   exact l_end0 (fun _ _ => rets_v rfl) ⟨rfl, (congrArg (Value.int .i64) (ixW_no (fun j s' hj hs' => hj9 j s' o_m hs')).symm)⟩

theorem word_fn (op : Int) (w : World) : Does Tryd.prog 26 [.int .i64 op] w [] (fun v _ => v = .string (bs (wordT op))) := by
 refine does_of Tryd.func26 rfl rfl rfl (St.refl w) ?_
 refine c_seq ?_
 refine c_region ?_
 refine l_x (x_box (l := [.int .i64 op]) rfl rfl) rfl rfl ?_
 rintro _ _ ⟨b1, rfl, rfl⟩
 refine RL ?_
 refine l_nil ?_
 refine c_seq ?_
 refine c_region ?_
 refine l_x (x_call call_31 rfl (fun w hw => signs_fn w)) rfl rfl ?_
 rintro _ _ ⟨G5, ⟨b5, rfl, rfl⟩, rfl⟩
 refine RL ?_
 refine l_nil ?_
 refine c_seq ?_
 refine c_seq ?_
 refine c_region ?_
 refine RL ?_
 refine l_as (v := (.func (.func 33) #[] #[.pointer (some ⟨b1, 0, none⟩)])) rfl rfl rfl (by simp only [List.map_toArray, List.map_cons, List.map_nil]; rfl) ?_
 refine RLv call_32 (fun w hw => ixw_fn b5 b1 op w (row_own (b := b5) m_m w hw) (at_own (l := [.int .i64 op]) (v := .int .i64 op) m_m rfl w hw)) ?_
 refine RL ?_
 refine l_nil ?_
 refine c_seq ?_
 refine c_region ?_
 refine RL ?_
 refine RL ?_
 refine l_nil ?_
 refine c_cond rfl (fun h1 => ?_) (fun h1 => ?_)
 ·have h1n := r_f h1
  refine c_seq ?_
  obtain ⟨s, hs9, hw9, hl9, he9⟩ := ixW_pos h1n
  refine c_region ?_
  refine RL ?_
  refine RL ?_
  refine l_l (idx_slice (s := 3) (ixW op).toNat rfl rfl rfl he9 o_m) rfl rfl ?_
  refine RLa ?_
  refine l_x (x_load rfl rfl (fun w hw => by have h9 := (row_own (b := b5) (l := flat cSg sgs) m_m w hw).at cSg_len hs9 0 rfl; simpa using h9)) rfl rfl ?_
  rintro _ _ ⟨rfl, rfl⟩
  refine RL ?_
  refine l_nil ?_
  refine c_ret ?_
  exact l_end (fun _ _ => rets_v rfl) (List.Sublist.refl _) (congrArg (fun x => Value.string (bs x)) hw9.symm)
 ·have h1n := r_f h1
  refine c_skip ?_
  refine c_seq ?_
  refine c_region ?_
  refine RL ?_
  refine l_nil ?_
  refine c_ret ?_
  exact l_end (fun _ _ => rets_v rfl) (List.Sublist.refl _) (by rw [ixW_neg h1n]; rfl)

theorem small1 : ∀ i : Fin 10, ((([48, 49, 50, 51, 52, 53, 54, 55, 56, 57, 97, 98, 99, 100, 101, 102, 103, 104, 105, 106, 107, 108, 109, 110, 111, 112, 113, 114, 115, 116, 117, 118, 119, 120, 121, 122] : Tx).drop i.val).take (i.val + 1 - i.val)) = [(48 + i.val).toUInt8] := by decide
def smallsT : Tx := (List.range 100).flatMap fun i => [(48 + i / 10).toUInt8, (48 + i % 10).toUInt8]
theorem small2 : ∀ i : Fin 100, ((smallsT.drop (i.val * 2)).take (i.val * 2 + 2 - i.val * 2)) = [(48 + i.val / 10).toUInt8, (48 + i.val % 10).toUInt8] := by decide +kernel
theorem dec_2 {k : Nat} (h1 : ¬ k < 10) (h2 : k < 100) : decT k = [(48 + k / 10).toUInt8, (48 + k % 10).toUInt8] := by rw [decT_2 h1, decT_1 o_m]; rfl

theorem itoas_fn (k : Nat) (hk : k < 100) (w : World) : Does Tryd.prog 48 [.int .i64 k] w [] (fun v H => H = [] ∧ v = .string (bs (decT k))) := by
 refine does_of Tryd.func48 rfl rfl rfl (St.refl w) ?_
 refine c_seq ?_
 refine c_region ?_
 refine RL ?_
 refine l_nil ?_
 refine c_seq ?_
 refine c_seq ?_
 refine c_region ?_
 refine RL ?_
 refine RL ?_
 refine l_nil ?_
 refine c_cond rfl (fun h1 => ?_) (fun h1 => ?_)
 ·have h1n := r_f h1
  refine c_seq ?_
  refine c_region ?_
  refine RL ?_
  refine RL ?_
  refine l_as (v := (.int .i64 ((k + 1 : Nat) : Int))) rfl rfl rfl ((as_i64 o_m o_m).trans (congrArg _ o_m)) ?_
  refine l_as (v := (.string (bs [(48 + k).toUInt8]))) (light_cutS k (k + 1) rfl rfl rfl rfl (by simp) (by simp) o_m (by show k + 1 ≤ 36; omega)) rfl rfl (congrArg (fun x => Value.string (bs x)) (small1 ⟨k, by omega⟩)) ?_
  refine RL ?_
  refine l_nil ?_
  refine c_ret ?_
  exact l_end0 (fun _ _ => rets_v rfl) ⟨rfl, (congrArg (fun x => Value.string (bs x)) (decT_1 o_m).symm)⟩
 ·have h1n := r_f h1
  refine c_skip ?_
  refine c_seq ?_
  refine c_region ?_
  refine RL ?_
  refine l_as (v := (.int .i64 ((k * 2 : Nat) : Int))) rfl rfl rfl ((as_i64 o_m o_m).trans (congrArg _ o_m)) ?_
  refine RL ?_
  refine l_as (v := (.int .i64 ((k * 2 : Nat) : Int))) rfl rfl rfl ((as_i64 o_m o_m).trans (congrArg _ o_m)) ?_
  refine l_as (v := (.int .i64 ((k * 2 + 2 : Nat) : Int))) rfl rfl rfl ((as_i64 o_m o_m).trans (congrArg _ o_m)) ?_
  refine l_as (v := (.string (bs [(48 + k / 10).toUInt8, (48 + k % 10).toUInt8]))) (light_cutS (a := smallsT) (k * 2) (k * 2 + 2) rfl rfl rfl rfl (by simp) (by simp) o_m (by show k * 2 + 2 ≤ 200; omega)) rfl rfl (congrArg (fun x => Value.string (bs x)) (small2 ⟨k, hk⟩)) ?_
  refine RL ?_
  refine l_nil ?_
  refine c_ret ?_
  exact l_end0 (fun _ _ => rets_v rfl) ⟨rfl, (congrArg (fun x => Value.string (bs x)) (dec_2 o_m hk).symm)⟩

theorem fints_fn (k : Nat) (hk : k < 100) (w : World) : Does Tryd.prog 43 [.int .i64 k, .int .i64 10] w [] (fun v H => H = [] ∧ v = .string (bs (decT k))) := by
 refine does_of Tryd.func43 rfl rfl rfl (St.refl w) ?_
 refine c_seq ?_
 refine c_region ?_
 refine RL ?_
 refine l_nil ?_
 refine c_seq ?_
 refine c_seq ?_
 refine c_region ?_
 refine RL ?_
 refine l_sure true rfl rfl rfl rfl ?_
 refine l_nil ?_
 refine c_true rfl ?_
 refine c_seq ?_
 refine c_seq ?_
 refine c_region ?_
 refine RL ?_
 refine l_sure true rfl rfl rfl (decide_eq_true o_m) ?_
 refine RL ?_
 refine RL ?_
 refine l_sure true rfl rfl rfl (decide_eq_true o_m) ?_
 refine RL ?_
 refine l_nil ?_
 refine c_true rfl ?_
 refine c_seq ?_
 refine c_region ?_
 refine RL ?_
 refine RLv call_48 (fun w hw => itoas_fn k hk w) ?_
 refine RL ?_
 refine l_nil ?_
 refine c_ret ?_
 exact l_end0 (fun _ _ => rets_v rfl) ⟨rfl, rfl⟩

theorem itoa0_fn (k : Nat) (hk : k < 100) (w : World) : Does Tryd.prog 30 [.int .i64 k] w [] (fun v H => H = [] ∧ v = .string (bs (decT k))) := by
 refine does_of Tryd.func30 rfl rfl rfl (St.refl w) ?_
 refine c_seq ?_
 refine c_region ?_
 refine RL ?_
 refine l_nil ?_
 refine c_seq ?_
 refine c_region ?_
 refine RL ?_
 refine RLv call_43 (fun w hw => fints_fn k hk w) ?_
 refine RL ?_
 refine l_nil ?_
 refine c_ret ?_
 exact l_end0 (fun _ _ => rets_v rfl) ⟨rfl, rfl⟩

theorem itoa1_fn (k : Nat) (hk : k < 100) (w : World) : Does Tryd.prog 25 [.int .i64 k] w [] (fun v H => H = [] ∧ v = .string (bs (decT k))) := by
 refine does_of Tryd.func25 rfl rfl rfl (St.refl w) ?_
 refine c_seq ?_
 refine c_region ?_
 refine RL ?_
 refine l_nil ?_
 refine c_seq ?_
 refine c_region ?_
 refine RL ?_
 refine RLv call_30 (fun w hw => itoa0_fn k hk w) ?_
 refine RL ?_
 refine l_nil ?_
 refine c_ret ?_
 exact l_end0 (fun _ _ => rets_v rfl) ⟨rfl, rfl⟩

/-- Any number's text. -/
theorem itoa_all (n : Int) (h0 : -9223372036854775808 ≤ n) (h1 : n ≤ 9223372036854775807) : ItoaC n := by
 intro w hP
 refine Calls.mono (Any.strconv_Itoa laysItoa n h0 h1 w hP) ?_
 rintro e w' ⟨rfl, k, os, rfl⟩
 have hl := Lib.itoa_length_le n h0 h1
 refine ⟨_, [], rfl, st_grow w k os, Lib.itoa n, rfl, by omega, fun hn => ?_⟩
 rw [decT_lib]
 unfold Lib.itoa
 rw [if_neg o_m]

end Go.Proofs.YtiadmbhafplepaaDoor
namespace Go.Proofs.YtiadmbhafplepaaDoor
open Go Go.VV Go.Proofs Go.RowKit
set_option linter.unusedSimpArgs false
set_option linter.unusedVariables false
set_option maxRecDepth 100000
set_option maxHeartbeats 1000000 in
theorem said_fn (op n : Int) (xs : List Tx) (a : Option Addr) (cp : Nat) (hxl : xs.length ≤ 1000000) (hx4 : ∀ x ∈ xs, x.length ≤ 4000) (hI : op = 1 → ItoaC n) (w : World) (hR : TxR w a xs) (hP : GlP w) : Does Tryd.prog 18 [.agg (cCd ⟨op, n⟩).toArray, .slice a xs.length cp] w [] (fun v _ => match saidT ⟨op, n⟩ xs with | some (x, k) => v = .tuple #[.string (bs x), .int .i64 (k : Int), .bool true] | none => ∃ x k, v = .tuple #[.string (bs x), .int .i64 k, .bool false]) := by
 refine does_of Tryd.func18 rfl rfl rfl (St.refl w) ?_
 refine c_seq ?_
 refine c_region ?_
 refine l_x (x_box (l := cCd ⟨op, n⟩) rfl rfl) rfl rfl ?_
 rintro _ _ ⟨b2, rfl, rfl⟩
 iterate 3 refine RL ?_
 refine l_nil ?_
 refine c_seq ?_
 refine c_region ?_
 refine RL ?_
 refine l_l l_n rfl rfl ?_
 refine RL ?_
 refine l_nil ?_
 refine c_seq ?_
 refine c_block ?_
 refine c_seq ?_
 refine c_region ?_
 refine RLa ?_
 refine l_x (x_load rfl rfl (at_own (v := .int .i64 op) m_m (by rfl))) rfl rfl ?_
 rintro _ _ ⟨rfl, rfl⟩
 refine RL ?_
 refine RL ?_
 refine l_nil ?_
 refine c_cond rfl (fun h1 => ?_) (fun h1 => ?_)
 ·have h1n := r_f h1
  refine c_seq ?_
  refine c_draw _ [2, 3, 4, 5, 11, 12] (.step true 0 (.step true 1 (.step true 3 (.step true 4 (.step true 5 (.step false 2 (.step true 6 (.step true 7 (.step true 8 (.step true 9 (.step true 10 (.step true 11 (.step true 12 (.step true 13 .done)))))))))))))) rfl (by kernel_rfl) (by kernel_rfl) (fun _ h => h) ?_
  refine RDa ?_
  refine d_load rfl rfl rfl (s_own (v := .int .i64 n) m_m (by rfl)) rfl rfl ?_
  refine RDa ?_
  refine d_load rfl rfl rfl (s_own (v := .int .i64 n) m_m (by rfl)) rfl rfl ?_
  refine RD ?_
  refine d_x rfl (x_call call_25 rfl (fun w hw => hI o_m w (gp_later hP (by simp) hw))) rfl rfl (by first | (intro h; cases h; done) | (intro _ _ _ hK x hx; obtain ⟨_, ⟨_, _, _, _⟩, rfl⟩ := hK; exact List.mem_append_right _ hx)) ?_
  rintro _ _ ⟨G16, ⟨s16, rfl, hs1, hs2⟩, rfl⟩
  refine d_bool rfl rfl rfl rfl (fun h2 => ?_) (fun h2 => ?_)
  ·have h2n := r_f h2
   refine RDa ?_
   refine d_load rfl rfl rfl (s_own (v := .int .i64 n) m_m (by rfl)) rfl rfl ?_
   iterate 5 refine RD ?_
   refine d_nil ?_
   refine c_ret ?_
   by_cases hn9 : n ≤ 2147483647
   ·have e9 : saidT ⟨op, n⟩ xs = some (decT n.toNat, 0) := by rw [saidT_eq]; rw [if_pos o_m, if_pos ⟨by omega, hn9⟩]
    rw [e9]
    rw [hs2 o_m]
    exact l_end (fun _ _ => rets_v3 rfl rfl rfl) (List.nil_sublist _) (by rw [decide_eq_true hn9]; rfl)
   ·have e9 : saidT ⟨op, n⟩ xs = none := by rw [saidT_eq]; rw [if_pos o_m, if_neg (fun h => hn9 h.2)]
    rw [e9]
    exact l_end (fun _ _ => rets_v3 rfl rfl rfl) (List.nil_sublist _) ⟨s16, 0, by rw [decide_eq_false hn9]⟩
  ·have h2n := r_f h2
   refine d_pass rfl rfl rfl ?_
   refine d_pass rfl rfl rfl ?_
   refine d_pass rfl rfl rfl ?_
   iterate 4 refine RD ?_
   refine d_nil ?_
   refine c_ret ?_
   have e9 : saidT ⟨op, n⟩ xs = none := by rw [saidT_eq]; rw [if_pos o_m, if_neg o_m]
   rw [e9]
   exact l_end (fun _ _ => rets_v3 rfl rfl rfl) (List.nil_sublist _) ⟨s16, 0, rfl⟩
 ·have h1n := r_f h1
  refine c_seq ?_
  refine c_region ?_
  refine RLa ?_
  refine l_x (x_load rfl rfl (at_own (v := .int .i64 op) m_m (by rfl))) rfl rfl ?_
  rintro _ _ ⟨rfl, rfl⟩
  refine RL ?_
  refine RL ?_
  refine l_nil ?_
  refine c_cond rfl (fun h3 => ?_) (fun h3 => ?_)
  ·have h3n := r_f h3
   refine c_seq ?_
   refine c_seq ?_
   refine c_draw _ [6, 7] (.step true 0 (.step true 1 (.step true 2 (.step true 3 (.step true 4 (.step true 5 (.step false 6 (.step true 7 (.step true 8 (.step true 9 .done)))))))))) rfl (by kernel_rfl) (by kernel_rfl) (fun _ h => h) ?_
   refine RDa ?_
   refine d_load rfl rfl rfl (s_own (v := .int .i64 n) m_m (by rfl)) rfl rfl ?_
   refine RD ?_
   refine d_bool rfl rfl rfl rfl (fun h4 => ?_) (fun h4 => ?_)
   ·have h4n := r_f h4
    refine d_pass rfl rfl rfl ?_
    refine d_pass rfl rfl rfl ?_
    refine d_passH rfl rfl rfl ?_
    refine d_pass rfl rfl rfl ?_
    refine d_pass rfl rfl rfl ?_
    refine RD ?_
    refine d_nil ?_
    refine c_true rfl ?_
    refine c_seq ?_
    refine c_region ?_
    iterate 3 refine RL ?_
    refine l_nil ?_
    refine c_ret ?_
    have e9 : saidT ⟨op, n⟩ xs = none := by rw [saidT_eq]; rw [if_neg o_m, if_pos o_m, if_neg o_m]
    rw [e9]
    exact l_end (fun _ _ => rets_v3 rfl rfl rfl) (List.nil_sublist _) ⟨[], 0, rfl⟩
   ·have h4n := r_f h4
    refine RDa ?_
    refine d_load rfl rfl rfl (s_own (v := .int .i64 n) m_m (by rfl)) rfl rfl ?_
    refine d_x rfl (x_call call_17 rfl (fun w hw => names_fn w)) rfl rfl (by intro _ _ _ hK x hx; obtain ⟨G35, ⟨_, rfl, rfl⟩, rfl⟩ := hK; repeat (first | exact hx | exact List.mem_append_left _ hx | refine List.mem_append_right _ ?_ | refine .tail _ ?_)) ?_
    rintro _ _ ⟨G35, ⟨b35, rfl, rfl⟩, rfl⟩
    refine d_light rfl l_n rfl rfl rfl ?_
    refine RD ?_
    refine RD ?_
    refine d_nil ?_
    refine c_cond rfl (fun h5 => ?_) (fun h5 => ?_)
    ·have h5n := r_f h5
     refine c_seq ?_
     refine c_region ?_
     iterate 3 refine RL ?_
     refine l_nil ?_
     refine c_ret ?_
     have e9 : saidT ⟨op, n⟩ xs = none := by rw [saidT_eq]; rw [if_neg o_m, if_pos o_m, if_neg o_m]
     rw [e9]
     exact l_end (fun _ _ => rets_v3 rfl rfl rfl) (List.nil_sublist _) ⟨[], 0, rfl⟩
    ·have h5n := r_f h5
     refine c_skip ?_
     refine c_seq ?_
     refine c_draw _ [0] (.step true 1 (.step true 2 (.step false 0 (.step true 3 (.step false 4 (.step true 5 (.step true 6 (.step true 7 .done)))))))) rfl (by kernel_rfl) (by kernel_rfl) (fun _ h => h) ?_
     refine RDa ?_
     refine d_load rfl rfl rfl (s_own (v := .int .i64 n) m_m (by rfl)) rfl rfl ?_
     refine d_x rfl (x_call call_17 rfl (fun w hw => names_fn w)) rfl rfl (by intro _ _ _ hK x hx; obtain ⟨G39, ⟨_, rfl, rfl⟩, rfl⟩ := hK; repeat (first | exact hx | exact List.mem_append_left _ hx | refine List.mem_append_right _ ?_ | refine .tail _ ?_)) ?_
     rintro _ _ ⟨G39, ⟨b39, rfl, rfl⟩, rfl⟩
     refine d_light rfl (idx_slice1 n.toNat rfl rfl rfl o_m o_m) rfl rfl rfl ?_
     refine d_x rfl (x_load rfl rfl (at_own (v := .string (bs (nms.getD n.toNat []))) m_m (by rw [Nat.zero_add]; exact strV_at (by show n.toNat < 18; omega)))) rfl rfl n_h ?_
     rintro _ _ ⟨rfl, rfl⟩
     iterate 3 refine RD ?_
     refine d_nil ?_
     refine c_ret ?_
     have e9 : saidT ⟨op, n⟩ xs = some (nms.getD n.toNat [], 0) := by rw [saidT_eq]; rw [if_neg o_m, if_pos o_m, if_pos o_m]
     rw [e9]
     exact l_end (fun _ _ => rets_v3 rfl rfl rfl) (List.nil_sublist _) rfl
  ·have h3n := r_f h3
   refine c_seq ?_
   refine c_region ?_
   refine RLa ?_
   refine l_x (x_load rfl rfl (at_own (v := .int .i64 n) m_m (by rfl))) rfl rfl ?_
   rintro _ _ ⟨rfl, rfl⟩
   refine RL ?_
   refine RLb (fun h6 => ?_) (fun h6 => ?_)
   ·have h6n := r_f h6
    refine RLp ?_
    refine RLp ?_
    refine RL ?_
    refine RL ?_
    refine l_nil ?_
    refine c_true rfl ?_
    refine c_seq ?_
    refine c_region ?_
    iterate 3 refine RL ?_
    refine l_nil ?_
    refine c_ret ?_
    have e9 : saidT ⟨op, n⟩ xs = none := by rw [saidT_eq]; rw [if_neg o_m, if_neg o_m, if_pos o_m]
    rw [e9]
    exact l_end (fun _ _ => rets_v3 rfl rfl rfl) (List.nil_sublist _) ⟨[], 0, rfl⟩
   ·have h6n := r_f h6
    iterate 4 refine RL ?_
    refine l_nil ?_
    refine c_cond rfl (fun h7 => ?_) (fun h7 => ?_)
    ·have h7n := r_f h7
     refine c_seq ?_
     refine c_region ?_
     iterate 3 refine RL ?_
     refine l_nil ?_
     refine c_ret ?_
     have e9 : saidT ⟨op, n⟩ xs = none := by rw [saidT_eq]; rw [if_neg o_m, if_neg o_m, if_pos o_m]
     rw [e9]
     exact l_end (fun _ _ => rets_v3 rfl rfl rfl) (List.nil_sublist _) ⟨[], 0, rfl⟩
    ·have h7n := r_f h7
     refine c_seq ?_
     refine c_region ?_
     refine RLa ?_
     refine l_x (x_load rfl rfl (at_own (v := .int .i64 op) m_m (by rfl))) rfl rfl ?_
     rintro _ _ ⟨rfl, rfl⟩
     refine RL ?_
     refine RL ?_
     refine l_nil ?_
     refine c_cond rfl (fun h8 => ?_) (fun h8 => ?_)
     ·have h8n := r_f h8
      refine c_seq ?_
      obtain ⟨ba, rfl, hra⟩ := hR o_m
      have hl1 := getD_short hx4 (xs.length - 1)
      have hl2 := getD_short hx4 (xs.length - 2)
      have hl3 := word_short op
      refine c_region ?_
      refine RL ?_
      refine RL ?_
      refine l_as (l_sub rfl rfl) rfl rfl (by first | exact as_i64 o_m o_m | rfl) ?_
      refine l_l (idx_slice1 (xs.length - 1) rfl rfl rfl o_m o_m) rfl rfl ?_
      refine l_x (x_load rfl rfl (at_old (hra (xs.length - 1) _ (strV_at o_m)) (by simp))) rfl rfl ?_
      rintro _ _ ⟨rfl, rfl⟩
      refine l_l (light_cat rfl rfl (by (try simp only [List.length_append, List.length_cons, List.length_nil]); omega)) rfl rfl ?_
      refine l_l (light_cat rfl rfl (by (try simp only [List.length_append, List.length_cons, List.length_nil]); omega)) rfl rfl ?_
      iterate 3 refine RL ?_
      refine l_nil ?_
      refine c_ret ?_
      have e9 : saidT ⟨op, n⟩ xs = some ([91] ++ (xs.getD (xs.length - 1) []) ++ [93], 1) := by rw [saidT_eq]; rw [if_neg o_m, if_neg o_m, if_neg o_m, if_pos o_m]
      rw [e9]
      exact l_end (fun _ _ => rets_v3 rfl rfl rfl) (List.nil_sublist _) rfl
     ·have h8n := r_f h8
      refine c_seq ?_
      refine c_region ?_
      refine RLa ?_
      refine l_x (x_load rfl rfl (at_own (v := .int .i64 op) m_m (by rfl))) rfl rfl ?_
      rintro _ _ ⟨rfl, rfl⟩
      refine RL ?_
      refine RLb (fun h9 => ?_) (fun h9 => ?_)
      ·have h9n := r_f h9
       refine RLa ?_
       refine l_x (x_load rfl rfl (at_own (v := .int .i64 op) m_m (by rfl))) rfl rfl ?_
       rintro _ _ ⟨rfl, rfl⟩
       iterate 3 refine RL ?_
       refine l_nil ?_
       refine c_cond rfl (fun h10 => ?_) (fun h10 => ?_)
       ·have h10n := r_f h10
        refine c_seq ?_
        obtain ⟨ba, rfl, hra⟩ := hR o_m
        have hl1 := getD_short hx4 (xs.length - 1)
        have hl2 := getD_short hx4 (xs.length - 2)
        have hl3 := word_short op
        rcases (show op = 4 ∨ op = 5 ∨ op = 6 by omega) with rfl | rfl | rfl
        ·refine c_draw _ [5, 6, 7, 8, 9] (.step true 0 (.step true 1 (.step true 2 (.step true 3 (.step true 4 (.step true 5 (.step true 6 (.step true 7 (.step true 8 (.step true 9 (.step true 10 (.step true 11 (.step true 12 (.step true 13 .done)))))))))))))) rfl (by kernel_rfl) (by kernel_rfl) (fun _ h => h) ?_
         refine RDa ?_
         refine d_load rfl rfl rfl (s_own (v := .int .i64 4) m_m (by rfl)) rfl rfl ?_
         refine d_as (v := (.int .i64 0)) rfl rfl rfl rfl rfl rfl ?_
         refine d_as (v := (.int .u8 45)) rfl rfl rfl rfl rfl rfl ?_
         refine d_as (v := (.string (bs [preC 0]))) rfl rfl rfl rfl rfl rfl ?_
         refine RD ?_
         refine RD ?_
         refine d_as rfl (l_sub rfl rfl) rfl rfl rfl (by first | exact as_i64 o_m o_m | rfl) ?_
         refine d_light rfl (idx_slice1 (xs.length - 1) rfl rfl rfl o_m o_m) rfl rfl rfl ?_
         refine d_load rfl rfl rfl (s_old (hra (xs.length - 1) _ (strV_at o_m)) (by simp)) rfl rfl ?_
         refine d_light rfl (light_cat rfl rfl (by (try simp only [List.length_append, List.length_cons, List.length_nil]); omega)) rfl rfl rfl ?_
         iterate 3 refine RD ?_
         refine d_nil ?_
         refine c_ret ?_
         have e9 : saidT ⟨4, n⟩ xs = some ([preC 0] ++ (xs.getD (xs.length - 1) []), 1) := by rw [saidT_eq]; rw [if_neg o_m, if_neg o_m, if_neg o_m, if_neg o_m, if_pos o_m]; rfl
         rw [e9]
         exact l_end (fun _ _ => rets_v3 rfl rfl rfl) (List.nil_sublist _) rfl
        ·refine c_draw _ [5, 6, 7, 8, 9] (.step true 0 (.step true 1 (.step true 2 (.step true 3 (.step true 4 (.step true 5 (.step true 6 (.step true 7 (.step true 8 (.step true 9 (.step true 10 (.step true 11 (.step true 12 (.step true 13 .done)))))))))))))) rfl (by kernel_rfl) (by kernel_rfl) (fun _ h => h) ?_
         refine RDa ?_
         refine d_load rfl rfl rfl (s_own (v := .int .i64 5) m_m (by rfl)) rfl rfl ?_
         refine d_as (v := (.int .i64 1)) rfl rfl rfl rfl rfl rfl ?_
         refine d_as (v := (.int .u8 33)) rfl rfl rfl rfl rfl rfl ?_
         refine d_as (v := (.string (bs [preC 1]))) rfl rfl rfl rfl rfl rfl ?_
         refine RD ?_
         refine RD ?_
         refine d_as rfl (l_sub rfl rfl) rfl rfl rfl (by first | exact as_i64 o_m o_m | rfl) ?_
         refine d_light rfl (idx_slice1 (xs.length - 1) rfl rfl rfl o_m o_m) rfl rfl rfl ?_
         refine d_load rfl rfl rfl (s_old (hra (xs.length - 1) _ (strV_at o_m)) (by simp)) rfl rfl ?_
         refine d_light rfl (light_cat rfl rfl (by (try simp only [List.length_append, List.length_cons, List.length_nil]); omega)) rfl rfl rfl ?_
         iterate 3 refine RD ?_
         refine d_nil ?_
         refine c_ret ?_
         have e9 : saidT ⟨5, n⟩ xs = some ([preC 1] ++ (xs.getD (xs.length - 1) []), 1) := by rw [saidT_eq]; rw [if_neg o_m, if_neg o_m, if_neg o_m, if_neg o_m, if_pos o_m]; rfl
         rw [e9]
         exact l_end (fun _ _ => rets_v3 rfl rfl rfl) (List.nil_sublist _) rfl
        ·refine c_draw _ [5, 6, 7, 8, 9] (.step true 0 (.step true 1 (.step true 2 (.step true 3 (.step true 4 (.step true 5 (.step true 6 (.step true 7 (.step true 8 (.step true 9 (.step true 10 (.step true 11 (.step true 12 (.step true 13 .done)))))))))))))) rfl (by kernel_rfl) (by kernel_rfl) (fun _ h => h) ?_
         refine RDa ?_
         refine d_load rfl rfl rfl (s_own (v := .int .i64 6) m_m (by rfl)) rfl rfl ?_
         refine d_as (v := (.int .i64 2)) rfl rfl rfl rfl rfl rfl ?_
         refine d_as (v := (.int .u8 126)) rfl rfl rfl rfl rfl rfl ?_
         refine d_as (v := (.string (bs [preC 2]))) rfl rfl rfl rfl rfl rfl ?_
         refine RD ?_
         refine RD ?_
         refine d_as rfl (l_sub rfl rfl) rfl rfl rfl (by first | exact as_i64 o_m o_m | rfl) ?_
         refine d_light rfl (idx_slice1 (xs.length - 1) rfl rfl rfl o_m o_m) rfl rfl rfl ?_
         refine d_load rfl rfl rfl (s_old (hra (xs.length - 1) _ (strV_at o_m)) (by simp)) rfl rfl ?_
         refine d_light rfl (light_cat rfl rfl (by (try simp only [List.length_append, List.length_cons, List.length_nil]); omega)) rfl rfl rfl ?_
         iterate 3 refine RD ?_
         refine d_nil ?_
         refine c_ret ?_
         have e9 : saidT ⟨6, n⟩ xs = some ([preC 2] ++ (xs.getD (xs.length - 1) []), 1) := by rw [saidT_eq]; rw [if_neg o_m, if_neg o_m, if_neg o_m, if_neg o_m, if_pos o_m]; rfl
         rw [e9]
         exact l_end (fun _ _ => rets_v3 rfl rfl rfl) (List.nil_sublist _) rfl
       ·have h10n := r_f h10
        refine c_seq ?_
        refine c_region ?_
        refine RLa ?_
        refine l_x (x_load rfl rfl (at_own (v := .int .i64 op) m_m (by rfl))) rfl rfl ?_
        rintro _ _ ⟨rfl, rfl⟩
        refine RL ?_
        refine RLb (fun h11 => ?_) (fun h11 => ?_)
        ·have h11n := r_f h11
         refine RLa ?_
         refine l_x (x_load rfl rfl (at_own (v := .int .i64 op) m_m (by rfl))) rfl rfl ?_
         rintro _ _ ⟨rfl, rfl⟩
         refine RL ?_
         refine RL ?_
         refine RLb (fun h12 => ?_) (fun h12 => ?_)
         ·have h12n := r_f h12
          iterate 4 refine RL ?_
          refine l_nil ?_
          refine c_cond rfl (fun h13 => ?_) (fun h13 => ?_)
          ·have h13n := r_f h13
           refine c_seq ?_
           obtain ⟨ba, rfl, hra⟩ := hR o_m
           have hl1 := getD_short hx4 (xs.length - 1)
           have hl2 := getD_short hx4 (xs.length - 2)
           have hl3 := word_short op
           refine c_draw _ [7, 8, 9, 10, 11, 12, 13, 14, 15, 16] (.step true 0 (.step true 1 (.step true 2 (.step true 3 (.step true 4 (.step true 5 (.step true 6 (.step true 7 (.step true 8 (.step true 12 (.step true 13 (.step true 14 (.step true 15 (.step true 16 (.step false 9 (.step true 10 (.step true 11 (.step true 17 (.step true 18 (.step true 19 (.step true 20 (.step true 21 .done)))))))))))))))))))))) rfl (by kernel_rfl) (by kernel_rfl) (fun _ h => h) ?_
           refine RD ?_
           refine RD ?_
           refine d_as rfl (l_sub rfl rfl) rfl rfl rfl (by first | exact as_i64 o_m o_m | rfl) ?_
           refine d_light rfl (idx_slice1 (xs.length - 2) rfl rfl rfl o_m o_m) rfl rfl rfl ?_
           refine d_load rfl rfl rfl (s_old (hra (xs.length - 2) _ (strV_at o_m)) (by simp)) rfl rfl ?_
           refine d_light rfl (light_cat rfl rfl (by (try simp only [List.length_append, List.length_cons, List.length_nil]); omega)) rfl rfl rfl ?_
           refine d_light rfl (light_cat rfl rfl (by (try simp only [List.length_append, List.length_cons, List.length_nil]); omega)) rfl rfl rfl ?_
           refine RDa ?_
           refine d_load rfl rfl rfl (s_own (v := .int .i64 op) m_m (by rfl)) rfl rfl ?_
           refine RD ?_
           refine RD ?_
           refine d_as rfl (l_sub rfl rfl) rfl rfl rfl (by first | exact as_i64 o_m o_m | rfl) ?_
           refine d_light rfl (idx_slice1 (xs.length - 1) rfl rfl rfl o_m o_m) rfl rfl rfl ?_
           refine d_load rfl rfl rfl (s_old (hra (xs.length - 1) _ (strV_at o_m)) (by simp)) rfl rfl ?_
           refine d_x rfl (x_call call_26 rfl (fun w hw => word_fn op w)) rfl rfl (by intro _ _ _ hK x hx; obtain ⟨G105, rfl, rfl⟩ := hK; repeat (first | exact hx | exact List.mem_append_left _ hx | refine List.mem_append_right _ ?_ | refine .tail _ ?_)) ?_
           rintro _ _ ⟨G105, rfl, rfl⟩
           refine d_light rfl (light_cat rfl rfl (by (try simp only [List.length_append, List.length_cons, List.length_nil]); omega)) rfl rfl rfl ?_
           refine d_light rfl (light_cat rfl rfl (by (try simp only [List.length_append, List.length_cons, List.length_nil]); omega)) rfl rfl rfl ?_
           refine d_light rfl (light_cat rfl rfl (by (try simp only [List.length_append, List.length_cons, List.length_nil]); omega)) rfl rfl rfl ?_
           refine d_light rfl (light_cat rfl rfl (by (try simp only [List.length_append, List.length_cons, List.length_nil]); omega)) rfl rfl rfl ?_
           iterate 3 refine RD ?_
           refine d_nil ?_
           refine c_ret ?_
           have e9 : saidT ⟨op, n⟩ xs = some ([40] ++ (xs.getD (xs.length - 2) []) ++ [32] ++ wordT op ++ [32] ++ (xs.getD (xs.length - 1) []) ++ [41], 2) := by rw [saidT_eq]; rw [if_neg o_m, if_neg o_m, if_neg o_m, if_neg o_m, if_neg o_m, if_pos o_m]
           rw [e9]
           exact l_end (fun _ _ => rets_v3 rfl rfl rfl) (List.nil_sublist _) rfl
          ·have h13n := r_f h13
           refine c_skip ?_
           refine c_seq ?_
           refine c_region ?_
           iterate 3 refine RL ?_
           refine l_nil ?_
           refine c_ret ?_
           have e9 : saidT ⟨op, n⟩ xs = none := by rw [saidT_eq]; rw [if_neg o_m, if_neg o_m, if_neg o_m, if_neg o_m, if_neg o_m, if_neg o_m]
           rw [e9]
           exact l_end (fun _ _ => rets_v3 rfl rfl rfl) (List.nil_sublist _) ⟨[], 0, rfl⟩
         ·have h12n := r_f h12
          refine RLp ?_
          refine RLp ?_
          refine RL ?_
          refine RL ?_
          refine l_nil ?_
          refine c_false rfl ?_
          refine c_skip ?_
          refine c_seq ?_
          refine c_region ?_
          iterate 3 refine RL ?_
          refine l_nil ?_
          refine c_ret ?_
          have e9 : saidT ⟨op, n⟩ xs = none := by rw [saidT_eq]; rw [if_neg o_m, if_neg o_m, if_neg o_m, if_neg o_m, if_neg o_m, if_neg o_m]
          rw [e9]
          exact l_end (fun _ _ => rets_v3 rfl rfl rfl) (List.nil_sublist _) ⟨[], 0, rfl⟩
        ·have h11n := r_f h11
         iterate 3 refine RLp ?_
         refine RL ?_
         refine RL ?_
         refine RLp ?_
         refine RLp ?_
         refine RL ?_
         refine RL ?_
         refine l_nil ?_
         refine c_false rfl ?_
         refine c_skip ?_
         refine c_seq ?_
         refine c_region ?_
         iterate 3 refine RL ?_
         refine l_nil ?_
         refine c_ret ?_
         have e9 : saidT ⟨op, n⟩ xs = none := by rw [saidT_eq]; rw [if_neg o_m, if_neg o_m, if_neg o_m, if_neg o_m, if_neg o_m, if_neg o_m]
         rw [e9]
         exact l_end (fun _ _ => rets_v3 rfl rfl rfl) (List.nil_sublist _) ⟨[], 0, rfl⟩
      ·have h9n := r_f h9
       iterate 3 refine RLp ?_
       refine RL ?_
       refine RL ?_
       refine l_nil ?_
       refine c_false rfl ?_
       refine c_seq ?_
       refine c_region ?_
       refine RLa ?_
       refine l_x (x_load rfl rfl (at_own (v := .int .i64 op) m_m (by rfl))) rfl rfl ?_
       rintro _ _ ⟨rfl, rfl⟩
       refine RL ?_
       refine RLb (fun h14 => ?_) (fun h14 => ?_)
       ·have h14n := r_f h14
        refine RLa ?_
        refine l_x (x_load rfl rfl (at_own (v := .int .i64 op) m_m (by rfl))) rfl rfl ?_
        rintro _ _ ⟨rfl, rfl⟩
        refine RL ?_
        refine RL ?_
        refine RLb (fun h15 => ?_) (fun h15 => ?_)
        ·have h15n := r_f h15
         iterate 4 refine RL ?_
         refine l_nil ?_
         refine c_cond rfl (fun h16 => ?_) (fun h16 => ?_)
         ·have h16n := r_f h16
          refine c_seq ?_
          obtain ⟨ba, rfl, hra⟩ := hR o_m
          have hl1 := getD_short hx4 (xs.length - 1)
          have hl2 := getD_short hx4 (xs.length - 2)
          have hl3 := word_short op
          refine c_draw _ [7, 8, 9, 10, 11, 12, 13, 14, 15, 16] (.step true 0 (.step true 1 (.step true 2 (.step true 3 (.step true 4 (.step true 5 (.step true 6 (.step true 7 (.step true 8 (.step true 12 (.step true 13 (.step true 14 (.step true 15 (.step true 16 (.step false 9 (.step true 10 (.step true 11 (.step true 17 (.step true 18 (.step true 19 (.step true 20 (.step true 21 .done)))))))))))))))))))))) rfl (by kernel_rfl) (by kernel_rfl) (fun _ h => h) ?_
          refine RD ?_
          refine RD ?_
          refine d_as rfl (l_sub rfl rfl) rfl rfl rfl (by first | exact as_i64 o_m o_m | rfl) ?_
          refine d_light rfl (idx_slice1 (xs.length - 2) rfl rfl rfl o_m o_m) rfl rfl rfl ?_
          refine d_load rfl rfl rfl (s_old (hra (xs.length - 2) _ (strV_at o_m)) (by simp)) rfl rfl ?_
          refine d_light rfl (light_cat rfl rfl (by (try simp only [List.length_append, List.length_cons, List.length_nil]); omega)) rfl rfl rfl ?_
          refine d_light rfl (light_cat rfl rfl (by (try simp only [List.length_append, List.length_cons, List.length_nil]); omega)) rfl rfl rfl ?_
          refine RDa ?_
          refine d_load rfl rfl rfl (s_own (v := .int .i64 op) m_m (by rfl)) rfl rfl ?_
          refine RD ?_
          refine RD ?_
          refine d_as rfl (l_sub rfl rfl) rfl rfl rfl (by first | exact as_i64 o_m o_m | rfl) ?_
          refine d_light rfl (idx_slice1 (xs.length - 1) rfl rfl rfl o_m o_m) rfl rfl rfl ?_
          refine d_load rfl rfl rfl (s_old (hra (xs.length - 1) _ (strV_at o_m)) (by simp)) rfl rfl ?_
          refine d_x rfl (x_call call_26 rfl (fun w hw => word_fn op w)) rfl rfl (by intro _ _ _ hK x hx; obtain ⟨G105, rfl, rfl⟩ := hK; repeat (first | exact hx | exact List.mem_append_left _ hx | refine List.mem_append_right _ ?_ | refine .tail _ ?_)) ?_
          rintro _ _ ⟨G105, rfl, rfl⟩
          refine d_light rfl (light_cat rfl rfl (by (try simp only [List.length_append, List.length_cons, List.length_nil]); omega)) rfl rfl rfl ?_
          refine d_light rfl (light_cat rfl rfl (by (try simp only [List.length_append, List.length_cons, List.length_nil]); omega)) rfl rfl rfl ?_
          refine d_light rfl (light_cat rfl rfl (by (try simp only [List.length_append, List.length_cons, List.length_nil]); omega)) rfl rfl rfl ?_
          refine d_light rfl (light_cat rfl rfl (by (try simp only [List.length_append, List.length_cons, List.length_nil]); omega)) rfl rfl rfl ?_
          iterate 3 refine RD ?_
          refine d_nil ?_
          refine c_ret ?_
          have e9 : saidT ⟨op, n⟩ xs = some ([40] ++ (xs.getD (xs.length - 2) []) ++ [32] ++ wordT op ++ [32] ++ (xs.getD (xs.length - 1) []) ++ [41], 2) := by rw [saidT_eq]; rw [if_neg o_m, if_neg o_m, if_neg o_m, if_neg o_m, if_neg o_m, if_pos o_m]
          rw [e9]
          exact l_end (fun _ _ => rets_v3 rfl rfl rfl) (List.nil_sublist _) rfl
         ·have h16n := r_f h16
          refine c_skip ?_
          refine c_seq ?_
          refine c_region ?_
          iterate 3 refine RL ?_
          refine l_nil ?_
          refine c_ret ?_
          have e9 : saidT ⟨op, n⟩ xs = none := by rw [saidT_eq]; rw [if_neg o_m, if_neg o_m, if_neg o_m, if_neg o_m, if_neg o_m, if_neg o_m]
          rw [e9]
          exact l_end (fun _ _ => rets_v3 rfl rfl rfl) (List.nil_sublist _) ⟨[], 0, rfl⟩
        ·have h15n := r_f h15
         refine RLp ?_
         refine RLp ?_
         refine RL ?_
         refine RL ?_
         refine l_nil ?_
         refine c_false rfl ?_
         refine c_skip ?_
         refine c_seq ?_
         refine c_region ?_
         iterate 3 refine RL ?_
         refine l_nil ?_
         refine c_ret ?_
         have e9 : saidT ⟨op, n⟩ xs = none := by rw [saidT_eq]; rw [if_neg o_m, if_neg o_m, if_neg o_m, if_neg o_m, if_neg o_m, if_neg o_m]
         rw [e9]
         exact l_end (fun _ _ => rets_v3 rfl rfl rfl) (List.nil_sublist _) ⟨[], 0, rfl⟩
       ·have h14n := r_f h14
        iterate 3 refine RLp ?_
        refine RL ?_
        refine RL ?_
        refine RLp ?_
        refine RLp ?_
        refine RL ?_
        refine RL ?_
        refine l_nil ?_
        refine c_false rfl ?_
        refine c_skip ?_
        refine c_seq ?_
        refine c_region ?_
        iterate 3 refine RL ?_
        refine l_nil ?_
        refine c_ret ?_
        have e9 : saidT ⟨op, n⟩ xs = none := by rw [saidT_eq]; rw [if_neg o_m, if_neg o_m, if_neg o_m, if_neg o_m, if_neg o_m, if_neg o_m]
        rw [e9]
        exact l_end (fun _ _ => rets_v3 rfl rfl rfl) (List.nil_sublist _) ⟨[], 0, rfl⟩

end Go.Proofs.YtiadmbhafplepaaDoor
namespace Go.Proofs.YtiadmbhafplepaaDoor
open Go Go.VV

theorem Vec.txr {T : Nat} {a : Option Addr} {n c : Nat} {xs : List Tx} {G A : Heap} {w0 w : World} {ms : List Nat} (h : Vec T 1 (.slice a n c) xs.length (xs.map strV) G) (hw : St w0 ms (A ++ G) w) : TxR w a xs := fun hpos => by
  obtain ⟨b, cap, sp, he, hG, -⟩ := h.full (by omega)
  cases he
  subst hG
  exact ⟨b, rfl, Row.left (row_own (List.mem_append_right A (.head _)) w hw)⟩
theorem vec_cases {T : Nat} {a : Option Addr} {c : Nat} {xs : List Tx} {G : Heap} (h : Vec T 1 (.slice a xs.length c) xs.length (xs.map strV) G) :
    (a = none ∧ c = 0 ∧ xs = [] ∧ G = []) ∨ ∃ b sp, a = some ⟨b, 0, none⟩ ∧ G = [(b, blk (xs.map strV ++ sp) T)] ∧ (xs.map strV ++ sp).length = c ∧ c ≤ maxLen ∧ xs.length ≤ c := by
  generalize hv : Value.slice a xs.length c = v at h
  generalize hn : xs.length = n at h hv
  generalize hy : xs.map strV = ys at h
  cases h with
  | nil => cases hv; exact .inl ⟨rfl, rfl, List.eq_nil_of_length_eq_zero hn, rfl⟩
  | row b n cap ys sp h1 h2 h3 h4 => cases hv; exact .inr ⟨b, sp, rfl, rfl, by simpa using h2, h3, h4⟩
theorem vec_cut {T b c k : Nat} {xs : List Tx} {sp : List Value} (hl : (xs.map strV ++ sp).length = c) (hm : c ≤ maxLen) (hc : xs.length ≤ c) : Vec T 1 (.slice (some ⟨b, 0, none⟩) (xs.length - k) c) (xs.length - k) ((xs.take (xs.length - k)).map strV) [(b, blk (xs.map strV ++ sp) T)] := by
  have := Vec.row (T := T) (s := 1) b (xs.length - k) c ((xs.take (xs.length - k)).map strV) ((xs.drop (xs.length - k)).map strV ++ sp) (by rw [List.length_map, List.length_take]; omega) (by rw [← List.append_assoc, ← List.map_append, List.take_append_drop, hl, Nat.mul_one]) hm (by omega)
  rwa [← List.append_assoc, ← List.map_append, List.take_append_drop] at this
theorem drop_get {l : List Cd} {i : Nat} {c : Cd} (h : l[i]? = some c) : l.drop i = c :: l.drop (i + 1) := by
  obtain ⟨hl, rfl⟩ := List.getElem?_eq_some_iff.1 h
  exact List.drop_eq_getElem_cons hl
theorem lays_step {c : Cd} {l : List Cd} {xs : List Tx} {x : Tx} {k : Nat} (h : saidT c xs = some (x, k)) (hx : ¬ 4000 < x.length) : laysT (c :: l) xs = laysT l (xs.take (xs.length - k) ++ [x]) := by
  show (match layT c xs with | none => none | some ys => laysT l ys) = _
  unfold layT
  rw [h]
  dsimp only
  rw [if_neg hx]
theorem lays_none {c : Cd} {l : List Cd} {xs : List Tx} (h : saidT c xs = none) : laysT (c :: l) xs = none := by
  show (match layT c xs with | none => none | some ys => laysT l ys) = _
  unfold layT
  rw [h]
theorem lays_long {c : Cd} {l : List Cd} {xs : List Tx} {x : Tx} {k : Nat} (h : saidT c xs = some (x, k)) (hx : 4000 < x.length) : laysT (c :: l) xs = none := by
  show (match layT c xs with | none => none | some ys => laysT l ys) = _
  unfold layT
  rw [h]
  dsimp only
  rw [if_pos hx]
theorem print_none {l : List Cd} (h : laysT l [] = none) : printT l = ([], 5) := by unfold printT; rw [h]
theorem print_one {l : List Cd} {x : Tx} (h : laysT l [] = some [x]) : printT l = (x, 0) := by unfold printT; rw [h]
theorem print_many {l : List Cd} {xs : List Tx} (h : laysT l [] = some xs) (hn : xs.length ≠ 1) : printT l = ([], 5) := by
  unfold printT
  rw [h]
  match xs, hn with
  | [], _ => rfl
  | [x], hn => exact absurd rfl hn
  | _ :: _ :: _, _ => rfl
theorem one_of {xs : List Tx} (h : xs.length = 1) : ∃ x, xs = [x] := List.length_eq_one_iff.1 h
end Go.Proofs.YtiadmbhafplepaaDoor
namespace Go.Proofs.YtiadmbhafplepaaDoor
open Go Go.VV Go.Proofs Go.RowKit
set_option linter.unusedSimpArgs false
set_option linter.unusedVariables false
set_option maxRecDepth 100000
set_option maxHeartbeats 1000000 in
theorem print_fn (l : List Cd) (a : Option Addr) (cp : Nat) (hll : l.length ≤ 100000) (hI : ∀ c ∈ l, c.op = 1 → ItoaC c.n) (w : World) (hE : Els w cCd a l) (hP : GlP w) : Does Tryd.prog 10 [.slice a l.length cp] w [] (fun v _ => v = .tuple #[.string (bs (printT l).1), .int .i64 (printT l).2]) := by
 refine does_of Tryd.func10 rfl rfl rfl (St.refl w) ?_
 refine c_seq ?_
 refine c_region ?_
 refine RL ?_
 refine RL ?_
 refine l_nil ?_
 refine c_seq ?_
 refine c_region ?_
 refine RL ?_
 refine l_nil ?_
 refine c_seq ?_
 refine c_seq ?_
 refine c_region ?_
 refine RL ?_
 refine l_l l_n rfl rfl ?_
 refine RL ?_
 refine l_nil ?_
 refine c_block ?_
 refine c_loop (σ := Nat × List Tx × Value × Heap) [2, 3, 4, 6, 7, 8, 9, 12, 13, 14, 15, 16, 17, 18, 19, 20, 21, 22, 23, 24, 25, 26, 27, 28, 29, 30, 31, 32, 33, 34, 35, 36, 37, 38, 39] (fun q => [(4, q.2.2.1), (12, .int .i64 q.1)]) (fun q => q.2.2.2) (fun q => q.1 ≤ l.length ∧ laysT l [] = laysT (l.drop q.1) q.2.1 ∧ q.2.1.length ≤ q.1 ∧ (∀ x ∈ q.2.1, x.length ≤ 4000) ∧ Vec 9 1 q.2.2.1 q.2.1.length (q.2.1.map strV) q.2.2.2) (fun q => l.length - q.1) (0, [], .slice none 0 0, []) ?_ ?_ ?_ ?_
 ·exact ⟨Nat.zero_le _, rfl, Nat.le_refl _, fun _ h => (by cases h), .nil⟩
 ·exact .cons rfl (.cons rfl .nil)
 ·exact fun _ h => h
 ·rintro ⟨i, xs, vi, Gi⟩ y3 ⟨hi, hL9, hxi, hx4, hVi⟩
  dsimp only at hi hL9 hxi hx4 hVi ⊢
  obtain ⟨ai, ci, rfl⟩ := hVi.slice
  refine c_seq ?_
  refine c_region ?_
  refine RL ?_
  refine l_nil ?_
  refine c_seq ?_
  refine c_cond rfl (fun h1 => ?_) (fun h1 => ?_)
  ·have h1n := r_f h1
   refine c_skip ?_
   refine c_seq ?_
   refine c_block ?_
   refine c_seq ?_
   obtain ⟨bx, ox, rfl, hrx⟩ := hE.row (i := i) o_m
   obtain ⟨⟨op, n⟩, hc9⟩ : ∃ c, l[i]? = some c := ⟨_, List.getElem?_eq_getElem o_m⟩
   have hd9 := drop_get hc9
   refine c_region ?_
   refine l_l (idx_slice (s := 2) i rfl rfl rfl rfl o_m) rfl rfl ?_
   refine l_x (x_loadA rfl rfl rfl (fun w hw => (row_old hrx (by simp) w hw).nth' cCd_len hc9)) rfl rfl ?_
   rintro _ _ ⟨rfl, rfl⟩
   refine l_x (x_alloc rfl) rfl rfl ?_
   rintro _ _ ⟨b6, rfl, rfl⟩
   refine l_x (x_storeTo (l' := cCd ⟨op, n⟩) 0 rfl rfl rfl rfl rfl rfl (Nat.le_of_ble_eq_true rfl) rfl) rfl rfl ?_
   rintro _ _ ⟨rfl, rfl⟩
   refine c_u ?_
   refine l_nil ?_
   refine c_seq ?_
   rcases hs9 : saidT ⟨op, n⟩ xs with _ | ⟨x, k⟩
   ·refine c_region ?_
    refine l_x (x_loadA rfl rfl rfl (row_own (l := cCd ⟨op, n⟩) m_m)) rfl rfl ?_
    rintro _ _ ⟨rfl, rfl⟩
    refine RL ?_
    refine l_x (x_call call_18 rfl (fun w hw => said_fn op n xs ai ci o_m hx4 (fun h => hI _ (List.mem_of_getElem? hc9) h) w (Vec.txr (A := [(b6, _)]) hVi hw) (gp_later hP (by simp) hw))) rfl rfl ?_
    rw [hs9]
    rintro _ _ ⟨G16, ⟨x9, k9, rfl⟩, rfl⟩
    refine l_heap (fun w h => h.sub (List.sublist_append_right _ _)) ?_
    iterate 7 refine RL ?_
    refine l_nil ?_
    refine c_seq ?_
    refine c_seq ?_
    refine c_region ?_
    refine RL ?_
    refine l_sure true rfl rfl rfl rfl ?_
    refine RL ?_
    iterate 3 refine RLp ?_
    refine RL ?_
    refine l_nil ?_
    refine c_true rfl ?_
    refine c_seq ?_
    refine c_region ?_
    refine RL ?_
    refine RL ?_
    refine l_nil ?_
    refine c_ret ?_
    rw [print_none (by rw [hL9, hd9, lays_none hs9])]
    exact l_end (fun _ _ => rets_two rfl rfl) (List.nil_sublist _) rfl
   ·refine c_region ?_
    refine l_x (x_loadA rfl rfl rfl (row_own (l := cCd ⟨op, n⟩) m_m)) rfl rfl ?_
    rintro _ _ ⟨rfl, rfl⟩
    refine RL ?_
    refine l_x (x_call call_18 rfl (fun w hw => said_fn op n xs ai ci o_m hx4 (fun h => hI _ (List.mem_of_getElem? hc9) h) w (Vec.txr (A := [(b6, _)]) hVi hw) (gp_later hP (by simp) hw))) rfl rfl ?_
    rw [hs9]
    rintro _ _ ⟨G16, rfl, rfl⟩
    refine l_heap (fun w h => h.sub (List.sublist_append_right _ _)) ?_
    iterate 7 refine RL ?_
    refine l_nil ?_
    refine c_seq ?_
    refine c_seq ?_
    refine c_region ?_
    refine RL ?_
    refine l_sure false rfl rfl rfl rfl ?_
    refine RL ?_
    refine RL ?_
    refine l_l (light_lenstr rfl rfl) rfl rfl ?_
    refine RL ?_
    refine RL ?_
    refine l_nil ?_
    refine c_cond rfl (fun h2 => ?_) (fun h2 => ?_)
    ·have h2n := r_f h2
     refine c_seq ?_
     refine c_region ?_
     refine RL ?_
     refine RL ?_
     refine l_nil ?_
     refine c_ret ?_
     rw [print_none (by rw [hL9, hd9, lays_long hs9 o_m])]
     exact l_end (fun _ _ => rets_two rfl rfl) (List.nil_sublist _) rfl
    ·have h2n := r_f h2
     refine c_skip ?_
     have hk9 := said_took hs9
     rcases vec_cases hVi with ⟨rfl, rfl, rfl, rfl⟩ | ⟨b, sp, rfl, rfl, hcp, hcm, hcl⟩
     ·refine c_region ?_
      refine RL ?_
      refine RL ?_
      obtain rfl : k = 0 := by simpa using hk9
      refine l_l l_n rfl rfl ?_
      refine RL ?_
      refine l_as (v := (.int .i64 0)) rfl rfl rfl rfl ?_
      refine l_as (v := (.slice none 0 0)) (by first | exact light_cutN rfl rfl rfl rfl rfl rfl | exact cut_slice1 0 (xs.length - k) rfl rfl rfl rfl rfl rfl (Nat.zero_le _) o_m) rfl rfl rfl ?_
      refine RL ?_
      refine l_x (x_slc (z := [.string (bs [])]) (l := [.string (bs x)]) (ps := [(0, .string (bs x))]) rfl rfl rfl rfl rfl rfl) rfl rfl ?_
      rintro _ _ ⟨b37, rfl, rfl⟩
      refine l_x (x_append (A := [(b37, _), (b6, _)]) (G := []) (R := []) (v := .slice none 0 0) (n := 0) (xs := []) (m := 1) (T := 9) (s := 1) (by_ := 16) (ys := [.string (bs x)]) rfl rfl rfl rfl .nil (fun w hw => .row _ _ _ _ _ rfl (row_own (b := b37) (.head _) w hw)) rfl o_m o_m) rfl rfl ?_
      rintro v38 _ ⟨G38, hV38, _, rfl⟩
      obtain ⟨a38, c38, rfl⟩ := hV38.slice
      refine RL ?_
      refine l_nil ?_
      refine c_region ?_
      refine l_as (v := (.int .i64 ((i + 1 : Nat) : Int))) rfl rfl rfl (congrArg _ (succ_law o_m)) ?_
      refine RL ?_
      refine l_nil ?_
      have hxt9 : (([] : List Tx).take (([] : List Tx).length - 0) ++ [x]).length = ([] : List Tx).length - 0 + 1 := by simp
      exact ⟨(i + 1, (([] : List Tx).take (([] : List Tx).length - 0) ++ [x]), .slice a38 _ c38, G38), ⟨by omega, by rw [hL9, hd9, lays_step hs9 o_m], by show (([] : List Tx).take (([] : List Tx).length - 0) ++ [x]).length ≤ i + 1; omega, fun y hy => by rcases List.mem_append.1 hy with hy | hy; exact hx4 y (List.mem_of_mem_take hy); rw [List.mem_singleton.1 hy]; omega, hV38.as (by show _ = (([] : List Tx).take (([] : List Tx).length - 0) ++ [x]).length; simp) (by simp [strV])⟩, by show l.length - (i + 1) < l.length - i; omega, .cons rfl (.cons rfl .nil), a_g, fun _ h => h.sub (List.sublist_append_left _ _)⟩
     ·refine c_region ?_
      refine RL ?_
      refine RL ?_
      refine l_l l_n rfl rfl ?_
      refine RL ?_
      refine l_as (v := (.int .i64 ((xs.length - k : Nat) : Int))) rfl rfl rfl ((as_i64 o_m o_m).trans (congrArg _ o_m)) ?_
      refine l_as (v := (.slice (some ⟨b, 0, none⟩) (xs.length - k) ci)) (by first | exact light_cutN rfl rfl rfl rfl rfl rfl | exact cut_slice1 0 (xs.length - k) rfl rfl rfl rfl rfl rfl (Nat.zero_le _) o_m) rfl rfl (by rw [cut1_0, Nat.sub_zero, Nat.sub_zero]) ?_
      refine RL ?_
      refine l_x (x_slc (z := [.string (bs [])]) (l := [.string (bs x)]) (ps := [(0, .string (bs x))]) rfl rfl rfl rfl rfl rfl) rfl rfl ?_
      rintro _ _ ⟨b37, rfl, rfl⟩
      refine l_x (x_append (A := [(b37, _), (b6, _)]) (G := [(b, _)]) (R := []) (v := (.slice (some ⟨b, 0, none⟩) (xs.length - k) ci)) (n := xs.length - k) (xs := (xs.take (xs.length - k)).map strV) (m := 1) (T := 9) (s := 1) (by_ := 16) (ys := [.string (bs x)]) rfl rfl rfl rfl (vec_cut hcp hcm hcl) (fun w hw => .row _ _ _ _ _ rfl (row_own (b := b37) (.head _) w hw)) rfl o_m o_m) rfl rfl ?_
      rintro v38 _ ⟨G38, hV38, _, rfl⟩
      obtain ⟨a38, c38, rfl⟩ := hV38.slice
      refine RL ?_
      refine l_nil ?_
      refine c_region ?_
      refine l_as (v := (.int .i64 ((i + 1 : Nat) : Int))) rfl rfl rfl (congrArg _ (succ_law o_m)) ?_
      refine RL ?_
      refine l_nil ?_
      have hxt9 : (xs.take (xs.length - k) ++ [x]).length = xs.length - k + 1 := by simp
      exact ⟨(i + 1, (xs.take (xs.length - k) ++ [x]), .slice a38 _ c38, G38), ⟨by omega, by rw [hL9, hd9, lays_step hs9 o_m], by show (xs.take (xs.length - k) ++ [x]).length ≤ i + 1; omega, fun y hy => by rcases List.mem_append.1 hy with hy | hy; exact hx4 y (List.mem_of_mem_take hy); rw [List.mem_singleton.1 hy]; omega, hV38.as (by show _ = (xs.take (xs.length - k) ++ [x]).length; omega) (by simp [strV])⟩, by show l.length - (i + 1) < l.length - i; omega, .cons rfl (.cons rfl .nil), a_g, fun _ h => h.sub (List.sublist_append_left _ _)⟩
  ·have h1n := r_f h1
   refine c_exit rfl ?_
   refine c_seq ?_
   refine c_seq ?_
   have hP9 : laysT l [] = some xs := by rw [hL9, List.drop_eq_nil_of_le o_m]; rfl
   refine c_region ?_
   refine RL ?_
   refine l_l l_n rfl rfl ?_
   refine RL ?_
   refine l_nil ?_
   refine c_cond rfl (fun h3 => ?_) (fun h3 => ?_)
   ·have h3n := r_f h3
    refine c_seq ?_
    refine c_region ?_
    refine RL ?_
    refine RL ?_
    refine l_nil ?_
    refine c_ret ?_
    rw [print_many hP9 o_m]
    exact l_end (fun _ _ => rets_two rfl rfl) (List.nil_sublist _) rfl
   ·have h3n := r_f h3
    refine c_skip ?_
    refine c_seq ?_
    obtain ⟨x, rfl⟩ := one_of (xs := xs) o_m
    obtain ⟨b, cap, sp, he9, rfl, -⟩ := hVi.full (by simp)
    cases he9
    refine c_region ?_
    refine RL ?_
    refine l_l (idx_slice1 0 rfl rfl rfl rfl (by simp)) rfl rfl ?_
    refine l_x (x_load rfl rfl (at_own (v := .string (bs x)) m_m (by rfl))) rfl rfl ?_
    rintro _ _ ⟨rfl, rfl⟩
    refine RL ?_
    refine RL ?_
    refine l_nil ?_
    refine c_ret ?_
    rw [print_one hP9]
    exact l_end (fun _ _ => rets_two rfl rfl) (List.nil_sublist _) rfl

end Go.Proofs.YtiadmbhafplepaaDoor
namespace Go.Proofs.YtiadmbhafplepaaDoor
open Go Go.VV

theorem dec_18 : decT 18 = [49, 56] := by rw [decT_2 (by decide), decT_1 (by decide)]; decide
def awL : List Cd := [⟨2, 0⟩, ⟨1, 18⟩, ⟨12, 0⟩]
theorem awake_print : printT awL = ([40, 97, 32, 61, 61, 32, 49, 56, 41], 0) := by
  refine print_one ?_
  unfold awL
  rw [lays_step (x := [97]) (k := 0) (by rw [saidT_eq]; decide) (by decide), lays_step (x := [49, 56]) (k := 0) (by rw [saidT_eq, if_pos rfl, if_pos (by decide)]; exact congrArg (fun x => some (x, 0)) dec_18) (by decide),
    lays_step (x := [40, 97, 32, 61, 61, 32, 49, 56, 41]) (k := 2) (by rw [saidT_eq]; decide) (by decide)]
  rfl
theorem lveq_cd (a b : Cd) : lveq (cCd a) (cCd b) = decide (a = b) := by
  obtain ⟨x, y⟩ := a
  obtain ⟨x2, y2⟩ := b
  simp only [lveq, veq, cCd, Cd.mk.injEq, Bool.decide_and, Bool.and_true]
  rfl
theorem cd_eq {l k : List Cd} (h : l.length = k.length) (hj : ∀ j, j < l.length → l[j]? = k[j]?) : l = k := List.ext_getElem? fun j => by
  by_cases h1 : j < l.length
  · exact hj j h1
  · rw [List.getElem?_eq_none (by omega), List.getElem?_eq_none (by omega)]
end Go.Proofs.YtiadmbhafplepaaDoor
namespace Go.Proofs.YtiadmbhafplepaaDoor
open Go Go.VV Go.Proofs Go.RowKit
set_option linter.unusedSimpArgs false
set_option linter.unusedVariables false
set_option maxRecDepth 100000
theorem itoaC_small (k : Nat) (hk : k < 100) : ItoaC k := by
 intro w _
 refine Does.mono (itoa1_fn k hk w) ?_
 rintro v H ⟨rfl, rfl⟩
 refine ⟨decT k, rfl, ?_, fun _ => by rw [Int.toNat_natCast]⟩
 by_cases h : k < 10
 ·rw [decT_1 h]; simp
 ·rw [dec_2 h hk]; simp

theorem awake_fn (w : World) (hGl : GlE w) (hP : GlP w) : Does Tryd.prog 9 [] w [] (fun v H => H = [] ∧ v = .bool true) := by
 refine does_of Tryd.func9 rfl rfl rfl (St.refl w) ?_
 refine c_seq ?_
 refine c_region ?_
 refine RL ?_
 refine l_nil ?_
 refine c_seq ?_
 refine c_region ?_
 refine l_x (x_call call_13 rfl (fun w hw => parse_fn [97, 61, 61, 36, 49, 50] w (later_cell hGl hw))) rfl rfl ?_
 rintro _ _ ⟨G7, ⟨va7, hV7, rfl⟩, rfl⟩
 rw [awake_parse] at hV7 ⊢
 obtain ⟨bp, cp, sp, rfl, rfl, -, -, -⟩ := hV7.full (by decide)
 simp only [List.cons_append, List.nil_append]
 iterate 7 refine RL ?_
 refine l_nil ?_
 refine c_seq ?_
 refine c_region ?_
 refine RL ?_
 refine l_x (x_call call_10 rfl (fun w hw => print_fn awL (some ⟨bp, 0, none⟩) cp (by decide) (fun c hc h1 => by have h9 : c.n = ((18 : Nat) : Int) := (show ∀ c ∈ awL, c.op = 1 → c.n = ((18 : Nat) : Int) by decide) c hc h1; rw [h9]; exact itoaC_small 18 (by decide)) w (fun _ => ⟨bp, 0, rfl, Row.left (row_own (b := bp) m_m w hw)⟩) (gp_later hP (by simp) hw))) rfl rfl ?_
 rintro _ _ ⟨G13, rfl, rfl⟩
 rw [awake_print]
 refine l_heap (fun w h => h.sub (List.sublist_append_right _ _)) ?_
 iterate 5 refine RL ?_
 refine l_nil ?_
 refine c_seq ?_
 refine c_region ?_
 refine RL ?_
 refine l_l l_n rfl rfl ?_
 refine l_sure true rfl rfl rfl rfl ?_
 refine RL ?_
 refine RL ?_
 refine l_l (idx_slice (s := 2) 2 rfl rfl rfl rfl (by decide)) rfl rfl ?_
 refine l_x (x_loadA rfl rfl rfl (fun w hw => (Row.left (row_own (b := bp) (l := flat cCd awL ++ sp) m_m w hw)).nth' cCd_len (show awL[2]? = some ⟨12, 0⟩ from rfl))) rfl rfl ?_
 rintro _ _ ⟨rfl, rfl⟩
 refine l_l (light_struct rfl rfl rfl rfl) rfl rfl ?_
 refine l_eqs (ks := [.int .i64, .int .i64]) rfl rfl (by kernel_rfl) (by kernel_rfl) rfl rfl rfl rfl (b := true) (lveq_refl (ks := [.int .i64, .int .i64]) rfl) ?_
 iterate 3 refine RL ?_
 refine l_sure true rfl rfl rfl rfl ?_
 iterate 3 refine RL ?_
 refine l_sure true (light_eqstr rfl rfl) rfl rfl (by decide) ?_
 iterate 3 refine RL ?_
 refine l_sure true rfl rfl rfl rfl ?_
 refine RL ?_
 refine RL ?_
 refine l_nil ?_
 refine c_ret ?_
 exact l_end0 (fun _ _ => rets_v rfl) ⟨rfl, rfl⟩

theorem same_fn (l k : List Cd) (a1 a2 : Option Addr) (c1 c2 : Nat) (hl1 : l.length ≤ 1000000) (w : World) (hE1 : Els w cCd a1 l) (hE2 : Els w cCd a2 k) (hk1 : k.length ≤ 1000000) : Does Tryd.prog 14 [.slice a1 l.length c1, .slice a2 k.length c2] w [] (fun v H => H = [] ∧ v = .bool (decide (l = k))) := by
 refine does_of Tryd.func14 rfl rfl rfl (St.refl w) ?_
 refine c_seq ?_
 refine c_region ?_
 refine RL ?_
 refine l_nil ?_
 refine c_seq ?_
 refine c_seq ?_
 refine c_region ?_
 refine RL ?_
 refine l_l l_n rfl rfl ?_
 refine RL ?_
 refine l_l l_n rfl rfl ?_
 refine RL ?_
 refine l_nil ?_
 refine c_cond rfl (fun h1 => ?_) (fun h1 => ?_)
 ·have h1n := r_f h1
  refine c_seq ?_
  refine c_region ?_
  refine RL ?_
  refine l_nil ?_
  refine c_ret ?_
  exact l_end0 (fun _ _ => rets_v rfl) ⟨rfl, (congrArg Value.bool (decide_eq_false (by intro h; subst h; omega)).symm)⟩
 ·have h1n := r_f h1
  refine c_skip ?_
  refine c_seq ?_
  refine c_seq ?_
  refine c_region ?_
  refine RL ?_
  refine l_l l_n rfl rfl ?_
  refine RL ?_
  refine l_nil ?_
  refine c_block ?_
  refine c_loopk (σ := Nat) [4, 5, 13, 14, 15, 16, 17, 18, 19, 20, 21, 22, 23, 24, 25] (fun i => [(13, .int .i64 i)]) (fun i => i ≤ l.length ∧ ∀ j, j < i → l[j]? = k[j]?) (fun i => l.length - i) 0 ?_ ?_ ?_
  ·exact ⟨Nat.zero_le _, fun j hj => absurd hj (Nat.not_lt_zero _)⟩
  ·exact .cons rfl .nil
  ·rintro i y4 ⟨hi, hj9⟩
   refine c_seq ?_
   refine c_region ?_
   refine RL ?_
   refine l_nil ?_
   refine c_seq ?_
   refine c_cond rfl (fun h2 => ?_) (fun h2 => ?_)
   ·have h2n := r_f h2
    refine c_skip ?_
    refine c_seq ?_
    refine c_block ?_
    refine c_seq ?_
    refine c_region ?_
    refine RL ?_
    refine RL ?_
    refine l_nil ?_
    refine c_seq ?_
    obtain ⟨bx, ox, rfl, hrx⟩ := hE1.row (i := i) o_m
    obtain ⟨by_, oy, rfl, hry⟩ := hE2.row (i := i) o_m
    obtain ⟨x, hx⟩ : ∃ x, l[i]? = some x := ⟨_, List.getElem?_eq_getElem o_m⟩
    obtain ⟨y, hy⟩ : ∃ y, k[i]? = some y := ⟨_, List.getElem?_eq_getElem o_m⟩
    refine c_draw _ [4, 5, 6, 7] (.step true 0 (.step true 1 (.step true 2 (.step true 3 (.step true 4 (.step true 5 (.step true 6 (.step true 7 (.step true 8 .done))))))))) rfl (by kernel_rfl) (by kernel_rfl) (fun _ h => h) ?_
    refine RD ?_
    refine RD ?_
    refine d_light rfl (idx_slice (s := 2) i rfl rfl rfl rfl o_m) rfl rfl rfl ?_
    refine d_loadA rfl rfl rfl rfl (fun w hw => (srow_old hrx (by simp) w hw).nth' cCd_len hx) rfl rfl ?_
    refine RD ?_
    refine RD ?_
    refine d_light rfl (idx_slice (s := 2) i rfl rfl rfl rfl o_m) rfl rfl rfl ?_
    refine d_loadA rfl rfl rfl rfl (fun w hw => (srow_old hry (by simp) w hw).nth' cCd_len hy) rfl rfl ?_
    refine d_nes (ks := [.int .i64, .int .i64]) rfl rfl rfl (by kernel_rfl) (by kernel_rfl) rfl rfl rfl rfl rfl ?_
    refine d_nil ?_
    refine c_cond rfl (fun h3 => ?_) (fun h3 => ?_)
    ·have h3n := r_f h3
     refine c_seq ?_
     refine c_region ?_
     refine RL ?_
     refine l_nil ?_
     refine c_ret ?_
     have hc9 : ¬ x = y := by rw [lveq_cd] at h3; simpa using h3
     exact l_end0 (fun _ _ => rets_v rfl) ⟨rfl, (congrArg Value.bool (decide_eq_false (by intro h; rw [h, hy] at hx; cases hx; exact hc9 rfl)).symm)⟩
    ·have h3n := r_f h3
     refine c_skip ?_
     refine c_region ?_
     refine l_as (v := (.int .i64 ((i + 1 : Nat) : Int))) rfl rfl rfl (congrArg _ (succ_law o_m)) ?_
     refine RL ?_
     refine l_nil ?_
     have hc9 : x = y := by rw [lveq_cd] at h3; simpa using h3
     exact ⟨i + 1, ⟨by omega, fun j hj => by rcases Nat.lt_succ_iff_lt_or_eq.1 hj with h | rfl; exact hj9 j h; rw [hx, hy, hc9]⟩, by omega, .cons rfl .nil, a_g, fun _ h => h⟩
   ·have h2n := r_f h2
    refine c_exit rfl ?_
    refine c_seq ?_
    refine c_region ?_
    refine RL ?_
    refine l_nil ?_
    refine c_ret ?_
    exact l_end0 (fun _ _ => rets_v rfl) ⟨rfl, (congrArg Value.bool (decide_eq_true (cd_eq o_m (fun j hj => hj9 j o_m))).symm)⟩

theorem places_fn (t : Tx) (w : World) (hGl : GlE w) (hP : GlP w) : Does Tryd.prog 7 [.string (bs t)] w [] (fun v H => H = [] ∧ v = .bool true) := by
 refine does_of Tryd.func7 rfl rfl rfl (St.refl w) ?_
 refine c_seq ?_
 refine c_region ?_
 refine RL ?_
 refine l_nil ?_
 refine c_seq ?_
 refine c_seq ?_
 refine c_region ?_
 refine RLv call_9 (fun w hw => awake_fn w (later_cell hGl hw) (gp_later hP (by simp) hw)) ?_
 iterate 3 refine RL ?_
 refine l_l (light_lenstr rfl rfl) rfl rfl ?_
 refine RL ?_
 refine RL ?_
 refine l_nil ?_
 refine c_cond rfl (fun h1 => ?_) (fun h1 => ?_)
 ·have h1n := r_f h1
  refine c_seq ?_
  refine c_region ?_
  refine RLv call_9 (fun w hw => awake_fn w (later_cell hGl hw) (gp_later hP (by simp) hw)) ?_
  refine RL ?_
  refine l_nil ?_
  refine c_ret ?_
  exact l_end0 (fun _ _ => rets_v rfl) ⟨rfl, rfl⟩
 ·have h1n := r_f h1
  refine c_skip ?_
  refine c_seq ?_
  have hp9 := places_law (t := t) o_m
  refine c_region ?_
  refine RL ?_
  refine l_x (x_call call_13 rfl (fun w hw => parse_fn t w (later_cell hGl hw))) rfl rfl ?_
  rintro _ _ ⟨G19, ⟨va19, hV19, rfl⟩, rfl⟩
  obtain ⟨aP19, cP19, rfl⟩ := hV19.slice
  refine l_heap (fun w h => h.sub (List.sublist_append_right _ _)) ?_
  iterate 7 refine RL ?_
  refine l_nil ?_
  refine c_seq ?_
  refine c_seq ?_
  refine c_region ?_
  refine RL ?_
  refine RL ?_
  refine l_nil ?_
  refine c_cond rfl (fun h2 => ?_) (fun h2 => ?_)
  ·have h2n := r_f h2
   refine c_seq ?_
   refine c_region ?_
   iterate 3 refine RL ?_
   refine l_nil ?_
   refine c_ret ?_
   exact l_end0 (fun _ _ => rets_v rfl) ⟨rfl, (congrArg Value.bool (by rw [hp9.ok h2n]; rfl))⟩
  ·have h2n := r_f h2
   refine c_skip ?_
   refine c_seq ?_
   refine c_seq ?_
   have ha9 := hp9.at_ h2n
   have hc9 := hp9.cut h2n
   refine c_region ?_
   refine RL ?_
   refine l_sure false rfl rfl rfl (decide_eq_false o_m) ?_
   iterate 3 refine RL ?_
   refine l_l (light_lenstr rfl rfl) rfl rfl ?_
   refine l_sure false rfl rfl rfl (decide_eq_false o_m) ?_
   refine RL ?_
   refine l_nil ?_
   refine c_false rfl ?_
   refine c_skip ?_
   refine c_seq ?_
   refine c_region ?_
   refine RL ?_
   refine RL ?_
   refine l_as (v := (.string (bs (t.take (parseT t).2.1.toNat)))) (light_cutS 0 (parseT t).2.1.toNat rfl rfl rfl rfl rfl (by simp; omega) (Nat.zero_le _) o_m) rfl rfl (by rw [List.drop_zero, Nat.sub_zero]) ?_
   refine l_x (x_call call_13 rfl (fun w hw => parse_fn (t.take (parseT t).2.1.toNat) w (later_cell hGl hw))) rfl rfl ?_
   rintro _ _ ⟨G39, ⟨va39, hV39, rfl⟩, rfl⟩
   obtain ⟨aP39, cP39, rfl⟩ := hV39.slice
   refine l_heap (fun w h => h.sub (List.sublist_append_right _ _)) ?_
   iterate 7 refine RL ?_
   refine l_nil ?_
   refine c_seq ?_
   rcases hc9 with hc8 | ⟨hc8, hc7⟩
   ·refine c_region ?_
    refine RL ?_
    refine l_sure true rfl rfl rfl (by rw [hc8]; rfl) ?_
    refine RL ?_
    iterate 7 refine RLp ?_
    refine RL ?_
    refine RL ?_
    iterate 6 refine RLp ?_
    refine RL ?_
    refine RL ?_
    refine l_nil ?_
    refine c_ret ?_
    exact l_end0 (fun _ _ => rets_v rfl) ⟨rfl, rfl⟩
   ·refine c_region ?_
    refine RL ?_
    refine l_sure false rfl rfl rfl (by rw [hc8]; rfl) ?_
    refine RL ?_
    refine RL ?_
    refine l_sure true rfl rfl rfl (by rw [hc8]; rfl) ?_
    iterate 3 refine RL ?_
    refine l_sure true rfl rfl rfl (by rw [hc7]; simp) ?_
    iterate 3 refine RL ?_
    iterate 6 refine RLp ?_
    refine RL ?_
    refine RL ?_
    refine l_nil ?_
    refine c_ret ?_
    exact l_end0 (fun _ _ => rets_v rfl) ⟨rfl, rfl⟩

end Go.Proofs.YtiadmbhafplepaaDoor
namespace Go.Proofs.YtiadmbhafplepaaDoor
open Go Go.VV

theorem flat_takeS {l : List Cd} {i : Nat} {c : Cd} (h : l[i]? = some c) : flat cCd (l.take i) ++ cCd c = flat cCd (l.take (i + 1)) := by
  rw [flat_snocd, List.take_add_one, h]; rfl
theorem sps_snoc (i : Nat) : sps i ++ [32] = sps (i + 1) := List.replicate_succ'.symm
theorem sps_len (i : Nat) : (sps i).length = i := List.length_replicate
theorem parse_len (t : Tx) : (parseT t).1.length ≤ 300 := by
  by_cases ht : t.length ≤ 300
  · cases h : run (4 * t.length + 2) (.whole 0 0 t []) with
    | dry => exact absurd h (parse_ends t)
    | no r e => rw [parse_no ht h]; exact Nat.zero_le _
    | ok r o =>
      rw [parse_ok ht h]
      have := run_room _ _ _ _ h
      simp only [Md.out, Md.text, List.length_nil] at this
      split
      · show o.length ≤ 300; omega
      · exact Nat.zero_le _
  · rw [parse_long (by omega)]; exact Nat.zero_le _
theorem vec_els {T n c : Nat} {a : Option Addr} {l : List Cd} {G H : Heap} {w0 w : World} {ms : List Nat} (h : Vec T 2 (.slice a n c) l.length (flat cCd l) G) (hin : ∀ x, x ∈ G → x ∈ H) (hw : St w0 ms H w) : Els w cCd a l := fun hpos => by
  obtain ⟨b, cap, sp, he, hG, -⟩ := h.full (by omega)
  cases he
  subst hG
  exact ⟨b, 0, rfl, Row.left (row_own (hin _ (.head _)) w hw)⟩
end Go.Proofs.YtiadmbhafplepaaDoor
namespace Go.Proofs.YtiadmbhafplepaaDoor
open Go Go.VV Go.Proofs Go.RowKit
set_option linter.unusedSimpArgs false
set_option linter.unusedVariables false
set_option maxRecDepth 100000
theorem same_yes (l k : List Cd) (hlk : l = k) (a1 a2 : Option Addr) (c1 c2 : Nat) (hl : l.length ≤ 1000000) (w : World) (hE1 : Els w cCd a1 l) (hE2 : Els w cCd a2 k) : Does Tryd.prog 14 [.slice a1 l.length c1, .slice a2 k.length c2] w [] (fun v H => H = [] ∧ v = .bool true) := by
 subst hlk
 refine Does.mono (same_fn l l a1 a2 c1 c2 hl w hE1 hE2 hl) ?_
 rintro v H ⟨rfl, rfl⟩
 exact ⟨rfl, congrArg Value.bool (decide_eq_true rfl)⟩

theorem docs_fn (l : List Cd) (a : Option Addr) (cp : Nat) (hl : l.length ≤ 1000000) (w : World) (hE : Els w cCd a l) : Does Tryd.prog 16 [.slice a l.length cp] w [] (fun v H => Vec 42 2 v l.length (flat cCd l) H) := by
 refine does_of Tryd.func16 rfl rfl rfl (St.refl w) ?_
 refine c_seq ?_
 refine c_region ?_
 refine RL ?_
 refine l_nil ?_
 refine c_seq ?_
 refine c_region ?_
 refine RL ?_
 refine l_nil ?_
 refine c_seq ?_
 refine c_seq ?_
 refine c_region ?_
 refine RL ?_
 refine l_l l_n rfl rfl ?_
 refine RL ?_
 refine l_nil ?_
 refine c_block ?_
 refine c_loop (σ := Nat × Value × Heap) [3, 4, 7, 8, 9, 10, 11, 12, 13, 14, 15, 16, 17] (fun q => [(3, q.2.1), (7, .int .i64 q.1)]) (fun q => q.2.2 ++ []) (fun q => q.1 ≤ l.length ∧ Vec 42 2 q.2.1 q.1 (flat cCd (l.take q.1)) q.2.2) (fun q => l.length - q.1) (0, .slice none 0 0, []) ?_ ?_ ?_ ?_
 ·exact ⟨Nat.zero_le _, .nil⟩
 ·exact .cons rfl (.cons rfl .nil)
 ·exact fun _ h => h
 ·rintro ⟨i, vi, Gi⟩ y3 ⟨hi, hVi⟩
  dsimp only at hi hVi ⊢
  obtain ⟨ai, ci, rfl⟩ := hVi.slice
  refine c_seq ?_
  refine c_region ?_
  refine RL ?_
  refine l_nil ?_
  refine c_seq ?_
  refine c_cond rfl (fun h1 => ?_) (fun h1 => ?_)
  ·have h1n := r_f h1
   refine c_skip ?_
   refine c_seq ?_
   refine c_block ?_
   refine c_seq ?_
   obtain ⟨bx, ox, rfl, hrx⟩ := hE.row (i := i) o_m
   obtain ⟨⟨op, n⟩, hc9⟩ : ∃ c, l[i]? = some c := ⟨_, List.getElem?_eq_getElem o_m⟩
   refine c_region ?_
   refine RL ?_
   refine RL ?_
   refine l_nil ?_
   refine c_region ?_
   iterate 3 refine RL ?_
   refine l_l (idx_slice (s := 2) i rfl rfl rfl rfl o_m) rfl rfl ?_
   refine l_x (x_loadA rfl rfl rfl (fun w hw => (row_old hrx (by simp) w hw).nth' cCd_len hc9)) rfl rfl ?_
   rintro _ _ ⟨rfl, rfl⟩
   refine l_x (x_slc (z := [.int .i64 0, .int .i64 0]) (l := cCd ⟨op, n⟩) (ps := [(0, .agg (cCd ⟨op, n⟩).toArray)]) rfl rfl rfl rfl rfl rfl) rfl rfl ?_
   rintro _ _ ⟨b15, rfl, rfl⟩
   refine l_x (x_appendE (A := [(b15, _)]) (G := Gi ++ []) (v := .slice ai i ci) (n := i) (xs := flat cCd (l.take i)) (m := 1) (T := 42) (s := 2) (by_ := 16) (ys := cCd ⟨op, n⟩) rfl rfl rfl rfl (by rw [List.append_nil]; exact hVi) (fun w hw => .row _ _ _ _ _ rfl (row_own (b := b15) (.head _) w hw)) rfl o_m o_m) rfl rfl ?_
   rintro v16 _ ⟨G16, hV16, _, rfl⟩
   obtain ⟨a16, c16, rfl⟩ := hV16.slice
   refine RL ?_
   refine l_nil ?_
   refine c_region ?_
   refine l_as (v := (.int .i64 ((i + 1 : Nat) : Int))) rfl rfl rfl (congrArg _ (succ_law o_m)) ?_
   refine RL ?_
   refine l_nil ?_
   exact ⟨(i + 1, _, G16), ⟨by omega, hV16.as rfl (flat_takeS hc9)⟩, by show l.length - (i + 1) < l.length - i; omega, .cons rfl (.cons rfl .nil), a_g, fun _ h => h.sub ((List.Sublist.refl _).append (List.nil_sublist _))⟩
  ·have h1n := r_f h1
   refine c_exit rfl ?_
   refine c_seq ?_
   obtain rfl : i = l.length := by omega
   rw [List.take_length] at hVi
   refine c_region ?_
   refine RL ?_
   refine RL ?_
   refine l_nil ?_
   refine c_ret ?_
   exact l_end (fun _ _ => rets_v rfl) (List.sublist_append_left _ _) hVi

theorem codes_fn (l : List Cd) (a : Option Addr) (cp : Nat) (hl : l.length ≤ 1000000) (w : World) (hE : Els w cCd a l) : Does Tryd.prog 11 [.slice a l.length cp] w [] (fun v H => Vec 43 2 v l.length (flat cCd l) H) := by
 refine does_of Tryd.func11 rfl rfl rfl (St.refl w) ?_
 refine c_seq ?_
 refine c_region ?_
 refine RL ?_
 refine l_nil ?_
 refine c_seq ?_
 refine c_region ?_
 refine RL ?_
 refine l_nil ?_
 refine c_seq ?_
 refine c_seq ?_
 refine c_region ?_
 refine RL ?_
 refine l_l l_n rfl rfl ?_
 refine RL ?_
 refine l_nil ?_
 refine c_block ?_
 refine c_loop (σ := Nat × Value × Heap) [3, 4, 7, 8, 9, 10, 11, 12, 13, 14, 15, 16, 17] (fun q => [(3, q.2.1), (7, .int .i64 q.1)]) (fun q => q.2.2 ++ []) (fun q => q.1 ≤ l.length ∧ Vec 43 2 q.2.1 q.1 (flat cCd (l.take q.1)) q.2.2) (fun q => l.length - q.1) (0, .slice none 0 0, []) ?_ ?_ ?_ ?_
 ·exact ⟨Nat.zero_le _, .nil⟩
 ·exact .cons rfl (.cons rfl .nil)
 ·exact fun _ h => h
 ·rintro ⟨i, vi, Gi⟩ y3 ⟨hi, hVi⟩
  dsimp only at hi hVi ⊢
  obtain ⟨ai, ci, rfl⟩ := hVi.slice
  refine c_seq ?_
  refine c_region ?_
  refine RL ?_
  refine l_nil ?_
  refine c_seq ?_
  refine c_cond rfl (fun h1 => ?_) (fun h1 => ?_)
  ·have h1n := r_f h1
   refine c_skip ?_
   refine c_seq ?_
   refine c_block ?_
   refine c_seq ?_
   obtain ⟨bx, ox, rfl, hrx⟩ := hE.row (i := i) o_m
   obtain ⟨⟨op, n⟩, hc9⟩ : ∃ c, l[i]? = some c := ⟨_, List.getElem?_eq_getElem o_m⟩
   refine c_region ?_
   refine RL ?_
   refine RL ?_
   refine l_nil ?_
   refine c_region ?_
   iterate 3 refine RL ?_
   refine l_l (idx_slice (s := 2) i rfl rfl rfl rfl o_m) rfl rfl ?_
   refine l_x (x_loadA rfl rfl rfl (fun w hw => (row_old hrx (by simp) w hw).nth' cCd_len hc9)) rfl rfl ?_
   rintro _ _ ⟨rfl, rfl⟩
   refine l_x (x_slc (z := [.int .i64 0, .int .i64 0]) (l := cCd ⟨op, n⟩) (ps := [(0, .agg (cCd ⟨op, n⟩).toArray)]) rfl rfl rfl rfl rfl rfl) rfl rfl ?_
   rintro _ _ ⟨b15, rfl, rfl⟩
   refine l_x (x_appendE (A := [(b15, _)]) (G := Gi ++ []) (v := .slice ai i ci) (n := i) (xs := flat cCd (l.take i)) (m := 1) (T := 43) (s := 2) (by_ := 16) (ys := cCd ⟨op, n⟩) rfl rfl rfl rfl (by rw [List.append_nil]; exact hVi) (fun w hw => .row _ _ _ _ _ rfl (row_own (b := b15) (.head _) w hw)) rfl o_m o_m) rfl rfl ?_
   rintro v16 _ ⟨G16, hV16, _, rfl⟩
   obtain ⟨a16, c16, rfl⟩ := hV16.slice
   refine RL ?_
   refine l_nil ?_
   refine c_region ?_
   refine l_as (v := (.int .i64 ((i + 1 : Nat) : Int))) rfl rfl rfl (congrArg _ (succ_law o_m)) ?_
   refine RL ?_
   refine l_nil ?_
   exact ⟨(i + 1, _, G16), ⟨by omega, hV16.as rfl (flat_takeS hc9)⟩, by show l.length - (i + 1) < l.length - i; omega, .cons rfl (.cons rfl .nil), a_g, fun _ h => h.sub ((List.Sublist.refl _).append (List.nil_sublist _))⟩
  ·have h1n := r_f h1
   refine c_exit rfl ?_
   refine c_seq ?_
   obtain rfl : i = l.length := by omega
   rw [List.take_length] at hVi
   refine c_region ?_
   refine RL ?_
   refine RL ?_
   refine l_nil ?_
   refine c_ret ?_
   exact l_end (fun _ _ => rets_v rfl) (List.sublist_append_left _ _) hVi

theorem namesLaw_fn (t : Tx) (w : World) (hGl : GlE w) (hP : GlP w) : Does Tryd.prog 8 [.string (bs t)] w [] (fun v H => H = H ∧ v = .bool true) := by
 refine does_of Tryd.func8 rfl rfl rfl (St.refl w) ?_
 refine c_seq ?_
 refine c_region ?_
 refine RL ?_
 refine l_nil ?_
 refine c_seq ?_
 refine c_seq ?_
 refine c_region ?_
 refine RLv call_9 (fun w hw => awake_fn w (later_cell hGl hw) (gp_later hP (by simp) hw)) ?_
 iterate 3 refine RL ?_
 refine l_l (light_lenstr rfl rfl) rfl rfl ?_
 refine RL ?_
 refine RL ?_
 refine l_nil ?_
 refine c_cond rfl (fun h1 => ?_) (fun h1 => ?_)
 ·have h1n := r_f h1
  refine c_seq ?_
  refine c_region ?_
  refine RLv call_9 (fun w hw => awake_fn w (later_cell hGl hw) (gp_later hP (by simp) hw)) ?_
  refine RL ?_
  refine l_nil ?_
  refine c_ret ?_
  exact l_end (fun _ _ => rets_v rfl) (List.nil_sublist _) ⟨by trivial, rfl⟩
 ·have h1n := r_f h1
  refine c_skip ?_
  refine c_seq ?_
  refine c_region ?_
  refine l_x (x_call call_17 rfl (fun w hw => names_fn w)) rfl rfl ?_
  rintro _ _ ⟨G17, ⟨b17, rfl, rfl⟩, rfl⟩
  refine RL ?_
  refine l_nil ?_
  refine c_seq ?_
  refine c_seq ?_
  refine c_region ?_
  refine RL ?_
  refine l_l l_n rfl rfl ?_
  refine l_sure false rfl rfl rfl rfl ?_
  refine l_nil ?_
  refine c_false rfl ?_
  refine c_skip ?_
  refine c_seq ?_
  refine c_seq ?_
  refine c_region ?_
  refine RL ?_
  refine l_l l_n rfl rfl ?_
  refine RL ?_
  refine l_nil ?_
  refine c_block ?_
  refine c_loop (σ := Nat) [2, 4, 5, 6, 7, 23, 24, 25, 26, 27, 28, 29, 30, 31, 32, 33, 34, 35, 36, 37, 38, 39, 40, 41, 42, 43, 44, 45] (fun i => [(23, .int .i64 i)]) (fun _ => [(b17, blk (nms.map strV) 9)]) (fun i => i ≤ 18) (fun i => 18 - i) 0 ?_ ?_ ?_ ?_
  ·exact Nat.zero_le _
  ·exact .cons rfl .nil
  ·exact fun _ h => h
  ·rintro i y6 hi
   refine c_seq ?_
   refine c_region ?_
   refine RL ?_
   refine l_nil ?_
   refine c_seq ?_
   refine c_cond rfl (fun h2 => ?_) (fun h2 => ?_)
   ·have h2n := r_f h2
    refine c_skip ?_
    refine c_seq ?_
    refine c_block ?_
    refine c_seq ?_
    refine c_region ?_
    refine RL ?_
    refine RL ?_
    refine l_nil ?_
    refine c_seq ?_
    refine c_region ?_
    refine RL ?_
    refine RL ?_
    refine l_l (idx_slice1 i rfl rfl rfl rfl o_m) rfl rfl ?_
    refine l_x (x_load rfl rfl (at_own (v := .string (bs (nms.getD i []))) m_m (by rw [Nat.zero_add]; exact strV_at (by show i < 18; omega)))) rfl rfl ?_
    rintro _ _ ⟨rfl, rfl⟩
    refine l_x (x_call call_13 rfl (fun w hw => parse_fn (nms.getD i []) w (later_cell hGl hw))) rfl rfl ?_
    rintro _ _ ⟨G31, ⟨va31, hV31, rfl⟩, rfl⟩
    rw [names_parse ⟨i, by omega⟩] at hV31 ⊢
    obtain ⟨bp, cp, sp, rfl, rfl, -, -, -⟩ := hV31.full (by show 1 ≠ 0; decide)
    simp only [List.cons_append, List.nil_append]
    iterate 7 refine RL ?_
    refine l_nil ?_
    refine c_seq ?_
    refine c_region ?_
    refine RL ?_
    refine l_sure false rfl rfl rfl rfl ?_
    iterate 3 refine RL ?_
    refine l_l (light_struct rfl rfl rfl rfl) rfl rfl ?_
    refine l_x (x_slc (z := [.int .i64 0, .int .i64 0]) (l := cCd ⟨2, i⟩) (ps := [(0, .agg (cCd ⟨2, i⟩).toArray)]) rfl rfl rfl rfl rfl rfl) rfl rfl ?_
    rintro _ _ ⟨b41, rfl, rfl⟩
    refine l_x (x_val call_14 rfl (fun w hw => same_yes [⟨2, i⟩] [⟨2, i⟩] rfl (some ⟨bp, 0, none⟩) (some ⟨b41, 0, none⟩) cp 1 (by show 1 ≤ 1000000; decide) w (fun _ => ⟨bp, 0, rfl, Row.left (row_own (b := bp) m_m w hw)⟩) (fun _ => ⟨b41, 0, rfl, row_own (b := b41) (l := cCd ⟨2, i⟩) m_m w hw⟩))) rfl rfl ?_
    rintro _ _ ⟨rfl, rfl⟩
    refine RL ?_
    refine RL ?_
    refine l_nil ?_
    refine c_false rfl ?_
    refine c_skip ?_
    refine c_region ?_
    refine l_as (v := (.int .i64 ((i + 1 : Nat) : Int))) rfl rfl rfl (congrArg _ (succ_law o_m)) ?_
    refine RL ?_
    refine l_nil ?_
    exact ⟨i + 1, by omega, by omega, .cons rfl .nil, a_g, fun _ h => h.sub (by repeat (first | exact List.Sublist.refl _ | exact List.sublist_append_right _ _ | refine .cons _ ?_))⟩
   ·have h2n := r_f h2
    refine c_exit rfl ?_
    refine c_seq ?_
    refine c_region ?_
    refine RL ?_
    refine RL ?_
    refine l_l (idx_slice1 0 rfl rfl rfl rfl (by decide)) rfl rfl ?_
    refine l_x (x_storeTo (l' := (strV t :: (nms.drop 1).map strV)) 0 rfl rfl rfl rfl rfl rfl (Nat.le_of_ble_eq_true rfl) rfl) rfl rfl ?_
    rintro _ _ ⟨rfl, rfl⟩
    refine c_u ?_
    refine l_nil ?_
    refine c_seq ?_
    refine c_region ?_
    refine l_x (x_call call_17 rfl (fun w hw => names_fn w)) rfl rfl ?_
    rintro _ _ ⟨G49, ⟨b49, rfl, rfl⟩, rfl⟩
    refine RL ?_
    refine l_nil ?_
    refine c_seq ?_
    refine c_region ?_
    refine RL ?_
    refine l_l (idx_slice1 0 rfl rfl rfl rfl (by decide)) rfl rfl ?_
    refine l_x (x_load rfl rfl (at_own (v := .string (bs [97])) m_m (by rfl))) rfl rfl ?_
    rintro _ _ ⟨rfl, rfl⟩
    refine l_sure true (light_eqstr rfl rfl) rfl rfl rfl ?_
    refine RL ?_
    refine l_nil ?_
    refine c_ret ?_
    exact l_end (fun _ _ => rets_v rfl) (List.nil_sublist _) ⟨by trivial, rfl⟩

end Go.Proofs.YtiadmbhafplepaaDoor
namespace Go.Proofs.YtiadmbhafplepaaDoor
open Go Go.VV Go.Proofs Go.RowKit
set_option linter.unusedSimpArgs false
set_option linter.unusedVariables false
set_option maxRecDepth 100000
theorem spaces_fn (t : Tx) (a b : Nat) (ha : a < 256) (hb : b < 256) (w : World) (hGl : GlE w) (hP : GlP w) : Does Tryd.prog 6 [.string (bs t), .int .u8 (a : Int), .int .u8 (b : Int)] w [] (fun v H => H = H ∧ v = .bool true) := by
 have hla := sps_len (a % 20)
 have hlb := sps_len (b % 20)
 have hp9 := parse_len t
 refine does_of Tryd.func6 rfl rfl rfl (St.refl w) ?_
 refine c_seq ?_
 refine c_region ?_
 refine RL ?_
 refine l_nil ?_
 refine c_seq ?_
 refine c_seq ?_
 refine c_region ?_
 refine RLv call_9 (fun w hw => awake_fn w (later_cell hGl hw) (gp_later hP (by simp) hw)) ?_
 iterate 3 refine RL ?_
 refine l_l (light_lenstr rfl rfl) rfl rfl ?_
 refine RL ?_
 refine RL ?_
 refine l_nil ?_
 refine c_cond rfl (fun h1 => ?_) (fun h1 => ?_)
 ·have h1n := r_f h1
  refine c_seq ?_
  refine c_region ?_
  refine RLv call_9 (fun w hw => awake_fn w (later_cell hGl hw) (gp_later hP (by simp) hw)) ?_
  refine RL ?_
  refine l_nil ?_
  refine c_ret ?_
  exact l_end (fun _ _ => rets_v rfl) (List.nil_sublist _) ⟨by trivial, rfl⟩
 ·have h1n := r_f h1
  refine c_skip ?_
  refine c_seq ?_
  refine c_region ?_
  refine RL ?_
  refine RL ?_
  refine l_nil ?_
  refine c_seq ?_
  refine c_seq ?_
  refine c_region ?_
  refine RL ?_
  refine l_as (v := (.int .u8 ((a % 20 : Nat) : Int))) (rem_pos rfl rfl (by decide)) rfl rfl (congrArg _ ((Int.tmod_eq_emod_of_nonneg o_m).trans o_m)) ?_
  refine RL ?_
  refine l_nil ?_
  refine c_block ?_
  refine c_loopk (σ := Nat) [7, 28, 29, 30, 31, 32] (fun i => [(7, .string (bs (sps i))), (28, .int .u8 i)]) (fun i => i ≤ a % 20) (fun i => a % 20 - i) 0 ?_ ?_ ?_
  ·exact Nat.zero_le _
  ·exact .cons rfl (.cons rfl .nil)
  ·rintro i y0 hi
   refine c_seq ?_
   refine c_region ?_
   refine RL ?_
   refine l_nil ?_
   refine c_seq ?_
   refine c_cond rfl (fun h2 => ?_) (fun h2 => ?_)
   ·have h2n := r_f h2
    refine c_skip ?_
    refine c_seq ?_
    refine c_block ?_
    refine c_region ?_
    refine RL ?_
    refine l_as (v := (.string (bs (sps (i + 1))))) (light_cat rfl rfl (by (try simp only [List.length_append, List.length_cons, List.length_nil, sps_len]); omega)) rfl rfl (congrArg (fun x => Value.string (bs x)) (sps_snoc i)) ?_
    refine RL ?_
    refine l_nil ?_
    refine c_region ?_
    refine l_as (v := (.int .u8 ((i + 1 : Nat) : Int))) rfl rfl rfl ((as_u8 o_m o_m).trans (congrArg _ o_m)) ?_
    refine RL ?_
    refine l_nil ?_
    exact ⟨i + 1, by omega, by omega, .cons rfl (.cons rfl .nil), a_g, fun _ h => h⟩
   ·have h2n := r_f h2
    refine c_exit rfl ?_
    refine c_seq ?_
    refine c_seq ?_
    obtain rfl : i = a % 20 := by omega
    refine c_region ?_
    refine RL ?_
    refine l_as (v := (.int .u8 ((b % 20 : Nat) : Int))) (rem_pos rfl rfl (by decide)) rfl rfl (congrArg _ ((Int.tmod_eq_emod_of_nonneg o_m).trans o_m)) ?_
    refine RL ?_
    refine l_nil ?_
    refine c_block ?_
    refine c_loopk (σ := Nat) [8, 35, 36, 37, 38, 39] (fun i => [(8, .string (bs (sps i))), (35, .int .u8 i)]) (fun i => i ≤ b % 20) (fun i => b % 20 - i) 0 ?_ ?_ ?_
    ·exact Nat.zero_le _
    ·exact .cons rfl (.cons rfl .nil)
    ·rintro i y1 hi
     refine c_seq ?_
     refine c_region ?_
     refine RL ?_
     refine l_nil ?_
     refine c_seq ?_
     refine c_cond rfl (fun h3 => ?_) (fun h3 => ?_)
     ·have h3n := r_f h3
      refine c_skip ?_
      refine c_seq ?_
      refine c_block ?_
      refine c_region ?_
      refine RL ?_
      refine l_as (v := (.string (bs (sps (i + 1))))) (light_cat rfl rfl (by (try simp only [List.length_append, List.length_cons, List.length_nil, sps_len]); omega)) rfl rfl (congrArg (fun x => Value.string (bs x)) (sps_snoc i)) ?_
      refine RL ?_
      refine l_nil ?_
      refine c_region ?_
      refine l_as (v := (.int .u8 ((i + 1 : Nat) : Int))) rfl rfl rfl ((as_u8 o_m o_m).trans (congrArg _ o_m)) ?_
      refine RL ?_
      refine l_nil ?_
      exact ⟨i + 1, by omega, by omega, .cons rfl (.cons rfl .nil), a_g, fun _ h => h⟩
     ·have h3n := r_f h3
      refine c_exit rfl ?_
      refine c_seq ?_
      obtain rfl : i = b % 20 := by omega
      have hs9 := spaces_law (t := t) o_m (show a % 20 < 20 by omega) (show b % 20 < 20 by omega)
      refine c_region ?_
      refine RL ?_
      refine l_x (x_call call_13 rfl (fun w hw => parse_fn t w (later_cell hGl hw))) rfl rfl ?_
      rintro _ _ ⟨G42, ⟨va42, hV42, rfl⟩, rfl⟩
      obtain ⟨aP42, cP42, rfl⟩ := hV42.slice
      iterate 7 refine RL ?_
      refine l_nil ?_
      refine c_seq ?_
      refine c_region ?_
      refine RL ?_
      refine RL ?_
      refine l_l (light_cat rfl rfl (by (try simp only [List.length_append, List.length_cons, List.length_nil, sps_len]); omega)) rfl rfl ?_
      refine RL ?_
      refine l_l (light_cat rfl rfl (by (try simp only [List.length_append, List.length_cons, List.length_nil, sps_len]); omega)) rfl rfl ?_
      refine l_x (x_call call_13 rfl (fun w hw => parse_fn (sps (a % 20) ++ t ++ sps (b % 20)) w (later_cell hGl hw))) rfl rfl ?_
      rintro _ _ ⟨G52, ⟨va52, hV52, rfl⟩, rfl⟩
      obtain ⟨aP52, cP52, rfl⟩ := hV52.slice
      iterate 7 refine RL ?_
      refine l_nil ?_
      refine c_seq ?_
      refine c_region ?_
      refine RL ?_
      refine l_l (light_cat rfl rfl (by (try simp only [List.length_append, List.length_cons, List.length_nil, sps_len]); omega)) rfl rfl ?_
      refine RL ?_
      refine l_l (light_cat rfl rfl (by (try simp only [List.length_append, List.length_cons, List.length_nil, sps_len]); omega)) rfl rfl ?_
      refine RL ?_
      refine l_l (light_cat rfl rfl (by (try simp only [List.length_append, List.length_cons, List.length_nil, sps_len]); omega)) rfl rfl ?_
      refine l_as (v := (.string (bs (40 :: (sps (b % 20) ++ t ++ sps (a % 20) ++ [41]))))) (light_cat rfl rfl (by (try simp only [List.length_append, List.length_cons, List.length_nil, sps_len]); omega)) rfl rfl (congrArg (fun x => Value.string (bs x)) (by simp)) ?_
      refine l_x (x_call call_13 rfl (fun w hw => parse_fn (40 :: (sps (b % 20) ++ t ++ sps (a % 20) ++ [41])) w (later_cell hGl hw))) rfl rfl ?_
      rintro _ _ ⟨G64, ⟨va64, hV64, rfl⟩, rfl⟩
      obtain ⟨aP64, cP64, rfl⟩ := hV64.slice
      iterate 7 refine RL ?_
      refine l_nil ?_
      refine c_seq ?_
      refine c_seq ?_
      refine c_region ?_
      refine RL ?_
      refine RL ?_
      refine l_nil ?_
      refine c_cond rfl (fun h4 => ?_) (fun h4 => ?_)
      ·have h4n := r_f h4
       refine c_seq ?_
       refine c_region ?_
       refine RL ?_
       refine RL ?_
       refine l_sure true rfl rfl rfl (decide_eq_true (hs9.none_ o_m)) ?_
       refine RL ?_
       refine l_nil ?_
       refine c_ret ?_
       exact l_end (fun _ _ => rets_v rfl) (List.nil_sublist _) ⟨by trivial, rfl⟩
      ·have h4n := r_f h4
       refine c_skip ?_
       refine c_seq ?_
       rcases hs9.round o_m with ⟨hg9, hz9⟩ | hg9
       ·refine c_region ?_
        refine RL ?_
        refine RL ?_
        refine l_x (x_call call_16 rfl (fun w hw => docs_fn (parseT t).1 aP42 cP42 o_m w (vec_els hV42 (fun x hx => by repeat (first | exact hx | exact List.mem_append_left _ hx | refine List.mem_append_right _ ?_ | refine .tail _ ?_)) hw))) rfl rfl ?_
        rintro v75 _ ⟨G75, hV75, rfl⟩
        obtain ⟨a75, c75, rfl⟩ := hV75.slice
        refine l_x (x_val call_14 rfl (fun w hw => same_yes (parseT (sps (a % 20) ++ t ++ sps (b % 20))).1 (parseT t).1 (hs9.same o_m).2 aP52 a75 cP52 c75 (Nat.le_trans (parse_len _) (by decide)) w (vec_els hV52 (fun x hx => by repeat (first | exact hx | exact List.mem_append_left _ hx | refine List.mem_append_right _ ?_ | refine .tail _ ?_)) hw) (vec_els hV75 (fun x hx => by repeat (first | exact hx | exact List.mem_append_left _ hx | refine List.mem_append_right _ ?_ | refine .tail _ ?_)) hw))) rfl rfl ?_
        rintro _ _ ⟨rfl, rfl⟩
        refine RL ?_
        refine RL ?_
        refine l_sure true rfl rfl rfl (decide_eq_true (hs9.same o_m).1) ?_
        iterate 3 refine RL ?_
        refine l_sure true rfl rfl rfl (decide_eq_true hg9) ?_
        iterate 3 refine RL ?_
        refine l_x (x_call call_16 rfl (fun w hw => docs_fn (parseT t).1 aP42 cP42 o_m w (vec_els hV42 (fun x hx => by repeat (first | exact hx | exact List.mem_append_left _ hx | refine List.mem_append_right _ ?_ | refine .tail _ ?_)) hw))) rfl rfl ?_
        rintro v87 _ ⟨G87, hV87, rfl⟩
        obtain ⟨a87, c87, rfl⟩ := hV87.slice
        refine l_x (x_val call_14 rfl (fun w hw => same_yes (parseT (40 :: (sps (b % 20) ++ t ++ sps (a % 20) ++ [41]))).1 (parseT t).1 hz9 aP64 a87 cP64 c87 (Nat.le_trans (parse_len _) (by decide)) w (vec_els hV64 (fun x hx => by repeat (first | exact hx | exact List.mem_append_left _ hx | refine List.mem_append_right _ ?_ | refine .tail _ ?_)) hw) (vec_els hV87 (fun x hx => by repeat (first | exact hx | exact List.mem_append_left _ hx | refine List.mem_append_right _ ?_ | refine .tail _ ?_)) hw))) rfl rfl ?_
        rintro _ _ ⟨rfl, rfl⟩
        refine RL ?_
        refine RL ?_
        refine RLp ?_
        refine RLp ?_
        iterate 3 refine RL ?_
        refine l_nil ?_
        refine c_ret ?_
        exact l_end (fun _ _ => rets_v rfl) (List.nil_sublist _) ⟨by trivial, rfl⟩
       ·refine c_region ?_
        refine RL ?_
        refine RL ?_
        refine l_x (x_call call_16 rfl (fun w hw => docs_fn (parseT t).1 aP42 cP42 o_m w (vec_els hV42 (fun x hx => by repeat (first | exact hx | exact List.mem_append_left _ hx | refine List.mem_append_right _ ?_ | refine .tail _ ?_)) hw))) rfl rfl ?_
        rintro v75 _ ⟨G75, hV75, rfl⟩
        obtain ⟨a75, c75, rfl⟩ := hV75.slice
        refine l_x (x_val call_14 rfl (fun w hw => same_yes (parseT (sps (a % 20) ++ t ++ sps (b % 20))).1 (parseT t).1 (hs9.same o_m).2 aP52 a75 cP52 c75 (Nat.le_trans (parse_len _) (by decide)) w (vec_els hV52 (fun x hx => by repeat (first | exact hx | exact List.mem_append_left _ hx | refine List.mem_append_right _ ?_ | refine .tail _ ?_)) hw) (vec_els hV75 (fun x hx => by repeat (first | exact hx | exact List.mem_append_left _ hx | refine List.mem_append_right _ ?_ | refine .tail _ ?_)) hw))) rfl rfl ?_
        rintro _ _ ⟨rfl, rfl⟩
        refine RL ?_
        refine RL ?_
        refine l_sure true rfl rfl rfl (decide_eq_true (hs9.same o_m).1) ?_
        iterate 3 refine RL ?_
        refine l_sure false rfl rfl rfl (by rw [hg9]; rfl) ?_
        refine RL ?_
        iterate 4 refine RLp ?_
        iterate 3 refine RL ?_
        refine l_sure true rfl rfl rfl (by rw [hg9]; rfl) ?_
        iterate 3 refine RL ?_
        refine l_nil ?_
        refine c_ret ?_
        exact l_end (fun _ _ => rets_v rfl) (List.nil_sublist _) ⟨by trivial, rfl⟩

end Go.Proofs.YtiadmbhafplepaaDoor
namespace Go.Proofs.YtiadmbhafplepaaDoor
open Go Go.VV

def Fit (c : Cd) : Prop := c.op = 1 → 0 ≤ c.n ∧ c.n ≤ 2147483647
theorem snoc_all {out : List Cd} {c : Cd} (h : ∀ x ∈ out, Fit x) (hc : Fit c) : ∀ x ∈ out ++ [c], Fit x := fun x hx => by
  rcases List.mem_append.1 hx with hx | hx
  · exact h x hx
  · rw [List.mem_singleton.1 hx]; exact hc
theorem numR_nums {base : Nat} {t a r : Tx} {out o : List Cd} (h : numR base t a out = .ok r o) (ho : ∀ x ∈ out, Fit x) : ∀ x ∈ o, Fit x := by
  unfold numR at h
  split at h
  · cases h
  · split at h
    · cases h
    · injection h with h2 h3
      subst h3
      exact snoc_all ho fun _ => by dsimp only; omega
theorem nameR_nums {t r : Tx} {out o : List Cd} (h : nameR t out = .ok r o) (ho : ∀ x ∈ out, Fit x) : ∀ x ∈ o, Fit x := by
  unfold nameR at h
  split at h
  · cases h
  · injection h with h2 h3
    subst h3
    exact snoc_all ho fun h => by simp at h
theorem put_nums {q : Rs} {op : Int} {r : Tx} {o : List Cd} (h : q.put op = .ok r o) (hq : ∀ r o, q = .ok r o → ∀ x ∈ o, Fit x) : ∀ x ∈ o, Fit x := by
  obtain ⟨o', h1, rfl⟩ := put_ok h
  exact snoc_all (hq r o' h1) fun _ => ⟨Int.le_refl _, by show (0 : Int) ≤ 2147483647; decide⟩
theorem run_nums : ∀ (n : Nat) (m : Md) (r : Tx) (o : List Cd), (∀ x ∈ m.out, Fit x) → run n m = .ok r o → ∀ x ∈ o, Fit x
  | 0, _, _, _, _, h => by cases h
  | n + 1, .thing d t out, r, o, hm, h => by
    rw [run_thing] at h
    split at h
    · cases h
    · split at h
      · split at h
        · cases h
        · exact put_nums h fun r' o' h' => run_nums n _ r' o' (by exact hm) h'
      · split at h
        · split at h
          · cases h
          · exact run_nums n _ r o (by exact hm) h
        · split at h
          · split at h
            · cases h
            · exact put_nums h fun r' o' h' => run_nums n _ r' o' (by exact hm) h'
          · split at h
            · exact numR_nums h hm
            · split at h
              · exact nameR_nums h hm
              · exact numR_nums h hm
  | n + 1, .whole b d t out, r, o, hm, h => by
    rw [run_whole] at h
    split at h
    · rename_i r1 o1 h1
      exact run_nums n _ r o (by exact run_nums n _ r1 o1 (by exact hm) h1) h
    · rename_i x hx
      exact absurd h (hx r o)
  | n + 1, .loop b d t out, r, o, hm, h => by
    rw [run_loop] at h
    split at h
    · injection h with h1 h2; subst h1 h2; exact hm
    · split at h
      · injection h with h1 h2; subst h1 h2; exact hm
      · split at h
        · rename_i r1 o1 h1
          exact run_nums n _ r o (by exact snoc_all (run_nums n _ r1 o1 (by exact hm) h1) fun _ => ⟨Int.le_refl _, by show (0 : Int) ≤ 2147483647; decide⟩) h
        · rename_i x hx
          exact absurd h (hx r o)
  | n + 1, .closed by_ d t out, r, o, hm, h => by
    rw [run_closed] at h
    split at h
    · rename_i r1 o1 h1
      split at h
      · cases h
      · split at h
        · injection h with h1' h2; subst h1' h2; exact run_nums n _ r1 o1 (by exact hm) h1
        · cases h
    · rename_i x hx
      exact absurd h (hx r o)
theorem parse_nums (t : Tx) : ∀ c ∈ (parseT t).1, Fit c := by
  by_cases ht : t.length ≤ 300
  · cases h : run (4 * t.length + 2) (.whole 0 0 t []) with
    | dry => exact absurd h (parse_ends t)
    | no r e => rw [parse_no ht h]; intro c hc; cases hc
    | ok r o =>
      rw [parse_ok ht h]
      have := run_nums _ _ _ _ (fun x hx => by cases hx) h
      split
      · exact this
      · intro c hc; cases hc
  · rw [parse_long (by omega)]; intro c hc; cases hc
theorem again_cases (t : Tx) : (printT (parseT t).1).2 = 5 ∨ ((printT (parseT t).1).2 = 0 ∧ (parseT (printT (parseT t).1).1).2.2 = 12) ∨ ((printT (parseT t).1).2 = 0 ∧ (parseT (printT (parseT t).1).1).2.2 = 8) ∨
    ((printT (parseT t).1).2 = 0 ∧ (parseT (printT (parseT t).1).1).2.2 = 0 ∧ (parseT (printT (parseT t).1).1).1 = (parseT t).1) := by
  rcases print_err (parseT t).1 with h | h
  · rcases again_law t with h1 | h1 | h1 | h1
    · exact .inl h1
    · exact .inr (.inl ⟨h, h1⟩)
    · exact .inr (.inr (.inl ⟨h, h1⟩))
    · exact .inr (.inr (.inr h1))
  · exact .inl (by rw [h])
theorem nest_step {t : Tx} {i : Nat} {c : UInt8} (h : t[i]? = some c) : nestT (t.take (i + 1)) = nst (nestT (t.take i)) c := by
  unfold nestT
  rw [List.take_add_one, h, List.foldl_append]; rfl
theorem nst_o {q : Int × Int} {c : UInt8} (h : (c.toNat : Int) = 40 ∨ (c.toNat : Int) = 91) : nst q c = (q.1 + 1, max q.2 (q.1 + 1)) := by
  have hc : c = 40 ∨ c = 91 := h.imp (fun h => UInt8.toNat_inj.1 (by show _ = 40; omega)) (fun h => UInt8.toNat_inj.1 (by show _ = 91; omega))
  unfold nst
  rw [if_pos hc]
theorem nst_c {q : Int × Int} {c : UInt8} (h1 : ¬ (c.toNat : Int) = 40) (h2 : ¬ (c.toNat : Int) = 91) (h : (c.toNat : Int) = 41 ∨ (c.toNat : Int) = 93) : nst q c = (q.1 - 1, max q.2 (q.1 - 1)) := by
  have hc : c = 41 ∨ c = 93 := h.imp (fun h => UInt8.toNat_inj.1 (by show _ = 41; omega)) (fun h => UInt8.toNat_inj.1 (by show _ = 93; omega))
  unfold nst
  rw [if_neg (by rintro (rfl | rfl); exact h1 rfl; exact h2 rfl), if_pos hc]
theorem nst_n {q : Int × Int} {c : UInt8} (h1 : ¬ (c.toNat : Int) = 40) (h2 : ¬ (c.toNat : Int) = 91) (h3 : ¬ (c.toNat : Int) = 41) (h4 : ¬ (c.toNat : Int) = 93) : nst q c = (q.1, max q.2 q.1) := by
  unfold nst
  rw [if_neg (by rintro (rfl | rfl); exact h1 rfl; exact h2 rfl), if_neg (by rintro (rfl | rfl); exact h3 rfl; exact h4 rfl)]
theorem nest_bound (t : Tx) (i : Nat) (hi : i ≤ t.length) : -(i : Int) ≤ (nestT (t.take i)).1 ∧ (nestT (t.take i)).1 ≤ i ∧ 0 ≤ (nestT (t.take i)).2 ∧ (nestT (t.take i)).2 ≤ i := by
  induction i with
  | zero => exact ⟨Int.le_refl _, Int.le_refl _, Int.le_refl _, Int.le_refl _⟩
  | succ i ih =>
    have ih := ih (by omega)
    rw [nest_step (List.getElem?_eq_getElem (show i < t.length by omega))]
    unfold nst
    dsimp only
    split
    · omega
    · split <;> omega
theorem signs_step {t : Tx} {i : Nat} {c : UInt8} (h : t[i]? = some c) : signsT (t.drop i) = signsT (t.drop (i + 1)) + if signB c (t.drop (i + 1)) = true then 1 else 0 := by
  obtain ⟨hl, rfl⟩ := List.getElem?_eq_some_iff.1 h
  rw [List.drop_eq_getElem_cons hl]; rfl
theorem sign_no {c : UInt8} {u : Tx} (h1 : ¬ (c.toNat : Int) = 45) (h2 : ¬ (c.toNat : Int) = 33) (h3 : ¬ (c.toNat : Int) = 126) : signB c u = false := by
  unfold signB
  rw [decide_eq_false (by rintro (rfl | rfl | rfl); exact h1 rfl; exact h2 rfl; exact h3 rfl)]; rfl
theorem sign_end {c : UInt8} {t : Tx} {i : Nat} (h : ¬ i + 1 < t.length) : signB c (t.drop (i + 1)) = false := by
  rw [List.drop_eq_nil_of_le (by omega)]
  unfold signB hdB
  rw [Bool.and_false]
theorem sign_is {c x : UInt8} {t : Tx} {i : Nat} (hx : t[i + 1]? = some x) (h : (c.toNat : Int) = 45 ∨ (c.toNat : Int) = 33 ∨ (c.toNat : Int) = 126) : signB c (t.drop (i + 1)) = decide ((x.toNat : Int) ≠ 32 ∧ (x.toNat : Int) ≠ 61) := by
  have hc : c = 45 ∨ c = 33 ∨ c = 126 := h.imp (fun h => UInt8.toNat_inj.1 (by show _ = 45; omega)) (Or.imp (fun h => UInt8.toNat_inj.1 (by show _ = 33; omega)) (fun h => UInt8.toNat_inj.1 (by show _ = 126; omega)))
  obtain ⟨hl, rfl⟩ := List.getElem?_eq_some_iff.1 hx
  rw [List.drop_eq_getElem_cons hl]
  unfold signB hdB
  rw [decide_eq_true hc, Bool.true_and]
  apply decide_eq_decide.2
  have e1 : ∀ y : UInt8, t[i + 1] = y ↔ (t[i + 1].toNat : Int) = (y.toNat : Int) := fun y => ⟨fun h => by rw [h], fun h => UInt8.toNat_inj.1 (by omega)⟩
  exact and_congr (not_congr (e1 32)) (not_congr (e1 61))
end Go.Proofs.YtiadmbhafplepaaDoor
namespace Go.Proofs.YtiadmbhafplepaaDoor
open Go Go.VV Go.Proofs Go.RowKit
set_option linter.unusedSimpArgs false
set_option linter.unusedVariables false
set_option maxRecDepth 100000
theorem again_fn (t : Tx) (w : World) (hGl : GlE w) (hP : GlP w) : Does Tryd.prog 5 [.string (bs t)] w [] (fun v H => H = H ∧ v = .bool true) := by
 have hp9 := parse_len t
 have hq9 := parse_len (printT (parseT t).1).1
 refine does_of Tryd.func5 rfl rfl rfl (St.refl w) ?_
 refine c_seq ?_
 refine c_region ?_
 refine RL ?_
 refine l_nil ?_
 refine c_seq ?_
 refine c_seq ?_
 refine c_region ?_
 refine RLv call_9 (fun w hw => awake_fn w (later_cell hGl hw) (gp_later hP (by simp) hw)) ?_
 iterate 3 refine RL ?_
 refine l_l (light_lenstr rfl rfl) rfl rfl ?_
 refine RL ?_
 refine RL ?_
 refine l_nil ?_
 refine c_cond rfl (fun h1 => ?_) (fun h1 => ?_)
 ·have h1n := r_f h1
  refine c_seq ?_
  refine c_region ?_
  refine RLv call_9 (fun w hw => awake_fn w (later_cell hGl hw) (gp_later hP (by simp) hw)) ?_
  refine RL ?_
  refine l_nil ?_
  refine c_ret ?_
  exact l_end (fun _ _ => rets_v rfl) (List.nil_sublist _) ⟨by trivial, rfl⟩
 ·have h1n := r_f h1
  refine c_skip ?_
  refine c_seq ?_
  refine c_region ?_
  refine RL ?_
  refine l_x (x_call call_13 rfl (fun w hw => parse_fn t w (later_cell hGl hw))) rfl rfl ?_
  rintro _ _ ⟨G23, ⟨va23, hV23, rfl⟩, rfl⟩
  obtain ⟨aP23, cP23, rfl⟩ := hV23.slice
  iterate 7 refine RL ?_
  refine l_nil ?_
  refine c_seq ?_
  refine c_seq ?_
  refine c_region ?_
  refine RL ?_
  refine RL ?_
  refine l_nil ?_
  refine c_cond rfl (fun h2 => ?_) (fun h2 => ?_)
  ·have h2n := r_f h2
   refine c_seq ?_
   refine c_region ?_
   refine RL ?_
   refine l_l l_n rfl rfl ?_
   refine l_sure true rfl rfl rfl (decide_eq_true (by rw [parse_none o_m]; rfl)) ?_
   refine RL ?_
   refine l_nil ?_
   refine c_ret ?_
   exact l_end (fun _ _ => rets_v rfl) (List.nil_sublist _) ⟨by trivial, rfl⟩
  ·have h2n := r_f h2
   refine c_skip ?_
   refine c_seq ?_
   refine c_region ?_
   refine RL ?_
   refine l_x (x_call call_10 rfl (fun w hw => print_fn (parseT t).1 aP23 cP23 o_m (fun c hc h1 => itoa_all c.n (by have := parse_nums t c hc h1; omega) (by have := parse_nums t c hc h1; omega)) w (vec_els hV23 (fun x hx => by repeat (first | exact hx | exact List.mem_append_left _ hx | refine List.mem_append_right _ ?_ | refine .tail _ ?_)) hw) (gp_later hP (by simp) hw))) rfl rfl ?_
   rintro _ _ ⟨G34, rfl, rfl⟩
   refine l_heap (fun w h => h.sub (List.sublist_append_right _ _)) ?_
   iterate 5 refine RL ?_
   refine l_nil ?_
   refine c_seq ?_
   refine c_region ?_
   refine RL ?_
   refine l_x (x_call call_13 rfl (fun w hw => parse_fn (printT (parseT t).1).1 w (later_cell hGl hw))) rfl rfl ?_
   rintro _ _ ⟨G39, ⟨va39, hV39, rfl⟩, rfl⟩
   obtain ⟨aP39, cP39, rfl⟩ := hV39.slice
   iterate 7 refine RL ?_
   refine l_nil ?_
   refine c_seq ?_
   refine c_region ?_
   refine RL ?_
   refine l_x (x_call call_10 rfl (fun w hw => print_fn (parseT (printT (parseT t).1).1).1 aP39 cP39 o_m (fun c hc h1 => itoa_all c.n (by have := parse_nums (printT (parseT t).1).1 c hc h1; omega) (by have := parse_nums (printT (parseT t).1).1 c hc h1; omega)) w (vec_els hV39 (fun x hx => by repeat (first | exact hx | exact List.mem_append_left _ hx | refine List.mem_append_right _ ?_ | refine .tail _ ?_)) hw) (gp_later hP (by simp) hw))) rfl rfl ?_
   rintro _ _ ⟨G45, rfl, rfl⟩
   refine l_heap (fun w h => h.sub (List.sublist_append_right _ _)) ?_
   iterate 5 refine RL ?_
   refine l_nil ?_
   refine c_seq ?_
   refine c_seq ?_
   rcases again_cases t with h5 | ⟨h0, hg9⟩ | ⟨h0, hg9⟩ | ⟨h0, hg9, hs9⟩
   ·refine c_region ?_
    refine RL ?_
    refine l_sure true rfl rfl rfl (by rw [h5]; rfl) ?_
    refine RL ?_
    refine RLp ?_
    refine RLp ?_
    refine RL ?_
    refine l_nil ?_
    refine c_true rfl ?_
    refine c_seq ?_
    refine c_region ?_
    refine RL ?_
    refine l_sure true rfl rfl rfl (by rw [h5]; rfl) ?_
    refine RL ?_
    refine RLp ?_
    refine RLp ?_
    refine RL ?_
    refine RL ?_
    refine RLp ?_
    refine RLp ?_
    refine RL ?_
    refine RL ?_
    refine l_nil ?_
    refine c_ret ?_
    exact l_end (fun _ _ => rets_v rfl) (List.nil_sublist _) ⟨by trivial, rfl⟩
   ·refine c_region ?_
    refine RL ?_
    refine l_sure false rfl rfl rfl (by rw [h0]; rfl) ?_
    refine RL ?_
    refine RL ?_
    refine l_sure true rfl rfl rfl (by rw [hg9]; rfl) ?_
    refine RL ?_
    refine l_nil ?_
    refine c_true rfl ?_
    refine c_seq ?_
    refine c_region ?_
    refine RL ?_
    refine l_sure false rfl rfl rfl (by rw [h0]; rfl) ?_
    refine RL ?_
    refine RL ?_
    refine l_sure true rfl rfl rfl (by rw [hg9]; rfl) ?_
    refine RL ?_
    refine RL ?_
    refine RLp ?_
    refine RLp ?_
    refine RL ?_
    refine RL ?_
    refine l_nil ?_
    refine c_ret ?_
    exact l_end (fun _ _ => rets_v rfl) (List.nil_sublist _) ⟨by trivial, rfl⟩
   ·refine c_region ?_
    refine RL ?_
    refine l_sure false rfl rfl rfl (by rw [h0]; rfl) ?_
    refine RL ?_
    refine RL ?_
    refine l_sure true rfl rfl rfl (by rw [hg9]; rfl) ?_
    refine RL ?_
    refine l_nil ?_
    refine c_true rfl ?_
    refine c_seq ?_
    refine c_region ?_
    refine RL ?_
    refine l_sure false rfl rfl rfl (by rw [h0]; rfl) ?_
    refine RL ?_
    refine RL ?_
    refine l_sure false rfl rfl rfl (by rw [hg9]; rfl) ?_
    iterate 3 refine RL ?_
    refine l_sure true rfl rfl rfl (by rw [hg9]; rfl) ?_
    refine RL ?_
    refine RL ?_
    refine l_nil ?_
    refine c_ret ?_
    exact l_end (fun _ _ => rets_v rfl) (List.nil_sublist _) ⟨by trivial, rfl⟩
   ·refine c_region ?_
    refine RL ?_
    refine l_sure false rfl rfl rfl (by rw [h0]; rfl) ?_
    refine RL ?_
    refine RL ?_
    refine l_sure false rfl rfl rfl (by rw [hg9]; rfl) ?_
    refine RL ?_
    refine l_nil ?_
    refine c_false rfl ?_
    refine c_skip ?_
    refine c_seq ?_
    refine c_region ?_
    refine RL ?_
    refine RL ?_
    refine l_x (x_call call_16 rfl (fun w hw => docs_fn (parseT t).1 aP23 cP23 o_m w (vec_els hV23 (fun x hx => by repeat (first | exact hx | exact List.mem_append_left _ hx | refine List.mem_append_right _ ?_ | refine .tail _ ?_)) hw))) rfl rfl ?_
    rintro v66 _ ⟨G66, hV66, rfl⟩
    obtain ⟨a66, c66, rfl⟩ := hV66.slice
    refine l_x (x_val call_14 rfl (fun w hw => same_yes (parseT (printT (parseT t).1).1).1 (parseT t).1 hs9 aP39 a66 cP39 c66 o_m w (vec_els hV39 (fun x hx => by repeat (first | exact hx | exact List.mem_append_left _ hx | refine List.mem_append_right _ ?_ | refine .tail _ ?_)) hw) (vec_els hV66 (fun x hx => by repeat (first | exact hx | exact List.mem_append_left _ hx | refine List.mem_append_right _ ?_ | refine .tail _ ?_)) hw))) rfl rfl ?_
    rintro _ _ ⟨rfl, rfl⟩
    iterate 3 refine RL ?_
    refine l_sure true (light_eqstr rfl rfl) rfl rfl (by rw [hs9]; simp) ?_
    iterate 3 refine RL ?_
    refine l_sure true rfl rfl rfl (by rw [hs9, h0]; rfl) ?_
    refine RL ?_
    refine RL ?_
    refine l_nil ?_
    refine c_ret ?_
    exact l_end (fun _ _ => rets_v rfl) (List.nil_sublist _) ⟨by trivial, rfl⟩

set_option maxHeartbeats 1000000 in
theorem signsLaw_fn (t : Tx) (ht : t.length ≤ 1000000) (w : World) : Does Tryd.prog 15 [.string (bs t)] w [] (fun v H => H = [] ∧ v = .int .i64 (signsT t)) := by
 refine does_of Tryd.func15 rfl rfl rfl (St.refl w) ?_
 refine c_seq ?_
 refine c_region ?_
 refine RL ?_
 refine l_nil ?_
 refine c_seq ?_
 refine c_region ?_
 refine RL ?_
 refine l_nil ?_
 refine c_seq ?_
 refine c_seq ?_
 refine c_region ?_
 refine RL ?_
 refine l_l (light_lenstr rfl rfl) rfl rfl ?_
 refine RL ?_
 refine l_nil ?_
 refine c_block ?_
 refine c_loopk (σ := Nat × Nat) [3, 4, 7, 8, 9, 10, 11, 12, 13, 14, 15, 16, 17, 18, 19, 20, 21, 22, 23, 24, 25, 26, 27, 28, 29, 30, 31, 32, 33, 34, 35, 36, 37, 38, 39, 40, 41, 42, 43, 44, 45, 46, 47, 48, 49] (fun q => [(3, .int .i64 q.2), (7, .int .i64 q.1)]) (fun q => q.1 ≤ t.length ∧ q.2 + signsT (t.drop q.1) = signsT t ∧ q.2 ≤ q.1) (fun q => t.length - q.1) (0, 0) ?_ ?_ ?_
 ·exact ⟨Nat.zero_le _, Nat.zero_add _, Nat.le_refl _⟩
 ·exact .cons rfl (.cons rfl .nil)
 ·rintro ⟨i, k⟩ y3 ⟨hi, hk, hki⟩
  dsimp only at hi hk hki ⊢
  refine c_seq ?_
  refine c_region ?_
  refine RL ?_
  refine l_nil ?_
  refine c_seq ?_
  refine c_cond rfl (fun h1 => ?_) (fun h1 => ?_)
  ·have h1n := r_f h1
   refine c_skip ?_
   refine c_seq ?_
   refine c_block ?_
   refine c_seq ?_
   obtain ⟨c, hc9⟩ : ∃ c, t[i]? = some c := ⟨_, List.getElem?_eq_getElem o_m⟩
   refine c_region ?_
   refine RL ?_
   refine RL ?_
   refine l_nil ?_
   refine c_seq ?_
   refine c_region ?_
   refine RL ?_
   refine RL ?_
   refine l_l (light_idxstr i rfl rfl rfl rfl hc9) rfl rfl ?_
   refine RL ?_
   refine RLb (fun h2 => ?_) (fun h2 => ?_)
   ·have h2n := r_f h2
    iterate 4 refine RLp ?_
    refine RL ?_
    refine RL ?_
    iterate 4 refine RLp ?_
    iterate 3 refine RL ?_
    refine l_as (v := (.int .i64 ((i + 1 : Nat) : Int))) rfl rfl rfl (congrArg _ (succ_law o_m)) ?_
    refine RL ?_
    refine l_l (light_lenstr rfl rfl) rfl rfl ?_
    refine RL ?_
    refine RL ?_
    refine RLb (fun h3 => ?_) (fun h3 => ?_)
    ·have h3n := r_f h3
     refine RL ?_
     refine RL ?_
     refine l_as (v := (.int .i64 ((i + 1 : Nat) : Int))) rfl rfl rfl (congrArg _ (succ_law o_m)) ?_
     obtain ⟨x, hx9⟩ : ∃ x, t[i + 1]? = some x := ⟨_, List.getElem?_eq_getElem o_m⟩
     refine l_l (light_idxstr (i + 1) rfl rfl rfl o_m hx9) rfl rfl ?_
     refine RL ?_
     refine RL ?_
     refine RLb (fun h4 => ?_) (fun h4 => ?_)
     ·have h4n := r_f h4
      refine RL ?_
      refine RL ?_
      refine l_as (v := (.int .i64 ((i + 1 : Nat) : Int))) rfl rfl rfl (congrArg _ (succ_law o_m)) ?_
      refine l_l (light_idxstr (i + 1) rfl rfl rfl o_m hx9) rfl rfl ?_
      refine RL ?_
      refine RL ?_
      refine l_nil ?_
      refine c_cond rfl (fun h5 => ?_) (fun h5 => ?_)
      ·have h5n := r_f h5
       refine c_region ?_
       refine RL ?_
       refine l_as (v := (.int .i64 ((k + 1 : Nat) : Int))) rfl rfl rfl (congrArg _ (succ_law o_m)) ?_
       refine RL ?_
       refine l_nil ?_
       refine c_region ?_
       refine l_as (v := (.int .i64 ((i + 1 : Nat) : Int))) rfl rfl rfl (congrArg _ (succ_law o_m)) ?_
       refine RL ?_
       refine l_nil ?_
       rw [signs_step hc9, (sign_is hx9 (.inl h2n)).trans (decide_eq_true o_m), if_pos rfl] at hk
       exact ⟨(i + 1, k + 1), ⟨by omega, by show (k + 1) + signsT (t.drop (i + 1)) = signsT t; omega, by show k + 1 ≤ i + 1; omega⟩, by show t.length - (i + 1) < t.length - i; omega, .cons rfl (.cons rfl .nil), a_g, fun _ h => h⟩
      ·have h5n := r_f h5
       refine c_skip ?_
       refine c_region ?_
       refine l_as (v := (.int .i64 ((i + 1 : Nat) : Int))) rfl rfl rfl (congrArg _ (succ_law o_m)) ?_
       refine RL ?_
       refine l_nil ?_
       rw [signs_step hc9, (sign_is hx9 (.inl h2n)).trans (decide_eq_false o_m), if_neg (by decide)] at hk
       exact ⟨(i + 1, k), ⟨by omega, by show (k) + signsT (t.drop (i + 1)) = signsT t; omega, by show k ≤ i + 1; omega⟩, by show t.length - (i + 1) < t.length - i; omega, .cons rfl (.cons rfl .nil), a_g, fun _ h => h⟩
     ·have h4n := r_f h4
      iterate 5 refine RLp ?_
      refine RL ?_
      refine l_nil ?_
      refine c_false rfl ?_
      refine c_skip ?_
      refine c_region ?_
      refine l_as (v := (.int .i64 ((i + 1 : Nat) : Int))) rfl rfl rfl (congrArg _ (succ_law o_m)) ?_
      refine RL ?_
      refine l_nil ?_
      rw [signs_step hc9, (sign_is hx9 (.inl h2n)).trans (decide_eq_false o_m), if_neg (by decide)] at hk
      exact ⟨(i + 1, k), ⟨by omega, by show (k) + signsT (t.drop (i + 1)) = signsT t; omega, by show k ≤ i + 1; omega⟩, by show t.length - (i + 1) < t.length - i; omega, .cons rfl (.cons rfl .nil), a_g, fun _ h => h⟩
    ·have h3n := r_f h3
     iterate 5 refine RLp ?_
     refine RL ?_
     refine RL ?_
     iterate 5 refine RLp ?_
     refine RL ?_
     refine l_nil ?_
     refine c_false rfl ?_
     refine c_skip ?_
     refine c_region ?_
     refine l_as (v := (.int .i64 ((i + 1 : Nat) : Int))) rfl rfl rfl (congrArg _ (succ_law o_m)) ?_
     refine RL ?_
     refine l_nil ?_
     rw [signs_step hc9, sign_end o_m, if_neg (by decide)] at hk
     exact ⟨(i + 1, k), ⟨by omega, by show (k) + signsT (t.drop (i + 1)) = signsT t; omega, by show k ≤ i + 1; omega⟩, by show t.length - (i + 1) < t.length - i; omega, .cons rfl (.cons rfl .nil), a_g, fun _ h => h⟩
   ·have h2n := r_f h2
    refine RL ?_
    refine RL ?_
    refine l_l (light_idxstr i rfl rfl rfl rfl hc9) rfl rfl ?_
    refine RL ?_
    refine RL ?_
    refine RLb (fun h6 => ?_) (fun h6 => ?_)
    ·have h6n := r_f h6
     iterate 4 refine RLp ?_
     iterate 3 refine RL ?_
     refine l_as (v := (.int .i64 ((i + 1 : Nat) : Int))) rfl rfl rfl (congrArg _ (succ_law o_m)) ?_
     refine RL ?_
     refine l_l (light_lenstr rfl rfl) rfl rfl ?_
     refine RL ?_
     refine RL ?_
     refine RLb (fun h7 => ?_) (fun h7 => ?_)
     ·have h7n := r_f h7
      refine RL ?_
      refine RL ?_
      refine l_as (v := (.int .i64 ((i + 1 : Nat) : Int))) rfl rfl rfl (congrArg _ (succ_law o_m)) ?_
      obtain ⟨x, hx9⟩ : ∃ x, t[i + 1]? = some x := ⟨_, List.getElem?_eq_getElem o_m⟩
      refine l_l (light_idxstr (i + 1) rfl rfl rfl o_m hx9) rfl rfl ?_
      refine RL ?_
      refine RL ?_
      refine RLb (fun h8 => ?_) (fun h8 => ?_)
      ·have h8n := r_f h8
       refine RL ?_
       refine RL ?_
       refine l_as (v := (.int .i64 ((i + 1 : Nat) : Int))) rfl rfl rfl (congrArg _ (succ_law o_m)) ?_
       refine l_l (light_idxstr (i + 1) rfl rfl rfl o_m hx9) rfl rfl ?_
       refine RL ?_
       refine RL ?_
       refine l_nil ?_
       refine c_cond rfl (fun h9 => ?_) (fun h9 => ?_)
       ·have h9n := r_f h9
        refine c_region ?_
        refine RL ?_
        refine l_as (v := (.int .i64 ((k + 1 : Nat) : Int))) rfl rfl rfl (congrArg _ (succ_law o_m)) ?_
        refine RL ?_
        refine l_nil ?_
        refine c_region ?_
        refine l_as (v := (.int .i64 ((i + 1 : Nat) : Int))) rfl rfl rfl (congrArg _ (succ_law o_m)) ?_
        refine RL ?_
        refine l_nil ?_
        rw [signs_step hc9, (sign_is hx9 (.inr (.inl h6n))).trans (decide_eq_true o_m), if_pos rfl] at hk
        exact ⟨(i + 1, k + 1), ⟨by omega, by show (k + 1) + signsT (t.drop (i + 1)) = signsT t; omega, by show k + 1 ≤ i + 1; omega⟩, by show t.length - (i + 1) < t.length - i; omega, .cons rfl (.cons rfl .nil), a_g, fun _ h => h⟩
       ·have h9n := r_f h9
        refine c_skip ?_
        refine c_region ?_
        refine l_as (v := (.int .i64 ((i + 1 : Nat) : Int))) rfl rfl rfl (congrArg _ (succ_law o_m)) ?_
        refine RL ?_
        refine l_nil ?_
        rw [signs_step hc9, (sign_is hx9 (.inr (.inl h6n))).trans (decide_eq_false o_m), if_neg (by decide)] at hk
        exact ⟨(i + 1, k), ⟨by omega, by show (k) + signsT (t.drop (i + 1)) = signsT t; omega, by show k ≤ i + 1; omega⟩, by show t.length - (i + 1) < t.length - i; omega, .cons rfl (.cons rfl .nil), a_g, fun _ h => h⟩
      ·have h8n := r_f h8
       iterate 5 refine RLp ?_
       refine RL ?_
       refine l_nil ?_
       refine c_false rfl ?_
       refine c_skip ?_
       refine c_region ?_
       refine l_as (v := (.int .i64 ((i + 1 : Nat) : Int))) rfl rfl rfl (congrArg _ (succ_law o_m)) ?_
       refine RL ?_
       refine l_nil ?_
       rw [signs_step hc9, (sign_is hx9 (.inr (.inl h6n))).trans (decide_eq_false o_m), if_neg (by decide)] at hk
       exact ⟨(i + 1, k), ⟨by omega, by show (k) + signsT (t.drop (i + 1)) = signsT t; omega, by show k ≤ i + 1; omega⟩, by show t.length - (i + 1) < t.length - i; omega, .cons rfl (.cons rfl .nil), a_g, fun _ h => h⟩
     ·have h7n := r_f h7
      iterate 5 refine RLp ?_
      refine RL ?_
      refine RL ?_
      iterate 5 refine RLp ?_
      refine RL ?_
      refine l_nil ?_
      refine c_false rfl ?_
      refine c_skip ?_
      refine c_region ?_
      refine l_as (v := (.int .i64 ((i + 1 : Nat) : Int))) rfl rfl rfl (congrArg _ (succ_law o_m)) ?_
      refine RL ?_
      refine l_nil ?_
      rw [signs_step hc9, sign_end o_m, if_neg (by decide)] at hk
      exact ⟨(i + 1, k), ⟨by omega, by show (k) + signsT (t.drop (i + 1)) = signsT t; omega, by show k ≤ i + 1; omega⟩, by show t.length - (i + 1) < t.length - i; omega, .cons rfl (.cons rfl .nil), a_g, fun _ h => h⟩
    ·have h6n := r_f h6
     refine RL ?_
     refine RL ?_
     refine l_l (light_idxstr i rfl rfl rfl rfl hc9) rfl rfl ?_
     refine RL ?_
     refine RL ?_
     refine RLb (fun h10 => ?_) (fun h10 => ?_)
     ·have h10n := r_f h10
      refine RL ?_
      refine l_as (v := (.int .i64 ((i + 1 : Nat) : Int))) rfl rfl rfl (congrArg _ (succ_law o_m)) ?_
      refine RL ?_
      refine l_l (light_lenstr rfl rfl) rfl rfl ?_
      refine RL ?_
      refine RL ?_
      refine RLb (fun h11 => ?_) (fun h11 => ?_)
      ·have h11n := r_f h11
       refine RL ?_
       refine RL ?_
       refine l_as (v := (.int .i64 ((i + 1 : Nat) : Int))) rfl rfl rfl (congrArg _ (succ_law o_m)) ?_
       obtain ⟨x, hx9⟩ : ∃ x, t[i + 1]? = some x := ⟨_, List.getElem?_eq_getElem o_m⟩
       refine l_l (light_idxstr (i + 1) rfl rfl rfl o_m hx9) rfl rfl ?_
       refine RL ?_
       refine RL ?_
       refine RLb (fun h12 => ?_) (fun h12 => ?_)
       ·have h12n := r_f h12
        refine RL ?_
        refine RL ?_
        refine l_as (v := (.int .i64 ((i + 1 : Nat) : Int))) rfl rfl rfl (congrArg _ (succ_law o_m)) ?_
        refine l_l (light_idxstr (i + 1) rfl rfl rfl o_m hx9) rfl rfl ?_
        refine RL ?_
        refine RL ?_
        refine l_nil ?_
        refine c_cond rfl (fun h13 => ?_) (fun h13 => ?_)
        ·have h13n := r_f h13
         refine c_region ?_
         refine RL ?_
         refine l_as (v := (.int .i64 ((k + 1 : Nat) : Int))) rfl rfl rfl (congrArg _ (succ_law o_m)) ?_
         refine RL ?_
         refine l_nil ?_
         refine c_region ?_
         refine l_as (v := (.int .i64 ((i + 1 : Nat) : Int))) rfl rfl rfl (congrArg _ (succ_law o_m)) ?_
         refine RL ?_
         refine l_nil ?_
         rw [signs_step hc9, (sign_is hx9 (.inr (.inr h10n))).trans (decide_eq_true o_m), if_pos rfl] at hk
         exact ⟨(i + 1, k + 1), ⟨by omega, by show (k + 1) + signsT (t.drop (i + 1)) = signsT t; omega, by show k + 1 ≤ i + 1; omega⟩, by show t.length - (i + 1) < t.length - i; omega, .cons rfl (.cons rfl .nil), a_g, fun _ h => h⟩
        ·have h13n := r_f h13
         refine c_skip ?_
         refine c_region ?_
         refine l_as (v := (.int .i64 ((i + 1 : Nat) : Int))) rfl rfl rfl (congrArg _ (succ_law o_m)) ?_
         refine RL ?_
         refine l_nil ?_
         rw [signs_step hc9, (sign_is hx9 (.inr (.inr h10n))).trans (decide_eq_false o_m), if_neg (by decide)] at hk
         exact ⟨(i + 1, k), ⟨by omega, by show (k) + signsT (t.drop (i + 1)) = signsT t; omega, by show k ≤ i + 1; omega⟩, by show t.length - (i + 1) < t.length - i; omega, .cons rfl (.cons rfl .nil), a_g, fun _ h => h⟩
       ·have h12n := r_f h12
        iterate 5 refine RLp ?_
        refine RL ?_
        refine l_nil ?_
        refine c_false rfl ?_
        refine c_skip ?_
        refine c_region ?_
        refine l_as (v := (.int .i64 ((i + 1 : Nat) : Int))) rfl rfl rfl (congrArg _ (succ_law o_m)) ?_
        refine RL ?_
        refine l_nil ?_
        rw [signs_step hc9, (sign_is hx9 (.inr (.inr h10n))).trans (decide_eq_false o_m), if_neg (by decide)] at hk
        exact ⟨(i + 1, k), ⟨by omega, by show (k) + signsT (t.drop (i + 1)) = signsT t; omega, by show k ≤ i + 1; omega⟩, by show t.length - (i + 1) < t.length - i; omega, .cons rfl (.cons rfl .nil), a_g, fun _ h => h⟩
      ·have h11n := r_f h11
       iterate 5 refine RLp ?_
       refine RL ?_
       refine RL ?_
       iterate 5 refine RLp ?_
       refine RL ?_
       refine l_nil ?_
       refine c_false rfl ?_
       refine c_skip ?_
       refine c_region ?_
       refine l_as (v := (.int .i64 ((i + 1 : Nat) : Int))) rfl rfl rfl (congrArg _ (succ_law o_m)) ?_
       refine RL ?_
       refine l_nil ?_
       rw [signs_step hc9, sign_end o_m, if_neg (by decide)] at hk
       exact ⟨(i + 1, k), ⟨by omega, by show (k) + signsT (t.drop (i + 1)) = signsT t; omega, by show k ≤ i + 1; omega⟩, by show t.length - (i + 1) < t.length - i; omega, .cons rfl (.cons rfl .nil), a_g, fun _ h => h⟩
     ·have h10n := r_f h10
      iterate 5 refine RLp ?_
      refine RL ?_
      refine RL ?_
      iterate 5 refine RLp ?_
      refine RL ?_
      refine RL ?_
      iterate 5 refine RLp ?_
      refine RL ?_
      refine l_nil ?_
      refine c_false rfl ?_
      refine c_skip ?_
      refine c_region ?_
      refine l_as (v := (.int .i64 ((i + 1 : Nat) : Int))) rfl rfl rfl (congrArg _ (succ_law o_m)) ?_
      refine RL ?_
      refine l_nil ?_
      rw [signs_step hc9, sign_no h2n h6n h10n, if_neg (by decide)] at hk
      exact ⟨(i + 1, k), ⟨by omega, by show (k) + signsT (t.drop (i + 1)) = signsT t; omega, by show k ≤ i + 1; omega⟩, by show t.length - (i + 1) < t.length - i; omega, .cons rfl (.cons rfl .nil), a_g, fun _ h => h⟩
  ·have h1n := r_f h1
   refine c_exit rfl ?_
   refine c_seq ?_
   rw [List.drop_eq_nil_of_le o_m] at hk
   obtain rfl : k = signsT t := hk
   refine c_region ?_
   refine RL ?_
   refine RL ?_
   refine l_nil ?_
   refine c_ret ?_
   exact l_end0 (fun _ _ => rets_v rfl) ⟨rfl, rfl⟩

end Go.Proofs.YtiadmbhafplepaaDoor
namespace Go.Proofs.YtiadmbhafplepaaDoor
open Go Go.VV Go.Proofs Go.RowKit
set_option linter.unusedSimpArgs false
set_option linter.unusedVariables false
set_option maxRecDepth 100000
set_option maxHeartbeats 1000000 in
theorem back_fn (l : List Cd) (a : Option Addr) (cp : Nat) (hn : ∀ c ∈ l, -9223372036854775808 ≤ c.n ∧ c.n ≤ 9223372036854775807) (w : World) (hE : Els w cCd a l) (hGl : GlE w) (hP : GlP w) : Does Tryd.prog 4 [.slice a l.length cp] w [] (fun v H => H = H ∧ v = .bool true) := by
 refine does_of Tryd.func4 rfl rfl rfl (St.refl w) ?_
 refine c_seq ?_
 refine c_region ?_
 refine RL ?_
 refine l_nil ?_
 refine c_seq ?_
 refine c_seq ?_
 refine c_region ?_
 refine RLv call_9 (fun w hw => awake_fn w (later_cell hGl hw) (gp_later hP (by simp) hw)) ?_
 iterate 3 refine RL ?_
 refine l_l l_n rfl rfl ?_
 refine RL ?_
 refine RL ?_
 refine l_nil ?_
 refine c_cond rfl (fun h1 => ?_) (fun h1 => ?_)
 ·have h1n := r_f h1
  refine c_seq ?_
  refine c_region ?_
  refine RLv call_9 (fun w hw => awake_fn w (later_cell hGl hw) (gp_later hP (by simp) hw)) ?_
  refine RL ?_
  refine l_nil ?_
  refine c_ret ?_
  exact l_end (fun _ _ => rets_v rfl) (List.nil_sublist _) ⟨by trivial, rfl⟩
 ·have h1n := r_f h1
  refine c_skip ?_
  refine c_seq ?_
  refine c_region ?_
  refine RL ?_
  refine l_x (x_call call_11 rfl (fun w hw => codes_fn l a cp o_m w (hE.later0 hw))) rfl rfl ?_
  rintro v21 _ ⟨G21, hV21, rfl⟩
  obtain ⟨a21, c21, rfl⟩ := hV21.slice
  refine l_x (x_call call_10 rfl (fun w hw => print_fn l a21 c21 o_m (fun c hc _ => itoa_all c.n (hn c hc).1 (hn c hc).2) w (vec_els hV21 (fun x hx => by repeat (first | exact hx | exact List.mem_append_left _ hx | refine List.mem_append_right _ ?_ | refine .tail _ ?_)) hw) (gp_later hP (by simp) hw))) rfl rfl ?_
  rintro _ _ ⟨G22, rfl, rfl⟩
  refine l_heap (fun w h => h.sub (List.sublist_append_right _ _)) ?_
  iterate 5 refine RL ?_
  refine l_nil ?_
  refine c_seq ?_
  refine c_seq ?_
  have he9 := print_err l
  refine c_region ?_
  refine RL ?_
  refine RL ?_
  refine l_nil ?_
  refine c_cond rfl (fun h2 => ?_) (fun h2 => ?_)
  ·have h2n := r_f h2
   refine c_seq ?_
   refine c_region ?_
   refine RL ?_
   refine l_sure true (light_eqstr rfl rfl) rfl rfl (by rw [he9.resolve_left o_m]; rfl) ?_
   refine RL ?_
   refine l_nil ?_
   refine c_ret ?_
   exact l_end (fun _ _ => rets_v rfl) (List.nil_sublist _) ⟨by trivial, rfl⟩
  ·have h2n := r_f h2
   refine c_skip ?_
   refine c_seq ?_
   refine c_region ?_
   refine RL ?_
   refine l_x (x_call call_13 rfl (fun w hw => parse_fn (printT l).1 w (later_cell hGl hw))) rfl rfl ?_
   rintro _ _ ⟨G31, ⟨va31, hV31, rfl⟩, rfl⟩
   obtain ⟨aP31, cP31, rfl⟩ := hV31.slice
   iterate 7 refine RL ?_
   refine l_nil ?_
   refine c_seq ?_
   refine c_seq ?_
   refine c_region ?_
   refine RL ?_
   refine l_l (light_lenstr rfl rfl) rfl rfl ?_
   refine RL ?_
   refine l_nil ?_
   refine c_cond rfl (fun h3 => ?_) (fun h3 => ?_)
   ·have h3n := r_f h3
    refine c_seq ?_
    refine c_region ?_
    refine RL ?_
    refine l_sure true rfl rfl rfl (by rw [parse_long o_m]; rfl) ?_
    refine RL ?_
    refine l_nil ?_
    refine c_ret ?_
    exact l_end (fun _ _ => rets_v rfl) (List.nil_sublist _) ⟨by trivial, rfl⟩
   ·have h3n := r_f h3
    refine c_skip ?_
    refine c_seq ?_
    refine c_region ?_
    refine RL ?_
    refine RL ?_
    refine l_nil ?_
    refine c_seq ?_
    refine c_seq ?_
    refine c_region ?_
    refine RL ?_
    refine l_l (light_lenstr rfl rfl) rfl rfl ?_
    refine RL ?_
    refine l_nil ?_
    refine c_block ?_
    refine c_loopk (σ := Nat × Int × Int) [8, 9, 10, 42, 43, 44, 45, 46, 47, 48, 49, 50, 51, 52, 53, 54, 55, 56, 57, 58, 59, 60, 61] (fun q => [(8, .int .i64 q.2.1), (9, .int .i64 q.2.2), (42, .int .i64 q.1)]) (fun q => q.1 ≤ (printT l).1.length ∧ nestT ((printT l).1.take q.1) = q.2) (fun q => (printT l).1.length - q.1) (0, 0, 0) ?_ ?_ ?_
    ·exact ⟨Nat.zero_le _, rfl⟩
    ·exact .cons rfl (.cons rfl (.cons rfl .nil))
    ·rintro ⟨i, d, m⟩ y11 ⟨hi, hq⟩
     dsimp only at hi hq ⊢
     refine c_seq ?_
     refine c_region ?_
     refine RL ?_
     refine l_nil ?_
     refine c_seq ?_
     refine c_cond rfl (fun h4 => ?_) (fun h4 => ?_)
     ·have h4n := r_f h4
      refine c_skip ?_
      refine c_seq ?_
      refine c_block ?_
      refine c_seq ?_
      obtain ⟨c, hc9⟩ : ∃ c, (printT l).1[i]? = some c := ⟨_, List.getElem?_eq_getElem o_m⟩
      have hn9 := nest_step hc9
      have hd9 := nest_bound (printT l).1 i hi
      rw [hq] at hd9
      dsimp only at hd9
      refine c_region ?_
      refine RL ?_
      refine RL ?_
      refine l_nil ?_
      refine c_seq ?_
      refine c_seq ?_
      refine c_region ?_
      refine RL ?_
      refine RL ?_
      refine l_l (light_idxstr i rfl rfl rfl rfl hc9) rfl rfl ?_
      refine l_nil ?_
      refine c_block ?_
      refine c_seq ?_
      refine c_seq ?_
      refine c_region ?_
      refine RL ?_
      refine RL ?_
      refine l_nil ?_
      refine c_cond rfl (fun h5 => ?_) (fun h5 => ?_)
      ·have h5n := r_f h5
       refine c_skip ?_
       refine c_sure true rfl h5 ?_
       refine c_region ?_
       refine RL ?_
       refine l_as (v := (.int .i64 (d + 1))) rfl rfl rfl (as_i64 o_m o_m) ?_
       refine RL ?_
       refine l_nil ?_
       refine c_region ?_
       refine RL ?_
       refine RL ?_
       refine l_l (light_max rfl rfl) rfl rfl ?_
       refine RL ?_
       refine l_nil ?_
       refine c_region ?_
       refine l_as (v := (.int .i64 ((i + 1 : Nat) : Int))) rfl rfl rfl (congrArg _ (succ_law o_m)) ?_
       refine RL ?_
       refine l_nil ?_
       exact ⟨(i + 1, (d + 1, max m (d + 1))), ⟨by omega, by rw [hn9, hq]; exact nst_o o_m⟩, by show (printT l).1.length - (i + 1) < (printT l).1.length - i; omega, .cons rfl (.cons rfl (.cons rfl .nil)), a_g, fun _ h => h⟩
      ·have h5n := r_f h5
       refine c_region ?_
       refine RL ?_
       refine RL ?_
       refine l_nil ?_
       refine c_cond rfl (fun h6 => ?_) (fun h6 => ?_)
       ·have h6n := r_f h6
        refine c_region ?_
        refine RL ?_
        refine l_as (v := (.int .i64 (d + 1))) rfl rfl rfl (as_i64 o_m o_m) ?_
        refine RL ?_
        refine l_nil ?_
        refine c_region ?_
        refine RL ?_
        refine RL ?_
        refine l_l (light_max rfl rfl) rfl rfl ?_
        refine RL ?_
        refine l_nil ?_
        refine c_region ?_
        refine l_as (v := (.int .i64 ((i + 1 : Nat) : Int))) rfl rfl rfl (congrArg _ (succ_law o_m)) ?_
        refine RL ?_
        refine l_nil ?_
        exact ⟨(i + 1, (d + 1, max m (d + 1))), ⟨by omega, by rw [hn9, hq]; exact nst_o o_m⟩, by show (printT l).1.length - (i + 1) < (printT l).1.length - i; omega, .cons rfl (.cons rfl (.cons rfl .nil)), a_g, fun _ h => h⟩
       ·have h6n := r_f h6
        refine c_seq ?_
        refine c_seq ?_
        refine c_region ?_
        refine RL ?_
        refine RL ?_
        refine l_nil ?_
        refine c_cond rfl (fun h7 => ?_) (fun h7 => ?_)
        ·have h7n := r_f h7
         refine c_skip ?_
         refine c_sure true rfl h7 ?_
         refine c_region ?_
         refine RL ?_
         refine l_as (v := (.int .i64 (d - 1))) rfl rfl rfl (as_i64 o_m o_m) ?_
         refine RL ?_
         refine l_nil ?_
         refine c_region ?_
         refine RL ?_
         refine RL ?_
         refine l_l (light_max rfl rfl) rfl rfl ?_
         refine RL ?_
         refine l_nil ?_
         refine c_region ?_
         refine l_as (v := (.int .i64 ((i + 1 : Nat) : Int))) rfl rfl rfl (congrArg _ (succ_law o_m)) ?_
         refine RL ?_
         refine l_nil ?_
         exact ⟨(i + 1, (d - 1, max m (d - 1))), ⟨by omega, by rw [hn9, hq]; exact nst_c o_m o_m o_m⟩, by show (printT l).1.length - (i + 1) < (printT l).1.length - i; omega, .cons rfl (.cons rfl (.cons rfl .nil)), a_g, fun _ h => h⟩
        ·have h7n := r_f h7
         refine c_region ?_
         refine RL ?_
         refine RL ?_
         refine l_nil ?_
         refine c_cond rfl (fun h8 => ?_) (fun h8 => ?_)
         ·have h8n := r_f h8
          refine c_region ?_
          refine RL ?_
          refine l_as (v := (.int .i64 (d - 1))) rfl rfl rfl (as_i64 o_m o_m) ?_
          refine RL ?_
          refine l_nil ?_
          refine c_region ?_
          refine RL ?_
          refine RL ?_
          refine l_l (light_max rfl rfl) rfl rfl ?_
          refine RL ?_
          refine l_nil ?_
          refine c_region ?_
          refine l_as (v := (.int .i64 ((i + 1 : Nat) : Int))) rfl rfl rfl (congrArg _ (succ_law o_m)) ?_
          refine RL ?_
          refine l_nil ?_
          exact ⟨(i + 1, (d - 1, max m (d - 1))), ⟨by omega, by rw [hn9, hq]; exact nst_c o_m o_m o_m⟩, by show (printT l).1.length - (i + 1) < (printT l).1.length - i; omega, .cons rfl (.cons rfl (.cons rfl .nil)), a_g, fun _ h => h⟩
         ·have h8n := r_f h8
          refine c_skip ?_
          refine c_region ?_
          refine RL ?_
          refine RL ?_
          refine l_l (light_max rfl rfl) rfl rfl ?_
          refine RL ?_
          refine l_nil ?_
          refine c_region ?_
          refine l_as (v := (.int .i64 ((i + 1 : Nat) : Int))) rfl rfl rfl (congrArg _ (succ_law o_m)) ?_
          refine RL ?_
          refine l_nil ?_
          exact ⟨(i + 1, (d, max m d)), ⟨by omega, by rw [hn9, hq]; exact nst_n o_m o_m o_m o_m⟩, by show (printT l).1.length - (i + 1) < (printT l).1.length - i; omega, .cons rfl (.cons rfl (.cons rfl .nil)), a_g, fun _ h => h⟩
     ·have h4n := r_f h4
      refine c_exit rfl ?_
      refine c_seq ?_
      obtain rfl : i = (printT l).1.length := by omega
      rw [List.take_length] at hq
      have hb9 : parseT (printT l).1 = (l, 0, 0) ∨ ((parseT (printT l).1).2.2 = 12 ∧ 20 < m) ∨ ((parseT (printT l).1).2.2 = 12 ∧ ¬ 20 < m ∧ 0 < signsT (printT l).1) := by
       have hz9 : printT l = ((printT l).1, 0) := Prod.ext rfl (by show _ = (0 : Int); omega)
       rcases back_main hz9 o_m with h | ⟨h1, h2⟩
       ·exact .inl h
       ·rw [hq] at h2
        by_cases h3 : 20 < m
        ·exact .inr (.inl ⟨h1, h3⟩)
        ·exact .inr (.inr ⟨h1, h3, h2.resolve_left h3⟩)
      rcases hb9 with hb | ⟨hg, hm⟩ | ⟨hg, hm, hs⟩
      ·refine c_region ?_
       refine RL ?_
       refine l_sure true rfl rfl rfl (by rw [hb]; rfl) ?_
       iterate 3 refine RL ?_
       refine l_x (x_val call_14 rfl (fun w hw => same_yes (parseT (printT l).1).1 l (by rw [hb]) aP31 a cP31 cp (Nat.le_trans (parse_len _) (by decide)) w (vec_els hV31 (fun x hx => by repeat (first | exact hx | exact List.mem_append_left _ hx | refine List.mem_append_right _ ?_ | refine .tail _ ?_)) hw) (hE.later0 hw))) rfl rfl ?_
       rintro _ _ ⟨rfl, rfl⟩
       refine RL ?_
       refine RL ?_
       iterate 11 refine RLp ?_
       refine RL ?_
       refine RL ?_
       refine l_nil ?_
       refine c_ret ?_
       exact l_end (fun _ _ => rets_v rfl) (List.nil_sublist _) ⟨by trivial, rfl⟩
      ·refine c_region ?_
       refine RL ?_
       refine l_sure false rfl rfl rfl (by rw [hg]; rfl) ?_
       refine RL ?_
       iterate 3 refine RLp ?_
       iterate 3 refine RL ?_
       refine l_sure true rfl rfl rfl (by rw [hg]; rfl) ?_
       refine RL ?_
       refine RL ?_
       refine l_sure true rfl rfl rfl (decide_eq_true o_m) ?_
       refine RL ?_
       iterate 3 refine RLp ?_
       iterate 4 refine RL ?_
       refine l_nil ?_
       refine c_ret ?_
       exact l_end (fun _ _ => rets_v rfl) (List.nil_sublist _) ⟨by trivial, rfl⟩
      ·refine c_region ?_
       refine RL ?_
       refine l_sure false rfl rfl rfl (by rw [hg]; rfl) ?_
       refine RL ?_
       iterate 3 refine RLp ?_
       iterate 3 refine RL ?_
       refine l_sure true rfl rfl rfl (by rw [hg]; rfl) ?_
       refine RL ?_
       refine RL ?_
       refine l_sure false rfl rfl rfl (decide_eq_false o_m) ?_
       refine RL ?_
       refine RL ?_
       refine RLv call_15 (fun w hw => signsLaw_fn (printT l).1 o_m w) ?_
       refine l_sure true rfl rfl rfl (decide_eq_true o_m) ?_
       iterate 4 refine RL ?_
       refine l_nil ?_
       refine c_ret ?_
       exact l_end (fun _ _ => rets_v rfl) (List.nil_sublist _) ⟨by trivial, rfl⟩

end Go.Proofs.YtiadmbhafplepaaDoor
namespace Go.Proofs.YtiadmbhafplepaaDoor
open Go Go.VV

theorem said_cases (op n : Int) (xs : List Tx) :
    (op = 1 ∧ 0 ≤ n ∧ n ≤ 2147483647 ∧ saidT ⟨op, n⟩ xs = some (decT n.toNat, 0)) ∨ (op = 2 ∧ 0 ≤ n ∧ n ≤ 17 ∧ saidT ⟨op, n⟩ xs = some (nms.getD n.toNat [], 0)) ∨
    (op = 3 ∧ n = 0 ∧ 0 < xs.length ∧ saidT ⟨op, n⟩ xs = some ([91] ++ xs.getD (xs.length - 1) [] ++ [93], 1)) ∨
    ((4 ≤ op ∧ op ≤ 6) ∧ n = 0 ∧ 0 < xs.length ∧ saidT ⟨op, n⟩ xs = some ([preC (op - 4).toNat] ++ xs.getD (xs.length - 1) [], 1)) ∨
    ((7 ≤ op ∧ op ≤ 24) ∧ n = 0 ∧ 1 < xs.length ∧ saidT ⟨op, n⟩ xs = some ([40] ++ xs.getD (xs.length - 2) [] ++ [32] ++ wordT op ++ [32] ++ xs.getD (xs.length - 1) [] ++ [41], 2)) ∨
    (saidT ⟨op, n⟩ xs = none ∧ ((op = 1 ∧ n < 0) ∨ (op = 1 ∧ 0 ≤ n ∧ 2147483647 < n) ∨ (op = 2 ∧ n < 0) ∨ (op = 2 ∧ 0 ≤ n ∧ 17 < n) ∨ (op = 3 ∧ n ≠ 0) ∨ (op = 3 ∧ n = 0 ∧ xs.length = 0) ∨
      ((4 ≤ op ∧ op ≤ 6) ∧ n ≠ 0) ∨ ((4 ≤ op ∧ op ≤ 6) ∧ n = 0 ∧ xs.length = 0) ∨ ((7 ≤ op ∧ op ≤ 24) ∧ n ≠ 0) ∨ ((7 ≤ op ∧ op ≤ 24) ∧ n = 0 ∧ xs.length ≤ 1) ∨ op < 1 ∨ 24 < op)) := by
  rw [saidT_eq]
  by_cases h1 : op = 1
  · rw [if_pos h1]
    by_cases h2 : 0 ≤ n ∧ n ≤ 2147483647
    · rw [if_pos h2]; exact .inl ⟨h1, h2.1, h2.2, rfl⟩
    · rw [if_neg h2]; exact .inr (.inr (.inr (.inr (.inr ⟨rfl, by omega⟩))))
  rw [if_neg h1]
  by_cases h2 : op = 2
  · rw [if_pos h2]
    by_cases h3 : 0 ≤ n ∧ n < 18
    · rw [if_pos h3]; exact .inr (.inl ⟨h2, h3.1, by omega, rfl⟩)
    · rw [if_neg h3]; exact .inr (.inr (.inr (.inr (.inr ⟨rfl, by omega⟩))))
  rw [if_neg h2]
  by_cases h3 : n ≠ 0 ∨ xs.length < 1
  · rw [if_pos h3]; exact .inr (.inr (.inr (.inr (.inr ⟨rfl, by omega⟩))))
  rw [if_neg h3]
  by_cases h4 : op = 3
  · rw [if_pos h4]; exact .inr (.inr (.inl ⟨h4, by omega, by omega, rfl⟩))
  rw [if_neg h4]
  by_cases h5 : 4 ≤ op ∧ op ≤ 6
  · rw [if_pos h5]; exact .inr (.inr (.inr (.inl ⟨h5, by omega, by omega, rfl⟩)))
  rw [if_neg h5]
  by_cases h6 : 7 ≤ op ∧ op ≤ 24 ∧ 1 < xs.length
  · rw [if_pos h6]; exact .inr (.inr (.inr (.inr (.inl ⟨⟨h6.1, h6.2.1⟩, by omega, h6.2.2, rfl⟩))))
  · rw [if_neg h6]
    refine .inr (.inr (.inr (.inr (.inr ⟨rfl, .inr (.inr (.inr (.inr (.inr (.inr (.inr (.inr (.inr ?_))))))))⟩))))
    rcases (show op < 1 ∨ 24 < op ∨ (7 ≤ op ∧ op ≤ 24) by omega) with h | h | h
    · exact .inr (.inl h)
    · exact .inr (.inr h)
    · exact .inl ⟨h, by omega, by omega⟩
theorem ones_strV (xs : List Tx) : ones (xs.map strV) = true := by
  unfold ones
  rw [List.all_eq_true]
  intro v hv
  obtain ⟨x, _, rfl⟩ := List.mem_map.1 hv
  rfl
theorem stack_row {T b j : Nat} {xs : List Tx} {sp : List Value} {w0 w : World} {ms : List Nat} {H : Heap} (hj : j ≤ xs.length) (hm : (b, blk (xs.map strV ++ sp) T) ∈ H) (hw : St w0 ms H w) : Row w b 0 ((xs.take j).map strV) := fun i v hv => by
  refine row_own hm w hw i v ?_
  rw [List.getElem?_map, List.getElem?_take] at hv
  split at hv
  · rw [List.getElem?_append_left (by rw [List.length_map]; omega), List.getElem?_map]; exact hv
  · cases hv
theorem stack_at {b j : Nat} {xs : List Tx} {sp : List Value} {w0 w : World} {ms : List Nat} {H : Heap} {T : Nat} (hj : j < xs.length) (hm : (b, blk (xs.map strV ++ sp) T) ∈ H) (hw : St w0 ms H w) : w.cell? ⟨b, 0 + j, none⟩ = some (.string (bs (xs.getD j []))) := by
  refine row_own hm w hw j _ ?_
  rw [List.getElem?_append_left (by rw [List.length_map]; omega)]
  exact strV_at hj
end Go.Proofs.YtiadmbhafplepaaDoor
