/- Four voices: switched. -/
import Derived.Test.YtldehodcfajpjaaGreatQcE
import Derived.Test.YtldehodcfajpjaaGreatQcL
set_option linter.unusedSimpArgs false
set_option linter.unusedVariables false
set_option maxRecDepth 100000
namespace Go.Proofs.YtldehodcfajpjaaGreat
open Go Go.VV Go.Proofs Go.RowKit
theorem mores_fn (b : Nat) (s m h day sub : Int) (halt carry : Bool) (d0 d1 d2 d3 d4 : Int) (k : 0 ≤ s ∧ s < 256) (w : World) (hst : St w [b] [(b, blk [.int .u8 s, .int .u8 m, .int .u8 h, .int .i64 day, .int .i64 sub, .bool halt, .bool carry, .int .u8 d0, .int .u8 d1, .int .u8 d2, .int .u8 d3, .int .u8 d4] 123)] w) : Does Tryz.prog 370 [.pointer (some ⟨b, 0, none⟩), .int .u8 63, .int .u8 60] w [b] (fun v H => v = .bool (decide ((s + 1) % 64 = 60)) ∧ H = [(b, blk [.int .u8 (if (s + 1) % 64 = 60 then 0 else (s + 1) % 64), .int .u8 m, .int .u8 h, .int .i64 day, .int .i64 sub, .bool halt, .bool carry, .int .u8 d0, .int .u8 d1, .int .u8 d2, .int .u8 d3, .int .u8 d4] 123)]) := by
 refine does_of Tryz.func370 rfl rfl rfl hst ?_
 refine ZAa ?_
 refine ZBl ?_
 refine ZCs ?_
 refine Rl ?_
 refine RW (v := (.int .u8 ((s + 1) % 64))) (l_and rfl rfl) rfl (congrArg (Value.int .u8) (byte_all (p := fun x => band .u8 ((x + 1) % 256) 63 = (x + 1) % 64) y_A k.1 k.2)) ?_
 refine Rl ?_
 refine ZAO ?_
 refine ZAG ?_
 refine L_5 ?_
 exact ZBC
theorem morem_fn (b : Nat) (s m h day sub : Int) (halt carry : Bool) (d0 d1 d2 d3 d4 : Int) (k : 0 ≤ m ∧ m < 256) (w : World) (hst : St w [b] [(b, blk [.int .u8 s, .int .u8 m, .int .u8 h, .int .i64 day, .int .i64 sub, .bool halt, .bool carry, .int .u8 d0, .int .u8 d1, .int .u8 d2, .int .u8 d3, .int .u8 d4] 123)] w) : Does Tryz.prog 370 [.pointer (some ⟨b, 1, none⟩), .int .u8 63, .int .u8 60] w [b] (fun v H => v = .bool (decide ((m + 1) % 64 = 60)) ∧ H = [(b, blk [.int .u8 s, .int .u8 (if (m + 1) % 64 = 60 then 0 else (m + 1) % 64), .int .u8 h, .int .i64 day, .int .i64 sub, .bool halt, .bool carry, .int .u8 d0, .int .u8 d1, .int .u8 d2, .int .u8 d3, .int .u8 d4] 123)]) := by
 refine does_of Tryz.func370 rfl rfl rfl hst ?_
 refine ZAa ?_
 refine ZBl ?_
 refine ZCs ?_
 refine Rl ?_
 refine RW (v := (.int .u8 ((m + 1) % 64))) (l_and rfl rfl) rfl (congrArg (Value.int .u8) (byte_all (p := fun x => band .u8 ((x + 1) % 256) 63 = (x + 1) % 64) y_A k.1 k.2)) ?_
 refine Rl ?_
 refine ZAO ?_
 refine ZAG ?_
 refine L_5 ?_
 exact ZBC
theorem moreh_fn (b : Nat) (s m h day sub : Int) (halt carry : Bool) (d0 d1 d2 d3 d4 : Int) (k : 0 ≤ h ∧ h < 256) (w : World) (hst : St w [b] [(b, blk [.int .u8 s, .int .u8 m, .int .u8 h, .int .i64 day, .int .i64 sub, .bool halt, .bool carry, .int .u8 d0, .int .u8 d1, .int .u8 d2, .int .u8 d3, .int .u8 d4] 123)] w) : Does Tryz.prog 370 [.pointer (some ⟨b, 2, none⟩), .int .u8 31, .int .u8 24] w [b] (fun v H => v = .bool (decide ((h + 1) % 32 = 24)) ∧ H = [(b, blk [.int .u8 s, .int .u8 m, .int .u8 (if (h + 1) % 32 = 24 then 0 else (h + 1) % 32), .int .i64 day, .int .i64 sub, .bool halt, .bool carry, .int .u8 d0, .int .u8 d1, .int .u8 d2, .int .u8 d3, .int .u8 d4] 123)]) := by
 refine does_of Tryz.func370 rfl rfl rfl hst ?_
 refine ZAa ?_
 refine ZBl ?_
 refine ZCs ?_
 refine Rl ?_
 refine RW (v := (.int .u8 ((h + 1) % 32))) (l_and rfl rfl) rfl (congrArg (Value.int .u8) (byte_all (p := fun x => band .u8 ((x + 1) % 256) 31 = (x + 1) % 32) y_A k.1 k.2)) ?_
 refine Rl ?_
 refine ZAO ?_
 refine ZAG ?_
 refine L_5 ?_
 exact ZBC
theorem second_fn (b : Nat) (c : Ck) (hc : c.Fo) (w : World) (hst : St w [b] [(b, blk (cCk c) 123)] w) : Does Tryz.prog 358 [.pointer (some ⟨b, 0, none⟩)] w [b] (fun v H => v = .tuple #[] ∧ H = [(b, blk (cCk (secCk c)) 123)]) := by
 obtain ⟨s, m, h, day, sub, halt, carry, d0, d1, d2, d3, d4⟩ := c
 obtain ⟨k1, k2, k3, k4, k5⟩ := hc
 dsimp only at k1 k2 k3 k4
 refine does_of Tryz.func358 rfl rfl rfl hst ?_
 refine ZD6 ?_
 refine RZ (x_callA call_370 rfl (fun w hw => mores_fn b s m h day sub halt carry d0 d1 d2 d3 d4 k1 w (St.lentA hw))) rfl ?_
 refine Rl ?_
 refine KL (fun q0 q0n => ?_) (fun q0 q0n => ?_)
 ·refine L_13 ?_
  refine ZAj ?_
  refine c_ret ?_
  have e1 : ¬ (s + 1) % 64 = 60 := by simpa using q0
  exact EN (List.Sublist.refl _) ⟨rfl, by unfold secCk dayCk; simp only [e1, ne_eq, not_true_eq_false, not_false_eq_true, if_true, if_false]; rfl⟩
 ·refine L_3 ?_
  refine RZ (x_callA call_370 rfl (fun w hw => morem_fn b (if (s + 1) % 64 = 60 then 0 else (s + 1) % 64) m h day sub halt carry d0 d1 d2 d3 d4 k2 w (St.lentA hw))) rfl ?_
  refine L_2 ?_
  refine KL (fun q1 q1n => ?_) (fun q1 q1n => ?_)
  ·refine L_6 ?_
   refine ZAj ?_
   refine c_ret ?_
   have e1 : (s + 1) % 64 = 60 := by simpa using q0
   have e2 : ¬ (m + 1) % 64 = 60 := by simpa using q1
   exact EN (List.Sublist.refl _) ⟨rfl, by unfold secCk dayCk; simp only [e1, e2, ne_eq, not_true_eq_false, not_false_eq_true, if_true, if_false]; rfl⟩
  ·refine L_3 ?_
   refine RZ (x_callA call_370 rfl (fun w hw => moreh_fn b (if (s + 1) % 64 = 60 then 0 else (s + 1) % 64) (if (m + 1) % 64 = 60 then 0 else (m + 1) % 64) h day sub halt carry d0 d1 d2 d3 d4 k3 w (St.lentA hw))) rfl ?_
   refine ZAE ?_
   refine KC (fun q2 q2n => ?_) (fun q2 q2n => ?_)
   ·refine c_ret ?_
    have e1 : (s + 1) % 64 = 60 := by simpa using q0
    have e2 : (m + 1) % 64 = 60 := by simpa using q1
    have e3 : ¬ (h + 1) % 32 = 24 := by simpa using q2
    exact EN (List.Sublist.refl _) ⟨rfl, by unfold secCk dayCk; simp only [e1, e2, e3, ne_eq, not_true_eq_false, not_false_eq_true, if_true, if_false]; rfl⟩
   ·refine ZAx ?_
    refine ZBl ?_
    refine ZBd ?_
    refine L_2 ?_
    refine ZAO ?_
    refine ZDU ?_
    refine ZAb ?_
    refine KC (fun q3 q3n => ?_) (fun q3 q3n => ?_)
    ·refine ZBj ?_
     refine RZ s_t rfl ?_
     refine L_2 ?_
     refine ZAO ?_
     have e1 : (s + 1) % 64 = 60 := by simpa using q0
     have e2 : (m + 1) % 64 = 60 := by simpa using q1
     have e3 : (h + 1) % 32 = 24 := by simpa using q2
     have e4 := q3n
     exact EN (List.Sublist.refl _) ⟨rfl, y_co⟩
    ·refine ZAx ?_
     have e1 : (s + 1) % 64 = 60 := by simpa using q0
     have e2 : (m + 1) % 64 = 60 := by simpa using q1
     have e3 : (h + 1) % 32 = 24 := by simpa using q2
     have e4 := q3n
     exact EN (List.Sublist.refl _) ⟨rfl, y_co⟩
theorem tickCk_fn (c : Ck) (hc : c.Ok) (w : World) : Does Tryz.prog 347 [.agg (cCk c).toArray, .int .i64 1] w [] (fun v H => H = [] ∧ v = .agg (cCk (tickCk c)).toArray) := by
 obtain ⟨s, m, h, day, sub, halt, carry, d0, d1, d2, d3, d4⟩ := c
 obtain ⟨⟨k1, k2, k3, k4, k5⟩, k6⟩ := hc
 dsimp only at k1 k2 k3 k4 k6
 have hf9 : (⟨s, m, h, day, sub + 1, halt, carry, d0, d1, d2, d3, d4⟩ : Ck).Fo := ⟨k1, k2, k3, k4, k5⟩
 have hsub9 : ∀ k : Nat, (secsCk (⟨s, m, h, day, sub + 1, halt, carry, d0, d1, d2, d3, d4⟩ : Ck) k).sub = sub + 1 - 1048576 * k := fun k => secsCk_sub _ k
 refine does_of Tryz.func347 rfl rfl rfl (St.refl w) ?_
 refine ZAA ?_
 refine ZBY fun b0 => ?_
 refine ZAq fun b1 => ?_
 refine ZAb ?_
 refine ZCd ?_
 refine KL (fun q0 q0n => ?_) (fun q0 q0n => ?_)
 ·refine L_3 ?_
  refine ZAj ?_
  refine ZCa ?_
  refine ZA4 ?_
  obtain rfl := q0
  exact l_end0 (fun w hw => rets_cell rfl rfl rfl (row_own (b := b1) m_m w hw)) ⟨rfl, by unfold tickCk; rw [if_pos rfl]; rfl⟩
 ·refine L_2 ?_
  refine ZDh ?_
  refine ZA6 ?_
  refine RY (light_min rfl rfl) rfl ?_
  refine ZBd ?_
  refine ZBp ?_
  refine ZAQ ?_
  refine c_loop (σ := Nat) [18, 19, 20, 21, 22, 23, 24, 25] (fun _ => []) (fun k => [(b1, blk [.int .u8 0, .int .u8 0, .int .u8 0, .int .i64 0, .int .i64 0, .bool false, .bool false, .int .u8 0, .int .u8 0, .int .u8 0, .int .u8 0, .int .u8 0] 123), (b0, blk (cCk (secsCk (⟨s, m, h, day, sub + 1, halt, carry, d0, d1, d2, d3, d4⟩ : Ck) k)) 123)]) (fun k => 1048576 * (k : Int) ≤ sub + 1) (fun k => ((sub + 1) / 1048576).toNat - k) 0 ?_ ?_ ?_ ?_
  ·show (1048576 : Int) * (0 : Nat) ≤ sub + 1; omega
  ·exact .nil
  ·exact fun _ h => h
  ·rintro k y4 hk
   dsimp only at hk ⊢
   have hs9 := hsub9 k
   refine ZAG ?_
   refine RLa ?_
   refine RZ (x_load rfl rfl (at_own (v := .int .i64 (secsCk (⟨s, m, h, day, sub + 1, halt, carry, d0, d1, d2, d3, d4⟩ : Ck) k).sub) m_m rfl)) rfl ?_
   refine ZAB ?_
   refine KC (fun q1 q1n => ?_) (fun q1 q1n => ?_)
   ·refine ZAx ?_
    refine c_block ?_
    refine ZAU ?_
    refine ZCV ?_
    refine ZBp ?_
    refine ZAP ?_
    refine RX (x_callT (F := [(b1, _)]) (A := [(b0, _)]) call_358 rfl (fun w hw => second_fn b0 { secsCk (⟨s, m, h, day, sub + 1, halt, carry, d0, d1, d2, d3, d4⟩ : Ck) k with sub := (secsCk (⟨s, m, h, day, sub + 1, halt, carry, d0, d1, d2, d3, d4⟩ : Ck) k).sub - 1048576 } ((hf9.secs k).sub_ _) w (St.lentV hw))) rfl ?_
    refine ZCN ?_
    refine ZAb ?_
    exact ⟨k + 1, y_D, y_D, .nil, a_g, fun _ h => h.as (by rw [secsCk_next]; rfl)⟩
   ·refine ZBa ?_
    refine ZCa ?_
    refine ZA4 ?_
    obtain rfl := q0
    exact l_end0 (fun w hw => rets_cell rfl rfl rfl (row_own (b := b1) m_m w hw)) ⟨rfl, by unfold tickCk; rw [if_neg Bool.false_ne_true]; dsimp only; rw [show ((sub + 1) / 1048576).toNat = k by omega]; rfl⟩
theorem bitCk_fn (n : Int) (x : Bool) (hn : n = 6 ∨ n = 7) (w : World) : Does Tryz.prog 371 [.int .i64 n, .bool x] w [] (fun v H => H = [] ∧ v = .int .u8 (bitCk x (if n = 6 then 64 else 128))) := by
 refine does_of Tryz.func371 rfl rfl rfl (St.refl w) ?_
 refine ZAa ?_
 refine ZAG ?_
 refine ZAB ?_
 refine KC (fun q0 q0n => ?_) (fun q0 q0n => ?_)
 ·refine ZA0 ?_
  rcases hn with rfl | rfl
  ·refine ZAZ ?_
   refine RY (shl_pos rfl rfl o_m) rfl ?_
   refine ZAI ?_
   exact E0 rfl ⟨rfl, (by unfold bitCk; rw [if_pos q0]; rfl)⟩
  ·refine ZAZ ?_
   refine RY (shl_pos rfl rfl o_m) rfl ?_
   refine ZAI ?_
   exact E0 rfl ⟨rfl, (by unfold bitCk; rw [if_pos q0]; rfl)⟩
 ·refine ZAx ?_
  refine ZAY ?_
  exact E0 rfl ⟨rfl, (by unfold bitCk; rw [if_neg (by rw [q0]; decide)])⟩
theorem holdCk_fn (c : Ck) (hc : c.Ok) (w : World) : Does Tryz.prog 359 [.agg (cCk c).toArray] w [] (fun v H => H = [] ∧ v = .agg (cCk (holdCk c)).toArray) := by
 obtain ⟨s, m, h, day, sub, halt, carry, d0, d1, d2, d3, d4⟩ := c
 obtain ⟨⟨k1, k2, k3, k4, k5⟩, k6⟩ := hc
 dsimp only at k1 k2 k3 k4 k6
 refine does_of Tryz.func359 rfl rfl rfl (St.refl w) ?_
 refine ZAA ?_
 refine ZBY fun b0 => ?_
 refine ZAq fun b1 => ?_
 refine ZAb ?_
 refine ZA0 ?_
 refine DR [2, 3, 4, 5, 6, 7, 8, 9, 10, 11, 12, 13, 14, 15, 16, 17, 18, 19, 20, 21] (pln [0, 2, 4, 6, 8, 10, 12, 14, 16, 18, 20, 22, 24, 26, 28, 30, 36, 38, 33, 34, 41, 42, 44, 46, 49]) ?_
 refine D_8 ?_
 refine ZCJ ?_
 refine D_2 ?_
 refine ZEN ?_
 refine DW rfl (l_and rfl rfl) rfl y_dW ?_
 refine D_4 ?_
 refine DZ rfl (x_val call_371 rfl (fun w hw => bitCk_fn 6 halt y_c w)) rfl y_b ?_
 refine DY rfl (l_or rfl rfl) rfl ?_
 refine DZ rfl (x_val call_371 rfl (fun w hw => bitCk_fn 7 carry y_c w)) rfl y_b ?_
 refine DW (v := (.int .u8 (day / 256 % 2 + bitCk halt 64 + bitCk carry 128))) rfl (l_or rfl rfl) rfl (congrArg (Value.int .u8) ((congrArg (fun z => bor .u8 (bor .u8 z (bitCk halt 64)) (bitCk carry 128)) (show day / 256 % 256 % 2 = day / 256 % 2 by omega)).trans (bits_law o_m halt carry))) ?_
 refine DY rfl (light_array (l := [.int .u8 s, .int .u8 m, .int .u8 h, .int .u8 (day % 256), .int .u8 (day / 256 % 2 + bitCk halt 64 + bitCk carry 128)]) (z := [.int .u8 0, .int .u8 0, .int .u8 0, .int .u8 0, .int .u8 0]) (ps := [(0, .int .u8 s), (1, .int .u8 m), (2, .int .u8 h), (3, .int .u8 (day % 256)), (4, .int .u8 (day / 256 % 2 + bitCk halt 64 + bitCk carry 128))]) rfl rfl rfl rfl) rfl ?_
 refine RDa ?_
 refine DZ rfl s_t rfl n_h ?_
 refine ZEb ?_
 refine ZCa ?_
 exact ZCm
theorem readCk_fn (c : Ck) (hc : c.Ok) (n : Int) (w : World) : Does Tryz.prog 127 [.agg (cCk c).toArray, .int .i64 n] w [] (fun v H => H = [] ∧ v = .int .u8 (readCk n c)) := by
 obtain ⟨s, m, h, day, sub, halt, carry, d0, d1, d2, d3, d4⟩ := c
 obtain ⟨⟨k1, k2, k3, k4, k5⟩, k6⟩ := hc
 dsimp only at k1 k2 k3 k4 k6
 refine does_of Tryz.func127 rfl rfl rfl (St.refl w) ?_
 refine ZAA ?_
 refine ZBY fun b0 => ?_
 refine ZAB ?_
 refine ZCd ?_
 refine KL (fun q0 q0n => ?_) (fun q0 q0n => ?_)
 ·refine L_3 ?_
  refine ZAj ?_
  refine ZAY ?_
  exact E0 rfl ⟨rfl, (by unfold readCk; rw [if_pos o_m])⟩
 ·refine ZAR ?_
  refine KC (fun q1 q1n => ?_) (fun q1 q1n => ?_)
  ·refine ZAY ?_
   exact E0 rfl ⟨rfl, (by unfold readCk; rw [if_pos o_m])⟩
  ·refine ZAx ?_
   refine ZA0 ?_
   rcases (show n = 0 ∨ n = 1 ∨ n = 2 ∨ n = 3 ∨ n = 4 by omega) with rfl | rfl | rfl | rfl | rfl
   ·refine ZAo ?_
    refine RY (idx_array1 0 rfl rfl rfl rfl y_c) rfl ?_
    exact ZBM
   ·refine ZAo ?_
    refine RY (idx_array1 1 rfl rfl rfl rfl y_c) rfl ?_
    exact ZBM
   ·refine ZAo ?_
    refine RY (idx_array1 2 rfl rfl rfl rfl y_c) rfl ?_
    exact ZBM
   ·refine ZAo ?_
    refine RY (idx_array1 3 rfl rfl rfl rfl y_c) rfl ?_
    exact ZBM
   ·refine ZAo ?_
    refine RY (idx_array1 4 rfl rfl rfl rfl y_c) rfl ?_
    exact ZBM
theorem writeCk_fn (c : Ck) (hc : c.Ok) (n x : Int) (hx : 0 ≤ x ∧ x < 256) (w : World) : Does Tryz.prog 312 [.agg (cCk c).toArray, .int .i64 n, .int .u8 x] w [] (fun v H => H = [] ∧ v = .agg (cCk (writeCk n x c)).toArray) := by
 obtain ⟨s, m, h, day, sub, halt, carry, d0, d1, d2, d3, d4⟩ := c
 obtain ⟨⟨k1, k2, k3, k4, k5⟩, k6⟩ := hc
 dsimp only at k1 k2 k3 k4 k6
 refine does_of Tryz.func312 rfl rfl rfl (St.refl w) ?_
 refine ZAA ?_
 refine ZBY fun b0 => ?_
 refine ZAq fun b1 => ?_
 refine ZAb ?_
 refine ZAG ?_
 refine ZBO ?_
 refine ZAS ?_
 refine KC (fun q0 q0n => ?_) (fun q0 q0n => ?_)
 ·refine ZAZ ?_
  refine RW (l_and rfl rfl) rfl y_ep ?_
  refine RLa ?_
  refine RZ s_t rfl ?_
  refine ZBp ?_
  refine ZCa ?_
  exact ZBk
 ·refine ZAS ?_
  refine KC (fun q1 q1n => ?_) (fun q1 q1n => ?_)
  ·refine ZAZ ?_
   refine RW (l_and rfl rfl) rfl y_ep ?_
   refine ZBp ?_
   refine ZCa ?_
   exact ZBk
  ·refine ZAS ?_
   refine KC (fun q2 q2n => ?_) (fun q2 q2n => ?_)
   ·refine ZAZ ?_
    refine RW (l_and rfl rfl) rfl y_eq ?_
    refine ZBp ?_
    refine ZCa ?_
    exact ZBk
   ·refine ZAS ?_
    refine KC (fun q3 q3n => ?_) (fun q3 q3n => ?_)
    ·refine ZAo ?_
     refine RW (v := (.int .i64 (day / 256 * 256))) (l_andn rfl rfl) rfl (congrArg (Value.int .i64) (bandn_hi (n := day) o_m o_m)) ?_
     refine ZEu ?_
     refine RW (v := (.int .i64 (day / 256 * 256 + x))) (l_or rfl rfl) rfl (congrArg (Value.int .i64) (bor_join (A := day / 256 * 256) o_m o_m o_m hx)) ?_
     refine ZBp ?_
     refine ZCa ?_
     exact ZBk
    ·refine ZAS ?_
     refine KC (fun q4 q4n => ?_) (fun q4 q4n => ?_)
     ·refine ZAU ?_
      refine RW (v := (.int .i64 (day % 256))) (l_and rfl rfl) rfl (congrArg (Value.int .i64) (band_255 day)) ?_
      refine Rl ?_
      refine RW (l_and rfl rfl) rfl y_dW ?_
      refine ZAw ?_
      refine RW (shl_pos rfl rfl y_c) rfl y_d2 ?_
      refine RW (v := (.int .i64 (day % 256 + x % 2 * 256))) (l_or rfl rfl) rfl (congrArg (Value.int .i64) (bor_join' (A := x % 2 * 256) o_m o_m o_m o_m)) ?_
      refine ZBp ?_
      refine ZAZ ?_
      refine RW (l_and rfl rfl) rfl y_eb ?_
      refine RW (v := (.bool (decide (x / 64 % 2 = 1)))) rfl rfl (congrArg Value.bool y_bV) ?_
      refine Rl ?_
      refine RW (l_and rfl rfl) rfl y_dV ?_
      refine RW (v := (.bool (decide (x / 128 = 1)))) rfl rfl (congrArg Value.bool y_bV) ?_
      refine RLa ?_
      refine RZ s_t rfl ?_
      refine ZBp ?_
      refine ZCa ?_
      exact ZBk
     ·refine ZAx ?_
      refine ZCa ?_
      exact ZBk
theorem everyB_fn (b : Nat) (B : Bd) (hB : B.Ln) (w : World) (hr : Row w b 0 (cBd B)) : Does Tryz.prog 329 [.pointer (some ⟨b, 0, none⟩)] w [] (fun v H => H = [] ∧ v = .int .i64 (everyB B)) := by
 have q0 := hB.r_ 0
 refine does_of Tryz.func329 rfl rfl rfl (St.refl w) ?_
 refine ZAa ?_
 refine ZA6 ?_
 refine ZEY ?_
 refine RW (shr_pos rfl rfl y_c) rfl (as_shr 16 y_c y_c) ?_
 refine RW (l_and rfl rfl) rfl y_dR ?_
 refine ZAw ?_
 exact ZBU
theorem byB_fn (b : Nat) (B : Bd) (hB : B.Ln) (w : World) (hr : Row w b 0 (cBd B)) : Does Tryz.prog 330 [.pointer (some ⟨b, 0, none⟩)] w [] (fun v H => H = [] ∧ v = .int .i64 (byB B)) := by
 have q0 := hB.r_ 0
 refine does_of Tryz.func330 rfl rfl rfl (St.refl w) ?_
 refine ZAa ?_
 refine ZA6 ?_
 refine ZEY ?_
 refine RW (l_and rfl rfl) rfl y_dR ?_
 refine ZAw ?_
 exact ZBU
theorem readyB_fn (b : Nat) (B : Bd) (hB : B.Ln) (w : World) (hr : Row w b 0 (cBd B)) (n : Nat) (hn : n < 4) : Does Tryz.prog 327 [.pointer (some ⟨b, 0, none⟩), .int .i64 n] w [] (fun v H => H = [] ∧ v = .bool (readyB n B)) := by
 have q0 := hB.r_ (5 * n)
 have q1 := hB.r_ (5 * n + 2)
 refine does_of Tryz.func327 rfl rfl rfl (St.refl w) ?_
 refine ZAa ?_
 refine ZAz ?_
 refine KC (fun q0 q0n => ?_) (fun q0 q0n => ?_)
 ·refine ZAU ?_
  refine ZCt ?_
  refine L_2 ?_
  refine RY (idx_array1 (5 * n) rfl rfl rfl o_m o_m) rfl ?_
  refine RZ (x_load rfl rfl (at_old (hr _ _ (cBd_r hB (j := 5 * n) o_m)) y_z)) rfl ?_
  refine RW (l_and rfl rfl) rfl y_dV ?_
  refine ZAs ?_
  obtain rfl : n = 2 := by omega
  have q2 : B.r (5 * 2) = B.r 10 := rfl
  exact E0 rfl ⟨rfl, (congrArg Value.bool (by unfold readyB; rw [if_pos o_m, Bool.eq_iff_iff]; simp only [bne_iff_ne, decide_eq_true_eq, ne_eq]; omega))⟩
 ·refine ZAx ?_
  refine ZAU ?_
  refine ZCt ?_
  refine ZBd ?_
  refine L_2 ?_
  refine RY (idx_array1 (5 * n + 2) rfl rfl rfl o_m o_m) rfl ?_
  refine RZ (x_load rfl rfl (at_old (hr _ _ (cBd_r hB (j := 5 * n + 2) o_m)) y_z)) rfl ?_
  refine RW (v := (.int .u8 (B.r (5 * n + 2) / 8 * 8))) (l_and rfl rfl) rfl (congrArg (Value.int .u8) (hi5_law q1)) ?_
  refine ZAs ?_
  exact E0 rfl ⟨rfl, (congrArg Value.bool (by unfold readyB; rw [if_neg o_m, Bool.eq_iff_iff]; simp only [bne_iff_ne, decide_eq_true_eq, ne_eq]; omega))⟩
theorem nextB_fn (b : Nat) (B : Bd) (hB : B.Wf) (w : World) (hr : Row w b 0 (cBd B)) : Does Tryz.prog 332 [.pointer (some ⟨b, 0, none⟩)] w [] (fun v H => H = [] ∧ v = .int .i64 (nextB B)) := by
 have q0 := hB.r_ 0
 have q1 := hB.pitch
 have q2 := by_ok B
 have q3 := shr_pos_le q1.1 (byB B).toNat
 refine does_of Tryz.func332 rfl rfl rfl (St.refl w) ?_
 refine ZCI ?_
 refine DR [4, 5] (pln [0, 2, 4, 6, 8, 11, 12, 14]) ?_
 refine D_3 ?_
 refine DL rfl rfl rfl (s_old (hr _ _ (cBd_pitch hB)) y_z) rfl ?_
 refine RD ?_
 refine DZ rfl (x_val call_330 rfl (fun w hw => byB_fn b B hB w (row_old hr y_z w hw))) rfl y_b ?_
 refine DW (v := (.int .i64 (B.pitch / 2 ^ (byB B).toNat))) rfl (shr_pos rfl rfl q2.1) rfl (congrArg (Value.int .i64) (shr_by q2 q1.1)) ?_
 refine ZC9 ?_
 refine ZD6 ?_
 refine ZEY ?_
 refine RW (l_and rfl rfl) rfl y_es ?_
 refine ZAB ?_
 refine KC (fun q1 q1n => ?_) (fun q1 q1n => ?_)
 ·refine ZAZ ?_
  refine RW (v := (.int .i64 (0 - (B.pitch / 2 ^ (byB B).toNat)))) rfl rfl (congrArg (Value.int .i64) (wrap_i64 (n := 0 - (B.pitch / 2 ^ (byB B).toNat)) o_m o_m)) ?_
  refine ZAB ?_
  refine ZA6 ?_
  refine RZ (x_load rfl rfl (at_old (hr _ _ (cBd_pitch hB)) y_z)) rfl ?_
  refine Rl ?_
  refine ZBd ?_
  refine ZAI ?_
  exact E0 rfl ⟨rfl, (congrArg (Value.int .i64) (by unfold nextB; rw [if_pos o_m]; first | done | omega))⟩
 ·refine ZAx ?_
  refine ZA6 ?_
  refine RZ (x_load rfl rfl (at_old (hr _ _ (cBd_pitch hB)) y_z)) rfl ?_
  refine Rl ?_
  refine ZBd ?_
  refine ZAI ?_
  exact E0 rfl ⟨rfl, (congrArg (Value.int .i64) (by unfold nextB; rw [if_neg o_m]; first | done | omega))⟩
theorem longest_fn (n : Nat) (w : World) : Does Tryz.prog 325 [.int .i64 n] w [] (fun v H => H = [] ∧ v = .int .i64 (longest n)) := by
 refine does_of Tryz.func325 rfl rfl rfl (St.refl w) ?_
 refine ZAa ?_
 refine ZAz ?_
 refine KC (fun q0 q0n => ?_) (fun q0 q0n => ?_)
 ·refine ZAY ?_
  exact E0 rfl ⟨rfl, (by unfold longest; rw [if_pos o_m])⟩
 ·refine ZAx ?_
  refine ZAY ?_
  exact E0 rfl ⟨rfl, (by unfold longest; rw [if_neg o_m])⟩
theorem waitB_fn (b : Nat) (B : Bd) (hB : B.Ln) (w : World) (hst : St w [b] [(b, blk (cBd B) 131)] w) : Does Tryz.prog 328 [.pointer (some ⟨b, 0, none⟩)] w [b] (fun v H => v = .tuple #[] ∧ H = [(b, blk (cBd (waitB B)) 131)]) := by
 have q0 := every_ok B
 have hW : ({ B with slide := everyB B } : Bd).Ln := hB.slide_ _
 refine does_of Tryz.func328 rfl rfl rfl hst ?_
 refine ZAU ?_
 refine RLv call_329 (fun w hw => everyB_fn b B hB w (row_own m_m w hw)) ?_
 refine L_2 ?_
 refine RZ (x_storeTo (l' := cBd ({ B with slide := everyB B })) 0 rfl rfl rfl rfl rfl rfl y_M (putBd_slide hB _)) rfl ?_
 refine ZAH ?_
 refine ZA6 ?_
 refine RZ (x_load rfl rfl (at_own m_m (by exact cBd_slide hW))) rfl ?_
 refine ZAB ?_
 refine KC (fun q1 q1n => ?_) (fun q1 q1n => ?_)
 ·refine ZB2 ?_
  refine RZ (x_storeTo (l' := cBd ({ B with slide := 8 })) 0 rfl rfl rfl rfl rfl rfl (by rw [cBd_len hW]; simp only [List.length_cons, List.length_nil]; omega) (putBd_slide hW _)) rfl ?_
  refine ZAH ?_
  exact EN (List.Sublist.refl _) ⟨rfl, by unfold waitB; rw [if_pos q1n]⟩
 ·refine ZAx ?_
  exact EN (List.Sublist.refl _) ⟨rfl, by unfold waitB; rw [if_neg q1n]⟩
theorem checkB_fn (b : Nat) (B : Bd) (hB : B.Wf) (w : World) (hst : St w [b] [(b, blk (cBd B) 131)] w) : Does Tryz.prog 331 [.pointer (some ⟨b, 0, none⟩)] w [b] (fun v H => v = .bool (highB B) ∧ H = [(b, blk (cBd (checkB B)) 131)]) := by
 refine does_of Tryz.func331 rfl rfl rfl hst ?_
 refine ZAa ?_
 refine ZAV ?_
 refine RLv call_332 (fun w hw => nextB_fn b B hB w (row_own m_m w hw)) ?_
 refine ZAE ?_
 refine ZAG ?_
 refine ZAB ?_
 refine KC (fun q0 q0n => ?_) (fun q0 q0n => ?_)
 ·refine ZB2 ?_
  refine RY y_dN rfl ?_
  refine RLa ?_
  refine RZ (x_storeTo (l' := cBd (off0 B)) 0 rfl rfl rfl rfl rfl rfl y_M (putBd_v hB (n := 0) (k := 0) y_c y_c rfl)) rfl ?_
  refine ZAH ?_
  refine ZBr ?_
  have q1 : highB B = true := q0
  exact EV rfl (List.Sublist.refl _) ⟨by rw [q1]; exact congrArg Value.bool q0, by unfold checkB; rw [q1]; rfl⟩
 ·refine ZAx ?_
  refine ZBr ?_
  have q1 : highB B = false := q0
  exact EV rfl (List.Sublist.refl _) ⟨by rw [q1]; exact congrArg Value.bool q0, by unfold checkB; rw [q1]; rfl⟩
set_option maxHeartbeats 2000000 in
theorem lengthsB_fn (b : Nat) (B : Bd) (hB : B.Wf) (w : World) (hst : St w [b] [(b, blk (cBd B) 131)] w) : Does Tryz.prog 352 [.pointer (some ⟨b, 0, none⟩)] w [b] (fun v H => v = .tuple #[] ∧ H = [(b, blk (cBd (lengthsB B)) 131)]) := by
 refine does_of Tryz.func352 rfl rfl rfl hst ?_
 refine ZAa ?_
 refine c_block ?_
 refine c_loop (σ := Nat) [2, 3, 4, 5, 6, 7, 8, 9, 10, 11, 12, 13, 14, 15, 16, 17, 18, 19, 20, 21, 22, 23, 24, 25, 26, 27, 28, 29, 30, 31, 32, 33, 34, 35, 36, 37, 38, 39, 40, 41, 42, 43, 44, 45, 46, 47, 48, 49, 50] (fun n => [(4, .int .i64 n)]) (fun n => [(b, blk (cBd (turnV lenV B n)) 131)]) (fun n => n ≤ 4) (fun n => 4 - n) 0 ?_ ?_ ?_ ?_
 ·exact Nat.zero_le _
 ·exact .cons rfl .nil
 ·exact fun _ h => h
 ·rintro n y1 hn
  refine ZCI ?_
  refine KC (fun q0 q0n => ?_) (fun q0 q0n => ?_)
  ·refine ZCQ ?_
   refine ZAS ?_
   refine ZA0 ?_
   have hX9 := hB.turn lenV_ok n
   have hr9 := hX9.r_ (5 * n + 4)
   have hv9 := hX9.v_ n
   have hv1 := hv9.len
   have hv2 := hv9.lev
   have hv3 := hv9.wait
   refine ZBj ?_
   refine RY (idx_array (s := 4) n rfl rfl rfl o_m o_m) rfl ?_
   refine ZAB ?_
   refine ZCd ?_
   refine ZCt ?_
   refine ZBd ?_
   refine L_2 ?_
   refine RY (idx_array1 (5 * n + 4) rfl rfl rfl o_m o_m) rfl ?_
   refine RZ (x_load rfl rfl (at_own m_m (by rw [Nat.zero_add]; exact cBd_r hX9 (j := 5 * n + 4) o_m))) rfl ?_
   refine RW (l_and rfl rfl) rfl y_eb ?_
   refine Rl ?_
   refine KL (fun q1 q1n => ?_) (fun q1 q1n => ?_)
   ·refine L_6 ?_
    refine ZAj ?_
    refine ZBa ?_
    refine ZBD ?_
    refine ZAB ?_
    exact ⟨n + 1, y_D, y_D, .cons rfl .nil, a_g, fun _ h => h.as y_bs⟩
   ·refine L_3 ?_
    refine RZ (x_load rfl rfl (at_own m_m (cBd_v hX9 (k := 1) o_m rfl))) rfl ?_
    refine ZAE ?_
    refine KC (fun q2 q2n => ?_) (fun q2 q2n => ?_)
    ·refine ZBa ?_
     refine ZBD ?_
     refine ZAB ?_
     exact ⟨n + 1, y_D, y_D, .cons rfl .nil, a_g, fun _ h => h.as y_bs⟩
    ·refine ZAx ?_
     refine ZA0 ?_
     have hX1 : ((turnV lenV B n).setV n { (turnV lenV B n).v n with len := ((turnV lenV B n).v n).len - 1 }).Wf := hX9.setV n ⟨y_d8, hv2, hv3⟩
     refine ZB2 ?_
     refine RZ (x_load rfl rfl (at_own m_m (cBd_v hX9 (k := 1) o_m rfl))) rfl ?_
     refine ZCV ?_
     refine L_2 ?_
     refine RZ (x_storeTo (l' := cBd ((turnV lenV B n).setV n { (turnV lenV B n).v n with len := ((turnV lenV B n).v n).len - 1 })) 0 rfl rfl rfl rfl rfl rfl y_cW (putBd_v hX9 (k := 1) o_m y_c rfl)) rfl ?_
     refine ZAH ?_
     refine ZBj ?_
     refine RZ (x_load rfl rfl (at_own (v := .bool ((turnV lenV B n).v n).on) m_m (cBd_v hX1 (k := 0) o_m y_bu))) rfl ?_
     refine KL (fun q3 q3n => ?_) (fun q3 q3n => ?_)
     ·refine L_3 ?_
      refine RZ (x_load rfl rfl (at_own (v := .int .i64 (((turnV lenV B n).v n).len - 1)) m_m (cBd_v hX1 (k := 1) o_m y_bu))) rfl ?_
      refine L_4 ?_
      refine RZ (x_storeTo (l' := cBd ((turnV lenV B n).setV n { (turnV lenV B n).v n with len := ((turnV lenV B n).v n).len - 1, on := decide (0 < ((turnV lenV B n).v n).len - 1) })) 0 rfl rfl rfl rfl rfl rfl y_bZ ((putBd_v hX1 (k := 0) (y := { (turnV lenV B n).v n with len := ((turnV lenV B n).v n).len - 1, on := decide (0 < ((turnV lenV B n).v n).len - 1) }) o_m y_c y_bu).trans y_cw)) rfl ?_
      refine ZAH ?_
      refine ZBD ?_
      refine ZAB ?_
      exact ⟨n + 1, y_D, y_D, .cons rfl .nil, a_g, fun _ h => h.as (by show _ = [(b, blk (cBd ((turnV lenV B n).setV n (lenV (turnV lenV B n) n ((turnV lenV B n).v n)))) 131)]; rw [show lenV (turnV lenV B n) n ((turnV lenV B n).v n) = _ from if_neg o_m, show ((turnV lenV B n).v n).on = true from q3]; rfl)⟩
     ·refine L_8 ?_
      refine RZ (x_storeTo (l' := cBd ((turnV lenV B n).setV n { (turnV lenV B n).v n with len := ((turnV lenV B n).v n).len - 1, on := false })) 0 rfl rfl rfl rfl rfl rfl y_bZ ((putBd_v hX1 (k := 0) (y := { (turnV lenV B n).v n with len := ((turnV lenV B n).v n).len - 1, on := false }) o_m y_c y_bu).trans y_cw)) rfl ?_
      refine ZAH ?_
      refine ZBD ?_
      refine ZAB ?_
      exact ⟨n + 1, y_D, y_D, .cons rfl .nil, a_g, fun _ h => h.as (by show _ = [(b, blk (cBd ((turnV lenV B n).setV n (lenV (turnV lenV B n) n ((turnV lenV B n).v n)))) 131)]; rw [show lenV (turnV lenV B n) n ((turnV lenV B n).v n) = _ from if_neg o_m, show ((turnV lenV B n).v n).on = false from q3]; rfl)⟩
  ·refine ZBa ?_
   obtain rfl : n = 4 := by omega
   exact EN (List.Sublist.refl _) ⟨rfl, rfl⟩
set_option maxHeartbeats 2000000 in
theorem levelsB_fn (b : Nat) (B : Bd) (hB : B.Wf) (w : World) (hst : St w [b] [(b, blk (cBd B) 131)] w) : Does Tryz.prog 354 [.pointer (some ⟨b, 0, none⟩)] w [b] (fun v H => v = .tuple #[] ∧ H = [(b, blk (cBd (levelsB B)) 131)]) := by
 refine does_of Tryz.func354 rfl rfl rfl hst ?_
 refine ZAa ?_
 refine c_block ?_
 refine c_loop (σ := Nat) [2, 3, 4, 5, 6, 7, 8, 9, 10, 11, 12, 13, 14, 15, 16, 17, 18, 19, 20, 21, 22, 23, 24, 25, 26, 27, 28, 29, 30, 31, 32, 33, 34, 35, 36, 37, 38, 39, 40, 41, 42, 43, 44, 45, 46, 47, 48, 49, 50, 51, 52, 53, 54, 55, 56, 57, 58, 59, 60, 61, 62, 63, 64, 65, 66, 67] (fun n => [(5, .int .i64 n)]) (fun n => [(b, blk (cBd (turnV levV B n)) 131)]) (fun n => n ≤ 4) (fun n => 4 - n) 0 ?_ ?_ ?_ ?_
 ·exact Nat.zero_le _
 ·exact .cons rfl .nil
 ·exact fun _ h => h
 ·rintro n y1 hn
  refine ZCI ?_
  refine KC (fun q0 q0n => ?_) (fun q0 q0n => ?_)
  ·refine ZCQ ?_
   refine ZAS ?_
   refine ZA0 ?_
   have hX9 := hB.turn levV_ok n
   have hr9 := hX9.r_ (5 * n + 2)
   have hv9 := hX9.v_ n
   have hv1 := hv9.len
   have hv2 := hv9.lev
   have hv3 := hv9.wait
   refine DR [13] (pln [0, 2, 4, 6, 8, 10, 12, 14, 16, 18, 20, 22, 24, 26, 28]) ?_
   refine D_4 ?_
   refine DY rfl (idx_array (s := 4) n rfl rfl rfl o_m o_m) rfl ?_
   refine D_2 ?_
   refine DW rfl (l_mul rfl rfl) rfl y_d ?_
   refine DW rfl (l_add rfl rfl) rfl y_d ?_
   refine D_2 ?_
   refine DY rfl (idx_array1 (5 * n + 2) rfl rfl rfl o_m o_m) rfl ?_
   refine DL rfl rfl rfl (s_own m_m (by rw [Nat.zero_add]; exact cBd_r hX9 (j := 5 * n + 2) o_m)) rfl ?_
   refine ZCz ?_
   refine ZCd ?_
   refine KL (fun q1 q1n => ?_) (fun q1 q1n => ?_)
   ·refine L_4 ?_
    refine ZAj ?_
    refine ZBa ?_
    refine ZBD ?_
    refine ZAB ?_
    exact ⟨n + 1, y_D, y_D, .cons rfl .nil, a_g, fun _ h => h.as y_br⟩
   ·refine Rl ?_
    refine RW (l_and rfl rfl) rfl y_dR ?_
    refine ZAE ?_
    refine KC (fun q2 q2n => ?_) (fun q2 q2n => ?_)
    ·refine ZBa ?_
     refine ZBD ?_
     refine ZAB ?_
     exact ⟨n + 1, y_D, y_D, .cons rfl .nil, a_g, fun _ h => h.as y_br⟩
    ·refine ZAx ?_
     refine ZD6 ?_
     refine RZ (x_load rfl rfl (at_own m_m (cBd_v hX9 (k := 3) o_m rfl))) rfl ?_
     refine ZCV ?_
     refine L_2 ?_
     refine RZ (x_storeTo (l' := cBd ((turnV levV B n).setV n { (turnV levV B n).v n with wait := ((turnV levV B n).v n).wait - 1 })) 0 rfl rfl rfl rfl rfl rfl y_cW (putBd_v hX9 (k := 3) (y := { (turnV levV B n).v n with wait := ((turnV levV B n).v n).wait - 1 }) o_m y_c rfl)) rfl ?_
     refine ZAH ?_
     refine ZA0 ?_
     have hX1 : ((turnV levV B n).setV n { (turnV levV B n).v n with wait := ((turnV levV B n).v n).wait - 1 }).Ln := hX9.ln.setV n _
     refine ZB2 ?_
     refine RZ (x_load rfl rfl (at_own (v := .int .i64 (((turnV levV B n).v n).wait - 1)) m_m (cBd_v hX1 (k := 3) o_m y_bu))) rfl ?_
     refine ZAB ?_
     refine KC (fun q3 q3n => ?_) (fun q3 q3n => ?_)
     ·refine ZBa ?_
      refine ZBD ?_
      refine ZAB ?_
      exact ⟨n + 1, y_D, y_D, .cons rfl .nil, a_g, fun _ h => h.as (by show _ = [(b, blk (cBd ((turnV levV B n).setV n (levV (turnV levV B n) n ((turnV levV B n).v n)))) 131)]; rw [levV_wait o_m o_m])⟩
     ·refine ZAx ?_
      refine ZAU ?_
      refine RW (l_and rfl rfl) rfl y_dR ?_
      refine ZAw ?_
      refine L_2 ?_
      refine RZ (x_storeTo (l' := cBd ((turnV levV B n).setV n { (turnV levV B n).v n with wait := (turnV levV B n).r (5 * n + 2) % 8 })) 0 rfl rfl rfl rfl rfl rfl y_bZ ((putBd_v hX1 (k := 3) (y := { (turnV levV B n).v n with wait := (turnV levV B n).r (5 * n + 2) % 8 }) o_m y_c y_bu).trans y_cw)) rfl ?_
      refine ZAH ?_
      refine ZA0 ?_
      have hX2 : ((turnV levV B n).setV n { (turnV levV B n).v n with wait := (turnV levV B n).r (5 * n + 2) % 8 }).Ln := hX9.ln.setV n _
      refine ZAZ ?_
      refine RW (l_and rfl rfl) rfl y_es ?_
      refine ZAB ?_
      refine KC (fun q4 q4n => ?_) (fun q4 q4n => ?_)
      ·refine ZBj ?_
       refine RZ (x_load rfl rfl (at_own (v := .int .i64 ((turnV levV B n).v n).lev) m_m (cBd_v hX2 (k := 2) o_m y_bu))) rfl ?_
       refine ZBd ?_
       refine RY (light_min rfl rfl) rfl ?_
       refine L_2 ?_
       refine RZ (x_storeTo (l' := cBd ((turnV levV B n).setV n { (turnV levV B n).v n with wait := (turnV levV B n).r (5 * n + 2) % 8, lev := min (((turnV levV B n).v n).lev + 1) 15 })) 0 rfl rfl rfl rfl rfl rfl y_cX ((putBd_v hX2 (k := 2) (y := { (turnV levV B n).v n with wait := (turnV levV B n).r (5 * n + 2) % 8, lev := min (((turnV levV B n).v n).lev + 1) 15 }) o_m y_c y_bu).trans y_cw)) rfl ?_
       refine ZAH ?_
       refine ZBD ?_
       refine ZAB ?_
       exact ⟨n + 1, y_D, y_D, .cons rfl .nil, a_g, fun _ h => h.as (by show _ = [(b, blk (cBd ((turnV levV B n).setV n (levV (turnV levV B n) n ((turnV levV B n).v n)))) 131)]; rw [levV_up o_m o_m o_m])⟩
      ·refine ZBj ?_
       refine RZ (x_load rfl rfl (at_own (v := .int .i64 ((turnV levV B n).v n).lev) m_m (cBd_v hX2 (k := 2) o_m y_bu))) rfl ?_
       refine ZCV ?_
       refine RY (light_max rfl rfl) rfl ?_
       refine L_2 ?_
       refine RZ (x_storeTo (l' := cBd ((turnV levV B n).setV n { (turnV levV B n).v n with wait := (turnV levV B n).r (5 * n + 2) % 8, lev := max (((turnV levV B n).v n).lev - 1) 0 })) 0 rfl rfl rfl rfl rfl rfl y_cX ((putBd_v hX2 (k := 2) (y := { (turnV levV B n).v n with wait := (turnV levV B n).r (5 * n + 2) % 8, lev := max (((turnV levV B n).v n).lev - 1) 0 }) o_m y_c y_bu).trans y_cw)) rfl ?_
       refine ZAH ?_
       refine ZBD ?_
       refine ZAB ?_
       exact ⟨n + 1, y_D, y_D, .cons rfl .nil, a_g, fun _ h => h.as (by show _ = [(b, blk (cBd ((turnV levV B n).setV n (levV (turnV levV B n) n ((turnV levV B n).v n)))) 131)]; rw [levV_down o_m o_m o_m])⟩
  ·refine ZBa ?_
   obtain rfl : n = 4 := by omega
   exact EN (List.Sublist.refl _) ⟨rfl, rfl⟩
set_option maxHeartbeats 2000000 in
theorem slideB_fn (b : Nat) (B : Bd) (hB : B.Wf) (w : World) (hst : St w [b] [(b, blk (cBd B) 131)] w) : Does Tryz.prog 353 [.pointer (some ⟨b, 0, none⟩)] w [b] (fun v H => v = .tuple #[] ∧ H = [(b, blk (cBd (slideB B)) 131)]) := by
 have k1 := hB.slide
 have hB1 : ({ B with slide := B.slide - 1 } : Bd).Ln := hB.ln.slide_ _
 have hB2 : (waitB ({ B with slide := B.slide - 1 } : Bd)).Wf := waitW2 hB
 refine does_of Tryz.func353 rfl rfl rfl hst ?_
 refine ZD6 ?_
 refine RZ (x_load rfl rfl (at_own m_m (by exact cBd_slides hB))) rfl ?_
 refine ZAB ?_
 refine KC (fun q0 q0n => ?_) (fun q0 q0n => ?_)
 ·refine c_ret ?_
  exact EN (List.Sublist.refl _) ⟨rfl, by rw [slideB_off (by simpa using q0)]⟩
 ·refine ZAx ?_
  refine ZA6 ?_
  refine RZ (x_load rfl rfl (at_own m_m (by exact cBd_slide hB))) rfl ?_
  refine ZCV ?_
  refine L_2 ?_
  refine RZ (x_storeTo (l' := cBd (({ B with slide := B.slide - 1 } : Bd))) 0 rfl rfl rfl rfl rfl rfl y_M (putBd_slide hB _)) rfl ?_
  refine ZAH ?_
  refine ZD6 ?_
  refine RZ (x_load rfl rfl (at_own m_m (by exact cBd_slide hB1))) rfl ?_
  refine ZAB ?_
  refine KC (fun q1 q1n => ?_) (fun q1 q1n => ?_)
  ·refine c_ret ?_
   exact EN (List.Sublist.refl _) ⟨rfl, by rw [slideB_wait (show B.slides = true by simpa using q0) q1n]⟩
  ·refine ZAx ?_
   refine ZAV ?_
   refine RZ (x_callA call_328 rfl (fun w hw => waitB_fn b ({ B with slide := B.slide - 1 } : Bd) hB1 w (St.lentA hw))) rfl ?_
   refine ZAb ?_
   refine ZA1 ?_
   refine RLv call_329 (fun w hw => everyB_fn b (waitB ({ B with slide := B.slide - 1 } : Bd)) hB2 w (row_own m_m w hw)) ?_
   refine Rl ?_
   refine KL (fun q2 q2n => ?_) (fun q2 q2n => ?_)
   ·refine L_8 ?_
    refine ZAj ?_
    refine c_ret ?_
    exact EN (List.Sublist.refl _) ⟨rfl, by rw [slideB_zero (show B.slides = true by simpa using q0) o_m q2n]⟩
   ·refine Rl ?_
    refine RZ (x_callA call_331 rfl (fun w hw => checkB_fn b (waitB ({ B with slide := B.slide - 1 } : Bd)) hB2 w (St.lentA hw))) rfl ?_
    refine Rl ?_
    refine KL (fun q3 q3n => ?_) (fun q3 q3n => ?_)
    ·refine L_4 ?_
     refine ZAj ?_
     refine c_ret ?_
     exact EN (List.Sublist.refl _) ⟨rfl, by rw [slideB_high (show B.slides = true by simpa using q0) o_m q2n q3]⟩
    ·refine Rl ?_
     have hc9 := check_no q3
     refine l_heap (H' := [(b, blk (cBd (waitB ({ B with slide := B.slide - 1 } : Bd))) 131)]) (fun _ h => h.as (by rw [hc9])) ?_
     refine RLv call_330 (fun w hw => byB_fn b (waitB ({ B with slide := B.slide - 1 } : Bd)) hB2 w (row_own m_m w hw)) ?_
     refine ZAE ?_
     refine KC (fun q4 q4n => ?_) (fun q4 q4n => ?_)
     ·refine c_ret ?_
      exact EN (List.Sublist.refl _) ⟨rfl, by rw [slideB_by (show B.slides = true by simpa using q0) o_m q2n q3 q4n]⟩
     ·refine ZAx ?_
      refine ZA0 ?_
      have hn9 := next_ok hB2
      have hn8 : nextB (waitB ({ B with slide := B.slide - 1 } : Bd)) ≤ 2047 := by have h9 := of_decide_eq_false (show decide (2047 < nextB (waitB ({ B with slide := B.slide - 1 } : Bd))) = false from q3); omega
      have hB3 : ({ (waitB ({ B with slide := B.slide - 1 } : Bd)) with pitch := nextB (waitB ({ B with slide := B.slide - 1 } : Bd)) } : Bd).Wf := hB2.pitch_ o_m
      have hB4 : (putB 3 (nextB (waitB ({ B with slide := B.slide - 1 } : Bd)) % 256) ({ (waitB ({ B with slide := B.slide - 1 } : Bd)) with pitch := nextB (waitB ({ B with slide := B.slide - 1 } : Bd)) } : Bd)).Wf := hB3.put 3 o_m
      have hr4 := hB2.r_ 4
      refine ZAo ?_
      refine RLv call_332 (fun w hw => nextB_fn b (waitB ({ B with slide := B.slide - 1 } : Bd)) hB2 w (row_own m_m w hw)) ?_
      refine L_2 ?_
      refine RZ (x_storeTo (l' := cBd (({ (waitB ({ B with slide := B.slide - 1 } : Bd)) with pitch := nextB (waitB ({ B with slide := B.slide - 1 } : Bd)) } : Bd))) 0 rfl rfl rfl rfl rfl rfl (by rw [cBd_len hB2]; simp only [List.length_cons, List.length_nil]; omega) (putBd_pitch hB2 _)) rfl ?_
      refine ZAH ?_
      refine ZA0 ?_
      refine DR [7, 8, 9, 10, 11, 12, 13, 14, 15, 16, 17, 18, 19, 20, 21, 22, 25, 26] (pln [0, 2, 4, 6, 8, 10, 12, 14, 16, 18, 20, 22, 24, 26, 28, 30, 32, 34, 36, 38, 40, 42, 44, 46, 50, 52, 49, 54, 57]) ?_
      refine D_5 ?_
      refine DL rfl rfl rfl (s_own (v := .int .i64 (nextB (waitB ({ B with slide := B.slide - 1 } : Bd)))) m_m (cBd_pitch hB3)) rfl ?_
      refine ZCJ ?_
      refine D_3 ?_
      refine DY rfl y_dP rfl ?_
      refine DL rfl rfl rfl (s_own m_m (cBd_r hB3 (j := 4) y_c)) rfl ?_
      refine DW (v := (.int .u8 ((waitB ({ B with slide := B.slide - 1 } : Bd)).r 4 / 8 * 8))) rfl (l_andn rfl rfl) rfl (congrArg (Value.int .u8) (andn7_law hr4)) ?_
      refine D_3 ?_
      refine DL rfl rfl rfl (s_own (v := .int .i64 (nextB (waitB ({ B with slide := B.slide - 1 } : Bd)))) m_m (cBd_pitch hB3)) rfl ?_
      refine ZEN ?_
      refine DW rfl (l_and rfl rfl) rfl y_dR ?_
      refine DW (v := (.int .u8 ((waitB ({ B with slide := B.slide - 1 } : Bd)).r 4 / 8 * 8 + nextB (waitB ({ B with slide := B.slide - 1 } : Bd)) / 256 % 8))) rfl (l_or rfl rfl) rfl (congrArg (Value.int .u8) (or3_law (y := nextB (waitB ({ B with slide := B.slide - 1 } : Bd)) / 256 % 8) hr4 o_m)) ?_
      refine D_2 ?_
      refine DY rfl y_dS rfl ?_
      refine D_2 ?_
      refine DZ rfl (x_storeTo (l' := cBd ((putB 3 (nextB (waitB ({ B with slide := B.slide - 1 } : Bd)) % 256) ({ (waitB ({ B with slide := B.slide - 1 } : Bd)) with pitch := nextB (waitB ({ B with slide := B.slide - 1 } : Bd)) } : Bd)))) 0 rfl rfl rfl rfl rfl rfl (by rw [cBd_len hB3]; simp only [List.length_cons, List.length_nil]; omega) (putBd_r hB3 (j := 3) y_c _)) rfl n_h ?_
      refine ZA3 ?_
      refine DY rfl y_dP rfl ?_
      refine DZ rfl (x_storeTo (l' := cBd (tuneB (waitB ({ B with slide := B.slide - 1 } : Bd)))) 0 rfl rfl rfl rfl rfl rfl (by rw [cBd_len hB4]; simp only [List.length_cons, List.length_nil]; omega) (putBd_r hB4 (j := 4) y_c _)) rfl n_h ?_
      refine ZA3 ?_
      refine ZEb ?_
      refine ZAZ ?_
      refine RZ (x_callA call_331 rfl (fun w hw => checkB_fn b (tuneB (waitB ({ B with slide := B.slide - 1 } : Bd))) (tune_ok hB2 q3) w (St.lentA hw))) rfl ?_
      refine ZAb ?_
      exact EN (List.Sublist.refl _) ⟨rfl, by rw [slideB_end (show B.slides = true by simpa using q0) o_m q2n q3 q4n]⟩
set_option maxHeartbeats 2000000 in
theorem beginB_fn (b : Nat) (B : Bd) (hB : B.Wf) (n : Nat) (hn : n < 4) (w : World) (hst : St w [b] [(b, blk (cBd B) 131)] w) : Does Tryz.prog 326 [.pointer (some ⟨b, 0, none⟩), .int .i64 n] w [b] (fun v H => v = .tuple #[] ∧ H = [(b, blk (cBd (beginB n B)) 131)]) := by
 have hr9 := hB.r_ (5 * n + 2)
 have hv9 := (hB.v_ n).len
 have hV1 : (B.setV n { B.v n with on := readyB n B }).Ln := hB.ln.setV n _
 have hV2 : (B.setV n { B.v n with on := readyB n B, lev := B.r (5 * n + 2) / 16 }).Ln := hB.ln.setV n _
 have hV3 : (B.setV n { B.v n with on := readyB n B, lev := B.r (5 * n + 2) / 16, wait := B.r (5 * n + 2) % 8 }).Ln := hB.ln.setV n _
 refine does_of Tryz.func326 rfl rfl rfl hst ?_
 refine ZA0 ?_
 refine DR [13] (pln [0, 2, 4, 6, 8, 10, 12, 14, 16, 18, 20, 22, 24, 26, 28]) ?_
 refine D_4 ?_
 refine DY rfl (idx_array (s := 4) n rfl rfl rfl o_m o_m) rfl ?_
 refine D_2 ?_
 refine DW rfl (l_mul rfl rfl) rfl y_d ?_
 refine DW rfl (l_add rfl rfl) rfl y_d ?_
 refine D_2 ?_
 refine DY rfl (idx_array1 (5 * n + 2) rfl rfl rfl o_m o_m) rfl ?_
 refine DL rfl rfl rfl (s_own m_m (by rw [Nat.zero_add]; exact cBd_r hB (j := 5 * n + 2) o_m)) rfl ?_
 refine ZCz ?_
 refine ZAA ?_
 iterate 5 refine Rl ?_
 refine RLv call_327 (fun w hw => readyB_fn b B hB w (row_own m_m w hw) n hn) ?_
 refine Rl ?_
 refine RW (shr_pos rfl rfl y_c) rfl (as_shr 16 y_c y_c) ?_
 refine ZAw ?_
 refine Rl ?_
 refine RW (l_and rfl rfl) rfl y_dR ?_
 refine ZAw ?_
 refine L_2 ?_
 refine RZ (x_storeTo (l' := cBd (B.setV n { B.v n with on := readyB n B })) 0 rfl rfl rfl rfl rfl rfl y_M ((putBd_v hB (k := 0) (y := { B.v n with on := readyB n B }) hn y_c (by rfl)).trans (by rfl))) rfl ?_
 refine ZA3 ?_
 refine L_2 ?_
 refine RZ (x_storeTo (l' := cBd (B.setV n { B.v n with on := readyB n B, lev := B.r (5 * n + 2) / 16 })) 0 rfl rfl rfl rfl rfl rfl (by rw [cBd_len hV1]; simp only [List.length_cons, List.length_nil]; omega) ((putBd_v hV1 (k := 2) (y := { B.v n with on := readyB n B, lev := B.r (5 * n + 2) / 16 }) hn y_c y_c6).trans y_cw)) rfl ?_
 refine ZA3 ?_
 refine L_2 ?_
 refine RZ (x_storeTo (l' := cBd (B.setV n { B.v n with on := readyB n B, lev := B.r (5 * n + 2) / 16, wait := B.r (5 * n + 2) % 8 })) 0 rfl rfl rfl rfl rfl rfl (by rw [cBd_len hV2]; simp only [List.length_cons, List.length_nil]; omega) ((putBd_v hV2 (k := 3) (y := { B.v n with on := readyB n B, lev := B.r (5 * n + 2) / 16, wait := B.r (5 * n + 2) % 8 }) hn y_c y_c6).trans y_cw)) rfl ?_
 refine ZAH ?_
 refine ZD6 ?_
 refine RZ (x_load rfl rfl (at_own (v := .int .i64 (B.v n).len) m_m (cBd_v hV3 (k := 1) hn y_c6))) rfl ?_
 refine ZAB ?_
 refine KC (fun q0 q0n => ?_) (fun q0 q0n => ?_)
 ·refine ZAo ?_
  refine RLv call_325 (fun w hw => longest_fn n w) ?_
  refine L_2 ?_
  refine RZ (x_storeTo (l' := cBd (B.setV n { B.v n with on := readyB n B, lev := B.r (5 * n + 2) / 16, wait := B.r (5 * n + 2) % 8, len := longest n })) 0 rfl rfl rfl rfl rfl rfl (by rw [cBd_len hV3]; simp only [List.length_cons, List.length_nil]; omega) ((putBd_v hV3 (k := 1) (y := { B.v n with on := readyB n B, lev := B.r (5 * n + 2) / 16, wait := B.r (5 * n + 2) % 8, len := longest n }) hn y_c y_c6).trans y_cw)) rfl ?_
  refine ZAH ?_
  refine ZCc ?_
  have hc9 : startV B n = { B.v n with on := readyB n B, lev := B.r (5 * n + 2) / 16, wait := B.r (5 * n + 2) % 8, len := longest n } := by unfold startV; rw [if_pos o_m]
  rw [← hc9]
  exact ZAJ
 ·refine ZAx ?_
  refine ZCc ?_
  have hc9 : startV B n = { B.v n with on := readyB n B, lev := B.r (5 * n + 2) / 16, wait := B.r (5 * n + 2) % 8 } := by unfold startV; rw [if_neg o_m]
  rw [← hc9]
  exact ZAJ
set_option maxHeartbeats 1000000 in
theorem tickB_fn (B : Bd) (hB : B.Wf) (w : World) : Does Tryz.prog 345 [.agg (cBd B).toArray] w [] (fun v H => H = [] ∧ v = .agg (cBd (tickB B)).toArray) := by
 have k1 := hB.div
 have k2 := hB.step
 have hD1 : ({ B with div := B.div + 1 } : Bd).Ln := ⟨hB.lR, hB.bR, hB.lV⟩
 have hD0 : ({ B with div := 0 } : Bd).Wf := hB.div_ o_m
 have hH : (halfB ({ B with div := 0 } : Bd)).Wf := hD0.half
 have hE : (beatB ({ B with div := 0 } : Bd)).Wf := hD0.beat
 have hFN : ({ (beatB ({ B with div := 0 } : Bd)) with step := (B.step + 1) % 8 } : Bd).Ln := ⟨hE.lR, hE.bR, hE.lV⟩
 refine does_of Tryz.func345 rfl rfl rfl (St.refl w) ?_
 refine ZAA ?_
 refine RX (x_box (l := cBd B) rfl rfl) rfl ?_
 refine ZC8 fun b0 => ?_
 refine RX (x_alloc (l := cBd bdZ) y_g) rfl ?_
 rintro _ _ ⟨b1, rfl, rfl⟩
 refine ZAb ?_
 refine ZAG ?_
 refine RLa ?_
 refine RZ (x_load rfl rfl (at_own (v := .bool B.on) m_m (cBd_on hB))) rfl ?_
 refine ZAB ?_
 refine KC (fun q0 q0n => ?_) (fun q0 q0n => ?_)
 ·refine ZAA ?_
  refine ZBt ?_
  refine ZC0 ?_
  exact l_end0 (fun w hw => rets_cell rfl rfl y_bm (row_own (b := b1) (l := cBd B) m_m w hw)) ⟨rfl, by unfold tickB; rw [if_pos (by simpa using q0)]⟩
 ·refine ZAx ?_
  refine ZAG ?_
  refine RLa ?_
  refine RZ (x_load rfl rfl (at_own m_m (cBd_div hB))) rfl ?_
  refine ZBd ?_
  refine RLa ?_
  refine RZ (x_storeTo (l' := cBd (({ B with div := B.div + 1 } : Bd))) 1 rfl rfl rfl rfl rfl rfl y_M (putBd_div hB _)) rfl ?_
  refine ZAH ?_
  refine ZAA ?_
  refine RLa ?_
  refine RZ (x_load rfl rfl (at_own (v := .int .i64 (B.div + 1)) m_m (cBd_div (b := ({ B with div := B.div + 1 } : Bd)) hD1))) rfl ?_
  refine ZAB ?_
  refine KC (fun q1 q1n => ?_) (fun q1 q1n => ?_)
  ·refine ZAA ?_
   refine RZ (x_loadA rfl rfl (by rw [cBd_len hD1]; rfl) (row_own (b := b0) (l := cBd ({ B with div := B.div + 1 } : Bd)) m_m)) rfl ?_
   refine RZ (x_storeTo (l' := cBd ({ B with div := B.div + 1 } : Bd)) 0 rfl rfl rfl (by rw [cBd_len hD1]; rfl) (ones_cBd _) rfl (by rw [cBd_len hD1, cBd_len bdZ_wf]; decide) (putZ hD1)) rfl ?_
   refine ZC0 ?_
   exact l_end0 (fun w hw => rets_cell rfl rfl (by rw [cBd_len hD1]; rfl) (row_own (b := b1) (l := cBd ({ B with div := B.div + 1 } : Bd)) m_m w hw)) ⟨rfl, by unfold tickB; rw [if_neg (by rw [show B.on = true by simpa using q0]; decide), if_pos o_m]⟩
  ·refine ZAx ?_
   refine ZAA ?_
   refine RLa ?_
   refine RZ (x_storeTo (l' := cBd (({ B with div := 0 } : Bd))) 1 rfl rfl rfl rfl rfl rfl (by rw [cBd_len hD1]; simp only [List.length_cons, List.length_nil]; omega) (putBd_div hD1 _)) rfl ?_
   refine ZAH ?_
   refine ZAG ?_
   refine RLa ?_
   refine RZ (x_load rfl rfl (at_own (v := .int .i64 B.step) m_m (cBd_step (b := ({ B with div := 0 } : Bd)) hD0))) rfl ?_
   refine RW (l_and rfl rfl) rfl (by first | exact as_mask 1 2 y_c rfl o_m (show _ < (9223372036854775808 : Int) by omega) (show _ < (9223372036854775808 : Int) by decide) | rfl) ?_
   refine ZAB ?_
   refine KC (fun q2 q2n => ?_) (fun q2 q2n => ?_)
   ·refine ZAP ?_
    refine RX (x_callT (F := [(b1, blk (cBd bdZ) 131)]) (A := [(b0, blk (cBd ({ B with div := 0 } : Bd)) 131)]) (R := fun v H => v = .tuple #[] ∧ H = [(b0, blk (cBd (lengthsB ({ B with div := 0 } : Bd))) 131)]) call_352 rfl (fun w hw => lengthsB_fn b0 ({ B with div := 0 } : Bd) hD0 w (St.lentV hw))) rfl ?_
    refine ZAX ?_
    refine ZAb ?_
    refine ZCc ?_
    have hh9 : lengthsB ({ B with div := 0 } : Bd) = (halfB ({ B with div := 0 } : Bd)) := by unfold halfB; rw [if_pos (show (B.step % 2 = 0) by omega)]
    refine c_heap (L' := [(b1, blk (cBd bdZ) 131), (b0, blk (cBd (halfB ({ B with div := 0 } : Bd))) 131)]) (fun w h => h.as (by rw [← hh9])) ?_
    refine ZD9 ?_
    refine RZ (x_load rfl rfl (at_own (v := .int .i64 B.step) m_m ((cBd_step hH).trans (by rw [half_step])))) rfl ?_
    refine ZAb ?_
    refine c_block ?_
    refine ZCd ?_
    exact ZAD
   ·refine ZAx ?_
    refine ZCc ?_
    have hh9 : ({ B with div := 0 } : Bd) = (halfB ({ B with div := 0 } : Bd)) := by unfold halfB; rw [if_neg (show ¬ (B.step % 2 = 0) by omega)]
    refine c_heap (L' := [(b1, blk (cBd bdZ) 131), (b0, blk (cBd (halfB ({ B with div := 0 } : Bd))) 131)]) (fun w h => h.as (by rw [← hh9])) ?_
    refine ZD9 ?_
    refine RZ (x_load rfl rfl (at_own (v := .int .i64 B.step) m_m ((cBd_step hH).trans (by rw [half_step])))) rfl ?_
    refine ZAb ?_
    refine c_block ?_
    refine ZCd ?_
    exact ZAD
set_option maxHeartbeats 1000000 in
theorem switchedB_fn (B : Bd) (hB : B.Wf) (on : Bool) (w : World) : Does Tryz.prog 324 [.agg (cBd B).toArray, .bool on] w [] (fun v H => H = [] ∧ v = .agg (cBd (if on = true then onB B else offB B)).toArray) := by
 have hZ2 : ({ bdZ with div := B.div, step := B.step } : Bd).Ln := ⟨bdZ_wf.lR, bdZ_wf.bR, bdZ_wf.lV⟩
 have hN0 : ({ B with div := 0 } : Bd).Ln := ⟨hB.lR, hB.bR, hB.lV⟩
 have hN1 : ({ B with div := 0, step := 0 } : Bd).Ln := ⟨hB.lR, hB.bR, hB.lV⟩
 have hN2 : ({ B with div := 0, step := 0, on := true } : Bd).Ln := ⟨hB.lR, hB.bR, hB.lV⟩
 have hN3 : ({ B with on := true } : Bd).Ln := ⟨hB.lR, hB.bR, hB.lV⟩
 refine does_of Tryz.func324 rfl rfl rfl (St.refl w) ?_
 refine ZAA ?_
 refine RX (x_box (l := cBd B) rfl rfl) rfl ?_
 refine ZC8 fun b0 => ?_
 refine RX (x_alloc (l := cBd bdZ) y_g) rfl ?_
 rintro _ _ ⟨b1, rfl, rfl⟩
 refine ZAb ?_
 refine ZAz ?_
 refine KC (fun q0 q0n => ?_) (fun q0 q0n => ?_)
 ·refine ZAA ?_
  refine RLa ?_
  refine RZ (x_load rfl rfl (at_own m_m (cBd_div hB))) rfl ?_
  refine RLa ?_
  refine RZ (x_load rfl rfl (at_own m_m (cBd_step hB))) rfl ?_
  refine RY (light_struct (l := cBd ({ bdZ with div := B.div, step := B.step } : Bd)) (z := cBd bdZ) (ps := [(2, .int .i64 B.div), (3, .int .i64 B.step)]) rfl y_g rfl rfl) rfl ?_
  refine RX (x_alloc (l := cBd bdZ) y_g) rfl ?_
  rintro _ _ ⟨b2, rfl, rfl⟩
  refine RZ (x_storeTo (l' := cBd ({ bdZ with div := B.div, step := B.step } : Bd)) 0 rfl rfl rfl (by rw [cBd_len hZ2]; rfl) (ones_cBd _) rfl (by rw [cBd_len hZ2, cBd_len bdZ_wf]; decide) (putZ hZ2)) rfl ?_
  refine ZAH ?_
  refine ZA0 ?_
  refine DR [] (pln [0, 2, 4, 6, 9]) ?_
  refine RDa ?_
  refine DY rfl (cut_array1 22 48 rfl rfl rfl rfl rfl rfl y_c y_c) rfl ?_
  refine RDa ?_
  refine DY rfl (cut_array1 22 48 rfl rfl rfl rfl rfl rfl y_c y_c) rfl ?_
  refine DZ rfl (x_copyTo (l' := cBd (offB B)) (m := 26) (ys := (B.regs.drop 22).map (.int .u8)) 0 rfl rfl rfl rfl rfl (fun w hw => Src.row (s := 1) b0 22 26 26 ((B.regs.drop 22).map (.int .u8)) (by simp [hB.lR]) (row_tail (row_own (b := b0) (l := cBd B) m_m w hw))) (ones_int _ _) (by rw [cBd_len hZ2]; decide) (off_put hB)) rfl n_h ?_
  refine ZA3 ?_
  refine ZEb ?_
  refine ZAA ?_
  refine RZ (x_loadA rfl rfl y_dr (row_own (b := b2) (l := cBd (offB B)) m_m)) rfl ?_
  refine RZ (x_storeTo (l' := cBd (offB B)) 1 rfl rfl rfl y_dr (ones_cBd _) rfl (by rw [cBd_len hB.off.ln, cBd_len bdZ_wf]; decide) (putZ hB.off.ln)) rfl ?_
  refine ZC0 ?_
  exact l_end0 (fun w hw => rets_cell rfl rfl y_dr (row_own (b := b1) (l := cBd (offB B)) m_m w hw)) ⟨rfl, by rw [show on = false by simpa using q0]; rfl⟩
 ·refine ZAx ?_
  refine ZAG ?_
  refine RLa ?_
  refine RZ (x_load rfl rfl (at_own (v := .bool B.on) m_m (cBd_on hB))) rfl ?_
  refine ZAB ?_
  refine KC (fun q1 q1n => ?_) (fun q1 q1n => ?_)
  ·refine ZD9 ?_
   refine RZ (x_storeTo (l' := cBd (({ B with div := 0 } : Bd))) 1 rfl rfl rfl rfl rfl rfl y_M (putBd_div hB _)) rfl ?_
   refine ZA3 ?_
   refine RLa ?_
   refine RZ (x_storeTo (l' := cBd (({ B with div := 0, step := 0 } : Bd))) 1 rfl rfl rfl rfl rfl rfl (by rw [cBd_len hN0]; simp only [List.length_cons, List.length_nil]; omega) (putBd_step hN0 _)) rfl ?_
   refine ZAH ?_
   refine ZAA ?_
   refine RLa ?_
   refine RZ (x_storeTo (l' := cBd (({ B with div := 0, step := 0, on := true } : Bd))) 1 rfl rfl rfl rfl rfl rfl (by rw [cBd_len hN1]; simp only [List.length_cons, List.length_nil]; omega) (putBd_on hN1 _)) rfl ?_
   refine ZAH ?_
   refine ZAA ?_
   refine RZ (x_loadA rfl rfl y_do (row_own (b := b0) (l := cBd ({ B with div := 0, step := 0, on := true } : Bd)) m_m)) rfl ?_
   refine RZ (x_storeTo (l' := cBd ({ B with div := 0, step := 0, on := true } : Bd)) 0 rfl rfl rfl (by rw [cBd_len hN2]; rfl) (ones_cBd _) rfl (by rw [cBd_len hN2, cBd_len bdZ_wf]; decide) (putZ hN2)) rfl ?_
   refine ZC0 ?_
   exact l_end0 (fun w hw => rets_cell rfl rfl (by rw [cBd_len hN2]; rfl) (row_own (b := b1) (l := cBd ({ B with div := 0, step := 0, on := true } : Bd)) m_m w hw)) ⟨rfl, by rw [show on = true by simpa using q0, if_pos rfl]; unfold onB; rw [if_neg (by rw [show B.on = false by simpa using q1]; decide)]⟩
  ·refine ZAx ?_
   refine ZAA ?_
   refine RLa ?_
   refine RZ (x_storeTo (l' := cBd (({ B with on := true } : Bd))) 1 rfl rfl rfl rfl rfl rfl y_M (putBd_on hB _)) rfl ?_
   refine ZAH ?_
   refine ZAA ?_
   refine RZ (x_loadA rfl rfl y_do (row_own (b := b0) (l := cBd ({ B with on := true } : Bd)) m_m)) rfl ?_
   refine RZ (x_storeTo (l' := cBd ({ B with on := true } : Bd)) 0 rfl rfl rfl (by rw [cBd_len hN3]; rfl) (ones_cBd _) rfl (by rw [cBd_len hN3, cBd_len bdZ_wf]; decide) (putZ hN3)) rfl ?_
   refine ZC0 ?_
   have hon : B.on = true := by simpa using q1
   exact l_end0 (fun w hw => rets_cell rfl rfl (by rw [cBd_len hN3]; rfl) (row_own (b := b1) (l := cBd ({ B with on := true } : Bd)) m_m w hw)) ⟨rfl, by rw [show on = true by simpa using q0, if_pos rfl]; unfold onB; rw [if_pos hon, ← hon]⟩
end Go.Proofs.YtldehodcfajpjaaGreat
