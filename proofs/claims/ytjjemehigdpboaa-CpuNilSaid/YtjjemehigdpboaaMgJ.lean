/- The law of the cycles. -/
import Derived.Test.YtjjemehigdpboaaMgC
import Derived.Test.YtjjemehigdpboaaMgF
import Derived.Test.YtjjemehigdpboaaMgI
namespace Go.Proofs.Ytjjemehigdpboaa
open Go Go.VV

theorem at_code {z l : List Int} {o : Nat} (h : o + l.length ≤ z.length) {a : Int} {j : Nat} (ha : a.toNat = o + j) (hj : j < l.length) : atB (putI z o l) a = l.getD j 0 := by
  unfold atB putI
  have h1 : (z.take o).length = o := by rw [List.length_take]; omega
  rw [ha, List.getD_eq_getElem?_getD, List.append_assoc, List.getElem?_append_right (by omega), h1, Nat.add_sub_cancel_left, List.getElem?_append_left hj, ← List.getD_eq_getElem?_getD]
theorem at_off {z l : List Int} {o : Nat} (h : o + l.length ≤ z.length) {a : Int} (ha : a.toNat < o ∨ o + l.length ≤ a.toNat) : atB (putI z o l) a = atB z a := by
  unfold atB putI
  have h1 : (z.take o).length = o := by rw [List.length_take]; omega
  rw [List.getD_eq_getElem?_getD, List.getD_eq_getElem?_getD]
  rcases ha with ha | ha
  · rw [List.append_assoc, List.getElem?_append_left (by omega), List.getElem?_take_of_lt ha]
  · rw [List.getElem?_append_right (by rw [List.length_append]; omega), List.length_append, h1, List.getElem?_drop]
    congr 2; omega
theorem putI_byts {z l : List Int} (hz : Byts z) (hl : Byts l) (o : Nat) : Byts (putI z o l) := fun x hx => by
  unfold putI at hx
  rcases List.mem_append.1 hx with h | h
  · rcases List.mem_append.1 h with h | h
    · exact hz x (List.mem_of_mem_take h)
    · exact hl x h
  · exact hz x (List.mem_of_mem_drop h)
theorem or_14 {x : Int} (h : 0 ≤ x ∧ x < 16384) : bor .u16 16384 x = 16384 + x := by
  rw [bor_nat (k := .u16) (by decide) (by decide) h.1 (show x < (65536 : Int) by omega)]
  have h1 := Nat.two_pow_add_eq_or_of_lt (i := 14) (b := x.toNat) (by omega) 1
  have h2 : (16384 : Int).toNat = 2 ^ 14 * 1 := by decide
  rw [h2, ← h1]; omega
theorem dcd_push {n : Int} : dcd (197 + n % 4 * 16) 0 0 = ⟨30, prS (n % 4), 0, 1, 0⟩ := by
  rcases (show n % 4 = 0 ∨ n % 4 = 1 ∨ n % 4 = 2 ∨ n % 4 = 3 by omega) with h | h | h | h <;> rw [h] <;> kernel_rfl
theorem dcd_pop {n : Int} : dcd (193 + n % 4 * 16) 0 0 = ⟨31, prS (n % 4), 0, 1, 0⟩ := by
  rcases (show n % 4 = 0 ∨ n % 4 = 1 ∨ n % 4 = 2 ∨ n % 4 = 3 by omega) with h | h | h | h <;> rw [h] <;> kernel_rfl
theorem dcd_rst {n : Int} : dcd (199 + n % 8 * 8) 0 0 = ⟨28, 0, 0, 1, n % 8 * 8⟩ := by
  rcases (show n % 8 = 0 ∨ n % 8 = 1 ∨ n % 8 = 2 ∨ n % 8 = 3 ∨ n % 8 = 4 ∨ n % 8 = 5 ∨ n % 8 = 6 ∨ n % 8 = 7 by omega) with h | h | h | h | h | h | h | h <;> rw [h] <;> kernel_rfl
theorem prS_4 {n : Int} : prS (n % 4) = 0 ∨ prS (n % 4) = 1 ∨ prS (n % 4) = 2 ∨ prS (n % 4) = 4 := by unfold prS; split <;> omega
def cdS (n T : Int) : List Int := [197 + n % 4 * 16, 205, T % 256, T / 256, 193 + n % 4 * 16, 199 + n % 8 * 8]
def bS (z : List Int) (n T : Int) : List Int := ((putI z 256 (cdS n T)).set T.toNat 201).set (n % 8 * 8).toNat 201
theorem cdS_ok {n T : Int} (hT : 16384 ≤ T ∧ T < 32768) : Byts (cdS n T) := fun x hx => by
  simp only [cdS, List.mem_cons, List.not_mem_nil, or_false] at hx
  omega
theorem cdS_len (n T : Int) : (cdS n T).length = 6 := rfl
theorem codeS_len {z : List Int} (hz : z.length = 65536) (n T : Int) : (putI z 256 (cdS n T)).length = 65536 := by rw [putI_len (by rw [cdS_len]; omega), hz]
def rS (r : CR) : CR := { r with f := r.f / 16 * 16, pc := 256, sp := 53248 }
theorem rS_ok {r : CR} (h : r.Ok) : (rS r).Ok := ⟨h.a, by have := h.f; show 0 ≤ r.f / 16 * 16 ∧ r.f / 16 * 16 < 256; omega, h.b, h.c, h.d, h.e, h.h, h.l, by show (0 : Int) ≤ 53248 ∧ (53248 : Int) < 65536; decide, by show (0 : Int) ≤ 256 ∧ (256 : Int) < 65536; decide⟩
theorem bS_ok {z : List Int} (hz : z.length = 65536) (hb : Byts z) {n T : Int} (hT : 16384 ≤ T ∧ T < 32768) : RamOk (0 + 7 * 6) ⟨bS z n T, []⟩ :=
  ⟨by simp [bS, codeS_len hz], byts_set (byts_set (putI_byts hb (cdS_ok hT) _) _ (by decide)) _ (by decide), show 0 + (0 + 7 * 6) ≤ 1000000 by decide, fun _ h => by cases h⟩
theorem stacks_all {z : List Int} (hz : z.length = 65536) {r : CR} (hr : r.Ok) {n T : Int} (hT : 16384 ≤ T ∧ T < 32768) :
    (stepN ramA ⟨F0 (rS r), ⟨bS z n T, []⟩⟩ 6).s = F0 { rS r with pc := 262 } := by
  have hc : (256 : Nat) + (cdS n T).length ≤ z.length := by rw [cdS_len]; omega
  have at1 : ∀ {a : Int} (j : Nat), j < 6 → a = 256 + (j : Int) → atB (bS z n T) a = (cdS n T).getD j 0 := fun {a} j hj ha => by
    unfold bS
    rw [at_other (by omega), at_other (by omega), at_code hc (j := j) (by omega) (by rw [cdS_len]; exact hj)]
  refine stacks_law (n := n % 8 * 8) (to := T) (p := prS (n % 4)) (rS_ok hr) (by show r.f / 16 * 16 % 16 = 0; omega) prS_4 rfl rfl (by omega) hT (by simp [bS, codeS_len hz]) (at1 0 (by decide) rfl) dcd_push (at1 1 (by decide) rfl) (at1 2 (by decide) rfl) (at1 3 (by decide) rfl) ?_ (at1 4 (by decide) rfl) dcd_pop (at1 5 (by decide) rfl) dcd_rst ?_ ?_
  · show T % 256 + 256 * (T / 256) = T; omega
  · unfold bS; rw [at_other (by omega), at_same (by rw [codeS_len hz]; omega) rfl]
  · unfold bS; rw [at_same (by simp [codeS_len hz]; omega) rfl]
end Go.Proofs.Ytjjemehigdpboaa
namespace Go.Proofs.Ytjjemehigdpboaa
open Go Go.VV Go.Proofs Go.RowKit
set_option linter.unusedSimpArgs false
set_option linter.unusedVariables false
set_option maxRecDepth 100000
theorem stacks_fn (s : CS) (hs : s.r.Ok) (n to : Int) (hn : 0 ≤ n ∧ n < 256) (hto : 0 ≤ to ∧ to < 65536) (w : World) : Does Try.prog 4 [.agg (cS s).toArray, .int .u8 n, .int .u16 to] w [] (fun v H => H = [] ∧ v = .bool true) := by
 obtain ⟨z, hz1, hz2, hz3, hz4⟩ := zero_bytes
 have hf9 := hs.f
 refine does_of Try.func4 rfl rfl rfl (St.refl w) ?_
 refine c_seq ?_
 refine c_region ?_
 refine l_x (x_box (l := cS s) rfl rfl) rfl rfl ?_
 rintro _ _ ⟨b3, rfl, rfl⟩
 refine RL ?_
 refine l_nil ?_
 refine c_seq ?_
 refine c_seq ?_
 refine c_region ?_
 refine RLv call_8 (fun w hw => awake_fn w) ?_
 refine RL ?_
 refine l_nil ?_
 refine c_false rfl ?_
 refine c_skip ?_
 refine c_seq ?_
 refine c_region ?_
 refine l_x (x_make (k1 := .i64) (k2 := .i64) (el := 5) (n := 65536) (c := 65536) (a := 65536) (b := 65536) (s := 1) (z := [.int .u8 0]) ?_ ?_ ?_ ?_ ?_ ?_ ?_ ?_ ?_) ?_ ?_ ?_
 iterate 4 rfl
 ·exact Nat.le_refl _
 iterate 6 rfl
 rintro _ _ ⟨b13, rfl, rfl⟩
 rw [hz4]
 refine l_l (light_struct rfl rfl rfl rfl) rfl rfl ?_
 refine l_x (x_box (l := [.slice (some ⟨b13, 0, none⟩) 65536 65536, .slice none 0 0]) rfl rfl) rfl rfl ?_
 rintro _ _ ⟨b15, rfl, rfl⟩
 refine RL ?_
 refine l_nil ?_
 refine c_seq ?_
 refine c_region ?_
 refine l_x (x_loadA rfl rfl rfl (row_own (l := cS s) m_m)) rfl rfl ?_
 rintro _ _ ⟨rfl, rfl⟩
 refine RLv call_9 (fun w hw => state_fn s w) ?_
 refine l_x (x_alloc rfl) rfl rfl ?_
 rintro _ _ ⟨b8, rfl, rfl⟩
 refine l_x s_t rfl rfl ?_
 rintro _ _ ⟨rfl, rfl⟩
 refine l_nil ?_
 refine c_seq ?_
 refine c_region ?_
 refine RLa ?_
 refine l_x (x_storeTo (l' := cS (⟨s.r, s.ime, s.soon, s.halt, false⟩ : CS)) 0 rfl rfl rfl rfl rfl rfl (Nat.le_of_ble_eq_true rfl) rfl) rfl rfl ?_
 rintro _ _ ⟨rfl, rfl⟩
 refine c_u ?_
 refine RLa ?_
 refine l_x (x_storeTo (l' := cS (⟨s.r, s.ime, s.soon, false, false⟩ : CS)) 0 rfl rfl rfl rfl rfl rfl (Nat.le_of_ble_eq_true rfl) rfl) rfl rfl ?_
 rintro _ _ ⟨rfl, rfl⟩
 refine c_u ?_
 refine RLa ?_
 refine l_x (x_storeTo (l' := cS (⟨s.r, false, s.soon, false, false⟩ : CS)) 0 rfl rfl rfl rfl rfl rfl (Nat.le_of_ble_eq_true rfl) rfl) rfl rfl ?_
 rintro _ _ ⟨rfl, rfl⟩
 refine c_u ?_
 refine RLa ?_
 refine l_x (x_storeTo (l' := cS (F0 s.r)) 0 rfl rfl rfl rfl rfl rfl (Nat.le_of_ble_eq_true rfl) rfl) rfl rfl ?_
 rintro _ _ ⟨rfl, rfl⟩
 refine c_u ?_
 refine l_nil ?_
 refine c_seq ?_
 refine c_region ?_
 refine RLa ?_
 refine RLa ?_
 refine RLo ?_
 refine l_as (v := (.int .u8 (s.r.f / 16 * 16))) (l_and rfl rfl) rfl rfl (congrArg _ (hi_16 hf9)) ?_
 refine RLa ?_
 refine RLa ?_
 refine l_x (x_storeTo (l' := cS (F0 { s.r with pc := 256 })) 0 rfl rfl rfl rfl rfl rfl (Nat.le_of_ble_eq_true rfl) rfl) rfl rfl ?_
 rintro _ _ ⟨rfl, rfl⟩
 refine c_u ?_
 refine RLa ?_
 refine RLa ?_
 refine l_x (x_storeTo (l' := cS (F0 { s.r with pc := 256, sp := 53248 })) 0 rfl rfl rfl rfl rfl rfl (Nat.le_of_ble_eq_true rfl) rfl) rfl rfl ?_
 rintro _ _ ⟨rfl, rfl⟩
 refine c_u ?_
 refine RLa ?_
 refine RLa ?_
 refine l_x (x_storeTo (l' := cS (F0 (rS s.r))) 0 rfl rfl rfl rfl rfl rfl (Nat.le_of_ble_eq_true rfl) rfl) rfl rfl ?_
 rintro _ _ ⟨rfl, rfl⟩
 refine c_u ?_
 refine l_nil ?_
 refine c_seq ?_
 refine c_region ?_
 refine RL ?_
 refine l_as (l_and rfl rfl) rfl rfl (by first | exact as_mask 14 16384 (by decide) rfl o_m (show _ < (65536 : Int) by omega) (show _ < (65536 : Int) by decide) | rfl) ?_
 obtain ⟨T, hT9⟩ : ∃ T : Int, T = 16384 + to % 16384 := ⟨_, rfl⟩
 have hT : 16384 ≤ T ∧ T < 32768 := by omega
 refine l_as (v := (.int .u16 T)) (l_or rfl rfl) rfl rfl (congrArg _ ((or_14 o_m).trans hT9.symm)) ?_
 refine RL ?_
 refine l_nil ?_
 refine c_seq ?_
 refine c_region ?_
 refine RL ?_
 refine RL ?_
 refine RLa ?_
 refine RLo ?_
 refine l_as (v := (.slice (some ⟨b13, 256, none⟩) 65280 65280)) (cut_slice1 256 65536 rfl rfl rfl rfl rfl rfl (by decide) (by decide)) rfl rfl (by rw [cut1_on (by decide)]) ?_
 refine RL ?_
 refine l_as (rem_pos rfl rfl (by decide)) rfl rfl (by first | exact as_rem o_m | rfl) ?_
 refine l_as (l_mul rfl rfl) rfl rfl (by first | exact as_u8 o_m o_m | exact as_u8m _) ?_
 refine l_as (l_add rfl rfl) rfl rfl (by first | exact as_u8 o_m o_m | exact as_u8m _) ?_
 refine RL ?_
 refine l_as (l_conv rfl rfl rfl) rfl rfl (by first | exact as_u8 o_m o_m | exact as_u8m _) ?_
 refine RL ?_
 refine l_as (shr_pos rfl rfl (by decide)) rfl rfl (as_shr 256 (by decide) (by decide)) ?_
 refine l_as (l_conv rfl rfl rfl) rfl rfl (by first | exact as_u8 o_m o_m | exact as_u8m _) ?_
 refine RL ?_
 refine l_as (rem_pos rfl rfl (by decide)) rfl rfl (by first | exact as_rem o_m | rfl) ?_
 refine l_as (l_mul rfl rfl) rfl rfl (by first | exact as_u8 o_m o_m | exact as_u8m _) ?_
 refine l_as (l_add rfl rfl) rfl rfl (by first | exact as_u8 o_m o_m | exact as_u8m _) ?_
 refine RL ?_
 refine l_as (rem_pos rfl rfl (by decide)) rfl rfl (by first | exact as_rem o_m | rfl) ?_
 refine l_as (l_mul rfl rfl) rfl rfl (by first | exact as_u8 o_m o_m | exact as_u8m _) ?_
 refine l_as (l_add rfl rfl) rfl rfl (by first | exact as_u8 o_m o_m | exact as_u8m _) ?_
 refine l_x (x_slc (z := [.int .u8 0]) (l := [.int .u8 (197 + n % 4 * 16), .int .u8 205, .int .u8 (T % 256), .int .u8 (T / 256), .int .u8 (193 + n % 4 * 16), .int .u8 (199 + n % 8 * 8)]) (ps := [(0, .int .u8 (197 + n % 4 * 16)), (1, .int .u8 205), (2, .int .u8 (T % 256)), (3, .int .u8 (T / 256)), (4, .int .u8 (193 + n % 4 * 16)), (5, .int .u8 (199 + n % 8 * 8))]) rfl rfl rfl rfl rfl rfl) rfl rfl ?_
 rintro _ _ ⟨b57, rfl, rfl⟩
 refine l_x (x_copyTo (l' := (putI z 256 (cdS n T)).map (.int .u8)) (m := 6) (ys := (cdS n T).map (.int .u8)) 3 rfl rfl rfl rfl rfl (fun w hw => Src.row (s := 1) b57 0 6 6 ((cdS n T).map (.int .u8)) rfl (row_own (b := b57) m_m w hw)) rfl (by rw [List.length_map, hz1]; decide) (putI_map .u8 z (cdS n T) 256)) rfl rfl ?_
 rintro _ _ ⟨rfl, rfl⟩
 refine c_u ?_
 refine l_nil ?_
 refine c_seq ?_
 refine c_draw _ [4, 5, 6, 7, 8, 9, 10, 11, 12] (.step true 0 (.step true 1 (.step true 2 (.step true 3 (.step true 4 (.step true 5 (.step true 6 (.step true 7 (.step true 8 (.step true 9 (.step true 10 (.step true 11 (.step true 12 (.step true 13 (.step false 14 (.step true 15 (.step false 16 .done))))))))))))))))) rfl (by kernel_rfl) (by kernel_rfl) (fun _ h => h) ?_
 refine RD ?_
 refine RD ?_
 refine RDa ?_
 refine RDo ?_
 iterate 3 refine RD ?_
 refine RDa ?_
 refine RDo ?_
 refine RD ?_
 refine d_as rfl (rem_pos rfl rfl (by decide)) rfl rfl rfl (by first | exact as_rem o_m | rfl) ?_
 refine d_as rfl (l_conv rfl rfl rfl) rfl rfl rfl (by first | exact as_u16 o_m o_m | exact as_u16m _) ?_
 refine d_as rfl (l_mul rfl rfl) rfl rfl rfl (by first | exact as_u16 o_m o_m | exact as_u16m _) ?_
 refine d_light rfl (idx_sliceI rfl rfl rfl o_m o_m) rfl rfl rfl ?_
 refine d_x rfl (x_storeTo (l' := ((putI z 256 (cdS n T)).set (T).toNat 201).map (.int .u8)) 3 rfl rfl rfl rfl rfl rfl (fits_in (codeS_len hz1 n T) o_m) (put_in (codeS_len hz1 n T) o_m _)) rfl rfl n_h ?_
 rintro _ _ ⟨rfl, rfl⟩
 refine c_u ?_
 refine d_light rfl (idx_sliceI rfl rfl rfl o_m o_m) rfl rfl rfl ?_
 refine d_x rfl (x_storeTo (l' := (((putI z 256 (cdS n T)).set T.toNat 201).set (n % 8 * 8).toNat 201).map (.int .u8)) 3 rfl rfl rfl rfl rfl rfl (fits_in ((List.length_set ..).trans (codeS_len hz1 n T)) o_m) (put_in ((List.length_set ..).trans (codeS_len hz1 n T)) o_m _)) rfl rfl n_h ?_
 rintro _ _ ⟨rfl, rfl⟩
 refine c_u ?_
 refine d_nil ?_
 refine c_seq ?_
 refine c_region ?_
 refine l_x (x_call call_11 rfl (fun w hw => tnew_fn w)) rfl rfl ?_
 rintro _ _ ⟨GT, ⟨tb, rfl, hTb⟩, rfl⟩
 obtain ⟨oT, rfl⟩ := hTb.one
 
 refine RL ?_
 refine l_nil ?_
 refine c_seq ?_
 refine c_region ?_
 refine l_x (x_loadA rfl rfl rfl (row_own (l := cS (F0 (rS s.r))) m_m)) rfl rfl ?_
 rintro _ _ ⟨rfl, rfl⟩
 refine l_x (x_alloc rfl) rfl rfl ?_
 rintro _ _ ⟨b10, rfl, rfl⟩
 refine l_x (x_storeTo (l' := cS (F0 (rS s.r))) 0 rfl rfl rfl rfl rfl rfl (Nat.le_of_ble_eq_true rfl) rfl) rfl rfl ?_
 rintro _ _ ⟨rfl, rfl⟩
 refine c_u ?_
 refine l_nil ?_
 refine c_seq ?_
 refine c_seq ?_
 refine c_heap (L' := (b10, blk (cS (stepN ramA (⟨F0 (rS s.r), ⟨bS z n T, []⟩⟩ : Rn Rm) 0).s) 35) :: (b8, blk (cS (F0 (rS s.r))) 35) :: (tb, oT) :: ([] ++ [(b15, blk [.slice (some ⟨b13, 0, none⟩) 65536 65536, .slice none 0 0] 32), (b13, blk ((((putI z 256 (cdS n T)).set T.toNat 201).set (n % 8 * 8).toNat 201).map (.int .u8)) 5)])) (fun w hw => (St.fl [[_], [_], [_], [_], [_], [_], [_]] [0, 3, 1, 4, 5] rfl hw).as (by simp only [List.filterMap_cons, List.filterMap_nil, List.getElem?_cons_zero, List.getElem?_cons_succ, VV.fl, List.cons_append, List.nil_append, stepN])) ?_
 have hok9 : RunOk (ramK b15 b13) (0 + 7 * 6) (⟨F0 (rS s.r), ⟨bS z n T, []⟩⟩ : Rn Rm) := ⟨rS_ok hs, bS_ok hz1 hz3 hT⟩
 refine c_region ?_
 refine RL ?_
 refine l_nil ?_
 refine c_block ?_
 refine c_loop (σ := Nat × Obj × Value × Heap) [76, 77, 78, 79, 80, 81, 82, 83, 84, 85, 86] (fun q => [(76, .int .i64 q.1)]) (fun q => (b10, blk (cS (stepN ramA (⟨F0 (rS s.r), ⟨bS z n T, []⟩⟩ : Rn Rm) q.1).s) 35) :: (b8, blk (cS (F0 (rS s.r))) 35) :: (tb, q.2.1) :: (q.2.2.2 ++ [(b15, blk [.slice (some ⟨b13, 0, none⟩) 65536 65536, q.2.2.1] 32), (b13, blk ((stepN ramA (⟨F0 (rS s.r), ⟨bS z n T, []⟩⟩ : Rn Rm) q.1).m.b.map (.int .u8)) 5)])) (fun q => q.1 ≤ 6 ∧ TabH tb (.int .u32 0) [(tb, q.2.1)] ∧ Vec 47 3 q.2.2.1 (stepN ramA (⟨F0 (rS s.r), ⟨bS z n T, []⟩⟩ : Rn Rm) q.1).m.acc.length (flat cAc (stepN ramA (⟨F0 (rS s.r), ⟨bS z n T, []⟩⟩ : Rn Rm) q.1).m.acc) q.2.2.2) (fun q => 6 - q.1) (0, oT, .slice none 0 0, []) ?_ ?_ ?_ ?_
 ·exact ⟨Nat.zero_le _, hTb, .nil⟩
 ·exact .cons rfl .nil
 ·exact fun _ h => h
 ·rintro ⟨i, oi, vi, Gi⟩ y13 ⟨hi, hTi, hVi⟩
  dsimp only at hi hTi hVi ⊢
  refine c_seq ?_
  refine c_region ?_
  refine RL ?_
  refine l_nil ?_
  refine c_seq ?_
  refine c_cond rfl (fun h1 => ?_) (fun h1 => ?_)
  ·have h1n := r_f h1
   refine c_skip ?_
   refine c_seq ?_
   refine c_block ?_
   have hx9 := (stepN_ok hok9 i hi).le (k := 0 + 7) o_m
   refine c_region ?_
   refine RL ?_
   refine l_x (x_loadA rfl rfl rfl (row_own (l := cS (stepN ramA (⟨F0 (rS s.r), ⟨bS z n T, []⟩⟩ : Rn Rm) i).s) m_m)) rfl rfl ?_
   rintro _ _ ⟨rfl, rfl⟩
   refine RL ?_
   refine RL ?_
   refine l_x (x_callT (F := [(b10, _), (b8, _)]) (A := (_, _) :: (_ ++ [_, _])) call_10 rfl (fun w hw => stepR_fn b15 b13 (n := 0) (stepN ramA (⟨F0 (rS s.r), ⟨bS z n T, []⟩⟩ : Rn Rm) i).s (stepN ramA (⟨F0 (rS s.r), ⟨bS z n T, []⟩⟩ : Rn Rm) i).m hx9.r hx9.m (d := (stepT ramA (stepN ramA (⟨F0 (rS s.r), ⟨bS z n T, []⟩⟩ : Rn Rm) i)).1) (s' := (stepN ramA (⟨F0 (rS s.r), ⟨bS z n T, []⟩⟩ : Rn Rm) (i + 1)).s) (m' := (stepN ramA (⟨F0 (rS s.r), ⟨bS z n T, []⟩⟩ : Rn Rm) (i + 1)).m) rfl _ _ hVi tb _ oi hTi w (St.lentV hw))) rfl rfl ?_
   rintro _ _ ⟨_, ⟨rfl, oT2, hT2, va2, Ga2, hV2, rfl⟩, rfl⟩
   obtain ⟨a2, c2, rfl⟩ := hV2.slice
   iterate 3 refine RL ?_
   refine l_x (x_storeTo (l' := cS (stepN ramA (⟨F0 (rS s.r), ⟨bS z n T, []⟩⟩ : Rn Rm) (i + 1)).s) 0 rfl rfl rfl rfl rfl rfl (Nat.le_of_ble_eq_true rfl) rfl) rfl rfl ?_
   rintro _ _ ⟨rfl, rfl⟩
   refine c_u ?_
   refine l_nil ?_
   refine c_region ?_
   refine l_as (v := (.int .i64 ((i + 1 : Nat) : Int))) rfl rfl rfl (congrArg _ (succ_law o_m)) ?_
   refine RL ?_
   refine l_nil ?_
   exact ⟨(i + 1, oT2, .slice a2 _ c2, Ga2), ⟨by omega, hT2, hV2⟩, by show 6 - (i + 1) < 6 - i; omega, .cons rfl .nil, a_g, fun _ h => h⟩
  ·have h1n := r_f h1
   refine c_exit rfl ?_
   refine c_seq ?_
   obtain rfl : i = 6 := by omega
   have hl9 := stacks_all hz1 hs (n := n) hT
   refine c_region ?_
   refine RLa ?_
   refine RLa ?_
   refine RLo ?_
   refine l_as (v := (.int .u16 262)) (l_add rfl rfl) rfl rfl (congrArg _ (show IntKind.u16.wrap (256 + 6) = 262 by decide)) ?_
   refine RLa ?_
   refine RLa ?_
   refine l_x (x_storeTo (l' := cS (F0 { rS s.r with pc := 262 })) 1 rfl rfl rfl rfl rfl rfl (Nat.le_of_ble_eq_true rfl) rfl) rfl rfl ?_
   rintro _ _ ⟨rfl, rfl⟩
   refine c_u ?_
   refine l_nil ?_
   refine c_seq ?_
   refine c_region ?_
   refine l_x (x_loadA rfl rfl rfl (row_own (l := cS (stepN ramA (⟨F0 (rS s.r), ⟨bS z n T, []⟩⟩ : Rn Rm) 6).s) m_m)) rfl rfl ?_
   rintro _ _ ⟨rfl, rfl⟩
   refine l_x (x_loadA rfl rfl rfl (row_own (l := cS (F0 { rS s.r with pc := 262 })) m_m)) rfl rfl ?_
   rintro _ _ ⟨rfl, rfl⟩
   refine l_eqs (ks := [.int .u8, .int .u8, .int .u8, .int .u8, .int .u8, .int .u8, .int .u8, .int .u8, .int .u16, .int .u16, .bool, .bool, .bool, .bool]) rfl rfl (by kernel_rfl) (by kernel_rfl) rfl rfl rfl rfl (b := true) (by rw [show stepN ramA (⟨F0 (rS s.r), ⟨bS z n T, []⟩⟩ : Rn Rm) 6 = stepN ramA (⟨F0 (rS s.r), ⟨bS z n T, []⟩⟩ : Rn Rm) 6 from rfl, hl9]; exact lveq_refl (ks := [.int .u8, .int .u8, .int .u8, .int .u8, .int .u8, .int .u8, .int .u8, .int .u8, .int .u16, .int .u16, .bool, .bool, .bool, .bool]) rfl) ?_
   refine RL ?_
   refine l_nil ?_
   refine c_ret ?_
   exact l_end0 (fun _ _ => rets_v rfl) ⟨rfl, rfl⟩

end Go.Proofs.Ytjjemehigdpboaa
namespace Go.Proofs.Ytjjemehigdpboaa
open Go Go.VV
section
variable {r : CR} {b : List Int} {a : List Ac} {so : Bool}
theorem s_one {o : Opr} {v : Int} (hv : atB b r.pc = v) (hd : dcd v 0 0 = o) (hs : o.size = 1) :
    stepT ramA ⟨⟨r, false, so, false, false⟩, ⟨b, a⟩⟩ = (⟨1, 0, r.pc, o, (ordT ramA o r.pc ⟨F0 { r with pc := inc16 r.pc }, noteR 3 r.pc v ⟨b, a⟩⟩).1⟩,
      if so = true ∧ o.kind ≠ 5 then ⟨{ (ordT ramA o r.pc ⟨F0 { r with pc := inc16 r.pc }, noteR 3 r.pc v ⟨b, a⟩⟩).2.s with ime := true }, (ordT ramA o r.pc ⟨F0 { r with pc := inc16 r.pc }, noteR 3 r.pc v ⟨b, a⟩⟩).2.m⟩ else (ordT ramA o r.pc ⟨F0 { r with pc := inc16 r.pc }, noteR 3 r.pc v ⟨b, a⟩⟩).2) := by
  have hn := next1 (s := F0 r) (m := ⟨b, a⟩) hv (by rw [hd, hs]; decide)
  rw [hd] at hn
  rw [ran (s := ⟨r, false, so, false, false⟩) rfl (fun h => by cases h) (fun h => by cases h) hn]
  rfl
theorem s_ei (hv : atB b r.pc = 251) : ∃ a', stepT ramA ⟨⟨r, false, so, false, false⟩, ⟨b, a⟩⟩ = (⟨1, 0, r.pc, ⟨6, 0, 0, 1, 0⟩, true⟩, ⟨⟨{ r with pc := inc16 r.pc }, so, true, false, false⟩, ⟨b, a'⟩⟩) := by
  cases so
  · exact ⟨_, (s_one hv (o := ⟨6, 0, 0, 1, 0⟩) (by kernel_rfl) rfl).trans rfl⟩
  · exact ⟨_, (s_one hv (o := ⟨6, 0, 0, 1, 0⟩) (by kernel_rfl) rfl).trans rfl⟩
theorem s_nop (hv : atB b r.pc = 0) : ∃ a', stepT ramA ⟨⟨r, false, so, false, false⟩, ⟨b, a⟩⟩ = (⟨1, 0, r.pc, ⟨1, 0, 0, 1, 0⟩, true⟩, ⟨⟨{ r with pc := inc16 r.pc }, so, false, false, false⟩, ⟨b, a'⟩⟩) := by
  cases so
  · exact ⟨_, (s_one hv (o := ⟨1, 0, 0, 1, 0⟩) (by kernel_rfl) rfl).trans rfl⟩
  · exact ⟨_, (s_one hv (o := ⟨1, 0, 0, 1, 0⟩) (by kernel_rfl) rfl).trans rfl⟩
theorem s_di (hv : atB b r.pc = 243) : ∃ a', stepT ramA ⟨⟨r, false, so, false, false⟩, ⟨b, a⟩⟩ = (⟨1, 0, r.pc, ⟨5, 0, 0, 1, 0⟩, true⟩, ⟨⟨{ r with pc := inc16 r.pc }, false, false, false, false⟩, ⟨b, a'⟩⟩) := by
  cases so
  · exact ⟨_, (s_one hv (o := ⟨5, 0, 0, 1, 0⟩) (by kernel_rfl) rfl).trans rfl⟩
  · exact ⟨_, (s_one hv (o := ⟨5, 0, 0, 1, 0⟩) (by kernel_rfl) rfl).trans rfl⟩
theorem s_reti (hv : atB b r.pc = 217) : ∃ a', stepT ramA ⟨⟨r, false, false, false, false⟩, ⟨b, a⟩⟩ = (⟨1, 0, r.pc, ⟨27, 0, 0, 1, 0⟩, true⟩, ⟨⟨{ r with pc := atB b (inc16 r.sp) * 256 + atB b r.sp, sp := inc16 (inc16 r.sp) }, true, false, false, false⟩, ⟨b, a'⟩⟩) :=
  ⟨_, (s_one hv (o := ⟨27, 0, 0, 1, 0⟩) (by kernel_rfl) rfl).trans rfl⟩
theorem s_take {h so : Bool} {p : Int} (hp : ramA.pend ⟨b, a⟩ = p) (h0 : p ≠ 0) : ∃ a', stepT ramA ⟨⟨r, true, so, h, false⟩, ⟨b, a⟩⟩ = (⟨2, low1 p, r.pc, oN, false⟩,
    ⟨⟨{ r with pc := 64 + 8 * low1 p, sp := dec16 (dec16 r.sp) }, false, false, false, false⟩, ⟨(put2 b r.sp r.pc).set 65295 (resB (atB (put2 b r.sp r.pc) 65295) (low1 p)), a'⟩⟩) ∧ a'.length = a.length + 5 := by
  have hpp : ramA.pend ⟨b, a⟩ ≠ 0 := by rw [hp]; exact h0
  have := taken (A := ramA) (s := ⟨r, true, so, h, false⟩) (m := ⟨b, a⟩) rfl rfl hpp
  rw [hp] at this
  exact ⟨_, this.trans rfl, by show (((((a ++ [_]) ++ [_]) ++ [_]) ++ [_]) ++ [_]).length = _; simp⟩
end
def cdN (k : Nat) : List Int := match k with
  | 0 => [251, 0, 0]
  | 1 => [251, 243, 0]
  | 2 => [217, 0, 0]
  | _ => [251, 251, 0]
theorem cdN_len (k : Nat) : (cdN k).length = 3 := by unfold cdN; split <;> rfl
theorem cdN_ok (k : Nat) : Byts (cdN k) := by unfold cdN; split <;> (intro x hx; simp at hx; omega)
def bN (z : List Int) (k : Nat) : List Int := putI ((putI ((z.set 65295 1).set 65535 1) 256 (cdN k)).set 53249 2) 512 [0, 0]
def rN (r : CR) : CR := { r with pc := 256, sp := 53248 }
theorem rN_ok {r : CR} (h : r.Ok) : (rN r).Ok := ⟨h.a, h.f, h.b, h.c, h.d, h.e, h.h, h.l, by show (0 : Int) ≤ 53248 ∧ (53248 : Int) < 65536; decide, by show (0 : Int) ≤ 256 ∧ (256 : Int) < 65536; decide⟩
section
variable {z : List Int} (hz : z.length = 65536) (h0 : ∀ i, z.getD i 0 = 0)
include hz
theorem bN_l1 : ((z.set 65295 1).set 65535 1).length = 65536 := by simp [hz]
theorem bN_l2 (k : Nat) : (putI ((z.set 65295 1).set 65535 1) 256 (cdN k)).length = 65536 := by rw [putI_len (by rw [cdN_len, bN_l1 hz]; decide), bN_l1 hz]
theorem bN_l3 (k : Nat) : ((putI ((z.set 65295 1).set 65535 1) 256 (cdN k)).set 53249 2).length = 65536 := by rw [List.length_set, bN_l2 hz]
theorem bN_len (k : Nat) : (bN z k).length = 65536 := by unfold bN; rw [putI_len (by rw [bN_l3 hz]; decide), bN_l3 hz]
theorem bN_code (k j : Nat) (hj : j < 3) {x : Int} (hx : x = 256 + (j : Int)) : atB (bN z k) x = (cdN k).getD j 0 := by
  unfold bN
  rw [at_off (by rw [bN_l3 hz]; decide) (by simp only [List.length_cons, List.length_nil]; omega), at_other (by omega), at_code (j := j) (by rw [cdN_len, bN_l1 hz]; decide) (by omega) (by rw [cdN_len]; exact hj)]
theorem bN_flag (k : Nat) : atB (bN z k) 65295 = 1 ∧ atB (bN z k) 65535 = 1 := by
  unfold bN
  constructor
  · rw [at_off (by rw [bN_l3 hz]; decide) (by decide), at_other (by decide), at_off (by rw [cdN_len, bN_l1 hz]; decide) (by rw [cdN_len]; decide), at_other (by decide), at_same (by omega) (by decide)]
  · rw [at_off (by rw [bN_l3 hz]; decide) (by decide), at_other (by decide), at_off (by rw [cdN_len, bN_l1 hz]; decide) (by rw [cdN_len]; decide), at_same (by simp; omega) (by decide)]
theorem bN_pend (k : Nat) (a : List Ac) : ramA.pend ⟨bN z k, a⟩ = 1 := by
  show band .u8 (band .u8 (atB (bN z k) 65295) (atB (bN z k) 65535)) 31 = 1
  rw [(bN_flag hz k).1, (bN_flag hz k).2]; decide
theorem bN_stack (k : Nat) : atB (bN z k) 53249 = 2 := by
  unfold bN
  rw [at_off (by rw [bN_l3 hz]; decide) (by decide), at_same (by rw [bN_l2 hz]; decide) (by decide)]
def whatN (x : Rn Rm) (i : Nat) : Int := (stepT ramA (stepN ramA x i)).1.what
theorem soon_0 (r : CR) : whatN ⟨F0 (rN r), ⟨bN z 0, []⟩⟩ 0 = 1 ∧ whatN ⟨F0 (rN r), ⟨bN z 0, []⟩⟩ 1 = 1 ∧ whatN ⟨F0 (rN r), ⟨bN z 0, []⟩⟩ 2 = 2 ∧ (stepN ramA ⟨F0 (rN r), ⟨bN z 0, []⟩⟩ 3).s.r.pc = 64 := by
  obtain ⟨a1, s1⟩ := s_ei (r := rN r) (b := bN z 0) (a := []) (so := false) (bN_code hz 0 0 (by decide) rfl)
  obtain ⟨a2, s2⟩ := s_nop (r := { rN r with pc := inc16 (rN r).pc }) (b := bN z 0) (a := a1) (so := true) (bN_code hz 0 1 (by decide) rfl)
  obtain ⟨a3, s3, _⟩ := s_take (r := { rN r with pc := inc16 (inc16 (rN r).pc) }) (b := bN z 0) (a := a2) (h := false) (so := false) (bN_pend hz 0 a2) (by decide)
  unfold whatN
  simp only [stepN]
  unfold F0
  rw [s1]; dsimp only; rw [s2]; dsimp only; rw [s3]
  exact ⟨rfl, rfl, rfl, rfl⟩
theorem soon_1 (r : CR) : whatN ⟨F0 (rN r), ⟨bN z 1, []⟩⟩ 0 = 1 ∧ whatN ⟨F0 (rN r), ⟨bN z 1, []⟩⟩ 1 = 1 ∧ whatN ⟨F0 (rN r), ⟨bN z 1, []⟩⟩ 2 = 1 ∧ (stepN ramA ⟨F0 (rN r), ⟨bN z 1, []⟩⟩ 3).s.r.pc = 259 ∧ (stepN ramA ⟨F0 (rN r), ⟨bN z 1, []⟩⟩ 3).s.ime = false := by
  obtain ⟨a1, s1⟩ := s_ei (r := rN r) (b := bN z 1) (a := []) (so := false) (bN_code hz 1 0 (by decide) rfl)
  obtain ⟨a2, s2⟩ := s_di (r := { rN r with pc := inc16 (rN r).pc }) (b := bN z 1) (a := a1) (so := true) (bN_code hz 1 1 (by decide) rfl)
  obtain ⟨a3, s3⟩ := s_nop (r := { rN r with pc := inc16 (inc16 (rN r).pc) }) (b := bN z 1) (a := a2) (so := false) (bN_code hz 1 2 (by decide) rfl)
  unfold whatN
  simp only [stepN]
  unfold F0
  rw [s1]; dsimp only; rw [s2]; dsimp only; rw [s3]
  exact ⟨rfl, rfl, rfl, rfl, rfl⟩
theorem soon_3 (r : CR) : whatN ⟨F0 (rN r), ⟨bN z 3, []⟩⟩ 0 = 1 ∧ whatN ⟨F0 (rN r), ⟨bN z 3, []⟩⟩ 1 = 1 ∧ whatN ⟨F0 (rN r), ⟨bN z 3, []⟩⟩ 2 = 2 ∧ (stepN ramA ⟨F0 (rN r), ⟨bN z 3, []⟩⟩ 3).s.r.pc = 64 := by
  obtain ⟨a1, s1⟩ := s_ei (r := rN r) (b := bN z 3) (a := []) (so := false) (bN_code hz 3 0 (by decide) rfl)
  obtain ⟨a2, s2⟩ := s_ei (r := { rN r with pc := inc16 (rN r).pc }) (b := bN z 3) (a := a1) (so := true) (bN_code hz 3 1 (by decide) rfl)
  obtain ⟨a3, s3, _⟩ := s_take (r := { rN r with pc := inc16 (inc16 (rN r).pc) }) (b := bN z 3) (a := a2) (h := false) (so := true) (bN_pend hz 3 a2) (by decide)
  unfold whatN
  simp only [stepN]
  unfold F0
  rw [s1]; dsimp only; rw [s2]; dsimp only; rw [s3]
  exact ⟨rfl, rfl, rfl, rfl⟩
include h0
theorem bN_zero (k : Nat) {x : Int} (hx : x = 53248 ∨ x = 64) : atB (bN z k) x = 0 := by
  unfold bN
  rw [at_off (by rw [bN_l3 hz]; decide) (by simp only [List.length_cons, List.length_nil]; omega), at_other (by omega), at_off (by rw [cdN_len, bN_l1 hz]; decide) (by rw [cdN_len]; omega), at_other (by omega), at_other (by omega)]
  exact h0 _
theorem soon_2 (r : CR) : whatN ⟨F0 (rN r), ⟨bN z 2, []⟩⟩ 0 = 1 ∧ whatN ⟨F0 (rN r), ⟨bN z 2, []⟩⟩ 1 = 2 ∧ whatN ⟨F0 (rN r), ⟨bN z 2, []⟩⟩ 2 = 1 := by
  obtain ⟨a1, s1⟩ := s_reti (r := rN r) (b := bN z 2) (a := []) (bN_code hz 2 0 (by decide) rfl)
  obtain ⟨a2, s2, _⟩ := s_take (r := { rN r with pc := atB (bN z 2) (inc16 (rN r).sp) * 256 + atB (bN z 2) (rN r).sp, sp := inc16 (inc16 (rN r).sp) }) (b := bN z 2) (a := a1) (h := false) (so := false) (bN_pend hz 2 a1) (by decide)
  have hl := bN_len hz 2
  have hc : ∀ v : Int, atB ((put2 (bN z 2) (inc16 (inc16 (rN r).sp)) v).set 65295 (resB (atB (put2 (bN z 2) (inc16 (inc16 (rN r).sp)) v) 65295) (low1 1))) (64 + 8 * low1 1) = 0 := fun v => by
    rw [at_other (by decide), at_put2 hl _ _ (by decide), show (rN r).sp = 53248 from rfl, if_neg (show ¬ (64 + 8 * low1 1 : Int) = dec16 (dec16 (inc16 (inc16 53248))) by decide), if_neg (show ¬ (64 + 8 * low1 1 : Int) = dec16 (inc16 (inc16 53248)) by decide)]
    exact bN_zero hz h0 2 (.inr (by decide))
  obtain ⟨a3, s3⟩ := s_nop (r := { rN r with pc := 64 + 8 * low1 1, sp := dec16 (dec16 (inc16 (inc16 (rN r).sp))) }) (a := a2) (so := false) (hc (atB (bN z 2) (inc16 (rN r).sp) * 256 + atB (bN z 2) (rN r).sp))
  unfold whatN
  simp only [stepN]
  unfold F0
  rw [s1]; dsimp only; rw [s2]; dsimp only; rw [s3]
  exact ⟨rfl, rfl, rfl⟩
end
end Go.Proofs.Ytjjemehigdpboaa
namespace Go.Proofs.Ytjjemehigdpboaa
open Go Go.VV Go.Proofs Go.RowKit
set_option linter.unusedSimpArgs false
set_option linter.unusedVariables false
set_option maxRecDepth 100000
theorem what3 (x : Rn Rm) : (List.range 3).map (fun j => Value.int .i64 (whatN x j)) = [.int .i64 (whatN x 0), .int .i64 (whatN x 1), .int .i64 (whatN x 2)] := rfl
theorem what_snoc (x : Rn Rm) (i : Nat) : (List.range i).map (fun j => Value.int .i64 (whatN x j)) ++ [.int .i64 (whatN x i)] = (List.range (i + 1)).map (fun j => Value.int .i64 (whatN x j)) := by simp [List.range_succ]
theorem bN_ok {z : List Int} (hz : z.length = 65536) (hb : Byts z) (k : Nat) : RamOk (0 + 7 * 3) ⟨bN z k, []⟩ :=
 ⟨bN_len hz k, putI_byts (byts_set (putI_byts (byts_set (byts_set hb _ (by decide)) _ (by decide)) (cdN_ok k) _) _ (by decide)) (by intro x hx; simp at hx; omega) _, show 0 + (0 + 7 * 3) ≤ 1000000 by decide, fun _ h => by cases h⟩

theorem soon_fn (s : CS) (hs : s.r.Ok) (n : Int) (hn : 0 ≤ n ∧ n < 256) (w : World) : Does Try.prog 5 [.agg (cS s).toArray, .int .u8 n] w [] (fun v H => H = [] ∧ v = .bool true) := by
 obtain ⟨z, hz1, hz2, hz3, hz4⟩ := zero_bytes
 obtain ⟨k, hk⟩ : ∃ k : Nat, n % 4 = (k : Int) := ⟨(n % 4).toNat, by omega⟩
 have hk4 : k < 4 := by omega
 refine does_of Try.func5 rfl rfl rfl (St.refl w) ?_
 refine c_seq ?_
 refine c_region ?_
 refine l_x (x_box (l := cS s) rfl rfl) rfl rfl ?_
 rintro _ _ ⟨b2, rfl, rfl⟩
 refine RL ?_
 refine l_nil ?_
 refine c_seq ?_
 refine c_seq ?_
 refine c_region ?_
 refine RLv call_8 (fun w hw => awake_fn w) ?_
 refine RL ?_
 refine l_nil ?_
 refine c_false rfl ?_
 refine c_skip ?_
 refine c_seq ?_
 refine c_region ?_
 refine l_x (x_make (k1 := .i64) (k2 := .i64) (el := 5) (n := 65536) (c := 65536) (a := 65536) (b := 65536) (s := 1) (z := [.int .u8 0]) ?_ ?_ ?_ ?_ ?_ ?_ ?_ ?_ ?_) ?_ ?_ ?_
 iterate 4 rfl
 ·exact Nat.le_refl _
 iterate 6 rfl
 rintro _ _ ⟨b13, rfl, rfl⟩
 rw [hz4]
 refine l_l (light_struct rfl rfl rfl rfl) rfl rfl ?_
 refine l_x (x_box (l := [.slice (some ⟨b13, 0, none⟩) 65536 65536, .slice none 0 0]) rfl rfl) rfl rfl ?_
 rintro _ _ ⟨b15, rfl, rfl⟩
 refine RL ?_
 refine l_nil ?_
 refine c_seq ?_
 refine c_draw _ [4, 5, 6, 7] (.step true 0 (.step true 1 (.step true 2 (.step true 3 (.step true 4 (.step true 5 (.step true 6 (.step true 7 (.step true 8 (.step false 9 (.step true 10 (.step false 11 .done)))))))))))) rfl (by kernel_rfl) (by kernel_rfl) (fun _ h => h) ?_
 refine RD ?_
 refine RD ?_
 refine RDa ?_
 refine RDo ?_
 refine RD ?_
 refine RD ?_
 refine RDa ?_
 refine RDo ?_
 refine d_light rfl (by first | exact idx_array1 65295 rfl rfl rfl rfl (by decide) | exact idx_slice1 65295 rfl rfl rfl rfl (by decide) | exact idx_array 65295 rfl rfl rfl rfl (by decide) | exact idx_slice 65295 rfl rfl rfl rfl (by decide)) rfl rfl rfl ?_
 refine d_x rfl (x_storeTo (l' := ((z).set 65295 1).map (.int .u8)) 1 rfl rfl rfl rfl rfl rfl (store_fits (by simp [hz1]) 65295 (by decide)) (store_in (by simp [hz1]) 65295 (by decide) _)) rfl rfl n_h ?_
 rintro _ _ ⟨rfl, rfl⟩
 refine c_u ?_
 refine d_light rfl (by first | exact idx_array1 65535 rfl rfl rfl rfl (by decide) | exact idx_slice1 65535 rfl rfl rfl rfl (by decide) | exact idx_array 65535 rfl rfl rfl rfl (by decide) | exact idx_slice 65535 rfl rfl rfl rfl (by decide)) rfl rfl rfl ?_
 refine d_x rfl (x_storeTo (l' := ((z.set 65295 1).set 65535 1).map (.int .u8)) 1 rfl rfl rfl rfl rfl rfl (store_fits (by simp [hz1]) 65535 (by decide)) (store_in (by simp [hz1]) 65535 (by decide) _)) rfl rfl n_h ?_
 rintro _ _ ⟨rfl, rfl⟩
 refine c_u ?_
 refine d_nil ?_
 refine c_seq ?_
 refine c_region ?_
 refine l_x (x_loadA rfl rfl rfl (row_own (l := cS s) m_m)) rfl rfl ?_
 rintro _ _ ⟨rfl, rfl⟩
 refine RLv call_9 (fun w hw => state_fn s w) ?_
 refine l_x (x_alloc rfl) rfl rfl ?_
 rintro _ _ ⟨b6, rfl, rfl⟩
 refine l_x s_t rfl rfl ?_
 rintro _ _ ⟨rfl, rfl⟩
 refine l_nil ?_
 refine c_seq ?_
 refine c_region ?_
 refine RLa ?_
 refine l_x (x_storeTo (l' := cS (⟨s.r, s.ime, s.soon, s.halt, false⟩ : CS)) 0 rfl rfl rfl rfl rfl rfl (Nat.le_of_ble_eq_true rfl) rfl) rfl rfl ?_
 rintro _ _ ⟨rfl, rfl⟩
 refine c_u ?_
 refine RLa ?_
 refine l_x (x_storeTo (l' := cS (⟨s.r, s.ime, s.soon, false, false⟩ : CS)) 0 rfl rfl rfl rfl rfl rfl (Nat.le_of_ble_eq_true rfl) rfl) rfl rfl ?_
 rintro _ _ ⟨rfl, rfl⟩
 refine c_u ?_
 refine RLa ?_
 refine l_x (x_storeTo (l' := cS (⟨s.r, false, s.soon, false, false⟩ : CS)) 0 rfl rfl rfl rfl rfl rfl (Nat.le_of_ble_eq_true rfl) rfl) rfl rfl ?_
 rintro _ _ ⟨rfl, rfl⟩
 refine c_u ?_
 refine RLa ?_
 refine l_x (x_storeTo (l' := cS (F0 s.r)) 0 rfl rfl rfl rfl rfl rfl (Nat.le_of_ble_eq_true rfl) rfl) rfl rfl ?_
 rintro _ _ ⟨rfl, rfl⟩
 refine c_u ?_
 refine l_nil ?_
 refine c_seq ?_
 refine c_region ?_
 refine RLa ?_
 refine RLa ?_
 refine l_x (x_storeTo (l' := cS (F0 { s.r with pc := 256 })) 0 rfl rfl rfl rfl rfl rfl (Nat.le_of_ble_eq_true rfl) rfl) rfl rfl ?_
 rintro _ _ ⟨rfl, rfl⟩
 refine c_u ?_
 refine RLa ?_
 refine RLa ?_
 refine l_x (x_storeTo (l' := cS (F0 (rN s.r))) 0 rfl rfl rfl rfl rfl rfl (Nat.le_of_ble_eq_true rfl) rfl) rfl rfl ?_
 rintro _ _ ⟨rfl, rfl⟩
 refine c_u ?_
 refine l_nil ?_
 refine c_seq ?_
 refine c_region ?_
 refine l_x (x_slc (z := [.int .u8 0]) (l := [.int .u8 251, .int .u8 0, .int .u8 0]) (ps := [(0, .int .u8 251), (1, .int .u8 0), (2, .int .u8 0)]) rfl rfl rfl rfl (by kernel_rfl) (by kernel_rfl)) rfl rfl ?_
 rintro _ _ ⟨b36, rfl, rfl⟩
 refine l_x (x_slc (z := [.int .u8 0]) (l := [.int .u8 251, .int .u8 243, .int .u8 0]) (ps := [(0, .int .u8 251), (1, .int .u8 243), (2, .int .u8 0)]) rfl rfl rfl rfl (by kernel_rfl) (by kernel_rfl)) rfl rfl ?_
 rintro _ _ ⟨b37, rfl, rfl⟩
 refine l_x (x_slc (z := [.int .u8 0]) (l := [.int .u8 217, .int .u8 0, .int .u8 0]) (ps := [(0, .int .u8 217), (1, .int .u8 0), (2, .int .u8 0)]) rfl rfl rfl rfl (by kernel_rfl) (by kernel_rfl)) rfl rfl ?_
 rintro _ _ ⟨b38, rfl, rfl⟩
 refine l_x (x_slc (z := [.int .u8 0]) (l := [.int .u8 251, .int .u8 251, .int .u8 0]) (ps := [(0, .int .u8 251), (1, .int .u8 251), (2, .int .u8 0)]) rfl rfl rfl rfl (by kernel_rfl) (by kernel_rfl)) rfl rfl ?_
 rintro _ _ ⟨b39, rfl, rfl⟩
 refine l_x (x_slc (z := [.slice none 0 0]) (l := [.slice (some ⟨b36, 0, none⟩) 3 3, .slice (some ⟨b37, 0, none⟩) 3 3, .slice (some ⟨b38, 0, none⟩) 3 3, .slice (some ⟨b39, 0, none⟩) 3 3]) (ps := [(0, .slice (some ⟨b36, 0, none⟩) 3 3), (1, .slice (some ⟨b37, 0, none⟩) 3 3), (2, .slice (some ⟨b38, 0, none⟩) 3 3), (3, .slice (some ⟨b39, 0, none⟩) 3 3)]) rfl rfl rfl rfl rfl rfl) rfl rfl ?_
 rintro _ _ ⟨b40, rfl, rfl⟩
 have hk8 : ∃ bk, ([.slice (some ⟨b36, 0, none⟩) 3 3, .slice (some ⟨b37, 0, none⟩) 3 3, .slice (some ⟨b38, 0, none⟩) 3 3, .slice (some ⟨b39, 0, none⟩) 3 3] : List Value)[0 + k]? = some (.slice (some ⟨bk, 0, none⟩) 3 3) ∧ (bk, blk ((cdN k).map (.int .u8)) 5) ∈ ([(b39, blk [.int .u8 251, .int .u8 251, .int .u8 0] 5), (b38, blk [.int .u8 217, .int .u8 0, .int .u8 0] 5), (b37, blk [.int .u8 251, .int .u8 243, .int .u8 0] 5), (b36, blk [.int .u8 251, .int .u8 0, .int .u8 0] 5)] : Heap) := by
  match k, hk4 with
  | 0, _ => exact ⟨b36, rfl, .tail _ (.tail _ (.tail _ (.head _)))⟩
  | 1, _ => exact ⟨b37, rfl, .tail _ (.tail _ (.head _))⟩
  | 2, _ => exact ⟨b38, rfl, .tail _ (.head _)⟩
  | 3, _ => exact ⟨b39, rfl, .head _⟩
 obtain ⟨bk, hk7, hk6⟩ := hk8
 refine RL ?_
 refine l_as (v := (.int .u8 (k : Int))) (rem_pos rfl rfl (by decide)) rfl rfl (congrArg _ ((Int.tmod_eq_emod_of_nonneg hn.1).trans hk)) ?_
 refine l_l (idx_slice1 k rfl rfl rfl rfl o_m) rfl rfl ?_
 refine l_x (x_load rfl rfl (at_own m_m hk7)) rfl rfl ?_
 rintro _ _ ⟨rfl, rfl⟩
 refine RL ?_
 refine l_nil ?_
 refine c_seq ?_
 refine c_region ?_
 refine RL ?_
 refine RL ?_
 refine RLa ?_
 refine RLo ?_
 refine l_as (v := (.slice (some ⟨b13, 256, none⟩) 65280 65280)) (cut_slice1 256 65536 rfl rfl rfl rfl rfl rfl (by decide) (by decide)) rfl rfl (by rw [cut1_on (by decide)]) ?_
 refine RL ?_
 refine l_x (x_copyTo (l' := (putI ((z.set 65295 1).set 65535 1) 256 (cdN k)).map (.int .u8)) (m := 3) (ys := (cdN k).map (.int .u8)) 7 rfl rfl rfl rfl rfl (fun w hw => Src.row (s := 1) bk 0 3 3 ((cdN k).map (.int .u8)) (by rw [List.length_map, cdN_len]) (row_own (b := bk) (.tail _ (List.mem_append_left _ hk6)) w hw)) (ones_int _ _) (by rw [List.length_map, bN_l1 hz1]; decide) (by rw [List.take_of_length_le (by rw [List.length_map, cdN_len]; decide)]; exact putI_map .u8 ((z.set 65295 1).set 65535 1) (cdN k) 256)) rfl rfl ?_
 rintro _ _ ⟨rfl, rfl⟩
 refine c_u ?_
 refine l_nil ?_
 refine c_seq ?_
 refine c_region ?_
 refine RL ?_
 refine RL ?_
 refine RLa ?_
 refine RLo ?_
 refine l_l (by first | exact idx_array1 53249 rfl rfl rfl rfl (by decide) | exact idx_slice1 53249 rfl rfl rfl rfl (by decide) | exact idx_array 53249 rfl rfl rfl rfl (by decide) | exact idx_slice 53249 rfl rfl rfl rfl (by decide)) rfl rfl ?_
 refine l_x (x_storeTo (l' := ((putI ((z.set 65295 1).set 65535 1) 256 (cdN k)).set 53249 2).map (.int .u8)) 7 rfl rfl rfl rfl rfl rfl (store_fits (bN_l2 hz1 k) 53249 (by decide)) (store_in (bN_l2 hz1 k) 53249 (by decide) _)) rfl rfl ?_
 rintro _ _ ⟨rfl, rfl⟩
 refine c_u ?_
 refine l_nil ?_
 refine c_seq ?_
 refine c_region ?_
 refine RL ?_
 refine RL ?_
 refine RLa ?_
 refine RLo ?_
 refine l_as (v := (.slice (some ⟨b13, 512, none⟩) 65024 65024)) (cut_slice1 512 65536 rfl rfl rfl rfl rfl rfl (by decide) (by decide)) rfl rfl (by rw [cut1_on (by decide)]) ?_
 refine l_x (x_slc (z := [.int .u8 0]) (l := [.int .u8 0, .int .u8 0]) (ps := [(0, .int .u8 0), (1, .int .u8 0)]) rfl rfl rfl rfl (by kernel_rfl) (by kernel_rfl)) rfl rfl ?_
 rintro _ _ ⟨b62, rfl, rfl⟩
 refine l_x (x_copyTo (l' := (bN z k).map (.int .u8)) (m := 2) (ys := ([0, 0] : List Int).map (.int .u8)) 8 rfl rfl rfl rfl rfl (fun w hw => Src.row (s := 1) b62 0 2 2 (([0, 0] : List Int).map (.int .u8)) rfl (row_own (b := b62) (l := [.int .u8 0, .int .u8 0]) m_m w hw)) rfl (by rw [List.length_map, bN_l3 hz1]; decide) (putI_map .u8 _ [0, 0] 512)) rfl rfl ?_
 rintro _ _ ⟨rfl, rfl⟩
 refine c_u ?_
 refine l_nil ?_
 refine c_seq ?_
 refine c_region ?_
 refine l_x (x_call call_11 rfl (fun w hw => tnew_fn w)) rfl rfl ?_
 rintro _ _ ⟨GT, ⟨tb, rfl, hT⟩, rfl⟩
 obtain ⟨oT, rfl⟩ := hT.one
 
 refine RL ?_
 refine l_nil ?_
 refine c_seq ?_
 refine c_heap (L' := (b6, blk (cS (stepN ramA (⟨F0 (rN s.r), ⟨bN z k, []⟩⟩ : Rn Rm) 0).s) 35) :: ([] ++ ((tb, oT) :: ([] ++ [(b15, blk [.slice (some ⟨b13, 0, none⟩) 65536 65536, .slice none 0 0] 32), (b13, blk ((stepN ramA (⟨F0 (rN s.r), ⟨bN z k, []⟩⟩ : Rn Rm) 0).m.b.map (.int .u8)) 5)])))) (fun w hw => (St.fl [[_], [_], [_], [_], [_], [_], [_], [_], [_], [_], [_]] [7, 0, 8, 9] rfl hw).as (by simp only [List.filterMap_cons, List.filterMap_nil, List.getElem?_cons_zero, List.getElem?_cons_succ, VV.fl, List.cons_append, List.nil_append, stepN])) ?_
 have hok9 : RunOk (ramK b15 b13) (0 + 7 * 3) (⟨F0 (rN s.r), ⟨bN z k, []⟩⟩ : Rn Rm) := ⟨rN_ok hs, bN_ok hz1 hz3 k⟩
 refine c_region ?_
 refine RL ?_
 refine l_nil ?_
 refine c_seq ?_
 refine c_seq ?_
 refine c_region ?_
 refine RL ?_
 refine l_nil ?_
 refine c_block ?_
 refine c_loop (σ := Nat × Obj × Value × Heap × Value × Heap) [9, 10, 65, 66, 67, 68, 69, 70, 71, 72, 73, 74, 75, 76, 77, 78, 79, 80] (fun q => [(9, q.2.2.2.2.1), (65, .int .i64 q.1)]) (fun q => (b6, blk (cS (stepN ramA (⟨F0 (rN s.r), ⟨bN z k, []⟩⟩ : Rn Rm) q.1).s) 35) :: (q.2.2.2.2.2 ++ ((tb, q.2.1) :: (q.2.2.2.1 ++ [(b15, blk [.slice (some ⟨b13, 0, none⟩) 65536 65536, q.2.2.1] 32), (b13, blk ((stepN ramA (⟨F0 (rN s.r), ⟨bN z k, []⟩⟩ : Rn Rm) q.1).m.b.map (.int .u8)) 5)])))) (fun q => q.1 ≤ 3 ∧ TabH tb (.int .u32 0) [(tb, q.2.1)] ∧ Vec 47 3 q.2.2.1 (stepN ramA (⟨F0 (rN s.r), ⟨bN z k, []⟩⟩ : Rn Rm) q.1).m.acc.length (flat cAc (stepN ramA (⟨F0 (rN s.r), ⟨bN z k, []⟩⟩ : Rn Rm) q.1).m.acc) q.2.2.2.1 ∧ Vec 3 1 q.2.2.2.2.1 q.1 ((List.range q.1).map (fun j => Value.int .i64 (whatN (⟨F0 (rN s.r), ⟨bN z k, []⟩⟩ : Rn Rm) j))) q.2.2.2.2.2) (fun q => 3 - q.1) (0, oT, .slice none 0 0, [], .slice none 0 0, []) ?_ ?_ ?_ ?_
 ·exact ⟨Nat.zero_le _, hT, .nil, .nil⟩
 ·exact .cons rfl (.cons rfl .nil)
 ·exact fun _ h => h
 ·rintro ⟨i, oi, vi, Gi, vw, Gw⟩ y15 ⟨hi, hTi, hVi, hW⟩
  dsimp only at hi hTi hVi hW ⊢
  obtain ⟨aw, cw, rfl⟩ := hW.slice
  refine c_seq ?_
  refine c_region ?_
  refine RL ?_
  refine l_nil ?_
  refine c_seq ?_
  refine c_cond rfl (fun h1 => ?_) (fun h1 => ?_)
  ·have h1n := r_f h1
   refine c_skip ?_
   refine c_seq ?_
   refine c_block ?_
   refine c_seq ?_
   refine c_region ?_
   refine l_x (x_alloc rfl) rfl rfl ?_
   rintro _ _ ⟨b10, rfl, rfl⟩
   refine l_nil ?_
   refine c_seq ?_
   have hx9 := (stepN_ok hok9 i hi).le (k := 0 + 7) o_m
   refine c_region ?_
   refine RL ?_
   refine l_x (x_loadA rfl rfl rfl (by first | exact row_own m_m | exact row_own_at m_m _ 14 rfl)) rfl rfl ?_
   rintro _ _ ⟨rfl, rfl⟩
   refine RL ?_
   refine RL ?_
   refine l_x (x_callT (F := ((b10, _) :: (b6, _) :: Gw)) (A := (_, _) :: (_ ++ [_, _])) call_10 rfl (fun w hw => stepR_fn b15 b13 (n := 0) (stepN ramA (⟨F0 (rN s.r), ⟨bN z k, []⟩⟩ : Rn Rm) i).s (stepN ramA (⟨F0 (rN s.r), ⟨bN z k, []⟩⟩ : Rn Rm) i).m hx9.r hx9.m (d := (stepT ramA (stepN ramA (⟨F0 (rN s.r), ⟨bN z k, []⟩⟩ : Rn Rm) i)).1) (s' := (stepN ramA (⟨F0 (rN s.r), ⟨bN z k, []⟩⟩ : Rn Rm) (i + 1)).s) (m' := (stepN ramA (⟨F0 (rN s.r), ⟨bN z k, []⟩⟩ : Rn Rm) (i + 1)).m) rfl _ _ hVi tb _ oi hTi w (St.lentV hw))) rfl rfl ?_
   rintro _ _ ⟨_, ⟨rfl, oT2, hT2, va2, Ga2, hV2, rfl⟩, rfl⟩
   obtain ⟨a2, c2, rfl⟩ := hV2.slice
   iterate 3 refine RL ?_
   refine l_x (x_storeTo (l' := cS (stepN ramA (⟨F0 (rN s.r), ⟨bN z k, []⟩⟩ : Rn Rm) (i + 1)).s) 1 rfl rfl rfl rfl rfl rfl (Nat.le_of_ble_eq_true rfl) rfl) rfl rfl ?_
   rintro _ _ ⟨rfl, rfl⟩
   refine c_u ?_
   refine l_x (x_storeTo (l' := cDd (stepT ramA (stepN ramA (⟨F0 (rN s.r), ⟨bN z k, []⟩⟩ : Rn Rm) i)).1) 0 rfl rfl rfl rfl rfl rfl (Nat.le_of_ble_eq_true rfl) rfl) rfl rfl ?_
   rintro _ _ ⟨rfl, rfl⟩
   refine c_u ?_
   refine l_nil ?_
   refine c_region ?_
   refine RL ?_
   refine RLa ?_
   refine RLo ?_
   refine l_x (x_slc (z := [.int .i64 0]) (l := [.int .i64 (whatN (⟨F0 (rN s.r), ⟨bN z k, []⟩⟩ : Rn Rm) i)]) (ps := [(0, .int .i64 (whatN (⟨F0 (rN s.r), ⟨bN z k, []⟩⟩ : Rn Rm) i))]) rfl rfl rfl rfl rfl rfl) rfl rfl ?_
   rintro _ _ ⟨b78, rfl, rfl⟩
   refine l_x (x_append (A := [(b78, _), (b10, _), (b6, _)]) (G := Gw) (v := .slice aw i cw) (n := i) (xs := ((List.range i).map (fun j => Value.int .i64 (whatN (⟨F0 (rN s.r), ⟨bN z k, []⟩⟩ : Rn Rm) j)))) (m := 1) (T := 3) (s := 1) (by_ := 8) (ys := [.int .i64 (whatN (⟨F0 (rN s.r), ⟨bN z k, []⟩⟩ : Rn Rm) i)]) rfl rfl rfl rfl hW (fun w hw => .row _ _ _ _ _ rfl (row_own (b := b78) (.head _) w hw)) rfl o_m o_m) rfl rfl ?_
   rintro v79 _ ⟨G79, hV79, _, rfl⟩
   obtain ⟨a79, c79, rfl⟩ := hV79.slice
   refine RL ?_
   refine l_nil ?_
   refine c_region ?_
   refine l_as (v := (.int .i64 ((i + 1 : Nat) : Int))) rfl rfl rfl (congrArg _ (succ_law o_m)) ?_
   refine RL ?_
   refine l_nil ?_
   exact ⟨(i + 1, oT2, .slice a2 _ c2, Ga2, .slice a79 _ c79, G79), ⟨by omega, hT2, hV2, hV79.as rfl (what_snoc _ _)⟩, by show 3 - (i + 1) < 3 - i; omega, .cons rfl (.cons rfl .nil), a_g, fun _ h => (St.fl [G79, [_], [_], [_], _] [3, 0, 4] rfl h).as (by simp only [List.filterMap_cons, List.filterMap_nil, List.getElem?_cons_zero, List.getElem?_cons_succ, VV.fl, List.cons_append, List.nil_append])⟩
  ·have h1n := r_f h1
   refine c_exit rfl ?_
   refine c_seq ?_
   refine c_seq ?_
   obtain rfl : i = 3 := by omega
   obtain ⟨bw, cpw, spw, heqw, rfl, hcw, hlw, hmw⟩ := hW.full (by decide)
   cases heqw
   rcases (show k = 0 ∨ k = 1 ∨ k = 2 ∨ k = 3 by omega) with rfl | rfl | rfl | rfl
   ·refine c_region ?_
    refine RL ?_
    have soon9 := soon_0 hz1 s.r
    refine l_as (v := (.int .u8 ((0 : Nat) : Int))) (rem_pos rfl rfl (by decide)) rfl rfl (congrArg _ ((Int.tmod_eq_emod_of_nonneg hn.1).trans hk)) ?_
    refine l_nil ?_
    refine c_block ?_
    refine c_seq ?_
    refine c_region ?_
    refine l_sure false rfl rfl rfl (by decide) ?_
    refine RL ?_
    refine l_nil ?_
    refine c_false rfl ?_
    refine c_seq ?_
    refine c_region ?_
    refine l_sure false rfl rfl rfl (by decide) ?_
    refine RL ?_
    refine l_nil ?_
    refine c_false rfl ?_
    refine c_skip ?_
    refine c_seq ?_
    refine c_region ?_
    refine RL ?_
    refine l_l (by first | exact idx_array1 0 rfl rfl rfl rfl (by decide) | exact idx_slice1 0 rfl rfl rfl rfl (by decide) | exact idx_array 0 rfl rfl rfl rfl (by decide) | exact idx_slice 0 rfl rfl rfl rfl (by decide)) rfl rfl ?_
    refine RLo ?_
    refine l_sure true rfl rfl rfl (beq_iff_eq.2 soon9.1) ?_
    refine RL ?_
    refine RL ?_
    refine l_l (by first | exact idx_array1 1 rfl rfl rfl rfl (by decide) | exact idx_slice1 1 rfl rfl rfl rfl (by decide) | exact idx_array 1 rfl rfl rfl rfl (by decide) | exact idx_slice 1 rfl rfl rfl rfl (by decide)) rfl rfl ?_
    refine RLo ?_
    refine l_sure true rfl rfl rfl (beq_iff_eq.2 soon9.2.1) ?_
    iterate 3 refine RL ?_
    refine l_l (by first | exact idx_array1 2 rfl rfl rfl rfl (by decide) | exact idx_slice1 2 rfl rfl rfl rfl (by decide) | exact idx_array 2 rfl rfl rfl rfl (by decide) | exact idx_slice 2 rfl rfl rfl rfl (by decide)) rfl rfl ?_
    refine RLo ?_
    refine l_sure true rfl rfl rfl (beq_iff_eq.2 soon9.2.2.1) ?_
    refine RL ?_
    refine RL ?_
    refine RLa ?_
    refine RLa ?_
    refine RLo ?_
    refine l_sure true rfl rfl rfl (beq_iff_eq.2 soon9.2.2.2) ?_
    refine RL ?_
    refine RL ?_
    refine l_nil ?_
    refine c_ret ?_
    exact l_end0 (fun _ _ => rets_v rfl) ⟨rfl, rfl⟩
   ·refine c_region ?_
    refine RL ?_
    have soon9 := soon_1 hz1 s.r
    refine l_as (v := (.int .u8 ((1 : Nat) : Int))) (rem_pos rfl rfl (by decide)) rfl rfl (congrArg _ ((Int.tmod_eq_emod_of_nonneg hn.1).trans hk)) ?_
    refine l_nil ?_
    refine c_block ?_
    refine c_seq ?_
    refine c_region ?_
    refine l_sure true rfl rfl rfl (by decide) ?_
    refine RL ?_
    refine l_nil ?_
    refine c_true rfl ?_
    refine c_seq ?_
    refine c_region ?_
    refine RL ?_
    refine l_l (by first | exact idx_array1 0 rfl rfl rfl rfl (by decide) | exact idx_slice1 0 rfl rfl rfl rfl (by decide) | exact idx_array 0 rfl rfl rfl rfl (by decide) | exact idx_slice 0 rfl rfl rfl rfl (by decide)) rfl rfl ?_
    refine RLo ?_
    refine l_sure true rfl rfl rfl (beq_iff_eq.2 soon9.1) ?_
    refine RL ?_
    refine RL ?_
    refine l_l (by first | exact idx_array1 1 rfl rfl rfl rfl (by decide) | exact idx_slice1 1 rfl rfl rfl rfl (by decide) | exact idx_array 1 rfl rfl rfl rfl (by decide) | exact idx_slice 1 rfl rfl rfl rfl (by decide)) rfl rfl ?_
    refine RLo ?_
    refine l_sure true rfl rfl rfl (beq_iff_eq.2 soon9.2.1) ?_
    iterate 3 refine RL ?_
    refine l_l (by first | exact idx_array1 2 rfl rfl rfl rfl (by decide) | exact idx_slice1 2 rfl rfl rfl rfl (by decide) | exact idx_array 2 rfl rfl rfl rfl (by decide) | exact idx_slice 2 rfl rfl rfl rfl (by decide)) rfl rfl ?_
    refine RLo ?_
    refine l_sure true rfl rfl rfl (beq_iff_eq.2 soon9.2.2.1) ?_
    refine RL ?_
    refine RL ?_
    refine RLa ?_
    refine RLo ?_
    refine l_sure true rfl rfl rfl (by rw [show (stepN ramA (⟨F0 (rN s.r), ⟨bN z 1, []⟩⟩ : Rn Rm) 3).s.ime = false from soon9.2.2.2.2]; rfl) ?_
    refine RL ?_
    refine RL ?_
    refine RLa ?_
    refine RLa ?_
    refine RLo ?_
    refine l_sure true rfl rfl rfl (beq_iff_eq.2 soon9.2.2.2.1) ?_
    refine RL ?_
    refine RL ?_
    refine l_nil ?_
    refine c_ret ?_
    exact l_end0 (fun _ _ => rets_v rfl) ⟨rfl, rfl⟩
   ·refine c_region ?_
    refine RL ?_
    have soon9 := soon_2 hz1 hz2 s.r
    refine l_as (v := (.int .u8 ((2 : Nat) : Int))) (rem_pos rfl rfl (by decide)) rfl rfl (congrArg _ ((Int.tmod_eq_emod_of_nonneg hn.1).trans hk)) ?_
    refine l_nil ?_
    refine c_block ?_
    refine c_seq ?_
    refine c_region ?_
    refine l_sure false rfl rfl rfl (by decide) ?_
    refine RL ?_
    refine l_nil ?_
    refine c_false rfl ?_
    refine c_seq ?_
    refine c_region ?_
    refine l_sure true rfl rfl rfl (by decide) ?_
    refine RL ?_
    refine l_nil ?_
    refine c_true rfl ?_
    refine c_seq ?_
    refine c_region ?_
    refine RL ?_
    refine l_l (by first | exact idx_array1 0 rfl rfl rfl rfl (by decide) | exact idx_slice1 0 rfl rfl rfl rfl (by decide) | exact idx_array 0 rfl rfl rfl rfl (by decide) | exact idx_slice 0 rfl rfl rfl rfl (by decide)) rfl rfl ?_
    refine RLo ?_
    refine l_sure true rfl rfl rfl (beq_iff_eq.2 soon9.1) ?_
    refine RL ?_
    refine RL ?_
    refine l_l (by first | exact idx_array1 1 rfl rfl rfl rfl (by decide) | exact idx_slice1 1 rfl rfl rfl rfl (by decide) | exact idx_array 1 rfl rfl rfl rfl (by decide) | exact idx_slice 1 rfl rfl rfl rfl (by decide)) rfl rfl ?_
    refine RLo ?_
    refine l_sure true rfl rfl rfl (beq_iff_eq.2 soon9.2.1) ?_
    iterate 3 refine RL ?_
    refine l_l (by first | exact idx_array1 2 rfl rfl rfl rfl (by decide) | exact idx_slice1 2 rfl rfl rfl rfl (by decide) | exact idx_array 2 rfl rfl rfl rfl (by decide) | exact idx_slice 2 rfl rfl rfl rfl (by decide)) rfl rfl ?_
    refine RLo ?_
    refine l_sure true rfl rfl rfl (beq_iff_eq.2 soon9.2.2) ?_
    refine RL ?_
    refine RL ?_
    refine l_nil ?_
    refine c_ret ?_
    exact l_end0 (fun _ _ => rets_v rfl) ⟨rfl, rfl⟩
   ·refine c_region ?_
    refine RL ?_
    have soon9 := soon_3 hz1 s.r
    refine l_as (v := (.int .u8 ((3 : Nat) : Int))) (rem_pos rfl rfl (by decide)) rfl rfl (congrArg _ ((Int.tmod_eq_emod_of_nonneg hn.1).trans hk)) ?_
    refine l_nil ?_
    refine c_block ?_
    refine c_seq ?_
    refine c_region ?_
    refine l_sure false rfl rfl rfl (by decide) ?_
    refine RL ?_
    refine l_nil ?_
    refine c_false rfl ?_
    refine c_seq ?_
    refine c_region ?_
    refine l_sure false rfl rfl rfl (by decide) ?_
    refine RL ?_
    refine l_nil ?_
    refine c_false rfl ?_
    refine c_skip ?_
    refine c_seq ?_
    refine c_region ?_
    refine RL ?_
    refine l_l (by first | exact idx_array1 0 rfl rfl rfl rfl (by decide) | exact idx_slice1 0 rfl rfl rfl rfl (by decide) | exact idx_array 0 rfl rfl rfl rfl (by decide) | exact idx_slice 0 rfl rfl rfl rfl (by decide)) rfl rfl ?_
    refine RLo ?_
    refine l_sure true rfl rfl rfl (beq_iff_eq.2 soon9.1) ?_
    refine RL ?_
    refine RL ?_
    refine l_l (by first | exact idx_array1 1 rfl rfl rfl rfl (by decide) | exact idx_slice1 1 rfl rfl rfl rfl (by decide) | exact idx_array 1 rfl rfl rfl rfl (by decide) | exact idx_slice 1 rfl rfl rfl rfl (by decide)) rfl rfl ?_
    refine RLo ?_
    refine l_sure true rfl rfl rfl (beq_iff_eq.2 soon9.2.1) ?_
    iterate 3 refine RL ?_
    refine l_l (by first | exact idx_array1 2 rfl rfl rfl rfl (by decide) | exact idx_slice1 2 rfl rfl rfl rfl (by decide) | exact idx_array 2 rfl rfl rfl rfl (by decide) | exact idx_slice 2 rfl rfl rfl rfl (by decide)) rfl rfl ?_
    refine RLo ?_
    refine l_sure true rfl rfl rfl (beq_iff_eq.2 soon9.2.2.1) ?_
    refine RL ?_
    refine RL ?_
    refine RLa ?_
    refine RLa ?_
    refine RLo ?_
    refine l_sure true rfl rfl rfl (beq_iff_eq.2 soon9.2.2.2) ?_
    refine RL ?_
    refine RL ?_
    refine l_nil ?_
    refine c_ret ?_
    exact l_end0 (fun _ _ => rets_v rfl) ⟨rfl, rfl⟩

end Go.Proofs.Ytjjemehigdpboaa
namespace Go.Proofs.Ytjjemehigdpboaa
open Go Go.VV

def spW (sp : Int) : Int := if sp < 49152 ∨ 61440 < sp then 53248 else sp
theorem spW_ok {sp : Int} : 49152 ≤ spW sp ∧ spW sp ≤ 61440 := by unfold spW; split <;> omega
def rW (r : CR) : CR := { r with pc := 256, sp := spW r.sp }
theorem rW_ok {r : CR} (h : r.Ok) : (rW r).Ok := ⟨h.a, h.f, h.b, h.c, h.d, h.e, h.h, h.l, by have := spW_ok (sp := r.sp); show 0 ≤ spW r.sp ∧ spW r.sp < 65536; omega, by show (0 : Int) ≤ 256 ∧ (256 : Int) < 65536; decide⟩
def sW (s : CS) (stop : Bool) : CS := ⟨rW s.r, s.ime, s.soon, true, stop⟩
def bW (z : List Int) (f l : Int) : List Int := (z.set 65295 f).set 65535 l
section
variable {z : List Int} {f l : Int} (hz : z.length = 65536)
include hz
theorem bW_len : (bW z f l).length = 65536 := by simp [bW, hz]
theorem bW_flags : atB (bW z f l) 65295 = f := by unfold bW; rw [at_other (by decide), at_same (by omega) (by decide)]
theorem bW_lets : atB (bW z f l) 65535 = l := by unfold bW; rw [at_same (by simp; omega) (by decide)]
theorem bW_pend (a : List Ac) : ramA.pend ⟨bW z f l, a⟩ = band .u8 (band .u8 f l) 31 := by
  show band .u8 (band .u8 (atB (bW z f l) 65295) (atB (bW z f l) 65535)) 31 = _
  rw [bW_flags hz, bW_lets hz]
theorem bW_ok (hb : Byts z) (hf : 0 ≤ f ∧ f < 256) (hl : 0 ≤ l ∧ l < 256) (n : Nat) (hn : n ≤ 1000000) : RamOk n ⟨bW z f l, []⟩ := ⟨bW_len hz, byts_set (byts_set hb _ hf) _ hl, by show 0 + n ≤ 1000000; omega, fun _ h => by cases h⟩
end
theorem wake_stop {z : List Int} {f l : Int} (hz : z.length = 65536) (s : CS) : stepT ramA ⟨sW s true, ⟨bW z f l, []⟩⟩ = (⟨0, 0, 256, oN, false⟩, ⟨sW s (band .u8 f l |> fun x => band .u8 (band .u8 x 31) 16 == 0), ⟨bW z f l, [⟨0, 0, 0⟩]⟩⟩) := by
  rw [stood rfl]
  have h1 := bW_pend (f := f) (l := l) hz [⟨0, 0, 0⟩]
  have h2 := pend_ok ⟨bW z f l, [⟨0, 0, 0⟩]⟩
  have h3 := wake_law h2
  show (_, (⟨⟨_, _, _, _, ramA.pend ⟨bW z f l, [⟨0, 0, 0⟩]⟩ / 16 % 2 == 0⟩, _⟩ : Rn Rm)) = _
  rw [← h3, h1]; rfl
theorem wake_none {z : List Int} {f l : Int} (hz : z.length = 65536) (s : CS) (hp : band .u8 (band .u8 f l) 31 = 0) : stepT ramA ⟨sW s false, ⟨bW z f l, []⟩⟩ = (⟨0, 0, 256, oN, false⟩, ⟨sW s false, ⟨bW z f l, [⟨0, 0, 0⟩]⟩⟩) := by
  rw [slept rfl rfl (by rw [bW_pend hz]; exact hp)]; rfl
theorem wake_ran {z : List Int} {f l : Int} (hz : z.length = 65536) (h0 : ∀ i, z.getD i 0 = 0) (s : CS) (hs : s.ime = false) (hp : band .u8 (band .u8 f l) 31 ≠ 0) :
    ∃ d s' a', stepT ramA ⟨sW s false, ⟨bW z f l, []⟩⟩ = (d, ⟨s', ⟨bW z f l, a'⟩⟩) ∧ d.what = 1 := by
  have hv : atB (bW z f l) 256 = 0 := by unfold bW; rw [at_other (by decide), at_other (by decide)]; exact h0 _
  have hd : dcd 0 0 0 = ⟨1, 0, 0, 1, 0⟩ := by kernel_rfl
  have hn := next1 (s := F0 (rW s.r)) (m := ⟨bW z f l, []⟩) hv (by rw [hd]; decide)
  rw [hd] at hn
  obtain ⟨r, im, so, ha, st⟩ := s
  dsimp only at hs; subst hs
  have := ran (s := sW ⟨r, false, so, ha, st⟩ false) (m := ⟨bW z f l, []⟩) (A := ramA) rfl (fun _ => by rw [bW_pend hz]; exact hp) (fun h => by cases h) hn
  cases so
  · exact ⟨_, _, _, this.trans rfl, rfl⟩
  · exact ⟨_, _, _, this.trans rfl, rfl⟩
theorem wake_take {z : List Int} {f l : Int} (hz : z.length = 65536) (s : CS) (hs : s.ime = true) (hp : band .u8 (band .u8 f l) 31 ≠ 0) :
    ∃ a', stepT ramA ⟨sW s false, ⟨bW z f l, []⟩⟩ = (⟨2, low1 (band .u8 (band .u8 f l) 31), 256, oN, false⟩,
      ⟨F0 { rW s.r with pc := 64 + 8 * low1 (band .u8 (band .u8 f l) 31), sp := spW s.r.sp - 2 }, ⟨(put2 (bW z f l) (spW s.r.sp) 256).set 65295 (resB f (low1 (band .u8 (band .u8 f l) 31))), a'⟩⟩) ∧ a'.length = 5 := by
  obtain ⟨r, im, so, ha, st⟩ := s
  dsimp only at hs; subst hs
  obtain ⟨a', h, hl⟩ := s_take (r := rW r) (b := bW z f l) (a := []) (h := true) (so := so) (bW_pend hz []) hp
  have hk := spW_ok (sp := r.sp)
  have e1 : dec16 (dec16 (rW r).sp) = spW r.sp - 2 := by show ((spW r.sp - 1) % 65536 - 1) % 65536 = _; omega
  have e2 : atB (put2 (bW z f l) (rW r).sp (rW r).pc) 65295 = f := by
    rw [at_put2 (bW_len hz) _ _ (by decide), e1, show dec16 (rW r).sp = spW r.sp - 1 by show (spW r.sp - 1) % 65536 = _; omega, if_neg (by omega), if_neg (by omega)]
    exact bW_flags hz
  rw [e2, e1] at h
  exact ⟨a', h, by rw [hl]; rfl⟩
theorem take_back {z : List Int} {f l v : Int} (hz : z.length = 65536) {sp : Int} (hk : 49152 ≤ sp ∧ sp ≤ 61440) :
    atB ((put2 (bW z f l) sp 256).set 65295 v) (sp - 2) = 0 ∧ atB ((put2 (bW z f l) sp 256).set 65295 v) (sp - 1) = 1 ∧ atB ((put2 (bW z f l) sp 256).set 65295 v) 65295 = v := by
  have e1 : dec16 sp = sp - 1 := by show (sp - 1) % 65536 = _; omega
  have e2 : dec16 (sp - 1) = sp - 2 := by show (sp - 1 - 1) % 65536 = _; omega
  refine ⟨?_, ?_, at_same (by rw [put2_len, bW_len hz]; decide) (by decide)⟩
  · rw [at_other (by omega), at_put2 (bW_len hz) _ _ (by omega), e1, e2, if_pos rfl]; decide
  · rw [at_other (by omega), at_put2 (bW_len hz) _ _ (by omega), e1, e2, if_neg (by omega), if_pos rfl]; decide
theorem low_all : ∀ p : Fin 32, ∀ i : Fin 5, p.val ≠ 0 → i.val ≤ (low1 (p.val : Int)).toNat → (band .u8 (shr .u8 (p.val : Int) (i.val : Int)) 1 == 0) = decide (i.val < (low1 (p.val : Int)).toNat) := by decide +kernel
theorem low_step {p : Int} (h : 0 ≤ p ∧ p < 32) (hp : p ≠ 0) {i : Nat} (hi : (i : Int) ≤ low1 p) : (band .u8 (shr .u8 p (i : Int)) 1 == 0) = decide ((i : Int) < low1 p) := by
  have hl := low1_ok p
  obtain ⟨q, rfl⟩ : ∃ q : Nat, p = q := ⟨p.toNat, by omega⟩
  have := low_all ⟨q, by omega⟩ ⟨i, by omega⟩ (by simpa using hp) (by simp; omega)
  simp only at this
  rw [this]
  congr 1
  rw [eq_iff_iff]; omega
end Go.Proofs.Ytjjemehigdpboaa
namespace Go.Proofs.Ytjjemehigdpboaa
open Go Go.VV Go.Proofs Go.RowKit
set_option linter.unusedSimpArgs false
set_option linter.unusedVariables false
set_option maxRecDepth 100000
set_option maxHeartbeats 4000000 in
theorem wakes_fn (s : CS) (hs : s.r.Ok) (f l : Int) (hf : 0 ≤ f ∧ f < 256) (hl : 0 ≤ l ∧ l < 256) (stop : Bool) (w : World) : Does Try.prog 3 [.agg (cS s).toArray, .int .u8 f, .int .u8 l, .bool stop] w [] (fun v H => H = [] ∧ v = .bool true) := by
 obtain ⟨z, hz1, hz2, hz3, hz4⟩ := zero_bytes
 refine does_of Try.func3 rfl rfl rfl (St.refl w) ?_
 refine c_seq ?_
 refine c_region ?_
 refine l_x (x_box (l := cS s) rfl rfl) rfl rfl ?_
 rintro _ _ ⟨b4, rfl, rfl⟩
 refine RL ?_
 refine l_nil ?_
 refine c_seq ?_
 refine c_seq ?_
 refine c_region ?_
 refine RLv call_8 (fun w hw => awake_fn w) ?_
 refine RL ?_
 refine l_nil ?_
 refine c_false rfl ?_
 refine c_skip ?_
 refine c_seq ?_
 refine c_region ?_
 refine l_x (x_make (k1 := .i64) (k2 := .i64) (el := 5) (n := 65536) (c := 65536) (a := 65536) (b := 65536) (s := 1) (z := [.int .u8 0]) ?_ ?_ ?_ ?_ ?_ ?_ ?_ ?_ ?_) ?_ ?_ ?_
 iterate 4 rfl
 ·exact Nat.le_refl _
 iterate 6 rfl
 rintro _ _ ⟨b18, rfl, rfl⟩
 rw [hz4]
 refine l_l (light_struct rfl rfl rfl rfl) rfl rfl ?_
 refine l_x (x_box (l := [.slice (some ⟨b18, 0, none⟩) 65536 65536, .slice none 0 0]) rfl rfl) rfl rfl ?_
 rintro _ _ ⟨b20, rfl, rfl⟩
 refine RL ?_
 refine l_nil ?_
 refine c_seq ?_
 refine c_draw _ [4, 5, 6, 7, 8, 9] (.step true 0 (.step true 1 (.step true 2 (.step true 3 (.step true 4 (.step true 5 (.step true 6 (.step true 7 (.step true 8 (.step true 9 (.step true 10 (.step false 11 (.step true 12 (.step false 13 .done)))))))))))))) rfl (by kernel_rfl) (by kernel_rfl) (fun _ h => h) ?_
 refine RD ?_
 refine RD ?_
 refine RDa ?_
 refine RDo ?_
 refine RD ?_
 refine RD ?_
 refine RDa ?_
 refine RDo ?_
 refine RD ?_
 refine RD ?_
 refine d_light rfl (by first | exact idx_array1 65295 rfl rfl rfl rfl (by decide) | exact idx_slice1 65295 rfl rfl rfl rfl (by decide) | exact idx_array 65295 rfl rfl rfl rfl (by decide) | exact idx_slice 65295 rfl rfl rfl rfl (by decide)) rfl rfl rfl ?_
 refine d_x rfl (x_storeTo (l' := (z.set 65295 f).map (.int .u8)) 1 rfl rfl rfl rfl rfl rfl (store_fits hz1 65295 (by decide)) (store_in hz1 65295 (by decide) _)) rfl rfl n_h ?_
 rintro _ _ ⟨rfl, rfl⟩
 refine c_u ?_
 refine d_light rfl (by first | exact idx_array1 65535 rfl rfl rfl rfl (by decide) | exact idx_slice1 65535 rfl rfl rfl rfl (by decide) | exact idx_array 65535 rfl rfl rfl rfl (by decide) | exact idx_slice 65535 rfl rfl rfl rfl (by decide)) rfl rfl rfl ?_
 refine d_x rfl (x_storeTo (l' := (bW z f l).map (.int .u8)) 1 rfl rfl rfl rfl rfl rfl (store_fits (by simp [hz1]) 65535 (by decide)) (store_in (by simp [hz1]) 65535 (by decide) _)) rfl rfl n_h ?_
 rintro _ _ ⟨rfl, rfl⟩
 refine c_u ?_
 refine d_nil ?_
 refine c_seq ?_
 refine c_region ?_
 refine l_x (x_loadA rfl rfl rfl (by first | exact row_own m_m | exact row_own_at m_m _ 14 rfl)) rfl rfl ?_
 rintro _ _ ⟨rfl, rfl⟩
 refine RLv call_9 (fun w hw => state_fn s w) ?_
 refine l_x (x_alloc rfl) rfl rfl ?_
 rintro _ _ ⟨b10, rfl, rfl⟩
 refine l_x s_t rfl rfl ?_
 rintro _ _ ⟨rfl, rfl⟩
 refine l_nil ?_
 refine c_seq ?_
 refine c_region ?_
 refine RL ?_
 refine RLa ?_
 refine l_x (x_storeTo (l' := cS (⟨s.r, s.ime, s.soon, s.halt, stop⟩ : CS)) 0 rfl rfl rfl rfl rfl rfl (Nat.le_of_ble_eq_true rfl) rfl) rfl rfl ?_
 rintro _ _ ⟨rfl, rfl⟩
 refine c_u ?_
 refine RLa ?_
 refine l_x (x_storeTo (l' := cS (⟨s.r, s.ime, s.soon, true, stop⟩ : CS)) 0 rfl rfl rfl rfl rfl rfl (Nat.le_of_ble_eq_true rfl) rfl) rfl rfl ?_
 rintro _ _ ⟨rfl, rfl⟩
 refine c_u ?_
 refine RLa ?_
 refine RLa ?_
 refine l_x (x_storeTo (l' := cS (⟨{ s.r with pc := 256 }, s.ime, s.soon, true, stop⟩ : CS)) 0 rfl rfl rfl rfl rfl rfl (Nat.le_of_ble_eq_true rfl) rfl) rfl rfl ?_
 rintro _ _ ⟨rfl, rfl⟩
 refine c_u ?_
 refine l_nil ?_
 refine c_cut (σ := Unit) [40, 41, 42, 43, 44, 45, 46, 47, 48, 49, 50, 51] (fun _ => []) (fun _ => (b10, blk (cS (sW s stop)) 35) :: (b20, blk [.slice (some ⟨b18, 0, none⟩) 65536 65536, .slice none 0 0] 32) :: (b18, blk ((bW z f l).map (.int .u8)) 5) :: [(b4, blk (cS s) 26)]) (fun _ => True) ?_ ?_
 ·refine c_keep [40, 41, 42, 43, 44, 45, 46, 47, 48, 49] [(49, .bool (decide (s.r.sp < 49152 ∨ 61440 < s.r.sp)))] ?_ (fun y7 => ?_)
  ·refine c_region ?_
   refine RLa ?_
   refine RLa ?_
   refine l_x (x_load rfl rfl (at_own (v := .int .u16 s.r.sp) m_m (by rfl))) rfl rfl ?_
   rintro _ _ ⟨rfl, rfl⟩
   refine RL ?_
   refine RLb (fun h1 => ?_) (fun h1 => ?_)
   ·have h1n := r_f h1
    iterate 4 refine RLp ?_
    refine RL ?_
    refine l_nil ?_
    exact ⟨.cons (congrArg Value.bool (by rw [Bool.eq_iff_iff]; simp; omega)) .nil, a_g, fun _ h => h⟩
   ·have h1n := r_f h1
    refine RLa ?_
    refine RLa ?_
    refine l_x (x_load rfl rfl (at_own (v := .int .u16 s.r.sp) m_m (by rfl))) rfl rfl ?_
    rintro _ _ ⟨rfl, rfl⟩
    refine RL ?_
    refine RL ?_
    refine l_nil ?_
    exact ⟨.cons (congrArg Value.bool (by rw [Bool.eq_iff_iff]; simp; omega)) .nil, a_g, fun _ h => h⟩
  ·refine c_cond rfl (fun h2 => ?_) (fun h2 => ?_)
   ·have h2n := r_f h2
    refine c_region ?_
    refine RLa ?_
    refine RLa ?_
    refine l_x (x_storeTo (l' := cS (⟨{ s.r with pc := 256, sp := 53248 }, s.ime, s.soon, true, stop⟩ : CS)) 0 rfl rfl rfl rfl rfl rfl (Nat.le_of_ble_eq_true rfl) rfl) rfl rfl ?_
    rintro _ _ ⟨rfl, rfl⟩
    refine c_u ?_
    refine l_nil ?_
    exact ⟨(), trivial, .nil, a_g, fun _ h => by rw [show sW s stop = ⟨{ s.r with pc := 256, sp := 53248 }, s.ime, s.soon, true, stop⟩ by unfold sW rW spW; rw [if_pos h2n]]; exact h⟩
   ·have h2n := r_f h2
    refine c_skip ?_
    exact ⟨(), trivial, .nil, a_g, fun _ h => by rw [show sW s stop = ⟨{ s.r with pc := 256, sp := s.r.sp }, s.ime, s.soon, true, stop⟩ by unfold sW rW spW; rw [if_neg h2n]]; exact h⟩
 ·rintro _ y8 _
  refine c_seq ?_
  refine c_region ?_
  refine RL ?_
  refine RL ?_
  refine l_as (v := (.int .u8 (band .u8 f l))) (l_and rfl rfl) rfl rfl rfl ?_
  refine l_as (v := (.int .u8 (band .u8 (band .u8 f l) 31))) (l_and rfl rfl) rfl rfl rfl ?_
  refine RL ?_
  refine l_nil ?_
  refine c_cut (σ := Nat × Nat × Nat × Obj × Option Addr × Nat × Heap) [12, 13, 56, 57, 58, 59, 60, 61, 62, 63] (fun q => [(12, .pointer (some ⟨q.1, 0, none⟩)), (13, .pointer (some ⟨q.2.1, 0, none⟩))]) (fun q => (q.2.1, blk (cDd (stepT ramA (⟨sW s stop, ⟨bW z f l, []⟩⟩ : Rn Rm)).1) 40) :: (q.1, blk (cS (stepT ramA (⟨sW s stop, ⟨bW z f l, []⟩⟩ : Rn Rm)).2.s) 35) :: (b10, blk (cS (sW s stop)) 35) :: (q.2.2.1, q.2.2.2.1) :: (q.2.2.2.2.2.2 ++ [(b20, blk [.slice (some ⟨b18, 0, none⟩) 65536 65536, .slice q.2.2.2.2.1 (stepT ramA (⟨sW s stop, ⟨bW z f l, []⟩⟩ : Rn Rm)).2.m.acc.length q.2.2.2.2.2.1] 32), (b18, blk ((stepT ramA (⟨sW s stop, ⟨bW z f l, []⟩⟩ : Rn Rm)).2.m.b.map (.int .u8)) 5)])) (fun q => TabH q.2.2.1 (.int .u32 0) [(q.2.2.1, q.2.2.2.1)] ∧ Vec 47 3 (.slice q.2.2.2.2.1 (stepT ramA (⟨sW s stop, ⟨bW z f l, []⟩⟩ : Rn Rm)).2.m.acc.length q.2.2.2.2.2.1) (stepT ramA (⟨sW s stop, ⟨bW z f l, []⟩⟩ : Rn Rm)).2.m.acc.length (flat cAc (stepT ramA (⟨sW s stop, ⟨bW z f l, []⟩⟩ : Rn Rm)).2.m.acc) q.2.2.2.2.2.2) ?_ ?_
  ·refine c_draw [(b10, blk (cS (sW s stop)) 35)] [0, 2, 3, 8, 9] (.step true 1 (.step true 2 (.step true 3 (.fork 0 (.fork 4 (.step true 5 (.step true 6 (.step true 7 (.fork 8 (.step false 9 (.step false 10 (.step false 11 .done))) (.fork 9 (.step false 8 (.step false 10 (.step false 11 .done))) .stop))))) (.fork 8 (.fork 4 (.step true 5 (.step true 6 (.step true 7 (.step false 9 (.step false 10 (.step false 11 .done)))))) (.fork 9 (.step false 4 (.step true 5 (.step true 6 (.step true 7 (.step false 10 (.step false 11 .done)))))) .stop)) (.fork 9 (.fork 4 (.step true 5 (.step true 6 (.step true 7 (.step false 8 (.step false 10 (.step false 11 .done)))))) (.fork 8 (.step false 4 (.step true 5 (.step true 6 (.step true 7 (.step false 10 (.step false 11 .done)))))) .stop)) .stop))) (.fork 8 (.fork 0 (.fork 4 (.step true 5 (.step true 6 (.step true 7 (.step false 9 (.step false 10 (.step false 11 .done)))))) (.fork 9 (.step false 4 (.step true 5 (.step true 6 (.step true 7 (.step false 10 (.step false 11 .done)))))) .stop)) (.fork 9 (.step false 0 (.step false 4 (.step true 5 (.step true 6 (.step true 7 (.step false 10 (.step false 11 .done))))))) .stop)) (.fork 9 (.fork 0 (.fork 4 (.step true 5 (.step true 6 (.step true 7 (.step false 8 (.step false 10 (.step false 11 .done)))))) (.fork 8 (.step false 4 (.step true 5 (.step true 6 (.step true 7 (.step false 10 (.step false 11 .done)))))) .stop)) (.fork 8 (.step false 0 (.step false 4 (.step true 5 (.step true 6 (.step true 7 (.step false 10 (.step false 11 .done))))))) .stop)) .stop)))))) rfl (by kernel_rfl) (by kernel_rfl) (fun x hx => by obtain rfl := List.mem_singleton.1 hx; exact m_m) ?_
   refine d_loadA rfl rfl rfl rfl (by first | exact srow_own m_m | exact srow_own_at m_m _ 14 rfl) rfl rfl ?_
   refine RD ?_
   refine RD ?_
   refine d_fork ?_ ?_
   ·refine d_x rfl (x_call call_11 rfl (fun w hw => tnew_fn w)) rfl rfl (by first | (intro h; cases h; done) | (intro _ _ _ hK x hx; obtain ⟨_, _, rfl⟩ := hK; obtain rfl := List.mem_singleton.1 hx; exact List.mem_append_right _ m_m)) ?_
    rintro _ _ ⟨GT, ⟨tb, rfl, hT⟩, rfl⟩
    obtain ⟨oT, rfl⟩ := hT.one
    refine d_heap (fun _ h => St.fl [[_], [_], [_], [_], [_]] [1, 4, 0, 2, 3] rfl h) ?_
    simp only [List.filterMap_cons, List.filterMap_nil, List.getElem?_cons_zero, List.getElem?_cons_succ, VV.fl, List.cons_append, List.nil_append]
    refine d_fork ?_ ?_
    ·refine d_x rfl (x_callT (F := [(b10, _), (b4, _)]) (A := (tb, _) :: ([] ++ [(b20, _), (b18, _)])) call_10 rfl (fun w hw => stepR_fn b20 b18 (n := 0) (⟨sW s stop, ⟨bW z f l, []⟩⟩ : Rn Rm).s (⟨sW s stop, ⟨bW z f l, []⟩⟩ : Rn Rm).m (rW_ok hs) (bW_ok hz1 hz3 hf hl 7 (by decide)) (d := (stepT ramA (⟨sW s stop, ⟨bW z f l, []⟩⟩ : Rn Rm)).1) (s' := (stepT ramA (⟨sW s stop, ⟨bW z f l, []⟩⟩ : Rn Rm)).2.s) (m' := (stepT ramA (⟨sW s stop, ⟨bW z f l, []⟩⟩ : Rn Rm)).2.m) rfl _ _ .nil tb _ oT hT w (St.lentV hw))) rfl rfl n_h ?_
     rintro _ _ ⟨_, ⟨rfl, oU2, hU2, va2, Ga2, hV2, rfl⟩, rfl⟩
     obtain ⟨a2, c2, rfl⟩ := hV2.slice
     refine c_u ?_
     refine d_mv rfl (vnf_eq rfl) rfl rfl ?_
     refine RD ?_
     refine RD ?_
     refine d_fork ?_ ?_
     ·refine d_x rfl (x_alloc rfl) rfl rfl (by first | (intro h; cases h; done) | (intro _ _ _ hK x hx; obtain ⟨_, rfl, rfl⟩ := hK; obtain rfl := List.mem_singleton.1 hx; exact .tail _ m_m)) ?_
      rintro _ _ ⟨b12, rfl, rfl⟩
      refine d_x rfl (x_alloc rfl) rfl rfl (by first | (intro h; cases h; done) | (intro _ _ _ hK x hx; obtain ⟨_, rfl, rfl⟩ := hK; obtain rfl := List.mem_singleton.1 hx; exact .tail _ m_m)) ?_
      rintro _ _ ⟨b13, rfl, rfl⟩
      refine d_x rfl (x_storeTo (l' := cS (stepT ramA (⟨sW s stop, ⟨bW z f l, []⟩⟩ : Rn Rm)).2.s) 1 rfl rfl rfl rfl rfl rfl (Nat.le_of_ble_eq_true rfl) rfl) rfl rfl n_h ?_
      rintro _ _ ⟨rfl, rfl⟩
      refine c_u ?_
      refine d_x rfl (x_storeTo (l' := cDd (stepT ramA (⟨sW s stop, ⟨bW z f l, []⟩⟩ : Rn Rm)).1) 0 rfl rfl rfl rfl rfl rfl (Nat.le_of_ble_eq_true rfl) rfl) rfl rfl n_h ?_
      rintro _ _ ⟨rfl, rfl⟩
      refine c_u ?_
      refine d_nil ?_
      exact ⟨(b12, b13, tb, oU2, a2, c2, Ga2), ⟨hU2, hV2⟩, .cons rfl (.cons rfl .nil), a_g, fun _ h => (St.fl [[_], [_], [_], [_], [_], Ga2, [_], [_]] [0, 1, 2, 4, 5, 6, 7] rfl h).as (by simp only [List.filterMap_cons, List.filterMap_nil, List.getElem?_cons_zero, List.getElem?_cons_succ, VV.fl, List.cons_append, List.nil_append])⟩
     refine d_fork ?_ ?_
     ·refine d_x rfl (x_alloc rfl) rfl rfl (by first | (intro h; cases h; done) | (intro _ _ _ hK x hx; obtain ⟨_, rfl, rfl⟩ := hK; obtain rfl := List.mem_singleton.1 hx; exact .tail _ m_m)) ?_
      rintro _ _ ⟨b13, rfl, rfl⟩
      refine d_x rfl (x_alloc rfl) rfl rfl (by first | (intro h; cases h; done) | (intro _ _ _ hK x hx; obtain ⟨_, rfl, rfl⟩ := hK; obtain rfl := List.mem_singleton.1 hx; exact .tail _ m_m)) ?_
      rintro _ _ ⟨b12, rfl, rfl⟩
      refine d_x rfl (x_storeTo (l' := cS (stepT ramA (⟨sW s stop, ⟨bW z f l, []⟩⟩ : Rn Rm)).2.s) 0 rfl rfl rfl rfl rfl rfl (Nat.le_of_ble_eq_true rfl) rfl) rfl rfl n_h ?_
      rintro _ _ ⟨rfl, rfl⟩
      refine c_u ?_
      refine d_x rfl (x_storeTo (l' := cDd (stepT ramA (⟨sW s stop, ⟨bW z f l, []⟩⟩ : Rn Rm)).1) 1 rfl rfl rfl rfl rfl rfl (Nat.le_of_ble_eq_true rfl) rfl) rfl rfl n_h ?_
      rintro _ _ ⟨rfl, rfl⟩
      refine c_u ?_
      refine d_nil ?_
      exact ⟨(b12, b13, tb, oU2, a2, c2, Ga2), ⟨hU2, hV2⟩, .cons rfl (.cons rfl .nil), a_g, fun _ h => (St.fl [[_], [_], [_], [_], [_], Ga2, [_], [_]] [1, 0, 2, 4, 5, 6, 7] rfl h).as (by simp only [List.filterMap_cons, List.filterMap_nil, List.getElem?_cons_zero, List.getElem?_cons_succ, VV.fl, List.cons_append, List.nil_append])⟩
     exact d_stop
    refine d_fork ?_ ?_
    ·refine d_x rfl (x_alloc rfl) rfl rfl (by first | (intro h; cases h; done) | (intro _ _ _ hK x hx; obtain ⟨_, rfl, rfl⟩ := hK; obtain rfl := List.mem_singleton.1 hx; exact .tail _ m_m)) ?_
     rintro _ _ ⟨b12, rfl, rfl⟩
     refine d_fork ?_ ?_
     ·refine d_x rfl (x_callT (F := [(b12, _), (b10, _), (b4, _)]) (A := (tb, _) :: ([] ++ [(b20, _), (b18, _)])) call_10 rfl (fun w hw => stepR_fn b20 b18 (n := 0) (⟨sW s stop, ⟨bW z f l, []⟩⟩ : Rn Rm).s (⟨sW s stop, ⟨bW z f l, []⟩⟩ : Rn Rm).m (rW_ok hs) (bW_ok hz1 hz3 hf hl 7 (by decide)) (d := (stepT ramA (⟨sW s stop, ⟨bW z f l, []⟩⟩ : Rn Rm)).1) (s' := (stepT ramA (⟨sW s stop, ⟨bW z f l, []⟩⟩ : Rn Rm)).2.s) (m' := (stepT ramA (⟨sW s stop, ⟨bW z f l, []⟩⟩ : Rn Rm)).2.m) rfl _ _ .nil tb _ oT hT w (St.lentV hw))) rfl rfl n_h ?_
      rintro _ _ ⟨_, ⟨rfl, oU2, hU2, va2, Ga2, hV2, rfl⟩, rfl⟩
      obtain ⟨a2, c2, rfl⟩ := hV2.slice
      refine c_u ?_
      refine d_mv rfl (vnf_eq rfl) rfl rfl ?_
      refine RD ?_
      refine RD ?_
      refine d_x rfl (x_alloc rfl) rfl rfl (by first | (intro h; cases h; done) | (intro _ _ _ hK x hx; obtain ⟨_, rfl, rfl⟩ := hK; obtain rfl := List.mem_singleton.1 hx; exact .tail _ m_m)) ?_
      rintro _ _ ⟨b13, rfl, rfl⟩
      refine d_x rfl (x_storeTo (l' := cS (stepT ramA (⟨sW s stop, ⟨bW z f l, []⟩⟩ : Rn Rm)).2.s) 1 rfl rfl rfl rfl rfl rfl (Nat.le_of_ble_eq_true rfl) rfl) rfl rfl n_h ?_
      rintro _ _ ⟨rfl, rfl⟩
      refine c_u ?_
      refine d_x rfl (x_storeTo (l' := cDd (stepT ramA (⟨sW s stop, ⟨bW z f l, []⟩⟩ : Rn Rm)).1) 0 rfl rfl rfl rfl rfl rfl (Nat.le_of_ble_eq_true rfl) rfl) rfl rfl n_h ?_
      rintro _ _ ⟨rfl, rfl⟩
      refine c_u ?_
      refine d_nil ?_
      exact ⟨(b12, b13, tb, oU2, a2, c2, Ga2), ⟨hU2, hV2⟩, .cons rfl (.cons rfl .nil), a_g, fun _ h => (St.fl [[_], [_], [_], [_], [_], Ga2, [_], [_]] [0, 1, 2, 4, 5, 6, 7] rfl h).as (by simp only [List.filterMap_cons, List.filterMap_nil, List.getElem?_cons_zero, List.getElem?_cons_succ, VV.fl, List.cons_append, List.nil_append])⟩
     refine d_fork ?_ ?_
     ·refine d_x rfl (x_alloc rfl) rfl rfl (by first | (intro h; cases h; done) | (intro _ _ _ hK x hx; obtain ⟨_, rfl, rfl⟩ := hK; obtain rfl := List.mem_singleton.1 hx; exact .tail _ m_m)) ?_
      rintro _ _ ⟨b13, rfl, rfl⟩
      refine d_x rfl (x_callT (F := [(b13, _), (b12, _), (b10, _), (b4, _)]) (A := (tb, _) :: ([] ++ [(b20, _), (b18, _)])) call_10 rfl (fun w hw => stepR_fn b20 b18 (n := 0) (⟨sW s stop, ⟨bW z f l, []⟩⟩ : Rn Rm).s (⟨sW s stop, ⟨bW z f l, []⟩⟩ : Rn Rm).m (rW_ok hs) (bW_ok hz1 hz3 hf hl 7 (by decide)) (d := (stepT ramA (⟨sW s stop, ⟨bW z f l, []⟩⟩ : Rn Rm)).1) (s' := (stepT ramA (⟨sW s stop, ⟨bW z f l, []⟩⟩ : Rn Rm)).2.s) (m' := (stepT ramA (⟨sW s stop, ⟨bW z f l, []⟩⟩ : Rn Rm)).2.m) rfl _ _ .nil tb _ oT hT w (St.lentV hw))) rfl rfl n_h ?_
      rintro _ _ ⟨_, ⟨rfl, oU2, hU2, va2, Ga2, hV2, rfl⟩, rfl⟩
      obtain ⟨a2, c2, rfl⟩ := hV2.slice
      refine c_u ?_
      refine d_mv rfl (vnf_eq rfl) rfl rfl ?_
      refine RD ?_
      refine RD ?_
      refine d_x rfl (x_storeTo (l' := cS (stepT ramA (⟨sW s stop, ⟨bW z f l, []⟩⟩ : Rn Rm)).2.s) 1 rfl rfl rfl rfl rfl rfl (Nat.le_of_ble_eq_true rfl) rfl) rfl rfl n_h ?_
      rintro _ _ ⟨rfl, rfl⟩
      refine c_u ?_
      refine d_x rfl (x_storeTo (l' := cDd (stepT ramA (⟨sW s stop, ⟨bW z f l, []⟩⟩ : Rn Rm)).1) 0 rfl rfl rfl rfl rfl rfl (Nat.le_of_ble_eq_true rfl) rfl) rfl rfl n_h ?_
      rintro _ _ ⟨rfl, rfl⟩
      refine c_u ?_
      refine d_nil ?_
      exact ⟨(b12, b13, tb, oU2, a2, c2, Ga2), ⟨hU2, hV2⟩, .cons rfl (.cons rfl .nil), a_g, fun _ h => (St.fl [[_], [_], [_], [_], [_], Ga2, [_], [_]] [0, 1, 2, 4, 5, 6, 7] rfl h).as (by simp only [List.filterMap_cons, List.filterMap_nil, List.getElem?_cons_zero, List.getElem?_cons_succ, VV.fl, List.cons_append, List.nil_append])⟩
     exact d_stop
    refine d_fork ?_ ?_
    ·refine d_x rfl (x_alloc rfl) rfl rfl (by first | (intro h; cases h; done) | (intro _ _ _ hK x hx; obtain ⟨_, rfl, rfl⟩ := hK; obtain rfl := List.mem_singleton.1 hx; exact .tail _ m_m)) ?_
     rintro _ _ ⟨b13, rfl, rfl⟩
     refine d_fork ?_ ?_
     ·refine d_x rfl (x_callT (F := [(b13, _), (b10, _), (b4, _)]) (A := (tb, _) :: ([] ++ [(b20, _), (b18, _)])) call_10 rfl (fun w hw => stepR_fn b20 b18 (n := 0) (⟨sW s stop, ⟨bW z f l, []⟩⟩ : Rn Rm).s (⟨sW s stop, ⟨bW z f l, []⟩⟩ : Rn Rm).m (rW_ok hs) (bW_ok hz1 hz3 hf hl 7 (by decide)) (d := (stepT ramA (⟨sW s stop, ⟨bW z f l, []⟩⟩ : Rn Rm)).1) (s' := (stepT ramA (⟨sW s stop, ⟨bW z f l, []⟩⟩ : Rn Rm)).2.s) (m' := (stepT ramA (⟨sW s stop, ⟨bW z f l, []⟩⟩ : Rn Rm)).2.m) rfl _ _ .nil tb _ oT hT w (St.lentV hw))) rfl rfl n_h ?_
      rintro _ _ ⟨_, ⟨rfl, oU2, hU2, va2, Ga2, hV2, rfl⟩, rfl⟩
      obtain ⟨a2, c2, rfl⟩ := hV2.slice
      refine c_u ?_
      refine d_mv rfl (vnf_eq rfl) rfl rfl ?_
      refine RD ?_
      refine RD ?_
      refine d_x rfl (x_alloc rfl) rfl rfl (by first | (intro h; cases h; done) | (intro _ _ _ hK x hx; obtain ⟨_, rfl, rfl⟩ := hK; obtain rfl := List.mem_singleton.1 hx; exact .tail _ m_m)) ?_
      rintro _ _ ⟨b12, rfl, rfl⟩
      refine d_x rfl (x_storeTo (l' := cS (stepT ramA (⟨sW s stop, ⟨bW z f l, []⟩⟩ : Rn Rm)).2.s) 0 rfl rfl rfl rfl rfl rfl (Nat.le_of_ble_eq_true rfl) rfl) rfl rfl n_h ?_
      rintro _ _ ⟨rfl, rfl⟩
      refine c_u ?_
      refine d_x rfl (x_storeTo (l' := cDd (stepT ramA (⟨sW s stop, ⟨bW z f l, []⟩⟩ : Rn Rm)).1) 1 rfl rfl rfl rfl rfl rfl (Nat.le_of_ble_eq_true rfl) rfl) rfl rfl n_h ?_
      rintro _ _ ⟨rfl, rfl⟩
      refine c_u ?_
      refine d_nil ?_
      exact ⟨(b12, b13, tb, oU2, a2, c2, Ga2), ⟨hU2, hV2⟩, .cons rfl (.cons rfl .nil), a_g, fun _ h => (St.fl [[_], [_], [_], [_], [_], Ga2, [_], [_]] [1, 0, 2, 4, 5, 6, 7] rfl h).as (by simp only [List.filterMap_cons, List.filterMap_nil, List.getElem?_cons_zero, List.getElem?_cons_succ, VV.fl, List.cons_append, List.nil_append])⟩
     refine d_fork ?_ ?_
     ·refine d_x rfl (x_alloc rfl) rfl rfl (by first | (intro h; cases h; done) | (intro _ _ _ hK x hx; obtain ⟨_, rfl, rfl⟩ := hK; obtain rfl := List.mem_singleton.1 hx; exact .tail _ m_m)) ?_
      rintro _ _ ⟨b12, rfl, rfl⟩
      refine d_x rfl (x_callT (F := [(b12, _), (b13, _), (b10, _), (b4, _)]) (A := (tb, _) :: ([] ++ [(b20, _), (b18, _)])) call_10 rfl (fun w hw => stepR_fn b20 b18 (n := 0) (⟨sW s stop, ⟨bW z f l, []⟩⟩ : Rn Rm).s (⟨sW s stop, ⟨bW z f l, []⟩⟩ : Rn Rm).m (rW_ok hs) (bW_ok hz1 hz3 hf hl 7 (by decide)) (d := (stepT ramA (⟨sW s stop, ⟨bW z f l, []⟩⟩ : Rn Rm)).1) (s' := (stepT ramA (⟨sW s stop, ⟨bW z f l, []⟩⟩ : Rn Rm)).2.s) (m' := (stepT ramA (⟨sW s stop, ⟨bW z f l, []⟩⟩ : Rn Rm)).2.m) rfl _ _ .nil tb _ oT hT w (St.lentV hw))) rfl rfl n_h ?_
      rintro _ _ ⟨_, ⟨rfl, oU2, hU2, va2, Ga2, hV2, rfl⟩, rfl⟩
      obtain ⟨a2, c2, rfl⟩ := hV2.slice
      refine c_u ?_
      refine d_mv rfl (vnf_eq rfl) rfl rfl ?_
      refine RD ?_
      refine RD ?_
      refine d_x rfl (x_storeTo (l' := cS (stepT ramA (⟨sW s stop, ⟨bW z f l, []⟩⟩ : Rn Rm)).2.s) 0 rfl rfl rfl rfl rfl rfl (Nat.le_of_ble_eq_true rfl) rfl) rfl rfl n_h ?_
      rintro _ _ ⟨rfl, rfl⟩
      refine c_u ?_
      refine d_x rfl (x_storeTo (l' := cDd (stepT ramA (⟨sW s stop, ⟨bW z f l, []⟩⟩ : Rn Rm)).1) 1 rfl rfl rfl rfl rfl rfl (Nat.le_of_ble_eq_true rfl) rfl) rfl rfl n_h ?_
      rintro _ _ ⟨rfl, rfl⟩
      refine c_u ?_
      refine d_nil ?_
      exact ⟨(b12, b13, tb, oU2, a2, c2, Ga2), ⟨hU2, hV2⟩, .cons rfl (.cons rfl .nil), a_g, fun _ h => (St.fl [[_], [_], [_], [_], [_], Ga2, [_], [_]] [1, 0, 2, 4, 5, 6, 7] rfl h).as (by simp only [List.filterMap_cons, List.filterMap_nil, List.getElem?_cons_zero, List.getElem?_cons_succ, VV.fl, List.cons_append, List.nil_append])⟩
     exact d_stop
    exact d_stop
   refine d_fork ?_ ?_
   ·refine d_x rfl (x_alloc rfl) rfl rfl (by first | (intro h; cases h; done) | (intro _ _ _ hK x hx; obtain ⟨_, rfl, rfl⟩ := hK; obtain rfl := List.mem_singleton.1 hx; exact .tail _ m_m)) ?_
    rintro _ _ ⟨b12, rfl, rfl⟩
    refine d_fork ?_ ?_
    ·refine d_x rfl (x_call call_11 rfl (fun w hw => tnew_fn w)) rfl rfl (by first | (intro h; cases h; done) | (intro _ _ _ hK x hx; obtain ⟨_, _, rfl⟩ := hK; obtain rfl := List.mem_singleton.1 hx; exact List.mem_append_right _ m_m)) ?_
     rintro _ _ ⟨GT, ⟨tb, rfl, hT⟩, rfl⟩
     obtain ⟨oT, rfl⟩ := hT.one
     refine d_heap (fun _ h => St.fl [[_], [_], [_], [_], [_], [_]] [1, 2, 5, 0, 3, 4] rfl h) ?_
     simp only [List.filterMap_cons, List.filterMap_nil, List.getElem?_cons_zero, List.getElem?_cons_succ, VV.fl, List.cons_append, List.nil_append]
     refine d_fork ?_ ?_
     ·refine d_x rfl (x_callT (F := [(b12, _), (b10, _), (b4, _)]) (A := (tb, _) :: ([] ++ [(b20, _), (b18, _)])) call_10 rfl (fun w hw => stepR_fn b20 b18 (n := 0) (⟨sW s stop, ⟨bW z f l, []⟩⟩ : Rn Rm).s (⟨sW s stop, ⟨bW z f l, []⟩⟩ : Rn Rm).m (rW_ok hs) (bW_ok hz1 hz3 hf hl 7 (by decide)) (d := (stepT ramA (⟨sW s stop, ⟨bW z f l, []⟩⟩ : Rn Rm)).1) (s' := (stepT ramA (⟨sW s stop, ⟨bW z f l, []⟩⟩ : Rn Rm)).2.s) (m' := (stepT ramA (⟨sW s stop, ⟨bW z f l, []⟩⟩ : Rn Rm)).2.m) rfl _ _ .nil tb _ oT hT w (St.lentV hw))) rfl rfl n_h ?_
      rintro _ _ ⟨_, ⟨rfl, oU2, hU2, va2, Ga2, hV2, rfl⟩, rfl⟩
      obtain ⟨a2, c2, rfl⟩ := hV2.slice
      refine c_u ?_
      refine d_mv rfl (vnf_eq rfl) rfl rfl ?_
      refine RD ?_
      refine RD ?_
      refine d_x rfl (x_alloc rfl) rfl rfl (by first | (intro h; cases h; done) | (intro _ _ _ hK x hx; obtain ⟨_, rfl, rfl⟩ := hK; obtain rfl := List.mem_singleton.1 hx; exact .tail _ m_m)) ?_
      rintro _ _ ⟨b13, rfl, rfl⟩
      refine d_x rfl (x_storeTo (l' := cS (stepT ramA (⟨sW s stop, ⟨bW z f l, []⟩⟩ : Rn Rm)).2.s) 1 rfl rfl rfl rfl rfl rfl (Nat.le_of_ble_eq_true rfl) rfl) rfl rfl n_h ?_
      rintro _ _ ⟨rfl, rfl⟩
      refine c_u ?_
      refine d_x rfl (x_storeTo (l' := cDd (stepT ramA (⟨sW s stop, ⟨bW z f l, []⟩⟩ : Rn Rm)).1) 0 rfl rfl rfl rfl rfl rfl (Nat.le_of_ble_eq_true rfl) rfl) rfl rfl n_h ?_
      rintro _ _ ⟨rfl, rfl⟩
      refine c_u ?_
      refine d_nil ?_
      exact ⟨(b12, b13, tb, oU2, a2, c2, Ga2), ⟨hU2, hV2⟩, .cons rfl (.cons rfl .nil), a_g, fun _ h => (St.fl [[_], [_], [_], [_], [_], Ga2, [_], [_]] [0, 1, 2, 4, 5, 6, 7] rfl h).as (by simp only [List.filterMap_cons, List.filterMap_nil, List.getElem?_cons_zero, List.getElem?_cons_succ, VV.fl, List.cons_append, List.nil_append])⟩
     refine d_fork ?_ ?_
     ·refine d_x rfl (x_alloc rfl) rfl rfl (by first | (intro h; cases h; done) | (intro _ _ _ hK x hx; obtain ⟨_, rfl, rfl⟩ := hK; obtain rfl := List.mem_singleton.1 hx; exact .tail _ m_m)) ?_
      rintro _ _ ⟨b13, rfl, rfl⟩
      refine d_x rfl (x_callT (F := [(b13, _), (b12, _), (b10, _), (b4, _)]) (A := (tb, _) :: ([] ++ [(b20, _), (b18, _)])) call_10 rfl (fun w hw => stepR_fn b20 b18 (n := 0) (⟨sW s stop, ⟨bW z f l, []⟩⟩ : Rn Rm).s (⟨sW s stop, ⟨bW z f l, []⟩⟩ : Rn Rm).m (rW_ok hs) (bW_ok hz1 hz3 hf hl 7 (by decide)) (d := (stepT ramA (⟨sW s stop, ⟨bW z f l, []⟩⟩ : Rn Rm)).1) (s' := (stepT ramA (⟨sW s stop, ⟨bW z f l, []⟩⟩ : Rn Rm)).2.s) (m' := (stepT ramA (⟨sW s stop, ⟨bW z f l, []⟩⟩ : Rn Rm)).2.m) rfl _ _ .nil tb _ oT hT w (St.lentV hw))) rfl rfl n_h ?_
      rintro _ _ ⟨_, ⟨rfl, oU2, hU2, va2, Ga2, hV2, rfl⟩, rfl⟩
      obtain ⟨a2, c2, rfl⟩ := hV2.slice
      refine c_u ?_
      refine d_mv rfl (vnf_eq rfl) rfl rfl ?_
      refine RD ?_
      refine RD ?_
      refine d_x rfl (x_storeTo (l' := cS (stepT ramA (⟨sW s stop, ⟨bW z f l, []⟩⟩ : Rn Rm)).2.s) 1 rfl rfl rfl rfl rfl rfl (Nat.le_of_ble_eq_true rfl) rfl) rfl rfl n_h ?_
      rintro _ _ ⟨rfl, rfl⟩
      refine c_u ?_
      refine d_x rfl (x_storeTo (l' := cDd (stepT ramA (⟨sW s stop, ⟨bW z f l, []⟩⟩ : Rn Rm)).1) 0 rfl rfl rfl rfl rfl rfl (Nat.le_of_ble_eq_true rfl) rfl) rfl rfl n_h ?_
      rintro _ _ ⟨rfl, rfl⟩
      refine c_u ?_
      refine d_nil ?_
      exact ⟨(b12, b13, tb, oU2, a2, c2, Ga2), ⟨hU2, hV2⟩, .cons rfl (.cons rfl .nil), a_g, fun _ h => (St.fl [[_], [_], [_], [_], [_], Ga2, [_], [_]] [0, 1, 2, 4, 5, 6, 7] rfl h).as (by simp only [List.filterMap_cons, List.filterMap_nil, List.getElem?_cons_zero, List.getElem?_cons_succ, VV.fl, List.cons_append, List.nil_append])⟩
     exact d_stop
    refine d_fork ?_ ?_
    ·refine d_x rfl (x_alloc rfl) rfl rfl (by first | (intro h; cases h; done) | (intro _ _ _ hK x hx; obtain ⟨_, rfl, rfl⟩ := hK; obtain rfl := List.mem_singleton.1 hx; exact .tail _ m_m)) ?_
     rintro _ _ ⟨b13, rfl, rfl⟩
     refine d_x rfl (x_call call_11 rfl (fun w hw => tnew_fn w)) rfl rfl (by first | (intro h; cases h; done) | (intro _ _ _ hK x hx; obtain ⟨_, _, rfl⟩ := hK; obtain rfl := List.mem_singleton.1 hx; exact List.mem_append_right _ m_m)) ?_
     rintro _ _ ⟨GT, ⟨tb, rfl, hT⟩, rfl⟩
     obtain ⟨oT, rfl⟩ := hT.one
     refine d_heap (fun _ h => St.fl [[_], [_], [_], [_], [_], [_], [_]] [1, 2, 3, 6, 0, 4, 5] rfl h) ?_
     simp only [List.filterMap_cons, List.filterMap_nil, List.getElem?_cons_zero, List.getElem?_cons_succ, VV.fl, List.cons_append, List.nil_append]
     refine d_x rfl (x_callT (F := [(b13, _), (b12, _), (b10, _), (b4, _)]) (A := (tb, _) :: ([] ++ [(b20, _), (b18, _)])) call_10 rfl (fun w hw => stepR_fn b20 b18 (n := 0) (⟨sW s stop, ⟨bW z f l, []⟩⟩ : Rn Rm).s (⟨sW s stop, ⟨bW z f l, []⟩⟩ : Rn Rm).m (rW_ok hs) (bW_ok hz1 hz3 hf hl 7 (by decide)) (d := (stepT ramA (⟨sW s stop, ⟨bW z f l, []⟩⟩ : Rn Rm)).1) (s' := (stepT ramA (⟨sW s stop, ⟨bW z f l, []⟩⟩ : Rn Rm)).2.s) (m' := (stepT ramA (⟨sW s stop, ⟨bW z f l, []⟩⟩ : Rn Rm)).2.m) rfl _ _ .nil tb _ oT hT w (St.lentV hw))) rfl rfl n_h ?_
     rintro _ _ ⟨_, ⟨rfl, oU2, hU2, va2, Ga2, hV2, rfl⟩, rfl⟩
     obtain ⟨a2, c2, rfl⟩ := hV2.slice
     refine c_u ?_
     refine d_mv rfl (vnf_eq rfl) rfl rfl ?_
     refine RD ?_
     refine RD ?_
     refine d_x rfl (x_storeTo (l' := cS (stepT ramA (⟨sW s stop, ⟨bW z f l, []⟩⟩ : Rn Rm)).2.s) 1 rfl rfl rfl rfl rfl rfl (Nat.le_of_ble_eq_true rfl) rfl) rfl rfl n_h ?_
     rintro _ _ ⟨rfl, rfl⟩
     refine c_u ?_
     refine d_x rfl (x_storeTo (l' := cDd (stepT ramA (⟨sW s stop, ⟨bW z f l, []⟩⟩ : Rn Rm)).1) 0 rfl rfl rfl rfl rfl rfl (Nat.le_of_ble_eq_true rfl) rfl) rfl rfl n_h ?_
     rintro _ _ ⟨rfl, rfl⟩
     refine c_u ?_
     refine d_nil ?_
     exact ⟨(b12, b13, tb, oU2, a2, c2, Ga2), ⟨hU2, hV2⟩, .cons rfl (.cons rfl .nil), a_g, fun _ h => (St.fl [[_], [_], [_], [_], [_], Ga2, [_], [_]] [0, 1, 2, 4, 5, 6, 7] rfl h).as (by simp only [List.filterMap_cons, List.filterMap_nil, List.getElem?_cons_zero, List.getElem?_cons_succ, VV.fl, List.cons_append, List.nil_append])⟩
    exact d_stop
   refine d_fork ?_ ?_
   ·refine d_x rfl (x_alloc rfl) rfl rfl (by first | (intro h; cases h; done) | (intro _ _ _ hK x hx; obtain ⟨_, rfl, rfl⟩ := hK; obtain rfl := List.mem_singleton.1 hx; exact .tail _ m_m)) ?_
    rintro _ _ ⟨b13, rfl, rfl⟩
    refine d_fork ?_ ?_
    ·refine d_x rfl (x_call call_11 rfl (fun w hw => tnew_fn w)) rfl rfl (by first | (intro h; cases h; done) | (intro _ _ _ hK x hx; obtain ⟨_, _, rfl⟩ := hK; obtain rfl := List.mem_singleton.1 hx; exact List.mem_append_right _ m_m)) ?_
     rintro _ _ ⟨GT, ⟨tb, rfl, hT⟩, rfl⟩
     obtain ⟨oT, rfl⟩ := hT.one
     refine d_heap (fun _ h => St.fl [[_], [_], [_], [_], [_], [_]] [1, 2, 5, 0, 3, 4] rfl h) ?_
     simp only [List.filterMap_cons, List.filterMap_nil, List.getElem?_cons_zero, List.getElem?_cons_succ, VV.fl, List.cons_append, List.nil_append]
     refine d_fork ?_ ?_
     ·refine d_x rfl (x_callT (F := [(b13, _), (b10, _), (b4, _)]) (A := (tb, _) :: ([] ++ [(b20, _), (b18, _)])) call_10 rfl (fun w hw => stepR_fn b20 b18 (n := 0) (⟨sW s stop, ⟨bW z f l, []⟩⟩ : Rn Rm).s (⟨sW s stop, ⟨bW z f l, []⟩⟩ : Rn Rm).m (rW_ok hs) (bW_ok hz1 hz3 hf hl 7 (by decide)) (d := (stepT ramA (⟨sW s stop, ⟨bW z f l, []⟩⟩ : Rn Rm)).1) (s' := (stepT ramA (⟨sW s stop, ⟨bW z f l, []⟩⟩ : Rn Rm)).2.s) (m' := (stepT ramA (⟨sW s stop, ⟨bW z f l, []⟩⟩ : Rn Rm)).2.m) rfl _ _ .nil tb _ oT hT w (St.lentV hw))) rfl rfl n_h ?_
      rintro _ _ ⟨_, ⟨rfl, oU2, hU2, va2, Ga2, hV2, rfl⟩, rfl⟩
      obtain ⟨a2, c2, rfl⟩ := hV2.slice
      refine c_u ?_
      refine d_mv rfl (vnf_eq rfl) rfl rfl ?_
      refine RD ?_
      refine RD ?_
      refine d_x rfl (x_alloc rfl) rfl rfl (by first | (intro h; cases h; done) | (intro _ _ _ hK x hx; obtain ⟨_, rfl, rfl⟩ := hK; obtain rfl := List.mem_singleton.1 hx; exact .tail _ m_m)) ?_
      rintro _ _ ⟨b12, rfl, rfl⟩
      refine d_x rfl (x_storeTo (l' := cS (stepT ramA (⟨sW s stop, ⟨bW z f l, []⟩⟩ : Rn Rm)).2.s) 0 rfl rfl rfl rfl rfl rfl (Nat.le_of_ble_eq_true rfl) rfl) rfl rfl n_h ?_
      rintro _ _ ⟨rfl, rfl⟩
      refine c_u ?_
      refine d_x rfl (x_storeTo (l' := cDd (stepT ramA (⟨sW s stop, ⟨bW z f l, []⟩⟩ : Rn Rm)).1) 1 rfl rfl rfl rfl rfl rfl (Nat.le_of_ble_eq_true rfl) rfl) rfl rfl n_h ?_
      rintro _ _ ⟨rfl, rfl⟩
      refine c_u ?_
      refine d_nil ?_
      exact ⟨(b12, b13, tb, oU2, a2, c2, Ga2), ⟨hU2, hV2⟩, .cons rfl (.cons rfl .nil), a_g, fun _ h => (St.fl [[_], [_], [_], [_], [_], Ga2, [_], [_]] [1, 0, 2, 4, 5, 6, 7] rfl h).as (by simp only [List.filterMap_cons, List.filterMap_nil, List.getElem?_cons_zero, List.getElem?_cons_succ, VV.fl, List.cons_append, List.nil_append])⟩
     refine d_fork ?_ ?_
     ·refine d_x rfl (x_alloc rfl) rfl rfl (by first | (intro h; cases h; done) | (intro _ _ _ hK x hx; obtain ⟨_, rfl, rfl⟩ := hK; obtain rfl := List.mem_singleton.1 hx; exact .tail _ m_m)) ?_
      rintro _ _ ⟨b12, rfl, rfl⟩
      refine d_x rfl (x_callT (F := [(b12, _), (b13, _), (b10, _), (b4, _)]) (A := (tb, _) :: ([] ++ [(b20, _), (b18, _)])) call_10 rfl (fun w hw => stepR_fn b20 b18 (n := 0) (⟨sW s stop, ⟨bW z f l, []⟩⟩ : Rn Rm).s (⟨sW s stop, ⟨bW z f l, []⟩⟩ : Rn Rm).m (rW_ok hs) (bW_ok hz1 hz3 hf hl 7 (by decide)) (d := (stepT ramA (⟨sW s stop, ⟨bW z f l, []⟩⟩ : Rn Rm)).1) (s' := (stepT ramA (⟨sW s stop, ⟨bW z f l, []⟩⟩ : Rn Rm)).2.s) (m' := (stepT ramA (⟨sW s stop, ⟨bW z f l, []⟩⟩ : Rn Rm)).2.m) rfl _ _ .nil tb _ oT hT w (St.lentV hw))) rfl rfl n_h ?_
      rintro _ _ ⟨_, ⟨rfl, oU2, hU2, va2, Ga2, hV2, rfl⟩, rfl⟩
      obtain ⟨a2, c2, rfl⟩ := hV2.slice
      refine c_u ?_
      refine d_mv rfl (vnf_eq rfl) rfl rfl ?_
      refine RD ?_
      refine RD ?_
      refine d_x rfl (x_storeTo (l' := cS (stepT ramA (⟨sW s stop, ⟨bW z f l, []⟩⟩ : Rn Rm)).2.s) 0 rfl rfl rfl rfl rfl rfl (Nat.le_of_ble_eq_true rfl) rfl) rfl rfl n_h ?_
      rintro _ _ ⟨rfl, rfl⟩
      refine c_u ?_
      refine d_x rfl (x_storeTo (l' := cDd (stepT ramA (⟨sW s stop, ⟨bW z f l, []⟩⟩ : Rn Rm)).1) 1 rfl rfl rfl rfl rfl rfl (Nat.le_of_ble_eq_true rfl) rfl) rfl rfl n_h ?_
      rintro _ _ ⟨rfl, rfl⟩
      refine c_u ?_
      refine d_nil ?_
      exact ⟨(b12, b13, tb, oU2, a2, c2, Ga2), ⟨hU2, hV2⟩, .cons rfl (.cons rfl .nil), a_g, fun _ h => (St.fl [[_], [_], [_], [_], [_], Ga2, [_], [_]] [1, 0, 2, 4, 5, 6, 7] rfl h).as (by simp only [List.filterMap_cons, List.filterMap_nil, List.getElem?_cons_zero, List.getElem?_cons_succ, VV.fl, List.cons_append, List.nil_append])⟩
     exact d_stop
    refine d_fork ?_ ?_
    ·refine d_x rfl (x_alloc rfl) rfl rfl (by first | (intro h; cases h; done) | (intro _ _ _ hK x hx; obtain ⟨_, rfl, rfl⟩ := hK; obtain rfl := List.mem_singleton.1 hx; exact .tail _ m_m)) ?_
     rintro _ _ ⟨b12, rfl, rfl⟩
     refine d_x rfl (x_call call_11 rfl (fun w hw => tnew_fn w)) rfl rfl (by first | (intro h; cases h; done) | (intro _ _ _ hK x hx; obtain ⟨_, _, rfl⟩ := hK; obtain rfl := List.mem_singleton.1 hx; exact List.mem_append_right _ m_m)) ?_
     rintro _ _ ⟨GT, ⟨tb, rfl, hT⟩, rfl⟩
     obtain ⟨oT, rfl⟩ := hT.one
     refine d_heap (fun _ h => St.fl [[_], [_], [_], [_], [_], [_], [_]] [1, 2, 3, 6, 0, 4, 5] rfl h) ?_
     simp only [List.filterMap_cons, List.filterMap_nil, List.getElem?_cons_zero, List.getElem?_cons_succ, VV.fl, List.cons_append, List.nil_append]
     refine d_x rfl (x_callT (F := [(b12, _), (b13, _), (b10, _), (b4, _)]) (A := (tb, _) :: ([] ++ [(b20, _), (b18, _)])) call_10 rfl (fun w hw => stepR_fn b20 b18 (n := 0) (⟨sW s stop, ⟨bW z f l, []⟩⟩ : Rn Rm).s (⟨sW s stop, ⟨bW z f l, []⟩⟩ : Rn Rm).m (rW_ok hs) (bW_ok hz1 hz3 hf hl 7 (by decide)) (d := (stepT ramA (⟨sW s stop, ⟨bW z f l, []⟩⟩ : Rn Rm)).1) (s' := (stepT ramA (⟨sW s stop, ⟨bW z f l, []⟩⟩ : Rn Rm)).2.s) (m' := (stepT ramA (⟨sW s stop, ⟨bW z f l, []⟩⟩ : Rn Rm)).2.m) rfl _ _ .nil tb _ oT hT w (St.lentV hw))) rfl rfl n_h ?_
     rintro _ _ ⟨_, ⟨rfl, oU2, hU2, va2, Ga2, hV2, rfl⟩, rfl⟩
     obtain ⟨a2, c2, rfl⟩ := hV2.slice
     refine c_u ?_
     refine d_mv rfl (vnf_eq rfl) rfl rfl ?_
     refine RD ?_
     refine RD ?_
     refine d_x rfl (x_storeTo (l' := cS (stepT ramA (⟨sW s stop, ⟨bW z f l, []⟩⟩ : Rn Rm)).2.s) 0 rfl rfl rfl rfl rfl rfl (Nat.le_of_ble_eq_true rfl) rfl) rfl rfl n_h ?_
     rintro _ _ ⟨rfl, rfl⟩
     refine c_u ?_
     refine d_x rfl (x_storeTo (l' := cDd (stepT ramA (⟨sW s stop, ⟨bW z f l, []⟩⟩ : Rn Rm)).1) 1 rfl rfl rfl rfl rfl rfl (Nat.le_of_ble_eq_true rfl) rfl) rfl rfl n_h ?_
     rintro _ _ ⟨rfl, rfl⟩
     refine c_u ?_
     refine d_nil ?_
     exact ⟨(b12, b13, tb, oU2, a2, c2, Ga2), ⟨hU2, hV2⟩, .cons rfl (.cons rfl .nil), a_g, fun _ h => (St.fl [[_], [_], [_], [_], [_], Ga2, [_], [_]] [1, 0, 2, 4, 5, 6, 7] rfl h).as (by simp only [List.filterMap_cons, List.filterMap_nil, List.getElem?_cons_zero, List.getElem?_cons_succ, VV.fl, List.cons_append, List.nil_append])⟩
    exact d_stop
   exact d_stop
  ·rintro ⟨b12, b13, tb, oT2, a2, c2, Ga2⟩ y10 ⟨hT2, hV2⟩
   dsimp only at hT2 hV2 ⊢
   refine c_seq ?_
   refine c_seq ?_
   have hpr9 : 0 ≤ (band .u8 (band .u8 f l) 31) ∧ (band .u8 (band .u8 f l) 31) < 32 := bW_pend (f := f) (l := l) hz1 [] ▸ pend_ok _
   rcases (show stop = true ∨ (stop = false ∧ (band .u8 (band .u8 f l) 31) = 0) ∨ (stop = false ∧ (band .u8 (band .u8 f l) 31) ≠ 0 ∧ s.ime = false) ∨ (stop = false ∧ (band .u8 (band .u8 f l) 31) ≠ 0 ∧ s.ime = true) by cases stop <;> cases s.ime <;> simp <;> omega) with rfl | ⟨rfl, hp9⟩ | ⟨rfl, hp9, hi9⟩ | ⟨rfl, hp9, hi9⟩
   ·refine c_region ?_
    rw [wake_stop hz1 s] at hV2 ⊢
    dsimp only at hV2 ⊢
    obtain ⟨ax, cx, hsl, hln, hcx, hgv⟩ := hV2.gives cAc_len (by decide)
    cases hsl
    refine RL ?_
    refine RL ?_
    refine RLp ?_
    refine RLp ?_
    refine RL ?_
    refine l_nil ?_
    refine c_true rfl ?_
    refine c_seq ?_
    refine c_region ?_
    iterate 3 refine RL ?_
    refine l_as (v := (.int .u8 (band .u8 (band .u8 (band .u8 f l) 31) 16))) (l_and rfl rfl) rfl rfl rfl ?_
    refine RL ?_
    refine RL ?_
    refine RLa ?_
    refine l_x (x_storeTo (l' := cS (sW s (band .u8 (band .u8 (band .u8 f l) 31) 16 == 0))) 2 rfl rfl rfl rfl rfl rfl (Nat.le_of_ble_eq_true rfl) rfl) rfl rfl ?_
    rintro _ _ ⟨rfl, rfl⟩
    refine c_u ?_
    refine l_nil ?_
    refine c_seq ?_
    refine c_region ?_
    refine l_x (x_loadA rfl rfl rfl (row_own (l := cS (sW s (band .u8 (band .u8 (band .u8 f l) 31) 16 == 0))) m_m)) rfl rfl ?_
    rintro _ _ ⟨rfl, rfl⟩
    refine l_x (x_loadA rfl rfl rfl (row_own (l := cS (sW s (band .u8 (band .u8 (band .u8 f l) 31) 16 == 0))) m_m)) rfl rfl ?_
    rintro _ _ ⟨rfl, rfl⟩
    refine l_eqs (ks := [.int .u8, .int .u8, .int .u8, .int .u8, .int .u8, .int .u8, .int .u8, .int .u8, .int .u16, .int .u16, .bool, .bool, .bool, .bool]) rfl rfl (by kernel_rfl) (by kernel_rfl) rfl rfl rfl rfl (b := true) (lveq_refl (ks := [.int .u8, .int .u8, .int .u8, .int .u8, .int .u8, .int .u8, .int .u8, .int .u8, .int .u16, .int .u16, .bool, .bool, .bool, .bool]) rfl) ?_
    refine RL ?_
    refine RLa ?_
    refine RLo ?_
    refine l_sure true rfl rfl rfl rfl ?_
    iterate 4 refine RL ?_
    refine RLa ?_
    refine RLo ?_
    refine l_l (light_struct rfl rfl rfl rfl) rfl rfl ?_
    refine l_x (x_slc (z := [.int .i64 0, .int .u16 0, .int .u8 0]) (l := cAc ⟨0, 0, 0⟩) (ps := [(0, .agg (cAc ⟨0, 0, 0⟩).toArray)]) rfl rfl rfl rfl rfl rfl) rfl rfl ?_
    rintro _ _ ⟨b90, rfl, rfl⟩
    refine RLv call_12 (fun w hw => accesses_fn [⟨0, 0, 0⟩] [⟨0, 0, 0⟩] a2 (some ⟨b90, 0, none⟩) c2 1 (by decide) w (hgv.els hw (by intro x hx; repeat (first | exact List.mem_append_left _ hx | refine .tail _ ?_))) (fun _ => ⟨b90, 0, rfl, row_own (b := b90) (l := cAc ⟨0, 0, 0⟩) m_m w hw⟩) (by decide)) ?_
    rw [show decide (([⟨0, 0, 0⟩] : List Ac) = [⟨0, 0, 0⟩]) = true from by decide]
    iterate 4 refine RL ?_
    refine RLa ?_
    refine RLo ?_
    refine l_l (idx_slice1 (65295 : Int).toNat rfl rfl rfl rfl (by decide)) rfl rfl ?_
    refine l_x (x_load rfl rfl (at_own m_m (byte_in (l := bW z f l) (by simp [put2_len, bW_len hz1]) (a := 65295) o_m))) rfl rfl ?_
    rintro _ _ ⟨rfl, rfl⟩
    refine RL ?_
    refine l_sure true rfl rfl rfl (beq_iff_eq.2 (bW_flags hz1)) ?_
    refine RL ?_
    refine RL ?_
    refine l_nil ?_
    refine c_ret ?_
    exact l_end0 (fun _ _ => rets_v rfl) ⟨rfl, rfl⟩
   ·refine c_region ?_
    rw [wake_none hz1 s hp9] at hV2 ⊢
    dsimp only at hV2 ⊢
    obtain ⟨ax, cx, hsl, hln, hcx, hgv⟩ := hV2.gives cAc_len (by decide)
    cases hsl
    iterate 3 refine RL ?_
    refine l_sure true rfl rfl rfl (beq_iff_eq.2 hp9) ?_
    refine RL ?_
    refine l_nil ?_
    refine c_true rfl ?_
    refine c_seq ?_
    refine c_region ?_
    refine RL ?_
    refine RL ?_
    iterate 3 refine RLp ?_
    refine RL ?_
    refine RLa ?_
    refine l_x (x_storeTo (l' := cS (sW s false)) 2 rfl rfl rfl rfl rfl rfl (Nat.le_of_ble_eq_true rfl) rfl) rfl rfl ?_
    rintro _ _ ⟨rfl, rfl⟩
    refine c_u ?_
    refine l_nil ?_
    refine c_seq ?_
    refine c_region ?_
    refine l_x (x_loadA rfl rfl rfl (row_own (l := cS (sW s false)) m_m)) rfl rfl ?_
    rintro _ _ ⟨rfl, rfl⟩
    refine l_x (x_loadA rfl rfl rfl (row_own (l := cS (sW s false)) m_m)) rfl rfl ?_
    rintro _ _ ⟨rfl, rfl⟩
    refine l_eqs (ks := [.int .u8, .int .u8, .int .u8, .int .u8, .int .u8, .int .u8, .int .u8, .int .u8, .int .u16, .int .u16, .bool, .bool, .bool, .bool]) rfl rfl (by kernel_rfl) (by kernel_rfl) rfl rfl rfl rfl (b := true) (lveq_refl (ks := [.int .u8, .int .u8, .int .u8, .int .u8, .int .u8, .int .u8, .int .u8, .int .u8, .int .u16, .int .u16, .bool, .bool, .bool, .bool]) rfl) ?_
    refine RL ?_
    refine RLa ?_
    refine RLo ?_
    refine l_sure true rfl rfl rfl rfl ?_
    iterate 4 refine RL ?_
    refine RLa ?_
    refine RLo ?_
    refine l_l (light_struct rfl rfl rfl rfl) rfl rfl ?_
    refine l_x (x_slc (z := [.int .i64 0, .int .u16 0, .int .u8 0]) (l := cAc ⟨0, 0, 0⟩) (ps := [(0, .agg (cAc ⟨0, 0, 0⟩).toArray)]) rfl rfl rfl rfl rfl rfl) rfl rfl ?_
    rintro _ _ ⟨b90, rfl, rfl⟩
    refine RLv call_12 (fun w hw => accesses_fn [⟨0, 0, 0⟩] [⟨0, 0, 0⟩] a2 (some ⟨b90, 0, none⟩) c2 1 (by decide) w (hgv.els hw (by intro x hx; repeat (first | exact List.mem_append_left _ hx | refine .tail _ ?_))) (fun _ => ⟨b90, 0, rfl, row_own (b := b90) (l := cAc ⟨0, 0, 0⟩) m_m w hw⟩) (by decide)) ?_
    rw [show decide (([⟨0, 0, 0⟩] : List Ac) = [⟨0, 0, 0⟩]) = true from by decide]
    iterate 4 refine RL ?_
    refine RLa ?_
    refine RLo ?_
    refine l_l (idx_slice1 (65295 : Int).toNat rfl rfl rfl rfl (by decide)) rfl rfl ?_
    refine l_x (x_load rfl rfl (at_own m_m (byte_in (l := bW z f l) (by simp [put2_len, bW_len hz1]) (a := 65295) o_m))) rfl rfl ?_
    rintro _ _ ⟨rfl, rfl⟩
    refine RL ?_
    refine l_sure true rfl rfl rfl (beq_iff_eq.2 (bW_flags hz1)) ?_
    refine RL ?_
    refine RL ?_
    refine l_nil ?_
    refine c_ret ?_
    exact l_end0 (fun _ _ => rets_v rfl) ⟨rfl, rfl⟩
   ·refine c_region ?_
    obtain ⟨d9, s9, a9, he9, hw9⟩ := wake_ran hz1 hz2 s hi9 hp9
    rw [he9] at hV2 ⊢
    dsimp only at hV2 ⊢
    obtain ⟨ax, cx, hsl, hln, hcx, hgv⟩ := hV2.gives cAc_len (by decide)
    cases hsl
    iterate 3 refine RL ?_
    refine l_sure false rfl rfl rfl (beq_eq_false_iff_ne.2 hp9) ?_
    refine RL ?_
    refine l_nil ?_
    refine c_false rfl ?_
    refine c_skip ?_
    refine c_seq ?_
    refine c_seq ?_
    refine c_region ?_
    refine RLa ?_
    refine RLo ?_
    refine l_sure true rfl rfl rfl (by simp [sW, hi9]) ?_
    refine l_nil ?_
    refine c_true rfl ?_
    refine c_seq ?_
    refine c_region ?_
    refine RLa ?_
    refine RLo ?_
    refine l_sure true rfl rfl rfl (beq_iff_eq.2 hw9) ?_
    iterate 3 refine RL ?_
    refine RLa ?_
    refine RLo ?_
    refine l_l (idx_slice1 (65295 : Int).toNat rfl rfl rfl rfl (by decide)) rfl rfl ?_
    refine l_x (x_load rfl rfl (at_own m_m (byte_in (l := bW z f l) (by simp [put2_len, bW_len hz1]) (a := 65295) o_m))) rfl rfl ?_
    rintro _ _ ⟨rfl, rfl⟩
    refine RL ?_
    refine l_sure true rfl rfl rfl (beq_iff_eq.2 (bW_flags hz1)) ?_
    refine RL ?_
    refine RL ?_
    refine l_nil ?_
    refine c_ret ?_
    exact l_end0 (fun _ _ => rets_v rfl) ⟨rfl, rfl⟩
   ·refine c_region ?_
    obtain ⟨a9, he9, hl9⟩ := wake_take hz1 s hi9 hp9
    have hk9 := spW_ok (sp := s.r.sp)
    obtain ⟨q1, q2, q3⟩ := take_back (f := f) (l := l) (v := resB f (low1 (band .u8 (band .u8 f l) 31))) hz1 hk9
    rw [he9] at hV2 ⊢
    dsimp only at hV2 ⊢
    obtain ⟨ax, cx, hsl, hln, hcx, hgv⟩ := hV2.gives cAc_len (by decide)
    cases hsl
    iterate 3 refine RL ?_
    refine l_sure false rfl rfl rfl (beq_eq_false_iff_ne.2 hp9) ?_
    refine RL ?_
    refine l_nil ?_
    refine c_false rfl ?_
    refine c_skip ?_
    refine c_seq ?_
    refine c_seq ?_
    refine c_region ?_
    refine RLa ?_
    refine RLo ?_
    refine l_sure false rfl rfl rfl (by simp [sW, hi9]) ?_
    refine l_nil ?_
    refine c_false rfl ?_
    refine c_skip ?_
    refine c_seq ?_
    refine c_region ?_
    refine RL ?_
    refine l_nil ?_
    refine c_seq ?_
    refine c_block ?_
    refine c_loopk (σ := Nat) [14, 119, 120, 121, 122, 123, 124, 125, 126] (fun i => [(14, .int .i64 i)]) (fun i => (i : Int) ≤ (low1 (band .u8 (band .u8 f l) 31))) (fun i => 5 - i) 0 ?_ ?_ ?_
    ·exact (low1_ok _).1
    ·exact .cons rfl .nil
    ·intro i y17 hi
     have hl8 := low1_ok (band .u8 (band .u8 f l) 31)
     refine c_seq ?_
     refine c_seq ?_
     refine c_region ?_
     refine RL ?_
     refine RL ?_
     refine l_as (l_conv rfl rfl rfl) rfl rfl (by first | exact as_u64 o_m o_m | exact as_u64m _) ?_
     refine l_as (v := (.int .u8 (shr .u8 (band .u8 (band .u8 f l) 31) (i : Int)))) (shr_pos rfl rfl o_m) rfl rfl rfl ?_
     refine l_as (v := (.int .u8 (band .u8 (shr .u8 (band .u8 (band .u8 f l) 31) (i : Int)) 1))) (l_and rfl rfl) rfl rfl rfl ?_
     refine l_as (v := (.bool (decide ((i : Int) < (low1 (band .u8 (band .u8 f l) 31)))))) rfl rfl rfl (congrArg _ (low_step hpr9 hp9 hi)) ?_
     refine l_nil ?_
     refine c_cond rfl (fun h3 => ?_) (fun h3 => ?_)
     ·have h3n := r_f h3
      refine c_skip ?_
      refine c_block ?_
      refine c_region ?_
      refine RL ?_
      refine l_as (v := (.int .i64 ((i + 1 : Nat) : Int))) rfl rfl rfl (congrArg _ (succ_law o_m)) ?_
      refine RL ?_
      refine l_nil ?_
      exact ⟨i + 1, by omega, by omega, .cons rfl .nil, a_g, fun _ h => h⟩
     ·have h3n := r_f h3
      refine c_exit rfl ?_
      refine c_seq ?_
      have hi8 : (i : Int) = (low1 (band .u8 (band .u8 f l) 31)) := by omega
      refine c_draw _ [4, 5, 6, 10, 11, 12, 13, 14, 15, 16, 17, 18, 19, 20, 21] (.step true 0 (.step true 1 (.step true 2 (.step true 3 (.step true 4 (.step true 5 (.step true 6 (.step true 7 (.step true 8 (.step true 9 (.step true 10 (.step true 11 (.step true 12 (.step true 13 (.step true 14 (.step true 15 (.step true 16 (.step true 17 (.step true 18 (.step true 19 (.step true 20 (.step true 21 (.step true 22 (.step true 23 .done)))))))))))))))))))))))) rfl (by kernel_rfl) (by kernel_rfl) (fun _ h => h) ?_
      refine RD ?_
      refine RD ?_
      refine RDa ?_
      refine RDo ?_
      refine RDa ?_
      refine RDa ?_
      refine d_load rfl rfl rfl (s_own (v := .int .u16 (spW s.r.sp - 2)) m_m (by rfl)) rfl rfl ?_
      refine d_light rfl (idx_sliceI rfl rfl rfl o_m o_m) rfl rfl rfl ?_
      refine d_load rfl rfl rfl (s_own m_m (byte_in (l := ((put2 (bW z f l) (spW s.r.sp) 256).set 65295 (resB f (low1 (band .u8 (band .u8 f l) 31))))) (by simp [put2_len, bW_len hz1]) (a := spW s.r.sp - 2) o_m)) rfl rfl ?_
      refine d_as (v := (.int .u16 0)) rfl (l_conv rfl rfl rfl) rfl rfl rfl (congrArg _ (by rw [q1]; decide)) ?_
      refine RD ?_
      refine RD ?_
      refine RDa ?_
      refine RDo ?_
      refine RDa ?_
      refine RDa ?_
      refine d_load rfl rfl rfl (s_own (v := .int .u16 (spW s.r.sp - 2)) m_m (by rfl)) rfl rfl ?_
      refine d_as (v := (.int .u16 (spW s.r.sp - 1))) rfl (l_add rfl rfl) rfl rfl rfl (congrArg _ ((wrap_u16 _).trans o_m)) ?_
      refine d_light rfl (idx_sliceI rfl rfl rfl o_m o_m) rfl rfl rfl ?_
      refine d_load rfl rfl rfl (s_own m_m (byte_in (l := ((put2 (bW z f l) (spW s.r.sp) 256).set 65295 (resB f (low1 (band .u8 (band .u8 f l) 31))))) (by simp [put2_len, bW_len hz1]) (a := spW s.r.sp - 1) o_m)) rfl rfl ?_
      refine d_as (v := (.int .u16 1)) rfl (l_conv rfl rfl rfl) rfl rfl rfl (congrArg _ (by rw [q2]; decide)) ?_
      refine d_as (v := (.int .u16 256)) rfl (shl_pos rfl rfl (by decide)) rfl rfl rfl (congrArg _ (by decide)) ?_
      refine d_as (v := (.int .u16 256)) rfl (l_or rfl rfl) rfl rfl rfl (congrArg _ (by decide)) ?_
      refine RD ?_
      refine d_nil ?_
      refine c_seq ?_
      refine c_region ?_
      refine RLa ?_
      refine RLo ?_
      refine l_sure true rfl rfl rfl rfl ?_
      refine RL ?_
      refine RLa ?_
      refine RLo ?_
      refine RL ?_
      refine l_sure true rfl rfl rfl (beq_iff_eq.2 hi8.symm) ?_
      refine RL ?_
      refine RL ?_
      refine RLa ?_
      refine RLa ?_
      refine l_x (x_load rfl rfl (at_own (v := .int .u16 (64 + 8 * (low1 (band .u8 (band .u8 f l) 31)))) m_m (by rfl))) rfl rfl ?_
      rintro _ _ ⟨rfl, rfl⟩
      refine RL ?_
      refine l_as (l_mul rfl rfl) rfl rfl (by first | exact as_i64 o_m o_m | rfl) ?_
      refine l_as (l_add rfl rfl) rfl rfl (by first | exact as_i64 o_m o_m | rfl) ?_
      refine l_as (l_conv rfl rfl rfl) rfl rfl (by first | exact as_u16 o_m o_m | exact as_u16m _) ?_
      refine l_sure true rfl rfl rfl (beq_iff_eq.2 o_m) ?_
      iterate 3 refine RL ?_
      refine RLa ?_
      refine RLa ?_
      refine l_x (x_load rfl rfl (at_own (v := .int .u16 (256)) m_m (by rfl))) rfl rfl ?_
      rintro _ _ ⟨rfl, rfl⟩
      refine l_sure true rfl rfl rfl rfl ?_
      refine RL ?_
      refine RL ?_
      refine RLa ?_
      refine RLa ?_
      refine l_x (x_load rfl rfl (at_own (v := .int .u16 (spW s.r.sp - 2)) m_m (by rfl))) rfl rfl ?_
      rintro _ _ ⟨rfl, rfl⟩
      refine RLa ?_
      refine RLa ?_
      refine l_x (x_load rfl rfl (at_own (v := .int .u16 (spW s.r.sp)) m_m (by rfl))) rfl rfl ?_
      rintro _ _ ⟨rfl, rfl⟩
      refine l_as (v := (.int .u16 (spW s.r.sp - 2))) (l_sub rfl rfl) rfl rfl (congrArg _ ((wrap_u16 _).trans (show (spW s.r.sp - 2) % 65536 = spW s.r.sp - 2 by omega))) ?_
      refine l_sure true rfl rfl rfl (beq_iff_eq.2 rfl) ?_
      iterate 4 refine RL ?_
      refine RLa ?_
      refine RLo ?_
      refine l_l (idx_slice1 (65295 : Int).toNat rfl rfl rfl rfl (by decide)) rfl rfl ?_
      refine l_x (x_load rfl rfl (at_own m_m (byte_in (l := ((put2 (bW z f l) (spW s.r.sp) 256).set 65295 (resB f (low1 (band .u8 (band .u8 f l) 31))))) (by simp [put2_len, bW_len hz1]) (a := 65295) o_m))) rfl rfl ?_
      rintro _ _ ⟨rfl, rfl⟩
      refine RL ?_
      refine RL ?_
      refine l_as (l_conv rfl rfl rfl) rfl rfl (by first | exact as_u64 o_m o_m | exact as_u64m _) ?_
      refine l_as (v := (.int .u8 (shl .u8 1 (i : Int)))) (shl_pos rfl rfl o_m) rfl rfl rfl ?_
      refine l_as (v := (.int .u8 (resB f (low1 (band .u8 (band .u8 f l) 31))))) (l_andn rfl rfl) rfl rfl (congrArg _ ((res_law hf o_m).trans (by rw [hi8]))) ?_
      refine l_sure true rfl rfl rfl (beq_iff_eq.2 q3) ?_
      refine RL ?_
      refine RL ?_
      refine RLa ?_
      refine RLo ?_
      refine l_sure true rfl rfl rfl rfl ?_
      refine RL ?_
      refine RL ?_
      refine RLa ?_
      refine RLo ?_
      refine l_sure true rfl rfl rfl rfl ?_
      iterate 4 refine RL ?_
      refine RLa ?_
      refine RLo ?_
      refine l_l l_n rfl rfl ?_
      refine l_sure true rfl rfl rfl (beq_iff_eq.2 o_m) ?_
      refine RL ?_
      refine RL ?_
      refine l_nil ?_
      refine c_ret ?_
      exact l_end0 (fun _ _ => rets_v rfl) ⟨rfl, rfl⟩

end Go.Proofs.Ytjjemehigdpboaa
namespace Go.Proofs.Ytjjemehigdpboaa
open Go Go.VV

/-- So many accesses more, none of which fetches; F's lower bits stay 0. -/
structure Ad (c : Nat) (x y : Rn Rm) : Prop where
  acc : ∃ l, y.m.acc = x.m.acc ++ l ∧ l.length ≤ c ∧ ∀ e ∈ l, e.kind ≠ 3
  f : x.s.r.f % 16 = 0 → y.s.r.f % 16 = 0
theorem Ad.refl (x : Rn Rm) : Ad 0 x x := ⟨⟨[], by simp, by simp, by simp⟩, fun h => h⟩
theorem Ad.trans {c d : Nat} {x y z : Rn Rm} (h : Ad c x y) (h' : Ad d y z) : Ad (c + d) x z := by
  obtain ⟨⟨l, h1, h2, h3⟩, h4⟩ := h
  obtain ⟨⟨k, g1, g2, g3⟩, g4⟩ := h'
  refine ⟨⟨l ++ k, by rw [g1, h1, List.append_assoc], by rw [List.length_append]; omega, fun e he => ?_⟩, fun hf => g4 (h4 hf)⟩
  rcases List.mem_append.1 he with he | he
  · exact h3 e he
  · exact g3 e he
theorem Ad.le {c d : Nat} {x y : Rn Rm} (h : Ad c x y) (hd : c ≤ d) : Ad d x y := ⟨by obtain ⟨l, h1, h2, h3⟩ := h.acc; exact ⟨l, h1, by omega, h3⟩, h.f⟩
theorem Ad.one {x y : Rn Rm} (k : Int) {a v : Int} (h : y.m.acc = x.m.acc ++ [⟨k, a, v⟩]) (hk : k ≠ 3) (hf : x.s.r.f % 16 = 0 → y.s.r.f % 16 = 0) : Ad 1 x y := ⟨⟨[⟨k, a, v⟩], h, by simp, by intro e' he; rw [List.mem_singleton.1 he]; exact hk⟩, hf⟩
theorem Ad.none {x y : Rn Rm} (h : y.m.acc = x.m.acc) (hf : x.s.r.f % 16 = 0 → y.s.r.f % 16 = 0) : Ad 0 x y := ⟨⟨[], by simp [h], by simp, by simp⟩, hf⟩
theorem Ad.then {c : Nat} {x y z : Rn Rm} (h : Ad c x y) (ha : z.m.acc = y.m.acc) (hf : y.s.r.f % 16 = 0 → z.s.r.f % 16 = 0) : Ad c x z := (h.trans (Ad.none ha hf)).le (Nat.le_refl _)
section
variable {x : Rn Rm}
theorem ad_gett (n : Int) : Ad 1 x (gett ramA n x).2 := by
  unfold gett; split
  · exact .one 1 rfl (by decide) (fun h => h)
  · exact Ad.le (Ad.refl x) (by omega)
theorem f_setR (r : CR) (n v : Int) (h : r.f % 16 = 0) : (setR r n v).f % 16 = 0 := by
  unfold setR; repeat' split
  all_goals first | exact h | rfl
theorem f_setPR (r : CR) (n v : Int) (h : r.f % 16 = 0) : (setPR r n v).f % 16 = 0 := by
  unfold setPR; repeat' split
  all_goals first | exact h | rfl | (show v % 256 / 16 * 16 % 16 = 0; omega)
theorem f_sumR (r : CR) (n v : Int) (h : r.f % 16 = 0) : (sumR r n v).f % 16 = 0 := by
  unfold sumR addF subF logF; repeat' split
  all_goals first | exact h | exact fl_low _ _ _ _
theorem ad_sett (n v : Int) : Ad 1 x (sett ramA n v x) := by
  unfold sett; split
  · exact .one 2 rfl (by decide) (fun h => h)
  · exact Ad.le (Ad.none rfl (f_setR _ _ _)) (by omega)
theorem ad_push1 (v : Int) : Ad 1 x (push1 ramA v x) := .one 2 rfl (by decide) (fun h => h)
theorem ad_push (w : Int) : Ad 2 x (push ramA w x) := (ad_push1 (w / 256)).trans (ad_push1 (w % 256))
theorem ad_pop1 : Ad 1 x (pop1 ramA x).2 := .one 1 rfl (by decide) (fun h => h)
theorem ad_pop : Ad 2 x (pop ramA x).2 := ad_pop1.trans ad_pop1
theorem ad_idles : ∀ n, Ad n x (idles ramA n x)
  | 0 => Ad.refl x
  | n + 1 => (ad_idles n).trans (.one 0 rfl (by decide) (fun h => h))
theorem ad_change (n : Int) {g : Int → Int → Int × Int} (hg : ∀ a f, (g a f).2 % 16 = 0) : Ad 2 x (change ramA n g x) :=
  ((ad_gett n).trans (ad_sett n _)).then rfl (fun _ => hg _ _)
theorem Ad.ite {d : Nat} {c : Prop} [Decidable c] {a b : Rn Rm} (h1 : c → Ad d x a) (h2 : ¬ c → Ad d x b) : Ad d x (if c then a else b) := by
  split
  · exact h1 (by assumption)
  · exact h2 (by assumption)
theorem ad_effB (o : Opr) : Ad 2 x (effB ramA o x) := by
  have z : Ad 2 x x := Ad.le (Ad.refl x) (by omega)
  have g1 : ∀ n, Ad 2 x (gett ramA n x).2 := fun n => Ad.le (ad_gett n) (by omega)
  have r : ∀ {r' : CR}, (x.s.r.f % 16 = 0 → r'.f % 16 = 0) → Ad 2 x (x.reg r') := fun h => Ad.le (Ad.none rfl h) (by omega)
  unfold effB
  refine .ite (fun _ => (ad_gett _).trans (ad_sett _ _)) fun _ => ?_
  refine .ite (fun _ => Ad.le (ad_sett _ _) (by omega)) fun _ => ?_
  refine .ite (fun _ => (g1 _).then rfl (f_sumR _ _ _)) fun _ => ?_
  refine .ite (fun _ => r (f_sumR _ _ _)) fun _ => ?_
  refine .ite (fun _ => ad_change _ fun _ _ => fl_low _ _ _ _) fun _ => ?_
  refine .ite (fun _ => ad_change _ fun _ _ => fl_low _ _ _ _) fun _ => ?_
  refine .ite (fun _ => ad_change _ fun _ _ => fl_low _ _ _ _) fun _ => ?_
  refine .ite (fun _ => r fun _ => fl_low _ _ _ _) fun _ => ?_
  refine .ite (fun _ => (g1 _).then rfl fun _ => fl_low _ _ _ _) fun _ => ?_
  refine .ite (fun _ => (ad_gett _).trans (ad_sett _ _)) fun _ => ?_
  refine .ite (fun _ => (ad_gett _).trans (ad_sett _ _)) fun _ => ?_
  refine .ite (fun _ => r fun _ => fl_low _ _ _ _) fun _ => ?_
  refine .ite (fun _ => r fun _ => fl_low _ _ _ _) fun _ => ?_
  refine .ite (fun _ => r fun _ => fl_low _ _ _ _) fun _ => ?_
  exact .ite (fun _ => r fun _ => fl_low _ _ _ _) fun _ => z
theorem ad_effW (o : Opr) : Ad 3 x (effW ramA o x) := by
  have r : ∀ {r' : CR}, (x.s.r.f % 16 = 0 → r'.f % 16 = 0) → Ad 0 x (x.reg r') := fun h => Ad.none rfl h
  unfold effW
  refine .ite (fun _ => Ad.le (r (f_setPR _ _ _)) (by omega)) fun _ => ?_
  refine .ite (fun _ => Ad.le ((r (f_setPR _ _ _)).trans (ad_idles 1)) (by omega)) fun _ => ?_
  refine .ite (fun _ => Ad.le ((r (f_setPR _ _ _)).trans (ad_idles 1)) (by omega)) fun _ => ?_
  refine .ite (fun _ => Ad.le ((r fun _ => f_setPR _ _ _ (fl_low _ _ _ _)).trans (ad_idles 1)) (by omega)) fun _ => ?_
  refine .ite (fun _ => Ad.le ((r fun _ => fl_low _ _ _ _).trans (ad_idles 2)) (by omega)) fun _ => ?_
  refine .ite (fun _ => Ad.le ((r fun _ => f_setPR _ _ _ (fl_low _ _ _ _)).trans (ad_idles 1)) (by omega)) fun _ => ?_
  refine .ite (fun _ => Ad.le (c := 0 + 1) ((r (r' := { x.s.r with sp := pairR x.s.r 2 }) fun h => h).trans (ad_idles 1)) (by omega)) fun _ => ?_
  refine .ite (fun _ => (ad_idles 1).trans (ad_push _)) fun _ => ?_
  refine .ite (fun _ => Ad.le (c := 2) ((ad_pop).then rfl (f_setPR _ _ _)) (by omega)) fun _ => ?_
  refine .ite (fun _ => ?_) fun _ => Ad.le (Ad.refl x) (by omega)
  have h1 : Ad 1 x (x.mem (ramA.write o.n (x.s.r.sp % 256) x.m)) := .one 2 rfl (by decide) (fun h => h)
  have h2 : Ad 1 (x.mem (ramA.write o.n (x.s.r.sp % 256) x.m)) (x.mem (ramA.write (inc16 o.n) (x.s.r.sp / 256) (ramA.write o.n (x.s.r.sp % 256) x.m))) := .one 2 rfl (by decide) (fun h => h)
  exact Ad.le (h1.trans h2) (by omega)
theorem ad_far (n : Int) : Ad 0 x (far n x).2 := by
  unfold far; split
  · exact Ad.refl x
  · exact .none rfl (f_setPR _ _ _)
theorem ad_place (o : Opr) : Ad 0 x (place o x).2 := by
  unfold place; repeat' split
  · exact ad_far _
  all_goals exact Ad.refl x
theorem ad_effP (o : Opr) : Ad 1 x (effP ramA o x) := by
  unfold effP
  dsimp only
  split
  · exact Ad.trans (y := (place o x).2) (z := ⟨{ (place o x).2.s with r := { (place o x).2.s.r with a := (ramA.read (place o x).1 (place o x).2.m).1 } }, (ramA.read (place o x).1 (place o x).2.m).2⟩) (ad_place o) (Ad.one 1 rfl (by decide) (fun h => h))
  · exact Ad.trans (y := (place o x).2) (z := (place o x).2.mem (ramA.write (place o x).1 (place o x).2.s.r.a (place o x).2.m)) (ad_place o) (Ad.one 2 rfl (by decide) (fun h => h))
theorem ad_goto {c : Nat} {y : Rn Rm} (h : Ad c x y) (w : Int) : Ad c x (goto w y) := h.then rfl (fun h => h)
theorem ad_effJ (o : Opr) : Ad (if o.kind = 26 then 4 else 3) x (effJ ramA o x) := by
  by_cases hk : o.kind = 26
  · rw [if_pos hk]
    have hx : Ad 1 x (if o.kind = 26 ∧ o.x ≠ 4 then idles ramA 1 x else x) := .ite (fun _ => ad_idles 1) fun _ => Ad.le (Ad.refl x) (by omega)
    unfold effJ
    dsimp only
    generalize (if o.kind = 26 ∧ o.x ≠ 4 then idles ramA 1 x else x) = y at hx ⊢
    refine .ite (fun _ => hx.le (by omega)) fun _ => ?_
    rw [if_neg (by omega), if_neg (by omega), if_neg (by omega), if_neg (by omega), if_pos hk]
    exact (ad_goto (hx.trans ad_pop) _).trans (ad_idles 1)
  · rw [if_neg hk]
    unfold effJ
    dsimp only
    rw [if_neg (show ¬ (o.kind = 26 ∧ o.x ≠ 4) from fun h => hk h.1)]
    refine .ite (fun _ => Ad.le (Ad.refl x) (by omega)) fun _ => ?_
    refine .ite (fun _ => Ad.le (ad_goto (ad_idles 1) _) (by omega)) fun _ => ?_
    refine .ite (fun _ => Ad.le (ad_goto (ad_idles 1) _) (by omega)) fun _ => ?_
    refine .ite (fun _ => ad_goto ((ad_idles 1).trans (ad_push _)) _) fun _ => ?_
    refine .ite (fun _ => ?_) fun _ => ?_
    · have h0 : Ad 0 x ⟨{ x.s with ime := true }, x.m⟩ := .none rfl (fun h => h)
      exact (ad_goto (h0.trans ad_pop) _).trans (ad_idles 1)
    · rw [if_neg hk]
      exact .ite (fun _ => Ad.le (ad_goto (Ad.refl x) _) (by omega)) fun _ => Ad.le (Ad.refl x) (by omega)
theorem ad_ordT (o : Opr) (p : Int) : Ad (if o.kind = 26 then 4 else 3) x (ordT ramA o p x).2 := by
  have hc : 3 ≤ (if o.kind = 26 then 4 else 3) := by split <;> omega
  have hj := ad_effJ (x := x) o
  generalize (if o.kind = 26 then 4 else 3) = c at hc hj ⊢
  have n : ∀ {y : Rn Rm}, y.m.acc = x.m.acc → (x.s.r.f % 16 = 0 → y.s.r.f % 16 = 0) → Ad c x y := fun h h' => Ad.le (c := 0) (Ad.none h h') (by omega)
  unfold ordT
  split
  · exact n rfl (fun h => h)
  split
  · exact n rfl (fun h => h)
  split
  · exact n rfl (fun h => h)
  split
  · exact n rfl (fun h => h)
  split
  · exact n rfl (fun h => h)
  split
  · exact (ad_effB o).le (by omega)
  split
  · exact (ad_effW o).le (by omega)
  split
  · exact (ad_effP o).le (by omega)
  · exact hj
end
theorem dcd_size {a b c : Int} (ha : 0 ≤ a ∧ a < 256) : (dcd a b c).size = (dcd a 0 0).size := by
  by_cases h : a = 203
  · rw [dcd_beh h, dcd_beh h]; unfold behS; split <;> split <;> rfl
  · obtain ⟨m, o, hm, _, ho⟩ := tab_some ha.1 ha.2
    rw [dcd_plain hm h ho, dcd_plain hm h ho]; rfl
def retB (o : Opr) : Bool := decide (o.kind = 26 → o.size = 1)
theorem ret_all : tabP.all retB = true := by kernel_rfl
theorem ret_one {a b c : Int} (ha : 0 ≤ a ∧ a < 256) (hb : 0 ≤ b ∧ b < 256) (hk : (dcd a b c).kind = 26) : (dcd a b c).size = 1 := by
  by_cases h : a = 203
  · rw [dcd_beh h] at hk
    have : (behS b).kind ≠ 26 := by unfold behS; split <;> (dsimp only; omega)
    exact absurd hk this
  · obtain ⟨m, o, hm, _, ho⟩ := tab_some ha.1 ha.2
    rw [dcd_plain hm h ho] at hk ⊢
    exact (of_decide_eq_true (List.all_eq_true.1 ret_all o (List.mem_of_getElem? ho)) : o.kind = 26 → o.size = 1) hk
def ftc (m : Rm) (pc : Int) : Nat → List Ac
  | 0 => []
  | n + 1 => ftc m pc n ++ [⟨3, (pc + n) % 65536, atB m.b ((pc + n) % 65536)⟩]
theorem ftc_len (m : Rm) (pc : Int) : ∀ n, (ftc m pc n).length = n
  | 0 => rfl
  | n + 1 => by rw [ftc, List.length_append, ftc_len m pc n]; rfl
theorem ftc_at (m : Rm) (pc : Int) : ∀ n i, i < n → (ftc m pc n)[i]? = some ⟨3, (pc + i) % 65536, atB m.b ((pc + i) % 65536)⟩
  | n + 1, i, h => by
    rw [ftc]
    rcases Nat.lt_succ_iff_lt_or_eq.1 h with h | rfl
    · rw [List.getElem?_append_left (by rw [ftc_len]; exact h)]; exact ftc_at m pc n i h
    · rw [List.getElem?_append_right (by rw [ftc_len]; exact Nat.le_refl _), ftc_len, Nat.sub_self]; rfl
theorem next_acc {s : CS} {m : Rm} (hpc : 0 ≤ s.r.pc ∧ s.r.pc < 65536) (hb : Byts m.b) : ∃ n : Nat, (nextT ramA ⟨s, m⟩).1.size = n ∧ 1 ≤ n ∧ n ≤ 3 ∧ (nextT ramA ⟨s, m⟩).2.m.acc = m.acc ++ ftc m s.r.pc n ∧ (nextT ramA ⟨s, m⟩).2.s.r.f = s.r.f ∧ ((nextT ramA ⟨s, m⟩).1.kind = 26 → n = 1) := by
  have hv : 0 ≤ atB m.b s.r.pc ∧ atB m.b s.r.pc < 256 := hb.get _
  have i1 : inc16 s.r.pc = (s.r.pc + 1) % 65536 := rfl
  have i2 : inc16 (inc16 s.r.pc) = (s.r.pc + 2) % 65536 := by unfold inc16; omega
  have i0 : s.r.pc = (s.r.pc + (0 : Nat)) % 65536 := by omega
  have hu : 0 ≤ atB m.b (inc16 s.r.pc) ∧ atB m.b (inc16 s.r.pc) < 256 := hb.get _
  have ht : 0 ≤ atB m.b (inc16 (inc16 s.r.pc)) ∧ atB m.b (inc16 (inc16 s.r.pc)) < 256 := hb.get _
  have f1 := (dcd_fine hv (show (0 : Int) ≤ 0 ∧ (0 : Int) < 256 by decide) (show (0 : Int) ≤ 0 ∧ (0 : Int) < 256 by decide)).size
  have z2 : (dcd (atB m.b s.r.pc) (atB m.b (inc16 s.r.pc)) 0).size = (dcd (atB m.b s.r.pc) 0 0).size := dcd_size hv
  have z3 : (dcd (atB m.b s.r.pc) (atB m.b (inc16 s.r.pc)) (atB m.b (inc16 (inc16 s.r.pc)))).size = (dcd (atB m.b s.r.pc) 0 0).size := dcd_size hv
  by_cases h1 : (dcd (atB m.b s.r.pc) 0 0).size ≤ 1
  · rw [next1 rfl h1]
    refine ⟨1, by dsimp only; omega, by omega, by omega, ?_, rfl, fun _ => rfl⟩
    simp only [noteR, ftc, List.nil_append]
    rw [← i0]
  · by_cases h2 : (dcd (atB m.b s.r.pc) (atB m.b (inc16 s.r.pc)) 0).size ≤ 2
    · rw [next2 rfl rfl h1 h2]
      refine ⟨2, by dsimp only; omega, by omega, by omega, ?_, rfl, fun hk => ?_⟩
      · simp only [noteR, ftc, List.nil_append, List.append_assoc, List.cons_append]
        rw [← i0, i1]; rfl
      · have := ret_one hv hu hk; omega
    · rw [next3 rfl rfl rfl h1 h2]
      refine ⟨3, by dsimp only; omega, by omega, by omega, ?_, rfl, fun hk => ?_⟩
      · simp only [noteR, ftc, List.nil_append, List.append_assoc, List.cons_append]
        rw [← i0, i2, i1]; rfl
      · have := ret_one hv hu hk; omega
structure Cyc (s : CS) (m : Rm) (d : Dd) (y : Rn Rm) : Prop where
  len : 1 ≤ y.m.acc.length ∧ y.m.acc.length ≤ 6
  f : y.s.r.f % 16 = 0
  at_ : d.at_ = s.r.pc
  one : ∀ (i : Nat) (e : Ac), y.m.acc[i]? = some e → (e.kind == 3) = (d.what == 1 && decide ((i : Int) < d.op.size)) ∧ ((i : Int) < d.op.size → d.what = 1 → e.addr = (s.r.pc + i) % 65536)
theorem cyc_of {s : CS} {m : Rm} {d : Dd} {y : Rn Rm} (hm : m.acc = []) (hf : s.r.f % 16 = 0) {c : Nat} (hc : c ≤ 6) (h : Ad c ⟨s, m⟩ y) (h1 : 1 ≤ y.m.acc.length) (hd : d.at_ = s.r.pc) (hw : d.what ≠ 1) : Cyc s m d y := by
  obtain ⟨l, g1, g2, g3⟩ := h.acc
  rw [hm, List.nil_append] at g1
  refine ⟨⟨h1, by rw [g1]; omega⟩, h.f hf, hd, fun i e he => ?_⟩
  rw [g1] at he
  have := g3 e (List.mem_of_getElem? he)
  exact ⟨by rw [beq_eq_false_iff_ne.2 this, beq_eq_false_iff_ne.2 hw]; rfl, fun _ h => absurd h hw⟩
theorem cycles_law {s : CS} {m : Rm} (hs : s.r.Ok) (hb : Byts m.b) (hm : m.acc = []) (hf : s.r.f % 16 = 0) : Cyc s m (stepT ramA ⟨s, m⟩).1 (stepT ramA ⟨s, m⟩).2 := by
  by_cases h1 : s.stop = true
  · rw [stood h1]
    exact cyc_of hm hf (c := 1) (by omega) (.one 0 rfl (by decide) (fun h => h)) (by simp [ramA, noteR]) rfl (show (0 : Int) ≠ 1 by decide)
  · have h1' : s.stop = false := by simpa using h1
    by_cases h2 : s.halt = true ∧ ramA.pend m = 0
    · rw [slept h1' h2.1 h2.2]
      exact cyc_of hm hf (c := 1) (by omega) (.one 0 rfl (by decide) (fun h => h)) (by simp [ramA, noteR]) rfl (show (0 : Int) ≠ 1 by decide)
    · by_cases h3 : s.ime = true ∧ ramA.pend m ≠ 0
      · rw [taken h1' h3.1 h3.2]
        have key : Ad (0 + 2 + 2 + 0 + 1 + 0) ⟨s, m⟩ (takeI ramA (ramA.pend m) ⟨{ s with halt := false }, m⟩) := by
          unfold takeI
          dsimp only
          refine Ad.trans (Ad.trans (Ad.trans (Ad.trans (Ad.trans (Ad.none (y := ⟨{ s with halt := false }, m⟩) rfl (fun h => h)) (ad_idles 2)) (ad_push s.r.pc)) (Ad.none rfl (fun h => h))) (ad_idles 1)) (Ad.none rfl (fun h => h))
        exact cyc_of hm hf (by omega) key (by simp [takeI, push, push1, idles, Rn.mem, ramA, noteR]) rfl (show (2 : Int) ≠ 1 by decide)
      · obtain ⟨n, hn1, hn2, hn3, hn4, hn5, hn6⟩ := next_acc (s := { s with halt := false, soon := false }) (m := m) hs.pc hb
        have hr := ran (A := ramA) (s := s) (m := m) h1' (fun h hp => h2 ⟨h, hp⟩) (fun h => Decidable.byContradiction fun hp => h3 ⟨h, hp⟩) (o := (nextT ramA ⟨{ s with halt := false, soon := false }, m⟩).1) (y := (nextT ramA ⟨{ s with halt := false, soon := false }, m⟩).2) rfl
        rw [hr]
        generalize nextT ramA ⟨{ s with halt := false, soon := false }, m⟩ = q at hn1 hn4 hn5 hn6 hr
        have ho := ad_ordT (x := q.2) q.1 s.r.pc
        have ho2 : Ad (if q.1.kind = 26 then 4 else 3) q.2 (if s.soon = true ∧ q.1.kind ≠ 5 then ⟨{ (ordT ramA q.1 s.r.pc q.2).2.s with ime := true }, (ordT ramA q.1 s.r.pc q.2).2.m⟩ else (ordT ramA q.1 s.r.pc q.2).2) := .ite (fun _ => ho.then rfl (fun h => h)) fun _ => ho
        generalize (if s.soon = true ∧ q.1.kind ≠ 5 then (⟨{ (ordT ramA q.1 s.r.pc q.2).2.s with ime := true }, (ordT ramA q.1 s.r.pc q.2).2.m⟩ : Rn Rm) else (ordT ramA q.1 s.r.pc q.2).2) = y at ho2
        obtain ⟨l, g1, g2, g3⟩ := ho2.acc
        rw [hn4, hm, List.nil_append] at g1
        have hlen : y.m.acc.length = n + l.length := by rw [g1, List.length_append, ftc_len]
        have hb6 : n + l.length ≤ 6 := by
          by_cases hk : q.1.kind = 26
          · rw [if_pos hk] at g2
            have := hn6 hk; omega
          · rw [if_neg hk] at g2; omega
        refine ⟨⟨by show 1 ≤ y.m.acc.length; omega, by show y.m.acc.length ≤ 6; omega⟩, ho2.f (by rw [hn5]; exact hf), rfl, fun i e he => ?_⟩
        rw [g1] at he
        dsimp only
        rw [hn1]
        by_cases hi : i < n
        · rw [List.getElem?_append_left (by rw [ftc_len]; exact hi), ftc_at _ _ _ _ hi] at he
          cases he
          exact ⟨by rw [decide_eq_true (show (i : Int) < (n : Int) by omega)]; rfl, fun _ _ => rfl⟩
        · rw [List.getElem?_append_right (by rw [ftc_len]; omega)] at he
          have := g3 e (List.mem_of_getElem? he)
          exact ⟨by rw [beq_eq_false_iff_ne.2 this, decide_eq_false (show ¬ (i : Int) < (n : Int) by omega)]; rfl, fun h => absurd h (by omega)⟩
/-- Whatever F is: some cycles go by. -/
theorem cycles_len {s : CS} {m : Rm} (hs : s.r.Ok) (hb : Byts m.b) (_ : m.acc = []) : 1 ≤ (stepT ramA ⟨s, m⟩).2.m.acc.length := by
  by_cases h1 : s.stop = true
  · rw [stood h1]; simp [ramA, noteR]
  · have h1' : s.stop = false := by simpa using h1
    by_cases h2 : s.halt = true ∧ ramA.pend m = 0
    · rw [slept h1' h2.1 h2.2]; simp [ramA, noteR]
    · by_cases h3 : s.ime = true ∧ ramA.pend m ≠ 0
      · rw [taken h1' h3.1 h3.2]
        simp [takeI, push, push1, idles, Rn.mem, ramA, noteR]
      · obtain ⟨n, hn1, hn2, hn3, hn4, hn5, hn6⟩ := next_acc (s := { s with halt := false, soon := false }) (m := m) hs.pc hb
        have hr := ran (A := ramA) (s := s) (m := m) h1' (fun h hp => h2 ⟨h, hp⟩) (fun h => Decidable.byContradiction fun hp => h3 ⟨h, hp⟩) (o := (nextT ramA ⟨{ s with halt := false, soon := false }, m⟩).1) (y := (nextT ramA ⟨{ s with halt := false, soon := false }, m⟩).2) rfl
        rw [hr]
        generalize nextT ramA ⟨{ s with halt := false, soon := false }, m⟩ = q at hn1 hn4 hn5 hn6 hr
        have ho := ad_ordT (x := q.2) q.1 s.r.pc
        have ho2 : Ad (if q.1.kind = 26 then 4 else 3) q.2 (if s.soon = true ∧ q.1.kind ≠ 5 then ⟨{ (ordT ramA q.1 s.r.pc q.2).2.s with ime := true }, (ordT ramA q.1 s.r.pc q.2).2.m⟩ else (ordT ramA q.1 s.r.pc q.2).2) := .ite (fun _ => ho.then rfl (fun h => h)) fun _ => ho
        obtain ⟨l, g1, _, _⟩ := ho2.acc
        dsimp only
        rw [g1, hn4, List.length_append, List.length_append, ftc_len]
        omega
end Go.Proofs.Ytjjemehigdpboaa
namespace Go.Proofs.Ytjjemehigdpboaa
open Go Go.VV Go.Proofs Go.RowKit
set_option linter.unusedSimpArgs false
set_option linter.unusedVariables false
set_option maxRecDepth 100000
set_option maxHeartbeats 4000000 in
theorem cycles_fn (s : CS) (hs : s.r.Ok) (l : List Int) (hb : Byts l) (a : Option Addr) (c : Nat) (k : Int) (hk : 0 ≤ k ∧ k < 256) (w : World) (hN : Ns w .u8 a l) : Does Try.prog 6 [.agg (cS s).toArray, .slice a l.length c, .int .u8 k] w [] (fun v H => H = [] ∧ v = .bool true) := by
 have hf9 := hs.f
 refine does_of Try.func6 rfl rfl rfl (St.refl w) ?_
 refine c_seq ?_
 refine c_region ?_
 refine l_x (x_box (l := cS s) rfl rfl) rfl rfl ?_
 rintro _ _ ⟨b3, rfl, rfl⟩
 refine RL ?_
 refine l_nil ?_
 refine c_seq ?_
 refine c_seq ?_
 refine c_region ?_
 refine RLv call_8 (fun w hw => awake_fn w) ?_
 iterate 3 refine RL ?_
 refine l_l l_n rfl rfl ?_
 refine RL ?_
 refine RL ?_
 refine l_nil ?_
 refine c_cond rfl (fun h1 => ?_) (fun h1 => ?_)
 ·have h1n := r_f h1
  refine c_seq ?_
  refine c_region ?_
  refine RLv call_8 (fun w hw => awake_fn w) ?_
  refine RL ?_
  refine l_nil ?_
  refine c_ret ?_
  exact l_end0 (fun _ _ => rets_v rfl) ⟨rfl, rfl⟩
 ·have h1n := r_f h1
  refine c_skip ?_
  refine c_seq ?_
  have hl9 : l.length ≤ 2000 := by omega
  refine c_region ?_
  refine RL ?_
  refine l_x (x_call call_13 rfl (fun w hw => filled_fn l hb hl9 a c w (hN.later0 hw))) rfl rfl ?_
  rintro _ _ ⟨_, ⟨bf, rfl, rfl⟩, rfl⟩
  refine c_u ?_
  refine l_l (light_struct rfl rfl rfl rfl) rfl rfl ?_
  refine l_x (x_box (l := [.slice (some ⟨bf, 0, none⟩) 65536 65536, .slice none 0 0]) rfl rfl) rfl rfl ?_
  rintro _ _ ⟨b25, rfl, rfl⟩
  refine RL ?_
  refine l_nil ?_
  refine c_seq ?_
  refine c_region ?_
  refine l_x (x_loadA rfl rfl rfl (row_own (l := cS s) m_m)) rfl rfl ?_
  rintro _ _ ⟨rfl, rfl⟩
  refine RLv call_9 (fun w hw => state_fn s w) ?_
  refine l_x (x_alloc rfl) rfl rfl ?_
  rintro _ _ ⟨b8, rfl, rfl⟩
  refine l_x s_t rfl rfl ?_
  rintro _ _ ⟨rfl, rfl⟩
  refine l_nil ?_
  refine c_seq ?_
  refine c_region ?_
  refine RLa ?_
  refine RLa ?_
  refine RLo ?_
  refine l_as (v := (.int .u8 (s.r.f / 16 * 16))) (l_and rfl rfl) rfl rfl (congrArg _ (hi_16 hf9)) ?_
  refine RLa ?_
  refine RLa ?_
  refine l_x (x_storeTo (l' := cS (⟨{ s.r with f := s.r.f / 16 * 16 }, s.ime, s.soon, s.halt, s.stop⟩ : CS)) 0 rfl rfl rfl rfl rfl rfl (Nat.le_of_ble_eq_true rfl) rfl) rfl rfl ?_
  rintro _ _ ⟨rfl, rfl⟩
  refine c_u ?_
  refine l_nil ?_
  refine c_seq ?_
  refine c_region ?_
  refine l_x (x_call call_11 rfl (fun w hw => tnew_fn w)) rfl rfl ?_
  rintro _ _ ⟨GT, ⟨tb, rfl, hT⟩, rfl⟩
  obtain ⟨oT, rfl⟩ := hT.one
  
  refine RL ?_
  refine l_nil ?_
  refine c_seq ?_
  refine c_seq ?_
  refine c_region ?_
  refine RL ?_
  refine l_as (l_conv rfl rfl rfl) rfl rfl (by first | exact as_i64 o_m o_m | rfl) ?_
  refine l_as (rem_pos rfl rfl (by decide)) rfl rfl (by first | exact as_rem o_m | rfl) ?_
  refine RL ?_
  refine l_nil ?_
  refine c_block ?_
  refine c_loop (σ := Nat × CS × List Int × Obj × Value × Heap) [6, 10, 11, 12, 13, 38, 39, 40, 41, 42, 43, 44, 45, 46, 47, 48, 49, 50, 51, 52, 53, 54, 55, 56, 57, 58, 59, 60, 61, 62, 63, 64, 65, 66, 67, 68, 69, 70, 71, 72, 73, 74, 75, 76, 77, 78, 79, 80, 81, 82, 83, 84, 85, 86, 87, 88, 89, 90, 91, 92, 93, 94, 95, 96, 97, 98, 99, 100, 101, 102, 103, 104, 105, 106, 107, 108, 109, 110, 111, 112, 113, 114, 115, 116, 117, 118, 119, 120, 121, 122, 123, 124, 125, 126, 127, 128, 129] (fun q => [(38, .int .i64 q.1)]) (fun q => (b8, blk (cS q.2.1) 35) :: (tb, q.2.2.2.1) :: (q.2.2.2.2.2 ++ [(b25, blk [.slice (some ⟨bf, 0, none⟩) 65536 65536, q.2.2.2.2.1] 32), (bf, blk (q.2.2.1.map (.int .u8)) 5)])) (fun q => q.1 ≤ 80 ∧ q.2.1.r.Ok ∧ q.2.1.r.f % 16 = 0 ∧ q.2.2.1.length = 65536 ∧ Byts q.2.2.1 ∧ TabH tb (.int .u32 0) [(tb, q.2.2.2.1)]) (fun q => 80 - q.1) (0, (⟨{ s.r with f := s.r.f / 16 * 16 }, s.ime, s.soon, s.halt, s.stop⟩ : CS), fillB l, oT, .slice none 0 0, []) ?_ ?_ ?_ ?_
  ·exact ⟨Nat.zero_le _, ⟨hs.a, by show 0 ≤ s.r.f / 16 * 16 ∧ s.r.f / 16 * 16 < 256; omega, hs.b, hs.c, hs.d, hs.e, hs.h, hs.l, hs.sp, hs.pc⟩, by show s.r.f / 16 * 16 % 16 = 0; omega, fillB_len l, fillB_ok hb, hT⟩
  ·exact .cons rfl .nil
  ·exact (fun _ h => (St.fl [[_], [_], [_], [_], [_]] [1, 0, 2, 3] rfl h).as (by simp only [List.filterMap_cons, List.filterMap_nil, List.getElem?_cons_zero, List.getElem?_cons_succ, VV.fl, List.cons_append, List.nil_append]))
  ·rintro ⟨i, s', b', oi, vi, Gi⟩ y8 ⟨hi, hs', hf', hl', hb', hTi⟩
   dsimp only at hi hs' hf' hl' hb' hTi ⊢
   refine c_seq ?_
   skip
   refine c_region ?_
   refine RL ?_
   refine l_nil ?_
   refine c_seq ?_
   refine c_cond rfl (fun h2 => ?_) (fun h2 => ?_)
   ·have h2n := r_f h2
    refine c_skip ?_
    refine c_seq ?_
    refine c_block ?_
    refine c_seq ?_
    refine c_region ?_
    refine l_x (x_alloc rfl) rfl rfl ?_
    rintro _ _ ⟨b10, rfl, rfl⟩
    refine l_nil ?_
    refine c_seq ?_
    refine c_region ?_
    refine RLa ?_
    refine RLa ?_
    refine l_x (x_load rfl rfl (at_own (v := .int .u16 s'.r.pc) m_m (by rfl))) rfl rfl ?_
    rintro _ _ ⟨rfl, rfl⟩
    refine RL ?_
    refine l_nil ?_
    refine c_seq ?_
    refine c_heap (fun _ h => St.fl [[_], [_], [_], Gi, [_], [_]] [0, 1, 2, 4, 5] rfl h) ?_
    simp only [List.filterMap_cons, List.filterMap_nil, List.getElem?_cons_zero, List.getElem?_cons_succ, VV.fl, List.cons_append, List.nil_append]
    refine c_region ?_
    refine RL ?_
    refine RL ?_
    refine RLa ?_
    refine l_x (x_storeTo (l' := [.slice (some ⟨bf, 0, none⟩) 65536 65536, .slice none 0 0]) 3 rfl rfl rfl rfl rfl rfl (Nat.le_of_ble_eq_true rfl) rfl) rfl rfl ?_
    rintro _ _ ⟨rfl, rfl⟩
    refine c_u ?_
    refine l_nil ?_
    refine c_seq ?_
    have hm' : RamOk (0 + 7) ⟨b', []⟩ := ⟨hl', hb', show 0 + (0 + 7) ≤ 1000000 by decide, fun _ h => by cases h⟩
    obtain ⟨D, Y, hDY⟩ : ∃ D Y, stepT ramA (⟨s', ⟨b', []⟩⟩ : Rn Rm) = (D, Y) := ⟨_, _, rfl⟩
    have cy9 := cycles_law (s := s') (m := ⟨b', []⟩) hs' hb' rfl hf'
    rw [hDY] at cy9
    dsimp only at cy9
    have ok9 := step_ok (K := ramK b25 bf) (n := 0) (x := (⟨s', ⟨b', []⟩⟩ : Rn Rm)) ⟨hs', hm'⟩
    rw [show stepT (ramK b25 bf).toBusA (⟨s', ⟨b', []⟩⟩ : Rn Rm) = (D, Y) from hDY] at ok9
    dsimp only at ok9
    have cl9 := cy9.len
    have cf9 := ok9.r.f
    refine c_region ?_
    refine RL ?_
    refine l_x (x_loadA rfl rfl rfl (row_own (l := cS s') m_m)) rfl rfl ?_
    rintro _ _ ⟨rfl, rfl⟩
    refine RL ?_
    refine RL ?_
    refine l_x (x_callT (F := [(b10, _), (b8, _)]) (A := (tb, _) :: ([] ++ [(b25, _), (bf, _)])) call_10 rfl (fun w hw => stepR_fn b25 bf (n := 0) s' ⟨b', []⟩ hs' hm' (d := D) (s' := Y.s) (m' := Y.m) hDY _ _ .nil tb _ oi hTi w (St.lentV hw))) rfl rfl ?_
    rintro _ _ ⟨_, ⟨rfl, oT2, hT2, va2, Ga2, hV2, rfl⟩, rfl⟩
    obtain ⟨ba, cpa, spa, rfl, rfl, hca, hla, hma⟩ := hV2.full o_m
    refine c_u ?_
    iterate 3 refine RL ?_
    refine l_x (x_storeTo (l' := cS Y.s) 1 rfl rfl rfl rfl rfl rfl (Nat.le_of_ble_eq_true rfl) rfl) rfl rfl ?_
    rintro _ _ ⟨rfl, rfl⟩
    refine c_u ?_
    refine l_x (x_storeTo (l' := cDd D) 0 rfl rfl rfl rfl rfl rfl (Nat.le_of_ble_eq_true rfl) rfl) rfl rfl ?_
    rintro _ _ ⟨rfl, rfl⟩
    refine c_u ?_
    refine l_nil ?_
    refine c_seq ?_
    refine c_seq ?_
    refine c_region ?_
    refine RL ?_
    refine RL ?_
    refine RLa ?_
    refine RLo ?_
    refine l_l l_n rfl rfl ?_
    refine l_sure false rfl rfl rfl (decide_eq_false o_m) ?_
    iterate 3 refine RL ?_
    refine RLa ?_
    refine RLo ?_
    refine l_l l_n rfl rfl ?_
    refine l_sure false rfl rfl rfl (decide_eq_false o_m) ?_
    refine RL ?_
    refine RL ?_
    refine RLa ?_
    refine RLa ?_
    refine l_x (x_load rfl rfl (at_own (v := .int .u8 Y.s.r.f) m_m (by rfl))) rfl rfl ?_
    rintro _ _ ⟨rfl, rfl⟩
    refine l_as (l_and rfl rfl) rfl rfl (by first | exact as_mask 4 16 (by decide) rfl o_m (show _ < (256 : Int) by omega) (show _ < (256 : Int) by decide) | rfl) ?_
    refine l_sure false rfl rfl rfl (bne_eq_false_iff_eq.2 cy9.f) ?_
    refine RL ?_
    refine RL ?_
    refine RLa ?_
    refine l_x (x_load rfl rfl (at_own (v := .int .u16 D.at_) m_m (by rfl))) rfl rfl ?_
    rintro _ _ ⟨rfl, rfl⟩
    refine RL ?_
    refine l_sure false rfl rfl rfl (bne_eq_false_iff_eq.2 cy9.at_) ?_
    refine RL ?_
    refine l_nil ?_
    refine c_false rfl ?_
    refine c_skip ?_
    refine c_seq ?_
    refine c_region ?_
    refine RL ?_
    refine RL ?_
    refine RLa ?_
    refine RLo ?_
    refine l_l l_n rfl rfl ?_
    refine RL ?_
    refine l_nil ?_
    refine c_block ?_
    refine c_loopk (σ := Nat) [6, 12, 13, 86, 87, 88, 89, 90, 91, 92, 93, 94, 95, 96, 97, 98, 99, 100, 101, 102, 103, 104, 105, 106, 107, 108, 109, 110, 111, 112, 113, 114, 115, 116, 117, 118, 119, 120, 121, 122, 123, 124, 125, 126, 127, 128] (fun j => [(86, .int .i64 j)]) (fun j => j ≤ Y.m.acc.length) (fun j => Y.m.acc.length - j) 0 ?_ ?_ ?_
    ·exact Nat.zero_le _
    ·exact .cons rfl .nil
    ·intro j y16 hj
     refine c_seq ?_
     refine c_region ?_
     refine RL ?_
     refine l_nil ?_
     refine c_seq ?_
     refine c_cond rfl (fun h3 => ?_) (fun h3 => ?_)
     ·have h3n := r_f h3
      refine c_skip ?_
      refine c_seq ?_
      refine c_block ?_
      refine c_seq ?_
      refine c_region ?_
      refine RL ?_
      refine RL ?_
      refine l_nil ?_
      refine c_keep [13, 89, 90, 91, 92, 93, 94, 95, 96, 97, 98] [(13, .bool (D.what == 1 && decide ((j : Int) < D.op.size)))] ?_ (fun y18 => ?_)
      ·refine c_region ?_
       refine RLa ?_
       refine l_x (x_load rfl rfl (at_own (v := .int .i64 D.what) m_m (by rfl))) rfl rfl ?_
       rintro _ _ ⟨rfl, rfl⟩
       refine RL ?_
       refine RLb (fun h4 => ?_) (fun h4 => ?_)
       ·have h4n := r_f h4
        refine RL ?_
        refine RLa ?_
        refine RLa ?_
        refine l_x (x_load rfl rfl (at_own (v := .int .i64 D.op.size) m_m (by rfl))) rfl rfl ?_
        rintro _ _ ⟨rfl, rfl⟩
        iterate 3 refine RL ?_
        refine l_nil ?_
        exact ⟨.cons (congrArg Value.bool (by simp [h4])) .nil, a_g, fun _ h => h⟩
       ·have h4n := r_f h4
        iterate 5 refine RLp ?_
        refine RL ?_
        refine RL ?_
        refine l_nil ?_
        exact ⟨.cons (congrArg Value.bool (by simp [h4])) .nil, a_g, fun _ h => h⟩
      ·refine c_seq ?_
       obtain ⟨e9, he9⟩ : ∃ e, Y.m.acc[j]? = some e := ⟨_, get_some o_m⟩
       have hcy9 := cy9.one j e9 he9
       refine c_region ?_
       refine RL ?_
       refine RL ?_
       refine RLa ?_
       refine RLo ?_
       refine RL ?_
       refine l_l (idx_slice (s := 3) j rfl rfl rfl rfl o_m) rfl rfl ?_
       refine RLa ?_
       refine l_x (x_load rfl rfl (fun w hw => by have h9 := (Row.left (row_own (b := ba) (l := flat cAc Y.m.acc ++ spa) m_m w hw)).at cAc_len he9 0 rfl; simpa using h9)) rfl rfl ?_
       rintro _ _ ⟨rfl, rfl⟩
       refine RL ?_
       refine RL ?_
       refine l_sure false (light_neb rfl rfl rfl) rfl rfl (bne_eq_false_iff_eq.2 hcy9.1) ?_
       refine RL ?_
       refine RL ?_
       refine RLb (fun h5 => ?_) (fun h5 => ?_)
       ·have h5n := r_f h5
        refine RL ?_
        refine RL ?_
        refine RLa ?_
        refine RLo ?_
        refine RL ?_
        refine l_l (idx_slice (s := 3) j rfl rfl rfl rfl o_m) rfl rfl ?_
        refine RLa ?_
        refine l_x (x_load rfl rfl (fun w hw => by have h9 := (Row.left (row_own (b := ba) (l := flat cAc Y.m.acc ++ spa) m_m w hw)).at cAc_len he9 1 rfl; simpa using h9)) rfl rfl ?_
        rintro _ _ ⟨rfl, rfl⟩
        refine RL ?_
        refine RL ?_
        refine l_as (l_conv rfl rfl rfl) rfl rfl (by first | exact as_u16 o_m o_m | exact as_u16m _) ?_
        refine l_as (l_add rfl rfl) rfl rfl (by first | exact as_u16 o_m o_m | exact as_u16m _) ?_
        refine l_sure false rfl rfl rfl (bne_eq_false_iff_eq.2 (hcy9.2 (by simp at h5; exact h5.2) (by simp at h5; exact h5.1))) ?_
        refine RL ?_
        refine RL ?_
        refine l_nil ?_
        refine c_false rfl ?_
        refine c_skip ?_
        refine c_region ?_
        refine l_as (v := (.int .i64 ((j + 1 : Nat) : Int))) rfl rfl rfl (congrArg _ (succ_law o_m)) ?_
        refine RL ?_
        refine l_nil ?_
        exact ⟨j + 1, by omega, by omega, .cons rfl .nil, a_g, fun _ h => h⟩
       ·have h5n := r_f h5
        iterate 13 refine RLp ?_
        refine RL ?_
        refine RL ?_
        refine l_nil ?_
        refine c_false rfl ?_
        refine c_skip ?_
        refine c_region ?_
        refine l_as (v := (.int .i64 ((j + 1 : Nat) : Int))) rfl rfl rfl (congrArg _ (succ_law o_m)) ?_
        refine RL ?_
        refine l_nil ?_
        exact ⟨j + 1, by omega, by omega, .cons rfl .nil, a_g, fun _ h => h⟩
     ·have h3n := r_f h3
      refine c_exit rfl ?_
      refine c_region ?_
      refine l_as (v := (.int .i64 ((i + 1 : Nat) : Int))) rfl rfl rfl (congrArg _ (succ_law o_m)) ?_
      refine RL ?_
      refine l_nil ?_
      exact ⟨(i + 1, Y.s, Y.m.b, oT2, .slice (some ⟨ba, 0, none⟩) Y.m.acc.length cpa, [(ba, blk (flat cAc Y.m.acc ++ spa) 47)]), ⟨by omega, ok9.r, cy9.f, ok9.m.len, ok9.m.by_, hT2⟩, by show 80 - (i + 1) < 80 - i; omega, .cons rfl .nil, a_g, (fun _ h => (St.fl [[_], [_], [_], [_], [_], [_]] [1, 2, 3, 4, 5] rfl h).as (by simp only [List.filterMap_cons, List.filterMap_nil, List.getElem?_cons_zero, List.getElem?_cons_succ, VV.fl, List.cons_append, List.nil_append]))⟩
   ·have h2n := r_f h2
    refine c_exit rfl ?_
    refine c_seq ?_
    refine c_region ?_
    refine RL ?_
    refine l_nil ?_
    refine c_ret ?_
    exact l_end0 (fun _ _ => rets_v rfl) ⟨rfl, rfl⟩

end Go.Proofs.Ytjjemehigdpboaa
