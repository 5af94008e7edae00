/- A machine: a step. -/
import Derived.Test.YtldehodcfajpjaaGreatQcU
set_option linter.unusedSimpArgs false
set_option linter.unusedVariables false
set_option maxRecDepth 100000
set_option maxHeartbeats 4000000
namespace Go.Proofs.YtldehodcfajpjaaGreat
open Go Go.VV Go.Proofs
theorem TabH.blocks {b : Nat} {u3 : Value} {H : Heap} (h : TabH b u3 H) : H.map (·.1) = [b] := by
 rcases h with ⟨_, _, _, _, rfl⟩ | rfl <;> rfl
theorem TabH.lent {b : Nat} {u3 : Value} {H R : Heap} (h : TabH b u3 H) {w0 w : World} {ms : List Nat} (hw : St w0 ms (H ++ R) w) : St w [b] H w := by
 have := hw.lentV
 rwa [h.blocks] at this
theorem TabH.mem {b : Nat} {u3 : Value} {H : Heap} (h : TabH b u3 H) : ∀ x ∈ [b], ∃ o, (x, o) ∈ H := fun x hx => by
 rw [← h.blocks] at hx; exact mem_fst hx
theorem TabF.tab (b : Nat) (u3 : Value) : TabH b u3 (TabF b u3) := .inr rfl
theorem do_fn (b : Nat) (u3 : Value) (H0 : Heap) (hT : TabH b u3 H0) (w : World) (hst : St w [b] H0 w) :
  Does Tryz.prog 194 [.pointer (some ⟨b, 0, none⟩), (.func (.func 195) #[.pointer (some ⟨b, 0, none⟩)] #[])] w [b] (fun v H => v = .tuple #[] ∧ H = TabF b u3) := by
 refine does_of Tryz.func194 rfl rfl rfl hst ?_
 refine c_seq ?_
 rcases hT with ⟨P, B, hP, hB, rfl⟩ | rfl
 ·refine c_region ?_
  refine L_3 ?_
  refine RLv call_227 (fun w hw => load_fn b 0 w (at_own (.head _) rfl w hw)) ?_
  refine Rl ?_
  refine l_nil ?_
  refine c_true rfl ?_
  refine c_region ?_
  refine L_2 ?_
  refine RZ (x_callA call_228 rfl (fun w hw => slow_fn b u3 P B hP hB w (hw.holds _ (.head _)))) rfl ?_
  refine l_nil ?_
  exact EN (List.Sublist.refl _) ⟨rfl, rfl⟩
 ·refine c_region ?_
  refine L_3 ?_
  refine RLv call_227 (fun w hw => load_fn b 1 w (at_own (.head _) rfl w hw)) ?_
  refine Rl ?_
  refine l_nil ?_
  refine c_false rfl ?_
  refine c_skip ?_
  exact EN (List.Sublist.refl _) ⟨rfl, rfl⟩
theorem tnew_fn (w : World) :
  Does Tryz.prog 41 [] w [] (fun v H => ∃ b, v = .pointer (some ⟨b, 0, none⟩) ∧ TabH b (.int .u32 0) H) := by
 refine does_of Tryz.func41 rfl rfl rfl (St.refl w) ?_
 refine c_seq ?_
 refine c_region ?_
 refine Rl ?_
 refine l_nil ?_
 refine c_seq ?_
 refine c_region ?_
 refine RY (light_struct (pl := [(0, 3), (3, 1280), (1283, 1280)]) (z := tabL (.int .u32 0) (.int .i32 0) (.int .u32 0) (List.replicate 256 o0) (List.replicate 256 o0)) (l := tabL (.int .u32 0) (.int .i32 0) (.int .u32 0) (List.replicate 256 o0) (List.replicate 256 o0)) (ps := []) y_g y_g rfl y_g) rfl ?_
 refine RX (x_box rfl (l := tabL (.int .u32 0) (.int .i32 0) (.int .u32 0) (List.replicate 256 o0) (List.replicate 256 o0)) rfl) rfl ?_
 rintro _ _ ⟨b2, rfl, rfl⟩
 refine Rl ?_
 refine l_nil ?_
 refine c_ret ?_
 exact EV rfl (List.Sublist.refl _) ⟨_, rfl, .inl ⟨_, _, by simp, by simp, rfl⟩⟩
theorem decode_fn (b : Nat) (u3 : Value) (H0 : Heap) (hT : TabH b u3 H0) (a x c : Int) (ha : 0 ≤ a ∧ a < 256) (hx : 0 ≤ x ∧ x < 256) (hc : 0 ≤ c ∧ c < 256) (w : World) (hst : St w [b] H0 w) :
  Does Tryz.prog 154 [.pointer (some ⟨b, 0, none⟩), .int .u8 a, .int .u8 x, .int .u8 c] w [b] (fun v H => v = .agg (cO (dcd a x c)).toArray ∧ TabH b u3 H) := by
 obtain ⟨m, o, rfl, hm, ho⟩ := tab_some ha.1 ha.2
 obtain ⟨k, rfl⟩ : ∃ k : Nat, x = k := ⟨x.toNat, y_D⟩
 refine does_of Tryz.func154 rfl rfl rfl hst ?_
 refine c_seq ?_
 refine c_region ?_
 refine RX (x_alloc rfl) rfl ?_
 rintro _ _ ⟨b8, rfl, rfl⟩
 refine l_nil ?_
 refine c_seq ?_
 refine c_seq ?_
 refine c_region ?_
 refine L_2 ?_
 refine l_nil ?_
 refine c_false rfl ?_
 refine c_skip ?_
 refine c_seq ?_
 refine c_region ?_
 refine L_4 ?_
 refine RW (v := (.func (.func 195) #[.pointer (some ⟨b, 0, none⟩)] #[])) rfl rfl y_cc ?_
 refine l_heap (H' := H0 ++ [(b8, _)]) (fun _ h => St.fl [[_], H0] [1, 0] rfl (h.as rfl)) ?_
 refine RX (x_callF (A := H0) (G := [(b8, _)]) [b] call_194 rfl hT.mem (fun w hw => do_fn b u3 H0 hT w (hT.lent hw))) rfl ?_
 rintro _ _ ⟨_, ⟨rfl, rfl⟩, rfl⟩
 refine l_nil ?_
 refine c_seq ?_
 refine c_seq ?_
 refine c_region ?_
 refine L_2 ?_
 refine l_nil ?_
 refine KC (fun h1 h1n => ?_) (fun h1 h1n => ?_)
 ·refine c_seq ?_
  refine c_region ?_
  refine L_4 ?_
  refine RY (idx_array (s := 5) k rfl rfl rfl rfl o_m) rfl ?_
  refine RZ (x_loadA rfl rfl rfl (fun w hw => tabL_rowB tabP_len (row_own (.head _) w hw) (tabB_get o_m))) rfl ?_
  refine RZ s_t rfl ?_
  refine l_nil ?_
  refine c_ret ?_
  exact ends_of (H' := TabF b u3) (fun w hw => rets_cell rfl rfl rfl (row_own m_m w hw)) (fun _ h => h.sub (List.sublist_append_left _ _)) ⟨aggE (by rw [dcd_beh y_a]; rfl), TabF.tab b u3⟩
 ·refine c_skip ?_
  refine c_seq ?_
  refine c_region ?_
  refine L_4 ?_
  refine RY (idx_array (s := 5) m rfl rfl rfl rfl hm) rfl ?_
  refine RZ (x_loadA rfl rfl rfl (fun w hw => tabL_rowP (row_own (.head _) w hw) ho)) rfl ?_
  refine RX (x_alloc rfl) rfl ?_
  rintro _ _ ⟨b9, rfl, rfl⟩
  refine RZ s_t rfl ?_
  refine l_nil ?_
  refine c_seq ?_
  refine c_seq ?_
  refine c_region ?_
  refine L_2 ?_
  refine l_nil ?_
  refine c_block ?_
  refine c_seq ?_
  refine c_region ?_
  refine L_2 ?_
  refine l_nil ?_
  refine KC (fun h2 h2n => ?_) (fun h2 h2n => ?_)
  ·refine c_region ?_
   refine Rl ?_
   refine RW (v := (.int .u16 k)) rfl rfl (congrArg _ (wrap_u16_id o_m o_m)) ?_
   refine RLa ?_
   refine RZ s_t rfl ?_
   refine l_nil ?_
   refine c_seq ?_
   refine c_region ?_
   refine RZ (x_loadA rfl rfl rfl y_h) rfl ?_
   refine RZ s_t rfl ?_
   refine l_nil ?_
   refine c_ret ?_
   exact ends_of (H' := TabF b u3) (fun w hw => rets_cell rfl rfl rfl (row_own m_m w hw)) (fun _ h => St.fl [[_], [_], [_]] [1] rfl h) ⟨aggE (by rw [dcd_plain rfl y_a ho, numO_2 y_a]; rfl), TabF.tab b u3⟩
  ·refine c_seq ?_
   refine c_region ?_
   refine L_2 ?_
   refine l_nil ?_
   refine KC (fun h3 h3n => ?_) (fun h3 h3n => ?_)
   ·refine c_region ?_
    refine Rl ?_
    refine RW (v := (.int .u16 k)) rfl rfl (congrArg _ (wrap_u16_id o_m o_m)) ?_
    refine Rl ?_
    refine RW (v := (.int .u16 c)) rfl rfl (congrArg _ (wrap_u16_id o_m o_m)) ?_
    refine RY (shl_pos rfl rfl y_c) rfl ?_
    refine RW (v := (.int .u16 (k + 256 * c))) rfl rfl (congrArg _ (or_law hx hc)) ?_
    refine RLa ?_
    refine RZ s_t rfl ?_
    refine l_nil ?_
    refine c_seq ?_
    refine c_region ?_
    refine RZ (x_loadA rfl rfl rfl y_h) rfl ?_
    refine RZ s_t rfl ?_
    refine l_nil ?_
    refine c_ret ?_
    exact ends_of (H' := TabF b u3) (fun w hw => rets_cell rfl rfl rfl (row_own m_m w hw)) (fun _ h => St.fl [[_], [_], [_]] [1] rfl h) ⟨aggE (by rw [dcd_plain rfl y_a ho, numO_3 y_a]; rfl), TabF.tab b u3⟩
   ·refine c_skip ?_
    refine c_seq ?_
    refine c_region ?_
    refine RZ (x_loadA rfl rfl rfl y_h) rfl ?_
    refine RZ s_t rfl ?_
    refine l_nil ?_
    refine c_ret ?_
    exact ends_of (H' := TabF b u3) (fun w hw => rets_cell rfl rfl rfl (row_own m_m w hw)) (fun _ h => St.fl [[_], [_], [_]] [1] rfl h) ⟨aggE (by rw [dcd_plain rfl y_a ho, numO_1 y_a y_a]; rfl), TabF.tab b u3⟩
theorem rorder_fn {β : Type} (K : BusK Tryz.prog β) (rb : Nat) {bn : Nat} (x : Rn β) (h : RunOk K.toBusO (bn + 4) x) (G : Heap) (hG : K.rep x.m G) (o : Opr) (ho : OpOk o) (p : Int) (hp : 0 ≤ p ∧ p < 65536) (w : World) (hst : St w (rb :: G.map (·.1)) ((rb, blk (cN K x.s) 211) :: G) w) : Does Tryz.prog 96 [.pointer (some ⟨rb, 0, none⟩), .agg (cO o).toArray, .int .u16 p] w (rb :: G.map (·.1)) (fun v H => v = .bool (ordT K.toBusA o p x).1 ∧ RunH K rb (ordT K.toBusA o p x).2 H) := by
 refine does_of Tryz.func96 rfl rfl rfl hst ?_
 refine ZEe ?_
 refine ZC8 fun b0 => ?_
 refine ZAB ?_
 refine ZBV ?_
 refine ZAS ?_
 refine KC (fun q0 q0n => ?_) (fun q0 q0n => ?_)
 ·refine ZBj ?_
  refine RZ (x_storeTo (l' := cN K { x.s with stop := true }) 1 rfl rfl rfl rfl rfl rfl (Nat.le_of_ble_eq_true rfl) rfl) rfl ?_
  refine ZBE ?_
  refine ZAY ?_
  have e9 : ordT K.toBusA o p x = (true, ⟨{ x.s with stop := true }, x.m⟩) := by unfold ordT; rw [if_pos o_m]
  exact EV rfl (.cons _ (List.Sublist.refl _)) ⟨y_eJ, G, y_eJ, y_d7⟩
 ·refine ZAS ?_
  refine KC (fun q1 q1n => ?_) (fun q1 q1n => ?_)
  ·refine ZBj ?_
   refine RZ (x_storeTo (l' := cN K { x.s with halt := true }) 1 rfl rfl rfl rfl rfl rfl (Nat.le_of_ble_eq_true rfl) rfl) rfl ?_
   refine ZBE ?_
   refine ZAY ?_
   have e9 : ordT K.toBusA o p x = (true, ⟨{ x.s with halt := true }, x.m⟩) := by unfold ordT; rw [if_neg o_m]; rw [if_pos o_m]
   exact EV rfl (.cons _ (List.Sublist.refl _)) ⟨y_eJ, G, y_eJ, y_d7⟩
  ·refine ZAS ?_
   refine KC (fun q2 q2n => ?_) (fun q2 q2n => ?_)
   ·refine ZAP ?_
    refine L_6 ?_
    refine RZ (x_storeTo (l' := cN K { x.s with r := { x.s.r with pc := p } }) 1 rfl rfl rfl rfl rfl rfl (Nat.le_of_ble_eq_true rfl) rfl) rfl ?_
    refine ZBE ?_
    refine ZAY ?_
    have e9 : ordT K.toBusA o p x = (true, ⟨{ x.s with r := { x.s.r with pc := p } }, x.m⟩) := by unfold ordT; (iterate 2 rw [if_neg o_m]); rw [if_pos o_m]; rfl
    exact EV rfl (.cons _ (List.Sublist.refl _)) ⟨y_eJ, G, y_eJ, y_d7⟩
   ·refine ZAS ?_
    refine KC (fun q3 q3n => ?_) (fun q3 q3n => ?_)
    ·refine ZBj ?_
     refine RZ (x_storeTo (l' := cN K { x.s with ime := false }) 1 rfl rfl rfl rfl rfl rfl (Nat.le_of_ble_eq_true rfl) rfl) rfl ?_
     refine ZBE ?_
     refine ZAY ?_
     have e9 : ordT K.toBusA o p x = (true, ⟨{ x.s with ime := false }, x.m⟩) := by unfold ordT; (iterate 3 rw [if_neg o_m]); rw [if_pos o_m]
     exact EV rfl (.cons _ (List.Sublist.refl _)) ⟨y_eJ, G, y_eJ, y_d7⟩
    ·refine ZAS ?_
     refine KC (fun q4 q4n => ?_) (fun q4 q4n => ?_)
     ·refine ZBj ?_
      refine RZ (x_storeTo (l' := cN K { x.s with soon := true }) 1 rfl rfl rfl rfl rfl rfl (Nat.le_of_ble_eq_true rfl) rfl) rfl ?_
      refine ZBE ?_
      refine ZAY ?_
      have e9 : ordT K.toBusA o p x = (true, ⟨{ x.s with soon := true }, x.m⟩) := by unfold ordT; (iterate 4 rw [if_neg o_m]); rw [if_pos o_m]
      exact EV rfl (.cons _ (List.Sublist.refl _)) ⟨y_eJ, G, y_eJ, y_d7⟩
     ·refine ZA0 ?_
      rcases (show isB o.kind = true ∨ (isB o.kind = false ∧ isW o.kind = true) ∨ (isB o.kind = false ∧ isW o.kind = false ∧ isP o.kind = true) ∨ (isB o.kind = false ∧ isW o.kind = false ∧ isP o.kind = false) by cases isB o.kind <;> cases isW o.kind <;> cases isP o.kind <;> simp) with hB | ⟨hB, hW⟩ | ⟨hB, hW, hP⟩ | ⟨hB, hW, hP⟩
      ·refine ZAZ ?_
       refine ZAm ?_
       refine ZBg fun G0 hG0 => ?_
       rw [hB]
       refine L_16 ?_
       refine ZAb ?_
       refine c_ret ?_
       have e9 : ordT K.toBusA o p x = (true, effB K.toBusA o x) := by unfold ordT; (iterate 5 rw [if_neg o_m]); rw [if_pos hB]
       exact EV rfl (.cons _ (List.Sublist.refl _)) ⟨y_eJ, G0, y_s, y_2⟩
      ·refine ZAZ ?_
       refine ZAm ?_
       refine ZBg fun G0 hG0 => ?_
       rw [hB]
       rw [effB_no K.toBusA hB] at hG0 ⊢
       refine L_2 ?_
       refine ZAm ?_
       refine ZCS fun G1 hG1 => ?_
       rw [hW]
       refine L_12 ?_
       refine ZAb ?_
       refine c_ret ?_
       have e9 : ordT K.toBusA o p x = (true, effW K.toBusA o x) := by unfold ordT; (iterate 5 rw [if_neg o_m]); rw [if_neg (by rw [hB]; decide), if_pos hW]
       exact EV rfl (.cons _ (List.Sublist.refl _)) ⟨y_eJ, G1, y_s, y_8⟩
      ·refine ZAZ ?_
       refine ZAm ?_
       refine ZBg fun G0 hG0 => ?_
       rw [hB]
       rw [effB_no K.toBusA hB] at hG0 ⊢
       refine L_2 ?_
       refine ZAm ?_
       refine ZCS fun G1 hG1 => ?_
       rw [hW]
       rw [effW_no K.toBusA hW] at hG1 ⊢
       refine ZBQ ?_
       refine ZEo ?_
       rintro _ _ ⟨_, ⟨rfl, G2, rfl, hG2⟩, rfl⟩
       rw [if_pos (show isP o.kind = true by rw [hP])] at hG2 ⊢
       rw [hP]
       refine L_7 ?_
       refine ZAb ?_
       refine c_ret ?_
       have e9 : ordT K.toBusA o p x = (true, effP K.toBusA o x) := by unfold ordT; (iterate 5 rw [if_neg o_m]); rw [if_neg (by rw [hB]; decide), if_neg (by rw [hW]; decide), if_pos hP]
       exact EV rfl (.cons _ (List.Sublist.refl _)) ⟨y_eJ, G2, y_s, by rw [e9]; exact hG2⟩
      ·refine ZAZ ?_
       refine ZAm ?_
       refine ZBg fun G0 hG0 => ?_
       rw [hB]
       rw [effB_no K.toBusA hB] at hG0 ⊢
       refine L_2 ?_
       refine ZAm ?_
       refine ZCS fun G1 hG1 => ?_
       rw [hW]
       rw [effW_no K.toBusA hW] at hG1 ⊢
       refine ZBQ ?_
       refine ZEo ?_
       rintro _ _ ⟨_, ⟨rfl, G2, rfl, hG2⟩, rfl⟩
       rw [if_neg (show ¬ isP o.kind = true by rw [hP]; decide)] at hG2 ⊢
       rw [hP]
       refine ZBQ ?_
       refine ZAm ?_
       refine RX (x_callT (F := [(b0, _)]) (A := (rb, _) :: _) call_158 rfl (fun w hw => rjump_fn K rb x (h.le o_m : RunOk K.toBusO (bn + 4) x) G2 hG2 o ho w (St.lentV hw))) rfl ?_
       rintro _ _ ⟨_, ⟨rfl, G3, rfl, hG3⟩, rfl⟩
       refine ZAs ?_
       have e9 : ordT K.toBusA o p x = (metJ o x, effJ K.toBusA o x) := by unfold ordT; (iterate 5 rw [if_neg o_m]); rw [if_neg (by rw [hB]; decide), if_neg (by rw [hW]; decide), if_neg (by rw [hP]; decide)]
       exact EV rfl (.cons _ (List.Sublist.refl _)) ⟨y_eJ, G3, y_s, by rw [e9]; exact hG3⟩
theorem low1_fn (p : Int) (hp : 0 < p ∧ p < 32) (w : World) : Does Tryz.prog 152 [.int .u8 p] w [] (fun v H => H = [] ∧ v = .int .i64 (low1 p)) := by
 refine does_of Tryz.func152 rfl rfl rfl (St.refl w) ?_
 refine ZCI ?_
 rcases (show p = 1 ∨ p = 2 ∨ p = 3 ∨ p = 4 ∨ p = 5 ∨ p = 6 ∨ p = 7 ∨ p = 8 ∨ p = 9 ∨ p = 10 ∨ p = 11 ∨ p = 12 ∨ p = 13 ∨ p = 14 ∨ p = 15 ∨ p = 16 ∨ p = 17 ∨ p = 18 ∨ p = 19 ∨ p = 20 ∨ p = 21 ∨ p = 22 ∨ p = 23 ∨ p = 24 ∨ p = 25 ∨ p = 26 ∨ p = 27 ∨ p = 28 ∨ p = 29 ∨ p = 30 ∨ p = 31 by omega) with rfl | rfl | rfl | rfl | rfl | rfl | rfl | rfl | rfl | rfl | rfl | rfl | rfl | rfl | rfl | rfl | rfl | rfl | rfl | rfl | rfl | rfl | rfl | rfl | rfl | rfl | rfl | rfl | rfl | rfl | rfl
 ·refine ZAo ?_
  refine ZAw ?_
  exact ZBU
 ·refine ZAo ?_
  refine ZAw ?_
  exact ZBU
 ·refine ZAo ?_
  refine ZAw ?_
  exact ZBU
 ·refine ZAo ?_
  refine ZAw ?_
  exact ZBU
 ·refine ZAo ?_
  refine ZAw ?_
  exact ZBU
 ·refine ZAo ?_
  refine ZAw ?_
  exact ZBU
 ·refine ZAo ?_
  refine ZAw ?_
  exact ZBU
 ·refine ZAo ?_
  refine ZAw ?_
  exact ZBU
 ·refine ZAo ?_
  refine ZAw ?_
  exact ZBU
 ·refine ZAo ?_
  refine ZAw ?_
  exact ZBU
 ·refine ZAo ?_
  refine ZAw ?_
  exact ZBU
 ·refine ZAo ?_
  refine ZAw ?_
  exact ZBU
 ·refine ZAo ?_
  refine ZAw ?_
  exact ZBU
 ·refine ZAo ?_
  refine ZAw ?_
  exact ZBU
 ·refine ZAo ?_
  refine ZAw ?_
  exact ZBU
 ·refine ZAo ?_
  refine ZAw ?_
  exact ZBU
 ·refine ZAo ?_
  refine ZAw ?_
  exact ZBU
 ·refine ZAo ?_
  refine ZAw ?_
  exact ZBU
 ·refine ZAo ?_
  refine ZAw ?_
  exact ZBU
 ·refine ZAo ?_
  refine ZAw ?_
  exact ZBU
 ·refine ZAo ?_
  refine ZAw ?_
  exact ZBU
 ·refine ZAo ?_
  refine ZAw ?_
  exact ZBU
 ·refine ZAo ?_
  refine ZAw ?_
  exact ZBU
 ·refine ZAo ?_
  refine ZAw ?_
  exact ZBU
 ·refine ZAo ?_
  refine ZAw ?_
  exact ZBU
 ·refine ZAo ?_
  refine ZAw ?_
  exact ZBU
 ·refine ZAo ?_
  refine ZAw ?_
  exact ZBU
 ·refine ZAo ?_
  refine ZAw ?_
  exact ZBU
 ·refine ZAo ?_
  refine ZAw ?_
  exact ZBU
 ·refine ZAo ?_
  refine ZAw ?_
  exact ZBU
 ·refine ZAo ?_
  refine ZAw ?_
  exact ZBU
theorem rinterrupt_fn {β : Type} (K : BusK Tryz.prog β) (rb : Nat) {bn : Nat} (x : Rn β) (h : RunOk K.toBusO (bn + 5) x) (G : Heap) (hG : K.rep x.m G) (p : Int) (hp : 0 < p ∧ p < 32) (w : World) (hst : St w (rb :: G.map (·.1)) ((rb, blk (cN K x.s) 211) :: G) w) : Does Tryz.prog 94 [.pointer (some ⟨rb, 0, none⟩), .int .u8 p] w (rb :: G.map (·.1)) (fun v H => v = .int .i64 (low1 p) ∧ RunH K rb (takeI K.toBusA p x) H) := by
 have hl9 := low1_ok p
 refine does_of Tryz.func94 rfl rfl rfl hst ?_
 refine ZAa ?_
 refine ZAV ?_
 refine RLv call_152 (fun w hw => low1_fn p hp w) ?_
 refine ZEl ?_
 refine RX (x_callA call_93 rfl (fun w hw => ridle_fn K rb 2 y_c x (h.le o_m : RunOk K.toBusO (bn + 3 + 2) x) G hG w (St.lentA hw))) rfl ?_
 rintro _ _ ⟨rfl, G0, rfl, hG0⟩
 refine ZAb ?_
 refine ZAA ?_
 refine L_7 ?_
 refine RX (x_callA call_153 rfl (fun w hw => rpush_fn K rb (idles K.toBusA 2 x) (h.idleK 2) G0 hG0 x.s.r.pc h.r.pc w (St.lentA hw))) rfl ?_
 rintro _ _ ⟨rfl, G1, rfl, hG1⟩
 refine ZAb ?_
 refine ZDU ?_
 refine RX (x_callIT (F := [(rb, _)]) (A := G1) rfl K.mA K.cA rfl (fun w hw => K.dA ((h.idleK 2).push h.r.pc).m hG1 (St.lentV hw) hl9)) rfl ?_
 rintro _ _ ⟨G2, ⟨rfl, hG2⟩, rfl⟩
 refine ZBE ?_
 refine ZAV ?_
 refine RX (x_callA call_93 rfl (fun w hw => ridle_fn K rb 1 y_c ((push K.toBusA x.s.r.pc (idles K.toBusA 2 x)).mem (K.ack (low1 p) (push K.toBusA x.s.r.pc (idles K.toBusA 2 x)).m)) (((h.idleK 2).push h.r.pc).mem (K.oA ((h.idleK 2).push h.r.pc).m hl9)) G2 hG2 w (St.lentA hw))) rfl ?_
 rintro _ _ ⟨rfl, G3, rfl, hG3⟩
 refine ZAb ?_
 refine ZDU ?_
 refine RZ (x_storeTo (l' := cN K { (idles K.toBusA 1 ((push K.toBusA x.s.r.pc (idles K.toBusA 2 x)).mem (K.ack (low1 p) (push K.toBusA x.s.r.pc (idles K.toBusA 2 x)).m))).s with ime := false }) 0 rfl rfl rfl rfl rfl rfl (Nat.le_of_ble_eq_true rfl) rfl) rfl ?_
 refine c_u ?_
 refine L_3 ?_
 refine RZ (x_storeTo (l' := cN K { (idles K.toBusA 1 ((push K.toBusA x.s.r.pc (idles K.toBusA 2 x)).mem (K.ack (low1 p) (push K.toBusA x.s.r.pc (idles K.toBusA 2 x)).m))).s with ime := false, soon := false }) 0 rfl rfl rfl rfl rfl rfl (Nat.le_of_ble_eq_true rfl) rfl) rfl ?_
 refine ZBE ?_
 refine ZAU ?_
 refine ZCt ?_
 refine ZBd ?_
 refine RW (l_conv rfl rfl rfl) rfl y_r ?_
 refine L_4 ?_
 refine RZ (x_storeTo (l' := cN K { (idles K.toBusA 1 ((push K.toBusA x.s.r.pc (idles K.toBusA 2 x)).mem (K.ack (low1 p) (push K.toBusA x.s.r.pc (idles K.toBusA 2 x)).m))).s with ime := false, soon := false, r := { (idles K.toBusA 1 ((push K.toBusA x.s.r.pc (idles K.toBusA 2 x)).mem (K.ack (low1 p) (push K.toBusA x.s.r.pc (idles K.toBusA 2 x)).m))).s.r with pc := 64 + 8 * low1 p } }) 0 rfl rfl rfl rfl rfl rfl (Nat.le_of_ble_eq_true rfl) rfl) rfl ?_
 refine ZBE ?_
 refine ZBr ?_
 exact EV rfl (List.Sublist.refl _) ⟨rfl, G3, rfl, hG3⟩
theorem rnext_fn {β : Type} (K : BusK Tryz.prog β) (rb : Nat) {bn : Nat} (x : Rn β) (h : RunOk K.toBusO (bn + 3) x) (G : Heap) (hG : K.rep x.m G) (tb : Nat) (u3 : Value) (oT : Obj) (hT : TabH tb u3 [(tb, oT)]) (w : World) (hst : St w (tb :: rb :: G.map (·.1)) ((tb, oT) :: (rb, blk (cN K x.s) 211) :: G) w) : Does Tryz.prog 95 [.pointer (some ⟨rb, 0, none⟩), .pointer (some ⟨tb, 0, none⟩)] w (tb :: rb :: G.map (·.1)) (fun v H => v = .agg (cO (nextT K.toBusA x).1).toArray ∧ ∃ oT', TabH tb u3 [(tb, oT')] ∧ ∃ G', H = (tb, oT') :: (rb, blk (cN K (nextT K.toBusA x).2.s) 211) :: G' ∧ K.rep (nextT K.toBusA x).2.m G') := by
 refine does_of Tryz.func95 rfl rfl rfl hst ?_
 refine ZAA ?_
 refine ZBq fun b0 => ?_
 refine ZAb ?_
 refine ZAA ?_
 refine ZAq fun b1 => ?_
 refine ZAb ?_
 refine ZAA ?_
 refine RS ?_
 refine ZD4 fun b2 => ?_
 refine ZAO ?_
 refine ZAG ?_
 refine ZBO ?_
 refine c_loop (σ := Nat × Obj × Heap) [7, 9, 10, 11, 12, 13, 14, 15, 16, 17, 18, 19, 20, 21, 22, 23, 24, 25, 26, 27, 28, 29, 30, 31, 32, 33, 34, 35, 36, 37, 38, 39, 40, 41, 42, 43, 44, 45, 46, 47, 48] (fun s => [(7, .int .i64 s.1)]) (fun s => (b2, blk (cO (nxN K.toBusA x s.1).o) 50) :: (b1, blk ((nxN K.toBusA x s.1).b.map (.int .u8)) 263) :: (b0, blk (cO oN) 50) :: (tb, s.2.1) :: (rb, blk (cN K (nxN K.toBusA x s.1).x.s) 211) :: s.2.2) (fun s => s.1 ≤ 3 ∧ (∀ j : Nat, j < s.1 → (j : Int) < (nxN K.toBusA x j).o.size) ∧ TabH tb u3 [(tb, s.2.1)] ∧ K.rep (nxN K.toBusA x s.1).x.m s.2.2) (fun s => 3 - s.1) (0, oT, G) ?_ ?_ ?_ ?_
 ·exact ⟨Nat.zero_le _, fun j hj => absurd hj (Nat.not_lt_zero _), hT, hG⟩
 ·exact .cons rfl .nil
 ·exact fun _ h => h
 ·rintro ⟨i, oi, Gi⟩ y4 ⟨hi, hpi, hTi, hGi⟩
  dsimp only at hi hpi hTi hGi ⊢
  have hx9 := h.nx i hi
  refine ZAG ?_
  refine L_4 ?_
  refine ZAb ?_
  refine KC (fun q0 q0n => ?_) (fun q0 q0n => ?_)
  ·refine ZDp ?_
   have hs9 : i < 3 := by have := hx9.sz; omega
   have hy9 := hx9.le (k := 0 + 1) o_m
   have hl9 := hx9.len
   have hb9 := byts_set hx9.by_ i hy9.x.fetch1.2
   refine DR [5, 6, 7, 8, 9, 10, 11, 12] (pln [0, 2, 4, 6, 8, 10, 12, 14, 16, 18, 20, 22, 24, 27, 28, 31]) ?_
   refine D_13 ?_
   refine DX rfl (x_callIT (F := [(b2, _), (b1, _), (b0, _), (tb, _), (rb, _)]) (A := Gi) rfl K.mF K.cF rfl (fun w hw => K.dF hy9.x.m hGi (St.lentV hw) hx9.x.r.pc)) rfl n_h ?_
   rintro _ _ ⟨G0, ⟨rfl, hG0⟩, rfl⟩
   refine c_u ?_
   refine DY rfl (idx_array1 i rfl rfl rfl rfl o_m) rfl ?_
   refine DZ rfl (x_storeTo (l' := ((nxN K.toBusA x i).b.set i (K.fetch (nxN K.toBusA x i).x.s.r.pc (nxN K.toBusA x i).x.m).1).map (.int .u8)) 1 rfl rfl rfl rfl rfl rfl (by simp [hl9]; omega) (by rw [Nat.zero_add]; exact putL_int _ o_m _)) rfl n_h ?_
   refine c_u ?_
   refine ZEb ?_
   refine ZAA ?_
   refine L_6 ?_
   refine RW (v := (.int .u16 (inc16 (nxN K.toBusA x i).x.s.r.pc))) (l_add rfl rfl) rfl (congrArg _ (wrap_u16 _)) ?_
   refine L_4 ?_
   refine RZ (x_storeTo (l' := cN K { (nxN K.toBusA x i).x.s with r := { (nxN K.toBusA x i).x.s.r with pc := inc16 (nxN K.toBusA x i).x.s.r.pc } }) 4 rfl rfl rfl rfl rfl rfl (Nat.le_of_ble_eq_true rfl) rfl) rfl ?_
   refine ZBE ?_
   refine ZAZ ?_
   refine RY y_dN rfl ?_
   refine RZ (x_load rfl rfl (at_own m_m (map_at (j := 0) (by simp [hl9])))) rfl ?_
   refine RY y_dU rfl ?_
   refine RZ (x_load rfl rfl (at_own m_m (map_at (j := 1) (by simp [hl9])))) rfl ?_
   refine RY y_dX rfl ?_
   refine RZ (x_load rfl rfl (at_own m_m (map_at (j := 2) (by simp [hl9])))) rfl ?_
   refine RX (x_callM (F := [(b2, _), (b1, _), (b0, _)]) (A := [(tb, _)]) (G := (rb, _) :: _) [tb] call_154 rfl (fun _ hb => mem_fst (G := [(tb, _)]) hb) (fun w hw => decode_fn tb u3 _ hTi _ _ _ (hb9.get 0) (hb9.get 1) (hb9.get 2) w (hTi.lent hw))) rfl ?_
   rintro _ _ ⟨HT, ⟨rfl, hT0⟩, rfl⟩
   obtain ⟨oT0, rfl⟩ := hT0.one
   refine c_u ?_
   refine RZ (x_storeTo (l' := cO (nxN K.toBusA x (i + 1)).o) 0 rfl rfl rfl rfl rfl rfl (Nat.le_of_ble_eq_true rfl) rfl) rfl ?_
   refine ZBE ?_
   refine ZAZ ?_
   refine ZAL ?_
   exact ⟨(i + 1, oT0, G0), ⟨y_D, fun j hj => by rcases Nat.lt_succ_iff_lt_or_eq.1 hj with q0 | rfl; exact hpi j q0; assumption, hT0, hG0⟩, y_cH, .cons rfl .nil, a_g, fun _ h => h⟩
  ·refine ZBa ?_
   refine ZDZ ?_
   refine ZA4 ?_
   have e9 := nx_end K.toBusA hi hpi (by assumption)
   exact l_end (fun w hw => rets_cell rfl rfl rfl (row_own (b := b0) (l := cO (nxN K.toBusA x i).o) m_m w hw)) (.cons _ (.cons _ (.cons _ (List.Sublist.refl _)))) ⟨y_eJ, oi, hTi, Gi, y_eJ, by rw [e9]; exact hGi⟩
set_option maxHeartbeats 4000000 in
theorem step_fn {β : Type} (K : BusK Tryz.prog β) {bn : Nat} (s : CS) (m : β) (h : RunOk K.toBusO (bn + 7) (⟨s, m⟩ : Rn _)) (G : Heap) (hG : K.rep m G) (tb : Nat) (u3 : Value) (oT : Obj) (hT : TabH tb u3 [(tb, oT)]) (w : World) (hst : St w (tb :: G.map (·.1)) ((tb, oT) :: G) w) : Does Tryz.prog 51 [.pointer (some ⟨tb, 0, none⟩), .agg (cS s).toArray, .iface K.t0 K.v] w (tb :: G.map (·.1)) (fun v H => v = .tuple #[.agg (cS (stepT K.toBusA (⟨s, m⟩ : Rn _)).2.s).toArray, .agg (cDd (stepT K.toBusA (⟨s, m⟩ : Rn _)).1).toArray] ∧ ∃ oT', TabH tb u3 [(tb, oT')] ∧ ∃ G', H = (tb, oT') :: G' ∧ K.rep (stepT K.toBusA (⟨s, m⟩ : Rn _)).2.m G') := by
 have hp9 : 0 ≤ K.pend m ∧ K.pend m < 32 := K.oP h.m
 obtain ⟨r, ime, soon, halt, stop⟩ := s
 refine does_of Tryz.func51 rfl rfl rfl hst ?_
 refine ZAA ?_
 refine RX (x_box (l := cS ⟨r, ime, soon, halt, stop⟩) rfl rfl) rfl ?_
 refine ZC8 fun b0 => ?_
 refine ZAq fun b1 => ?_
 refine ZD4 fun b2 => ?_
 refine ZAb ?_
 refine ZA6 ?_
 refine RS ?_
 refine RX (x_alloc rfl) rfl ?_
 rintro _ _ ⟨b3, rfl, rfl⟩
 refine RZ (x_storeTo (l' := cDd ⟨0, 0, r.pc, oN, false⟩) 0 rfl rfl rfl rfl rfl rfl (Nat.le_of_ble_eq_true rfl) rfl) rfl ?_
 refine ZBE ?_
 refine ZAG ?_
 iterate 6 refine Rl ?_
 refine ZBL ?_
 refine ZAA ?_
 refine RZ (x_loadA rfl rfl rfl (by first | exact row_own m_m | exact row_own_at m_m _ 14 rfl)) rfl ?_
 refine Rl ?_
 refine RS ?_
 refine RX (x_box (l := cN K ⟨r, ime, soon, halt, stop⟩) rfl rfl) rfl ?_
 rintro _ _ ⟨b4, rfl, rfl⟩
 refine l_heap (perm_down [(b3, _), (b2, _), (b1, _), (b0, _), (tb, _)]) ?_
 refine c_u ?_
 refine ZAB ?_
 refine ZCc ?_
 rcases stop with _ | _
 ·refine ZCx ?_
  refine ZBL ?_
  refine ZAV ?_
  refine RX (x_callIT (F := [(b3, _), (b2, _), (b1, _), (b0, _), (tb, _), (b4, _)]) (A := G) rfl K.mP K.cP rfl (fun w hw => K.dP h.m hG (St.lentV hw))) rfl ?_
  rintro _ _ ⟨GP, ⟨rfl, hGP⟩, rfl⟩
  rw [hGP]
  refine c_u ?_
  refine ZEm ?_
  refine c_keep [50, 51, 52, 53, 54, 55, 56, 57, 58] [(58, .bool (decide (halt = true ∧ K.pend m = 0)))] ?_ (fun y10 => ?_)
  ·rcases halt with _ | _
   ·refine ZAP ?_
    refine L_9 ?_
    refine ZAb ?_
    exact ⟨.cons (congrArg Value.bool y_b8) .nil, a_g, fun _ h => h⟩
   ·refine ZAP ?_
    refine L_9 ?_
    refine ZAb ?_
    exact ⟨.cons (congrArg Value.bool y_b8) .nil, a_g, fun _ h => h⟩
  ·refine KC (fun q0 q0n => ?_) (fun q0 q0n => ?_)
   ·refine ZAV ?_
    refine RX (x_callT (F := [(b3, _), (b2, _), (b1, _), (b0, _), (tb, _)]) (A := (b4, _) :: _) call_93 rfl (fun w hw => ridle_fn K b4 1 y_c (⟨(⟨r, ime, soon, halt, false⟩ : CS), m⟩ : Rn _) (h.le o_m : RunOk K.toBusO (0 + 1) _) G hG w (St.lentV hw))) rfl ?_
    refine ZB3 fun G0 hG0 => ?_
    refine ZAb ?_
    refine ZA0 ?_
    refine c_draw [(b3, blk (cDd ⟨0, 0, r.pc, oN, false⟩) 52), (b4, blk (cN K (⟨r, ime, soon, halt, false⟩ : CS)) 211)] [4, 5] (.step true 0 (.step true 1 (.step true 2 (.step true 3 (.step true 4 (.step false 5 (.step false 6 .done))))))) rfl y_g y_g (fun x hx => y_n) ?_
    refine D_3 ?_
    refine d_loadA rfl rfl rfl rfl (fun w hw => Row.left (srow_own (l := cN K (⟨r, ime, soon, halt, false⟩ : CS)) m_m w hw)) rfl rfl ?_
    refine d_loadA rfl rfl rfl rfl y_bn rfl rfl ?_
    refine DZ rfl (x_storeTo (l' := cS (⟨r, ime, soon, halt, false⟩ : CS)) 2 rfl rfl rfl rfl rfl rfl (Nat.le_of_ble_eq_true rfl) rfl) rfl y_dQ ?_
    refine c_u ?_
    refine DZ rfl (x_storeTo (l' := cDd ⟨0, 0, r.pc, oN, false⟩) 1 rfl rfl rfl rfl rfl rfl (Nat.le_of_ble_eq_true rfl) rfl) rfl y_dQ ?_
    refine c_u ?_
    refine ZBe ?_
    have e9 : stepT K.toBusA (⟨(⟨r, ime, soon, halt, false⟩ : CS), m⟩ : Rn _) = (⟨0, 0, r.pc, oN, false⟩, (⟨(⟨r, ime, soon, halt, false⟩ : CS), K.idle m⟩ : Rn _)) := by unfold stepT; exact (if_neg (c := false = true) y_c).trans (if_pos (c := halt = true ∧ K.pend m = 0) q0n)
    exact l_end (fun w hw => rets_cc rfl rfl rfl (row_own (b := b1) (l := cS (⟨r, ime, soon, halt, false⟩ : CS)) m_m w hw) rfl rfl rfl (row_own (b := b2) (l := cDd ⟨0, 0, r.pc, oN, false⟩) m_m w hw)) (.cons _ (.cons _ (.cons _ (.cons _ (.cons_cons _ (.cons _ (List.Sublist.refl _))))))) ⟨y_eJ, oT, hT, G0, rfl, y_2⟩
   ·refine ZAx ?_
    refine ZBl ?_
    refine RZ (x_storeTo (l' := cN K (⟨r, ime, soon, false, false⟩ : CS)) 5 rfl rfl rfl rfl rfl rfl (Nat.le_of_ble_eq_true rfl) rfl) rfl ?_
    refine ZBE ?_
    refine ZA0 ?_
    refine c_keep [70, 71, 72, 73, 74, 75, 76, 77, 78] [(78, .bool (decide (ime = true ∧ K.pend m ≠ 0)))] ?_ (fun y14 => ?_)
    ·rcases ime with _ | _
     ·refine ZAP ?_
      refine L_9 ?_
      refine ZAb ?_
      exact ⟨.cons (congrArg Value.bool y_b8) .nil, a_g, fun _ h => h⟩
     ·refine ZAP ?_
      refine L_9 ?_
      refine ZAb ?_
      exact ⟨.cons (congrArg Value.bool y_b8) .nil, a_g, fun _ h => h⟩
    ·refine KC (fun q1 q1n => ?_) (fun q1 q1n => ?_)
     ·refine ZAU ?_
      refine RX (x_callT (F := [(b3, _), (b2, _), (b1, _), (b0, _), (tb, _)]) (A := (b4, _) :: _) call_94 rfl (fun w hw => rinterrupt_fn K b4 (⟨(⟨r, ime, soon, false, false⟩ : CS), m⟩ : Rn _) (⟨h.r, K.oL h.m o_m⟩ : RunOk K.toBusO (0 + 5) (⟨(⟨r, ime, soon, false, false⟩ : CS), m⟩ : Rn _)) G hG (K.pend m) o_m w (St.lentV hw))) rfl ?_
      refine ZB3 fun G0 hG0 => ?_
      refine RLa ?_
      refine RZ (x_storeTo (l' := cDd ⟨2, 0, r.pc, oN, false⟩) 0 rfl rfl rfl rfl rfl rfl (Nat.le_of_ble_eq_true rfl) rfl) rfl ?_
      refine c_u ?_
      refine RLa ?_
      refine RZ (x_storeTo (l' := cDd ⟨2, low1 (K.pend m), r.pc, oN, false⟩) 0 rfl rfl rfl rfl rfl rfl (Nat.le_of_ble_eq_true rfl) rfl) rfl ?_
      refine ZBE ?_
      refine ZA0 ?_
      refine c_draw [(b3, blk (cDd ⟨2, low1 (K.pend m), r.pc, oN, false⟩) 52), (b4, blk (cN K (takeI K.toBusA (K.pend m) (⟨(⟨r, ime, soon, false, false⟩ : CS), m⟩ : Rn _)).s) 211)] [4, 5] (.step true 0 (.step true 1 (.step true 2 (.step true 3 (.step true 4 (.step false 5 (.step false 6 .done))))))) rfl y_g y_g (fun x hx => y_n) ?_
      refine D_3 ?_
      refine d_loadA rfl rfl rfl rfl (fun w hw => Row.left (srow_own (l := cN K (takeI K.toBusA (K.pend m) (⟨(⟨r, ime, soon, false, false⟩ : CS), m⟩ : Rn _)).s) m_m w hw)) rfl rfl ?_
      refine d_loadA rfl rfl rfl rfl y_bn rfl rfl ?_
      refine DZ rfl (x_storeTo (l' := cS (takeI K.toBusA (K.pend m) (⟨(⟨r, ime, soon, false, false⟩ : CS), m⟩ : Rn _)).s) 2 rfl rfl rfl rfl rfl rfl (Nat.le_of_ble_eq_true rfl) rfl) rfl y_dQ ?_
      refine c_u ?_
      refine DZ rfl (x_storeTo (l' := cDd ⟨2, low1 (K.pend m), r.pc, oN, false⟩) 1 rfl rfl rfl rfl rfl rfl (Nat.le_of_ble_eq_true rfl) rfl) rfl y_dQ ?_
      refine c_u ?_
      refine ZBe ?_
      have e9 : stepT K.toBusA (⟨(⟨r, ime, soon, halt, false⟩ : CS), m⟩ : Rn _) = (⟨2, low1 (K.pend m), r.pc, oN, false⟩, (takeI K.toBusA (K.pend m) (⟨(⟨r, ime, soon, false, false⟩ : CS), m⟩ : Rn _))) := by unfold stepT; exact (if_neg (c := false = true) y_c).trans ((if_neg (c := halt = true ∧ K.pend m = 0) q0n).trans (if_pos (c := ime = true ∧ K.pend m ≠ 0) q1n))
      exact l_end (fun w hw => rets_cc rfl rfl rfl (row_own (b := b1) (l := cS (takeI K.toBusA (K.pend m) (⟨(⟨r, ime, soon, false, false⟩ : CS), m⟩ : Rn _)).s) m_m w hw) rfl rfl rfl (row_own (b := b2) (l := cDd ⟨2, low1 (K.pend m), r.pc, oN, false⟩) m_m w hw)) (.cons _ (.cons _ (.cons _ (.cons _ (.cons_cons _ (.cons _ (List.Sublist.refl _))))))) ⟨y_eJ, oT, hT, G0, rfl, y_2⟩
     ·refine ZAx ?_
      refine ZAA ?_
      refine L_6 ?_
      refine ZAb ?_
      refine ZBl ?_
      refine RZ (x_storeTo (l' := cN K (⟨r, ime, false, false, false⟩ : CS)) 5 rfl rfl rfl rfl rfl rfl (Nat.le_of_ble_eq_true rfl) rfl) rfl ?_
      refine ZBE ?_
      refine ZAU ?_
      refine RX (x_callT (F := [(b3, _), (b2, _), (b1, _), (b0, _)]) (A := (tb, _) :: (b4, _) :: _) call_95 rfl (fun w hw => rnext_fn K b4 (⟨(⟨r, ime, false, false, false⟩ : CS), m⟩ : Rn _) (⟨h.r, K.oL h.m o_m⟩ : RunOk K.toBusO (4 + 3) (⟨(⟨r, ime, false, false, false⟩ : CS), m⟩ : Rn _)) G hG tb u3 oT hT w (St.lentV hw))) rfl ?_
      rintro _ _ ⟨_, ⟨rfl, oT0, hT0, G0, rfl, hG0⟩, rfl⟩
      refine c_u ?_
      refine RLa ?_
      refine RZ (x_storeTo (l' := cDd ⟨1, 0, r.pc, oN, false⟩) 0 rfl rfl rfl rfl rfl rfl (Nat.le_of_ble_eq_true rfl) rfl) rfl ?_
      refine c_u ?_
      refine RLa ?_
      refine RZ (x_storeTo (l' := cDd ⟨1, 0, r.pc, (nextT K.toBusA (⟨(⟨r, ime, false, false, false⟩ : CS), m⟩ : Rn _)).1, false⟩) 0 rfl rfl rfl rfl rfl rfl (Nat.le_of_ble_eq_true rfl) rfl) rfl ?_
      refine ZBE ?_
      refine ZA0 ?_
      have n9 := nx_all (⟨h.r, K.oL h.m o_m⟩ : RunOk K.toBusO (4 + 3) (⟨(⟨r, ime, false, false, false⟩ : CS), m⟩ : Rn _))
      refine ZAo ?_
      refine ZAm ?_
      refine L_2 ?_
      refine RX (x_callT (F := [(b3, _), (b2, _), (b1, _), (b0, _), (tb, _)]) (A := (b4, _) :: _) call_96 rfl (fun w hw => rorder_fn K b4 (nextT K.toBusA (⟨(⟨r, ime, false, false, false⟩ : CS), m⟩ : Rn _)).2 (n9.1 : RunOk K.toBusO (0 + 4) _) G0 hG0 (nextT K.toBusA (⟨(⟨r, ime, false, false, false⟩ : CS), m⟩ : Rn _)).1 n9.2 r.pc h.r.pc w (St.lentV hw))) rfl ?_
      refine ZCy fun G1 hG1 => ?_
      refine RLa ?_
      refine RZ (x_storeTo (l' := cDd ⟨1, 0, r.pc, (nextT K.toBusA (⟨(⟨r, ime, false, false, false⟩ : CS), m⟩ : Rn _)).1, (ordT K.toBusA (nextT K.toBusA (⟨(⟨r, ime, false, false, false⟩ : CS), m⟩ : Rn _)).1 r.pc (nextT K.toBusA (⟨(⟨r, ime, false, false, false⟩ : CS), m⟩ : Rn _)).2).1⟩) 0 rfl rfl rfl rfl rfl rfl (Nat.le_of_ble_eq_true rfl) rfl) rfl ?_
      refine ZBE ?_
      refine ZA0 ?_
      refine c_keep [110, 111, 112, 113, 114, 115, 116] [(116, .bool (decide (soon = true ∧ (nextT K.toBusA (⟨(⟨r, ime, false, false, false⟩ : CS), m⟩ : Rn _)).1.kind ≠ 5)))] ?_ (fun y21 => ?_)
      ·rcases soon with _ | _
       ·refine ZAP ?_
        refine L_7 ?_
        refine ZAb ?_
        exact ⟨.cons (congrArg Value.bool y_b8) .nil, a_g, fun _ h => h⟩
       ·refine ZAP ?_
        refine L_7 ?_
        refine ZAb ?_
        exact ⟨.cons (congrArg Value.bool y_b8) .nil, a_g, fun _ h => h⟩
      ·refine KC (fun q2 q2n => ?_) (fun q2 q2n => ?_)
       ·refine ZBj ?_
        refine RZ (x_storeTo (l' := cN K { (ordT K.toBusA (nextT K.toBusA (⟨(⟨r, ime, false, false, false⟩ : CS), m⟩ : Rn _)).1 r.pc (nextT K.toBusA (⟨(⟨r, ime, false, false, false⟩ : CS), m⟩ : Rn _)).2).2.s with ime := true }) 5 rfl rfl rfl rfl rfl rfl (Nat.le_of_ble_eq_true rfl) rfl) rfl ?_
        refine ZBE ?_
        refine ZA0 ?_
        refine c_draw [(b3, blk (cDd ⟨1, 0, r.pc, (nextT K.toBusA (⟨(⟨r, ime, false, false, false⟩ : CS), m⟩ : Rn _)).1, (ordT K.toBusA (nextT K.toBusA (⟨(⟨r, ime, false, false, false⟩ : CS), m⟩ : Rn _)).1 r.pc (nextT K.toBusA (⟨(⟨r, ime, false, false, false⟩ : CS), m⟩ : Rn _)).2).1⟩) 52), (b4, blk (cN K { (ordT K.toBusA (nextT K.toBusA (⟨(⟨r, ime, false, false, false⟩ : CS), m⟩ : Rn _)).1 r.pc (nextT K.toBusA (⟨(⟨r, ime, false, false, false⟩ : CS), m⟩ : Rn _)).2).2.s with ime := true }) 211)] [4, 5] (.step true 0 (.step true 1 (.step true 2 (.step true 3 (.step true 4 (.step false 5 (.step false 6 .done))))))) rfl y_g y_g (fun x hx => y_n) ?_
        refine D_3 ?_
        refine d_loadA rfl rfl rfl rfl (fun w hw => Row.left (srow_own (l := cN K { (ordT K.toBusA (nextT K.toBusA (⟨(⟨r, ime, false, false, false⟩ : CS), m⟩ : Rn _)).1 r.pc (nextT K.toBusA (⟨(⟨r, ime, false, false, false⟩ : CS), m⟩ : Rn _)).2).2.s with ime := true }) m_m w hw)) rfl rfl ?_
        refine d_loadA rfl rfl rfl rfl y_bn rfl rfl ?_
        refine DZ rfl (x_storeTo (l' := cS { (ordT K.toBusA (nextT K.toBusA (⟨(⟨r, ime, false, false, false⟩ : CS), m⟩ : Rn _)).1 r.pc (nextT K.toBusA (⟨(⟨r, ime, false, false, false⟩ : CS), m⟩ : Rn _)).2).2.s with ime := true }) 2 rfl rfl rfl rfl rfl rfl (Nat.le_of_ble_eq_true rfl) rfl) rfl y_dQ ?_
        refine ZCK ?_
        refine c_u ?_
        refine ZBe ?_
        have e9 : stepT K.toBusA (⟨(⟨r, ime, soon, halt, false⟩ : CS), m⟩ : Rn _) = (⟨1, 0, r.pc, (nextT K.toBusA (⟨(⟨r, ime, false, false, false⟩ : CS), m⟩ : Rn _)).1, (ordT K.toBusA (nextT K.toBusA (⟨(⟨r, ime, false, false, false⟩ : CS), m⟩ : Rn _)).1 r.pc (nextT K.toBusA (⟨(⟨r, ime, false, false, false⟩ : CS), m⟩ : Rn _)).2).1⟩, (⟨{ (ordT K.toBusA (nextT K.toBusA (⟨(⟨r, ime, false, false, false⟩ : CS), m⟩ : Rn _)).1 r.pc (nextT K.toBusA (⟨(⟨r, ime, false, false, false⟩ : CS), m⟩ : Rn _)).2).2.s with ime := true }, (ordT K.toBusA (nextT K.toBusA (⟨(⟨r, ime, false, false, false⟩ : CS), m⟩ : Rn _)).1 r.pc (nextT K.toBusA (⟨(⟨r, ime, false, false, false⟩ : CS), m⟩ : Rn _)).2).2.m⟩ : Rn _)) := by unfold stepT; exact (if_neg (c := false = true) y_c).trans ((if_neg (c := halt = true ∧ K.pend m = 0) q0n).trans ((if_neg (c := ime = true ∧ K.pend m ≠ 0) q1n).trans (congrArg (Prod.mk _) (if_pos (c := soon = true ∧ (nextT K.toBusA (⟨(⟨r, ime, false, false, false⟩ : CS), m⟩ : Rn _)).1.kind ≠ 5) q2n))))
        exact l_end (fun w hw => rets_cc rfl rfl rfl (row_own (b := b1) (l := cS { (ordT K.toBusA (nextT K.toBusA (⟨(⟨r, ime, false, false, false⟩ : CS), m⟩ : Rn _)).1 r.pc (nextT K.toBusA (⟨(⟨r, ime, false, false, false⟩ : CS), m⟩ : Rn _)).2).2.s with ime := true }) m_m w hw) rfl rfl rfl (row_own (b := b2) (l := cDd ⟨1, 0, r.pc, (nextT K.toBusA (⟨(⟨r, ime, false, false, false⟩ : CS), m⟩ : Rn _)).1, (ordT K.toBusA (nextT K.toBusA (⟨(⟨r, ime, false, false, false⟩ : CS), m⟩ : Rn _)).1 r.pc (nextT K.toBusA (⟨(⟨r, ime, false, false, false⟩ : CS), m⟩ : Rn _)).2).1⟩) m_m w hw)) (.cons _ (.cons _ (.cons _ (.cons _ (.cons_cons _ (.cons _ (List.Sublist.refl _))))))) ⟨y_eJ, oT0, hT0, G1, rfl, y_8⟩
       ·refine ZAx ?_
        refine ZA0 ?_
        refine c_draw [(b3, blk (cDd ⟨1, 0, r.pc, (nextT K.toBusA (⟨(⟨r, ime, false, false, false⟩ : CS), m⟩ : Rn _)).1, (ordT K.toBusA (nextT K.toBusA (⟨(⟨r, ime, false, false, false⟩ : CS), m⟩ : Rn _)).1 r.pc (nextT K.toBusA (⟨(⟨r, ime, false, false, false⟩ : CS), m⟩ : Rn _)).2).1⟩) 52), (b4, blk (cN K (ordT K.toBusA (nextT K.toBusA (⟨(⟨r, ime, false, false, false⟩ : CS), m⟩ : Rn _)).1 r.pc (nextT K.toBusA (⟨(⟨r, ime, false, false, false⟩ : CS), m⟩ : Rn _)).2).2.s) 211)] [4, 5] (.step true 0 (.step true 1 (.step true 2 (.step true 3 (.step true 4 (.step false 5 (.step false 6 .done))))))) rfl y_g y_g (fun x hx => y_n) ?_
        refine D_3 ?_
        refine d_loadA rfl rfl rfl rfl (fun w hw => Row.left (srow_own (l := cN K (ordT K.toBusA (nextT K.toBusA (⟨(⟨r, ime, false, false, false⟩ : CS), m⟩ : Rn _)).1 r.pc (nextT K.toBusA (⟨(⟨r, ime, false, false, false⟩ : CS), m⟩ : Rn _)).2).2.s) m_m w hw)) rfl rfl ?_
        refine d_loadA rfl rfl rfl rfl y_bn rfl rfl ?_
        refine DZ rfl (x_storeTo (l' := cS (ordT K.toBusA (nextT K.toBusA (⟨(⟨r, ime, false, false, false⟩ : CS), m⟩ : Rn _)).1 r.pc (nextT K.toBusA (⟨(⟨r, ime, false, false, false⟩ : CS), m⟩ : Rn _)).2).2.s) 2 rfl rfl rfl rfl rfl rfl (Nat.le_of_ble_eq_true rfl) rfl) rfl y_dQ ?_
        refine ZCK ?_
        refine c_u ?_
        refine ZBe ?_
        have e9 : stepT K.toBusA (⟨(⟨r, ime, soon, halt, false⟩ : CS), m⟩ : Rn _) = (⟨1, 0, r.pc, (nextT K.toBusA (⟨(⟨r, ime, false, false, false⟩ : CS), m⟩ : Rn _)).1, (ordT K.toBusA (nextT K.toBusA (⟨(⟨r, ime, false, false, false⟩ : CS), m⟩ : Rn _)).1 r.pc (nextT K.toBusA (⟨(⟨r, ime, false, false, false⟩ : CS), m⟩ : Rn _)).2).1⟩, ((ordT K.toBusA (nextT K.toBusA (⟨(⟨r, ime, false, false, false⟩ : CS), m⟩ : Rn _)).1 r.pc (nextT K.toBusA (⟨(⟨r, ime, false, false, false⟩ : CS), m⟩ : Rn _)).2).2 : Rn _)) := by unfold stepT; exact (if_neg (c := false = true) y_c).trans ((if_neg (c := halt = true ∧ K.pend m = 0) q0n).trans ((if_neg (c := ime = true ∧ K.pend m ≠ 0) q1n).trans (congrArg (Prod.mk _) (if_neg (c := soon = true ∧ (nextT K.toBusA (⟨(⟨r, ime, false, false, false⟩ : CS), m⟩ : Rn _)).1.kind ≠ 5) q2n))))
        exact l_end (fun w hw => rets_cc rfl rfl rfl (row_own (b := b1) (l := cS (ordT K.toBusA (nextT K.toBusA (⟨(⟨r, ime, false, false, false⟩ : CS), m⟩ : Rn _)).1 r.pc (nextT K.toBusA (⟨(⟨r, ime, false, false, false⟩ : CS), m⟩ : Rn _)).2).2.s) m_m w hw) rfl rfl rfl (row_own (b := b2) (l := cDd ⟨1, 0, r.pc, (nextT K.toBusA (⟨(⟨r, ime, false, false, false⟩ : CS), m⟩ : Rn _)).1, (ordT K.toBusA (nextT K.toBusA (⟨(⟨r, ime, false, false, false⟩ : CS), m⟩ : Rn _)).1 r.pc (nextT K.toBusA (⟨(⟨r, ime, false, false, false⟩ : CS), m⟩ : Rn _)).2).1⟩) m_m w hw)) (.cons _ (.cons _ (.cons _ (.cons _ (.cons_cons _ (.cons _ (List.Sublist.refl _))))))) ⟨y_eJ, oT0, hT0, G1, rfl, y_8⟩
 ·refine ZCx ?_
  refine ZAj ?_
  refine ZAV ?_
  refine RX (x_callT (F := [(b3, _), (b2, _), (b1, _), (b0, _), (tb, _)]) (A := (b4, _) :: _) call_93 rfl (fun w hw => ridle_fn K b4 1 y_c (⟨(⟨r, ime, soon, halt, true⟩ : CS), m⟩ : Rn _) (h.le o_m : RunOk K.toBusO (0 + 1) _) G hG w (St.lentV hw))) rfl ?_
  refine ZB3 fun G0 hG0 => ?_
  refine ZAb ?_
  refine ZAU ?_
  refine RX (x_callIT (F := [(b3, _), (b2, _), (b1, _), (b0, _), (tb, _), (b4, _)]) (A := G0) rfl K.mP K.cP rfl (fun w hw => K.dP (K.oI h.m) hG0 (St.lentV hw))) rfl ?_
  rintro _ _ ⟨GP, ⟨rfl, hGP⟩, rfl⟩
  rw [hGP]
  refine c_u ?_
  refine RW (v := (.int .u8 (band .u8 (K.pend (K.idle m)) 16))) (l_and rfl rfl) rfl rfl ?_
  refine RW (v := (.bool (K.pend (K.idle m) / 16 % 2 == 0))) rfl rfl (congrArg _ (wake_law (K.oP (K.oI h.m)))) ?_
  refine L_3 ?_
  refine RZ (x_storeTo (l' := cN K (⟨r, ime, soon, halt, (K.pend (K.idle m) / 16 % 2 == 0)⟩ : CS)) 5 rfl rfl rfl rfl rfl rfl (Nat.le_of_ble_eq_true rfl) rfl) rfl ?_
  refine ZBE ?_
  refine ZA0 ?_
  refine c_draw [(b3, blk (cDd ⟨0, 0, r.pc, oN, false⟩) 52), (b4, blk (cN K (⟨r, ime, soon, halt, (K.pend (K.idle m) / 16 % 2 == 0)⟩ : CS)) 211)] [4, 5] (.step true 0 (.step true 1 (.step true 2 (.step true 3 (.step true 4 (.step false 5 (.step false 6 .done))))))) rfl y_g y_g (fun x hx => y_n) ?_
  refine D_3 ?_
  refine d_loadA rfl rfl rfl rfl (fun w hw => Row.left (srow_own (l := cN K (⟨r, ime, soon, halt, (K.pend (K.idle m) / 16 % 2 == 0)⟩ : CS)) m_m w hw)) rfl rfl ?_
  refine d_loadA rfl rfl rfl rfl y_bn rfl rfl ?_
  refine DZ rfl (x_storeTo (l' := cS (⟨r, ime, soon, halt, (K.pend (K.idle m) / 16 % 2 == 0)⟩ : CS)) 2 rfl rfl rfl rfl rfl rfl (Nat.le_of_ble_eq_true rfl) rfl) rfl y_dQ ?_
  refine c_u ?_
  refine DZ rfl (x_storeTo (l' := cDd ⟨0, 0, r.pc, oN, false⟩) 1 rfl rfl rfl rfl rfl rfl (Nat.le_of_ble_eq_true rfl) rfl) rfl y_dQ ?_
  refine c_u ?_
  refine ZBe ?_
  have e9 : stepT K.toBusA (⟨(⟨r, ime, soon, halt, true⟩ : CS), m⟩ : Rn _) = (⟨0, 0, r.pc, oN, false⟩, (⟨(⟨r, ime, soon, halt, (K.pend (K.idle m) / 16 % 2 == 0)⟩ : CS), K.idle m⟩ : Rn _)) := by unfold stepT; exact if_pos (c := true = true) rfl
  exact l_end (fun w hw => rets_cc rfl rfl rfl (row_own (b := b1) (l := cS (⟨r, ime, soon, halt, (K.pend (K.idle m) / 16 % 2 == 0)⟩ : CS)) m_m w hw) rfl rfl rfl (row_own (b := b2) (l := cDd ⟨0, 0, r.pc, oN, false⟩) m_m w hw)) (.cons _ (.cons _ (.cons _ (.cons _ (.cons_cons _ (.cons _ (List.Sublist.refl _))))))) ⟨y_eJ, oT, hT, G0, rfl, y_2⟩
end Go.Proofs.YtldehodcfajpjaaGreat
namespace Go.Proofs.YtldehodcfajpjaaGreat
open Go Go.VV Go.Proofs Go.RowKit
def machK (A : Ad) (hd : A.rb ∉ [A.mb, A.ub] ∧ A.ob ∉ [A.mb, A.ub]) : BusK Tryz.prog Mm where
 toBusA := busM
 t0 := 153
 v := .agg #[.pointer (some ⟨A.mb, 0, none⟩)]
 rep := BusH A
 ok := MmOk
 fF := 334
 mF := fun v w => by rfl
 cF := call_334
 fR := 337
 mR := fun v w => by rfl
 cR := call_337
 fW := 338
 mW := fun v w => by rfl
 cW := call_338
 fI := 335
 mI := fun v w => by rfl
 cI := call_335
 fP := 336
 mP := fun v w => by rfl
 cP := call_336
 fA := 333
 mA := fun v w => by rfl
 cA := call_333
 dF := fun h hr hw ha => busFetch_fn A hd _ h _ hr _ ha _ hw
 dR := fun h hr hw ha => busRead_fn A hd _ h _ hr _ ha _ hw
 dW := fun h hr hw ha hx => busWrite_fn A hd _ h _ hr _ _ ha hx _ hw
 dI := fun h hr hw => busIdle_fn A hd _ h _ hr _ hw
 dP := fun h hr hw => busPending_fn A hd _ h _ hr _ hw
 dA := fun h hr hw hk => busAck_fn A hd _ h _ hr _ hk _ hw
 oF := fun h ha => ⟨h.get 3 ha, seenM_ok h.wf.cycle _⟩
 oR := fun h ha => ⟨h.get 1 ha, seenM_ok h.wf.cycle _⟩
 oW := fun h ha hx => h.write ha hx
 oI := fun h => h.cycle.note 0 y_c y_c
 oP := fun _ => pendM_ok _
 oA := fun h hk => h.ack hk
 oL := fun h hk => h.le hk
set_option maxHeartbeats 2000000 in
theorem stepMach_fn (A : Ad) (hd : A.rb ∉ [A.mb, A.ub] ∧ A.ob ∉ [A.mb, A.ub]) (tb : Nat) (u3 : Value) (oT : Obj) (hT : TabH tb u3 [(tb, oT)]) (hAt : A.tab = .pointer (some ⟨tb, 0, none⟩)) (plan : List Chg) (pa : Option Addr) (pc : Nat) (hAp : A.plan = .slice pa plan.length pc) (hpo : ∀ c ∈ plan, ChgOk c) (hpl : plan.length ≤ 1000000) (m : Mm) (h : m.Wf) (hcr : m.cpu.r.Ok) (va : Value) (ms : List Nat) (w : World) (hst : St w ms [(tb, oT), (A.mb, blk (cMm A va m) 137), (A.ub, blk (cU m.u) 178), (A.rb, blk (List.map (Value.int .u8) m.ram ++ A.rs) 5), (A.ob, blk (List.map (Value.int .u8) m.rom ++ A.sp) 5)] w) (hE : Els w cChg pa plan) (hpn : ∀ p, pa = some p → p.block ∉ ms) : Does Tryz.prog 19 [.pointer (some ⟨A.mb, 0, none⟩)] w ms (fun v H => ∃ va' oT' Ga', v = .tuple #[.agg (cDd (stepM plan m).1).toArray, va'] ∧ Vec 101 3 va' (stepM plan m).2.acc.length (flat cAc (stepM plan m).2.acc) Ga' ∧ TabH tb u3 [(tb, oT')] ∧ H = (tb, oT') :: (Ga' ++ [(A.mb, blk (cMm A va' (stepM plan m).2) 137), (A.ub, blk (cU (stepM plan m).2.u) 178), (A.rb, blk (List.map (Value.int .u8) (stepM plan m).2.ram ++ A.rs) 5), (A.ob, blk (List.map (Value.int .u8) (stepM plan m).2.rom ++ A.sp) 5)])) := by
 have hA1 : MLn ({ m with pd := pressPd (planAt plan m.steps) m.pd } : Mm) := ⟨h.ln.bd, h.ln.work, h.ln.high⟩
 have hs1 : ((pressM (planAt plan m.steps) m)).Wf := h.press (planAt_ok hpo _)
 have e9 : ((pressM (planAt plan m.steps) m)).cpu = m.cpu := by unfold pressM askM; split <;> rfl
 have eu9 : (startM plan m).u = m.u := askM_u _ _ _
 have er9 : (startM plan m).ram = m.ram := askM_ram _ _ _
 have eo9 : (startM plan m).rom = m.rom := askM_rom _ _ _
 have hst0 : MmOk 7 (startM plan m) := ⟨h.start hpo, by show (0 : Nat) + 7 ≤ 1000000; decide, fun e he => by cases he⟩
 have hq := (step_ok (K := (machK A hd).toBusO) (n := 0) (x := (⟨m.cpu, startM plan m⟩ : Rn Mm)) ⟨hcr, hst0⟩)
 have hqw : ((stepT busM (⟨m.cpu, startM plan m⟩ : Rn Mm)).2.m).Wf := hq.m.wf
 have hc1 : MLn ({ (stepT busM (⟨m.cpu, startM plan m⟩ : Rn Mm)).2.m with cpu := (stepT busM (⟨m.cpu, startM plan m⟩ : Rn Mm)).2.s } : Mm) := ⟨hqw.ln.bd, hqw.ln.work, hqw.ln.high⟩
 refine does_of Tryz.func19 rfl rfl rfl hst ?_
 refine ZAA ?_
 refine ZBq fun b0 => ?_
 refine ZAB ?_
 refine ZA1 ?_
 refine ZDh ?_
 refine ZCI ?_
 refine DR [6, 7, 8, 9, 10, 11, 12, 13, 14, 15] (pln [0, 2, 4, 6, 8, 10, 12, 14, 16, 18, 20, 22, 24, 26, 28, 31, 33, 34, 36, 38, 40, 42, 44, 47, 48]) ?_
 refine D_5 ?_
 refine d_loadA rfl rfl rfl rfl (fun w hw => rowM_pd (m := m) (acc := va) (srow_own (b := A.mb) m_m w hw)) rfl rfl ?_
 refine D_3 ?_
 refine DL rfl rfl rfl (s_own (v := .slice pa plan.length pc) m_m (by rw [← hAp]; exact get_mid h.ln (j := 5) rfl)) rfl ?_
 refine D_4 ?_
 refine DL rfl rfl rfl (s_own (v := .int .u64 m.steps) m_m (get_mid h.ln (j := 2) rfl)) rfl ?_
 refine DZ rfl (x_val call_49 rfl (fun w hw => planAt_fn plan pa pc hpl m.steps w (Els.laterM hE hpn hw))) rfl y_b ?_
 refine DZ rfl (x_val call_48 rfl (fun w hw => pressPd_fn m.pd (planAt plan m.steps) w)) rfl n_h ?_
 refine ZCX ?_
 refine D_5 ?_
 refine DZ rfl (x_storeTo (l' := cMm A va { m with pd := pressPd (planAt plan m.steps) m.pd }) 2 rfl rfl rfl rfl rfl rfl y_y (putM_pd _)) rfl n_h ?_
 refine ZA3 ?_
 refine ZC9 ?_
 refine ZAU ?_
 refine RX (x_callMA (F := [(b0, _), (tb, oT)]) (A := [(A.mb, blk (cMm A va { m with pd := pressPd (planAt plan m.steps) m.pd }) 137)]) (G := [(A.ub, blk (cU m.u) 178), (A.rb, blk (List.map (Value.int .u8) m.ram ++ A.rs) 5), (A.ob, blk (List.map (Value.int .u8) m.rom ++ A.sp) 5)]) (R := fun v H => v = .tuple #[] ∧ H = [(A.mb, blk (cMm A va (askM 16 (fallsPd m.pd (pressPd (planAt plan m.steps) m.pd)) { m with pd := pressPd (planAt plan m.steps) m.pd })) 137)]) call_50 rfl (fun w hw _ => ask_fnM A va { m with pd := pressPd (planAt plan m.steps) m.pd } hA1 16 (fallsPd m.pd (pressPd (planAt plan m.steps) m.pd)) w hw)) rfl ?_
 refine ZAX ?_
 refine ZAb ?_
 refine ZA0 ?_
 refine c_heap (L' := [(b0, _), (tb, oT), (A.mb, blk (cMm A va (pressM (planAt plan m.steps) m)) 137), (A.ub, blk (cU m.u) 178), (A.rb, blk (List.map (Value.int .u8) m.ram ++ A.rs) 5), (A.ob, blk (List.map (Value.int .u8) m.rom ++ A.sp) 5)]) (fun _ h => h) ?_
 refine ZB2 ?_
 refine RZ (x_storeTo (l' := cMm A (.slice none 0 0) (pressM (planAt plan m.steps) m)) 2 rfl rfl rfl rfl rfl rfl (by rw [cMm_len hs1.ln]; exact Nat.le_of_ble_eq_true rfl) (putM_acc hs1.ln _)) rfl ?_
 refine ZAH ?_
 refine ZAA ?_
 refine ZAq fun b1 => ?_
 refine ZAb ?_
 refine ZA0 ?_
 refine DR [5, 6, 7, 8, 9, 10, 11, 12] (pln [0, 2, 4, 6, 8, 10, 12, 14, 16, 18, 20, 22, 24, 27, 28, 30, 32, 34, 36, 38, 41, 43]) ?_
 refine D_4 ?_
 refine DL rfl rfl rfl (s_own (v := .pointer (some ⟨tb, 0, none⟩)) m_m (by rw [← hAt]; exact get_mid (m := (pressM (planAt plan m.steps) m)) hs1.ln (j := 13) rfl)) rfl ?_
 refine D_4 ?_
 refine d_loadA rfl rfl rfl rfl (fun w hw => (show Row w A.mb 0 (cS m.cpu) from by have h9 := rowM_cpu (m := (pressM (planAt plan m.steps) m)) (acc := (.slice none 0 0)) (srow_own (b := A.mb) m_m w hw); rwa [e9] at h9)) rfl rfl ?_
 refine RD ?_
 refine ZEL ?_
 refine RD ?_
 refine DX rfl (x_callT (F := [(b1, _), (b0, _)]) (A := (tb, oT) :: [(A.mb, blk (cMm A (.slice none 0 0) (pressM (planAt plan m.steps) m)) 137), (A.ub, blk (cU m.u) 178), (A.rb, blk (List.map (Value.int .u8) m.ram ++ A.rs) 5), (A.ob, blk (List.map (Value.int .u8) m.rom ++ A.sp) 5)]) (R := fun v H => v = .tuple #[.agg (cS (stepT busM (⟨m.cpu, startM plan m⟩ : Rn Mm)).2.s).toArray, .agg (cDd (stepT busM (⟨m.cpu, startM plan m⟩ : Rn Mm)).1).toArray] ∧ ∃ oT', TabH tb u3 [(tb, oT')] ∧ ∃ G', H = (tb, oT') :: G' ∧ BusH A (stepT busM (⟨m.cpu, startM plan m⟩ : Rn Mm)).2.m G') call_51 rfl (fun w hw => step_fn (bn := 0) (machK A hd) m.cpu (startM plan m) ⟨hcr, hst0⟩ [(A.mb, blk (cMm A (.slice none 0 0) (pressM (planAt plan m.steps) m)) 137), (A.ub, blk (cU m.u) 178), (A.rb, blk (List.map (Value.int .u8) m.ram ++ A.rs) 5), (A.ob, blk (List.map (Value.int .u8) m.rom ++ A.sp) 5)] ⟨.slice none 0 0, [], .nil, by show _ = [(A.mb, _), (A.ub, blk (cU (startM plan m).u) _), (A.rb, blk (List.map _ (startM plan m).ram ++ A.rs) _), (A.ob, blk (List.map _ (startM plan m).rom ++ A.sp) _)]; rw [eu9, er9, eo9]; rfl⟩ tb u3 oT hT w (St.lentV hw))) rfl n_h ?_
 rintro _ _ ⟨_, ⟨rfl, oT', hT', G', rfl, va', Ga', hV', rfl⟩, rfl⟩
 obtain ⟨a8, c0, rfl⟩ := hV'.slice
 refine d_heap (fun w hw => hw.perm (List.perm_append_comm (l₁ := [(b1, _), (b0, _), (tb, oT')] ++ Ga') (l₂ := [(A.mb, blk (cMm A (.slice a8 (stepT busM (⟨m.cpu, startM plan m⟩ : Rn Mm)).2.m.acc.length c0) (stepT busM (⟨m.cpu, startM plan m⟩ : Rn Mm)).2.m) 137), (A.ub, blk (cU (stepT busM (⟨m.cpu, startM plan m⟩ : Rn Mm)).2.m.u) 178), (A.rb, blk (List.map (Value.int .u8) (stepT busM (⟨m.cpu, startM plan m⟩ : Rn Mm)).2.m.ram ++ A.rs) 5), (A.ob, blk (List.map (Value.int .u8) (stepT busM (⟨m.cpu, startM plan m⟩ : Rn Mm)).2.m.rom ++ A.sp) 5)]))) ?_
 refine ZCT ?_
 refine ZCX ?_
 refine D_5 ?_
 refine DZ rfl (x_storeTo (l' := cMm A (.slice a8 (stepT busM (⟨m.cpu, startM plan m⟩ : Rn Mm)).2.m.acc.length c0) { (stepT busM (⟨m.cpu, startM plan m⟩ : Rn Mm)).2.m with cpu := (stepT busM (⟨m.cpu, startM plan m⟩ : Rn Mm)).2.s }) 0 rfl rfl rfl rfl rfl rfl (by rw [cMm_len hqw.ln]; exact Nat.le_of_ble_eq_true rfl) (putM_cpu _)) rfl n_h ?_
 refine c_u ?_
 refine DZ rfl (x_storeTo (l' := cDd (stepT busM (⟨m.cpu, startM plan m⟩ : Rn Mm)).1) 4 rfl rfl rfl rfl rfl rfl (Nat.le_of_ble_eq_true rfl) rfl) rfl n_h ?_
 refine c_u ?_
 refine ZEb ?_
 refine ZBl ?_
 refine RZ (x_load rfl rfl (at_own (v := .int .u64 (stepT busM (⟨m.cpu, startM plan m⟩ : Rn Mm)).2.m.steps) m_m (get_mid (m := ({ (stepT busM (⟨m.cpu, startM plan m⟩ : Rn Mm)).2.m with cpu := (stepT busM (⟨m.cpu, startM plan m⟩ : Rn Mm)).2.s } : Mm)) hc1 (j := 2) rfl))) rfl ?_
 refine RW (v := (.int .u64 (((stepT busM (⟨m.cpu, startM plan m⟩ : Rn Mm)).2.m.steps + 1) % 18446744073709551616))) (l_add rfl rfl) rfl (as_u64m _) ?_
 refine L_3 ?_
 refine RZ (x_storeTo (l' := cMm A (.slice a8 (stepT busM (⟨m.cpu, startM plan m⟩ : Rn Mm)).2.m.acc.length c0) (stepM plan m).2) 0 rfl rfl rfl rfl rfl rfl (by rw [cMm_len hc1]; exact Nat.le_of_ble_eq_true rfl) (putM_steps hc1 _)) rfl ?_
 refine ZBE ?_
 refine ZA0 ?_
 refine c_draw [(A.mb, blk (cMm A (.slice a8 (stepT busM (⟨m.cpu, startM plan m⟩ : Rn Mm)).2.m.acc.length c0) (stepM plan m).2) 137), (b1, blk (cDd (stepM plan m).1) 52)] [1, 2, 3, 4, 5] (.step true 0 (.step true 1 (.step true 2 (.step true 3 (.step true 4 (.step false 5 (.step true 6 .done))))))) rfl y_g y_g (fun x hx => y_n) ?_
 refine d_loadA rfl rfl rfl rfl (srow_own (b := b1) (l := cDd (stepT busM (⟨m.cpu, startM plan m⟩ : Rn Mm)).1) m_m) rfl rfl ?_
 refine D_3 ?_
 refine DL rfl rfl rfl (s_own (v := (.slice a8 (stepT busM (⟨m.cpu, startM plan m⟩ : Rn Mm)).2.m.acc.length c0)) m_m (get_acc (m := (stepM plan m).2) (⟨hqw.ln.bd, hqw.ln.work, hqw.ln.high⟩ : MLn (stepM plan m).2))) rfl ?_
 refine DZ rfl (x_storeTo (l' := cDd (stepM plan m).1) 5 rfl rfl rfl rfl rfl rfl (Nat.le_of_ble_eq_true rfl) rfl) rfl (by intro _ _ _ hK; obtain ⟨rfl, rfl⟩ := hK; exact (fun x hx => y_n)) ?_
 refine c_u ?_
 refine RD ?_
 refine ZBe ?_
 exact ends_of (fun w hw => rets_cell2 rfl rfl rfl (row_own (b := b0) (l := cDd (stepM plan m).1) m_m w hw) rfl) (fun w hw => (hw.sub (.cons_cons _ (.cons_cons _ (.cons_cons _ (.cons_cons _ (.cons _ (.cons _ (List.Sublist.refl _)))))))).perm (List.perm_append_comm (l₁ := [(A.mb, blk (cMm A (.slice a8 (stepT busM (⟨m.cpu, startM plan m⟩ : Rn Mm)).2.m.acc.length c0) (stepM plan m).2) 137), (A.ub, blk (cU (stepM plan m).2.u) 178), (A.rb, blk (List.map (Value.int .u8) (stepM plan m).2.ram ++ A.rs) 5), (A.ob, blk (List.map (Value.int .u8) (stepM plan m).2.rom ++ A.sp) 5)]) (l₂ := (tb, oT') :: Ga'))) ⟨_, oT', Ga', rfl, hV', hT', rfl⟩
end Go.Proofs.YtldehodcfajpjaaGreat
