/- The law of steps, beside the document. -/
import Derived.Test.YtjjemehigdpboaaGreatMgC
import Derived.Test.YtjjemehigdpboaaGreatMgF
import Derived.Test.YtjjemehigdpboaaGreatMgI
import Derived.Test.YtjjemehigdpboaaGreatMgJ
import Derived.Test.YtjjemehigdpboaaGreatMgL
namespace Go.Proofs.YtjjemehigdpboaaGreat
open Go Go.VV Go.Proofs
set_option linter.unusedSimpArgs false
set_option linter.unusedVariables false
set_option maxRecDepth 100000
set_option maxHeartbeats 4000000 in
theorem qstep_fn {β : Type} (K : MemK Tryz.prog β) {bn : Nat} (s : CS) (m : β) (h : RunOk K.toBusO (bn + 7) (⟨s, m⟩ : Rn β)) (G : Heap) (hG : K.rep m G) (w : World) (hst : St w (G.map (·.1)) G w) : Does Tryz.prog 10 [.agg (cS s).toArray, .pointer (some ⟨K.p, 0, none⟩)] w (G.map (·.1)) (fun v H => v = .tuple #[.agg (cS (stepT K.toBusA (⟨s, m⟩ : Rn β)).2.s).toArray, .agg (cDd (stepT K.toBusA (⟨s, m⟩ : Rn β)).1).toArray] ∧ K.rep (stepT K.toBusA (⟨s, m⟩ : Rn β)).2.m H) := by
 have hp9 : 0 ≤ K.pend m ∧ K.pend m < 32 := K.oP h.m
 have hq9 : 0 ≤ K.pend (K.idle m) ∧ K.pend (K.idle m) < 32 := K.oP (n := bn + 6) (K.oI h.m)
 have hk9 := low1_ok (K.pend m)
 obtain ⟨r, ime, soon, halt, stop⟩ := s
 refine does_of Tryz.func10 rfl rfl rfl hst ?_
 refine c_seq ?_
 refine c_region ?_
 refine l_x (x_box (l := cS ⟨r, ime, soon, halt, stop⟩) rfl rfl) rfl rfl ?_
 rintro _ _ ⟨b2, rfl, rfl⟩
 refine l_x (x_alloc rfl) rfl rfl ?_
 rintro _ _ ⟨b4, rfl, rfl⟩
 refine l_x (x_alloc rfl) rfl rfl ?_
 rintro _ _ ⟨b5, rfl, rfl⟩
 refine l_nil ?_
 refine c_seq ?_
 refine c_region ?_
 refine RLa ?_
 refine RLa ?_
 refine RLo ?_
 refine RL ?_
 refine l_nil ?_
 refine c_seq ?_
 refine c_seq ?_
 rcases stop with _ | _
 ·refine c_region ?_
  refine RLa ?_
  refine RLo ?_
  refine l_nil ?_
  refine c_false rfl ?_
  refine c_skip ?_
  refine c_seq ?_
  refine c_region ?_
  refine RL ?_
  refine l_x (x_callT (F := [(b5, _), (b4, _), (b2, _)]) (A := G) call_18 rfl (fun w hw => K.dP h.m hG (St.lentV hw))) rfl rfl ?_
  rintro _ _ ⟨GP, ⟨rfl, hGP⟩, rfl⟩
  rw [hGP]
  refine c_u ?_
  refine RL ?_
  refine l_nil ?_
  refine c_seq ?_
  refine c_keep [34, 35, 36, 37, 38, 39] [(39, .bool (decide (halt = true ∧ K.pend m = 0)))] ?_ (fun y8 => ?_)
  ·rcases halt with _ | _
   ·refine c_region ?_
    refine RLa ?_
    refine RLo ?_
    refine RL ?_
    refine RLp ?_
    refine RLp ?_
    refine RL ?_
    refine l_nil ?_
    exact ⟨.cons (congrArg Value.bool (by rw [Bool.eq_iff_iff]; simp)) .nil, a_g, fun _ h => h⟩
   ·refine c_region ?_
    refine RLa ?_
    refine RLo ?_
    iterate 4 refine RL ?_
    refine l_nil ?_
    exact ⟨.cons (congrArg Value.bool (by rw [Bool.eq_iff_iff]; simp)) .nil, a_g, fun _ h => h⟩
  ·refine c_cond rfl (fun h1 => ?_) (fun h1 => ?_)
   ·have h1n := r_f h1
    refine c_seq ?_
    refine c_region ?_
    refine RL ?_
    refine l_x (x_callT (F := [(b5, _), (b4, _), (b2, _)]) (A := G) call_17 rfl (fun w hw => qidle_fn K (bn := 0) m (K.oL h.m o_m) G hG w (St.lentV hw))) rfl rfl ?_
    rintro _ _ ⟨G1, ⟨rfl, hG1⟩, rfl⟩
    refine l_nil ?_
    refine c_seq ?_
    refine c_region ?_
    refine l_x (x_loadA rfl rfl rfl (fun w hw => row_own (l := cS (⟨r, ime, soon, halt, false⟩ : CS)) m_m w hw)) rfl rfl ?_
    rintro _ _ ⟨rfl, rfl⟩
    refine RL ?_
    refine l_l (light_struct rfl rfl rfl rfl) rfl rfl ?_
    refine l_x (x_storeTo (l' := cS (⟨r, ime, soon, halt, false⟩ : CS)) 1 rfl rfl rfl rfl rfl rfl (Nat.le_of_ble_eq_true rfl) rfl) rfl rfl ?_
    rintro _ _ ⟨rfl, rfl⟩
    refine c_u ?_
    refine l_x (x_storeTo (l' := cDd ⟨0, 0, r.pc, oN, false⟩) 0 rfl rfl rfl rfl rfl rfl (Nat.le_of_ble_eq_true rfl) rfl) rfl rfl ?_
    rintro _ _ ⟨rfl, rfl⟩
    refine c_u ?_
    refine l_nil ?_
    refine c_ret ?_
    have e9 : stepT K.toBusA (⟨(⟨r, ime, soon, halt, false⟩ : CS), m⟩ : Rn β) = (⟨0, 0, r.pc, oN, false⟩, (⟨(⟨r, ime, soon, halt, false⟩ : CS), K.idle m⟩ : Rn β)) := by unfold stepT; exact (if_neg (c := false = true) (by decide)).trans (if_pos (c := halt = true ∧ K.pend m = 0) h1n)
    exact l_end (fun w hw => rets_cc rfl rfl rfl (row_own (b := b4) (l := cS (⟨r, ime, soon, halt, false⟩ : CS)) m_m w hw) rfl rfl rfl (row_own (b := b5) (l := cDd ⟨0, 0, r.pc, oN, false⟩) m_m w hw)) (.cons _ (.cons _ (.cons _ ((List.Sublist.refl _))))) ⟨by rw [e9]; first | done | rfl, by rw [e9]; exact hG1⟩
   ·have h1n := r_f h1
    refine c_skip ?_
    refine c_seq ?_
    refine c_region ?_
    refine RLa ?_
    refine l_x (x_storeTo (l' := cS (⟨r, ime, soon, false, false⟩ : CS)) 2 rfl rfl rfl rfl rfl rfl (Nat.le_of_ble_eq_true rfl) rfl) rfl rfl ?_
    rintro _ _ ⟨rfl, rfl⟩
    refine c_u ?_
    refine l_nil ?_
    refine c_seq ?_
    refine c_keep [46, 47, 48, 49, 50, 51] [(51, .bool (decide (ime = true ∧ K.pend m ≠ 0)))] ?_ (fun y12 => ?_)
    ·rcases ime with _ | _
     ·refine c_region ?_
      refine RLa ?_
      refine RLo ?_
      refine RL ?_
      refine RLp ?_
      refine RLp ?_
      refine RL ?_
      refine l_nil ?_
      exact ⟨.cons (congrArg Value.bool (by rw [Bool.eq_iff_iff]; simp)) .nil, a_g, fun _ h => h⟩
     ·refine c_region ?_
      refine RLa ?_
      refine RLo ?_
      iterate 4 refine RL ?_
      refine l_nil ?_
      exact ⟨.cons (congrArg Value.bool (by rw [Bool.eq_iff_iff]; simp)) .nil, a_g, fun _ h => h⟩
    ·refine c_cond rfl (fun h2 => ?_) (fun h2 => ?_)
     ·have h2n := r_f h2
      refine c_seq ?_
      refine c_region ?_
      refine RL ?_
      refine l_nil ?_
      refine c_seq ?_
      refine c_region ?_
      refine RL ?_
      refine l_as (l_conv rfl rfl rfl) rfl rfl (by first | exact as_i64 o_m o_m | rfl) ?_
      refine RL ?_
      refine l_nil ?_
      refine c_seq ?_
      refine c_block ?_
      refine c_loopk (σ := Nat) [8, 9, 54, 55, 56, 57, 58, 59, 60] (fun i => [(8, .int .i64 i), (9, .int .i64 (K.pend m / 2 ^ i))]) (fun i => (i : Int) ≤ low1 (K.pend m)) (fun i => 5 - i) 0 ?_ ?_ ?_
      ·show ((0 : Nat) : Int) ≤ low1 (K.pend m); omega
      ·exact .cons rfl (.cons (congrArg (Value.int .i64) (show K.pend m = K.pend m / 2 ^ 0 by rw [Int.pow_zero, Int.ediv_one])) .nil)
      ·intro i y15 hi
       have hl9 := low1_spec (p := K.pend m) ⟨by omega, by omega⟩ hi
       have hb9 := half_le (a := K.pend m) ⟨by omega, by omega⟩ i
       refine c_seq ?_
       refine c_seq ?_
       refine c_region ?_
       refine RL ?_
       refine l_as (rem_pos rfl rfl (by decide)) rfl rfl (by first | exact as_rem o_m | rfl) ?_
       refine RL ?_
       refine l_nil ?_
       refine c_cond rfl (fun h3 => ?_) (fun h3 => ?_)
       ·have h3n := r_f h3
        refine c_skip ?_
        refine c_block ?_
        refine c_seq ?_
        refine c_region ?_
        refine RL ?_
        refine l_as (v := (.int .i64 (K.pend m / 2 ^ (i + 1)))) rfl rfl rfl ((as_quo hb9.1 (show _ < (9223372036854775808 : Int) by omega) (by decide)).trans (congrArg _ (bit_next (K.pend m) i))) ?_
        refine RL ?_
        refine l_nil ?_
        refine c_region ?_
        refine RL ?_
        refine l_as (v := (.int .i64 ((i + 1 : Nat) : Int))) rfl rfl rfl (congrArg _ (succ_law o_m)) ?_
        refine RL ?_
        refine l_nil ?_
        have hn9 := hl9.1 h3n
        exact ⟨i + 1, by show ((i + 1 : Nat) : Int) ≤ _; omega, by omega, .cons rfl (.cons rfl .nil), a_g, fun _ h => h⟩
       ·have h3n := r_f h3
        refine c_exit rfl ?_
        refine c_seq ?_
        have hi9 : (i : Int) = low1 (K.pend m) := hl9.2 h3n
        refine c_region ?_
        refine RL ?_
        refine l_x (x_callT (F := [(b5, _), (b4, _), (b2, _)]) (A := G) call_17 rfl (fun w hw => qidle_fn K (bn := 0) m (K.oL h.m o_m) G hG w (St.lentV hw))) rfl rfl ?_
        rintro _ _ ⟨G1, ⟨rfl, hG1⟩, rfl⟩
        refine l_nil ?_
        refine c_seq ?_
        refine c_region ?_
        refine RL ?_
        refine l_x (x_callT (F := [(b5, _), (b4, _), (b2, _)]) (A := G1) call_17 rfl (fun w hw => qidle_fn K (bn := 0) (K.idle m) (K.oL (K.oI (n := bn + 6) h.m) o_m) G1 hG1 w (St.lentV hw))) rfl rfl ?_
        rintro _ _ ⟨G2, ⟨rfl, hG2⟩, rfl⟩
        refine l_nil ?_
        refine c_seq ?_
        refine c_region ?_
        refine RL ?_
        refine RLa ?_
        refine RLa ?_
        refine RLo ?_
        refine l_x (x_callT (F := [(b5, _), (b4, _)]) (A := (b2, _) :: _) call_19 rfl (fun w hw => qspush_fn K b2 (bn := bn + 3) (⟨(⟨r, ime, soon, false, false⟩ : CS), K.idle (K.idle m)⟩ : Rn β) ⟨h.r, (K.oI (n := bn + 5) (K.oI (n := bn + 6) h.m))⟩ G2 hG2 r.pc h.r.pc w (St.lentV hw))) rfl rfl ?_
        rintro _ _ ⟨_, ⟨rfl, G3, rfl, hG3⟩, rfl⟩
        refine l_nil ?_
        refine c_seq ?_
        refine c_region ?_
        refine RL ?_
        refine RL ?_
        refine l_x (x_callT (F := [(b5, _), (b4, _), (b2, _)]) (A := G3) call_20 rfl (fun w hw => K.dA (RunOk.push (n := bn + 3) (x := (⟨(⟨r, ime, soon, false, false⟩ : CS), K.idle (K.idle m)⟩ : Rn β)) (w := r.pc) ⟨h.r, (K.oI (n := bn + 5) (K.oI (n := bn + 6) h.m))⟩ h.r.pc).m hG3 (St.lentV hw) ⟨by omega, by omega⟩)) rfl rfl ?_
        rintro _ _ ⟨G4, ⟨rfl, hG4⟩, rfl⟩
        refine l_nil ?_
        refine c_seq ?_
        refine c_region ?_
        refine RL ?_
        refine l_x (x_callT (F := [(b5, _), (b4, _), (b2, _)]) (A := G4) call_17 rfl (fun w hw => qidle_fn K (bn := 0) (K.ack (i : Int) (push K.toBusA r.pc (⟨(⟨r, ime, soon, false, false⟩ : CS), K.idle (K.idle m)⟩ : Rn β)).m) (K.oL (K.oA (RunOk.push (n := bn + 3) (x := (⟨(⟨r, ime, soon, false, false⟩ : CS), K.idle (K.idle m)⟩ : Rn β)) (w := r.pc) ⟨h.r, (K.oI (n := bn + 5) (K.oI (n := bn + 6) h.m))⟩ h.r.pc).m ⟨by omega, by omega⟩) o_m) G4 hG4 w (St.lentV hw))) rfl rfl ?_
        rintro _ _ ⟨G5, ⟨rfl, hG5⟩, rfl⟩
        refine l_nil ?_
        refine c_seq ?_
        refine c_region ?_
        refine RLa ?_
        refine l_x (x_storeTo (l' := cS { (push K.toBusA r.pc (⟨(⟨r, ime, soon, false, false⟩ : CS), K.idle (K.idle m)⟩ : Rn β)).s with ime := false }) 2 rfl rfl rfl rfl rfl rfl (Nat.le_of_ble_eq_true rfl) rfl) rfl rfl ?_
        rintro _ _ ⟨rfl, rfl⟩
        refine c_u ?_
        refine RLa ?_
        refine l_x (x_storeTo (l' := cS { (push K.toBusA r.pc (⟨(⟨r, ime, soon, false, false⟩ : CS), K.idle (K.idle m)⟩ : Rn β)).s with ime := false, soon := false }) 2 rfl rfl rfl rfl rfl rfl (Nat.le_of_ble_eq_true rfl) rfl) rfl rfl ?_
        rintro _ _ ⟨rfl, rfl⟩
        refine c_u ?_
        refine l_nil ?_
        refine c_seq ?_
        refine c_region ?_
        refine RL ?_
        refine l_as (l_mul rfl rfl) rfl rfl (by first | exact as_i64 o_m o_m | rfl) ?_
        refine l_as (l_add rfl rfl) rfl rfl (by first | exact as_i64 o_m o_m | rfl) ?_
        refine l_as (l_conv rfl rfl rfl) rfl rfl (by first | exact as_u16 o_m o_m | exact as_u16m _) ?_
        refine RLa ?_
        refine RLa ?_
        refine l_x (x_storeTo (l' := cS { (push K.toBusA r.pc (⟨(⟨r, ime, soon, false, false⟩ : CS), K.idle (K.idle m)⟩ : Rn β)).s with ime := false, soon := false, r := { (push K.toBusA r.pc (⟨(⟨r, ime, soon, false, false⟩ : CS), K.idle (K.idle m)⟩ : Rn β)).s.r with pc := 64 + 8 * (i : Int) } }) 2 rfl rfl rfl rfl rfl rfl (Nat.le_of_ble_eq_true rfl) rfl) rfl rfl ?_
        rintro _ _ ⟨rfl, rfl⟩
        refine c_u ?_
        refine l_nil ?_
        refine c_seq ?_
        refine c_region ?_
        refine l_x (x_loadA rfl rfl rfl (fun w hw => row_own (l := cS { (push K.toBusA r.pc (⟨(⟨r, ime, soon, false, false⟩ : CS), K.idle (K.idle m)⟩ : Rn β)).s with ime := false, soon := false, r := { (push K.toBusA r.pc (⟨(⟨r, ime, soon, false, false⟩ : CS), K.idle (K.idle m)⟩ : Rn β)).s.r with pc := 64 + 8 * (i : Int) } }) m_m w hw)) rfl rfl ?_
        rintro _ _ ⟨rfl, rfl⟩
        refine RL ?_
        refine RL ?_
        refine l_l (light_struct rfl rfl rfl rfl) rfl rfl ?_
        refine l_x (x_storeTo (l' := cS { (push K.toBusA r.pc (⟨(⟨r, ime, soon, false, false⟩ : CS), K.idle (K.idle m)⟩ : Rn β)).s with ime := false, soon := false, r := { (push K.toBusA r.pc (⟨(⟨r, ime, soon, false, false⟩ : CS), K.idle (K.idle m)⟩ : Rn β)).s.r with pc := 64 + 8 * (i : Int) } }) 1 rfl rfl rfl rfl rfl rfl (Nat.le_of_ble_eq_true rfl) rfl) rfl rfl ?_
        rintro _ _ ⟨rfl, rfl⟩
        refine c_u ?_
        refine l_x (x_storeTo (l' := cDd ⟨2, (i : Int), r.pc, oN, false⟩) 0 rfl rfl rfl rfl rfl rfl (Nat.le_of_ble_eq_true rfl) rfl) rfl rfl ?_
        rintro _ _ ⟨rfl, rfl⟩
        refine c_u ?_
        refine l_nil ?_
        refine c_ret ?_
        have e6 : stepT K.toBusA (⟨(⟨r, ime, soon, halt, false⟩ : CS), m⟩ : Rn β) = (⟨2, low1 (K.pend m), r.pc, oN, false⟩, takeN K.toBusA (low1 (K.pend m)) (⟨(⟨r, ime, soon, false, false⟩ : CS), m⟩ : Rn β)) := by unfold stepT; exact (if_neg (c := false = true) (by decide)).trans ((if_neg (c := halt = true ∧ K.pend m = 0) h1n).trans (if_pos (c := ime = true ∧ K.pend m ≠ 0) h2n))
        have e9 : stepT K.toBusA (⟨(⟨r, ime, soon, halt, false⟩ : CS), m⟩ : Rn β) = (⟨2, (i : Int), r.pc, oN, false⟩, (takeN K.toBusA (i : Int) (⟨(⟨r, ime, soon, false, false⟩ : CS), m⟩ : Rn β) : Rn β)) := by rw [hi9]; exact e6
        exact l_end (fun w hw => rets_cc rfl rfl rfl (row_own (b := b4) (l := cS { (push K.toBusA r.pc (⟨(⟨r, ime, soon, false, false⟩ : CS), K.idle (K.idle m)⟩ : Rn β)).s with ime := false, soon := false, r := { (push K.toBusA r.pc (⟨(⟨r, ime, soon, false, false⟩ : CS), K.idle (K.idle m)⟩ : Rn β)).s.r with pc := 64 + 8 * (i : Int) } }) m_m w hw) rfl rfl rfl (row_own (b := b5) (l := cDd ⟨2, (i : Int), r.pc, oN, false⟩) m_m w hw)) (.cons _ (.cons _ (.cons _ ((List.Sublist.refl _))))) ⟨by rw [e9]; first | done | rfl, by rw [e9]; exact hG5⟩
     ·have h2n := r_f h2
      refine c_skip ?_
      refine c_seq ?_
      refine c_region ?_
      refine RLa ?_
      refine RLo ?_
      refine RL ?_
      refine l_nil ?_
      refine c_seq ?_
      refine c_region ?_
      refine RLa ?_
      refine l_x (x_storeTo (l' := cS (⟨r, ime, false, false, false⟩ : CS)) 2 rfl rfl rfl rfl rfl rfl (Nat.le_of_ble_eq_true rfl) rfl) rfl rfl ?_
      rintro _ _ ⟨rfl, rfl⟩
      refine c_u ?_
      refine l_nil ?_
      refine c_seq ?_
      have h9 : RunOk K.toBusO (bn + 4 + 3) (⟨(⟨r, ime, false, false, false⟩ : CS), m⟩ : Rn β) := ⟨h.r, K.oL h.m o_m⟩
      refine c_region ?_
      refine l_x (x_slc (z := [.int .u8 0]) (l := [.int .u8 0, .int .u8 0, .int .u8 0]) (ps := [(0, .int .u8 0), (1, .int .u8 0), (2, .int .u8 0)]) rfl rfl rfl rfl (by kernel_rfl) (by kernel_rfl)) rfl rfl ?_
      rintro _ _ ⟨b90, rfl, rfl⟩
      refine RL ?_
      refine l_nil ?_
      refine c_seq ?_
      refine c_region ?_
      refine RL ?_
      refine l_nil ?_
      refine c_seq ?_
      refine c_seq ?_
      refine c_region ?_
      refine RL ?_
      refine l_nil ?_
      refine c_block ?_
      refine c_loop (σ := Nat × Heap) [12, 13, 91, 92, 93, 94, 95, 96, 97, 98, 99, 100, 101, 102, 103, 104, 105, 106, 107, 108, 109, 110, 111, 112, 113, 114, 115, 116, 117, 118, 119, 120, 121, 122] (fun q => [(12, .int .i64 (nxN K.toBusA (⟨(⟨r, ime, false, false, false⟩ : CS), m⟩ : Rn β) q.1).o.size), (13, .int .i64 q.1)]) (fun q => (b90, blk ((nxN K.toBusA (⟨(⟨r, ime, false, false, false⟩ : CS), m⟩ : Rn β) q.1).b.map (.int .u8)) 5) :: (b5, blk (cDd ⟨0, 0, 0, oN, false⟩) 49) :: (b4, blk (cS ⟨⟨0, 0, 0, 0, 0, 0, 0, 0, 0, 0⟩, false, false, false, false⟩) 26) :: (b2, blk (cS (nxN K.toBusA (⟨(⟨r, ime, false, false, false⟩ : CS), m⟩ : Rn β) q.1).x.s) 26) :: q.2) (fun q => q.1 ≤ 3 ∧ (∀ j : Nat, j < q.1 → (j : Int) < (nxN K.toBusA (⟨(⟨r, ime, false, false, false⟩ : CS), m⟩ : Rn β) j).o.size) ∧ K.rep (nxN K.toBusA (⟨(⟨r, ime, false, false, false⟩ : CS), m⟩ : Rn β) q.1).x.m q.2) (fun q => 3 - q.1) (0, G) ?_ ?_ ?_ ?_
      ·exact ⟨Nat.zero_le _, fun j hj => absurd hj (Nat.not_lt_zero _), hG⟩
      ·exact .cons rfl (.cons rfl .nil)
      ·exact fun _ h => h
      ·rintro ⟨i, Gi⟩ y31 ⟨hi, hpi, hGi⟩
       dsimp only at hi hpi hGi ⊢
       have hx9 := h9.nx i hi
       have hl9 := hx9.len
       refine c_seq ?_
       refine c_seq ?_
       refine c_region ?_
       iterate 3 refine RL ?_
       refine l_nil ?_
       refine c_cond rfl (fun h4 => ?_) (fun h4 => ?_)
       ·have h4n := r_f h4
        refine c_skip ?_
        refine c_seq ?_
        refine c_block ?_
        refine c_seq ?_
        have hs9 : i < 3 := by have := hx9.sz; omega
        have hy9 := hx9.le (k := bn + 4 + 1) o_m
        have hb9 := byts_set hx9.by_ i hy9.x.fetch1.2
        have hpc9 := hx9.x.r.pc
        refine c_region ?_
        iterate 3 refine RL ?_
        refine RLa ?_
        refine RLa ?_
        refine l_x (x_load rfl rfl (at_own (v := .int .u16 (nxN K.toBusA (⟨(⟨r, ime, false, false, false⟩ : CS), m⟩ : Rn β) i).x.s.r.pc) m_m (by rfl))) rfl rfl ?_
        rintro _ _ ⟨rfl, rfl⟩
        refine l_x (x_callT (F := [(b90, _), (b5, _), (b4, _), (b2, _)]) (A := Gi) call_21 rfl (fun w hw => K.dF hy9.x.m hGi (St.lentV hw) hpc9)) rfl rfl ?_
        rintro _ _ ⟨G1, ⟨rfl, hG1⟩, rfl⟩
        refine l_l (idx_slice1 i rfl rfl rfl rfl o_m) rfl rfl ?_
        refine l_x (x_storeTo (l' := ((nxN K.toBusA (⟨(⟨r, ime, false, false, false⟩ : CS), m⟩ : Rn β) i).b.set i (K.fetch (nxN K.toBusA (⟨(⟨r, ime, false, false, false⟩ : CS), m⟩ : Rn β) i).x.s.r.pc (nxN K.toBusA (⟨(⟨r, ime, false, false, false⟩ : CS), m⟩ : Rn β) i).x.m).1).map (.int .u8)) 0 rfl rfl rfl rfl rfl rfl (by simp [hl9]; omega) (by rw [Nat.zero_add]; exact putL_int _ o_m _)) rfl rfl ?_
        rintro _ _ ⟨rfl, rfl⟩
        refine c_u ?_
        refine l_nil ?_
        refine c_seq ?_
        refine c_region ?_
        refine RLa ?_
        refine RLa ?_
        refine l_x (x_load rfl rfl (at_own (v := .int .u16 (nxN K.toBusA (⟨(⟨r, ime, false, false, false⟩ : CS), m⟩ : Rn β) i).x.s.r.pc) m_m (by rfl))) rfl rfl ?_
        rintro _ _ ⟨rfl, rfl⟩
        refine l_as (l_conv rfl rfl rfl) rfl rfl (by first | exact as_i64 o_m o_m | rfl) ?_
        refine l_as (l_add rfl rfl) rfl rfl (by first | exact as_i64 o_m o_m | rfl) ?_
        refine RLv call_22 (fun w hw => qwordN_fn ((nxN K.toBusA (⟨(⟨r, ime, false, false, false⟩ : CS), m⟩ : Rn β) i).x.s.r.pc + 1) o_m w) ?_
        refine RLa ?_
        refine RLa ?_
        refine l_x (x_storeTo (l' := cS { (nxN K.toBusA (⟨(⟨r, ime, false, false, false⟩ : CS), m⟩ : Rn β) i).x.s with r := { (nxN K.toBusA (⟨(⟨r, ime, false, false, false⟩ : CS), m⟩ : Rn β) i).x.s.r with pc := inc16 (nxN K.toBusA (⟨(⟨r, ime, false, false, false⟩ : CS), m⟩ : Rn β) i).x.s.r.pc } }) 3 rfl rfl rfl rfl rfl rfl (Nat.le_of_ble_eq_true rfl) rfl) rfl rfl ?_
        rintro _ _ ⟨rfl, rfl⟩
        refine c_u ?_
        refine l_nil ?_
        refine c_draw [(b90, blk (((nxN K.toBusA (⟨(⟨r, ime, false, false, false⟩ : CS), m⟩ : Rn β) i).b.set i (K.fetch (nxN K.toBusA (⟨(⟨r, ime, false, false, false⟩ : CS), m⟩ : Rn β) i).x.s.r.pc (nxN K.toBusA (⟨(⟨r, ime, false, false, false⟩ : CS), m⟩ : Rn β) i).x.m).1).map (.int .u8)) 5)] [3, 4, 5, 6, 7, 8] (.step true 0 (.step true 1 (.step true 2 (.step true 3 (.step true 4 (.step true 5 (.step true 6 (.step true 7 (.step true 8 (.step false 9 (.step true 10 (.step true 11 .done)))))))))))) rfl (by kernel_rfl) (by kernel_rfl) (fun x hx => by obtain rfl := List.mem_singleton.1 hx; exact m_m) ?_
        refine RD ?_
        refine d_light rfl (by first | exact idx_array1 0 rfl rfl rfl rfl (by decide) | exact idx_slice1 0 rfl rfl rfl rfl (by decide) | exact idx_array 0 rfl rfl rfl rfl (by decide) | exact idx_slice 0 rfl rfl rfl rfl (by decide)) rfl rfl rfl ?_
        refine d_load rfl rfl rfl (s_own (v := .int .u8 (((nxN K.toBusA (⟨(⟨r, ime, false, false, false⟩ : CS), m⟩ : Rn β) i).b.set i (K.fetch (nxN K.toBusA (⟨(⟨r, ime, false, false, false⟩ : CS), m⟩ : Rn β) i).x.s.r.pc (nxN K.toBusA (⟨(⟨r, ime, false, false, false⟩ : CS), m⟩ : Rn β) i).x.m).1).getD 0 0)) m_m (map_at (l := ((nxN K.toBusA (⟨(⟨r, ime, false, false, false⟩ : CS), m⟩ : Rn β) i).b.set i (K.fetch (nxN K.toBusA (⟨(⟨r, ime, false, false, false⟩ : CS), m⟩ : Rn β) i).x.s.r.pc (nxN K.toBusA (⟨(⟨r, ime, false, false, false⟩ : CS), m⟩ : Rn β) i).x.m).1)) (j := 0) (by simp [hl9]))) rfl rfl ?_
        refine RD ?_
        refine d_light rfl (by first | exact idx_array1 1 rfl rfl rfl rfl (by decide) | exact idx_slice1 1 rfl rfl rfl rfl (by decide) | exact idx_array 1 rfl rfl rfl rfl (by decide) | exact idx_slice 1 rfl rfl rfl rfl (by decide)) rfl rfl rfl ?_
        refine d_load rfl rfl rfl (s_own (v := .int .u8 (((nxN K.toBusA (⟨(⟨r, ime, false, false, false⟩ : CS), m⟩ : Rn β) i).b.set i (K.fetch (nxN K.toBusA (⟨(⟨r, ime, false, false, false⟩ : CS), m⟩ : Rn β) i).x.s.r.pc (nxN K.toBusA (⟨(⟨r, ime, false, false, false⟩ : CS), m⟩ : Rn β) i).x.m).1).getD 1 0)) m_m (map_at (l := ((nxN K.toBusA (⟨(⟨r, ime, false, false, false⟩ : CS), m⟩ : Rn β) i).b.set i (K.fetch (nxN K.toBusA (⟨(⟨r, ime, false, false, false⟩ : CS), m⟩ : Rn β) i).x.s.r.pc (nxN K.toBusA (⟨(⟨r, ime, false, false, false⟩ : CS), m⟩ : Rn β) i).x.m).1)) (j := 1) (by simp [hl9]))) rfl rfl ?_
        refine RD ?_
        refine d_light rfl (by first | exact idx_array1 2 rfl rfl rfl rfl (by decide) | exact idx_slice1 2 rfl rfl rfl rfl (by decide) | exact idx_array 2 rfl rfl rfl rfl (by decide) | exact idx_slice 2 rfl rfl rfl rfl (by decide)) rfl rfl rfl ?_
        refine d_load rfl rfl rfl (s_own (v := .int .u8 (((nxN K.toBusA (⟨(⟨r, ime, false, false, false⟩ : CS), m⟩ : Rn β) i).b.set i (K.fetch (nxN K.toBusA (⟨(⟨r, ime, false, false, false⟩ : CS), m⟩ : Rn β) i).x.s.r.pc (nxN K.toBusA (⟨(⟨r, ime, false, false, false⟩ : CS), m⟩ : Rn β) i).x.m).1).getD 2 0)) m_m (map_at (l := ((nxN K.toBusA (⟨(⟨r, ime, false, false, false⟩ : CS), m⟩ : Rn β) i).b.set i (K.fetch (nxN K.toBusA (⟨(⟨r, ime, false, false, false⟩ : CS), m⟩ : Rn β) i).x.s.r.pc (nxN K.toBusA (⟨(⟨r, ime, false, false, false⟩ : CS), m⟩ : Rn β) i).x.m).1)) (j := 2) (by simp [hl9]))) rfl rfl ?_
        refine d_x rfl (x_val call_23 rfl (fun w hw => rdecode_fn (((nxN K.toBusA (⟨(⟨r, ime, false, false, false⟩ : CS), m⟩ : Rn β) i).b.set i (K.fetch (nxN K.toBusA (⟨(⟨r, ime, false, false, false⟩ : CS), m⟩ : Rn β) i).x.s.r.pc (nxN K.toBusA (⟨(⟨r, ime, false, false, false⟩ : CS), m⟩ : Rn β) i).x.m).1).getD 0 0) (((nxN K.toBusA (⟨(⟨r, ime, false, false, false⟩ : CS), m⟩ : Rn β) i).b.set i (K.fetch (nxN K.toBusA (⟨(⟨r, ime, false, false, false⟩ : CS), m⟩ : Rn β) i).x.s.r.pc (nxN K.toBusA (⟨(⟨r, ime, false, false, false⟩ : CS), m⟩ : Rn β) i).x.m).1).getD 1 0) (((nxN K.toBusA (⟨(⟨r, ime, false, false, false⟩ : CS), m⟩ : Rn β) i).b.set i (K.fetch (nxN K.toBusA (⟨(⟨r, ime, false, false, false⟩ : CS), m⟩ : Rn β) i).x.s.r.pc (nxN K.toBusA (⟨(⟨r, ime, false, false, false⟩ : CS), m⟩ : Rn β) i).x.m).1).getD 2 0) (hb9.get 0) (hb9.get 1) (hb9.get 2) w)) rfl rfl n_h ?_
        rintro _ _ ⟨rfl, rfl⟩
        refine d_light rfl (light_fs rfl rfl rfl rfl rfl) rfl rfl rfl ?_
        refine RD ?_
        refine d_nil ?_
        refine c_region ?_
        refine RL ?_
        refine l_as (v := (.int .i64 ((i + 1 : Nat) : Int))) rfl rfl rfl (congrArg _ (succ_law o_m)) ?_
        refine RL ?_
        refine l_nil ?_
        exact ⟨(i + 1, G1), ⟨by omega, fun j hj => by rcases Nat.lt_succ_iff_lt_or_eq.1 hj with h1 | rfl; exact hpi j h1; assumption, hG1⟩, by show _ - (i + 1) < _ - i; omega, .cons rfl (.cons rfl .nil), a_g, fun _ h => h⟩
       ·have h4n := r_f h4
        refine c_exit rfl ?_
        refine c_seq ?_
        have e7 := nx_end K.toBusA hi hpi h4n
        have h09 : i ≠ 0 := fun h => by subst h; exact h4n (show (0 : Int) < 1 by decide)
        obtain ⟨k, rfl⟩ : ∃ k, i = k + 1 := ⟨i - 1, by omega⟩
        have hb9 := hx9.by_
        have hfr9 := nx_far h9 (k + 1) hi
        refine c_draw [(b90, blk ((nxN K.toBusA (⟨(⟨r, ime, false, false, false⟩ : CS), m⟩ : Rn β) (k + 1)).b.map (.int .u8)) 5)] [3, 4, 5, 6, 7, 8, 10] (.step true 0 (.step true 1 (.step true 2 (.step true 3 (.step true 4 (.step true 5 (.step true 6 (.step true 7 (.step true 8 (.fork 9 (.step false 10 (.step false 11 .done)) (.fork 10 (.step false 9 (.step false 11 .done)) .stop))))))))))) rfl (by kernel_rfl) (by kernel_rfl) (fun x hx => by obtain rfl := List.mem_singleton.1 hx; exact m_m) ?_
        refine RD ?_
        refine d_light rfl (by first | exact idx_array1 0 rfl rfl rfl rfl (by decide) | exact idx_slice1 0 rfl rfl rfl rfl (by decide) | exact idx_array 0 rfl rfl rfl rfl (by decide) | exact idx_slice 0 rfl rfl rfl rfl (by decide)) rfl rfl rfl ?_
        refine d_load rfl rfl rfl (s_own (v := .int .u8 ((nxN K.toBusA (⟨(⟨r, ime, false, false, false⟩ : CS), m⟩ : Rn β) (k + 1)).b.getD 0 0)) m_m (map_at (l := (nxN K.toBusA (⟨(⟨r, ime, false, false, false⟩ : CS), m⟩ : Rn β) (k + 1)).b) (j := 0) (by simp [hl9]))) rfl rfl ?_
        refine RD ?_
        refine d_light rfl (by first | exact idx_array1 1 rfl rfl rfl rfl (by decide) | exact idx_slice1 1 rfl rfl rfl rfl (by decide) | exact idx_array 1 rfl rfl rfl rfl (by decide) | exact idx_slice 1 rfl rfl rfl rfl (by decide)) rfl rfl rfl ?_
        refine d_load rfl rfl rfl (s_own (v := .int .u8 ((nxN K.toBusA (⟨(⟨r, ime, false, false, false⟩ : CS), m⟩ : Rn β) (k + 1)).b.getD 1 0)) m_m (map_at (l := (nxN K.toBusA (⟨(⟨r, ime, false, false, false⟩ : CS), m⟩ : Rn β) (k + 1)).b) (j := 1) (by simp [hl9]))) rfl rfl ?_
        refine RD ?_
        refine d_light rfl (by first | exact idx_array1 2 rfl rfl rfl rfl (by decide) | exact idx_slice1 2 rfl rfl rfl rfl (by decide) | exact idx_array 2 rfl rfl rfl rfl (by decide) | exact idx_slice 2 rfl rfl rfl rfl (by decide)) rfl rfl rfl ?_
        refine d_load rfl rfl rfl (s_own (v := .int .u8 ((nxN K.toBusA (⟨(⟨r, ime, false, false, false⟩ : CS), m⟩ : Rn β) (k + 1)).b.getD 2 0)) m_m (map_at (l := (nxN K.toBusA (⟨(⟨r, ime, false, false, false⟩ : CS), m⟩ : Rn β) (k + 1)).b) (j := 2) (by simp [hl9]))) rfl rfl ?_
        refine d_fork ?_ ?_
        ·refine d_x rfl (x_val call_23 rfl (fun w hw => rdecode_fn ((nxN K.toBusA (⟨(⟨r, ime, false, false, false⟩ : CS), m⟩ : Rn β) (k + 1)).b.getD 0 0) ((nxN K.toBusA (⟨(⟨r, ime, false, false, false⟩ : CS), m⟩ : Rn β) (k + 1)).b.getD 1 0) ((nxN K.toBusA (⟨(⟨r, ime, false, false, false⟩ : CS), m⟩ : Rn β) (k + 1)).b.getD 2 0) (hb9.get 0) (hb9.get 1) (hb9.get 2) w)) rfl rfl n_h ?_
         rintro _ _ ⟨rfl, rfl⟩
         refine d_x rfl (x_alloc rfl) rfl rfl (by intro _ _ _ hK x hx; obtain ⟨_, rfl, rfl⟩ := hK; repeat (first | exact hx | exact List.mem_append_left _ hx | refine List.mem_append_right _ ?_ | refine .tail _ ?_)) ?_
         rintro _ _ ⟨b14, rfl, rfl⟩
         refine d_x rfl (x_storeTo (l' := cO (nxN K.toBusA (⟨(⟨r, ime, false, false, false⟩ : CS), m⟩ : Rn β) (k + 1)).o) 0 rfl rfl rfl rfl rfl rfl (Nat.le_of_ble_eq_true rfl) rfl) rfl rfl n_h ?_
         rintro _ _ ⟨rfl, rfl⟩
         refine c_u ?_
         refine d_nil ?_
         refine c_seq ?_
         refine c_region ?_
         refine RL ?_
         refine l_x (x_loadA rfl rfl rfl (fun w hw => row_own (l := cO (nxN K.toBusA (⟨(⟨r, ime, false, false, false⟩ : CS), m⟩ : Rn β) (k + 1)).o) m_m w hw)) rfl rfl ?_
         rintro _ _ ⟨rfl, rfl⟩
         refine RL ?_
         refine l_x (x_callT (F := [(b14, _), (b90, _), (b5, _), (b4, _)]) (A := (b2, _) :: _) call_24 rfl (fun w hw => qdone_fn K b2 (bn := bn) (nxN K.toBusA (⟨(⟨r, ime, false, false, false⟩ : CS), m⟩ : Rn β) (k + 1)).x (hx9.x.le o_m) Gi hGi (nxN K.toBusA (⟨(⟨r, ime, false, false, false⟩ : CS), m⟩ : Rn β) (k + 1)).o hx9.o hfr9 r.pc h.r.pc w (St.lentV hw))) rfl rfl ?_
         rintro _ _ ⟨_, ⟨rfl, G2, rfl, hG2⟩, rfl⟩
         refine RL ?_
         refine l_nil ?_
         refine c_seq ?_
         refine c_keep [137, 138, 139, 140, 141, 142] [(142, .bool (decide (soon = true ∧ (nxN K.toBusA (⟨(⟨r, ime, false, false, false⟩ : CS), m⟩ : Rn β) (k + 1)).o.kind ≠ 5)))] ?_ (fun y38 => ?_)
         ·rcases soon with _ | _
          ·refine c_region ?_
           refine RL ?_
           refine RL ?_
           iterate 3 refine RLp ?_
           refine RL ?_
           refine l_nil ?_
           exact ⟨.cons (congrArg Value.bool (by rw [Bool.eq_iff_iff]; simp)) .nil, a_g, fun _ h => h⟩
          ·refine c_region ?_
           refine RL ?_
           refine RL ?_
           refine RLa ?_
           refine l_x (x_load rfl rfl (at_own (v := .int .i64 (nxN K.toBusA (⟨(⟨r, ime, false, false, false⟩ : CS), m⟩ : Rn β) (k + 1)).o.kind) m_m (by rfl))) rfl rfl ?_
           rintro _ _ ⟨rfl, rfl⟩
           refine RL ?_
           refine RL ?_
           refine l_nil ?_
           exact ⟨.cons (congrArg Value.bool (by rw [Bool.eq_iff_iff]; simp)) .nil, a_g, fun _ h => h⟩
         ·refine c_cond rfl (fun h5 => ?_) (fun h5 => ?_)
          ·have h5n := r_f h5
           refine c_region ?_
           refine RLa ?_
           refine l_x (x_storeTo (l' := cS { (ordT K.toBusA (nxN K.toBusA (⟨(⟨r, ime, false, false, false⟩ : CS), m⟩ : Rn β) (k + 1)).o r.pc (nxN K.toBusA (⟨(⟨r, ime, false, false, false⟩ : CS), m⟩ : Rn β) (k + 1)).x).2.s with ime := true }) 4 rfl rfl rfl rfl rfl rfl (Nat.le_of_ble_eq_true rfl) rfl) rfl rfl ?_
           rintro _ _ ⟨rfl, rfl⟩
           refine c_u ?_
           refine l_nil ?_
           refine c_seq ?_
           refine c_draw [(b14, blk (cO (nxN K.toBusA (⟨(⟨r, ime, false, false, false⟩ : CS), m⟩ : Rn β) (k + 1)).o) 47), (b2, blk (cS { (ordT K.toBusA (nxN K.toBusA (⟨(⟨r, ime, false, false, false⟩ : CS), m⟩ : Rn β) (k + 1)).o r.pc (nxN K.toBusA (⟨(⟨r, ime, false, false, false⟩ : CS), m⟩ : Rn β) (k + 1)).x).2.s with ime := true }) 26)] [1, 2, 3, 4, 5] (.step true 0 (.step true 1 (.step true 2 (.step true 3 (.step true 4 (.step false 5 (.step false 6 .done))))))) rfl (by kernel_rfl) (by kernel_rfl) (fun x hx => by rcases List.mem_cons.1 hx with rfl | hx; exact m_m; obtain rfl := List.mem_singleton.1 hx; exact m_m) ?_
           refine d_loadA rfl rfl rfl rfl (fun w hw => srow_own (l := cS { (ordT K.toBusA (nxN K.toBusA (⟨(⟨r, ime, false, false, false⟩ : CS), m⟩ : Rn β) (k + 1)).o r.pc (nxN K.toBusA (⟨(⟨r, ime, false, false, false⟩ : CS), m⟩ : Rn β) (k + 1)).x).2.s with ime := true }) m_m w hw) rfl rfl ?_
           refine RD ?_
           refine d_loadA rfl rfl rfl rfl (fun w hw => srow_own (l := cO (nxN K.toBusA (⟨(⟨r, ime, false, false, false⟩ : CS), m⟩ : Rn β) (k + 1)).o) m_m w hw) rfl rfl ?_
           refine RD ?_
           refine d_light rfl (light_struct rfl rfl rfl rfl) rfl rfl rfl ?_
           refine d_x rfl (x_storeTo (l' := cS { (ordT K.toBusA (nxN K.toBusA (⟨(⟨r, ime, false, false, false⟩ : CS), m⟩ : Rn β) (k + 1)).o r.pc (nxN K.toBusA (⟨(⟨r, ime, false, false, false⟩ : CS), m⟩ : Rn β) (k + 1)).x).2.s with ime := true }) 3 rfl rfl rfl rfl rfl rfl (Nat.le_of_ble_eq_true rfl) rfl) rfl rfl (by first | (intro h; cases h; done) | (intro _ _ _ hK; obtain ⟨rfl, rfl⟩ := hK; exact (fun x hx => by rcases List.mem_cons.1 hx with rfl | hx; exact m_m; obtain rfl := List.mem_singleton.1 hx; exact m_m))) ?_
           rintro _ _ ⟨rfl, rfl⟩
           refine c_u ?_
           refine d_x rfl (x_storeTo (l' := cDd ⟨1, 0, r.pc, (nxN K.toBusA (⟨(⟨r, ime, false, false, false⟩ : CS), m⟩ : Rn β) (k + 1)).o, (ordT K.toBusA (nxN K.toBusA (⟨(⟨r, ime, false, false, false⟩ : CS), m⟩ : Rn β) (k + 1)).o r.pc (nxN K.toBusA (⟨(⟨r, ime, false, false, false⟩ : CS), m⟩ : Rn β) (k + 1)).x).1⟩) 2 rfl rfl rfl rfl rfl rfl (Nat.le_of_ble_eq_true rfl) rfl) rfl rfl (by first | (intro h; cases h; done) | (intro _ _ _ hK; obtain ⟨rfl, rfl⟩ := hK; exact (fun x hx => by rcases List.mem_cons.1 hx with rfl | hx; exact m_m; obtain rfl := List.mem_singleton.1 hx; exact m_m))) ?_
           rintro _ _ ⟨rfl, rfl⟩
           refine c_u ?_
           refine d_nil ?_
           refine c_ret ?_
           have e6 : stepT K.toBusA (⟨(⟨r, ime, soon, halt, false⟩ : CS), m⟩ : Rn β) = (⟨1, 0, r.pc, (nextT K.toBusA (⟨(⟨r, ime, false, false, false⟩ : CS), m⟩ : Rn β)).1, (ordT K.toBusA (nextT K.toBusA (⟨(⟨r, ime, false, false, false⟩ : CS), m⟩ : Rn β)).1 r.pc (nextT K.toBusA (⟨(⟨r, ime, false, false, false⟩ : CS), m⟩ : Rn β)).2).1⟩, if soon = true ∧ (nextT K.toBusA (⟨(⟨r, ime, false, false, false⟩ : CS), m⟩ : Rn β)).1.kind ≠ 5 then (⟨{ (ordT K.toBusA (nextT K.toBusA (⟨(⟨r, ime, false, false, false⟩ : CS), m⟩ : Rn β)).1 r.pc (nextT K.toBusA (⟨(⟨r, ime, false, false, false⟩ : CS), m⟩ : Rn β)).2).2.s with ime := true }, (ordT K.toBusA (nextT K.toBusA (⟨(⟨r, ime, false, false, false⟩ : CS), m⟩ : Rn β)).1 r.pc (nextT K.toBusA (⟨(⟨r, ime, false, false, false⟩ : CS), m⟩ : Rn β)).2).2.m⟩ : Rn β) else (ordT K.toBusA (nextT K.toBusA (⟨(⟨r, ime, false, false, false⟩ : CS), m⟩ : Rn β)).1 r.pc (nextT K.toBusA (⟨(⟨r, ime, false, false, false⟩ : CS), m⟩ : Rn β)).2).2) := by unfold stepT; exact (if_neg (c := false = true) (by decide)).trans ((if_neg (c := halt = true ∧ K.pend m = 0) h1n).trans ((if_neg (c := ime = true ∧ K.pend m ≠ 0) h2n).trans rfl))
           rw [e7] at e6
           have e9 : stepT K.toBusA (⟨(⟨r, ime, soon, halt, false⟩ : CS), m⟩ : Rn β) = (⟨1, 0, r.pc, (nxN K.toBusA (⟨(⟨r, ime, false, false, false⟩ : CS), m⟩ : Rn β) (k + 1)).o, (ordT K.toBusA (nxN K.toBusA (⟨(⟨r, ime, false, false, false⟩ : CS), m⟩ : Rn β) (k + 1)).o r.pc (nxN K.toBusA (⟨(⟨r, ime, false, false, false⟩ : CS), m⟩ : Rn β) (k + 1)).x).1⟩, (⟨{ (ordT K.toBusA (nxN K.toBusA (⟨(⟨r, ime, false, false, false⟩ : CS), m⟩ : Rn β) (k + 1)).o r.pc (nxN K.toBusA (⟨(⟨r, ime, false, false, false⟩ : CS), m⟩ : Rn β) (k + 1)).x).2.s with ime := true }, (ordT K.toBusA (nxN K.toBusA (⟨(⟨r, ime, false, false, false⟩ : CS), m⟩ : Rn β) (k + 1)).o r.pc (nxN K.toBusA (⟨(⟨r, ime, false, false, false⟩ : CS), m⟩ : Rn β) (k + 1)).x).2.m⟩ : Rn β)) := e6.trans (congrArg (Prod.mk _) (if_pos (c := soon = true ∧ (nxN K.toBusA (⟨(⟨r, ime, false, false, false⟩ : CS), m⟩ : Rn β) (k + 1)).o.kind ≠ 5) h5n))
           exact l_end (fun w hw => rets_cc rfl rfl rfl (row_own (b := b4) (l := cS { (ordT K.toBusA (nxN K.toBusA (⟨(⟨r, ime, false, false, false⟩ : CS), m⟩ : Rn β) (k + 1)).o r.pc (nxN K.toBusA (⟨(⟨r, ime, false, false, false⟩ : CS), m⟩ : Rn β) (k + 1)).x).2.s with ime := true }) m_m w hw) rfl rfl rfl (row_own (b := b5) (l := cDd ⟨1, 0, r.pc, (nxN K.toBusA (⟨(⟨r, ime, false, false, false⟩ : CS), m⟩ : Rn β) (k + 1)).o, (ordT K.toBusA (nxN K.toBusA (⟨(⟨r, ime, false, false, false⟩ : CS), m⟩ : Rn β) (k + 1)).o r.pc (nxN K.toBusA (⟨(⟨r, ime, false, false, false⟩ : CS), m⟩ : Rn β) (k + 1)).x).1⟩) m_m w hw)) (.cons _ (.cons _ (.cons _ (.cons _ (.cons _ ((List.Sublist.refl _))))))) ⟨by rw [e9]; first | done | rfl, by rw [e9]; exact hG2⟩
          ·have h5n := r_f h5
           refine c_skip ?_
           refine c_seq ?_
           refine c_draw [(b14, blk (cO (nxN K.toBusA (⟨(⟨r, ime, false, false, false⟩ : CS), m⟩ : Rn β) (k + 1)).o) 47), (b2, blk (cS (ordT K.toBusA (nxN K.toBusA (⟨(⟨r, ime, false, false, false⟩ : CS), m⟩ : Rn β) (k + 1)).o r.pc (nxN K.toBusA (⟨(⟨r, ime, false, false, false⟩ : CS), m⟩ : Rn β) (k + 1)).x).2.s) 26)] [1, 2, 3, 4, 5] (.step true 0 (.step true 1 (.step true 2 (.step true 3 (.step true 4 (.step false 5 (.step false 6 .done))))))) rfl (by kernel_rfl) (by kernel_rfl) (fun x hx => by rcases List.mem_cons.1 hx with rfl | hx; exact m_m; obtain rfl := List.mem_singleton.1 hx; exact m_m) ?_
           refine d_loadA rfl rfl rfl rfl (fun w hw => srow_own (l := cS (ordT K.toBusA (nxN K.toBusA (⟨(⟨r, ime, false, false, false⟩ : CS), m⟩ : Rn β) (k + 1)).o r.pc (nxN K.toBusA (⟨(⟨r, ime, false, false, false⟩ : CS), m⟩ : Rn β) (k + 1)).x).2.s) m_m w hw) rfl rfl ?_
           refine RD ?_
           refine d_loadA rfl rfl rfl rfl (fun w hw => srow_own (l := cO (nxN K.toBusA (⟨(⟨r, ime, false, false, false⟩ : CS), m⟩ : Rn β) (k + 1)).o) m_m w hw) rfl rfl ?_
           refine RD ?_
           refine d_light rfl (light_struct rfl rfl rfl rfl) rfl rfl rfl ?_
           refine d_x rfl (x_storeTo (l' := cS (ordT K.toBusA (nxN K.toBusA (⟨(⟨r, ime, false, false, false⟩ : CS), m⟩ : Rn β) (k + 1)).o r.pc (nxN K.toBusA (⟨(⟨r, ime, false, false, false⟩ : CS), m⟩ : Rn β) (k + 1)).x).2.s) 3 rfl rfl rfl rfl rfl rfl (Nat.le_of_ble_eq_true rfl) rfl) rfl rfl (by first | (intro h; cases h; done) | (intro _ _ _ hK; obtain ⟨rfl, rfl⟩ := hK; exact (fun x hx => by rcases List.mem_cons.1 hx with rfl | hx; exact m_m; obtain rfl := List.mem_singleton.1 hx; exact m_m))) ?_
           rintro _ _ ⟨rfl, rfl⟩
           refine c_u ?_
           refine d_x rfl (x_storeTo (l' := cDd ⟨1, 0, r.pc, (nxN K.toBusA (⟨(⟨r, ime, false, false, false⟩ : CS), m⟩ : Rn β) (k + 1)).o, (ordT K.toBusA (nxN K.toBusA (⟨(⟨r, ime, false, false, false⟩ : CS), m⟩ : Rn β) (k + 1)).o r.pc (nxN K.toBusA (⟨(⟨r, ime, false, false, false⟩ : CS), m⟩ : Rn β) (k + 1)).x).1⟩) 2 rfl rfl rfl rfl rfl rfl (Nat.le_of_ble_eq_true rfl) rfl) rfl rfl (by first | (intro h; cases h; done) | (intro _ _ _ hK; obtain ⟨rfl, rfl⟩ := hK; exact (fun x hx => by rcases List.mem_cons.1 hx with rfl | hx; exact m_m; obtain rfl := List.mem_singleton.1 hx; exact m_m))) ?_
           rintro _ _ ⟨rfl, rfl⟩
           refine c_u ?_
           refine d_nil ?_
           refine c_ret ?_
           have e6 : stepT K.toBusA (⟨(⟨r, ime, soon, halt, false⟩ : CS), m⟩ : Rn β) = (⟨1, 0, r.pc, (nextT K.toBusA (⟨(⟨r, ime, false, false, false⟩ : CS), m⟩ : Rn β)).1, (ordT K.toBusA (nextT K.toBusA (⟨(⟨r, ime, false, false, false⟩ : CS), m⟩ : Rn β)).1 r.pc (nextT K.toBusA (⟨(⟨r, ime, false, false, false⟩ : CS), m⟩ : Rn β)).2).1⟩, if soon = true ∧ (nextT K.toBusA (⟨(⟨r, ime, false, false, false⟩ : CS), m⟩ : Rn β)).1.kind ≠ 5 then (⟨{ (ordT K.toBusA (nextT K.toBusA (⟨(⟨r, ime, false, false, false⟩ : CS), m⟩ : Rn β)).1 r.pc (nextT K.toBusA (⟨(⟨r, ime, false, false, false⟩ : CS), m⟩ : Rn β)).2).2.s with ime := true }, (ordT K.toBusA (nextT K.toBusA (⟨(⟨r, ime, false, false, false⟩ : CS), m⟩ : Rn β)).1 r.pc (nextT K.toBusA (⟨(⟨r, ime, false, false, false⟩ : CS), m⟩ : Rn β)).2).2.m⟩ : Rn β) else (ordT K.toBusA (nextT K.toBusA (⟨(⟨r, ime, false, false, false⟩ : CS), m⟩ : Rn β)).1 r.pc (nextT K.toBusA (⟨(⟨r, ime, false, false, false⟩ : CS), m⟩ : Rn β)).2).2) := by unfold stepT; exact (if_neg (c := false = true) (by decide)).trans ((if_neg (c := halt = true ∧ K.pend m = 0) h1n).trans ((if_neg (c := ime = true ∧ K.pend m ≠ 0) h2n).trans rfl))
           rw [e7] at e6
           have e9 : stepT K.toBusA (⟨(⟨r, ime, soon, halt, false⟩ : CS), m⟩ : Rn β) = (⟨1, 0, r.pc, (nxN K.toBusA (⟨(⟨r, ime, false, false, false⟩ : CS), m⟩ : Rn β) (k + 1)).o, (ordT K.toBusA (nxN K.toBusA (⟨(⟨r, ime, false, false, false⟩ : CS), m⟩ : Rn β) (k + 1)).o r.pc (nxN K.toBusA (⟨(⟨r, ime, false, false, false⟩ : CS), m⟩ : Rn β) (k + 1)).x).1⟩, ((ordT K.toBusA (nxN K.toBusA (⟨(⟨r, ime, false, false, false⟩ : CS), m⟩ : Rn β) (k + 1)).o r.pc (nxN K.toBusA (⟨(⟨r, ime, false, false, false⟩ : CS), m⟩ : Rn β) (k + 1)).x).2 : Rn β)) := e6.trans (congrArg (Prod.mk _) (if_neg (c := soon = true ∧ (nxN K.toBusA (⟨(⟨r, ime, false, false, false⟩ : CS), m⟩ : Rn β) (k + 1)).o.kind ≠ 5) h5n))
           exact l_end (fun w hw => rets_cc rfl rfl rfl (row_own (b := b4) (l := cS (ordT K.toBusA (nxN K.toBusA (⟨(⟨r, ime, false, false, false⟩ : CS), m⟩ : Rn β) (k + 1)).o r.pc (nxN K.toBusA (⟨(⟨r, ime, false, false, false⟩ : CS), m⟩ : Rn β) (k + 1)).x).2.s) m_m w hw) rfl rfl rfl (row_own (b := b5) (l := cDd ⟨1, 0, r.pc, (nxN K.toBusA (⟨(⟨r, ime, false, false, false⟩ : CS), m⟩ : Rn β) (k + 1)).o, (ordT K.toBusA (nxN K.toBusA (⟨(⟨r, ime, false, false, false⟩ : CS), m⟩ : Rn β) (k + 1)).o r.pc (nxN K.toBusA (⟨(⟨r, ime, false, false, false⟩ : CS), m⟩ : Rn β) (k + 1)).x).1⟩) m_m w hw)) (.cons _ (.cons _ (.cons _ (.cons _ (.cons _ ((List.Sublist.refl _))))))) ⟨by rw [e9]; first | done | rfl, by rw [e9]; exact hG2⟩
        refine d_fork ?_ ?_
        ·refine d_x rfl (x_alloc rfl) rfl rfl (by intro _ _ _ hK x hx; obtain ⟨_, rfl, rfl⟩ := hK; repeat (first | exact hx | exact List.mem_append_left _ hx | refine List.mem_append_right _ ?_ | refine .tail _ ?_)) ?_
         rintro _ _ ⟨b14, rfl, rfl⟩
         refine d_x rfl (x_val call_23 rfl (fun w hw => rdecode_fn ((nxN K.toBusA (⟨(⟨r, ime, false, false, false⟩ : CS), m⟩ : Rn β) (k + 1)).b.getD 0 0) ((nxN K.toBusA (⟨(⟨r, ime, false, false, false⟩ : CS), m⟩ : Rn β) (k + 1)).b.getD 1 0) ((nxN K.toBusA (⟨(⟨r, ime, false, false, false⟩ : CS), m⟩ : Rn β) (k + 1)).b.getD 2 0) (hb9.get 0) (hb9.get 1) (hb9.get 2) w)) rfl rfl n_h ?_
         rintro _ _ ⟨rfl, rfl⟩
         refine d_x rfl (x_storeTo (l' := cO (nxN K.toBusA (⟨(⟨r, ime, false, false, false⟩ : CS), m⟩ : Rn β) (k + 1)).o) 0 rfl rfl rfl rfl rfl rfl (Nat.le_of_ble_eq_true rfl) rfl) rfl rfl n_h ?_
         rintro _ _ ⟨rfl, rfl⟩
         refine c_u ?_
         refine d_nil ?_
         refine c_seq ?_
         refine c_region ?_
         refine RL ?_
         refine l_x (x_loadA rfl rfl rfl (fun w hw => row_own (l := cO (nxN K.toBusA (⟨(⟨r, ime, false, false, false⟩ : CS), m⟩ : Rn β) (k + 1)).o) m_m w hw)) rfl rfl ?_
         rintro _ _ ⟨rfl, rfl⟩
         refine RL ?_
         refine l_x (x_callT (F := [(b14, _), (b90, _), (b5, _), (b4, _)]) (A := (b2, _) :: _) call_24 rfl (fun w hw => qdone_fn K b2 (bn := bn) (nxN K.toBusA (⟨(⟨r, ime, false, false, false⟩ : CS), m⟩ : Rn β) (k + 1)).x (hx9.x.le o_m) Gi hGi (nxN K.toBusA (⟨(⟨r, ime, false, false, false⟩ : CS), m⟩ : Rn β) (k + 1)).o hx9.o hfr9 r.pc h.r.pc w (St.lentV hw))) rfl rfl ?_
         rintro _ _ ⟨_, ⟨rfl, G2, rfl, hG2⟩, rfl⟩
         refine RL ?_
         refine l_nil ?_
         refine c_seq ?_
         refine c_keep [137, 138, 139, 140, 141, 142] [(142, .bool (decide (soon = true ∧ (nxN K.toBusA (⟨(⟨r, ime, false, false, false⟩ : CS), m⟩ : Rn β) (k + 1)).o.kind ≠ 5)))] ?_ (fun y38 => ?_)
         ·rcases soon with _ | _
          ·refine c_region ?_
           refine RL ?_
           refine RL ?_
           iterate 3 refine RLp ?_
           refine RL ?_
           refine l_nil ?_
           exact ⟨.cons (congrArg Value.bool (by rw [Bool.eq_iff_iff]; simp)) .nil, a_g, fun _ h => h⟩
          ·refine c_region ?_
           refine RL ?_
           refine RL ?_
           refine RLa ?_
           refine l_x (x_load rfl rfl (at_own (v := .int .i64 (nxN K.toBusA (⟨(⟨r, ime, false, false, false⟩ : CS), m⟩ : Rn β) (k + 1)).o.kind) m_m (by rfl))) rfl rfl ?_
           rintro _ _ ⟨rfl, rfl⟩
           refine RL ?_
           refine RL ?_
           refine l_nil ?_
           exact ⟨.cons (congrArg Value.bool (by rw [Bool.eq_iff_iff]; simp)) .nil, a_g, fun _ h => h⟩
         ·refine c_cond rfl (fun h6 => ?_) (fun h6 => ?_)
          ·have h6n := r_f h6
           refine c_region ?_
           refine RLa ?_
           refine l_x (x_storeTo (l' := cS { (ordT K.toBusA (nxN K.toBusA (⟨(⟨r, ime, false, false, false⟩ : CS), m⟩ : Rn β) (k + 1)).o r.pc (nxN K.toBusA (⟨(⟨r, ime, false, false, false⟩ : CS), m⟩ : Rn β) (k + 1)).x).2.s with ime := true }) 4 rfl rfl rfl rfl rfl rfl (Nat.le_of_ble_eq_true rfl) rfl) rfl rfl ?_
           rintro _ _ ⟨rfl, rfl⟩
           refine c_u ?_
           refine l_nil ?_
           refine c_seq ?_
           refine c_draw [(b14, blk (cO (nxN K.toBusA (⟨(⟨r, ime, false, false, false⟩ : CS), m⟩ : Rn β) (k + 1)).o) 47), (b2, blk (cS { (ordT K.toBusA (nxN K.toBusA (⟨(⟨r, ime, false, false, false⟩ : CS), m⟩ : Rn β) (k + 1)).o r.pc (nxN K.toBusA (⟨(⟨r, ime, false, false, false⟩ : CS), m⟩ : Rn β) (k + 1)).x).2.s with ime := true }) 26)] [1, 2, 3, 4, 5] (.step true 0 (.step true 1 (.step true 2 (.step true 3 (.step true 4 (.step false 5 (.step false 6 .done))))))) rfl (by kernel_rfl) (by kernel_rfl) (fun x hx => by rcases List.mem_cons.1 hx with rfl | hx; exact m_m; obtain rfl := List.mem_singleton.1 hx; exact m_m) ?_
           refine d_loadA rfl rfl rfl rfl (fun w hw => srow_own (l := cS { (ordT K.toBusA (nxN K.toBusA (⟨(⟨r, ime, false, false, false⟩ : CS), m⟩ : Rn β) (k + 1)).o r.pc (nxN K.toBusA (⟨(⟨r, ime, false, false, false⟩ : CS), m⟩ : Rn β) (k + 1)).x).2.s with ime := true }) m_m w hw) rfl rfl ?_
           refine RD ?_
           refine d_loadA rfl rfl rfl rfl (fun w hw => srow_own (l := cO (nxN K.toBusA (⟨(⟨r, ime, false, false, false⟩ : CS), m⟩ : Rn β) (k + 1)).o) m_m w hw) rfl rfl ?_
           refine RD ?_
           refine d_light rfl (light_struct rfl rfl rfl rfl) rfl rfl rfl ?_
           refine d_x rfl (x_storeTo (l' := cS { (ordT K.toBusA (nxN K.toBusA (⟨(⟨r, ime, false, false, false⟩ : CS), m⟩ : Rn β) (k + 1)).o r.pc (nxN K.toBusA (⟨(⟨r, ime, false, false, false⟩ : CS), m⟩ : Rn β) (k + 1)).x).2.s with ime := true }) 3 rfl rfl rfl rfl rfl rfl (Nat.le_of_ble_eq_true rfl) rfl) rfl rfl (by first | (intro h; cases h; done) | (intro _ _ _ hK; obtain ⟨rfl, rfl⟩ := hK; exact (fun x hx => by rcases List.mem_cons.1 hx with rfl | hx; exact m_m; obtain rfl := List.mem_singleton.1 hx; exact m_m))) ?_
           rintro _ _ ⟨rfl, rfl⟩
           refine c_u ?_
           refine d_x rfl (x_storeTo (l' := cDd ⟨1, 0, r.pc, (nxN K.toBusA (⟨(⟨r, ime, false, false, false⟩ : CS), m⟩ : Rn β) (k + 1)).o, (ordT K.toBusA (nxN K.toBusA (⟨(⟨r, ime, false, false, false⟩ : CS), m⟩ : Rn β) (k + 1)).o r.pc (nxN K.toBusA (⟨(⟨r, ime, false, false, false⟩ : CS), m⟩ : Rn β) (k + 1)).x).1⟩) 2 rfl rfl rfl rfl rfl rfl (Nat.le_of_ble_eq_true rfl) rfl) rfl rfl (by first | (intro h; cases h; done) | (intro _ _ _ hK; obtain ⟨rfl, rfl⟩ := hK; exact (fun x hx => by rcases List.mem_cons.1 hx with rfl | hx; exact m_m; obtain rfl := List.mem_singleton.1 hx; exact m_m))) ?_
           rintro _ _ ⟨rfl, rfl⟩
           refine c_u ?_
           refine d_nil ?_
           refine c_ret ?_
           have e6 : stepT K.toBusA (⟨(⟨r, ime, soon, halt, false⟩ : CS), m⟩ : Rn β) = (⟨1, 0, r.pc, (nextT K.toBusA (⟨(⟨r, ime, false, false, false⟩ : CS), m⟩ : Rn β)).1, (ordT K.toBusA (nextT K.toBusA (⟨(⟨r, ime, false, false, false⟩ : CS), m⟩ : Rn β)).1 r.pc (nextT K.toBusA (⟨(⟨r, ime, false, false, false⟩ : CS), m⟩ : Rn β)).2).1⟩, if soon = true ∧ (nextT K.toBusA (⟨(⟨r, ime, false, false, false⟩ : CS), m⟩ : Rn β)).1.kind ≠ 5 then (⟨{ (ordT K.toBusA (nextT K.toBusA (⟨(⟨r, ime, false, false, false⟩ : CS), m⟩ : Rn β)).1 r.pc (nextT K.toBusA (⟨(⟨r, ime, false, false, false⟩ : CS), m⟩ : Rn β)).2).2.s with ime := true }, (ordT K.toBusA (nextT K.toBusA (⟨(⟨r, ime, false, false, false⟩ : CS), m⟩ : Rn β)).1 r.pc (nextT K.toBusA (⟨(⟨r, ime, false, false, false⟩ : CS), m⟩ : Rn β)).2).2.m⟩ : Rn β) else (ordT K.toBusA (nextT K.toBusA (⟨(⟨r, ime, false, false, false⟩ : CS), m⟩ : Rn β)).1 r.pc (nextT K.toBusA (⟨(⟨r, ime, false, false, false⟩ : CS), m⟩ : Rn β)).2).2) := by unfold stepT; exact (if_neg (c := false = true) (by decide)).trans ((if_neg (c := halt = true ∧ K.pend m = 0) h1n).trans ((if_neg (c := ime = true ∧ K.pend m ≠ 0) h2n).trans rfl))
           rw [e7] at e6
           have e9 : stepT K.toBusA (⟨(⟨r, ime, soon, halt, false⟩ : CS), m⟩ : Rn β) = (⟨1, 0, r.pc, (nxN K.toBusA (⟨(⟨r, ime, false, false, false⟩ : CS), m⟩ : Rn β) (k + 1)).o, (ordT K.toBusA (nxN K.toBusA (⟨(⟨r, ime, false, false, false⟩ : CS), m⟩ : Rn β) (k + 1)).o r.pc (nxN K.toBusA (⟨(⟨r, ime, false, false, false⟩ : CS), m⟩ : Rn β) (k + 1)).x).1⟩, (⟨{ (ordT K.toBusA (nxN K.toBusA (⟨(⟨r, ime, false, false, false⟩ : CS), m⟩ : Rn β) (k + 1)).o r.pc (nxN K.toBusA (⟨(⟨r, ime, false, false, false⟩ : CS), m⟩ : Rn β) (k + 1)).x).2.s with ime := true }, (ordT K.toBusA (nxN K.toBusA (⟨(⟨r, ime, false, false, false⟩ : CS), m⟩ : Rn β) (k + 1)).o r.pc (nxN K.toBusA (⟨(⟨r, ime, false, false, false⟩ : CS), m⟩ : Rn β) (k + 1)).x).2.m⟩ : Rn β)) := e6.trans (congrArg (Prod.mk _) (if_pos (c := soon = true ∧ (nxN K.toBusA (⟨(⟨r, ime, false, false, false⟩ : CS), m⟩ : Rn β) (k + 1)).o.kind ≠ 5) h6n))
           exact l_end (fun w hw => rets_cc rfl rfl rfl (row_own (b := b4) (l := cS { (ordT K.toBusA (nxN K.toBusA (⟨(⟨r, ime, false, false, false⟩ : CS), m⟩ : Rn β) (k + 1)).o r.pc (nxN K.toBusA (⟨(⟨r, ime, false, false, false⟩ : CS), m⟩ : Rn β) (k + 1)).x).2.s with ime := true }) m_m w hw) rfl rfl rfl (row_own (b := b5) (l := cDd ⟨1, 0, r.pc, (nxN K.toBusA (⟨(⟨r, ime, false, false, false⟩ : CS), m⟩ : Rn β) (k + 1)).o, (ordT K.toBusA (nxN K.toBusA (⟨(⟨r, ime, false, false, false⟩ : CS), m⟩ : Rn β) (k + 1)).o r.pc (nxN K.toBusA (⟨(⟨r, ime, false, false, false⟩ : CS), m⟩ : Rn β) (k + 1)).x).1⟩) m_m w hw)) (.cons _ (.cons _ (.cons _ (.cons _ (.cons _ ((List.Sublist.refl _))))))) ⟨by rw [e9]; first | done | rfl, by rw [e9]; exact hG2⟩
          ·have h6n := r_f h6
           refine c_skip ?_
           refine c_seq ?_
           refine c_draw [(b14, blk (cO (nxN K.toBusA (⟨(⟨r, ime, false, false, false⟩ : CS), m⟩ : Rn β) (k + 1)).o) 47), (b2, blk (cS (ordT K.toBusA (nxN K.toBusA (⟨(⟨r, ime, false, false, false⟩ : CS), m⟩ : Rn β) (k + 1)).o r.pc (nxN K.toBusA (⟨(⟨r, ime, false, false, false⟩ : CS), m⟩ : Rn β) (k + 1)).x).2.s) 26)] [1, 2, 3, 4, 5] (.step true 0 (.step true 1 (.step true 2 (.step true 3 (.step true 4 (.step false 5 (.step false 6 .done))))))) rfl (by kernel_rfl) (by kernel_rfl) (fun x hx => by rcases List.mem_cons.1 hx with rfl | hx; exact m_m; obtain rfl := List.mem_singleton.1 hx; exact m_m) ?_
           refine d_loadA rfl rfl rfl rfl (fun w hw => srow_own (l := cS (ordT K.toBusA (nxN K.toBusA (⟨(⟨r, ime, false, false, false⟩ : CS), m⟩ : Rn β) (k + 1)).o r.pc (nxN K.toBusA (⟨(⟨r, ime, false, false, false⟩ : CS), m⟩ : Rn β) (k + 1)).x).2.s) m_m w hw) rfl rfl ?_
           refine RD ?_
           refine d_loadA rfl rfl rfl rfl (fun w hw => srow_own (l := cO (nxN K.toBusA (⟨(⟨r, ime, false, false, false⟩ : CS), m⟩ : Rn β) (k + 1)).o) m_m w hw) rfl rfl ?_
           refine RD ?_
           refine d_light rfl (light_struct rfl rfl rfl rfl) rfl rfl rfl ?_
           refine d_x rfl (x_storeTo (l' := cS (ordT K.toBusA (nxN K.toBusA (⟨(⟨r, ime, false, false, false⟩ : CS), m⟩ : Rn β) (k + 1)).o r.pc (nxN K.toBusA (⟨(⟨r, ime, false, false, false⟩ : CS), m⟩ : Rn β) (k + 1)).x).2.s) 3 rfl rfl rfl rfl rfl rfl (Nat.le_of_ble_eq_true rfl) rfl) rfl rfl (by first | (intro h; cases h; done) | (intro _ _ _ hK; obtain ⟨rfl, rfl⟩ := hK; exact (fun x hx => by rcases List.mem_cons.1 hx with rfl | hx; exact m_m; obtain rfl := List.mem_singleton.1 hx; exact m_m))) ?_
           rintro _ _ ⟨rfl, rfl⟩
           refine c_u ?_
           refine d_x rfl (x_storeTo (l' := cDd ⟨1, 0, r.pc, (nxN K.toBusA (⟨(⟨r, ime, false, false, false⟩ : CS), m⟩ : Rn β) (k + 1)).o, (ordT K.toBusA (nxN K.toBusA (⟨(⟨r, ime, false, false, false⟩ : CS), m⟩ : Rn β) (k + 1)).o r.pc (nxN K.toBusA (⟨(⟨r, ime, false, false, false⟩ : CS), m⟩ : Rn β) (k + 1)).x).1⟩) 2 rfl rfl rfl rfl rfl rfl (Nat.le_of_ble_eq_true rfl) rfl) rfl rfl (by first | (intro h; cases h; done) | (intro _ _ _ hK; obtain ⟨rfl, rfl⟩ := hK; exact (fun x hx => by rcases List.mem_cons.1 hx with rfl | hx; exact m_m; obtain rfl := List.mem_singleton.1 hx; exact m_m))) ?_
           rintro _ _ ⟨rfl, rfl⟩
           refine c_u ?_
           refine d_nil ?_
           refine c_ret ?_
           have e6 : stepT K.toBusA (⟨(⟨r, ime, soon, halt, false⟩ : CS), m⟩ : Rn β) = (⟨1, 0, r.pc, (nextT K.toBusA (⟨(⟨r, ime, false, false, false⟩ : CS), m⟩ : Rn β)).1, (ordT K.toBusA (nextT K.toBusA (⟨(⟨r, ime, false, false, false⟩ : CS), m⟩ : Rn β)).1 r.pc (nextT K.toBusA (⟨(⟨r, ime, false, false, false⟩ : CS), m⟩ : Rn β)).2).1⟩, if soon = true ∧ (nextT K.toBusA (⟨(⟨r, ime, false, false, false⟩ : CS), m⟩ : Rn β)).1.kind ≠ 5 then (⟨{ (ordT K.toBusA (nextT K.toBusA (⟨(⟨r, ime, false, false, false⟩ : CS), m⟩ : Rn β)).1 r.pc (nextT K.toBusA (⟨(⟨r, ime, false, false, false⟩ : CS), m⟩ : Rn β)).2).2.s with ime := true }, (ordT K.toBusA (nextT K.toBusA (⟨(⟨r, ime, false, false, false⟩ : CS), m⟩ : Rn β)).1 r.pc (nextT K.toBusA (⟨(⟨r, ime, false, false, false⟩ : CS), m⟩ : Rn β)).2).2.m⟩ : Rn β) else (ordT K.toBusA (nextT K.toBusA (⟨(⟨r, ime, false, false, false⟩ : CS), m⟩ : Rn β)).1 r.pc (nextT K.toBusA (⟨(⟨r, ime, false, false, false⟩ : CS), m⟩ : Rn β)).2).2) := by unfold stepT; exact (if_neg (c := false = true) (by decide)).trans ((if_neg (c := halt = true ∧ K.pend m = 0) h1n).trans ((if_neg (c := ime = true ∧ K.pend m ≠ 0) h2n).trans rfl))
           rw [e7] at e6
           have e9 : stepT K.toBusA (⟨(⟨r, ime, soon, halt, false⟩ : CS), m⟩ : Rn β) = (⟨1, 0, r.pc, (nxN K.toBusA (⟨(⟨r, ime, false, false, false⟩ : CS), m⟩ : Rn β) (k + 1)).o, (ordT K.toBusA (nxN K.toBusA (⟨(⟨r, ime, false, false, false⟩ : CS), m⟩ : Rn β) (k + 1)).o r.pc (nxN K.toBusA (⟨(⟨r, ime, false, false, false⟩ : CS), m⟩ : Rn β) (k + 1)).x).1⟩, ((ordT K.toBusA (nxN K.toBusA (⟨(⟨r, ime, false, false, false⟩ : CS), m⟩ : Rn β) (k + 1)).o r.pc (nxN K.toBusA (⟨(⟨r, ime, false, false, false⟩ : CS), m⟩ : Rn β) (k + 1)).x).2 : Rn β)) := e6.trans (congrArg (Prod.mk _) (if_neg (c := soon = true ∧ (nxN K.toBusA (⟨(⟨r, ime, false, false, false⟩ : CS), m⟩ : Rn β) (k + 1)).o.kind ≠ 5) h6n))
           exact l_end (fun w hw => rets_cc rfl rfl rfl (row_own (b := b4) (l := cS (ordT K.toBusA (nxN K.toBusA (⟨(⟨r, ime, false, false, false⟩ : CS), m⟩ : Rn β) (k + 1)).o r.pc (nxN K.toBusA (⟨(⟨r, ime, false, false, false⟩ : CS), m⟩ : Rn β) (k + 1)).x).2.s) m_m w hw) rfl rfl rfl (row_own (b := b5) (l := cDd ⟨1, 0, r.pc, (nxN K.toBusA (⟨(⟨r, ime, false, false, false⟩ : CS), m⟩ : Rn β) (k + 1)).o, (ordT K.toBusA (nxN K.toBusA (⟨(⟨r, ime, false, false, false⟩ : CS), m⟩ : Rn β) (k + 1)).o r.pc (nxN K.toBusA (⟨(⟨r, ime, false, false, false⟩ : CS), m⟩ : Rn β) (k + 1)).x).1⟩) m_m w hw)) (.cons _ (.cons _ (.cons _ (.cons _ (.cons _ ((List.Sublist.refl _))))))) ⟨by rw [e9]; first | done | rfl, by rw [e9]; exact hG2⟩
        exact d_stop
 ·refine c_region ?_
  refine RLa ?_
  refine RLo ?_
  refine l_nil ?_
  refine c_true rfl ?_
  refine c_seq ?_
  refine c_region ?_
  refine RL ?_
  refine l_x (x_callT (F := [(b5, _), (b4, _), (b2, _)]) (A := G) call_17 rfl (fun w hw => qidle_fn K (bn := 0) m (K.oL h.m o_m) G hG w (St.lentV hw))) rfl rfl ?_
  rintro _ _ ⟨G1, ⟨rfl, hG1⟩, rfl⟩
  refine l_nil ?_
  refine c_seq ?_
  refine c_seq ?_
  refine c_region ?_
  refine RL ?_
  refine l_x (x_callT (F := [(b5, _), (b4, _), (b2, _)]) (A := G1) call_18 rfl (fun w hw => K.dP (K.oI (n := bn + 6) h.m) hG1 (St.lentV hw))) rfl rfl ?_
  rintro _ _ ⟨GP, ⟨rfl, hGP⟩, rfl⟩
  rw [hGP]
  refine c_u ?_
  refine l_as (quo_pos rfl rfl (by decide)) rfl rfl (by first | exact as_quo o_m (show _ < (256 : Int) by omega) (by decide) | rfl) ?_
  refine l_as (rem_pos rfl rfl (by decide)) rfl rfl (by first | exact as_rem o_m | rfl) ?_
  refine RL ?_
  refine l_nil ?_
  refine c_cond rfl (fun h7 => ?_) (fun h7 => ?_)
  ·have h7n := r_f h7
   refine c_region ?_
   refine RLa ?_
   refine l_x (x_storeTo (l' := cS (⟨r, ime, soon, halt, false⟩ : CS)) 2 rfl rfl rfl rfl rfl rfl (Nat.le_of_ble_eq_true rfl) rfl) rfl rfl ?_
   rintro _ _ ⟨rfl, rfl⟩
   refine c_u ?_
   refine l_nil ?_
   refine c_seq ?_
   refine c_region ?_
   refine l_x (x_loadA rfl rfl rfl (fun w hw => row_own (l := cS (⟨r, ime, soon, halt, false⟩ : CS)) m_m w hw)) rfl rfl ?_
   rintro _ _ ⟨rfl, rfl⟩
   refine RL ?_
   refine l_l (light_struct rfl rfl rfl rfl) rfl rfl ?_
   refine l_x (x_storeTo (l' := cS (⟨r, ime, soon, halt, false⟩ : CS)) 1 rfl rfl rfl rfl rfl rfl (Nat.le_of_ble_eq_true rfl) rfl) rfl rfl ?_
   rintro _ _ ⟨rfl, rfl⟩
   refine c_u ?_
   refine l_x (x_storeTo (l' := cDd ⟨0, 0, r.pc, oN, false⟩) 0 rfl rfl rfl rfl rfl rfl (Nat.le_of_ble_eq_true rfl) rfl) rfl rfl ?_
   rintro _ _ ⟨rfl, rfl⟩
   refine c_u ?_
   refine l_nil ?_
   refine c_ret ?_
   have e8 : (K.pend (K.idle m) / 16 % 2 == 0) = false := beq_eq_false_iff_ne.2 o_m
   have e9 : stepT K.toBusA (⟨(⟨r, ime, soon, halt, true⟩ : CS), m⟩ : Rn β) = (⟨0, 0, r.pc, oN, false⟩, (⟨(⟨r, ime, soon, halt, false⟩ : CS), K.idle m⟩ : Rn β)) := by
    unfold stepT
    exact (if_pos (c := true = true) rfl).trans (congrArg (fun z => ((⟨0, 0, r.pc, oN, false⟩ : Dd), (⟨(⟨r, ime, soon, halt, z⟩ : CS), K.idle m⟩ : Rn β))) e8)
   exact l_end (fun w hw => rets_cc rfl rfl rfl (row_own (b := b4) (l := cS (⟨r, ime, soon, halt, false⟩ : CS)) m_m w hw) rfl rfl rfl (row_own (b := b5) (l := cDd ⟨0, 0, r.pc, oN, false⟩) m_m w hw)) (.cons _ (.cons _ (.cons _ ((List.Sublist.refl _))))) ⟨by rw [e9]; first | done | rfl, by rw [e9]; exact hG1⟩
  ·have h7n := r_f h7
   refine c_skip ?_
   refine c_seq ?_
   refine c_region ?_
   refine l_x (x_loadA rfl rfl rfl (fun w hw => row_own (l := cS (⟨r, ime, soon, halt, true⟩ : CS)) m_m w hw)) rfl rfl ?_
   rintro _ _ ⟨rfl, rfl⟩
   refine RL ?_
   refine l_l (light_struct rfl rfl rfl rfl) rfl rfl ?_
   refine l_x (x_storeTo (l' := cS (⟨r, ime, soon, halt, true⟩ : CS)) 1 rfl rfl rfl rfl rfl rfl (Nat.le_of_ble_eq_true rfl) rfl) rfl rfl ?_
   rintro _ _ ⟨rfl, rfl⟩
   refine c_u ?_
   refine l_x (x_storeTo (l' := cDd ⟨0, 0, r.pc, oN, false⟩) 0 rfl rfl rfl rfl rfl rfl (Nat.le_of_ble_eq_true rfl) rfl) rfl rfl ?_
   rintro _ _ ⟨rfl, rfl⟩
   refine c_u ?_
   refine l_nil ?_
   refine c_ret ?_
   have e8 : (K.pend (K.idle m) / 16 % 2 == 0) = true := beq_iff_eq.2 o_m
   have e9 : stepT K.toBusA (⟨(⟨r, ime, soon, halt, true⟩ : CS), m⟩ : Rn β) = (⟨0, 0, r.pc, oN, false⟩, (⟨(⟨r, ime, soon, halt, true⟩ : CS), K.idle m⟩ : Rn β)) := by
    unfold stepT
    exact (if_pos (c := true = true) rfl).trans (congrArg (fun z => ((⟨0, 0, r.pc, oN, false⟩ : Dd), (⟨(⟨r, ime, soon, halt, z⟩ : CS), K.idle m⟩ : Rn β))) e8)
   exact l_end (fun w hw => rets_cc rfl rfl rfl (row_own (b := b4) (l := cS (⟨r, ime, soon, halt, true⟩ : CS)) m_m w hw) rfl rfl rfl (row_own (b := b5) (l := cDd ⟨0, 0, r.pc, oN, false⟩) m_m w hw)) (.cons _ (.cons _ (.cons _ ((List.Sublist.refl _))))) ⟨by rw [e9]; first | done | rfl, by rw [e9]; exact hG1⟩

end Go.Proofs.YtjjemehigdpboaaGreat
namespace Go.Proofs.YtjjemehigdpboaaGreat
open Go Go.VV Go.Proofs
set_option linter.unusedSimpArgs false
set_option linter.unusedVariables false
set_option maxRecDepth 100000
theorem qmemFetch_fn {n : Nat} (mb bb : Nat) (m : Rm) (hm : RamOk (n + 1) m) (H : Heap) (hr : MemH mb bb m H) (a : Int) (ha : 0 ≤ a ∧ a < 65536) (w : World) (hst : St w (H.map (·.1)) H w) : Does Tryz.prog 21 [.pointer (some ⟨mb, 0, none⟩), .int .i64 3, .int .u16 a, .int .u8 0] w (H.map (·.1)) (fun v H' => v = .int .u8 (ramA.fetch a m).1 ∧ MemH mb bb (ramA.fetch a m).2 H') := by
 obtain ⟨va, Ga, ak, hV, rfl⟩ := hr
 obtain ⟨a9, c9, rfl⟩ := hV.slice
 have hl9 := hm.len
 have hr9 := hm.room
 refine does_of Tryz.func21 rfl rfl rfl hst ?_
 refine c_seq ?_
 refine c_region ?_
 refine RL ?_
 refine l_nil ?_
 refine c_seq ?_
 refine c_seq ?_
 refine c_region ?_
 refine RL ?_
 refine RL ?_
 refine RLa ?_
 refine RLo ?_
 refine l_l l_n rfl rfl ?_
 refine l_sure true rfl rfl rfl (by decide) ?_
 refine l_nil ?_
 refine c_true rfl ?_
 refine c_seq ?_
 refine c_seq ?_
 refine c_region ?_
 refine RL ?_
 refine l_sure false rfl rfl rfl rfl ?_
 refine l_nil ?_
 refine c_false rfl ?_
 refine c_skip ?_
 refine c_seq ?_
 refine c_region ?_
 refine RL ?_
 refine l_sure false rfl rfl rfl rfl ?_
 refine RL ?_
 refine RL ?_
 refine l_sure true rfl rfl rfl rfl ?_
 refine RL ?_
 refine l_nil ?_
 refine c_true rfl ?_
 refine c_region ?_
 refine RL ?_
 refine RL ?_
 refine RLa ?_
 refine RLo ?_
 refine RL ?_
 refine l_l (idx_sliceI rfl rfl rfl o_m o_m) rfl rfl ?_
 refine l_x (x_load rfl rfl (at_own m_m (byte_in hl9 ha))) rfl rfl ?_
 rintro _ _ ⟨rfl, rfl⟩
 refine RL ?_
 refine l_nil ?_
 refine c_seq ?_
 refine c_region ?_
 iterate 3 refine RL ?_
 refine RLa ?_
 refine RLo ?_
 iterate 3 refine RL ?_
 refine l_l (light_struct rfl rfl rfl rfl) rfl rfl ?_
 refine l_x (x_slc (z := [.int .i64 0, .int .u16 0, .int .u8 0]) (l := cAc ⟨3, a, atB m.b a⟩) (ps := [(0, .agg (cAc ⟨3, a, atB m.b a⟩).toArray)]) rfl rfl rfl rfl rfl rfl) rfl rfl ?_
 rintro _ _ ⟨b95, rfl, rfl⟩
 refine l_x (x_append (A := [(b95, _)]) (G := Ga) (R := [(mb, _), (bb, _)]) (v := .slice a9 m.acc.length c9) (n := m.acc.length) (xs := flat cAc m.acc) (m := 1) (T := 89) (s := 3) (by_ := 16) (ys := cAc ⟨3, a, atB m.b a⟩) rfl rfl rfl rfl hV (fun w hw => .row _ _ _ _ _ rfl (row_own (b := b95) (.head _) w hw)) rfl o_m o_m) rfl rfl ?_
 rintro v9 _ ⟨G9, hV9, _, rfl⟩
 obtain ⟨b9, cp9, sp9, rfl, rfl, hc9, hle9, hm9⟩ := hV9.full o_m
 refine c_u ?_
 refine RL ?_
 refine RLa ?_
 refine l_x (x_storeTo (l' := [.slice (some ⟨bb, 0, none⟩) 65536 65536, .slice none 0 0, .int .u8 0, .int .i64 ak, .bool false, .slice (some ⟨b9, 0, none⟩) (m.acc.length + 1) cp9]) 2 rfl rfl rfl rfl rfl rfl (Nat.le_of_ble_eq_true rfl) rfl) rfl rfl ?_
 rintro _ _ ⟨rfl, rfl⟩
 refine c_u ?_
 refine l_nil ?_
 refine c_seq ?_
 refine c_region ?_
 refine RL ?_
 refine RL ?_
 refine l_nil ?_
 refine c_ret ?_
 exact l_end (fun _ _ => rets_v rfl) (.cons_cons _ (.cons _ (List.Sublist.refl _))) ⟨rfl, _, _, ak, hV9.as (by simp [ramA, noteR]) (flat_snoc _ _).symm, rfl⟩

theorem qmemRead_fn {n : Nat} (mb bb : Nat) (m : Rm) (hm : RamOk (n + 1) m) (H : Heap) (hr : MemH mb bb m H) (a : Int) (ha : 0 ≤ a ∧ a < 65536) (w : World) (hst : St w (H.map (·.1)) H w) : Does Tryz.prog 21 [.pointer (some ⟨mb, 0, none⟩), .int .i64 1, .int .u16 a, .int .u8 0] w (H.map (·.1)) (fun v H' => v = .int .u8 (ramA.read a m).1 ∧ MemH mb bb (ramA.read a m).2 H') := by
 obtain ⟨va, Ga, ak, hV, rfl⟩ := hr
 obtain ⟨a9, c9, rfl⟩ := hV.slice
 have hl9 := hm.len
 have hr9 := hm.room
 refine does_of Tryz.func21 rfl rfl rfl hst ?_
 refine c_seq ?_
 refine c_region ?_
 refine RL ?_
 refine l_nil ?_
 refine c_seq ?_
 refine c_seq ?_
 refine c_region ?_
 refine RL ?_
 refine RL ?_
 refine RLa ?_
 refine RLo ?_
 refine l_l l_n rfl rfl ?_
 refine l_sure true rfl rfl rfl (by decide) ?_
 refine l_nil ?_
 refine c_true rfl ?_
 refine c_seq ?_
 refine c_seq ?_
 refine c_region ?_
 refine RL ?_
 refine l_sure false rfl rfl rfl rfl ?_
 refine l_nil ?_
 refine c_false rfl ?_
 refine c_skip ?_
 refine c_seq ?_
 refine c_region ?_
 refine RL ?_
 refine l_sure true rfl rfl rfl rfl ?_
 refine RL ?_
 refine RLp ?_
 refine RLp ?_
 refine RL ?_
 refine l_nil ?_
 refine c_true rfl ?_
 refine c_region ?_
 refine RL ?_
 refine RL ?_
 refine RLa ?_
 refine RLo ?_
 refine RL ?_
 refine l_l (idx_sliceI rfl rfl rfl o_m o_m) rfl rfl ?_
 refine l_x (x_load rfl rfl (at_own m_m (byte_in hl9 ha))) rfl rfl ?_
 rintro _ _ ⟨rfl, rfl⟩
 refine RL ?_
 refine l_nil ?_
 refine c_seq ?_
 refine c_region ?_
 iterate 3 refine RL ?_
 refine RLa ?_
 refine RLo ?_
 iterate 3 refine RL ?_
 refine l_l (light_struct rfl rfl rfl rfl) rfl rfl ?_
 refine l_x (x_slc (z := [.int .i64 0, .int .u16 0, .int .u8 0]) (l := cAc ⟨1, a, atB m.b a⟩) (ps := [(0, .agg (cAc ⟨1, a, atB m.b a⟩).toArray)]) rfl rfl rfl rfl rfl rfl) rfl rfl ?_
 rintro _ _ ⟨b95, rfl, rfl⟩
 refine l_x (x_append (A := [(b95, _)]) (G := Ga) (R := [(mb, _), (bb, _)]) (v := .slice a9 m.acc.length c9) (n := m.acc.length) (xs := flat cAc m.acc) (m := 1) (T := 89) (s := 3) (by_ := 16) (ys := cAc ⟨1, a, atB m.b a⟩) rfl rfl rfl rfl hV (fun w hw => .row _ _ _ _ _ rfl (row_own (b := b95) (.head _) w hw)) rfl o_m o_m) rfl rfl ?_
 rintro v9 _ ⟨G9, hV9, _, rfl⟩
 obtain ⟨b9, cp9, sp9, rfl, rfl, hc9, hle9, hm9⟩ := hV9.full o_m
 refine c_u ?_
 refine RL ?_
 refine RLa ?_
 refine l_x (x_storeTo (l' := [.slice (some ⟨bb, 0, none⟩) 65536 65536, .slice none 0 0, .int .u8 0, .int .i64 ak, .bool false, .slice (some ⟨b9, 0, none⟩) (m.acc.length + 1) cp9]) 2 rfl rfl rfl rfl rfl rfl (Nat.le_of_ble_eq_true rfl) rfl) rfl rfl ?_
 rintro _ _ ⟨rfl, rfl⟩
 refine c_u ?_
 refine l_nil ?_
 refine c_seq ?_
 refine c_region ?_
 refine RL ?_
 refine RL ?_
 refine l_nil ?_
 refine c_ret ?_
 exact l_end (fun _ _ => rets_v rfl) (.cons_cons _ (.cons _ (List.Sublist.refl _))) ⟨rfl, _, _, ak, hV9.as (by simp [ramA, noteR]) (flat_snoc _ _).symm, rfl⟩

theorem qmemWrite_fn {n : Nat} (mb bb : Nat) (m : Rm) (hm : RamOk (n + 1) m) (H : Heap) (hr : MemH mb bb m H) (a x : Int) (ha : 0 ≤ a ∧ a < 65536) (hx : 0 ≤ x ∧ x < 256) (w : World) (hst : St w (H.map (·.1)) H w) : Does Tryz.prog 21 [.pointer (some ⟨mb, 0, none⟩), .int .i64 2, .int .u16 a, .int .u8 x] w (H.map (·.1)) (fun v H' => v = .int .u8 x ∧ MemH mb bb (ramA.write a x m) H') := by
 obtain ⟨va, Ga, ak, hV, rfl⟩ := hr
 obtain ⟨a9, c9, rfl⟩ := hV.slice
 have hl9 := hm.len
 have hr9 := hm.room
 refine does_of Tryz.func21 rfl rfl rfl hst ?_
 refine c_seq ?_
 refine c_region ?_
 refine RL ?_
 refine l_nil ?_
 refine c_seq ?_
 refine c_seq ?_
 refine c_region ?_
 refine RL ?_
 refine RL ?_
 refine RLa ?_
 refine RLo ?_
 refine l_l l_n rfl rfl ?_
 refine l_sure true rfl rfl rfl (by decide) ?_
 refine l_nil ?_
 refine c_true rfl ?_
 refine c_seq ?_
 refine c_seq ?_
 refine c_region ?_
 refine RL ?_
 refine l_sure true rfl rfl rfl rfl ?_
 refine l_nil ?_
 refine c_true rfl ?_
 refine c_heap (fun w hw => hw.perm List.perm_append_comm) ?_
 refine c_u ?_
 refine c_region ?_
 refine RL ?_
 refine RL ?_
 refine RLa ?_
 refine RLo ?_
 refine RL ?_
 refine RL ?_
 refine l_l (idx_sliceI rfl rfl rfl o_m o_m) rfl rfl ?_
 refine l_x (x_storeTo (l' := (m.b.set a.toNat x).map (.int .u8)) 1 rfl rfl rfl rfl rfl rfl (fits_in hl9 ha) (put_in hl9 ha x)) rfl rfl ?_
 rintro _ _ ⟨rfl, rfl⟩
 refine c_u ?_
 refine l_nil ?_
 refine c_seq ?_
 refine c_region ?_
 refine RL ?_
 refine l_sure false rfl rfl rfl rfl ?_
 refine RL ?_
 refine RL ?_
 refine l_sure false rfl rfl rfl rfl ?_
 refine RL ?_
 refine l_nil ?_
 refine c_false rfl ?_
 refine c_skip ?_
 refine c_seq ?_
 refine c_heap (fun w hw => hw.perm (List.perm_append_comm (l₁ := [(mb, _), (bb, _)]))) ?_
 refine c_region ?_
 iterate 3 refine RL ?_
 refine RLa ?_
 refine RLo ?_
 iterate 3 refine RL ?_
 refine l_l (light_struct rfl rfl rfl rfl) rfl rfl ?_
 refine l_x (x_slc (z := [.int .i64 0, .int .u16 0, .int .u8 0]) (l := cAc ⟨2, a, x⟩) (ps := [(0, .agg (cAc ⟨2, a, x⟩).toArray)]) rfl rfl rfl rfl rfl rfl) rfl rfl ?_
 rintro _ _ ⟨b95, rfl, rfl⟩
 refine l_x (x_append (A := [(b95, _)]) (G := Ga) (R := [(mb, _), (bb, _)]) (v := .slice a9 m.acc.length c9) (n := m.acc.length) (xs := flat cAc m.acc) (m := 1) (T := 89) (s := 3) (by_ := 16) (ys := cAc ⟨2, a, x⟩) rfl rfl rfl rfl hV (fun w hw => .row _ _ _ _ _ rfl (row_own (b := b95) (.head _) w hw)) rfl o_m o_m) rfl rfl ?_
 rintro v9 _ ⟨G9, hV9, _, rfl⟩
 obtain ⟨b9, cp9, sp9, rfl, rfl, hc9, hle9, hm9⟩ := hV9.full o_m
 refine c_u ?_
 refine RL ?_
 refine RLa ?_
 refine l_x (x_storeTo (l' := [.slice (some ⟨bb, 0, none⟩) 65536 65536, .slice none 0 0, .int .u8 0, .int .i64 ak, .bool false, .slice (some ⟨b9, 0, none⟩) (m.acc.length + 1) cp9]) 2 rfl rfl rfl rfl rfl rfl (Nat.le_of_ble_eq_true rfl) rfl) rfl rfl ?_
 rintro _ _ ⟨rfl, rfl⟩
 refine c_u ?_
 refine l_nil ?_
 refine c_seq ?_
 refine c_region ?_
 refine RL ?_
 refine RL ?_
 refine l_nil ?_
 refine c_ret ?_
 exact l_end (fun _ _ => rets_v rfl) (.cons_cons _ (.cons _ (List.Sublist.refl _))) ⟨rfl, _, _, ak, hV9.as (by simp [ramA, noteR]) (flat_snoc _ _).symm, rfl⟩

theorem qmemIdle_fn {n : Nat} (mb bb : Nat) (m : Rm) (hm : RamOk (n + 1) m) (H : Heap) (hr : MemH mb bb m H) (w : World) (hst : St w (H.map (·.1)) H w) : Does Tryz.prog 21 [.pointer (some ⟨mb, 0, none⟩), .int .i64 0, .int .u16 0, .int .u8 0] w (H.map (·.1)) (fun v H' => v = .int .u8 0 ∧ MemH mb bb (ramA.idle m) H') := by
 obtain ⟨va, Ga, ak, hV, rfl⟩ := hr
 obtain ⟨a9, c9, rfl⟩ := hV.slice
 have hl9 := hm.len
 have hr9 := hm.room
 refine does_of Tryz.func21 rfl rfl rfl hst ?_
 refine c_seq ?_
 refine c_region ?_
 refine RL ?_
 refine l_nil ?_
 refine c_seq ?_
 refine c_seq ?_
 refine c_region ?_
 refine RL ?_
 refine RL ?_
 refine RLa ?_
 refine RLo ?_
 refine l_l l_n rfl rfl ?_
 refine l_sure true rfl rfl rfl (by decide) ?_
 refine l_nil ?_
 refine c_true rfl ?_
 refine c_seq ?_
 refine c_seq ?_
 refine c_region ?_
 refine RL ?_
 refine l_sure false rfl rfl rfl rfl ?_
 refine l_nil ?_
 refine c_false rfl ?_
 refine c_skip ?_
 refine c_seq ?_
 refine c_region ?_
 refine RL ?_
 refine l_sure false rfl rfl rfl rfl ?_
 refine RL ?_
 refine RL ?_
 refine l_sure false rfl rfl rfl rfl ?_
 refine RL ?_
 refine l_nil ?_
 refine c_false rfl ?_
 refine c_skip ?_
 refine c_seq ?_
 refine c_region ?_
 iterate 3 refine RL ?_
 refine RLa ?_
 refine RLo ?_
 iterate 3 refine RL ?_
 refine l_l (light_struct rfl rfl rfl rfl) rfl rfl ?_
 refine l_x (x_slc (z := [.int .i64 0, .int .u16 0, .int .u8 0]) (l := cAc ⟨0, 0, 0⟩) (ps := [(0, .agg (cAc ⟨0, 0, 0⟩).toArray)]) rfl rfl rfl rfl rfl rfl) rfl rfl ?_
 rintro _ _ ⟨b95, rfl, rfl⟩
 refine l_x (x_append (A := [(b95, _)]) (G := Ga) (R := [(mb, _), (bb, _)]) (v := .slice a9 m.acc.length c9) (n := m.acc.length) (xs := flat cAc m.acc) (m := 1) (T := 89) (s := 3) (by_ := 16) (ys := cAc ⟨0, 0, 0⟩) rfl rfl rfl rfl hV (fun w hw => .row _ _ _ _ _ rfl (row_own (b := b95) (.head _) w hw)) rfl o_m o_m) rfl rfl ?_
 rintro v9 _ ⟨G9, hV9, _, rfl⟩
 obtain ⟨b9, cp9, sp9, rfl, rfl, hc9, hle9, hm9⟩ := hV9.full o_m
 refine c_u ?_
 refine RL ?_
 refine RLa ?_
 refine l_x (x_storeTo (l' := [.slice (some ⟨bb, 0, none⟩) 65536 65536, .slice none 0 0, .int .u8 0, .int .i64 ak, .bool false, .slice (some ⟨b9, 0, none⟩) (m.acc.length + 1) cp9]) 2 rfl rfl rfl rfl rfl rfl (Nat.le_of_ble_eq_true rfl) rfl) rfl rfl ?_
 rintro _ _ ⟨rfl, rfl⟩
 refine c_u ?_
 refine l_nil ?_
 refine c_seq ?_
 refine c_region ?_
 refine RL ?_
 refine RL ?_
 refine l_nil ?_
 refine c_ret ?_
 exact l_end (fun _ _ => rets_v rfl) (.cons_cons _ (.cons _ (List.Sublist.refl _))) ⟨rfl, _, _, ak, hV9.as (by simp [ramA, noteR]) (flat_snoc _ _).symm, rfl⟩

theorem qmemPend_fn {n : Nat} (mb bb : Nat) (m : Rm) (hm : RamOk n m) (H : Heap) (hr : MemH mb bb m H) (w : World) (hst : St w (H.map (·.1)) H w) : Does Tryz.prog 18 [.pointer (some ⟨mb, 0, none⟩)] w (H.map (·.1)) (fun v H' => v = .int .u8 (ramA.pend m) ∧ H' = H) := by
 obtain ⟨va, Ga, ak, hV, rfl⟩ := hr
 obtain ⟨a9, c9, rfl⟩ := hV.slice
 have hl9 := hm.len
 have hr9 := hm.room
 have hp9 := hm.at_ 65295
 have hq9 := hm.at_ 65535
 refine does_of Tryz.func18 rfl rfl rfl hst ?_
 refine c_seq ?_
 refine c_region ?_
 refine RL ?_
 refine l_nil ?_
 refine c_seq ?_
 refine c_seq ?_
 refine c_region ?_
 refine RL ?_
 refine RL ?_
 refine RLa ?_
 refine RLo ?_
 refine l_l l_n rfl rfl ?_
 refine l_sure true rfl rfl rfl (by decide) ?_
 refine l_nil ?_
 refine c_true rfl ?_
 refine c_seq ?_
 refine c_draw _ [7, 8, 9, 10, 11, 12, 13, 14] (.step true 0 (.step true 1 (.step true 2 (.step true 3 (.step true 4 (.step true 5 (.step true 6 (.step true 7 (.step true 8 (.step true 9 (.step true 10 (.step true 11 (.step true 12 (.step true 13 (.step true 14 (.step true 15 .done)))))))))))))))) rfl (by kernel_rfl) (by kernel_rfl) (fun _ h => h) ?_
 refine RD ?_
 refine RD ?_
 refine RDa ?_
 refine RDo ?_
 refine d_light rfl (idx_slice1 (65295 : Int).toNat rfl rfl rfl rfl (by decide)) rfl rfl rfl ?_
 refine d_load rfl rfl rfl (s_own m_m (byte_in hl9 (a := 65295) (by decide))) rfl rfl ?_
 refine d_as rfl (l_conv rfl rfl rfl) rfl rfl rfl (by first | exact as_i64 o_m o_m | rfl) ?_
 refine RD ?_
 refine RD ?_
 refine RDa ?_
 refine RDo ?_
 refine d_light rfl (idx_slice1 (65535 : Int).toNat rfl rfl rfl rfl (by decide)) rfl rfl rfl ?_
 refine d_load rfl rfl rfl (s_own m_m (byte_in hl9 (a := 65535) (by decide))) rfl rfl ?_
 refine d_as rfl (l_conv rfl rfl rfl) rfl rfl rfl (by first | exact as_i64 o_m o_m | rfl) ?_
 refine RD ?_
 refine RD ?_
 refine d_nil ?_
 refine c_seq ?_
 refine c_region ?_
 refine RL ?_
 refine l_nil ?_
 refine c_seq ?_
 refine c_seq ?_
 refine c_region ?_
 refine RL ?_
 refine l_nil ?_
 refine c_block ?_
 refine c_loopk (σ := Nat) [5, 6, 27, 28, 29, 30, 31, 32, 33, 34, 35, 36, 37, 38, 39, 40, 41, 42, 43, 44, 45] (fun j => [(5, .int .i64 (pendN (atB m.b 65295) (atB m.b 65535) j)), (6, .int .i64 (2 ^ j))]) (fun j => j ≤ 5) (fun j => 5 - j) 0 ?_ ?_ ?_
 ·exact Nat.zero_le _
 ·exact .cons rfl (.cons rfl .nil)
 ·intro j y5 hj
  have hu9 := pow_up (show j < 8 by omega)
  have hs9 := pendN_le (atB m.b 65295) (atB m.b 65535) j
  have hlo9 := low5 hj
  have hb9 := half_le hp9 j
  have hd9 := half_le hq9 j
  refine c_seq ?_
  refine c_seq ?_
  refine c_region ?_
  refine RL ?_
  refine RL ?_
  refine l_nil ?_
  refine c_cond rfl (fun h1 => ?_) (fun h1 => ?_)
  ·have h1n := r_f h1
   refine c_skip ?_
   refine c_seq ?_
   refine c_block ?_
   refine c_keep [31, 32, 33, 34, 35, 36, 37, 38, 39, 40, 41, 42] [(42, .bool (decide ((atB m.b 65295) / 2 ^ j % 2 = 1 ∧ (atB m.b 65535) / 2 ^ j % 2 = 1)))] ?_ (fun y7 => ?_)
   ·refine c_region ?_
    refine RL ?_
    refine RL ?_
    refine l_as (v := (.int .i64 ((atB m.b 65295) / 2 ^ j))) (quo_pos rfl rfl (Int.ne_of_gt hu9.1)) rfl rfl (as_quo o_m (show _ < (9223372036854775808 : Int) by omega) hu9.1) ?_
    refine l_as (rem_pos rfl rfl (by decide)) rfl rfl (by first | exact as_rem o_m | rfl) ?_
    refine RL ?_
    refine RLb (fun h2 => ?_) (fun h2 => ?_)
    ·have h2n := r_f h2
     refine RL ?_
     refine RL ?_
     refine l_as (v := (.int .i64 ((atB m.b 65535) / 2 ^ j))) (quo_pos rfl rfl (Int.ne_of_gt hu9.1)) rfl rfl (as_quo o_m (show _ < (9223372036854775808 : Int) by omega) hu9.1) ?_
     refine l_as (rem_pos rfl rfl (by decide)) rfl rfl (by first | exact as_rem o_m | rfl) ?_
     refine RL ?_
     refine RL ?_
     refine l_nil ?_
     exact ⟨.cons (congrArg Value.bool (by rw [Bool.eq_iff_iff]; simp_all)) .nil, a_g, fun _ h => h⟩
    ·have h2n := r_f h2
     iterate 5 refine RLp ?_
     refine RL ?_
     refine l_nil ?_
     exact ⟨.cons (congrArg Value.bool (by rw [Bool.eq_iff_iff]; simp_all)) .nil, a_g, fun _ h => h⟩
   ·refine c_cond rfl (fun h3 => ?_) (fun h3 => ?_)
    ·have h3n := r_f h3
     refine c_region ?_
     refine RL ?_
     refine RL ?_
     refine l_as (l_add rfl rfl) rfl rfl (by first | exact as_i64 o_m o_m | rfl) ?_
     refine RL ?_
     refine l_nil ?_
     refine c_region ?_
     refine RL ?_
     refine l_as (v := (.int .i64 (2 ^ (j + 1)))) rfl rfl rfl ((as_i64 o_m o_m).trans (congrArg _ hu9.2.2.symm)) ?_
     refine RL ?_
     refine l_nil ?_
     exact ⟨j + 1, by omega, by omega, .cons (congrArg (Value.int .i64) (show pendN (atB m.b 65295) (atB m.b 65535) j + 2 ^ j = pendN (atB m.b 65295) (atB m.b 65535) j + _ by rw [if_pos h3n])) (.cons rfl .nil), a_g, fun _ h => h⟩
    ·have h3n := r_f h3
     refine c_skip ?_
     refine c_region ?_
     refine RL ?_
     refine l_as (v := (.int .i64 (2 ^ (j + 1)))) rfl rfl rfl ((as_i64 o_m o_m).trans (congrArg _ hu9.2.2.symm)) ?_
     refine RL ?_
     refine l_nil ?_
     exact ⟨j + 1, by omega, by omega, .cons (congrArg (Value.int .i64) (show pendN (atB m.b 65295) (atB m.b 65535) j = pendN (atB m.b 65295) (atB m.b 65535) j + _ by rw [if_neg h3n, Int.add_zero])) (.cons rfl .nil), a_g, fun _ h => h⟩
  ·have h1n := r_f h1
   refine c_exit rfl ?_
   refine c_seq ?_
   obtain rfl : j = 5 := by omega
   refine c_region ?_
   refine RL ?_
   refine l_as (v := (.int .u8 (ramA.pend m))) rfl rfl rfl ((as_u8 o_m o_m).trans (congrArg _ (pend5 hp9 hq9))) ?_
   refine RL ?_
   refine l_nil ?_
   refine c_ret ?_
   exact l_end (fun _ _ => rets_v rfl) (List.Sublist.refl _) ⟨rfl, rfl⟩

theorem qmemAck_fn {n : Nat} (mb bb : Nat) (m : Rm) (hm : RamOk n m) (H : Heap) (hr : MemH mb bb m H) (k : Nat) (hk : k < 5) (w : World) (hst : St w (H.map (·.1)) H w) : Does Tryz.prog 20 [.pointer (some ⟨mb, 0, none⟩), .int .i64 k] w (H.map (·.1)) (fun v H' => v = .tuple #[] ∧ MemH mb bb (ramA.ack (k : Int) m) H') := by
 obtain ⟨va, Ga, ak, hV, rfl⟩ := hr
 obtain ⟨a9, c9, rfl⟩ := hV.slice
 have hl9 := hm.len
 have hr9 := hm.room
 have hp9 := hm.at_ 65295
 have hk9 := (bits_ok (hm.at_ 65295) (n := (k : Int)) ⟨by omega, by omega⟩)
 refine does_of Tryz.func20 rfl rfl rfl hst ?_
 refine c_seq ?_
 refine c_heap (fun w hw => hw.perm List.perm_append_comm) ?_
 refine c_u ?_
 refine c_region ?_
 iterate 3 refine RL ?_
 refine RLa ?_
 refine l_x (x_storeTo (l' := [.slice (some ⟨bb, 0, none⟩) 65536 65536, .slice none 0 0, .int .u8 0, .int .i64 (k : Int), .bool false, .slice a9 m.acc.length c9]) 0 rfl rfl rfl rfl rfl rfl (Nat.le_of_ble_eq_true rfl) rfl) rfl rfl ?_
 rintro _ _ ⟨rfl, rfl⟩
 refine c_u ?_
 refine l_nil ?_
 refine c_seq ?_
 refine c_region ?_
 refine RL ?_
 refine RL ?_
 refine RLa ?_
 refine RLo ?_
 refine l_l l_n rfl rfl ?_
 refine l_sure true rfl rfl rfl (by decide) ?_
 refine l_nil ?_
 refine c_true rfl ?_
 refine c_seq ?_
 refine c_region ?_
 refine RL ?_
 refine l_nil ?_
 refine c_seq ?_
 refine c_seq ?_
 refine c_region ?_
 refine RL ?_
 refine l_nil ?_
 refine c_block ?_
 refine c_loopk (σ := Nat) [4, 5, 16, 17, 18, 19, 20, 21, 22] (fun j => [(4, .int .i64 (2 ^ j)), (5, .int .i64 j)]) (fun j => j ≤ k) (fun j => k - j) 0 ?_ ?_ ?_
 ·exact Nat.zero_le _
 ·exact .cons rfl (.cons rfl .nil)
 ·intro j y4 hj
  have hu9 := pow_up (show j < 8 by omega)
  refine c_seq ?_
  refine c_seq ?_
  refine c_region ?_
  iterate 3 refine RL ?_
  refine l_nil ?_
  refine c_cond rfl (fun h1 => ?_) (fun h1 => ?_)
  ·have h1n := r_f h1
   refine c_skip ?_
   refine c_seq ?_
   refine c_block ?_
   refine c_region ?_
   refine RL ?_
   refine l_as (v := (.int .i64 (2 ^ (j + 1)))) rfl rfl rfl ((as_i64 o_m o_m).trans (congrArg _ hu9.2.2.symm)) ?_
   refine RL ?_
   refine l_nil ?_
   refine c_region ?_
   refine RL ?_
   refine l_as (v := (.int .i64 ((j + 1 : Nat) : Int))) rfl rfl rfl (congrArg _ (succ_law o_m)) ?_
   refine RL ?_
   refine l_nil ?_
   exact ⟨j + 1, by omega, by omega, .cons rfl (.cons rfl .nil), a_g, fun _ h => h⟩
  ·have h1n := r_f h1
   refine c_exit rfl ?_
   refine c_seq ?_
   obtain rfl : j = k := by omega
   have hu9 := pow_up (show j < 8 by omega)
   have hb9 := half_le hp9 j
   refine c_region ?_
   refine RL ?_
   refine RL ?_
   refine RLa ?_
   refine RLo ?_
   refine l_l (idx_slice1 (65295 : Int).toNat rfl rfl rfl rfl (by decide)) rfl rfl ?_
   refine l_x (x_load rfl rfl (at_own m_m (byte_in hl9 (a := 65295) (by decide)))) rfl rfl ?_
   rintro _ _ ⟨rfl, rfl⟩
   refine l_as (l_conv rfl rfl rfl) rfl rfl (by first | exact as_i64 o_m o_m | rfl) ?_
   refine RL ?_
   refine l_as (v := (.int .i64 ((atB m.b 65295) / 2 ^ j))) (quo_pos rfl rfl (Int.ne_of_gt hu9.1)) rfl rfl (as_quo o_m (show _ < (9223372036854775808 : Int) by omega) hu9.1) ?_
   refine l_as (rem_pos rfl rfl (by decide)) rfl rfl (by first | exact as_rem o_m | rfl) ?_
   refine RL ?_
   refine l_nil ?_
   refine c_cond rfl (fun h2 => ?_) (fun h2 => ?_)
   ·have h2n := r_f h2
    refine c_draw _ [4, 5, 6, 7, 8, 9, 10, 11, 12, 13] (.step true 0 (.step true 1 (.step true 2 (.step true 3 (.step true 4 (.step true 5 (.step true 6 (.step true 7 (.step true 8 (.step true 9 (.step true 10 (.step true 11 (.step true 12 (.step true 13 (.step true 14 (.step false 15 .done)))))))))))))))) rfl (by kernel_rfl) (by kernel_rfl) (fun _ h => h) ?_
    refine RD ?_
    refine RD ?_
    refine RDa ?_
    refine RDo ?_
    refine RD ?_
    refine RD ?_
    refine RDa ?_
    refine RDo ?_
    refine d_light rfl (idx_slice1 (65295 : Int).toNat rfl rfl rfl rfl (by decide)) rfl rfl rfl ?_
    refine d_load rfl rfl rfl (s_own m_m (byte_in hl9 (a := 65295) (by decide))) rfl rfl ?_
    refine d_as rfl (l_conv rfl rfl rfl) rfl rfl rfl (by first | exact as_i64 o_m o_m | rfl) ?_
    refine RD ?_
    refine d_as rfl (l_sub rfl rfl) rfl rfl rfl (by first | exact as_i64 o_m o_m | rfl) ?_
    refine d_as (v := (.int .u8 (resB (atB m.b 65295) j))) rfl rfl rfl rfl rfl ((congrArg (fun z => Value.int .u8 (IntKind.u8.wrap z)) (show (atB m.b 65295) - 2 ^ j = resB (atB m.b 65295) j by unfold resB; rw [Int.toNat_natCast, show (atB m.b 65295) / 2 ^ j % 2 = 1 from h2n]; omega)).trans (as_u8 hk9.1.1 hk9.1.2)) ?_
    refine d_light rfl (idx_slice1 (65295 : Int).toNat rfl rfl rfl rfl (by decide)) rfl rfl rfl ?_
    refine d_x rfl (x_storeTo (l' := (m.b.set (65295 : Int).toNat (resB (atB m.b 65295) j)).map (.int .u8)) 1 rfl rfl rfl rfl rfl rfl (fits_in hl9 (a := 65295) (by decide)) (put_in hl9 (a := 65295) (by decide) _)) rfl rfl n_h ?_
    rintro _ _ ⟨rfl, rfl⟩
    refine c_u ?_
    refine d_nil ?_
    exact ends_of (fun _ _ => rets_none) (fun w hw => hw.perm (List.perm_append_comm (l₁ := [(mb, _), (bb, _)]))) ⟨rfl, _, _, _, hV, rfl⟩
   ·have h2n := r_f h2
    refine c_skip ?_
    exact ends_of (fun _ _ => rets_none) (fun w hw => hw.perm (List.perm_append_comm (l₁ := [(mb, _), (bb, _)]))) ⟨rfl, _, _, _, hV, by rw [ack_none h2n]⟩

theorem qmemAckI_fn {n : Nat} (mb bb : Nat) (m : Rm) (hm : RamOk n m) (H : Heap) (hr : MemH mb bb m H) (k : Int) (hk : 0 ≤ k ∧ k < 5) (w : World) (hst : St w (H.map (·.1)) H w) : Does Tryz.prog 20 [.pointer (some ⟨mb, 0, none⟩), .int .i64 k] w (H.map (·.1)) (fun v H' => v = .tuple #[] ∧ MemH mb bb (ramA.ack k m) H') := by
 have h9 := qmemAck_fn mb bb m hm H hr k.toNat o_m w hst
 rwa [Int.toNat_of_nonneg hk.1] at h9
/-- The document's memory over bytes of its own: as an algebra it is the law's ram. -/
def memK (mb bb : Nat) : MemK Tryz.prog Rm where
 toBusA := ramA
 ok := RamOk
 p := mb
 rep := MemH mb bb
 dF := fun h hr hw ha => qmemFetch_fn mb bb _ h _ hr _ ha _ hw
 dR := fun h hr hw ha => qmemRead_fn mb bb _ h _ hr _ ha _ hw
 dW := fun h hr hw ha hx => qmemWrite_fn mb bb _ h _ hr _ _ ha hx _ hw
 dI := fun h hr hw => qmemIdle_fn mb bb _ h _ hr _ hw
 dP := fun h hr hw => qmemPend_fn mb bb _ h _ hr _ hw
 dA := fun h hr hw hk => qmemAckI_fn mb bb _ h _ hr _ hk _ hw
 oF := fun h ha => ⟨h.note 3 ha (h.at_ _), h.at_ _⟩
 oR := fun h ha => ⟨h.note 1 ha (h.at_ _), h.at_ _⟩
 oW := fun h ha hx => h.write ha hx
 oI := fun h => h.note 0 (by decide) (by decide)
 oP := fun _ => pend_ok _
 oA := fun h hk => h.ack hk
 oL := fun h hk => h.le hk

end Go.Proofs.YtjjemehigdpboaaGreat
namespace Go.Proofs.YtjjemehigdpboaaGreat
open Go Go.VV Go.Proofs Go.RowKit
set_option linter.unusedSimpArgs false
set_option linter.unusedVariables false
set_option maxRecDepth 100000
theorem stepM_fn (mb bb : Nat) {n : Nat} (s : CS) (m : Rm) (hs : s.r.Ok) (hm : RamOk (n + 7) m) {d : Dd} {s' : CS} {m' : Rm} (e : stepT ramA ⟨s, m⟩ = (d, ⟨s', m'⟩)) (va : Value) (Ga : Heap) (ak : Int) (hV : Vec 89 3 va m.acc.length (flat cAc m.acc) Ga) (w : World) (hst : St w ((Ga ++ [(mb, blk [.slice (some ⟨bb, 0, none⟩) 65536 65536, .slice none 0 0, .int .u8 0, .int .i64 ak, .bool false, va] 38), (bb, blk (m.b.map (.int .u8)) 5)]).map (·.1)) (Ga ++ [(mb, blk [.slice (some ⟨bb, 0, none⟩) 65536 65536, .slice none 0 0, .int .u8 0, .int .i64 ak, .bool false, va] 38), (bb, blk (m.b.map (.int .u8)) 5)]) w) : Does Tryz.prog 10 [.agg (cS s).toArray, .pointer (some ⟨mb, 0, none⟩)] w ((Ga ++ [(mb, blk [.slice (some ⟨bb, 0, none⟩) 65536 65536, .slice none 0 0, .int .u8 0, .int .i64 ak, .bool false, va] 38), (bb, blk (m.b.map (.int .u8)) 5)]).map (·.1)) (fun v H => v = .tuple #[.agg (cS s').toArray, .agg (cDd d).toArray] ∧ ∃ va' Ga' ak', Vec 89 3 va' m'.acc.length (flat cAc m'.acc) Ga' ∧ H = Ga' ++ [(mb, blk [.slice (some ⟨bb, 0, none⟩) 65536 65536, .slice none 0 0, .int .u8 0, .int .i64 ak', .bool false, va'] 38), (bb, blk (m'.b.map (.int .u8)) 5)]) := by
 refine Does.mono (qstep_fn (memK mb bb) s m ⟨hs, hm⟩ _ ⟨va, Ga, ak, hV, rfl⟩ w hst) ?_
 rintro v H ⟨h1, va', Ga', ak', h3, h4⟩
 rw [show stepT (memK mb bb).toBusA ⟨s, m⟩ = (d, ⟨s', m'⟩) from e] at h1 h3 h4
 exact ⟨h1, va', Ga', ak', h3, h4⟩

theorem same_fn (s : CS) (d : Dd) (w : World) : Does Tryz.prog 11 [.agg (cS s).toArray, .agg (cDd d).toArray, .agg (cS s).toArray, .agg (cDd d).toArray] w [] (fun v H => H = [] ∧ v = .bool true) := by
 refine does_of Tryz.func11 rfl rfl rfl (St.refl w) ?_
 refine c_seq ?_
 refine c_region ?_
 refine l_x (x_box (l := cS s) rfl rfl) rfl rfl ?_
 rintro _ _ ⟨b4, rfl, rfl⟩
 refine l_x (x_box (l := cDd d) rfl rfl) rfl rfl ?_
 rintro _ _ ⟨b5, rfl, rfl⟩
 refine l_x (x_box (l := cS s) rfl rfl) rfl rfl ?_
 rintro _ _ ⟨b6, rfl, rfl⟩
 refine l_x (x_box (l := cDd d) rfl rfl) rfl rfl ?_
 rintro _ _ ⟨b7, rfl, rfl⟩
 refine RL ?_
 refine l_nil ?_
 refine c_seq ?_
 refine c_drawF _ [1, 2, 7, 8, 14, 15, 21, 22, 28, 29, 35, 36] [0, 0, 2, 7, 15, 31, 63, 31, 159, 511, 1023, 2047, 4095, 8191, 4095, 20479, 65535, 131071, 262143, 524287, 1048575, 524287, 2621439, 8388607, 16777215, 33554431, 67108863, 134217727, 67108863, 335544319, 1073741823, 2147483647, 4294967295, 8589934591, 17179869183, 8589934591, 42949672959, 137438953471, 274877906943, 549755813887] (.step true 0 (.step true 1 (.step false 2 (.step true 3 (.step true 4 (.step true 5 (.step true 6 (.step true 7 (.step true 8 (.step true 9 (.step true 10 (.step true 11 (.step true 12 (.step true 13 (.step true 14 (.step true 15 (.step true 16 (.step true 17 (.step true 18 (.step true 19 (.step true 20 (.step true 21 (.step true 22 (.step true 23 (.step true 24 (.step true 25 (.step true 26 (.step true 27 (.step true 28 (.step true 29 (.step true 30 (.step true 31 (.step true 32 (.step true 33 (.step true 34 (.step true 35 (.step true 36 (.step true 37 (.step true 38 (.step true 39 .done)))))))))))))))))))))))))))))))))))))))) rfl (by kernel_rfl) (by kernel_rfl) (by kernel_rfl) (fun _ h => h) ?_
 refine d_loadA rfl rfl rfl rfl (srow_own (l := cS s) m_m) rfl rfl ?_
 refine d_loadA rfl rfl rfl rfl (srow_own (l := cS s) m_m) rfl rfl ?_
 refine d_x rfl (x_val call_8 rfl (fun w hw => state_fn s w)) rfl rfl (by intro _ _ _ hK x hx; obtain ⟨rfl, rfl⟩ := hK; repeat (first | exact hx | exact List.mem_append_left _ hx | refine List.mem_append_right _ ?_ | refine .tail _ ?_)) ?_
 rintro _ _ ⟨rfl, rfl⟩
 refine d_eqs (ks := [.int .u8, .int .u8, .int .u8, .int .u8, .int .u8, .int .u8, .int .u8, .int .u8, .int .u16, .int .u16, .bool, .bool, .bool, .bool]) rfl rfl rfl (by kernel_rfl) (by kernel_rfl) rfl rfl rfl rfl (b := true) (lveq_refl (ks := [.int .u8, .int .u8, .int .u8, .int .u8, .int .u8, .int .u8, .int .u8, .int .u8, .int .u16, .int .u16, .bool, .bool, .bool, .bool]) rfl) ?_
 refine RD ?_
 refine RDa ?_
 refine d_load rfl rfl rfl (s_own (v := .int .i64 d.what) m_m (by rfl)) rfl rfl ?_
 refine RDa ?_
 refine d_load rfl rfl rfl (s_own (v := .int .i64 d.what) m_m (by rfl)) rfl rfl ?_
 refine d_sure true rfl rfl rfl rfl (by simp) ?_
 refine RD ?_
 refine RD ?_
 refine RDa ?_
 refine d_load rfl rfl rfl (s_own (v := .int .i64 d.n) m_m (by rfl)) rfl rfl ?_
 refine RDa ?_
 refine d_load rfl rfl rfl (s_own (v := .int .i64 d.n) m_m (by rfl)) rfl rfl ?_
 refine d_sure true rfl rfl rfl rfl (by simp) ?_
 refine RD ?_
 refine RD ?_
 refine RDa ?_
 refine d_load rfl rfl rfl (s_own (v := .int .u16 d.at_) m_m (by rfl)) rfl rfl ?_
 refine RDa ?_
 refine d_load rfl rfl rfl (s_own (v := .int .u16 d.at_) m_m (by rfl)) rfl rfl ?_
 refine d_sure true rfl rfl rfl rfl (by simp) ?_
 refine RD ?_
 refine RD ?_
 refine RDa ?_
 refine d_load rfl rfl rfl (s_own (v := .bool d.taken) m_m (by rfl)) rfl rfl ?_
 refine RDa ?_
 refine d_load rfl rfl rfl (s_own (v := .bool d.taken) m_m (by rfl)) rfl rfl ?_
 refine d_sure true rfl (light_eqb rfl rfl rfl) rfl rfl (by simp) ?_
 refine RD ?_
 refine RD ?_
 refine RDa ?_
 refine d_loadA rfl rfl rfl rfl (srow_own_at m_m 3 5 rfl) rfl rfl ?_
 refine RDa ?_
 refine d_loadA rfl rfl rfl rfl (srow_own_at m_m 3 5 rfl) rfl rfl ?_
 refine d_eqs (ks := [.int .i64, .int .i64, .int .i64, .int .i64, .int .u16]) rfl rfl rfl (by kernel_rfl) (by kernel_rfl) rfl rfl rfl rfl (b := true) (lveq_refl (ks := [.int .i64, .int .i64, .int .i64, .int .i64, .int .u16]) rfl) ?_
 refine RD ?_
 refine RD ?_
 refine d_nil ?_
 refine c_ret ?_
 exact l_end0 (fun _ _ => rets_v rfl) ⟨rfl, rfl⟩

set_option maxHeartbeats 4000000 in
theorem runs_fn (s : CS) (hs : s.r.Ok) (l : List Int) (hb : Byts l) (a : Option Addr) (c : Nat) (k : Int) (hk : 0 ≤ k ∧ k < 256) (w : World) (hN : Ns w .u8 a l) : Does Tryz.prog 3 [.agg (cS s).toArray, .slice a l.length c, .int .u8 k] w [] (fun v H => H = [] ∧ v = .bool true) := by
 obtain ⟨q, hq⟩ : ∃ q : Nat, k % 80 = (q : Int) := ⟨(k % 80).toNat, by omega⟩
 have hok9 : RunOk (ramK 0 0) (0 + 7 * q) (⟨s, ⟨fillB l, []⟩⟩ : Rn Rm) := ⟨hs, ⟨fillB_len l, fillB_ok hb, show 0 + (0 + 7 * q) ≤ 1000000 by omega, fun _ h => by cases h⟩⟩
 refine does_of Tryz.func3 rfl rfl rfl (St.refl w) ?_
 refine c_seq ?_
 refine c_region ?_
 refine l_x (x_box (l := cS s) rfl rfl) rfl rfl ?_
 rintro _ _ ⟨b3, rfl, rfl⟩
 refine RL ?_
 refine l_nil ?_
 refine c_seq ?_
 refine c_seq ?_
 refine c_region ?_
 refine RLv call_5 (fun w hw => awake_fn w) ?_
 iterate 3 refine RL ?_
 refine l_l l_n rfl rfl ?_
 refine RL ?_
 refine RL ?_
 refine l_nil ?_
 refine c_cond rfl (fun h1 => ?_) (fun h1 => ?_)
 ·have h1n := r_f h1
  refine c_seq ?_
  refine c_region ?_
  refine RLv call_5 (fun w hw => awake_fn w) ?_
  refine RL ?_
  refine l_nil ?_
  refine c_ret ?_
  exact l_end0 (fun _ _ => rets_v rfl) ⟨rfl, rfl⟩
 ·have h1n := r_f h1
  refine c_skip ?_
  refine c_seq ?_
  have hl9 : l.length ≤ 2000 := by omega
  refine c_region ?_
  refine l_x (x_call call_6 rfl (fun w hw => tnew_fn w)) rfl rfl ?_
  rintro _ _ ⟨GT, ⟨tb, rfl, hT⟩, rfl⟩
  obtain ⟨oT, rfl⟩ := hT.one
  refine c_u ?_
  refine RL ?_
  refine l_nil ?_
  refine c_seq ?_
  refine c_region ?_
  refine RL ?_
  refine l_x (x_call call_7 rfl (fun w hw => filled_fn l hb hl9 a c w (hN.later0 hw))) rfl rfl ?_
  rintro _ _ ⟨_, ⟨b24, rfl, rfl⟩, rfl⟩
  refine c_u ?_
  refine l_l (light_struct rfl rfl rfl rfl) rfl rfl ?_
  refine l_x (x_box (l := [.slice (some ⟨b24, 0, none⟩) 65536 65536, .slice none 0 0]) rfl rfl) rfl rfl ?_
  rintro _ _ ⟨b26, rfl, rfl⟩
  refine RL ?_
  refine l_x (x_call call_7 rfl (fun w hw => filled_fn l hb hl9 a c w (hN.later0 hw))) rfl rfl ?_
  rintro _ _ ⟨_, ⟨b28, rfl, rfl⟩, rfl⟩
  refine c_u ?_
  refine l_l (light_struct rfl rfl rfl rfl) rfl rfl ?_
  refine l_x (x_box (l := [.slice (some ⟨b28, 0, none⟩) 65536 65536, .slice none 0 0, .int .u8 0, .int .i64 0, .bool false, .slice none 0 0]) rfl rfl) rfl rfl ?_
  rintro _ _ ⟨b30, rfl, rfl⟩
  refine RL ?_
  refine RL ?_
  refine l_nil ?_
  refine c_cut (σ := Nat × Nat) [10, 11, 31, 32, 33] (fun q => [(10, .pointer (some ⟨q.1, 0, none⟩)), (11, .pointer (some ⟨q.2, 0, none⟩))]) (fun q => (q.2, blk (cS s) 26) :: (q.1, blk (cS s) 41) :: (tb, oT) :: (b26, blk [.slice (some ⟨b24, 0, none⟩) 65536 65536, .slice none 0 0] 35) :: (b24, blk ((fillB l).map (.int .u8)) 5) :: (b30, blk [.slice (some ⟨b28, 0, none⟩) 65536 65536, .slice none 0 0, .int .u8 0, .int .i64 0, .bool false, .slice none 0 0] 38) :: (b28, blk ((fillB l).map (.int .u8)) 5) :: []) (fun _ => True) ?_ ?_
  ·refine c_draw [(b3, blk (cS s) 26)] [1, 2, 3, 4, 5] (.step true 0 (.step true 2 (.fork 1 (.fork 3 (.step false 4 (.step false 5 (.step false 6 .done))) (.fork 4 (.step false 3 (.step false 5 (.step false 6 .done))) .stop)) (.fork 3 (.fork 1 (.step false 4 (.step false 5 (.step false 6 .done))) (.fork 4 (.step false 1 (.step false 5 (.step false 6 .done))) .stop)) (.fork 4 (.fork 1 (.step false 3 (.step false 5 (.step false 6 .done))) (.fork 3 (.step false 1 (.step false 5 (.step false 6 .done))) .stop)) .stop))))) rfl (by kernel_rfl) (by kernel_rfl) (fun x hx => by obtain rfl := List.mem_singleton.1 hx; exact m_m) ?_
   refine d_loadA rfl rfl rfl rfl (srow_own (l := cS s) m_m) rfl rfl ?_
   refine d_loadA rfl rfl rfl rfl (srow_own (l := cS s) m_m) rfl rfl ?_
   refine d_fork ?_ ?_
   ·refine d_x rfl (x_val call_8 rfl (fun w hw => state_fn s w)) rfl rfl (by intro _ _ _ hK x hx; obtain ⟨rfl, rfl⟩ := hK; repeat (first | exact hx | exact List.mem_append_left _ hx | refine List.mem_append_right _ ?_ | refine .tail _ ?_)) ?_
    rintro _ _ ⟨rfl, rfl⟩
    refine d_fork ?_ ?_
    ·refine d_x rfl (x_alloc rfl) rfl rfl (by first | (intro h; cases h; done) | (intro _ _ _ hK x hx; obtain ⟨_, rfl, rfl⟩ := hK; obtain rfl := List.mem_singleton.1 hx; exact .tail _ m_m)) ?_
     rintro _ _ ⟨b10, rfl, rfl⟩
     refine d_x rfl (x_alloc rfl) rfl rfl (by first | (intro h; cases h; done) | (intro _ _ _ hK x hx; obtain ⟨_, rfl, rfl⟩ := hK; obtain rfl := List.mem_singleton.1 hx; exact .tail _ m_m)) ?_
     rintro _ _ ⟨b11, rfl, rfl⟩
     refine d_x rfl (x_storeTo (l' := cS s) 1 rfl rfl rfl rfl rfl rfl (Nat.le_of_ble_eq_true rfl) rfl) rfl rfl (by first | (intro h; cases h; done) | (intro _ _ _ hK x hx; obtain ⟨rfl, rfl⟩ := hK; obtain rfl := List.mem_singleton.1 hx; exact m_m)) ?_
     rintro _ _ ⟨rfl, rfl⟩
     refine c_u ?_
     refine d_x rfl (x_storeTo (l' := cS s) 0 rfl rfl rfl rfl rfl rfl (Nat.le_of_ble_eq_true rfl) rfl) rfl rfl (by first | (intro h; cases h; done) | (intro _ _ _ hK x hx; obtain ⟨rfl, rfl⟩ := hK; obtain rfl := List.mem_singleton.1 hx; exact m_m)) ?_
     rintro _ _ ⟨rfl, rfl⟩
     refine c_u ?_
     refine d_nil ?_
     exact ⟨(b10, b11), trivial, .cons rfl (.cons rfl .nil), a_g, fun _ h => (St.fl [[_], [_], [_], [_], [_], [_], [_], [_]] [0, 1, 6, 4, 5, 2, 3] rfl h).as (by simp only [List.filterMap_cons, List.filterMap_nil, List.getElem?_cons_zero, List.getElem?_cons_succ, VV.fl, List.cons_append, List.nil_append])⟩
    refine d_fork ?_ ?_
    ·refine d_x rfl (x_alloc rfl) rfl rfl (by first | (intro h; cases h; done) | (intro _ _ _ hK x hx; obtain ⟨_, rfl, rfl⟩ := hK; obtain rfl := List.mem_singleton.1 hx; exact .tail _ m_m)) ?_
     rintro _ _ ⟨b11, rfl, rfl⟩
     refine d_x rfl (x_alloc rfl) rfl rfl (by first | (intro h; cases h; done) | (intro _ _ _ hK x hx; obtain ⟨_, rfl, rfl⟩ := hK; obtain rfl := List.mem_singleton.1 hx; exact .tail _ m_m)) ?_
     rintro _ _ ⟨b10, rfl, rfl⟩
     refine d_x rfl (x_storeTo (l' := cS s) 0 rfl rfl rfl rfl rfl rfl (Nat.le_of_ble_eq_true rfl) rfl) rfl rfl (by first | (intro h; cases h; done) | (intro _ _ _ hK x hx; obtain ⟨rfl, rfl⟩ := hK; obtain rfl := List.mem_singleton.1 hx; exact m_m)) ?_
     rintro _ _ ⟨rfl, rfl⟩
     refine c_u ?_
     refine d_x rfl (x_storeTo (l' := cS s) 1 rfl rfl rfl rfl rfl rfl (Nat.le_of_ble_eq_true rfl) rfl) rfl rfl (by first | (intro h; cases h; done) | (intro _ _ _ hK x hx; obtain ⟨rfl, rfl⟩ := hK; obtain rfl := List.mem_singleton.1 hx; exact m_m)) ?_
     rintro _ _ ⟨rfl, rfl⟩
     refine c_u ?_
     refine d_nil ?_
     exact ⟨(b10, b11), trivial, .cons rfl (.cons rfl .nil), a_g, fun _ h => (St.fl [[_], [_], [_], [_], [_], [_], [_], [_]] [1, 0, 6, 4, 5, 2, 3] rfl h).as (by simp only [List.filterMap_cons, List.filterMap_nil, List.getElem?_cons_zero, List.getElem?_cons_succ, VV.fl, List.cons_append, List.nil_append])⟩
    exact d_stop
   refine d_fork ?_ ?_
   ·refine d_x rfl (x_alloc rfl) rfl rfl (by first | (intro h; cases h; done) | (intro _ _ _ hK x hx; obtain ⟨_, rfl, rfl⟩ := hK; obtain rfl := List.mem_singleton.1 hx; exact .tail _ m_m)) ?_
    rintro _ _ ⟨b10, rfl, rfl⟩
    refine d_fork ?_ ?_
    ·refine d_x rfl (x_val call_8 rfl (fun w hw => state_fn s w)) rfl rfl (by intro _ _ _ hK x hx; obtain ⟨rfl, rfl⟩ := hK; repeat (first | exact hx | exact List.mem_append_left _ hx | refine List.mem_append_right _ ?_ | refine .tail _ ?_)) ?_
     rintro _ _ ⟨rfl, rfl⟩
     refine d_x rfl (x_alloc rfl) rfl rfl (by first | (intro h; cases h; done) | (intro _ _ _ hK x hx; obtain ⟨_, rfl, rfl⟩ := hK; obtain rfl := List.mem_singleton.1 hx; exact .tail _ m_m)) ?_
     rintro _ _ ⟨b11, rfl, rfl⟩
     refine d_x rfl (x_storeTo (l' := cS s) 1 rfl rfl rfl rfl rfl rfl (Nat.le_of_ble_eq_true rfl) rfl) rfl rfl (by first | (intro h; cases h; done) | (intro _ _ _ hK x hx; obtain ⟨rfl, rfl⟩ := hK; obtain rfl := List.mem_singleton.1 hx; exact m_m)) ?_
     rintro _ _ ⟨rfl, rfl⟩
     refine c_u ?_
     refine d_x rfl (x_storeTo (l' := cS s) 0 rfl rfl rfl rfl rfl rfl (Nat.le_of_ble_eq_true rfl) rfl) rfl rfl (by first | (intro h; cases h; done) | (intro _ _ _ hK x hx; obtain ⟨rfl, rfl⟩ := hK; obtain rfl := List.mem_singleton.1 hx; exact m_m)) ?_
     rintro _ _ ⟨rfl, rfl⟩
     refine c_u ?_
     refine d_nil ?_
     exact ⟨(b10, b11), trivial, .cons rfl (.cons rfl .nil), a_g, fun _ h => (St.fl [[_], [_], [_], [_], [_], [_], [_], [_]] [0, 1, 6, 4, 5, 2, 3] rfl h).as (by simp only [List.filterMap_cons, List.filterMap_nil, List.getElem?_cons_zero, List.getElem?_cons_succ, VV.fl, List.cons_append, List.nil_append])⟩
    refine d_fork ?_ ?_
    ·refine d_x rfl (x_alloc rfl) rfl rfl (by first | (intro h; cases h; done) | (intro _ _ _ hK x hx; obtain ⟨_, rfl, rfl⟩ := hK; obtain rfl := List.mem_singleton.1 hx; exact .tail _ m_m)) ?_
     rintro _ _ ⟨b11, rfl, rfl⟩
     refine d_x rfl (x_val call_8 rfl (fun w hw => state_fn s w)) rfl rfl (by intro _ _ _ hK x hx; obtain ⟨rfl, rfl⟩ := hK; repeat (first | exact hx | exact List.mem_append_left _ hx | refine List.mem_append_right _ ?_ | refine .tail _ ?_)) ?_
     rintro _ _ ⟨rfl, rfl⟩
     refine d_x rfl (x_storeTo (l' := cS s) 1 rfl rfl rfl rfl rfl rfl (Nat.le_of_ble_eq_true rfl) rfl) rfl rfl (by first | (intro h; cases h; done) | (intro _ _ _ hK x hx; obtain ⟨rfl, rfl⟩ := hK; obtain rfl := List.mem_singleton.1 hx; exact m_m)) ?_
     rintro _ _ ⟨rfl, rfl⟩
     refine c_u ?_
     refine d_x rfl (x_storeTo (l' := cS s) 0 rfl rfl rfl rfl rfl rfl (Nat.le_of_ble_eq_true rfl) rfl) rfl rfl (by first | (intro h; cases h; done) | (intro _ _ _ hK x hx; obtain ⟨rfl, rfl⟩ := hK; obtain rfl := List.mem_singleton.1 hx; exact m_m)) ?_
     rintro _ _ ⟨rfl, rfl⟩
     refine c_u ?_
     refine d_nil ?_
     exact ⟨(b10, b11), trivial, .cons rfl (.cons rfl .nil), a_g, fun _ h => (St.fl [[_], [_], [_], [_], [_], [_], [_], [_]] [0, 1, 6, 4, 5, 2, 3] rfl h).as (by simp only [List.filterMap_cons, List.filterMap_nil, List.getElem?_cons_zero, List.getElem?_cons_succ, VV.fl, List.cons_append, List.nil_append])⟩
    exact d_stop
   refine d_fork ?_ ?_
   ·refine d_x rfl (x_alloc rfl) rfl rfl (by first | (intro h; cases h; done) | (intro _ _ _ hK x hx; obtain ⟨_, rfl, rfl⟩ := hK; obtain rfl := List.mem_singleton.1 hx; exact .tail _ m_m)) ?_
    rintro _ _ ⟨b11, rfl, rfl⟩
    refine d_fork ?_ ?_
    ·refine d_x rfl (x_val call_8 rfl (fun w hw => state_fn s w)) rfl rfl (by intro _ _ _ hK x hx; obtain ⟨rfl, rfl⟩ := hK; repeat (first | exact hx | exact List.mem_append_left _ hx | refine List.mem_append_right _ ?_ | refine .tail _ ?_)) ?_
     rintro _ _ ⟨rfl, rfl⟩
     refine d_x rfl (x_alloc rfl) rfl rfl (by first | (intro h; cases h; done) | (intro _ _ _ hK x hx; obtain ⟨_, rfl, rfl⟩ := hK; obtain rfl := List.mem_singleton.1 hx; exact .tail _ m_m)) ?_
     rintro _ _ ⟨b10, rfl, rfl⟩
     refine d_x rfl (x_storeTo (l' := cS s) 0 rfl rfl rfl rfl rfl rfl (Nat.le_of_ble_eq_true rfl) rfl) rfl rfl (by first | (intro h; cases h; done) | (intro _ _ _ hK x hx; obtain ⟨rfl, rfl⟩ := hK; obtain rfl := List.mem_singleton.1 hx; exact m_m)) ?_
     rintro _ _ ⟨rfl, rfl⟩
     refine c_u ?_
     refine d_x rfl (x_storeTo (l' := cS s) 1 rfl rfl rfl rfl rfl rfl (Nat.le_of_ble_eq_true rfl) rfl) rfl rfl (by first | (intro h; cases h; done) | (intro _ _ _ hK x hx; obtain ⟨rfl, rfl⟩ := hK; obtain rfl := List.mem_singleton.1 hx; exact m_m)) ?_
     rintro _ _ ⟨rfl, rfl⟩
     refine c_u ?_
     refine d_nil ?_
     exact ⟨(b10, b11), trivial, .cons rfl (.cons rfl .nil), a_g, fun _ h => (St.fl [[_], [_], [_], [_], [_], [_], [_], [_]] [1, 0, 6, 4, 5, 2, 3] rfl h).as (by simp only [List.filterMap_cons, List.filterMap_nil, List.getElem?_cons_zero, List.getElem?_cons_succ, VV.fl, List.cons_append, List.nil_append])⟩
    refine d_fork ?_ ?_
    ·refine d_x rfl (x_alloc rfl) rfl rfl (by first | (intro h; cases h; done) | (intro _ _ _ hK x hx; obtain ⟨_, rfl, rfl⟩ := hK; obtain rfl := List.mem_singleton.1 hx; exact .tail _ m_m)) ?_
     rintro _ _ ⟨b10, rfl, rfl⟩
     refine d_x rfl (x_val call_8 rfl (fun w hw => state_fn s w)) rfl rfl (by intro _ _ _ hK x hx; obtain ⟨rfl, rfl⟩ := hK; repeat (first | exact hx | exact List.mem_append_left _ hx | refine List.mem_append_right _ ?_ | refine .tail _ ?_)) ?_
     rintro _ _ ⟨rfl, rfl⟩
     refine d_x rfl (x_storeTo (l' := cS s) 0 rfl rfl rfl rfl rfl rfl (Nat.le_of_ble_eq_true rfl) rfl) rfl rfl (by first | (intro h; cases h; done) | (intro _ _ _ hK x hx; obtain ⟨rfl, rfl⟩ := hK; obtain rfl := List.mem_singleton.1 hx; exact m_m)) ?_
     rintro _ _ ⟨rfl, rfl⟩
     refine c_u ?_
     refine d_x rfl (x_storeTo (l' := cS s) 1 rfl rfl rfl rfl rfl rfl (Nat.le_of_ble_eq_true rfl) rfl) rfl rfl (by first | (intro h; cases h; done) | (intro _ _ _ hK x hx; obtain ⟨rfl, rfl⟩ := hK; obtain rfl := List.mem_singleton.1 hx; exact m_m)) ?_
     rintro _ _ ⟨rfl, rfl⟩
     refine c_u ?_
     refine d_nil ?_
     exact ⟨(b10, b11), trivial, .cons rfl (.cons rfl .nil), a_g, fun _ h => (St.fl [[_], [_], [_], [_], [_], [_], [_], [_]] [1, 0, 6, 4, 5, 2, 3] rfl h).as (by simp only [List.filterMap_cons, List.filterMap_nil, List.getElem?_cons_zero, List.getElem?_cons_succ, VV.fl, List.cons_append, List.nil_append])⟩
    exact d_stop
   exact d_stop
  ·rintro ⟨b10, b11⟩ y5 -
   dsimp only
   refine c_seq ?_
   refine c_seq ?_
   refine c_region ?_
   refine RL ?_
   refine l_as (l_conv rfl rfl rfl) rfl rfl (by first | exact as_i64 o_m o_m | rfl) ?_
   refine l_as (v := (.int .i64 (q : Int))) rfl rfl rfl (congrArg _ ((Int.tmod_eq_emod_of_nonneg o_m).trans hq)) ?_
   refine RL ?_
   refine l_nil ?_
   refine c_block ?_
   refine c_loop (σ := Nat × Obj × Value × Heap × Value × Heap × Int) [6, 12, 13, 37, 38, 39, 40, 41, 42, 43, 44, 45, 46, 47, 48, 49, 50, 51, 52, 53, 54, 55, 56, 57, 58, 59] (fun q => [(37, .int .i64 q.1)]) (fun q => (b11, blk (cS (stepN ramA (⟨s, ⟨fillB l, []⟩⟩ : Rn Rm) q.1).s) 26) :: (b10, blk (cS (stepN ramA (⟨s, ⟨fillB l, []⟩⟩ : Rn Rm) q.1).s) 41) :: (((tb, q.2.1) :: (q.2.2.2.1 ++ [(b26, blk [.slice (some ⟨b24, 0, none⟩) 65536 65536, q.2.2.1] 35), (b24, blk ((stepN ramA (⟨s, ⟨fillB l, []⟩⟩ : Rn Rm) q.1).m.b.map (.int .u8)) 5)])) ++ (q.2.2.2.2.2.1 ++ [(b30, blk [.slice (some ⟨b28, 0, none⟩) 65536 65536, .slice none 0 0, .int .u8 0, .int .i64 q.2.2.2.2.2.2, .bool false, q.2.2.2.2.1] 38), (b28, blk ((stepN ramA (⟨s, ⟨fillB l, []⟩⟩ : Rn Rm) q.1).m.b.map (.int .u8)) 5)]))) (fun p => p.1 ≤ q ∧ TabH tb (.int .u32 0) [(tb, p.2.1)] ∧ Vec 89 3 p.2.2.1 (stepN ramA (⟨s, ⟨fillB l, []⟩⟩ : Rn Rm) p.1).m.acc.length (flat cAc (stepN ramA (⟨s, ⟨fillB l, []⟩⟩ : Rn Rm) p.1).m.acc) p.2.2.2.1 ∧ Vec 89 3 p.2.2.2.2.1 (stepN ramA (⟨s, ⟨fillB l, []⟩⟩ : Rn Rm) p.1).m.acc.length (flat cAc (stepN ramA (⟨s, ⟨fillB l, []⟩⟩ : Rn Rm) p.1).m.acc) p.2.2.2.2.2.1) (fun p => q - p.1) (0, oT, .slice none 0 0, [], .slice none 0 0, [], 0) ?_ ?_ ?_ ?_
   ·exact ⟨Nat.zero_le _, hT, .nil, .nil⟩
   ·exact .cons rfl .nil
   ·exact fun _ h => h
   ·rintro ⟨i, oi, vi, Gi, mi, Hi, ki⟩ y7 ⟨hi, hTi, hVi, hMi⟩
    dsimp only at hi hTi hVi hMi ⊢
    obtain ⟨ai, ci, rfl⟩ := hVi.slice
    obtain ⟨bi, di, rfl⟩ := hMi.slice
    refine c_seq ?_
    refine c_region ?_
    refine RL ?_
    refine l_nil ?_
    refine c_seq ?_
    refine c_cond rfl (fun h2 => ?_) (fun h2 => ?_)
    ·have h2n := r_f h2
     refine c_skip ?_
     refine c_seq ?_
     refine c_block ?_
     refine c_seq ?_
     refine c_region ?_
     refine l_x (x_alloc rfl) rfl rfl ?_
     rintro _ _ ⟨b12, rfl, rfl⟩
     refine l_nil ?_
     refine c_seq ?_
     refine c_region ?_
     refine l_x (x_alloc rfl) rfl rfl ?_
     rintro _ _ ⟨b13, rfl, rfl⟩
     refine l_nil ?_
     refine c_seq ?_
     have hx9 := (stepN_ok hok9 i hi).le (k := 0 + 7) o_m
     refine c_region ?_
     refine RL ?_
     refine l_x (x_loadA rfl rfl rfl (row_own (l := cS (stepN ramA (⟨s, ⟨fillB l, []⟩⟩ : Rn Rm) i).s) m_m)) rfl rfl ?_
     rintro _ _ ⟨rfl, rfl⟩
     refine RL ?_
     refine RL ?_
     refine l_x (x_callM (F := [(b13, _), (b12, _), (b11, _), (b10, _)]) (A := (tb, _) :: (_ ++ [_, _])) (G := _ ++ [_, _]) _ call_9 rfl (fun _ hb => mem_fst hb) (fun w hw => stepR_fn b26 b24 (n := 0) (stepN ramA (⟨s, ⟨fillB l, []⟩⟩ : Rn Rm) i).s (stepN ramA (⟨s, ⟨fillB l, []⟩⟩ : Rn Rm) i).m hx9.r hx9.m (d := (stepT ramA (stepN ramA (⟨s, ⟨fillB l, []⟩⟩ : Rn Rm) i)).1) (s' := (stepN ramA (⟨s, ⟨fillB l, []⟩⟩ : Rn Rm) (i + 1)).s) (m' := (stepN ramA (⟨s, ⟨fillB l, []⟩⟩ : Rn Rm) (i + 1)).m) rfl _ _ hVi tb _ oi hTi w (St.lentV hw))) rfl rfl ?_
     rintro _ _ ⟨_, ⟨rfl, oT2, hT2, va2, Ga2, hV2, rfl⟩, rfl⟩
     iterate 3 refine RL ?_
     refine l_x (x_storeTo (l' := cS (stepN ramA (⟨s, ⟨fillB l, []⟩⟩ : Rn Rm) (i + 1)).s) 3 rfl rfl rfl rfl rfl rfl (Nat.le_of_ble_eq_true rfl) rfl) rfl rfl ?_
     rintro _ _ ⟨rfl, rfl⟩
     refine c_u ?_
     refine l_x (x_storeTo (l' := cDd (stepT ramA (stepN ramA (⟨s, ⟨fillB l, []⟩⟩ : Rn Rm) i)).1) 1 rfl rfl rfl rfl rfl rfl (Nat.le_of_ble_eq_true rfl) rfl) rfl rfl ?_
     rintro _ _ ⟨rfl, rfl⟩
     refine c_u ?_
     refine l_nil ?_
     refine c_seq ?_
     refine c_region ?_
     refine l_x (x_loadA rfl rfl rfl (row_own (l := cS (stepN ramA (⟨s, ⟨fillB l, []⟩⟩ : Rn Rm) i).s) m_m)) rfl rfl ?_
     rintro _ _ ⟨rfl, rfl⟩
     refine RL ?_
     refine l_x (x_callT (F := (b13, _) :: (b12, _) :: (b11, _) :: (b10, _) :: (tb, _) :: (_ ++ [_, _])) (A := _ ++ [_, _]) call_10 rfl (fun w hw => stepM_fn b30 b28 (n := 0) (stepN ramA (⟨s, ⟨fillB l, []⟩⟩ : Rn Rm) i).s (stepN ramA (⟨s, ⟨fillB l, []⟩⟩ : Rn Rm) i).m hx9.r hx9.m (d := (stepT ramA (stepN ramA (⟨s, ⟨fillB l, []⟩⟩ : Rn Rm) i)).1) (s' := (stepN ramA (⟨s, ⟨fillB l, []⟩⟩ : Rn Rm) (i + 1)).s) (m' := (stepN ramA (⟨s, ⟨fillB l, []⟩⟩ : Rn Rm) (i + 1)).m) rfl _ _ _ hMi w (St.lentV hw))) rfl rfl ?_
     rintro _ _ ⟨_, ⟨rfl, vm2, Gm2, ak2, hM2, rfl⟩, rfl⟩
     iterate 3 refine RL ?_
     refine l_x (x_storeTo (l' := cS (stepN ramA (⟨s, ⟨fillB l, []⟩⟩ : Rn Rm) (i + 1)).s) 2 rfl rfl rfl rfl rfl rfl (Nat.le_of_ble_eq_true rfl) rfl) rfl rfl ?_
     rintro _ _ ⟨rfl, rfl⟩
     refine c_u ?_
     refine l_x (x_storeTo (l' := cDd (stepT ramA (stepN ramA (⟨s, ⟨fillB l, []⟩⟩ : Rn Rm) i)).1) 0 rfl rfl rfl rfl rfl rfl (Nat.le_of_ble_eq_true rfl) rfl) rfl rfl ?_
     rintro _ _ ⟨rfl, rfl⟩
     refine c_u ?_
     refine l_nil ?_
     refine c_seq ?_
     refine c_region ?_
     refine l_x (x_loadA rfl rfl rfl (row_own (l := cS (stepN ramA (⟨s, ⟨fillB l, []⟩⟩ : Rn Rm) (i + 1)).s) m_m)) rfl rfl ?_
     rintro _ _ ⟨rfl, rfl⟩
     refine l_x (x_loadA rfl rfl rfl (row_own (l := cDd (stepT ramA (stepN ramA (⟨s, ⟨fillB l, []⟩⟩ : Rn Rm) i)).1) m_m)) rfl rfl ?_
     rintro _ _ ⟨rfl, rfl⟩
     refine l_x (x_loadA rfl rfl rfl (row_own (l := cS (stepN ramA (⟨s, ⟨fillB l, []⟩⟩ : Rn Rm) (i + 1)).s) m_m)) rfl rfl ?_
     rintro _ _ ⟨rfl, rfl⟩
     refine l_x (x_loadA rfl rfl rfl (row_own (l := cDd (stepT ramA (stepN ramA (⟨s, ⟨fillB l, []⟩⟩ : Rn Rm) i)).1) m_m)) rfl rfl ?_
     rintro _ _ ⟨rfl, rfl⟩
     refine RLv call_11 (fun w hw => same_fn (stepN ramA (⟨s, ⟨fillB l, []⟩⟩ : Rn Rm) (i + 1)).s (stepT ramA (stepN ramA (⟨s, ⟨fillB l, []⟩⟩ : Rn Rm) i)).1 w) ?_
     refine RL ?_
     refine l_nil ?_
     refine c_false rfl ?_
     refine c_skip ?_
     refine c_region ?_
     refine l_as (v := (.int .i64 ((i + 1 : Nat) : Int))) rfl rfl rfl (congrArg _ (succ_law o_m)) ?_
     refine RL ?_
     refine l_nil ?_
     exact ⟨(i + 1, oT2, va2, Ga2, vm2, Gm2, ak2), ⟨by omega, hT2, hV2, hM2⟩, by show q - (i + 1) < q - i; omega, .cons rfl .nil, a_g, fun _ h => h.sub (.cons _ (.cons _ (List.Sublist.refl _)))⟩
    ·have h2n := r_f h2
     refine c_exit rfl ?_
     refine c_seq ?_
     obtain ⟨ax1, cx1, hsl1, hln1, hcx1, hgv1⟩ := hVi.gives cAc_len (by decide)
     cases hsl1
     obtain ⟨ax2, cx2, hsl2, hln2, hcx2, hgv2⟩ := hMi.gives cAc_len (by decide)
     cases hsl2
     have hy9 := stepN_ok hok9 i hi
     have hlb9 : (stepN ramA (⟨s, ⟨fillB l, []⟩⟩ : Rn Rm) i).m.b.length = 65536 := hy9.m.len
     have hrm9 : (stepN ramA (⟨s, ⟨fillB l, []⟩⟩ : Rn Rm) i).m.acc.length + (0 + 7 * (q - i)) ≤ 1000000 := hy9.m.room
     simp only [List.append_assoc, List.cons_append, List.nil_append]
     refine c_heap (fun _ h => St.fl [[_], [_], [_], Gi, [_], [_], Hi, [_], [_]] [4, 5, 7, 8, 3, 6] rfl h) ?_
     simp only [List.filterMap_cons, List.filterMap_nil, List.getElem?_cons_zero, List.getElem?_cons_succ, VV.fl, List.cons_append, List.nil_append]
     refine c_draw _ [4, 5, 6, 7, 8, 16, 17, 18, 19, 20, 21] (.step true 0 (.step true 1 (.step true 2 (.step true 3 (.step true 4 (.step true 5 (.step true 6 (.step true 7 (.step false 8 (.step true 9 (.step true 10 (.step true 11 (.step true 12 (.step true 13 (.step true 14 (.step true 15 (.step true 16 (.step true 17 (.step true 18 (.step true 19 (.step true 20 (.step true 21 (.step true 22 (.step true 23 (.step true 24 .done))))))))))))))))))))))))) rfl (by kernel_rfl) (by kernel_rfl) (fun _ h => h) ?_
     refine RD ?_
     refine RD ?_
     refine RDa ?_
     refine RDo ?_
     refine RD ?_
     refine RD ?_
     refine RDa ?_
     refine RDo ?_
     refine d_x rfl (x_val call_12 rfl (fun w hw => accesses_fn (stepN ramA (⟨s, ⟨fillB l, []⟩⟩ : Rn Rm) i).m.acc (stepN ramA (⟨s, ⟨fillB l, []⟩⟩ : Rn Rm) i).m.acc ai bi ci di o_m w (hgv1.els hw (by intro x hx; first | exact .tail _ (.tail _ (.tail _ (.tail _ (List.mem_append_left _ hx)))) | exact .tail _ (.tail _ (.tail _ (.tail _ (List.mem_append_right _ hx)))))) (hgv2.els hw (by intro x hx; first | exact .tail _ (.tail _ (.tail _ (.tail _ (List.mem_append_left _ hx)))) | exact .tail _ (.tail _ (.tail _ (.tail _ (List.mem_append_right _ hx)))))) o_m)) rfl rfl (by first | (intro h; cases h; done) | (intro _ _ _ hK x hx; obtain ⟨_, rfl⟩ := hK; exact hx)) ?_
     rintro _ _ ⟨rfl, rfl⟩
     rw [show decide ((stepN ramA (⟨s, ⟨fillB l, []⟩⟩ : Rn Rm) i).m.acc = (stepN ramA (⟨s, ⟨fillB l, []⟩⟩ : Rn Rm) i).m.acc) = true from decide_eq_true rfl]
     iterate 3 refine RD ?_
     refine RDa ?_
     refine RDo ?_
     refine d_light rfl (idx_slice1 (65295 : Int).toNat rfl rfl rfl rfl (by decide)) rfl rfl rfl ?_
     refine d_load rfl rfl rfl (s_own m_m (byte_in (l := (stepN ramA (⟨s, ⟨fillB l, []⟩⟩ : Rn Rm) i).m.b) hlb9 (a := 65295) (by decide))) rfl rfl ?_
     refine RD ?_
     refine RD ?_
     refine RDa ?_
     refine RDo ?_
     refine d_light rfl (idx_slice1 (65295 : Int).toNat rfl rfl rfl rfl (by decide)) rfl rfl rfl ?_
     refine d_load rfl rfl rfl (s_own m_m (byte_in (l := (stepN ramA (⟨s, ⟨fillB l, []⟩⟩ : Rn Rm) i).m.b) hlb9 (a := 65295) (by decide))) rfl rfl ?_
     refine d_sure true rfl rfl rfl rfl (by simp) ?_
     refine RD ?_
     refine RD ?_
     refine d_nil ?_
     refine c_ret ?_
     exact l_end0 (fun _ _ => rets_v rfl) ⟨rfl, rfl⟩

end Go.Proofs.YtjjemehigdpboaaGreat
