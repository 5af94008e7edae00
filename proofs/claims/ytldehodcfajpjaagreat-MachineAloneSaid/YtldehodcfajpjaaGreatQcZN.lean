/- The law of machines that stand alone. -/
import Derived.Test.YtldehodcfajpjaaGreatQcZG
import Derived.Test.YtldehodcfajpjaaGreatQcZE
set_option linter.unusedSimpArgs false
set_option linter.unusedVariables false
set_option maxRecDepth 100000
set_option maxHeartbeats 4000000
namespace Go.VV
open Go Go.ChangeShapes Go.WideShapes Go.ChangeAt Go.RowKit
section
variable {H : Type} {enc : TypeId × Value → H} {P : Program} {W : World}
theorem arg_ints {r : Reach} {b0 : Nat} {t e : TypeId} {k : IntKind} {v : Value} {d : DataW H} {p : List MemPlace} (ht : P.underlying t = some (.slice e)) (he : P.underlying e = some (.int k)) (hc : P.cellsOf e = 1)
  (hv : Value.okWide P W r b0 t v) (h : DataW.Trod enc P W 0 (fun _ => true) true t v d p) :
  ∃ (a : Option Addr) (c : Nat) (l : List Int), v = .slice a l.length c ∧ l.length ≤ c ∧ l.length ≤ maxLen ∧ (∀ x ∈ l, (Lit.int k x).wf = true) ∧ Ns W k a l := by
 obtain ⟨a, len, cap, rfl⟩ := okWide_slice ht hv
 obtain ⟨fuel, hf⟩ := h
 rcases open_ints ht he hc hf with ⟨hcs, _⟩ | ⟨x, l, c, zs, hcs, _, hl, hm, hz, _, hcell, hwz⟩
 ·simp [Value.cells] at hcs
  obtain ⟨rfl, rfl, rfl⟩ := hcs
  exact ⟨none, 0, [], rfl, Nat.le_refl _, Nat.zero_le _, by simp, Ns.nil _ _ _⟩
 ·simp [Value.cells] at hcs
  obtain ⟨rfl, rfl, rfl⟩ := hcs
  have hz' : zs.length = cap := by simpa using hz
  have hlen : (zs.take len).length = len := by rw [List.length_take]; omega
  refine ⟨some x, cap, zs.take len, by rw [hlen], by omega, by omega, fun y hy => hwz y (List.mem_of_mem_take hy), fun h0 => ?_⟩
  obtain ⟨b, off, spot⟩ := x
  have h1 := hcell 0 (by omega)
  have hspot : spot = none := by simpa [Addr.add] using World.cell?_spot h1
  subst hspot
  refine ⟨b, off, rfl, fun j v hv => ?_⟩
  rw [List.getElem?_map] at hv
  rw [List.getElem?_take] at hv
  split at hv
  ·have hj : j < zs.length := by omega
   have := hcell j hj
   have hadd : (⟨b, off, none⟩ : Addr).add j = ⟨b, off + j, none⟩ := by unfold Addr.add; split <;> simp_all
   rw [hadd] at this
   rw [List.getElem?_eq_getElem hj] at hv
   simp only [Option.map_some, Option.some.injEq] at hv
   subst hv
   simpa [List.getD_eq_getElem?_getD, hj] using this
  ·cases hv
end
end Go.VV
namespace Go.Proofs.YtldehodcfajpjaaGreat
open Go Go.VV Go.Proofs Go.RowKit
set_option maxHeartbeats 2000000 in
theorem alone_fn (g : Gm) (s : Int) (hs9 : 0 ≤ s ∧ s < 256) (a : Option Addr) (c : Nat) (l : List Int) (hlw : ∀ x ∈ l, 0 ≤ x ∧ x < 65536) (hlm : l.length ≤ maxLen) (w : World) (hg : g.Ok w) (hN : Ns w .u16 a l) : Does Tryz.prog 4 [.agg (cGm g).toArray, .int .u8 s, .slice a l.length c] w [] (fun v H => H = [] ∧ v = .bool true) := by
 have hl9 : (romG g).length = 65536 := romG_len g
 have hby9 := romG_byts hg
 have hml : maxLen = 9223372036854775807 := by decide
 refine does_of Tryz.func4 rfl rfl rfl (St.refl w) ?_
 refine ZA0 ?_
 rcases (show fewG g = false ∨ (fewG g = true ∧ 60 < l.length) ∨ ((fewG g = true ∧ l.length ≤ 60) ∧ errH (romG g) ≠ 0) ∨ ((fewG g = true ∧ l.length ≤ 60) ∧ errH (romG g) = 0) by cases hf9 : fewG g <;> by_cases he9 : errH (romG g) = 0 <;> simp [he9] <;> omega) with hf9 | ⟨hf9, hl60⟩ | ⟨⟨hf9, hl60⟩, he9⟩ | ⟨⟨hf9, hl60⟩, he9⟩
 ·refine ZAP ?_
  refine ZAt fun b0 => ?_
  refine ZAB ?_
  refine ZBX ?_
  refine ZEv ?_
  refine ZAl ?_
  refine Rl ?_
  refine l_sure true rfl rfl rfl y_bx ?_
  refine L_5 ?_
  refine ZAj ?_
  refine ZAA ?_
  exact ZEh
 ·refine ZAP ?_
  refine ZAt fun b0 => ?_
  refine ZAB ?_
  refine ZBX ?_
  refine ZEv ?_
  refine ZAl ?_
  refine ZCA ?_
  refine L_2 ?_
  refine ZCU ?_
  refine l_sure true rfl rfl rfl (decide_eq_true o_m) ?_
  refine ZAB ?_
  refine ZDu ?_
  refine ZAA ?_
  exact ZEh
 ·refine ZAP ?_
  refine ZAt fun b0 => ?_
  refine ZAB ?_
  refine ZBX ?_
  refine ZEv ?_
  refine ZAl ?_
  refine ZCA ?_
  refine L_2 ?_
  refine ZCU ?_
  refine l_sure false rfl rfl rfl (decide_eq_false o_m) ?_
  refine ZAB ?_
  refine ZAK ?_
  refine c_cut (σ := Nat) [7, 8, 29, 30, 31, 32] (fun s => [(7, .pointer none), (8, .pointer none)]) (fun _ => []) (fun _ => True) ?_ ?_
  ·refine DR [1, 2] (pln [0, 4, 3, 7, 8, 10]) ?_
   refine ZA9 ?_
   refine ZA9 ?_
   refine DZ rfl (x_val call_30 rfl (fun w hw => runN_fn g 0 o_m w (hg.later hw) hf9 he9)) rfl y_bc ?_
   refine DZ rfl (x_val call_30 rfl (fun w hw => runN_fn g 0 o_m w (hg.later hw) hf9 he9)) rfl y_bc ?_
   refine ZCz ?_
   exact ⟨0, trivial, .cons rfl (.cons rfl .nil), a_g, fun _ h => h.sub (List.nil_sublist _)⟩
  ·rintro _ y3 _
   refine ZA1 ?_
   refine ZAf ?_
   refine L_4 ?_
   refine ZAj ?_
   refine ZAV ?_
   refine ZAf ?_
   refine L_2 ?_
   refine ZAf ?_
   exact ZBM
 ·refine ZAP ?_
  refine ZAt fun b0 => ?_
  refine ZAB ?_
  refine ZBX ?_
  refine ZEv ?_
  refine ZAl ?_
  refine ZCA ?_
  refine L_2 ?_
  refine ZCU ?_
  refine l_sure false rfl rfl rfl (decide_eq_false o_m) ?_
  refine ZAB ?_
  refine ZAK ?_
  refine c_cut (σ := MA × Option Addr × Nat × Heap × MA × Option Addr × Nat × Heap) [7, 8, 29, 30, 31, 32] (fun s => [(7, pM s.1), (8, pM s.2.2.2.2.1)]) (fun s => hM s.1 (runM g.plan (newM (romG g)) 0) ++ (hM s.2.2.2.2.1 (runM g.plan (newM (romG g)) 0) ++ (s.2.2.2.1 ++ s.2.2.2.2.2.2.2))) (fun s => s.1.Ok s.2.1 g.plan.length s.2.2.1 ∧ HasP 140 g.plan s.2.1 s.2.2.1 s.2.2.2.1 ∧ s.2.2.2.2.1.Ok s.2.2.2.2.2.1 g.plan.length s.2.2.2.2.2.2.1 ∧ HasP 140 g.plan s.2.2.2.2.2.1 s.2.2.2.2.2.2.1 s.2.2.2.2.2.2.2) ?_ ?_
  ·refine DR [1, 2] (pln [0, 4, 3, 7, 8, 10]) ?_
   refine ZA9 ?_
   refine ZA9 ?_
   refine DX rfl (x_call call_30 rfl (fun w hw => runY_fn g 0 o_m w (hg.later hw) hf9 he9)) rfl y_3 ?_
   rintro _ _ ⟨_, ⟨q, pa1, pc1, G0, hq, hP1, rfl, rfl⟩, rfl⟩
   simp only [List.append_assoc]
   refine DX rfl (x_call call_30 rfl (fun w hw => runY_fn g 0 o_m w (hg.later hw) hf9 he9)) rfl y_3 ?_
   rintro _ _ ⟨_, ⟨r, pa2, pc2, G1, hr, hP2, rfl, rfl⟩, rfl⟩
   simp only [List.append_assoc]
   exact ZEE
  ·rintro ⟨q, pa1, pc1, G0, r, pa2, pc2, G1⟩ y3 ⟨hq, hP1, hr, hP2⟩
   dsimp only at hq hP1 hr hP2 ⊢
   refine ZA1 ?_
   refine ZAd ?_
   refine L_2 ?_
   refine ZAd ?_
   refine ZAB ?_
   refine ZAK ?_
   refine ZA1 ?_
   refine ZA7 ?_
   refine ZBO ?_
   refine c_loop (σ := Nat × Obj × Value × Obj × Value) [6, 9, 10, 11, 12, 13, 14, 15, 48, 49, 50, 51, 52, 53, 54, 55, 56, 57, 58, 59, 60, 61, 62, 63, 64, 65, 66, 67, 68, 69, 70, 71, 72, 73, 74, 75, 76, 77, 78, 79, 80, 81, 82, 83, 84, 85, 86, 87, 88, 89, 90, 91, 92, 93, 94, 95, 96, 97, 98, 99, 100, 101, 102, 103, 104, 105, 106, 107, 108, 109] (fun s => [(48, .int .i64 s.1)]) (fun s => hM ⟨q.A, q.tb, s.2.1, s.2.2.1⟩ (runM g.plan (newM (romG g)) s.1) ++ (hM ⟨r.A, r.tb, s.2.2.2.1, s.2.2.2.2⟩ (runM g.plan (newM (romG g)) s.1) ++ (G0 ++ G1))) (fun s' => s'.1 ≤ (s % 150).toNat ∧ (MA.mk q.A q.tb s'.2.1 s'.2.2.1).Ok pa1 g.plan.length pc1 ∧ (MA.mk r.A r.tb s'.2.2.2.1 s'.2.2.2.2).Ok pa2 g.plan.length pc2) (fun s' => (s % 150).toNat - s'.1) (0, q.oT, q.va, r.oT, r.va) ?_ ?_ ?_ ?_
   ·exact ⟨Nat.zero_le _, hq, hr⟩
   ·exact .cons rfl .nil
   ·exact fun _ h => h
   ·rintro ⟨i, oq, vq, or, vr⟩ y7 ⟨hi, hqi, hri⟩
    dsimp only at hi hqi hri ⊢
    refine ZCI ?_
    refine KC (fun q0 q0n => ?_) (fun q0 q0n => ?_)
    ·refine ZCQ ?_
     refine ZAS ?_
     refine ZAV ?_
     refine RX (x_callMA (F := []) (A := hM (⟨q.A, q.tb, oq, vq⟩ : MA) (runM g.plan (newM (romG g)) i)) (G := _) call_19 rfl (fun w hw hw2 => stepL (⟨q.A, q.tb, oq, vq⟩ : MA) pa1 pc1 g.plan hqi hP1.ok hP1.few (runM g.plan (newM (romG g)) i) (runs_inv hg he9 i) _ w hw (hP1.els (G := G0) hw2 (fun _ h => List.mem_append_right _ (List.mem_append_right [] (List.mem_append_right _ (List.mem_append_left _ h))))) (hP1.off (St.fl [hM (⟨q.A, q.tb, oq, vq⟩ : MA) _, [], hM (⟨r.A, r.tb, or, vr⟩ : MA) _, G0, G1] [0, 3] rfl hw2)))) rfl ?_
     rintro _ _ ⟨_, ⟨oq2, v0, Ga, hq2, rfl, hVq, rfl⟩, rfl⟩
     obtain ⟨aq, cq, rfl⟩ := hVq.slice
     simp only [List.append_assoc, List.nil_append]
     refine ZBQ ?_
     refine ZAq fun b1 => ?_
     refine ZEw ?_
     refine ZEm ?_
     refine c_heap (L' := hM (⟨r.A, r.tb, or, vr⟩ : MA) (runM g.plan (newM (romG g)) i) ++ (hM (⟨q.A, q.tb, oq2, (.slice aq (stepM g.plan (runM g.plan (newM (romG g)) i)).2.acc.length cq)⟩ : MA) (stepM g.plan (runM g.plan (newM (romG g)) i)).2 ++ (Ga ++ ((b1, blk (cDd (stepM g.plan (runM g.plan (newM (romG g)) i)).1) 52) :: (G0 ++ G1))))) (fun _ h => St.fl [[_], Ga, hM (⟨q.A, q.tb, oq2, (.slice aq (stepM g.plan (runM g.plan (newM (romG g)) i)).2.acc.length cq)⟩ : MA) _, hM (⟨r.A, r.tb, or, vr⟩ : MA) _, G0, G1] [3, 2, 1, 0, 4, 5] rfl h) ?_
     refine ZAZ ?_
     refine RX (x_callMA (F := []) (A := hM (⟨r.A, r.tb, or, vr⟩ : MA) (runM g.plan (newM (romG g)) i)) (G := _) call_19 rfl (fun w hw hw2 => stepL (⟨r.A, r.tb, or, vr⟩ : MA) pa2 pc2 g.plan hri hP2.ok hP2.few (runM g.plan (newM (romG g)) i) (runs_inv hg he9 i) _ w hw (hP2.els (G := G1) hw2 (fun _ h => List.mem_append_right _ (List.mem_append_right [] (List.mem_append_right _ (List.mem_append_right _ (.tail _ (List.mem_append_right _ h))))))) (hP2.off (St.fl [hM (⟨r.A, r.tb, or, vr⟩ : MA) _, [], hM (⟨q.A, q.tb, oq2, (.slice aq (stepM g.plan (runM g.plan (newM (romG g)) i)).2.acc.length cq)⟩ : MA) _, Ga, [_], G0, G1] [0, 6] rfl hw2)))) rfl ?_
     rintro _ _ ⟨_, ⟨or2, v0, Gb, hr0, rfl, hVr, rfl⟩, rfl⟩
     obtain ⟨ar, cr, rfl⟩ := hVr.slice
     simp only [List.append_assoc, List.nil_append]
     refine ZBQ ?_
     refine ZD4 fun b2 => ?_
     refine ZEw ?_
     refine ZAB ?_
     refine ZCc ?_
     refine c_heap (L' := hM (⟨q.A, q.tb, oq2, (.slice aq (stepM g.plan (runM g.plan (newM (romG g)) i)).2.acc.length cq)⟩ : MA) (stepM g.plan (runM g.plan (newM (romG g)) i)).2 ++ (hM (⟨r.A, r.tb, or2, (.slice ar (stepM g.plan (runM g.plan (newM (romG g)) i)).2.acc.length cr)⟩ : MA) (stepM g.plan (runM g.plan (newM (romG g)) i)).2 ++ (Ga ++ (Gb ++ ((b1, blk (cDd (stepM g.plan (runM g.plan (newM (romG g)) i)).1) 52) :: (b2, blk (cDd (stepM g.plan (runM g.plan (newM (romG g)) i)).1) 52) :: (G0 ++ G1)))))) (fun _ h => St.fl [[_], Gb, hM (⟨r.A, r.tb, or2, (.slice ar (stepM g.plan (runM g.plan (newM (romG g)) i)).2.acc.length cr)⟩ : MA) _, hM (⟨q.A, q.tb, oq2, (.slice aq (stepM g.plan (runM g.plan (newM (romG g)) i)).2.acc.length cq)⟩ : MA) _, Ga, [_], G0, G1] [3, 2, 4, 1, 5, 0, 6, 7] rfl h) ?_
     have hin := (runs_inv hg he9 i).step hg.plan
     refine ZAZ ?_
     refine ZCU ?_
     refine ZBO ?_
     refine c_loopk (σ := Nat) [14, 63, 64, 65, 66, 67, 68, 69, 70, 71, 72, 73, 74, 75, 76, 77, 78] (fun j => [(63, .int .i64 j)]) (fun j => j ≤ l.length) (fun j => l.length - j) 0 ?_ ?_ ?_
     ·exact Nat.zero_le _
     ·exact .cons rfl .nil
     ·rintro j y12 hj
      refine ZCI ?_
      refine KC (fun q1 q1n => ?_) (fun q1 q1n => ?_)
      ·refine ZCQ ?_
       refine ZAS ?_
       refine ZA0 ?_
       obtain ⟨bp, op, rfl, hrp⟩ := hN.row (i := j) o_m
       obtain ⟨x, hx0⟩ : ∃ x, l[j]? = some x := ⟨_, get_some o_m⟩
       have hlx := hlw _ (List.mem_of_getElem? hx0)
       refine ZAP ?_
       refine ZBQ ?_
       refine RY (idx_slice1 j rfl rfl rfl rfl o_m) rfl ?_
       refine RZ (x_load rfl rfl (at_old (v := .int .u16 x) y_c5 y_z)) rfl ?_
       refine RLv call_25 (fun w hw => peekL hin.wf hw (q := (⟨q.A, q.tb, oq2, (.slice aq (stepM g.plan (runM g.plan (newM (romG g)) i)).2.acc.length cq)⟩ : MA)) (fun _ h => List.mem_append_left _ h) x hlx) ?_
       refine ZAb ?_
       refine ZAP ?_
       refine ZBQ ?_
       refine RY (idx_slice1 j rfl rfl rfl rfl o_m) rfl ?_
       refine RZ (x_load rfl rfl (at_old (v := .int .u16 x) y_c5 y_z)) rfl ?_
       refine RLv call_27 (fun w hw => bankL hin.wf hw (q := (⟨q.A, q.tb, oq2, (.slice aq (stepM g.plan (runM g.plan (newM (romG g)) i)).2.acc.length cq)⟩ : MA)) (fun _ h => List.mem_append_left _ h) x hlx) ?_
       refine ZAb ?_
       refine ZAP ?_
       refine RW (v := (.int .i64 ((j + 1 : Nat) : Int))) rfl rfl (congrArg _ (succ_law o_m)) ?_
       refine ZAB ?_
       exact ⟨j + 1, y_D, y_D, .cons rfl .nil, a_g, fun _ h => h⟩
      ·refine ZBa ?_
       refine c_cut (σ := Nat) [79, 80, 81, 82, 83] (fun _ => []) (fun _ => hM (⟨q.A, q.tb, oq2, (.slice aq (stepM g.plan (runM g.plan (newM (romG g)) i)).2.acc.length cq)⟩ : MA) (stepM g.plan (runM g.plan (newM (romG g)) i)).2 ++ (hM (⟨r.A, r.tb, or2, (.slice ar (stepM g.plan (runM g.plan (newM (romG g)) i)).2.acc.length cr)⟩ : MA) (stepM g.plan (runM g.plan (newM (romG g)) i)).2 ++ (Ga ++ (Gb ++ ((b1, blk (cDd (stepM g.plan (runM g.plan (newM (romG g)) i)).1) 52) :: (b2, blk (cDd (stepM g.plan (runM g.plan (newM (romG g)) i)).1) 52) :: (G0 ++ G1)))))) (fun _ => True) ?_ ?_
       ·refine ZAV ?_
        refine RY (rem_pos rfl rfl y_c) rfl ?_
        refine ZAB ?_
        refine KC (fun q2 q2n => ?_) (fun q2 q2n => ?_)
        ·refine ZAZ ?_
         refine RX (x_callMA (F := []) (A := hM (⟨q.A, q.tb, oq2, (.slice aq (stepM g.plan (runM g.plan (newM (romG g)) i)).2.acc.length cq)⟩ : MA) (stepM g.plan (runM g.plan (newM (romG g)) i)).2) (G := _) call_31 rfl (fun w hw _ => encodeL _ _ hin.wf hin.rg y_dI _ w hw)) rfl ?_
         rintro _ _ ⟨_, ⟨b3, c0, sp0, rfl, hc0, rfl⟩, rfl⟩
         refine ZBw ?_
         refine ZAb ?_
         exact ⟨0, trivial, .nil, a_g, fun _ h => h.sub (.cons _ (List.Sublist.refl _))⟩
        ·refine ZAx ?_
         exact ⟨0, trivial, .nil, a_g, fun _ h => h⟩
       ·rintro _ y17 _
        refine ZAG ?_
        refine RZ (x_loadA rfl rfl rfl (row_own (b := b1) (l := cDd (stepM g.plan (runM g.plan (newM (romG g)) i)).1) y_l)) rfl ?_
        refine RZ (x_loadA rfl rfl rfl (row_own (b := b2) (l := cDd (stepM g.plan (runM g.plan (newM (romG g)) i)).1) y_l)) rfl ?_
        refine ZEs ?_
        refine ZCU ?_
        refine Rl ?_
        refine ZCU ?_
        refine l_sure false rfl rfl rfl y_z ?_
        refine ZAB ?_
        refine ZAK ?_
        refine ZAV ?_
        refine ZCU ?_
        refine ZBO ?_
        refine c_loopk (σ := Nat) [6, 15, 96, 97, 98, 99, 100, 101, 102, 103, 104, 105, 106, 107, 108] (fun k => [(96, .int .i64 k)]) (fun k => k ≤ (stepM g.plan (runM g.plan (newM (romG g)) i)).2.acc.length) (fun k => (stepM g.plan (runM g.plan (newM (romG g)) i)).2.acc.length - k) 0 ?_ ?_ ?_
        ·exact Nat.zero_le _
        ·exact .cons rfl .nil
        ·rintro k y22 hk
         refine ZCI ?_
         refine KC (fun q2 q2n => ?_) (fun q2 q2n => ?_)
         ·refine ZDp ?_
          obtain ⟨bA, cA, sA, ea, rfl, _⟩ := hVq.full o_m
          cases ea
          obtain ⟨bB, cB, sB, eb, rfl, _⟩ := hVr.full o_m
          cases eb
          obtain ⟨x, hx⟩ : ∃ x, (stepM g.plan (runM g.plan (newM (romG g)) i)).2.acc[k]? = some x := ⟨_, get_some o_m⟩
          refine ZCB ?_
          refine ZA0 ?_
          refine DR [4, 5, 6, 7] (pln [0, 2, 4, 6, 8, 10, 12, 14, 16]) ?_
          refine D_2 ?_
          refine DY rfl (idx_slice (s := 3) k rfl rfl rfl rfl o_m) rfl ?_
          refine d_loadA rfl rfl rfl rfl (fun w hw => Row.nth' (off := 0) cAc_len (srow_own (b := bA) (l := flat cAc (stepM g.plan (runM g.plan (newM (romG g)) i)).2.acc ++ sA) y_l w hw).left hx) rfl rfl ?_
          refine D_2 ?_
          refine DY rfl (idx_slice (s := 3) k rfl rfl rfl rfl o_m) rfl ?_
          refine d_loadA rfl rfl rfl rfl (fun w hw => Row.nth' (off := 0) cAc_len (srow_own (b := bB) (l := flat cAc (stepM g.plan (runM g.plan (newM (romG g)) i)).2.acc ++ sB) y_l w hw).left hx) rfl rfl ?_
          refine d_nes (ks := [.int .i64, .int .u16, .int .u8]) rfl rfl rfl y_g y_g rfl rfl rfl rfl (b := false) y_da ?_
          refine ZEb ?_
          refine ZAK ?_
          refine ZAP ?_
          refine RW (v := (.int .i64 ((k + 1 : Nat) : Int))) rfl rfl (congrArg _ (succ_law o_m)) ?_
          refine ZAB ?_
          exact ⟨k + 1, y_D, y_D, .cons rfl .nil, a_g, fun _ h => h⟩
         ·refine ZBa ?_
          refine ZC2 ?_
          exact ⟨(i + 1, oq2, _, or2, _), ⟨y_D, hq2, hr0⟩, by show (s % 150).toNat - (i + 1) < (s % 150).toNat - i; omega, .cons rfl .nil, a_g, fun _ h => St.fl [hM (⟨q.A, q.tb, oq2, (.slice aq (stepM g.plan (runM g.plan (newM (romG g)) i)).2.acc.length cq)⟩ : MA) _, hM (⟨r.A, r.tb, or2, (.slice ar (stepM g.plan (runM g.plan (newM (romG g)) i)).2.acc.length cr)⟩ : MA) _, Ga, Gb, [_], [_], G0, G1] [0, 1, 6, 7] rfl h⟩
    ·refine ZBa ?_
     refine ZA0 ?_
     obtain rfl : i = (s % 150).toNat := by omega
     have hil := runs_inv hg he9 (s % 150).toNat
     refine ZAZ ?_
     refine RX (x_callMA (F := []) (A := hM (⟨q.A, q.tb, oq, vq⟩ : MA) (runM g.plan (newM (romG g)) (s % 150).toNat)) (G := _) call_31 rfl (fun w hw _ => encodeL _ _ hil.wf hil.rg y_dJ _ w hw)) rfl ?_
     rintro _ _ ⟨_, ⟨b1, c0, sp0, rfl, hc0, rfl⟩, rfl⟩
     refine ZBw ?_
     refine Rl ?_
     refine RX (x_callMA (F := (b1, blk ((encA (runM g.plan (newM (romG g)) (s % 150).toNat)).map (Value.int .u8) ++ sp0) 5) :: hM (⟨q.A, q.tb, oq, vq⟩ : MA) (runM g.plan (newM (romG g)) (s % 150).toNat)) (A := hM (⟨r.A, r.tb, or, vr⟩ : MA) (runM g.plan (newM (romG g)) (s % 150).toNat)) (G := G0 ++ G1) call_31 rfl (fun w hw _ => encodeL _ _ hil.wf hil.rg y_dJ _ w hw)) rfl ?_
     rintro _ _ ⟨_, ⟨b2, cx1, sp1, rfl, hc1, rfl⟩, rfl⟩
     simp only [List.cons_append]
     refine RZ (x_val call_32 rfl (fun w hw => same_fn (some ⟨b1, 0, none⟩) (some ⟨b2, 0, none⟩) c0 cx1 (encA (runM g.plan (newM (romG g)) (s % 150).toNat)) (by have := inv_enc hil; omega) w (Ns.of (row_own (b := b1) y_l w hw).left) (Ns.of (row_own (b := b2) y_l w hw).left))) rfl ?_
     exact ZBU
end Go.Proofs.YtldehodcfajpjaaGreat
