/- The law of what is decoded. -/
import Derived.Test.YtldehodcfajpjaaGreatQcZG
import Derived.Test.YtldehodcfajpjaaGreatQcZI
import Derived.Test.YtldehodcfajpjaaGreatQcZJ
set_option linter.unusedSimpArgs false
set_option linter.unusedVariables false
set_option maxRecDepth 100000
set_option maxHeartbeats 4000000
namespace Go.VV
open Go
section
variable {P : Program}
section
variable {e : Env} {d : Option Nat} {t u ty : TypeId} {pos : String} {af : Array Edge} {g : Option (Nat × Bool)} {x y : Operand} {l r : List Value} {ks : List CK}
variable {Γ : Ctx} {H : Heap} {k : Kont} {ops rest : List Oper} {S : World → Prop} {need : List Nat} {pl : Plan} {i : Nat}
theorem l_eqs (hx : vnf (ev e x) = some (.agg ⟨l⟩)) (hy : vnf (ev e y) = some (.agg ⟨r⟩)) (hk : kinds Γ.P 9 t = some ks) (hb : eqsB Γ.P t = true) (h1 : shpB ks l = true) (h2 : shpB ks r = true)
  (hg : gdB ops e ⟨d, .binOp .eql t x y u, ty, pos, af, g⟩ = true) (hd : dstOk Γ.n d = true) {b : Bool} (hv : lveq l r = b) (h : L1 Γ ops rest k (e.put d (.bool b)) H) : L1 Γ ops (⟨d, .binOp .eql t x y u, ty, pos, af, g⟩ :: rest) k e H := by
 subst hv
 exact l_op (K := fun u H' => u = .bool (lveq l r) ∧ H' = H) hg hd (fun w hw => opW_run (run_eqs hx hy hk hb h1 h2 w) ⟨H, hw, rfl, rfl⟩) (by rintro _ _ ⟨rfl, rfl⟩; exact h)
end
end
end Go.VV
namespace Go.VV
open Go Go.RowKit
end Go.VV
namespace Go.VV
open Go
end Go.VV
namespace Go.VV
open Go
end Go.VV
namespace Go.VV
open Go
end Go.VV
namespace Go.Proofs.YtldehodcfajpjaaGreat
open Go Go.VV Go.Proofs
theorem call_38 : callable Tryz.prog 38 = true := by kernel_rfl
end Go.Proofs.YtldehodcfajpjaaGreat
namespace Go.Proofs.YtldehodcfajpjaaGreat
open Go Go.VV
section
variable {R m : Mm} {D : Prop} {plan : List Chg} (hp : ∀ c ∈ plan, ChgOk c)
include hp
theorem stepM_accs (h : MInv R D m) : (stepM plan m).2.acc.length ≤ 1000000 ∧ ∀ e ∈ (stepM plan m).2.acc, (0 ≤ e.addr ∧ e.addr < 65536) ∧ 0 ≤ e.val ∧ e.val < 256 := by
 have hq := step_ok (K := busG R D) (n := 0) (x := (⟨m.cpu, startM plan m⟩ : Rn Mm)) ⟨h.rg, startG hp h⟩
 exact ⟨hq.m.ok.room, hq.m.ok.accs⟩
end
section
variable {plan : List Chg} {R m n : Mm}
theorem EqA.peek (h : EqA m n) (a : Int) : peekM a n = peekM a m := by rw [h]; rfl
end
end Go.Proofs.YtldehodcfajpjaaGreat
namespace Go.Proofs.YtldehodcfajpjaaGreat
open Go Go.VV Go.Proofs Go.RowKit
theorem els_keep {α : Type} {c : α → List Value} {w0 w : World} {ms : List Nat} {H : Heap} {a : Option Addr} {l : List α} (h : Els w0 c a l) (hm : ∀ p, a = some p → p.block ∉ ms) (hw : St w0 ms H w) : Els w c a l := fun hl => by
 obtain ⟨b, off, rfl, hr⟩ := h hl
 exact ⟨b, off, rfl, row_old hr (hm _ rfl) w hw⟩
set_option maxHeartbeats 2000000 in
theorem alike_fn (rom : List Int) (q r : MA) (m n : Mm) (plan : List Chg) (pa1 pa2 : Option Addr) (pc1 pc2 : Nat) (hq : q.Ok pa1 plan.length pc1) (hr : r.Ok pa2 plan.length pc2) (hpo : ∀ c ∈ plan, ChgOk c) (hpl : plan.length ≤ 1000000) (hm : MInv (newM rom) True m) (hn : MInv (newM rom) True n) (he : EqA m n) (k : Nat) (hk9 : k ≤ 1000) (w : World) (hst : St w ((hM q m ++ hM r n).map (·.1)) (hM q m ++ hM r n) w) (hE1 : Els w cChg pa1 plan) (hE2 : Els w cChg pa2 plan) (hp1 : ∀ p, pa1 = some p → p.block ∉ (hM q m ++ hM r n).map (·.1)) (hp2 : ∀ p, pa2 = some p → p.block ∉ (hM q m ++ hM r n).map (·.1)) : Does Tryz.prog 38 [pM q, pM r, .int .i64 k] w ((hM q m ++ hM r n).map (·.1)) (fun v H => H = [] ∧ v = .bool true) := by
 refine does_of Tryz.func38 rfl rfl rfl hst ?_
 refine ZAa ?_
 refine ZBV ?_
 refine c_loop (σ := Nat × Obj × Value × Obj × Value) [6, 7, 8, 9, 10, 11, 14, 15, 16, 17, 18, 19, 20, 21, 22, 23, 24, 25, 26, 27, 28, 29, 30, 31, 32, 33, 34, 35, 36, 37, 38, 39, 40, 41, 42, 43, 44, 45, 46, 47, 48, 49, 50, 51] (fun s => [(14, .int .i64 s.1)]) (fun s => hM ⟨q.A, q.tb, s.2.1, s.2.2.1⟩ (runM plan m s.1) ++ hM ⟨r.A, r.tb, s.2.2.2.1, s.2.2.2.2⟩ (runM plan n s.1)) (fun s => s.1 ≤ k ∧ (MA.mk q.A q.tb s.2.1 s.2.2.1).Ok pa1 plan.length pc1 ∧ (MA.mk r.A r.tb s.2.2.2.1 s.2.2.2.2).Ok pa2 plan.length pc2) (fun s => k - s.1) (0, q.oT, q.va, r.oT, r.va) ?_ ?_ ?_ ?_
 ·exact ⟨Nat.zero_le _, hq, hr⟩
 ·exact .cons rfl .nil
 ·exact fun _ h => h
 ·rintro ⟨i, oq, vq, or, vr⟩ y2 ⟨hi, hqi, hri⟩
  dsimp only at hi hqi hri ⊢
  refine ZCI ?_
  refine KC (fun q0 q0n => ?_) (fun q0 q0n => ?_)
  ·refine ZDp ?_
   have e9 : stepM plan (runM plan n i) = stepM plan (runM plan m i) := (he.run i).step
   refine ZAZ ?_
   refine RX (x_callMA (F := []) (A := hM (⟨q.A, q.tb, oq, vq⟩ : MA) (runM plan m i)) (G := _) call_19 rfl (fun w hw hw2 => stepL (⟨q.A, q.tb, oq, vq⟩ : MA) pa1 pc1 plan hqi hpo hpl (runM plan m i) (hm.run hpo i) _ w hw (els_keep hE1 hp1 hw2) (fun p hp hb => hp1 p hp (by rw [List.map_append]; exact List.mem_append_left _ hb)))) rfl ?_
   rintro _ _ ⟨_, ⟨oq2, v0, Ga, hq2, rfl, hVq, rfl⟩, rfl⟩
   obtain ⟨aq, cq, rfl⟩ := hVq.slice
   simp only [List.append_assoc, List.nil_append]
   refine ZBQ ?_
   refine ZBq fun b0 => ?_
   refine RZ (x_storeTo (l' := cDd (stepM plan (runM plan m i)).1) 0 rfl rfl rfl rfl rfl rfl (Nat.le_of_ble_eq_true rfl) rfl) rfl ?_
   simp only [List.set_cons_zero]
   refine ZEm ?_
   refine c_heap (L' := hM (⟨r.A, r.tb, or, vr⟩ : MA) (runM plan n i) ++ (hM (⟨q.A, q.tb, oq2, (.slice aq (stepM plan (runM plan m i)).2.acc.length cq)⟩ : MA) (stepM plan (runM plan m i)).2 ++ (Ga ++ [(b0, blk (cDd (stepM plan (runM plan m i)).1) 52)]))) (fun _ h => St.fl [[_], Ga, hM (⟨q.A, q.tb, oq2, (.slice aq (stepM plan (runM plan m i)).2.acc.length cq)⟩ : MA) _, hM (⟨r.A, r.tb, or, vr⟩ : MA) _] [3, 2, 1, 0] rfl h) ?_
   refine ZAZ ?_
   refine RX (x_callMA (F := []) (A := hM (⟨r.A, r.tb, or, vr⟩ : MA) (runM plan n i)) (G := _) call_19 rfl (fun w hw hw2 => by have h9 := stepL (⟨r.A, r.tb, or, vr⟩ : MA) pa2 pc2 plan hri hpo hpl (runM plan n i) (hn.run hpo i) _ w hw (els_keep hE2 hp2 hw2) (fun p hp hb => hp2 p hp (by rw [List.map_append]; exact List.mem_append_right _ hb)); rw [e9] at h9; exact h9)) rfl ?_
   rintro _ _ ⟨_, ⟨or2, v0, Gb, hr0, rfl, hVr, rfl⟩, rfl⟩
   obtain ⟨ar, cr, rfl⟩ := hVr.slice
   simp only [List.append_assoc, List.nil_append]
   refine ZBQ ?_
   refine ZAq fun b1 => ?_
   refine RZ (x_storeTo (l' := cDd (stepM plan (runM plan m i)).1) 0 rfl rfl rfl rfl rfl rfl (Nat.le_of_ble_eq_true rfl) rfl) rfl ?_
   simp only [List.set_cons_zero]
   refine ZAB ?_
   refine ZCc ?_
   refine c_heap (L' := hM (⟨q.A, q.tb, oq2, (.slice aq (stepM plan (runM plan m i)).2.acc.length cq)⟩ : MA) (stepM plan (runM plan m i)).2 ++ (hM (⟨r.A, r.tb, or2, (.slice ar (stepM plan (runM plan m i)).2.acc.length cr)⟩ : MA) (stepM plan (runM plan m i)).2 ++ (Ga ++ (Gb ++ [(b0, blk (cDd (stepM plan (runM plan m i)).1) 52), (b1, blk (cDd (stepM plan (runM plan m i)).1) 52)])))) (fun _ h => St.fl [[_], Gb, hM (⟨r.A, r.tb, or2, (.slice ar (stepM plan (runM plan m i)).2.acc.length cr)⟩ : MA) _, hM (⟨q.A, q.tb, oq2, (.slice aq (stepM plan (runM plan m i)).2.acc.length cq)⟩ : MA) _, Ga, [_]] [3, 2, 4, 1, 5, 0] rfl h) ?_
   refine ZAP ?_
   refine RZ (x_loadA rfl rfl rfl (row_own (b := b0) (l := cDd (stepM plan (runM plan m i)).1) y_l)) rfl ?_
   refine RZ (x_loadA rfl rfl rfl (row_own (b := b1) (l := cDd (stepM plan (runM plan m i)).1) y_l)) rfl ?_
   refine ZEs ?_
   refine ZCU ?_
   refine Rl ?_
   refine ZCU ?_
   refine l_sure false rfl rfl rfl y_z ?_
   refine ZAB ?_
   refine ZAK ?_
   refine ZAV ?_
   refine ZCU ?_
   refine ZBO ?_
   refine c_loopk (σ := Nat) [6, 11, 38, 39, 40, 41, 42, 43, 44, 45, 46, 47, 48, 49, 50] (fun j => [(38, .int .i64 j)]) (fun j => j ≤ (stepM plan (runM plan m i)).2.acc.length) (fun j => (stepM plan (runM plan m i)).2.acc.length - j) 0 ?_ ?_ ?_
   ·exact Nat.zero_le _
   ·exact .cons rfl .nil
   ·rintro j y8 hj
    refine ZCI ?_
    refine KC (fun q1 q1n => ?_) (fun q1 q1n => ?_)
    ·refine ZDp ?_
     have hal := (stepM_accs hpo (hm.run hpo i)).1
     obtain ⟨bA, cA, sA, ea, rfl, _⟩ := hVq.full o_m
     cases ea
     obtain ⟨bB, cB, sB, eb, rfl, _⟩ := hVr.full o_m
     cases eb
     obtain ⟨x, hx⟩ : ∃ x, (stepM plan (runM plan m i)).2.acc[j]? = some x := ⟨_, get_some o_m⟩
     refine ZCB ?_
     refine ZA0 ?_
     refine DR [4, 5, 6, 7] (pln [0, 2, 4, 6, 8, 10, 12, 14, 16]) ?_
     refine D_2 ?_
     refine DY rfl (idx_slice (s := 3) j rfl rfl rfl rfl o_m) rfl ?_
     refine d_loadA rfl rfl rfl rfl (fun w hw => Row.nth' (off := 0) cAc_len (srow_own (b := bA) (l := flat cAc (stepM plan (runM plan m i)).2.acc ++ sA) y_l w hw).left hx) rfl rfl ?_
     refine D_2 ?_
     refine DY rfl (idx_slice (s := 3) j rfl rfl rfl rfl o_m) rfl ?_
     refine d_loadA rfl rfl rfl rfl (fun w hw => Row.nth' (off := 0) cAc_len (srow_own (b := bB) (l := flat cAc (stepM plan (runM plan m i)).2.acc ++ sB) y_l w hw).left hx) rfl rfl ?_
     refine d_nes (ks := [.int .i64, .int .u16, .int .u8]) rfl rfl rfl y_g y_g rfl rfl rfl rfl (b := false) y_da ?_
     refine ZEb ?_
     refine ZAK ?_
     refine ZAP ?_
     refine RW (v := (.int .i64 ((j + 1 : Nat) : Int))) rfl rfl (congrArg _ (succ_law o_m)) ?_
     refine ZAB ?_
     exact ⟨j + 1, y_D, y_D, .cons rfl .nil, a_g, fun _ h => h⟩
    ·refine ZBa ?_
     refine ZC2 ?_
     exact ⟨(i + 1, oq2, _, or2, _), ⟨y_D, hq2, hr0⟩, by show k - (i + 1) < k - i; omega, .cons rfl .nil, a_g, fun _ h => (St.fl [hM (⟨q.A, q.tb, oq2, (.slice aq (stepM plan (runM plan m i)).2.acc.length cq)⟩ : MA) _, hM (⟨r.A, r.tb, or2, (.slice ar (stepM plan (runM plan m i)).2.acc.length cr)⟩ : MA) _, Ga, Gb, [_, _]] [0, 1] rfl h).as (by show _ = hM _ _ ++ hM _ (stepM plan (runM plan n i)).2; rw [e9]; rfl)⟩
  ·refine ZBa ?_
   refine ZCc ?_
   have hik : i = k := by omega
   subst hik
   have him := hm.run hpo i
   have hin := hn.run hpo i
   have hcp : (runM plan n i).cpu = (runM plan m i).cpu := by rw [he.run i]
   refine ZAP ?_
   refine ZBO ?_
   refine c_loopk (σ := Nat) [6, 12, 52, 53, 54, 55, 56, 57, 58, 59, 60, 61, 62, 63, 64] (fun j => [(12, .int .i64 ((65280 + j : Nat) : Int))]) (fun j => j ≤ 256) (fun j => 256 - j) 0 ?_ ?_ ?_
   ·exact Nat.zero_le _
   ·exact .cons rfl .nil
   ·rintro j y15 hj
    refine ZAz ?_
    refine KC (fun q1 q1n => ?_) (fun q1 q1n => ?_)
    ·refine ZCQ ?_
     refine ZAU ?_
     refine RW (v := (.int .u16 (65280 + j))) rfl rfl ((as_u16 o_m o_m).trans (congrArg _ o_m)) ?_
     refine RZ (x_val call_25 rfl (fun w hw => peekL him.wf hw (q := (⟨q.A, q.tb, oq, vq⟩ : MA)) (fun _ h => List.mem_append_left _ h) (65280 + j) o_m)) rfl ?_
     refine L_2 ?_
     refine RW (v := (.int .u16 (65280 + j))) rfl rfl ((as_u16 o_m o_m).trans (congrArg _ o_m)) ?_
     refine RZ (x_val call_25 rfl (fun w hw => peekL hin.wf hw (q := (⟨r.A, r.tb, or, vr⟩ : MA)) (fun _ h => List.mem_append_right _ h) (65280 + j) o_m)) rfl ?_
     rw [(he.run i).peek]
     refine l_sure false rfl rfl rfl y_z ?_
     refine ZBL ?_
     refine ZAZ ?_
     refine RW (v := (.int .i64 ((65280 + (j + 1) : Nat) : Int))) rfl rfl (congrArg _ ((wrap_i64 o_m o_m).trans o_m)) ?_
     refine ZAB ?_
     exact ⟨j + 1, y_D, y_D, .cons rfl .nil, a_g, fun _ h => h⟩
    ·refine ZBa ?_
     refine ZAV ?_
     refine RLv call_23 (fun w hw => stateL him.wf hw (q := (⟨q.A, q.tb, oq, vq⟩ : MA)) (fun _ h => List.mem_append_left _ h)) ?_
     refine Rl ?_
     refine RLv call_23 (fun w hw => stateL hin.wf hw (q := (⟨r.A, r.tb, or, vr⟩ : MA)) (fun _ h => List.mem_append_right _ h)) ?_
     rw [hcp]
     refine l_eqs (ks := [.int .u8, .int .u8, .int .u8, .int .u8, .int .u8, .int .u8, .int .u8, .int .u8, .int .u16, .int .u16, .bool, .bool, .bool, .bool]) rfl rfl y_g y_g rfl rfl rfl rfl (b := true) (lveq_refl (ks := [.int .u8, .int .u8, .int .u8, .int .u8, .int .u8, .int .u8, .int .u8, .int .u8, .int .u16, .int .u16, .bool, .bool, .bool, .bool]) rfl) ?_
     refine L_2 ?_
     refine RX (x_callMA (F := []) (A := hM (⟨q.A, q.tb, oq, vq⟩ : MA) (runM plan m i)) (G := _) call_31 rfl (fun w hw _ => encodeL _ _ him.wf him.rg (by have := inv_ram (R := newM rom) him; omega) _ w hw)) rfl ?_
     rintro _ _ ⟨_, ⟨b0, c0, sp0, rfl, hc0, rfl⟩, rfl⟩
     refine ZBw ?_
     refine Rl ?_
     refine l_heap (fun _ h => h) (H' := ((b0, blk ((encA (runM plan m i)).map (Value.int .u8) ++ sp0) 5) :: hM (⟨q.A, q.tb, oq, vq⟩ : MA) (runM plan m i)) ++ (hM (⟨r.A, r.tb, or, vr⟩ : MA) (runM plan n i) ++ [])) ?_
     refine RX (x_callMA (F := (b0, blk ((encA (runM plan m i)).map (Value.int .u8) ++ sp0) 5) :: hM (⟨q.A, q.tb, oq, vq⟩ : MA) (runM plan m i)) (A := hM (⟨r.A, r.tb, or, vr⟩ : MA) (runM plan n i)) (G := []) call_31 rfl (fun w hw _ => encodeL _ _ hin.wf hin.rg (by have := inv_ram (R := newM rom) hin; omega) _ w hw)) rfl ?_
     rintro _ _ ⟨_, ⟨b1, cx1, sp1, rfl, hc1, rfl⟩, rfl⟩
     refine ZBw ?_
     rw [(he.run i).enc] at hc1 ⊢
     refine RZ (x_val call_32 rfl (fun w hw => same_fn (some ⟨b0, 0, none⟩) (some ⟨b1, 0, none⟩) c0 cx1 (encA (runM plan m i)) (by have := inv_enc him; omega) w (Ns.of (row_own (b := b0) y_l w hw).left) (Ns.of (row_own (b := b1) y_l w hw).left))) rfl ?_
     exact ZBM
set_option maxHeartbeats 2000000 in
theorem mback_fn (g : Gm) (a b c : Int) (ha9 : 0 ≤ a ∧ a < 256) (hb9 : 0 ≤ b ∧ b < 256) (hc9 : 0 ≤ c ∧ c < 256) (w : World) (hg : g.Ok w) : Does Tryz.prog 6 [.agg (cGm g).toArray, .int .u8 a, .int .u8 b, .int .u8 c] w [] (fun v H => H = [] ∧ v = .bool true) := by
 have hl9 : (romG g).length = 65536 := romG_len g
 have hby9 := romG_byts hg
 refine does_of Tryz.func6 rfl rfl rfl (St.refl w) ?_
 refine ZA0 ?_
 rcases (show (fewG g = false) ∨ (fewG g = true ∧ errH (romG g) ≠ 0) ∨ (fewG g = true ∧ errH (romG g) = 0) by cases hf9 : fewG g <;> by_cases he9 : errH (romG g) = 0 <;> simp [he9]) with hf9 | ⟨hf9, he9⟩ | ⟨hf9, he9⟩
 ·refine ZAP ?_
  refine ZAt fun b0 => ?_
  refine ZAB ?_
  refine ZBX ?_
  refine ZEv ?_
  refine ZAl ?_
  refine Rl ?_
  refine l_sure true rfl rfl rfl y_bx ?_
  refine ZAj ?_
  refine ZAA ?_
  exact ZEh
 ·refine ZAP ?_
  refine ZAt fun b0 => ?_
  refine ZAB ?_
  refine ZBX ?_
  refine ZEv ?_
  refine ZAl ?_
  refine ZCA ?_
  refine ZBL ?_
  refine c_cut (σ := Nat) [9, 10, 20, 21, 22, 23, 24, 25, 26, 27, 28, 29] (fun s => [(9, .pointer none), (10, .pointer none)]) (fun _ => []) (fun _ => True) ?_ ?_
  ·refine DR [1, 2, 3, 4, 5, 6, 7, 8] (pln [0, 2, 4, 6, 10, 12, 14, 16, 9, 19, 20, 22]) ?_
   refine ZA9 ?_
   refine RD ?_
   refine ZEJ ?_
   refine ZA9 ?_
   refine RD ?_
   refine ZEK ?_
   refine DZ rfl (x_val call_30 rfl (fun w hw => runN_fn g (a % 150).toNat o_m w (hg.later hw) hf9 he9)) rfl y_bc ?_
   refine DZ rfl (x_val call_30 rfl (fun w hw => runN_fn g (c % 150).toNat o_m w (hg.later hw) hf9 he9)) rfl y_bc ?_
   refine ZCz ?_
   exact ⟨0, trivial, .cons rfl (.cons rfl .nil), a_g, fun _ h => h.sub (List.nil_sublist _)⟩
  ·rintro _ y3 _
   refine ZA1 ?_
   refine ZAf ?_
   refine L_4 ?_
   refine ZAj ?_
   refine ZAV ?_
   refine ZAf ?_
   refine L_2 ?_
   refine ZAf ?_
   exact ZBM
 ·refine ZAP ?_
  refine ZAt fun b0 => ?_
  refine ZAB ?_
  refine ZBX ?_
  refine ZEv ?_
  refine ZAl ?_
  refine ZCA ?_
  refine ZBL ?_
  refine c_cut (σ := MA × Option Addr × Nat × Heap × MA × Option Addr × Nat × Heap) [9, 10, 20, 21, 22, 23, 24, 25, 26, 27, 28, 29] (fun s => [(9, pM s.1), (10, pM s.2.2.2.2.1)]) (fun s => hM s.1 (runM g.plan (newM (romG g)) (a % 150).toNat) ++ (hM s.2.2.2.2.1 (runM g.plan (newM (romG g)) (c % 150).toNat) ++ (s.2.2.2.1 ++ s.2.2.2.2.2.2.2))) (fun s => s.1.Ok s.2.1 g.plan.length s.2.2.1 ∧ HasP 140 g.plan s.2.1 s.2.2.1 s.2.2.2.1 ∧ s.2.2.2.2.1.Ok s.2.2.2.2.2.1 g.plan.length s.2.2.2.2.2.2.1 ∧ HasP 140 g.plan s.2.2.2.2.2.1 s.2.2.2.2.2.2.1 s.2.2.2.2.2.2.2) ?_ ?_
  ·refine DR [1, 2, 3, 4, 5, 6, 7, 8] (pln [0, 2, 4, 6, 10, 12, 14, 16, 9, 19, 20, 22]) ?_
   refine ZA9 ?_
   refine RD ?_
   refine ZEJ ?_
   refine ZA9 ?_
   refine RD ?_
   refine ZEK ?_
   refine DX rfl (x_call call_30 rfl (fun w hw => runY_fn g (a % 150).toNat o_m w (hg.later hw) hf9 he9)) rfl y_3 ?_
   rintro _ _ ⟨_, ⟨q, pa1, pc1, G0, hq, hP1, rfl, rfl⟩, rfl⟩
   simp only [List.append_assoc]
   refine DX rfl (x_call call_30 rfl (fun w hw => runY_fn g (c % 150).toNat o_m w (hg.later hw) hf9 he9)) rfl y_3 ?_
   rintro _ _ ⟨_, ⟨r, pa2, pc2, G1, hr, hP2, rfl, rfl⟩, rfl⟩
   simp only [List.append_assoc]
   exact ZEE
  ·rintro ⟨q, pa1, pc1, G0, r, pa2, pc2, G1⟩ y3 ⟨hq, hP1, hr, hP2⟩
   dsimp only at hq hP1 hr hP2 ⊢
   have hia := runs_inv hg he9 (a % 150).toNat
   have hic := runs_inv hg he9 (c % 150).toNat
   obtain ⟨eb1, eb2⟩ := back_law hia hic
   have hin := hia.acc_ []
   refine ZA1 ?_
   refine ZAd ?_
   refine L_2 ?_
   refine ZAd ?_
   refine ZAB ?_
   refine ZAK ?_
   refine ZAU ?_
   refine RX (x_callMA (F := []) (A := hM q (runM g.plan (newM (romG g)) (a % 150).toNat)) (G := _) call_31 rfl (fun w hw _ => encodeL _ _ hia.wf hia.rg y_dK _ w hw)) rfl ?_
   rintro _ _ ⟨_, ⟨b1, c0, sp0, rfl, hc0, rfl⟩, rfl⟩
   refine ZBw ?_
   refine RX (x_callMA (F := (b1, blk ((encA (runM g.plan (newM (romG g)) (a % 150).toNat)).map (Value.int .u8) ++ sp0) 5) :: hM q (runM g.plan (newM (romG g)) (a % 150).toNat)) (A := hM r (runM g.plan (newM (romG g)) (c % 150).toNat)) (G := G0 ++ G1) call_37 rfl (fun w hw hw2 => decodeL r hr _ hic.wf hic.rg (by have := inv_ram (R := newM (romG g)) hic; omega) (some ⟨b1, 0, none⟩) c0 (encA (runM g.plan (newM (romG g)) (a % 150).toNat)) (encA_byts hia.wf) (by have := inv_enc hia; omega) hc0 _ w hw (Ns.of (row_own (b := b1) (List.mem_append_right _ (.head _)) w hw2).left) (fun p hp => by cases hp; exact st_off (o := blk ((encA (runM g.plan (newM (romG g)) (a % 150).toNat)).map (Value.int .u8) ++ sp0) 5) hw2 (.head _)))) rfl ?_
   rintro _ _ ⟨_, ⟨rfl, A2, va0, hr0, hmb, rfl⟩, rfl⟩
   rw [← eb1, eb2, show pM r = pM (⟨A2, r.tb, r.oT, va0⟩ : MA) by unfold pM; rw [← hmb]]
   simp only [List.cons_append]
   refine ZEm ?_
   refine c_heap (L' := hM q (runM g.plan (newM (romG g)) (a % 150).toNat) ++ (hM (⟨A2, r.tb, r.oT, va0⟩ : MA) ({ (runM g.plan (newM (romG g)) (a % 150).toNat) with acc := [] } : Mm) ++ ((b1, blk ((encA (runM g.plan (newM (romG g)) (a % 150).toNat)).map (Value.int .u8) ++ sp0) 5) :: (G0 ++ G1)))) (fun _ h => St.fl [[_], hM q _, hM (⟨A2, r.tb, r.oT, va0⟩ : MA) ({ (runM g.plan (newM (romG g)) (a % 150).toNat) with acc := [] } : Mm), G0, G1] [1, 2, 0, 3, 4] rfl h) ?_
   refine ZAZ ?_
   refine ZAf ?_
   refine L_2 ?_
   refine RX (x_callMA (F := []) (A := hM q (runM g.plan (newM (romG g)) (a % 150).toNat)) (G := _) call_31 rfl (fun w hw _ => encodeL _ _ hia.wf hia.rg y_dK _ w hw)) rfl ?_
   rintro _ _ ⟨_, ⟨b2, cx1, sp1, rfl, hc1, rfl⟩, rfl⟩
   refine ZBw ?_
   refine Rl ?_
   refine RX (x_callMA (F := (b2, blk ((encA (runM g.plan (newM (romG g)) (a % 150).toNat)).map (Value.int .u8) ++ sp1) 5) :: hM q (runM g.plan (newM (romG g)) (a % 150).toNat)) (A := hM (⟨A2, r.tb, r.oT, va0⟩ : MA) ({ (runM g.plan (newM (romG g)) (a % 150).toNat) with acc := [] } : Mm)) (G := _) call_31 rfl (fun w hw _ => encodeL _ _ hin.wf hin.rg y_dI _ w hw)) rfl ?_
   rintro _ _ ⟨_, ⟨b3, c2, sp2, rfl, hc2, rfl⟩, rfl⟩
   refine ZBw ?_
   refine RZ (x_val call_32 rfl (fun w hw => same_fn (some ⟨b2, 0, none⟩) (some ⟨b3, 0, none⟩) cx1 c2 (encA (runM g.plan (newM (romG g)) (a % 150).toNat)) (by have := inv_enc hia; omega) w (Ns.of (row_own (b := b2) y_l w hw).left) (Ns.of (row_own (b := b3) y_l w hw).left))) rfl ?_
   refine Rl ?_
   refine ZAf ?_
   refine Rl ?_
   refine RLv call_29 (fun w hw => stepsL hin.wf hw (q := ⟨A2, r.tb, r.oT, va0⟩) (fun _ h => .tail _ (List.mem_append_right _ (.tail _ (List.mem_append_left _ h))))) ?_
   refine Rl ?_
   refine RLv call_29 (fun w hw => stepsL hia.wf hw (q := q) (fun _ h => .tail _ (List.mem_append_left _ h))) ?_
   refine l_sure true rfl rfl rfl y_z ?_
   refine ZBQ ?_
   refine RLv call_24 (fun w hw => cyclesL hin.wf hw (q := ⟨A2, r.tb, r.oT, va0⟩) (fun _ h => .tail _ (List.mem_append_right _ (.tail _ (List.mem_append_left _ h))))) ?_
   refine Rl ?_
   refine RLv call_24 (fun w hw => cyclesL hia.wf hw (q := q) (fun _ h => .tail _ (List.mem_append_left _ h))) ?_
   refine l_sure true rfl rfl rfl y_z ?_
   iterate 5 refine Rl ?_
   refine RW (v := (.int .i64 b)) rfl rfl (as_i64 o_m o_m) ?_
   refine RW (v := (.int .i64 ((b % 150).toNat : Int))) (rem_pos rfl rfl y_c) rfl (congrArg _ ((Int.tmod_eq_emod_of_nonneg o_m).trans o_m)) ?_
   refine l_heap (fun _ h => (St.fl [[_], hM q _, [_], hM (⟨A2, r.tb, r.oT, va0⟩ : MA) ({ (runM g.plan (newM (romG g)) (a % 150).toNat) with acc := [] } : Mm), [_], G0, G1] [1, 3, 5, 6] rfl h).as (by simp only [List.filterMap_cons, List.filterMap_nil, List.getElem?_cons_zero, List.getElem?_cons_succ, VV.fl, List.append_assoc])) (H' := (hM q (runM g.plan (newM (romG g)) (a % 150).toNat) ++ hM (⟨A2, r.tb, r.oT, va0⟩ : MA) ({ (runM g.plan (newM (romG g)) (a % 150).toNat) with acc := [] } : Mm)) ++ (G0 ++ G1)) ?_
   refine RX (x_callMA (F := []) (A := hM q (runM g.plan (newM (romG g)) (a % 150).toNat) ++ hM (⟨A2, r.tb, r.oT, va0⟩ : MA) ({ (runM g.plan (newM (romG g)) (a % 150).toNat) with acc := [] } : Mm)) (G := G0 ++ G1) call_38 rfl (fun w hw hw2 => alike_fn (romG g) q ⟨A2, r.tb, r.oT, va0⟩ _ ({ (runM g.plan (newM (romG g)) (a % 150).toNat) with acc := [] } : Mm) g.plan pa1 pa2 pc1 pc2 hq hr0 hP1.ok hP1.few hia hin rfl (b % 150).toNat o_m w hw (hP1.els hw2 (fun _ h => List.mem_append_right _ (List.mem_append_right [] (List.mem_append_left _ h)))) (hP2.els hw2 (fun _ h => List.mem_append_right _ (List.mem_append_right [] (List.mem_append_right _ h)))) (hP1.off (St.fl [hM q _ ++ hM (⟨A2, r.tb, r.oT, va0⟩ : MA) ({ (runM g.plan (newM (romG g)) (a % 150).toNat) with acc := [] } : Mm), [], G0, G1] [0, 2] rfl hw2)) (hP2.off (St.fl [hM q _ ++ hM (⟨A2, r.tb, r.oT, va0⟩ : MA) ({ (runM g.plan (newM (romG g)) (a % 150).toNat) with acc := [] } : Mm), [], G0, G1] [0, 3] rfl hw2)))) rfl ?_
   refine ZCN ?_
   exact ZBM
end Go.Proofs.YtldehodcfajpjaaGreat
