/- Parts. -/
import Derived.Test.YtacejanlmhbddaaGreatQfJ
set_option maxRecDepth 100000
set_option maxHeartbeats 1000000
set_option linter.all false
namespace Go.Proofs.YtacejanlmhbddaaGreat
open Go Go.VV Go.Proofs Go.RowKit Go.Proofs.Tryz
def aOL (o : Opr) (b : Nat) (a f : Int) (ha : 0 ≤ a ∧ a < 256) (hf : 0 ≤ f ∧ f < 256) (w : AI) (hr : Row w b 0 (cO o)) : aB prog 214 [.int .u8 a, .int .u8 f, P_ b] w [] (V_ (.tuple #[.int .u8 (eC o.x a f), .int .u8 (iJ o.x a f)])) := by
 refine dR_ func214 ?_
 refine ZEf ?_
 refine RZ (aE rfl rfl (aV (hr 1 _ rfl) y_r)) rfl (ZAl ?_)
 refine RLv K_ (wQ_ (aHK o.x a f ha hf)) ?_
 refine ZBn ?_
 exact aG (fun _ _ => eU rfl rfl) ⟨rfl, rfl⟩
def rbytes_fn {β : Type} (K : kF prog β) (rb : Nat) {bn : Nat} (x : Rn β) (h : RunOk K.toaVh (bn + 2) x) (G : aC) (hG : K.rep x.m G) (o : Opr) (ho : oM o) (w : AI) (hst : St w (rb :: G.map (·.1)) ((rb, blk (cN K x.s) 321) :: G) w) : aB prog 194 [P_ rb, .agg (cO o).toArray] w (rb :: G.map (·.1)) (fun v H => v = .bool (isB o.kind) ∧ qO K rb (fE K.toaVg o x) H) := by
 have hn9 := ho.n
 have hgy9 := h.gett o.y
 have hgx9 := h.gett o.x
 have ha9 := h.r.a
 have hf9 := h.r.f
 refine dO_ func194 hst ?_
 refine ZDi ?_
 refine ZAq fun b0 => ?_
 refine ZA1 ?_
 refine DR [6, 7, 8, 9] (pln [0, 2, 4, 6, 8, 10, 12, 14, 16, 18, 20]) ?_
 refine ZEf ?_
 refine ZBV ?_
 refine A_15 ?_
 refine KC (fun q0 z0 => ?_) (fun q0 z0 => ?_)
 ·refine ZDC ?_
  refine ZBO fun G0 hG0 => ?_
  refine DX rfl (aR (F := [(b0, _)]) (A := (rb, _) :: _) K_ rfl (wL_ (wU K rb (x.mem (gett K.toaVg o.y x).2.m) (h.gmem o.y) G0 hG0 o.x (gett K.toaVg o.y x).1 hgy9.2))) rfl n_h (ZBk fun G1 hG1 => ?_)
  refine ZBn ?_
  have e9 : fE K.toaVg o x = sett K.toaVg o.x (gett K.toaVg o.y x).1 (x.mem (gett K.toaVg o.y x).2.m) := by unfold fE; rw [if_pos o_m]; rw [← pH]
  exact EV rfl (.cons _ sR_) ⟨cA_ Value.bool (ah o_m : isB o.kind = true).symm, G1, y_t, y_0⟩
 refine ZBb ?_
 refine KC (fun q1 z1 => ?_) (fun q1 z1 => ?_)
 ·refine ZBb ?_
  refine RX (aR (F := [(b0, _)]) (A := (rb, _) :: _) K_ rfl (wL_ (wU K rb x h G hG o.x (o.n % 256) o_m))) rfl (ZAg fun G0 hG0 => ?_)
  refine ZBn ?_
  have e9 : fE K.toaVg o x = sett K.toaVg o.x (o.n % 256) x := by unfold fE; rw [if_neg o_m]; rw [if_pos o_m]
  exact EV rfl (.cons _ sR_) ⟨cA_ Value.bool (ah o_m : isB o.kind = true).symm, G0, y_t, y_X⟩
 refine ZBb ?_
 refine KC (fun q2 z2 => ?_) (fun q2 z2 => ?_)
 ·refine ZDC ?_
  refine ZBO fun G0 hG0 => ?_
  refine DX rfl (aR (F := [(b0, _)]) (A := (rb, _) :: _) K_ rfl (wL_ (aHM K rb (x.mem (gett K.toaVg o.y x).2.m) (h.gmem o.y) G0 hG0 o.x (gett K.toaVg o.y x).1 hgy9.2))) rfl n_h (ZBk fun G1 hG1 => ?_)
  refine ZBn ?_
  have e9 : fE K.toaVg o x = (x.mem (gett K.toaVg o.y x).2.m).reg (jE x.s.r o.x (gett K.toaVg o.y x).1) := by unfold fE; (iterate 2 rw [if_neg o_m]); rw [if_pos o_m]; rw [← pH, aMl]
  exact EV rfl (.cons _ sR_) ⟨cA_ Value.bool (ah o_m : isB o.kind = true).symm, G1, y_t, y_0⟩
 refine ZBb ?_
 refine KC (fun q3 z3 => ?_) (fun q3 z3 => ?_)
 ·refine ZBb ?_
  refine RX (aR (F := [(b0, _)]) (A := (rb, _) :: _) K_ rfl (wL_ (aHM K rb x h G hG o.x (o.n % 256) o_m))) rfl (ZAg fun G0 hG0 => ?_)
  refine ZBn ?_
  have e9 : fE K.toaVg o x = x.reg (jE x.s.r o.x (o.n % 256)) := by unfold fE; (iterate 3 rw [if_neg o_m]); rw [if_pos o_m]
  exact EV rfl (.cons _ sR_) ⟨cA_ Value.bool (ah o_m : isB o.kind = true).symm, G0, y_t, y_X⟩
 refine ZBb ?_
 refine KC (fun q4 z4 => ?_) (fun q4 z4 => ?_)
 ·refine ZBr ?_
  refine RX (aR (F := [(b0, _)]) (A := (rb, _) :: _) K_ rfl (fun w hw => zA K rb x (h.le o_m : RunOk K.toaVh (bn + 2) x) G hG o.x 212 [] [] K_ (fun v f => (aAt v, aI2 v f)) (fun a f ha hf => ⟨aHD, kU _ _ _ _⟩) w (St.lentV hw) (fun w' _ a f _ ha hf => aTt a f ha hf w'))) rfl (ZAg fun G0 hG0 => ?_)
  refine ZBn ?_
  have e9 : fE K.toaVg o x = change K.toaVg o.x (fun v f => (aAt v, aI2 v f)) x := by unfold fE; (iterate 4 rw [if_neg o_m]); rw [if_pos o_m]
  exact EV rfl (.cons _ sR_) ⟨cA_ Value.bool (ah o_m : isB o.kind = true).symm, G0, y_t, y_X⟩
 refine ZBb ?_
 refine KC (fun q5 z5 => ?_) (fun q5 z5 => ?_)
 ·refine ZBr ?_
  refine RX (aR (F := [(b0, _)]) (A := (rb, _) :: _) K_ rfl (fun w hw => zA K rb x (h.le o_m : RunOk K.toaVh (bn + 2) x) G hG o.x 213 [] [] K_ (fun v f => (aAr v, aIk v f)) (fun a f ha hf => ⟨aHN, kU _ _ _ _⟩) w (St.lentV hw) (fun w' _ a f _ ha hf => aPU a f ha hf w'))) rfl (ZAg fun G0 hG0 => ?_)
  refine ZBn ?_
  have e9 : fE K.toaVg o x = change K.toaVg o.x (fun v f => (aAr v, aIk v f)) x := by unfold fE; (iterate 5 rw [if_neg o_m]); rw [if_pos o_m]
  exact EV rfl (.cons _ sR_) ⟨cA_ Value.bool (ah o_m : isB o.kind = true).symm, G0, y_t, y_X⟩
 refine ZBb ?_
 refine KC (fun q6 z6 => ?_) (fun q6 z6 => ?_)
 ·refine ZBr ?_
  refine RW (v := (.func (.func 214) (List.toArray []) (List.toArray [P_ b0]))) rfl rfl y_by (RX (aR (F := [(b0, _)]) (A := (rb, _) :: _) K_ rfl (fun w hw => zA K rb x (h.le o_m : RunOk K.toaVh (bn + 2) x) G hG o.y 214 [] [P_ b0] K_ (fun v f => (eC o.x v f, iJ o.x v f)) (fun a f ha hf => ⟨aBI ha, kU _ _ _ _⟩) w (St.lentV hw) (fun w' H' a f hw' ha hf => aOL o b0 a f ha hf w' (aN (aA (l := cO o) (mR_ _ (.head _)) w hw) (St.notin hw (.head _)) w' hw')))) rfl (ZAg fun G0 hG0 => ?_))
  refine ZBn ?_
  have e9 : fE K.toaVg o x = change K.toaVg o.y (fun v f => (eC o.x v f, iJ o.x v f)) x := by unfold fE; (iterate 6 rw [if_neg o_m]); rw [if_pos o_m]
  exact EV rfl (.cons _ sR_) ⟨cA_ Value.bool (ah o_m : isB o.kind = true).symm, G0, y_t, y_X⟩
 refine ZBb ?_
 refine KC (fun q7 z7 => ?_) (fun q7 z7 => ?_)
 ·refine ZBL ?_
  refine DR [3, 4, 5, 6, 7, 8, 9] (pln [0, 2, 4, 6, 8, 10, 12, 14, 16, 18, 21, 22, 24, 26, 28, 30, 32, 34, 37, 38]) ?_
  refine A_10 ?_
  refine DZ rfl (bJ K_ rfl (wQ_ (aHK o.x x.s.r.a x.s.r.f h.r.a h.r.f))) rfl n_h (ZBy ?_)
  refine ZBn ?_
  refine DZ rfl (xS_ (l' := cN K { x.s with r := { x.s.r with a := eC o.x x.s.r.a x.s.r.f } }) 1) rfl n_h (c_u ?_)
  refine ZBb ?_
  refine RW (v := (.int .u8 (fl false false false (turnO o.x x.s.r.a)))) (bE rfl rfl) rfl (cA_ _ (aKL _ _ _ _)) (ZBr ?_)
  refine RZ (xS_ (l' := cN K { x.s with r := { x.s.r with a := eC o.x x.s.r.a x.s.r.f, f := fl false false false (turnO o.x x.s.r.a) } }) 1) rfl (ZCp ?_)
  have e9 : fE K.toaVg o x = x.reg { x.s.r with a := eC o.x x.s.r.a x.s.r.f, f := fl false false false (turnO o.x x.s.r.a) } := by unfold fE; (iterate 7 rw [if_neg o_m]); rw [if_pos o_m]
  exact EV rfl (.cons _ sR_) ⟨cA_ Value.bool (ah o_m : isB o.kind = true).symm, G, y_t, y_eb⟩
 refine ZBb ?_
 refine KC (fun q8 z8 => ?_) (fun q8 z8 => ?_)
 ·refine iE [(b0, blk (cO o) 159)] [3, 4, 5, 6, 7] (.step true 0 (.step true 1 (.step true 2 (.step true 3 (.step true 4 (.step true 5 (.step true 7 (.step false 6 (.step false 8 (.step true 9 (.step true 10 (.step true 11 (.step true 12 (.step false 13 .done)))))))))))))) rfl y_f y_f (fun x hx => y_Y) ?_
  refine ZDH ?_
  refine ZBO fun G0 hG0 => ?_
  refine DZ rfl (bJ K_ rfl (wQ_ (aRK o.x (gett K.toaVg o.y x).1 x.s.r.f hgy9.2 h.r.f))) rfl n_h (ZBr ?_)
  refine DZ rfl (xS_ (l' := cN K { x.s with r := { x.s.r with f := aIB o.x (gett K.toaVg o.y x).1 x.s.r.f } }) 1) rfl n_h (ZCp ?_)
  have e9 : fE K.toaVg o x = (x.mem (gett K.toaVg o.y x).2.m).reg { x.s.r with f := aIB o.x (gett K.toaVg o.y x).1 x.s.r.f } := by unfold fE; (iterate 8 rw [if_neg o_m]); rw [if_pos o_m]; rw [← pH, aMl]
  exact EV rfl (.cons _ sR_) ⟨cA_ Value.bool (ah o_m : isB o.kind = true).symm, G0, y_t, y_X⟩
 refine ZBb ?_
 refine KC (fun q9 z9 => ?_) (fun q9 z9 => ?_)
 ·refine ZCL ?_
  refine DW (v := (.int .u8 (shl .u8 1 o.x))) rfl (dO rfl rfl ho.x.1) rfl rfl (ZBO fun G0 hG0 => ?_)
  refine DW (v := (.int .u8 (qZ (gett K.toaVg o.y x).1 o.x))) rfl (tC rfl rfl) rfl (cA_ _ (aH6 hgy9.2 ho.x)) (DX rfl (aR (F := [(b0, _)]) (A := (rb, _) :: _) K_ rfl (wL_ (wU K rb (x.mem (gett K.toaVg o.y x).2.m) (h.gmem o.y) G0 hG0 o.y (qZ (gett K.toaVg o.y x).1 o.x) (aBi hgy9.2 ho.x).1))) rfl n_h (ZBk fun G1 hG1 => ?_))
  refine ZBn ?_
  have e9 : fE K.toaVg o x = sett K.toaVg o.y (qZ (gett K.toaVg o.y x).1 o.x) (x.mem (gett K.toaVg o.y x).2.m) := by unfold fE; (iterate 9 rw [if_neg o_m]); rw [if_pos o_m]; rw [← pH]
  exact EV rfl (.cons _ sR_) ⟨cA_ Value.bool (ah o_m : isB o.kind = true).symm, G1, y_t, y_0⟩
 refine ZBb ?_
 refine KC (fun q10 z10 => ?_) (fun q10 z10 => ?_)
 ·refine ZCL ?_
  refine DW (v := (.int .u8 (shl .u8 1 o.x))) rfl (dO rfl rfl ho.x.1) rfl rfl (ZBO fun G0 hG0 => ?_)
  refine DW (v := (.int .u8 (wO (gett K.toaVg o.y x).1 o.x))) rfl (cT rfl rfl) rfl (cA_ _ (aQe hgy9.2 ho.x)) (DX rfl (aR (F := [(b0, _)]) (A := (rb, _) :: _) K_ rfl (wL_ (wU K rb (x.mem (gett K.toaVg o.y x).2.m) (h.gmem o.y) G0 hG0 o.y (wO (gett K.toaVg o.y x).1 o.x) (aBi hgy9.2 ho.x).2))) rfl n_h (ZBk fun G1 hG1 => ?_))
  refine ZBn ?_
  have e9 : fE K.toaVg o x = sett K.toaVg o.y (wO (gett K.toaVg o.y x).1 o.x) (x.mem (gett K.toaVg o.y x).2.m) := by unfold fE; (iterate 10 rw [if_neg o_m]); rw [if_pos o_m]; rw [← pH]
  exact EV rfl (.cons _ sR_) ⟨cA_ Value.bool (ah o_m : isB o.kind = true).symm, G1, y_t, y_0⟩
 refine ZBb ?_
 refine KC (fun q11 z11 => ?_) (fun q11 z11 => ?_)
 ·refine A_10 ?_
  refine RLv K_ (wQ_ (aTA x.s.r.a x.s.r.f h.r.a h.r.f)) ?_
  refine ZDH ?_
  refine RZ (xS_ (l' := cN K { x.s with r := { x.s.r with a := tH x.s.r.a x.s.r.f } }) 1) rfl (ZCz ?_)
  refine RZ (xS_ (l' := cN K { x.s with r := { x.s.r with a := tH x.s.r.a x.s.r.f, f := aJt x.s.r.a x.s.r.f } }) 1) rfl (ZCp ?_)
  have e9 : fE K.toaVg o x = x.reg { x.s.r with a := tH x.s.r.a x.s.r.f, f := aJt x.s.r.a x.s.r.f } := by unfold fE; (iterate 11 rw [if_neg o_m]); rw [if_pos o_m]
  exact EV rfl (.cons _ sR_) ⟨cA_ Value.bool (ah o_m : isB o.kind = true).symm, G, y_t, y_eb⟩
 refine ZBb ?_
 refine KC (fun q12 z12 => ?_) (fun q12 z12 => ?_)
 ·refine A_9 ?_
  refine RW (v := (.int .u8 (255 - x.s.r.a))) rfl rfl (cA_ _ (aQa h.r.a)) (ZBr ?_)
  refine RZ (xS_ (l' := cN K { x.s with r := { x.s.r with a := 255 - x.s.r.a } }) 1) rfl (ZCz ?_)
  refine RW (v := (.int .u8 (aH .u8 x.s.r.f 144))) (bE rfl rfl) rfl rfl (RW (v := (.int .u8 (bor .u8 (aH .u8 x.s.r.f 144) 64))) (cT rfl rfl) rfl rfl (RW (v := (.int .u8 (fl (zF x.s.r.f) true true (cF x.s.r.f)))) (cT rfl rfl) rfl (cA_ _ (aQ7 h.r.f)) (ZBr ?_)))
  refine RZ (xS_ (l' := cN K { x.s with r := { x.s.r with a := 255 - x.s.r.a, f := fl (zF x.s.r.f) true true (cF x.s.r.f) } }) 1) rfl (ZCp ?_)
  have e9 : fE K.toaVg o x = x.reg { x.s.r with a := 255 - x.s.r.a, f := fl (zF x.s.r.f) true true (cF x.s.r.f) } := by unfold fE; (iterate 12 rw [if_neg o_m]); rw [if_pos o_m]
  exact EV rfl (.cons _ sR_) ⟨cA_ Value.bool (ah o_m : isB o.kind = true).symm, G, y_t, y_eb⟩
 refine ZBb ?_
 refine KC (fun q13 z13 => ?_) (fun q13 z13 => ?_)
 ·refine ZA1 ?_
  refine RW (v := (.int .u8 (aH .u8 x.s.r.f 128))) (bE rfl rfl) rfl rfl (RW (v := (.int .u8 (fl (zF x.s.r.f) false false true))) (cT rfl rfl) rfl (cA_ _ (aRy h.r.f)) (ZBr ?_))
  refine RZ (xS_ (l' := cN K { x.s with r := { x.s.r with f := fl (zF x.s.r.f) false false true } }) 1) rfl (ZCp ?_)
  have e9 : fE K.toaVg o x = x.reg { x.s.r with f := fl (zF x.s.r.f) false false true } := by unfold fE; (iterate 13 rw [if_neg o_m]); rw [if_pos o_m]
  exact EV rfl (.cons _ sR_) ⟨cA_ Value.bool (ah o_m : isB o.kind = true).symm, G, y_t, y_eb⟩
 refine ZBb ?_
 refine KC (fun q14 z14 => ?_) (fun q14 z14 => ?_)
 ·refine ZA1 ?_
  refine RW (v := (.int .u8 (aH .u8 x.s.r.f 144))) (bE rfl rfl) rfl rfl (RW (v := (.int .u8 (fl (zF x.s.r.f) false false (!cF x.s.r.f)))) (aEZ rfl rfl) rfl (cA_ _ (aQ9 h.r.f)) (ZBr ?_))
  refine RZ (xS_ (l' := cN K { x.s with r := { x.s.r with f := fl (zF x.s.r.f) false false (!cF x.s.r.f) } }) 1) rfl (ZCp ?_)
  have e9 : fE K.toaVg o x = x.reg { x.s.r with f := fl (zF x.s.r.f) false false (!cF x.s.r.f) } := by unfold fE; (iterate 14 rw [if_neg o_m]); rw [if_pos o_m]
  exact EV rfl (.cons _ sR_) ⟨cA_ Value.bool (ah o_m : isB o.kind = true).symm, G, y_t, y_eb⟩
 refine ZBb ?_
 exact EV rfl (.cons _ sR_) ⟨cA_ Value.bool (bw o_m : isB o.kind = false).symm, G, by rw [wY K.toaVg (bw o_m)], by rw [wY K.toaVg (bw o_m)]; exact hG⟩
def rwords_fn {β : Type} (K : kF prog β) (rb : Nat) {bn : Nat} (x : Rn β) (h : RunOk K.toaVh (bn + 3) x) (G : aC) (hG : K.rep x.m G) (o : Opr) (ho : oM o) (w : AI) (hst : St w (rb :: G.map (·.1)) ((rb, blk (cN K x.s) 321) :: G) w) : aB prog 195 [P_ rb, .agg (cO o).toArray] w (rb :: G.map (·.1)) (fun v H => v = .bool (isW o.kind) ∧ qO K rb (iF K.toaVg o x) H) := by
 have hn9 := ho.n
 have hs9 := h.r.sp
 have hp9 := h.r.setP o.x (lI (w := (bH x.s.r o.x)))
 have hm9 := h.r.setP o.x (nA (w := (bH x.s.r o.x)))
 have hq9 := (h.r.f_ (kU (zF x.s.r.f) false (decide (4095 < (bH x.s.r 2) % 4096 + (bH x.s.r o.x) % 4096)) (decide (65535 < (bH x.s.r 2) + (bH x.s.r o.x))))).setP 2 (aAo (a := (bH x.s.r 2)) (b := (bH x.s.r o.x)))
 refine dO_ func195 hst ?_
 refine ZDi ?_
 refine ZAq fun b0 => ?_
 refine A_18 ?_
 refine KC (fun q0 z0 => ?_) (fun q0 z0 => ?_)
 ·refine ZBn ?_
  refine RX (aR (F := [(b0, _)]) (A := (rb, _) :: _) K_ rfl (wL_ (jJ K rb x h G hG o.x o.n ho.n))) rfl (ZAg fun G0 hG0 => ?_)
  refine ZBn ?_
  have e9 : iF K.toaVg o x = x.reg (fB x.s.r o.x o.n) := by unfold iF; rw [if_pos o_m]
  exact EV rfl (.cons _ sR_) ⟨cA_ Value.bool (ah o_m : isW o.kind = true).symm, G0, y_t, y_X⟩
 refine ZBb ?_
 refine KC (fun q1 z1 => ?_) (fun q1 z1 => ?_)
 ·refine ZCv ?_
  refine ZBn ?_
  refine ZDG ?_
  refine DW (v := (.int .u16 (iT (bH x.s.r o.x)))) rfl (jD rfl rfl) rfl (cA_ _ (gF _)) (DX rfl (aR (F := [(b0, _)]) (A := (rb, _) :: _) K_ rfl (wL_ (jJ K rb x h G hG o.x (iT (bH x.s.r o.x)) lI))) rfl n_h (ZAg fun G0 hG0 => ?_))
  refine ZA1 ?_
  refine RX (aR (F := [(b0, _)]) (A := (rb, _) :: _) K_ rfl (wL_ (ridle_fn K rb 1 y_b (x.reg (fB x.s.r o.x (iT (bH x.s.r o.x)))) (h.reg hp9) G0 hG0))) rfl (ZBk fun G1 hG1 => ?_)
  refine ZBn ?_
  have e9 : iF K.toaVg o x = idles K.toaVg 1 (x.reg (fB x.s.r o.x (iT (bH x.s.r o.x)))) := by unfold iF; rw [if_neg o_m]; rw [if_pos o_m]
  exact EV rfl (.cons _ sR_) ⟨cA_ Value.bool (ah o_m : isW o.kind = true).symm, G1, y_t, y_0⟩
 refine ZBb ?_
 refine KC (fun q2 z2 => ?_) (fun q2 z2 => ?_)
 ·refine ZCv ?_
  refine ZBn ?_
  refine ZDG ?_
  refine DW (v := (.int .u16 (lF (bH x.s.r o.x)))) rfl (iV rfl rfl) rfl (cA_ _ (gF _)) (DX rfl (aR (F := [(b0, _)]) (A := (rb, _) :: _) K_ rfl (wL_ (jJ K rb x h G hG o.x (lF (bH x.s.r o.x)) nA))) rfl n_h (ZAg fun G0 hG0 => ?_))
  refine ZA1 ?_
  refine RX (aR (F := [(b0, _)]) (A := (rb, _) :: _) K_ rfl (wL_ (ridle_fn K rb 1 y_b (x.reg (fB x.s.r o.x (lF (bH x.s.r o.x)))) (h.reg hm9) G0 hG0))) rfl (ZBk fun G1 hG1 => ?_)
  refine ZBn ?_
  have e9 : iF K.toaVg o x = idles K.toaVg 1 (x.reg (fB x.s.r o.x (lF (bH x.s.r o.x)))) := by unfold iF; (iterate 2 rw [if_neg o_m]); rw [if_pos o_m]
  exact EV rfl (.cons _ sR_) ⟨cA_ Value.bool (ah o_m : isW o.kind = true).symm, G1, y_t, y_0⟩
 refine ZBb ?_
 refine KC (fun q3 z3 => ?_) (fun q3 z3 => ?_)
 ·refine ZBL ?_
  refine DR [2, 6, 7, 8, 9, 10, 11, 12] (pln [0, 2, 6, 8, 10, 14, 16, 18, 20, 22, 24, 5, 13, 27, 28, 30, 32, 34, 36, 38, 40, 42, 45]) ?_
  refine A_11 ?_
  refine DZ rfl (bJ K_ rfl (fun w hw => rpair_fn K rb x.s h.r w (aA (l := cN K x.s) m_m w hw) 2)) rfl y_d (ZDG ?_)
  refine DZ rfl (bJ K_ rfl (wQ_ (aM1 (bH x.s.r 2) (bH x.s.r o.x) x.s.r.f (fV h.r 2) (fV h.r o.x) h.r.f))) rfl n_h (ZBy ?_)
  refine ZDH ?_
  refine DZ rfl (xS_ (l' := cN K { x.s with r := { x.s.r with f := xF (bH x.s.r 2) (bH x.s.r o.x) x.s.r.f } }) 1) rfl n_h (c_u ?_)
  refine ZBb ?_
  refine RX (aR (F := [(b0, _)]) (A := (rb, _) :: _) K_ rfl (wL_ (jJ K rb (x.reg { x.s.r with f := xF (bH x.s.r 2) (bH x.s.r o.x) x.s.r.f }) (h.reg (h.r.f_ (kU _ _ _ _))) G hG 2 (sM (bH x.s.r 2) (bH x.s.r o.x)) aAo))) rfl (ZAg fun G0 hG0 => ?_)
  refine ZA1 ?_
  refine RX (aR (F := [(b0, _)]) (A := (rb, _) :: _) K_ rfl (wL_ (ridle_fn K rb 1 y_b (x.reg (fB { x.s.r with f := xF (bH x.s.r 2) (bH x.s.r o.x) x.s.r.f } 2 (sM (bH x.s.r 2) (bH x.s.r o.x)))) (h.reg hq9) G0 hG0))) rfl (ZBk fun G1 hG1 => ?_)
  refine ZBn ?_
  have e9 : iF K.toaVg o x = idles K.toaVg 1 (x.reg (fB { x.s.r with f := xF (bH x.s.r 2) (bH x.s.r o.x) x.s.r.f } 2 (sM (bH x.s.r 2) (bH x.s.r o.x)))) := by unfold iF; (iterate 3 rw [if_neg o_m]); rw [if_pos o_m]
  exact EV rfl (.cons _ sR_) ⟨cA_ Value.bool (ah o_m : isW o.kind = true).symm, G1, y_t, y_0⟩
 refine ZBb ?_
 refine KC (fun q4 z4 => ?_) (fun q4 z4 => ?_)
 ·refine ZBL ?_
  refine DR [8, 9, 10] (pln [0, 2, 4, 6, 8, 10, 12, 14, 16, 18, 20, 23, 24, 26, 28, 30, 32, 34, 36, 39, 40, 42, 44, 46, 49]) ?_
  refine A_10 ?_
  refine ZBV ?_
  refine DZ rfl (bJ K_ rfl (wQ_ (aFb x.s.r.sp (o.n % 256) h.r.sp o_m))) rfl n_h (ZBy ?_)
  refine ZBn ?_
  refine DZ rfl (xS_ (l' := cN K { x.s with r := { x.s.r with sp := shR x.s.r.sp (o.n % 256) } }) 1) rfl n_h (ZCz ?_)
  refine DZ rfl (xS_ (l' := cN K { x.s with r := { x.s.r with sp := shR x.s.r.sp (o.n % 256), f := shF x.s.r.sp (o.n % 256) } }) 1) rfl n_h (ZFJ ?_)
  refine RX (aR (F := [(b0, _)]) (A := (rb, _) :: _) K_ rfl (wL_ (ridle_fn K rb 2 y_b (x.reg { x.s.r with sp := shR x.s.r.sp (o.n % 256), f := shF x.s.r.sp (o.n % 256) }) (h.reg ((h.r.sp_ zZ).f_ (kU _ _ _ _))) G hG))) rfl (ZAg fun G0 hG0 => ?_)
  refine ZBn ?_
  have e9 : iF K.toaVg o x = idles K.toaVg 2 (x.reg { x.s.r with sp := shR x.s.r.sp (o.n % 256), f := shF x.s.r.sp (o.n % 256) }) := by unfold iF; (iterate 4 rw [if_neg o_m]); rw [if_pos o_m]
  exact EV rfl (.cons _ sR_) ⟨cA_ Value.bool (ah o_m : isW o.kind = true).symm, G0, y_t, y_X⟩
 refine ZBb ?_
 refine KC (fun q5 z5 => ?_) (fun q5 z5 => ?_)
 ·refine ZBL ?_
  refine DR [7, 8, 9] (pln [0, 2, 4, 6, 8, 10, 12, 14, 16, 18, 21, 22, 24, 26, 28, 30, 32, 34, 36, 39]) ?_
  refine A_9 ?_
  refine ZBV ?_
  refine DZ rfl (bJ K_ rfl (wQ_ (aFb x.s.r.sp (o.n % 256) h.r.sp o_m))) rfl n_h (ZBy ?_)
  refine ZDH ?_
  refine DZ rfl (xS_ (l' := cN K { x.s with r := { x.s.r with f := shF x.s.r.sp (o.n % 256) } }) 1) rfl n_h (c_u ?_)
  refine ZBb ?_
  refine RX (aR (F := [(b0, _)]) (A := (rb, _) :: _) K_ rfl (wL_ (jJ K rb (x.reg { x.s.r with f := shF x.s.r.sp (o.n % 256) }) (h.reg (h.r.f_ (kU _ _ _ _))) G hG 2 (shR x.s.r.sp (o.n % 256)) zZ))) rfl (ZAg fun G0 hG0 => ?_)
  refine ZA1 ?_
  refine RX (aR (F := [(b0, _)]) (A := (rb, _) :: _) K_ rfl (wL_ (ridle_fn K rb 1 y_b (x.reg (fB { x.s.r with f := shF x.s.r.sp (o.n % 256) } 2 (shR x.s.r.sp (o.n % 256)))) (h.reg ((h.r.f_ (kU _ _ _ _)).setP 2 zZ)) G0 hG0))) rfl (ZBk fun G1 hG1 => ?_)
  refine ZBn ?_
  have e9 : iF K.toaVg o x = idles K.toaVg 1 (x.reg (fB { x.s.r with f := shF x.s.r.sp (o.n % 256) } 2 (shR x.s.r.sp (o.n % 256)))) := by unfold iF; (iterate 5 rw [if_neg o_m]); rw [if_pos o_m]
  exact EV rfl (.cons _ sR_) ⟨cA_ Value.bool (ah o_m : isW o.kind = true).symm, G1, y_t, y_0⟩
 refine ZBb ?_
 refine KC (fun q6 z6 => ?_) (fun q6 z6 => ?_)
 ·refine ZBr ?_
  refine RLv K_ (fun w hw => rpair_fn K rb x.s h.r w (aA (l := cN K x.s) m_m w hw) 2) ?_
  refine ZBr ?_
  refine RZ (xS_ (l' := cN K { x.s with r := { x.s.r with sp := (bH x.s.r 2) } }) 1) rfl (ZFJ ?_)
  refine RX (aR (F := [(b0, _)]) (A := (rb, _) :: _) K_ rfl (wL_ (ridle_fn K rb 1 y_b (x.reg { x.s.r with sp := (bH x.s.r 2) }) (h.reg (h.r.sp_ (fV h.r 2))) G hG))) rfl (ZAg fun G0 hG0 => ?_)
  refine ZBn ?_
  have e9 : iF K.toaVg o x = idles K.toaVg 1 (x.reg { x.s.r with sp := (bH x.s.r 2) }) := by unfold iF; (iterate 6 rw [if_neg o_m]); rw [if_pos o_m]
  exact EV rfl (.cons _ sR_) ⟨cA_ Value.bool (ah o_m : isW o.kind = true).symm, G0, y_t, y_X⟩
 refine ZBb ?_
 refine KC (fun q7 z7 => ?_) (fun q7 z7 => ?_)
 ·refine ZA1 ?_
  refine ZA3 fun G0 hG0 => ?_
  refine ZBn ?_
  refine RLv K_ (fun w hw => rpair_fn K rb (idles K.toaVg 1 x).s (h.idleK 1).r w (aA (l := cN K (idles K.toaVg 1 x).s) m_m w hw) o.x) ?_
  refine RX (aR (F := [(b0, _)]) (A := (rb, _) :: _) K_ rfl (wL_ (rpush_fn K rb (idles K.toaVg 1 x) (h.idleK 1) G0 hG0 (bH (idles K.toaVg 1 x).s.r o.x) (fV h.r o.x)))) rfl (ZBk fun G1 hG1 => ?_)
  refine ZBn ?_
  have e9 : iF K.toaVg o x = push K.toaVg (bH (idles K.toaVg 1 x).s.r o.x) (idles K.toaVg 1 x) := by unfold iF; (iterate 7 rw [if_neg o_m]); rw [if_pos o_m]
  exact EV rfl (.cons _ sR_) ⟨cA_ Value.bool (ah o_m : isW o.kind = true).symm, G1, y_t, y_0⟩
 refine ZBb ?_
 refine KC (fun q8 z8 => ?_) (fun q8 z8 => ?_)
 ·refine ZA1 ?_
  refine RX (aR (F := [(b0, _)]) (A := (rb, _) :: _) K_ rfl (wL_ (aBm K rb x h G hG))) rfl (ZAg fun G0 hG0 => ?_)
  refine ZDH ?_
  refine RX (aR (F := [(b0, _)]) (A := (rb, _) :: _) K_ rfl (wL_ (jJ K rb (pop K.toaVg x).2 h.pop.1 G0 hG0 o.x (pop K.toaVg x).1 h.pop.2))) rfl (ZBk fun G1 hG1 => ?_)
  refine ZBn ?_
  have e9 : iF K.toaVg o x = (pop K.toaVg x).2.reg (fB (pop K.toaVg x).2.s.r o.x (pop K.toaVg x).1) := by unfold iF; (iterate 8 rw [if_neg o_m]); rw [if_pos o_m]
  exact EV rfl (.cons _ sR_) ⟨cA_ Value.bool (ah o_m : isW o.kind = true).symm, G1, y_t, y_0⟩
 refine ZBb ?_
 refine KC (fun q9 z9 => ?_) (fun q9 z9 => ?_)
 ·refine ZBL ?_
  refine DR [4, 5, 6, 7, 8, 9, 10, 11, 12, 13, 14] (pln [0, 2, 4, 6, 8, 10, 12, 14, 16, 18, 20, 22, 24, 26, 28, 31]) ?_
  refine A_12 ?_
  refine ZBV ?_
  refine ZAl ?_
  refine DX rfl (gP (F := [(b0, _), (rb, _)]) (A := G) rfl K.mW K.cW rfl (fun w hw => K.dW (n := bn + 2) h.m hG (St.lentV hw) ho.n o_m)) rfl n_h ?_
  rintro _ _ ⟨G0, ⟨rfl, hG0⟩, rfl⟩
  refine ZBL ?_
  refine DR [4, 5, 6, 7, 8, 9, 10, 11, 12, 13, 14, 15, 16] (pln [0, 2, 4, 6, 8, 10, 12, 14, 16, 18, 20, 22, 24, 26, 28, 30, 32, 35]) ?_
  refine ZBn ?_
  refine DW (v := (.int .u16 (iT o.n))) rfl (jD rfl rfl) rfl (cA_ _ (gF _)) (ZBn ?_)
  refine ZDL ?_
  refine ZAl ?_
  refine DX rfl (gP (F := [(b0, _), (rb, _)]) (A := G0) rfl K.mW K.cW rfl (fun w hw => K.dW (n := bn + 1) (K.oW h.m ho.n o_m) hG0 (St.lentV hw) lI o_m)) rfl n_h ?_
  rintro _ _ ⟨G1, ⟨rfl, hG1⟩, rfl⟩
  refine ZBn ?_
  have e9 : iF K.toaVg o x = x.mem (K.write (iT o.n) (x.s.r.sp / 256) (K.write o.n (x.s.r.sp % 256) x.m)) := by unfold iF; (iterate 9 rw [if_neg o_m]); rw [if_pos o_m]
  exact EV rfl (.cons _ sR_) ⟨cA_ Value.bool (ah o_m : isW o.kind = true).symm, G1, y_t, y_0⟩
 refine ZBb ?_
 exact EV rfl (.cons _ sR_) ⟨cA_ Value.bool (bw o_m : isW o.kind = false).symm, G, by rw [aBq K.toaVg (bw o_m)], by rw [aBq K.toaVg (bw o_m)]; exact hG⟩
def rplaces_fn {β : Type} (K : kF prog β) (rb : Nat) {bn : Nat} (x : Rn β) (h : RunOk K.toaVh (bn + 1) x) (G : aC) (hG : K.rep x.m G) (o : Opr) (ho : oM o) (w : AI) (hst : St w (rb :: G.map (·.1)) ((rb, blk (cN K x.s) 321) :: G) w) : aB prog 196 [P_ rb, .agg (cO o).toArray] w (rb :: G.map (·.1)) (fun v H => v = .bool (isP o.kind) ∧ qO K rb (if isP o.kind = true then kG K.toaVg o x else x) H) := by
 have hn9 := ho.n
 have hs9 := ho.small
 have hc9 := h.r.c
 refine dO_ func196 hst ?_
 refine ZDi ?_
 refine ZAq fun b0 => ?_
 refine ZEf ?_
 rcases (show o.kind = 32 ∨ o.kind = 33 ∨ o.kind = 34 ∨ o.kind = 35 ∨ o.kind = 36 ∨ o.kind = 37 ∨ o.kind = 38 ∨ o.kind = 39 ∨ (o.kind < 32 ∨ 39 < o.kind) by omega) with hk | hk | hk | hk | hk | hk | hk | hk | hk
 ·refine ZEf ?_
  refine ZAU ?_
  refine A_9 ?_
  refine RX (aR (F := [(b0, _)]) (A := (rb, _) :: _) K_ rfl (wL_ (aEF K rb x h G hG o.x))) rfl (ZAg fun G0 hG0 => ?_)
  refine A_12 ?_
  refine ZAU ?_
  refine A_12 ?_
  refine RX (gP (F := [(b0, _), (rb, _)]) (A := G0) rfl K.mR K.cR rfl (fun w hw => K.dR (h.far o.x).1.m hG0 (St.lentV hw) (h.far o.x).2)) rfl ?_
  rintro _ _ ⟨G1, ⟨rfl, hG1⟩, rfl⟩
  refine ZBr ?_
  refine RZ (xS_ (l' := cN K { (far o.x x).2.s with r := { (far o.x x).2.s.r with a := (K.read (far o.x x).1 (far o.x x).2.m).1 } }) 1) rfl (ZCp ?_)
  have e8 : place o x = ((far o.x x).1, (far o.x x).2) := by unfold place; simp only [hk]; rfl
  have e9 : (if isP o.kind = true then kG K.toaVg o x else x) = ⟨{ (far o.x x).2.s with r := { (far o.x x).2.s.r with a := (K.read (far o.x x).1 (far o.x x).2.m).1 } }, (K.read (far o.x x).1 (far o.x x).2.m).2⟩ := by rw [if_pos (show isP o.kind = true from ah o_m)]; unfold kG; simp only [e8, hk]; rfl
  exact EV rfl (.cons _ sR_) ⟨cA_ Value.bool (ah o_m : isP o.kind = true).symm, G1, y_t, y_0⟩
 ·refine ZEf ?_
  refine ZA6 ?_
  refine ZAU ?_
  refine ZDH ?_
  refine RX (aR (F := [(b0, _)]) (A := (rb, _) :: _) K_ rfl (wL_ (aEF K rb x h G hG o.x))) rfl (ZAg fun G0 hG0 => ?_)
  refine A_12 ?_
  refine ZEv ?_
  refine ZCC ?_
  refine ZA1 ?_
  refine ZBN ?_
  refine DX rfl (gP (F := [(b0, _), (rb, _)]) (A := G0) rfl K.mW K.cW rfl (fun w hw => K.dW (h.far o.x).1.m hG0 (St.lentV hw) (h.far o.x).2 (h.far o.x).1.r.a)) rfl n_h ?_
  rintro _ _ ⟨G1, ⟨rfl, hG1⟩, rfl⟩
  refine ZBn ?_
  have e8 : place o x = ((far o.x x).1, (far o.x x).2) := by unfold place; simp only [hk]; rfl
  have e9 : (if isP o.kind = true then kG K.toaVg o x else x) = (far o.x x).2.mem (K.write (far o.x x).1 (far o.x x).2.s.r.a (far o.x x).2.m) := by rw [if_pos (show isP o.kind = true from ah o_m)]; unfold kG; simp only [e8, hk]; rfl
  exact EV rfl (.cons _ sR_) ⟨cA_ Value.bool (ah o_m : isP o.kind = true).symm, G1, y_t, y_0⟩
 ·refine ZEH ?_
  refine ZBn ?_
  refine ZAU ?_
  refine ZEf ?_
  refine RW (v := (.int .u16 (65280 + o.n % 256))) (cT rfl rfl) rfl (cA_ _ ((aBj o_m).trans o_m)) (A_12 ?_)
  refine ZCG ?_
  refine ZAU ?_
  refine A_12 ?_
  refine ZCh fun G0 hG0 => ?_
  refine ZBr ?_
  refine RZ (xS_ (l' := cN K { x.s with r := { x.s.r with a := (K.read (65280 + o.n % 256) x.m).1 } }) 1) rfl (ZCp ?_)
  have e8 : place o x = ((65280 + o.n % 256), x) := by unfold place; simp only [hk]; rfl
  have e9 : (if isP o.kind = true then kG K.toaVg o x else x) = ⟨{ x.s with r := { x.s.r with a := (K.read (65280 + o.n % 256) x.m).1 } }, (K.read (65280 + o.n % 256) x.m).2⟩ := by rw [if_pos (show isP o.kind = true from ah o_m)]; unfold kG; simp only [e8, hk]; rfl
  exact EV rfl (.cons _ sR_) ⟨cA_ Value.bool (ah o_m : isP o.kind = true).symm, G0, y_t, y_X⟩
 ·refine ZEH ?_
  refine ZBn ?_
  refine ZA6 ?_
  refine ZAU ?_
  refine ZBn ?_
  refine RW (v := (.int .u16 (65280 + o.n % 256))) (cT rfl rfl) rfl (cA_ _ ((aBj o_m).trans o_m)) (A_12 ?_)
  refine ZEv ?_
  refine ZCC ?_
  refine ZA1 ?_
  refine ZCR ?_
  rintro _ _ ⟨G0, ⟨rfl, hG0⟩, rfl⟩
  refine ZBn ?_
  have e8 : place o x = ((65280 + o.n % 256), x) := by unfold place; simp only [hk]; rfl
  have e9 : (if isP o.kind = true then kG K.toaVg o x else x) = x.mem (K.write (65280 + o.n % 256) x.s.r.a x.m) := by rw [if_pos (show isP o.kind = true from ah o_m)]; unfold kG; simp only [e8, hk]; rfl
  exact EV rfl (.cons _ sR_) ⟨cA_ Value.bool (ah o_m : isP o.kind = true).symm, G0, y_t, y_X⟩
 ·refine ZEH ?_
  refine ZBn ?_
  refine ZCC ?_
  refine ZBn ?_
  refine ZAU ?_
  refine A_12 ?_
  refine ZEW ?_
  refine RW (v := (.int .u16 (65280 + x.s.r.c))) (cT rfl rfl) rfl (cA_ _ (aBj h.r.c)) (A_12 ?_)
  refine ZEv ?_
  refine ZAU ?_
  refine A_12 ?_
  refine ZCh fun G0 hG0 => ?_
  refine ZBr ?_
  refine RZ (xS_ (l' := cN K { x.s with r := { x.s.r with a := (K.read (65280 + x.s.r.c) x.m).1 } }) 1) rfl (ZCp ?_)
  have e8 : place o x = ((65280 + x.s.r.c), x) := by unfold place; simp only [hk]; rfl
  have e9 : (if isP o.kind = true then kG K.toaVg o x else x) = ⟨{ x.s with r := { x.s.r with a := (K.read (65280 + x.s.r.c) x.m).1 } }, (K.read (65280 + x.s.r.c) x.m).2⟩ := by rw [if_pos (show isP o.kind = true from ah o_m)]; unfold kG; simp only [e8, hk]; rfl
  exact EV rfl (.cons _ sR_) ⟨cA_ Value.bool (ah o_m : isP o.kind = true).symm, G0, y_t, y_X⟩
 ·refine ZEH ?_
  refine ZBn ?_
  refine ZCC ?_
  refine ZBn ?_
  refine ZA6 ?_
  refine ZAU ?_
  refine A_10 ?_
  refine ZEW ?_
  refine RW (v := (.int .u16 (65280 + x.s.r.c))) (cT rfl rfl) rfl (cA_ _ (aBj h.r.c)) (A_12 ?_)
  refine ZEv ?_
  refine ZCC ?_
  refine ZA1 ?_
  refine ZCR ?_
  rintro _ _ ⟨G0, ⟨rfl, hG0⟩, rfl⟩
  refine ZBn ?_
  have e8 : place o x = ((65280 + x.s.r.c), x) := by unfold place; simp only [hk]; rfl
  have e9 : (if isP o.kind = true then kG K.toaVg o x else x) = x.mem (K.write (65280 + x.s.r.c) x.s.r.a x.m) := by rw [if_pos (show isP o.kind = true from ah o_m)]; unfold kG; simp only [e8, hk]; rfl
  exact EV rfl (.cons _ sR_) ⟨cA_ Value.bool (ah o_m : isP o.kind = true).symm, G0, y_t, y_X⟩
 ·refine ZEH ?_
  refine ZBn ?_
  refine ZCC ?_
  refine ZBn ?_
  refine ZCC ?_
  refine ZBn ?_
  refine ZAU ?_
  refine A_20 ?_
  refine ZEv ?_
  refine ZA6 ?_
  refine ZAU ?_
  refine A_10 ?_
  refine ZCh fun G0 hG0 => ?_
  refine ZBr ?_
  refine RZ (xS_ (l' := cN K { x.s with r := { x.s.r with a := (K.read o.n x.m).1 } }) 1) rfl (ZCp ?_)
  have e8 : place o x = (o.n, x) := by unfold place; simp only [hk]; rfl
  have e9 : (if isP o.kind = true then kG K.toaVg o x else x) = ⟨{ x.s with r := { x.s.r with a := (K.read o.n x.m).1 } }, (K.read o.n x.m).2⟩ := by rw [if_pos (show isP o.kind = true from ah o_m)]; unfold kG; simp only [e8, hk]; rfl
  exact EV rfl (.cons _ sR_) ⟨cA_ Value.bool (ah o_m : isP o.kind = true).symm, G0, y_t, y_X⟩
 ·refine ZEH ?_
  refine ZBn ?_
  refine ZCC ?_
  refine ZBn ?_
  refine ZCC ?_
  refine ZBn ?_
  refine ZA6 ?_
  refine ZAU ?_
  refine A_18 ?_
  refine ZEv ?_
  refine ZCC ?_
  refine ZA1 ?_
  refine ZCR ?_
  rintro _ _ ⟨G0, ⟨rfl, hG0⟩, rfl⟩
  refine ZBn ?_
  have e8 : place o x = (o.n, x) := by unfold place; simp only [hk]; rfl
  have e9 : (if isP o.kind = true then kG K.toaVg o x else x) = x.mem (K.write o.n x.s.r.a x.m) := by rw [if_pos (show isP o.kind = true from ah o_m)]; unfold kG; simp only [e8, hk]; rfl
  exact EV rfl (.cons _ sR_) ⟨cA_ Value.bool (ah o_m : isP o.kind = true).symm, G0, y_t, y_X⟩
 refine ZEH ?_
 refine ZBn ?_
 refine ZCC ?_
 refine ZBn ?_
 refine ZCC ?_
 refine ZBn ?_
 refine ZCC ?_
 refine ZEf ?_
 exact EV rfl (.cons _ sR_) ⟨cA_ Value.bool (bw o_m : isP o.kind = false).symm, G, by rw [if_neg y_c5], by rw [if_neg y_c5]; exact hG⟩
def aNb {β : Type} (K : kF prog β) (rb : Nat) {bn : Nat} (x : Rn β) (h : RunOk K.toaVh (bn + 4) x) (G : aC) (hG : K.rep x.m G) (o : Opr) (ho : oM o) (w : AI) (hst : St w (rb :: G.map (·.1)) ((rb, blk (cN K x.s) 321) :: G) w) : aB prog 197 [P_ rb, .agg (cO o).toArray] w (rb :: G.map (·.1)) (fun v H => v = .bool (metJ o x) ∧ qO K rb (effJ K.toaVg o x) H) := by
 have hn9 := ho.n
 have hi9 := h.idleK 1
 have hp9 := h.r.pc
 refine dO_ func197 hst ?_
 refine ZDi ?_
 refine ZAq fun b0 => ?_
 refine ZA1 ?_
 refine DR [5, 6] (pln [0, 2, 4, 6, 8, 10, 12, 15, 16]) ?_
 refine ZBr ?_
 refine cL rfl rfl rfl rfl (fun w hw => Row.left (Row.left (dV (l := cN K x.s) m_m w hw))) rfl rfl ?_
 refine ZAl ?_
 refine DZ rfl (bJ K_ rfl (wQ_ (aUI x.s.r h.r o.x))) rfl n_h (ZBr ?_)
 rcases (show o.kind = 23 ∨ o.kind = 24 ∨ o.kind = 25 ∨ o.kind = 26 ∨ o.kind = 27 ∨ o.kind = 28 ∨ o.kind = 29 ∨ (o.kind < 23 ∨ 29 < o.kind) by omega) with hk | hk | hk | hk | hk | hk | hk | hk
 ·refine ZA1 ?_
  refine ZAB ?_
  refine A_18 ?_
  refine ZAU ?_
  refine A_10 ?_
  refine KC (fun q0 z0 => ?_) (fun q0 z0 => ?_)
  ·refine ZBb ?_
   refine ZAs fun e7 => ?_
   have e8 : metJ o x = false := by unfold metJ; rw [(ah o_m : decide (23 ≤ o.kind ∧ o.kind ≤ 26) = true)]; simpa using q0
   exact ZD6
  refine A_24 ?_
  refine ZAU ?_
  refine ZEf ?_
  refine ZA3 fun G0 hG0 => ?_
  refine ZBL ?_
  refine DR [6, 7, 8, 9] (pln [0, 2, 4, 6, 8, 10, 12, 14, 16, 18, 20, 22, 24, 26, 28, 31]) ?_
  refine ZEf ?_
  refine DW (v := (.int .i8 (s8 (o.n % 256)))) rfl (dN rfl rfl rfl) rfl (cA_ _ (aQu _)) (DW (v := (.int .u16 (s8 (o.n % 256) % 65536))) rfl (dN rfl rfl rfl) rfl (cA_ _ (gF _)) (DW (v := (.int .u16 ((x.s.r.pc + s8 (o.n % 256)) % 65536))) rfl (jD rfl rfl) rfl (cA_ _ ((gF _).trans (show (x.s.r.pc + s8 (o.n % 256) % 65536) % 65536 = (x.s.r.pc + s8 (o.n % 256)) % 65536 by omega))) (ZBr ?_)))
  refine DZ rfl (xS_ (l' := cN K { (idles K.toaVg 1 x).s with r := { (idles K.toaVg 1 x).s.r with pc := (x.s.r.pc + s8 (o.n % 256)) % 65536 } }) 1) rfl n_h (c_u ?_)
  refine ZDH ?_
  refine ZCo fun e7 e8 => ?_
  have e9 : effJ K.toaVg o x = goto ((x.s.r.pc + s8 (o.n % 256)) % 65536) (idles K.toaVg 1 x) := by unfold effJ; rw [e7, e8]; simp only [Bool.true_eq_false, if_false]; simp only [hk]; rfl
  exact EV rfl (.cons _ sR_) ⟨cA_ Value.bool e8.symm, G0, y_t, y_X⟩
 ·refine ZA1 ?_
  refine ZAB ?_
  refine A_18 ?_
  refine ZCG ?_
  refine ZAU ?_
  refine A_10 ?_
  refine KC (fun q0 z0 => ?_) (fun q0 z0 => ?_)
  ·refine ZBb ?_
   refine ZAs fun e7 => ?_
   have e8 : metJ o x = false := by unfold metJ; rw [(ah o_m : decide (23 ≤ o.kind ∧ o.kind ≤ 26) = true)]; simpa using q0
   exact ZD6
  refine A_24 ?_
  refine ZEw ?_
  refine ZAU ?_
  refine ZEf ?_
  refine ZA3 fun G0 hG0 => ?_
  refine A_9 ?_
  refine RZ (xS_ (l' := cN K { (idles K.toaVg 1 x).s with r := { (idles K.toaVg 1 x).s.r with pc := o.n } }) 1) rfl (c_u ?_)
  refine ZDH ?_
  refine ZCo fun e7 e8 => ?_
  have e9 : effJ K.toaVg o x = goto o.n (idles K.toaVg 1 x) := by unfold effJ; rw [e7, e8]; simp only [Bool.true_eq_false, if_false]; simp only [hk]; rfl
  exact EV rfl (.cons _ sR_) ⟨cA_ Value.bool e8.symm, G0, y_t, y_X⟩
 ·refine ZA1 ?_
  refine ZAB ?_
  refine A_18 ?_
  refine ZEv ?_
  refine ZAU ?_
  refine A_10 ?_
  refine KC (fun q0 z0 => ?_) (fun q0 z0 => ?_)
  ·refine ZBb ?_
   refine ZAs fun e7 => ?_
   have e8 : metJ o x = false := by unfold metJ; rw [(ah o_m : decide (23 ≤ o.kind ∧ o.kind ≤ 26) = true)]; simpa using q0
   exact ZD6
  refine A_24 ?_
  refine ZEw ?_
  refine ZAB ?_
  refine ZEf ?_
  refine ZAU ?_
  refine A_10 ?_
  refine ZA3 fun G0 hG0 => ?_
  refine ZEK ?_
  refine ZBk fun G1 hG1 => ?_
  refine ZDt ?_
  refine c_u ?_
  refine ZDH ?_
  refine ZCo fun e7 e8 => ?_
  exact ZCU
 ·refine ZA1 ?_
  refine ZAU ?_
  refine ZBn ?_
  refine KC (fun q0 z0 => ?_) (fun q0 z0 => ?_)
  ·refine ZAl ?_
   refine ZA3 fun G0 hG0 => ?_
   refine A_11 ?_
   refine ZEv ?_
   refine ZA6 ?_
   refine ZAU ?_
   refine ZEf ?_
   refine KC (fun q1 z1 => ?_) (fun q1 z1 => ?_)
   ·refine ZBb ?_
    have e7 : (if o.kind = 26 ∧ o.x ≠ 4 then idles K.toaVg 1 x else x) = (idles K.toaVg 1 x) := if_pos o_m
    have e8 : metJ o x = false := by unfold metJ; rw [(ah o_m : decide (23 ≤ o.kind ∧ o.kind ≤ 26) = true)]; simpa using q1
    have e9 : effJ K.toaVg o x = (idles K.toaVg 1 x) := by unfold effJ; rw [e7, e8]; rfl
    exact EV rfl (.cons _ sR_) ⟨cA_ Value.bool e8.symm, G0, y_t, y_X⟩
   refine A_24 ?_
   refine ZEw ?_
   refine ZAB ?_
   refine ZEH ?_
   refine ZDH ?_
   refine ZEw ?_
   refine ZAU ?_
   refine A_9 ?_
   refine RX (aR (F := [(b0, _)]) (A := (rb, _) :: _) K_ rfl (wL_ (aBm K rb (idles K.toaVg 1 x) (h.idleK 1) G0 hG0))) rfl (ZBk fun G1 hG1 => ?_)
   refine ZBr ?_
   refine RZ (xS_ (l' := cN K { (pop K.toaVg (idles K.toaVg 1 x)).2.s with r := { (pop K.toaVg (idles K.toaVg 1 x)).2.s.r with pc := (pop K.toaVg (idles K.toaVg 1 x)).1 } }) 1) rfl (ZFJ ?_)
   refine RX (aR (F := [(b0, _)]) (A := (rb, _) :: _) K_ rfl (wL_ (ridle_fn K rb 1 y_b (goto (pop K.toaVg (idles K.toaVg 1 x)).1 (pop K.toaVg (idles K.toaVg 1 x)).2) ((RunOk.pop (h.idleK 1)).1.reg ((RunOk.pop (h.idleK 1)).1.r.pc_ (RunOk.pop (h.idleK 1)).2)) G1 hG1))) rfl ?_
   rintro _ _ ⟨_, ⟨rfl, G2, rfl, hG2⟩, rfl⟩
   refine ZDH ?_
   have e7 : (if o.kind = 26 ∧ o.x ≠ 4 then idles K.toaVg 1 x else x) = (idles K.toaVg 1 x) := if_pos o_m
   have e8 : metJ o x = true := by unfold metJ; rw [(ah o_m : decide (23 ≤ o.kind ∧ o.kind ≤ 26) = true)]; simpa using q1
   have e9 : effJ K.toaVg o x = idles K.toaVg 1 (goto (pop K.toaVg (idles K.toaVg 1 x)).1 (pop K.toaVg (idles K.toaVg 1 x)).2) := by unfold effJ; rw [e7, e8]; simp only [Bool.true_eq_false, if_false]; simp only [hk]; rfl
   exact EV rfl (.cons _ sR_) ⟨cA_ Value.bool e8.symm, G2, y_t, by rw [e9]; exact hG2⟩
  refine A_11 ?_
  refine ZEv ?_
  refine ZA6 ?_
  refine ZAU ?_
  refine ZEf ?_
  refine KC (fun q1 z1 => ?_) (fun q1 z1 => ?_)
  ·refine ZBb ?_
   refine ZAs fun e7 => ?_
   have e8 : metJ o x = false := by unfold metJ; rw [(ah o_m : decide (23 ≤ o.kind ∧ o.kind ≤ 26) = true)]; simpa using q1
   exact ZD6
  refine A_24 ?_
  refine ZEw ?_
  refine ZAB ?_
  refine ZEH ?_
  refine ZDH ?_
  refine ZEw ?_
  refine ZAU ?_
  refine A_9 ?_
  refine RX (aR (F := [(b0, _)]) (A := (rb, _) :: _) K_ rfl (wL_ (aBm K rb x h G hG))) rfl (ZAg fun G0 hG0 => ?_)
  refine ZBr ?_
  refine RZ (xS_ (l' := cN K { (pop K.toaVg x).2.s with r := { (pop K.toaVg x).2.s.r with pc := (pop K.toaVg x).1 } }) 1) rfl (ZFJ ?_)
  refine RX (aR (F := [(b0, _)]) (A := (rb, _) :: _) K_ rfl (wL_ (ridle_fn K rb 1 y_b (goto (pop K.toaVg x).1 (pop K.toaVg x).2) ((RunOk.pop h).1.reg ((RunOk.pop h).1.r.pc_ (RunOk.pop h).2)) G0 hG0))) rfl (ZBk fun G1 hG1 => ?_)
  refine ZDH ?_
  refine ZAs fun e7 => ?_
  have e8 : metJ o x = true := by unfold metJ; rw [(ah o_m : decide (23 ≤ o.kind ∧ o.kind ≤ 26) = true)]; simpa using q1
  have e9 : effJ K.toaVg o x = idles K.toaVg 1 (goto (pop K.toaVg x).1 (pop K.toaVg x).2) := by unfold effJ; rw [e7, e8]; simp only [Bool.true_eq_false, if_false]; simp only [hk]; rfl
  exact EV rfl (.cons _ sR_) ⟨cA_ Value.bool e8.symm, G1, y_t, y_0⟩
 ·refine ZA1 ?_
  refine ZAB ?_
  refine A_18 ?_
  refine ZEv ?_
  refine ZCC ?_
  refine A_27 ?_
  refine ZEw ?_
  refine ZAB ?_
  refine ZEH ?_
  refine ZDH ?_
  refine ZAU ?_
  refine A_9 ?_
  refine RZ (xS_ (l' := cN K { x.s with ime := true }) 1) rfl (ZCp ?_)
  refine RX (aR (F := [(b0, _)]) (A := (rb, _) :: _) K_ rfl (wL_ (aBm K rb (⟨{ x.s with ime := true }, x.m⟩ : Rn _) (⟨h.r, h.m⟩ : RunOk K.toaVh _ (⟨{ x.s with ime := true }, x.m⟩ : Rn _)) G hG))) rfl (ZAg fun G0 hG0 => ?_)
  refine ZBr ?_
  refine RZ (xS_ (l' := cN K { (pop K.toaVg (⟨{ x.s with ime := true }, x.m⟩ : Rn _)).2.s with r := { (pop K.toaVg (⟨{ x.s with ime := true }, x.m⟩ : Rn _)).2.s.r with pc := (pop K.toaVg (⟨{ x.s with ime := true }, x.m⟩ : Rn _)).1 } }) 1) rfl (ZFJ ?_)
  refine RX (aR (F := [(b0, _)]) (A := (rb, _) :: _) K_ rfl (wL_ (ridle_fn K rb 1 y_b (goto (pop K.toaVg (⟨{ x.s with ime := true }, x.m⟩ : Rn _)).1 (pop K.toaVg (⟨{ x.s with ime := true }, x.m⟩ : Rn _)).2) ((RunOk.pop (⟨h.r, h.m⟩ : RunOk K.toaVh (bn + 1 + 1 + 2) (⟨{ x.s with ime := true }, x.m⟩ : Rn _))).1.reg ((RunOk.pop (⟨h.r, h.m⟩ : RunOk K.toaVh (bn + 1 + 1 + 2) (⟨{ x.s with ime := true }, x.m⟩ : Rn _))).1.r.pc_ (RunOk.pop (⟨h.r, h.m⟩ : RunOk K.toaVh (bn + 1 + 1 + 2) (⟨{ x.s with ime := true }, x.m⟩ : Rn _))).2)) G0 hG0))) rfl (ZBk fun G1 hG1 => ?_)
  refine ZDH ?_
  refine ZBl fun e7 e8 => ?_
  have e9 : effJ K.toaVg o x = idles K.toaVg 1 (goto (pop K.toaVg (⟨{ x.s with ime := true }, x.m⟩ : Rn _)).1 (pop K.toaVg (⟨{ x.s with ime := true }, x.m⟩ : Rn _)).2) := by unfold effJ; rw [e7, e8]; simp only [Bool.true_eq_false, if_false]; simp only [hk]; rfl
  exact EV rfl (.cons _ sR_) ⟨cA_ Value.bool e8.symm, G1, y_t, y_0⟩
 ·refine ZA1 ?_
  refine ZAB ?_
  refine A_18 ?_
  refine ZEv ?_
  refine ZCC ?_
  refine A_27 ?_
  refine ZEw ?_
  refine ZAB ?_
  refine ZEf ?_
  refine ZA6 ?_
  refine ZAU ?_
  refine ZEf ?_
  refine ZA3 fun G0 hG0 => ?_
  refine ZEK ?_
  refine ZBk fun G1 hG1 => ?_
  refine ZDt ?_
  refine c_u ?_
  refine ZDH ?_
  refine ZBl fun e7 e8 => ?_
  exact ZCU
 ·refine ZA1 ?_
  refine ZAB ?_
  refine A_18 ?_
  refine ZEv ?_
  refine ZCC ?_
  refine A_27 ?_
  refine ZEw ?_
  refine ZAB ?_
  refine ZEH ?_
  refine ZDH ?_
  refine ZEw ?_
  refine ZAB ?_
  refine ZBn ?_
  refine ZAU ?_
  refine ZEf ?_
  refine RLv K_ (fun w hw => rpair_fn K rb x.s h.r w (aA (l := cN K x.s) m_m w hw) 2) ?_
  refine ZBr ?_
  refine RZ (xS_ (l' := cN K { x.s with r := { x.s.r with pc := bH x.s.r 2 } }) 1) rfl (c_u ?_)
  refine ZDH ?_
  refine ZBl fun e7 e8 => ?_
  have e9 : effJ K.toaVg o x = goto (bH x.s.r 2) x := by unfold effJ; rw [e7, e8]; simp only [Bool.true_eq_false, if_false]; simp only [hk]; rfl
  exact EV rfl (.cons _ sR_) ⟨cA_ Value.bool e8.symm, G, y_t, y_eb⟩
 refine ZA1 ?_
 refine ZAB ?_
 refine A_18 ?_
 refine ZEv ?_
 refine ZCC ?_
 refine A_27 ?_
 refine ZEw ?_
 refine ZAB ?_
 refine ZEH ?_
 refine ZDH ?_
 refine ZEw ?_
 refine ZAB ?_
 refine ZBn ?_
 refine ZAB ?_
 refine A_10 ?_
 refine ZBl fun e7 e8 => ?_
 have e9 : effJ K.toaVg o x = x := by unfold effJ; rw [e7, e8]; simp only [Bool.true_eq_false, if_false]; repeat rw [if_neg o_m]
 exact EV rfl (.cons _ sR_) ⟨cA_ Value.bool e8.symm, G, y_t, y_eb⟩
def iW.blocks {b : Nat} {u3 : AH} {H : aC} (h : iW b u3 H) : H.map (·.1) = [b] := by
 rcases h with ⟨_, _, _, _, rfl⟩ | rfl <;> rfl
def iW.lent {b : Nat} {u3 : AH} {H R : aC} (h : iW b u3 H) {w0 w : AI} {ms : AE} (hw : St w0 ms (H ++ R) w) : St w [b] H w := by
 have := hw.lentV
 rwa [h.blocks] at this
def iW.mem {b : Nat} {u3 : AH} {H : aC} (h : iW b u3 H) : ∀ x ∈ [b], ∃ o, (x, o) ∈ H := fun x hx => by
 rw [← h.blocks] at hx; exact eR hx
def rC.tab (b : Nat) (u3 : AH) : iW b u3 (rC b u3) := .inr rfl
def aUJ (b : Nat) (u3 : AH) (H0 : aC) (hT : iW b u3 H0) (w : AI) (hst : St w [b] H0 w) :
  aB prog 112 [P_ b, (.func (.func 113) #[P_ b] #[])] w [b] (fun v H => v = .tuple #[] ∧ H = rC b u3) := by
 refine dO_ func112 hst ?_
 refine A_1 ?_
 rcases hT with ⟨P, B, hP, hB, rfl⟩ | rfl
 ·refine A_4 ?_
  refine RLv K_ (fun w hw => aHG b 0 w (aJ (.head _) rfl w hw)) ?_
  refine A_6 ?_
  refine RZ (cB K_ rfl (fun w hw => aRB b u3 P B hP hB w (hw.holds _ (.head _)))) rfl (A_1 ?_)
  exact EN sR_ ⟨rfl, rfl⟩
 refine A_4 ?_
 refine RLv K_ (fun w hw => aHG b 1 w (aJ (.head _) rfl w hw)) ?_
 refine A_4 ?_
 exact EN sR_ ⟨rfl, rfl⟩
def aDo (w : AI) :
  aB prog 42 [] w [] (fun v H => ∃ b, v = P_ b ∧ iW b (.int .u32 0) H) := by
 refine dR_ func42 ?_
 refine A_6 ?_
 refine RY (eL (pl := [(0, 3), (3, 1280), (1283, 1280)]) (z := iI (.int .u32 0) (.int .i32 0) (.int .u32 0) (List.replicate 256 o0) (List.replicate 256 o0)) (l := iI (.int .u32 0) (.int .i32 0) (.int .u32 0) (List.replicate 256 o0) (List.replicate 256 o0)) (ps := []) y_f y_f rfl y_f) rfl (RX (cM rfl (l := iI (.int .u32 0) (.int .i32 0) (.int .u32 0) (List.replicate 256 o0) (List.replicate 256 o0)) rfl) rfl ?_)
 rintro _ _ ⟨b2, rfl, rfl⟩
 refine A_3 ?_
 exact EV rfl sR_ ⟨_, rfl, .inl ⟨_, _, y_eR, y_eR, rfl⟩⟩
def aLt (b : Nat) (u3 : AH) (H0 : aC) (hT : iW b u3 H0) (a x c : Int) (ha : 0 ≤ a ∧ a < 256) (hx : 0 ≤ x ∧ x < 256) (hc : 0 ≤ c ∧ c < 256) (w : AI) (hst : St w [b] H0 w) :
  aB prog 64 [P_ b, .int .u8 a, .int .u8 x, .int .u8 c] w [b] (fun v H => v = .agg (cO (dcd a x c)).toArray ∧ iW b u3 H) := by
 obtain ⟨m, o, rfl, hm, ho⟩ := aB5 ha.1 ha.2
 obtain ⟨k, rfl⟩ : ∃ k : Nat, x = k := ⟨x.toNat, y_y⟩
 refine dO_ func64 hst ?_
 refine A_2 ?_
 refine RX (cG rfl) rfl ?_
 rintro _ _ ⟨b8, rfl, rfl⟩
 refine A_15 ?_
 refine RW (v := (.func (.func 113) #[P_ b] #[])) rfl rfl y_by (bF (H' := H0 ++ [(b8, _)]) (fun _ h => St.fl [[_], H0] [1, 0] rfl (h.as rfl)) ?_)
 refine RX (eQ (A := H0) (G := [(b8, _)]) [b] K_ rfl hT.mem (fun w hw => aUJ b u3 H0 hT w (hT.lent hw))) rfl ?_
 rintro _ _ ⟨_, ⟨rfl, rfl⟩, rfl⟩
 refine A_7 ?_
 refine KC (fun h1 h1n => ?_) (fun h1 h1n => ?_)
 ·refine A_6 ?_
  refine RY (bZ (s := 5) k rfl rfl rfl rfl o_m) rfl (RZ (aK rfl rfl rfl (fun w hw => aKA aGU (aA (.head _) w hw) (aOp o_m))) rfl (RZ s_t rfl (A_2 ?_)))
  exact eY (H' := rC b u3) (fun w hw => aW rfl rfl rfl (aA m_m w hw)) (fun _ h => h.sub (cn _ _)) ⟨aIu (by rw [aDC y_a]; rfl), rC.tab b u3⟩
 refine A_7 ?_
 refine RY (bZ (s := 5) m rfl rfl rfl rfl hm) rfl (RZ (aK rfl rfl rfl (fun w hw => aMh (aA (.head _) w hw) ho)) rfl (RX (cG rfl) rfl ?_))
 rintro _ _ ⟨b9, rfl, rfl⟩
 refine RZ s_t rfl (A_13 ?_)
 refine KC (fun h2 h2n => ?_) (fun h2 h2n => ?_)
 ·refine A_2 ?_
  refine RW (v := (.int .u16 k)) rfl rfl (cA_ _ (fT o_m o_m)) (A_1 ?_)
  refine RZ s_t rfl (A_3 ?_)
  refine RZ (aK rfl rfl rfl y_h) rfl (RZ s_t rfl (A_2 ?_))
  exact eY (H' := rC b u3) (fun w hw => aW rfl rfl rfl (aA m_m w hw)) (fun _ h => St.fl [[_], [_], [_]] [1] rfl h) ⟨aIu (by rw [sU rfl y_a ho, aFz y_a]; rfl), rC.tab b u3⟩
 refine A_5 ?_
 refine KC (fun h3 h3n => ?_) (fun h3 h3n => ?_)
 ·refine A_2 ?_
  refine RW (v := (.int .u16 k)) rfl rfl (cA_ _ (fT o_m o_m)) (A_1 ?_)
  refine RW (v := (.int .u16 c)) rfl rfl (cA_ _ (fT o_m o_m)) (RY (dO rfl rfl y_b) rfl (RW (v := (.int .u16 (k + 256 * c))) rfl rfl (cA_ _ (aFw hx hc)) (A_1 ?_)))
  refine RZ s_t rfl (A_3 ?_)
  refine RZ (aK rfl rfl rfl y_h) rfl (RZ s_t rfl (A_2 ?_))
  exact eY (H' := rC b u3) (fun w hw => aW rfl rfl rfl (aA m_m w hw)) (fun _ h => St.fl [[_], [_], [_]] [1] rfl h) ⟨aIu (by rw [sU rfl y_a ho, aGL y_a]; rfl), rC.tab b u3⟩
 refine A_3 ?_
 refine RZ (aK rfl rfl rfl y_h) rfl (RZ s_t rfl (A_2 ?_))
 exact eY (H' := rC b u3) (fun w hw => aW rfl rfl rfl (aA m_m w hw)) (fun _ h => St.fl [[_], [_], [_]] [1] rfl h) ⟨aIu (by rw [sU rfl y_a ho, aFc y_a y_a]; rfl), rC.tab b u3⟩
def aK9 {β : Type} (K : kF prog β) (rb : Nat) {bn : Nat} (x : Rn β) (h : RunOk K.toaVh (bn + 4) x) (G : aC) (hG : K.rep x.m G) (o : Opr) (ho : oM o) (p : Int) (hp : 0 ≤ p ∧ p < 65536) (w : AI) (hst : St w (rb :: G.map (·.1)) ((rb, blk (cN K x.s) 321) :: G) w) : aB prog 171 [P_ rb, .agg (cO o).toArray, .int .u16 p] w (rb :: G.map (·.1)) (fun v H => v = .bool (ordT K.toaVg o p x).1 ∧ qO K rb (ordT K.toaVg o p x).2 H) := by
 refine dO_ func171 hst ?_
 refine ZDi ?_
 refine ZAq fun b0 => ?_
 refine A_14 ?_
 refine KC (fun q0 z0 => ?_) (fun q0 z0 => ?_)
 ·refine ZBb ?_
  refine RZ (xS_ (l' := cN K { x.s with stop := true }) 1) rfl (ZCp ?_)
  have e9 : ordT K.toaVg o p x = (true, ⟨{ x.s with stop := true }, x.m⟩) := by unfold ordT; rw [if_pos o_m]
  exact EV rfl (.cons _ sR_) ⟨y_eQ, G, y_eQ, y_eb⟩
 refine ZBb ?_
 refine KC (fun q1 z1 => ?_) (fun q1 z1 => ?_)
 ·refine ZBb ?_
  refine RZ (xS_ (l' := cN K { x.s with halt := true }) 1) rfl (ZCp ?_)
  have e9 : ordT K.toaVg o p x = (true, ⟨{ x.s with halt := true }, x.m⟩) := by unfold ordT; rw [if_neg o_m]; rw [if_pos o_m]
  exact EV rfl (.cons _ sR_) ⟨y_eQ, G, y_eQ, y_eb⟩
 refine ZBb ?_
 refine KC (fun q2 z2 => ?_) (fun q2 z2 => ?_)
 ·refine ZDH ?_
  refine RZ (xS_ (l' := cN K { x.s with r := { x.s.r with pc := p } }) 1) rfl (ZCp ?_)
  have e9 : ordT K.toaVg o p x = (true, ⟨{ x.s with r := { x.s.r with pc := p } }, x.m⟩) := by unfold ordT; (iterate 2 rw [if_neg o_m]); rw [if_pos o_m]; rfl
  exact EV rfl (.cons _ sR_) ⟨y_eQ, G, y_eQ, y_eb⟩
 refine ZBb ?_
 refine KC (fun q3 z3 => ?_) (fun q3 z3 => ?_)
 ·refine ZBb ?_
  refine RZ (xS_ (l' := cN K { x.s with ime := false }) 1) rfl (ZCp ?_)
  have e9 : ordT K.toaVg o p x = (true, ⟨{ x.s with ime := false }, x.m⟩) := by unfold ordT; (iterate 3 rw [if_neg o_m]); rw [if_pos o_m]
  exact EV rfl (.cons _ sR_) ⟨y_eQ, G, y_eQ, y_eb⟩
 refine ZBb ?_
 refine KC (fun q4 z4 => ?_) (fun q4 z4 => ?_)
 ·refine ZBb ?_
  refine RZ (xS_ (l' := cN K { x.s with soon := true }) 1) rfl (ZCp ?_)
  have e9 : ordT K.toaVg o p x = (true, ⟨{ x.s with soon := true }, x.m⟩) := by unfold ordT; (iterate 4 rw [if_neg o_m]); rw [if_pos o_m]
  exact EV rfl (.cons _ sR_) ⟨y_eQ, G, y_eQ, y_eb⟩
 refine ZBL ?_
 rcases (show isB o.kind = true ∨ (isB o.kind = false ∧ isW o.kind = true) ∨ (isB o.kind = false ∧ isW o.kind = false ∧ isP o.kind = true) ∨ (isB o.kind = false ∧ isW o.kind = false ∧ isP o.kind = false) by cases isB o.kind <;> cases isW o.kind <;> cases isP o.kind <;> simp) with hB | ⟨hB, hW⟩ | ⟨hB, hW, hP⟩ | ⟨hB, hW, hP⟩
 ·refine ZAl ?_
  refine ZBK ?_
  refine ZAg fun G0 hG0 => ?_
  rw [hB]
  refine A_18 ?_
  have e9 : ordT K.toaVg o p x = (true, fE K.toaVg o x) := by unfold ordT; (iterate 5 rw [if_neg o_m]); rw [if_pos hB]
  exact EV rfl (.cons _ sR_) ⟨y_eQ, G0, y_t, y_X⟩
 ·refine ZAl ?_
  refine ZBK ?_
  refine ZAg fun G0 hG0 => ?_
  rw [hB]
  rw [wY K.toaVg hB] at hG0 ⊢
  refine ZAl ?_
  refine ZCJ ?_
  refine ZBk fun G1 hG1 => ?_
  rw [hW]
  refine A_14 ?_
  have e9 : ordT K.toaVg o p x = (true, iF K.toaVg o x) := by unfold ordT; (iterate 5 rw [if_neg o_m]); rw [if_neg (by rw [hB]; decide), if_pos hW]
  exact EV rfl (.cons _ sR_) ⟨y_eQ, G1, y_t, y_0⟩
 ·refine ZAl ?_
  refine ZBK ?_
  refine ZAg fun G0 hG0 => ?_
  rw [hB]
  rw [wY K.toaVg hB] at hG0 ⊢
  refine ZAl ?_
  refine ZCJ ?_
  refine ZBk fun G1 hG1 => ?_
  rw [hW]
  rw [aBq K.toaVg hW] at hG1 ⊢
  refine ZA1 ?_
  refine ZES ?_
  rintro _ _ ⟨_, ⟨rfl, G2, rfl, hG2⟩, rfl⟩
  rw [if_pos (show isP o.kind = true by rw [hP])] at hG2 ⊢
  rw [hP]
  refine A_9 ?_
  have e9 : ordT K.toaVg o p x = (true, kG K.toaVg o x) := by unfold ordT; (iterate 5 rw [if_neg o_m]); rw [if_neg (by rw [hB]; decide), if_neg (by rw [hW]; decide), if_pos hP]
  exact EV rfl (.cons _ sR_) ⟨y_eQ, G2, y_t, by rw [e9]; exact hG2⟩
 refine ZAl ?_
 refine ZBK ?_
 refine ZAg fun G0 hG0 => ?_
 rw [hB]
 rw [wY K.toaVg hB] at hG0 ⊢
 refine ZAl ?_
 refine ZCJ ?_
 refine ZBk fun G1 hG1 => ?_
 rw [hW]
 rw [aBq K.toaVg hW] at hG1 ⊢
 refine ZA1 ?_
 refine ZES ?_
 rintro _ _ ⟨_, ⟨rfl, G2, rfl, hG2⟩, rfl⟩
 rw [if_neg (show ¬ isP o.kind = true by rw [hP]; decide)] at hG2 ⊢
 rw [hP]
 refine ZA1 ?_
 refine ZAS ?_
 refine RX (aR (F := [(b0, _)]) (A := (rb, _) :: _) K_ rfl (wL_ (aNb K rb x (h.le o_m : RunOk K.toaVh (bn + 4) x) G2 hG2 o ho))) rfl ?_
 rintro _ _ ⟨_, ⟨rfl, G3, rfl, hG3⟩, rfl⟩
 refine ZBr ?_
 have e9 : ordT K.toaVg o p x = (metJ o x, effJ K.toaVg o x) := by unfold ordT; (iterate 5 rw [if_neg o_m]); rw [if_neg (by rw [hB]; decide), if_neg (by rw [hW]; decide), if_neg (by rw [hP]; decide)]
 exact EV rfl (.cons _ sR_) ⟨y_eQ, G3, y_t, by rw [e9]; exact hG3⟩
def aRY (p : Int) (hp : 0 < p ∧ p < 32) (w : AI) : aB prog 192 [.int .u8 p] w [] (V_ (.int .i64 (lH p))) := by
 refine dR_ func192 ?_
 refine ZBb ?_
 rcases (show p = 1 ∨ p = 2 ∨ p = 3 ∨ p = 4 ∨ p = 5 ∨ p = 6 ∨ p = 7 ∨ p = 8 ∨ p = 9 ∨ p = 10 ∨ p = 11 ∨ p = 12 ∨ p = 13 ∨ p = 14 ∨ p = 15 ∨ p = 16 ∨ p = 17 ∨ p = 18 ∨ p = 19 ∨ p = 20 ∨ p = 21 ∨ p = 22 ∨ p = 23 ∨ p = 24 ∨ p = 25 ∨ p = 26 ∨ p = 27 ∨ p = 28 ∨ p = 29 ∨ p = 30 ∨ p = 31 by omega) with rfl | rfl | rfl | rfl | rfl | rfl | rfl | rfl | rfl | rfl | rfl | rfl | rfl | rfl | rfl | rfl | rfl | rfl | rfl | rfl | rfl | rfl | rfl | rfl | rfl | rfl | rfl | rfl | rfl | rfl | rfl
 ·refine ZA1 ?_
  refine ZAX ?_
  exact ZAR
 ·refine ZA1 ?_
  refine ZAX ?_
  exact ZAR
 ·refine ZA1 ?_
  refine ZAX ?_
  exact ZAR
 ·refine ZA1 ?_
  refine ZAX ?_
  exact ZAR
 ·refine ZA1 ?_
  refine ZAX ?_
  exact ZAR
 ·refine ZA1 ?_
  refine ZAX ?_
  exact ZAR
 ·refine ZA1 ?_
  refine ZAX ?_
  exact ZAR
 ·refine ZA1 ?_
  refine ZAX ?_
  exact ZAR
 ·refine ZA1 ?_
  refine ZAX ?_
  exact ZAR
 ·refine ZA1 ?_
  refine ZAX ?_
  exact ZAR
 ·refine ZA1 ?_
  refine ZAX ?_
  exact ZAR
 ·refine ZA1 ?_
  refine ZAX ?_
  exact ZAR
 ·refine ZA1 ?_
  refine ZAX ?_
  exact ZAR
 ·refine ZA1 ?_
  refine ZAX ?_
  exact ZAR
 ·refine ZA1 ?_
  refine ZAX ?_
  exact ZAR
 ·refine ZA1 ?_
  refine ZAX ?_
  exact ZAR
 ·refine ZA1 ?_
  refine ZAX ?_
  exact ZAR
 ·refine ZA1 ?_
  refine ZAX ?_
  exact ZAR
 ·refine ZA1 ?_
  refine ZAX ?_
  exact ZAR
 ·refine ZA1 ?_
  refine ZAX ?_
  exact ZAR
 ·refine ZA1 ?_
  refine ZAX ?_
  exact ZAR
 ·refine ZA1 ?_
  refine ZAX ?_
  exact ZAR
 ·refine ZA1 ?_
  refine ZAX ?_
  exact ZAR
 ·refine ZA1 ?_
  refine ZAX ?_
  exact ZAR
 ·refine ZA1 ?_
  refine ZAX ?_
  exact ZAR
 ·refine ZA1 ?_
  refine ZAX ?_
  exact ZAR
 ·refine ZA1 ?_
  refine ZAX ?_
  exact ZAR
 ·refine ZA1 ?_
  refine ZAX ?_
  exact ZAR
 ·refine ZA1 ?_
  refine ZAX ?_
  exact ZAR
 ·refine ZA1 ?_
  refine ZAX ?_
  exact ZAR
 refine ZA1 ?_
 refine ZAX ?_
 exact ZAR
def aES {β : Type} (K : kF prog β) (rb : Nat) {bn : Nat} (x : Rn β) (h : RunOk K.toaVh (bn + 5) x) (G : aC) (hG : K.rep x.m G) (p : Int) (hp : 0 < p ∧ p < 32) (w : AI) (hst : St w (rb :: G.map (·.1)) ((rb, blk (cN K x.s) 321) :: G) w) : aB prog 169 [P_ rb, .int .u8 p] w (rb :: G.map (·.1)) (fun v H => v = .int .i64 (lH p) ∧ qO K rb (vW K.toaVg p x) H) := by
 have hl9 := aHU p
 refine dO_ func169 hst ?_
 refine ZDH ?_
 refine RLv K_ (wQ_ (aRY p hp)) ?_
 refine ZBb ?_
 refine RX (cB K_ rfl (wV_ (ridle_fn K rb 2 y_b x (h.le o_m : RunOk K.toaVh (bn + 3 + 2) x) G hG))) rfl ?_
 rintro _ _ ⟨rfl, G0, rfl, hG0⟩
 refine A_10 ?_
 refine RX (cB K_ rfl (wV_ (rpush_fn K rb (idles K.toaVg 2 x) (h.idleK 2) G0 hG0 x.s.r.pc h.r.pc))) rfl ?_
 rintro _ _ ⟨rfl, G1, rfl, hG1⟩
 refine ZEf ?_
 refine RX (gP (F := [(rb, _)]) (A := G1) rfl K.mA K.cA rfl (fun w hw => K.dA ((h.idleK 2).push h.r.pc).m hG1 (St.lentV hw) hl9)) rfl ?_
 rintro _ _ ⟨G2, ⟨rfl, hG2⟩, rfl⟩
 refine ZCz ?_
 refine RX (cB K_ rfl (wV_ (ridle_fn K rb 1 y_b ((push K.toaVg x.s.r.pc (idles K.toaVg 2 x)).mem (K.ack (lH p) (push K.toaVg x.s.r.pc (idles K.toaVg 2 x)).m)) (((h.idleK 2).push h.r.pc).mem (K.oA ((h.idleK 2).push h.r.pc).m hl9)) G2 hG2))) rfl ?_
 rintro _ _ ⟨rfl, G3, rfl, hG3⟩
 refine ZEf ?_
 refine RZ (xS_ (l' := cN K { (idles K.toaVg 1 ((push K.toaVg x.s.r.pc (idles K.toaVg 2 x)).mem (K.ack (lH p) (push K.toaVg x.s.r.pc (idles K.toaVg 2 x)).m))).s with ime := false }) 0) rfl (ZFJ ?_)
 refine RZ (xS_ (l' := cN K { (idles K.toaVg 1 ((push K.toaVg x.s.r.pc (idles K.toaVg 2 x)).mem (K.ack (lH p) (push K.toaVg x.s.r.pc (idles K.toaVg 2 x)).m))).s with ime := false, soon := false }) 0) rfl (c_u ?_)
 refine ZBb ?_
 refine ZCA ?_
 refine ZAa ?_
 refine ZEW ?_
 refine ZBr ?_
 refine RZ (xS_ (l' := cN K { (idles K.toaVg 1 ((push K.toaVg x.s.r.pc (idles K.toaVg 2 x)).mem (K.ack (lH p) (push K.toaVg x.s.r.pc (idles K.toaVg 2 x)).m))).s with ime := false, soon := false, r := { (idles K.toaVg 1 ((push K.toaVg x.s.r.pc (idles K.toaVg 2 x)).mem (K.ack (lH p) (push K.toaVg x.s.r.pc (idles K.toaVg 2 x)).m))).s.r with pc := 64 + 8 * lH p } }) 0) rfl (c_u ?_)
 refine ZDH ?_
 exact EV rfl sR_ ⟨rfl, G3, rfl, hG3⟩
def aOM {β : Type} (K : kF prog β) (rb : Nat) {bn : Nat} (x : Rn β) (h : RunOk K.toaVh (bn + 3) x) (G : aC) (hG : K.rep x.m G) (tb : Nat) (u3 : AH) (oT : Obj) (hT : iW tb u3 [(tb, oT)]) (w : AI) (hst : St w (tb :: rb :: G.map (·.1)) ((tb, oT) :: (rb, blk (cN K x.s) 321) :: G) w) : aB prog 170 [P_ rb, P_ tb] w (tb :: rb :: G.map (·.1)) (fun v H => v = .agg (cO (nextT K.toaVg x).1).toArray ∧ ∃ oT', iW tb u3 [(tb, oT')] ∧ ∃ G', H = (tb, oT') :: (rb, blk (cN K (nextT K.toaVg x).2.s) 321) :: G' ∧ K.rep (nextT K.toaVg x).2.m G') := by
 refine dO_ func170 hst ?_
 refine ZDX fun b0 => ?_
 refine ZA1 ?_
 refine ZAu fun b1 => ?_
 refine ZA1 ?_
 refine RS ?_
 refine ZAI ?_
 rintro _ _ ⟨b2, rfl, rfl⟩
 refine ZEn ?_
 refine ZDH ?_
 refine bD (σ := Nat × Obj × aC) [7, 9, 10, 11, 12, 13, 14, 15, 16, 17, 18, 19, 20, 21, 22, 23, 24, 25, 26, 27, 28, 29, 30, 31, 32, 33, 34, 35, 36, 37, 38, 39, 40, 41, 42, 43, 44, 45, 46, 47, 48] (fun s => [(7, .int .i64 s.1)]) (fun s => (b2, blk (cO (nxN K.toaVg x s.1).o) 159) :: (b1, blk ((nxN K.toaVg x s.1).b.map (.int .u8)) 355) :: (b0, blk (cO oN) 159) :: (tb, s.2.1) :: (rb, blk (cN K (nxN K.toaVg x s.1).x.s) 321) :: s.2.2) (fun s => s.1 ≤ 3 ∧ (∀ j : Nat, j < s.1 → (j : Int) < (nxN K.toaVg x j).o.size) ∧ iW tb u3 [(tb, s.2.1)] ∧ K.rep (nxN K.toaVg x s.1).x.m s.2.2) (fun s => 3 - s.1) (0, oT, G) ?_ ?_ ?_ ?_
 ·exact ⟨al _, fun j hj => absurd hj (Nat.not_lt_zero _), hT, hG⟩
 ·exact .cons rfl .nil
 ·exact fun _ h => h
 rintro ⟨i, oi, Gi⟩ y4 ⟨hi, hpi, hTi, hGi⟩
 dsimp only at hi hpi hTi hGi ⊢
 have hx9 := h.nx i hi
 refine ZEf ?_
 refine KC (fun q0 z0 => ?_) (fun q0 z0 => ?_)
 ·refine ZBr ?_
  have hs9 : i < 3 := by have := hx9.sz; omega
  have hy9 := hx9.le (k := 0 + 1) o_m
  have hl9 := hx9.len
  have hb9 := lQ hx9.by_ i hy9.x.fetch1.2
  refine DR [5, 6, 7, 8, 9, 10, 11, 12] (pln [0, 2, 4, 6, 8, 10, 12, 14, 16, 18, 20, 22, 24, 27, 28, 31]) ?_
  refine A_13 ?_
  refine DX rfl (gP (F := [(b2, _), (b1, _), (b0, _), (tb, _), (rb, _)]) (A := Gi) rfl K.mF K.cF rfl (fun w hw => K.dF hy9.x.m hGi (St.lentV hw) hx9.x.r.pc)) rfl n_h ?_
  rintro _ _ ⟨G0, ⟨rfl, hG0⟩, rfl⟩
  refine c_u ?_
  refine DY rfl (aQ i rfl rfl rfl rfl o_m) rfl (DZ rfl (aD (l' := ((nxN K.toaVg x i).b.set i (K.fetch (nxN K.toaVg x i).x.s.r.pc (nxN K.toaVg x i).x.m).1).map (.int .u8)) 1 rfl rfl rfl rfl rfl rfl (by simp [hl9]; omega) (by rw [bi]; exact jM _ o_m _)) rfl n_h (c_u ?_))
  refine A_9 ?_
  refine RW (v := (.int .u16 (iT (nxN K.toaVg x i).x.s.r.pc))) (jD rfl rfl) rfl (cA_ _ (gF _)) (ZBr ?_)
  refine RZ (xS_ (l' := cN K { (nxN K.toaVg x i).x.s with r := { (nxN K.toaVg x i).x.s.r with pc := iT (nxN K.toaVg x i).x.s.r.pc } }) 4) rfl (ZFJ ?_)
  refine RY y_dQ rfl (RZ (aE rfl rfl (aJ m_m (cX (j := 0) (by simp [hl9])))) rfl (RY y_dX rfl (RZ (aE rfl rfl (aJ m_m (cX (j := 1) (by simp [hl9])))) rfl ?_)))
  refine RY y_d0 rfl (RZ (aE rfl rfl (aJ m_m (cX (j := 2) (by simp [hl9])))) rfl (RX (aHt (F := [(b2, _), (b1, _), (b0, _)]) (A := [(tb, _)]) (G := (rb, _) :: _) [tb] K_ rfl (fun _ hb => eR (G := [(tb, _)]) hb) (fun w hw => aLt tb u3 _ hTi _ _ _ (hb9.get 0) (hb9.get 1) (hb9.get 2) w (hTi.lent hw))) rfl ?_))
  rintro _ _ ⟨HT, ⟨rfl, hT0⟩, rfl⟩
  obtain ⟨oT0, rfl⟩ := hT0.one
  refine c_u ?_
  refine RZ (xS_ (l' := cO (nxN K.toaVg x (i + 1)).o) 0) rfl (ZFJ ?_)
  refine ZAD ?_
  exact ⟨(i + 1, oT0, G0), ⟨y_y, fun j hj => by rcases Nat.lt_succ_iff_lt_or_eq.1 hj with q0 | rfl; exact hpi j q0; assumption, hT0, hG0⟩, y_cB, .cons rfl .nil, a_g, fun _ h => h⟩
 refine ZA1 ?_
 refine ZEt ?_
 have e9 := aSS K.toaVg hi hpi (by assumption)
 exact fM (fun w hw => aW rfl rfl rfl (aA (b := b0) (l := cO (nxN K.toaVg x i).o) m_m w hw)) (.cons _ (.cons _ (.cons _ sR_))) ⟨y_eQ, oi, hTi, Gi, y_eQ, by rw [e9]; exact hGi⟩
set_option maxHeartbeats 4000000 in
def aRx {β : Type} (K : kF prog β) {bn : Nat} (s : CS) (m : β) (h : RunOk K.toaVh (bn + 7) (⟨s, m⟩ : Rn _)) (G : aC) (hG : K.rep m G) (tb : Nat) (u3 : AH) (oT : Obj) (hT : iW tb u3 [(tb, oT)]) (w : AI) (hst : St w (tb :: G.map (·.1)) ((tb, oT) :: G) w) : aB prog 123 [P_ tb, .agg (cS s).toArray, .iface K.t0 K.v] w (tb :: G.map (·.1)) (fun v H => v = .tuple #[.agg (cS (dJ K.toaVg (⟨s, m⟩ : Rn _)).2.s).toArray, .agg (cDd (dJ K.toaVg (⟨s, m⟩ : Rn _)).1).toArray] ∧ ∃ oT', iW tb u3 [(tb, oT')] ∧ ∃ G', H = (tb, oT') :: G' ∧ K.rep (dJ K.toaVg (⟨s, m⟩ : Rn _)).2.m G') := by
 have hp9 : 0 ≤ K.pend m ∧ K.pend m < 32 := K.oP h.m
 obtain ⟨r, ime, soon, halt, stop⟩ := s
 refine dO_ func123 hst ?_
 refine ZAl ?_
 refine RX (cM (l := cS ⟨r, ime, soon, halt, stop⟩) rfl rfl) rfl (ZCc fun b0 b1 => ?_)
 refine ZAI ?_
 rintro _ _ ⟨b2, rfl, rfl⟩
 refine ZBn ?_
 refine RS ?_
 refine ZAI ?_
 rintro _ _ ⟨b3, rfl, rfl⟩
 refine RZ (xS_ (l' := cDd ⟨0, 0, r.pc, oN, false⟩) 0) rfl (c_u ?_)
 refine A_15 ?_
 refine RZ (aK rfl rfl rfl (by first | exact aA m_m | exact hU m_m _ 14 rfl)) rfl (ZBL ?_)
 refine RS ?_
 refine RX (cM (l := cN K ⟨r, ime, soon, halt, stop⟩) rfl rfl) rfl ?_
 rintro _ _ ⟨b4, rfl, rfl⟩
 refine bF (aMg [(b3, _), (b2, _), (b1, _), (b0, _), (tb, _)]) ?_
 refine ZCz ?_
 rcases stop with _ | _
 ·refine A_12 ?_
  refine RX (gP (F := [(b3, _), (b2, _), (b1, _), (b0, _), (tb, _), (b4, _)]) (A := G) rfl K.mP K.cP rfl (fun w hw => K.dP h.m hG (St.lentV hw))) rfl ?_
  rintro _ _ ⟨GP, ⟨rfl, hGP⟩, rfl⟩
  rw [hGP]
  refine ZFJ ?_
  refine aCW [50, 51, 52, 53, 54, 55, 56, 57, 58] [(58, .bool (decide (halt = true ∧ K.pend m = 0)))] ?_ (fun y10 => ?_)
  ·rcases halt with _ | _
   ·exact ZDn
   exact ZDn
  refine KC (fun q0 z0 => ?_) (fun q0 z0 => ?_)
  ·refine ZA1 ?_
   refine RX (aR (F := [(b3, _), (b2, _), (b1, _), (b0, _), (tb, _)]) (A := (b4, _) :: _) K_ rfl (wL_ (ridle_fn K b4 1 y_b (⟨(⟨r, ime, soon, halt, false⟩ : CS), m⟩ : Rn _) (h.le o_m : RunOk K.toaVh (0 + 1) _) G hG))) rfl (ZAg fun G0 hG0 => ?_)
   refine ZAl ?_
   refine iE [(b3, blk (cDd ⟨0, 0, r.pc, oN, false⟩) 184), (b4, blk (cN K (⟨r, ime, soon, halt, false⟩ : CS)) 321)] [4, 5] (.step true 0 (.step true 1 (.step true 2 (.step true 3 (.step true 4 (.step false 5 (.step false 6 .done))))))) rfl y_f y_f (fun x hx => y_m) ?_
   refine ZA1 ?_
   refine cL rfl rfl rfl rfl (fun w hw => Row.left (dV (l := cN K (⟨r, ime, soon, halt, false⟩ : CS)) m_m w hw)) rfl rfl ?_
   refine ZD2 ?_
   refine DZ rfl (xS_ (l' := cS (⟨r, ime, soon, halt, false⟩ : CS)) 2) rfl y_dT (c_u ?_)
   refine DZ rfl (xS_ (l' := cDd ⟨0, 0, r.pc, oN, false⟩) 1) rfl y_dT (ZDb ?_)
   have e9 : dJ K.toaVg (⟨(⟨r, ime, soon, halt, false⟩ : CS), m⟩ : Rn _) = (⟨0, 0, r.pc, oN, false⟩, (⟨(⟨r, ime, soon, halt, false⟩ : CS), K.idle m⟩ : Rn _)) := by unfold dJ; exact (if_neg (c := false = true) y_b).trans (if_pos (c := halt = true ∧ K.pend m = 0) z0)
   exact fM (fun w hw => xK rfl rfl rfl (aA (b := b1) (l := cS (⟨r, ime, soon, halt, false⟩ : CS)) m_m w hw) rfl rfl rfl (aA (b := b2) (l := cDd ⟨0, 0, r.pc, oN, false⟩) m_m w hw)) (.cons _ (.cons _ (.cons _ (.cons _ (.cons_cons _ (.cons _ sR_)))))) ⟨y_eQ, oT, hT, G0, rfl, y_X⟩
  refine ZDH ?_
  refine RZ (xS_ (l' := cN K (⟨r, ime, soon, false, false⟩ : CS)) 5) rfl (ZDb ?_)
  refine aCW [70, 71, 72, 73, 74, 75, 76, 77, 78] [(78, .bool (decide (ime = true ∧ K.pend m ≠ 0)))] ?_ (fun y14 => ?_)
  ·rcases ime with _ | _
   ·exact ZDn
   exact ZDn
  refine KC (fun q1 z1 => ?_) (fun q1 z1 => ?_)
  ·refine ZBr ?_
   refine RX (aR (F := [(b3, _), (b2, _), (b1, _), (b0, _), (tb, _)]) (A := (b4, _) :: _) K_ rfl (wL_ (aES K b4 (⟨(⟨r, ime, soon, false, false⟩ : CS), m⟩ : Rn _) (⟨h.r, K.oL h.m o_m⟩ : RunOk K.toaVh (0 + 5) (⟨(⟨r, ime, soon, false, false⟩ : CS), m⟩ : Rn _)) G hG (K.pend m) o_m))) rfl (ZAg fun G0 hG0 => ?_)
   refine ZBL ?_
   refine RZ (xS_ (l' := cDd ⟨2, 0, r.pc, oN, false⟩) 0) rfl (ZFI ?_)
   refine RZ (xS_ (l' := cDd ⟨2, lH (K.pend m), r.pc, oN, false⟩) 0) rfl (ZDb ?_)
   refine iE [(b3, blk (cDd ⟨2, lH (K.pend m), r.pc, oN, false⟩) 184), (b4, blk (cN K (vW K.toaVg (K.pend m) (⟨(⟨r, ime, soon, false, false⟩ : CS), m⟩ : Rn _)).s) 321)] [4, 5] (.step true 0 (.step true 1 (.step true 2 (.step true 3 (.step true 4 (.step false 5 (.step false 6 .done))))))) rfl y_f y_f (fun x hx => y_m) ?_
   refine ZA1 ?_
   refine cL rfl rfl rfl rfl (fun w hw => Row.left (dV (l := cN K (vW K.toaVg (K.pend m) (⟨(⟨r, ime, soon, false, false⟩ : CS), m⟩ : Rn _)).s) m_m w hw)) rfl rfl ?_
   refine ZD2 ?_
   refine DZ rfl (xS_ (l' := cS (vW K.toaVg (K.pend m) (⟨(⟨r, ime, soon, false, false⟩ : CS), m⟩ : Rn _)).s) 2) rfl y_dT (c_u ?_)
   refine DZ rfl (xS_ (l' := cDd ⟨2, lH (K.pend m), r.pc, oN, false⟩) 1) rfl y_dT (ZDb ?_)
   have e9 : dJ K.toaVg (⟨(⟨r, ime, soon, halt, false⟩ : CS), m⟩ : Rn _) = (⟨2, lH (K.pend m), r.pc, oN, false⟩, (vW K.toaVg (K.pend m) (⟨(⟨r, ime, soon, false, false⟩ : CS), m⟩ : Rn _))) := by unfold dJ; exact (if_neg (c := false = true) y_b).trans ((if_neg (c := halt = true ∧ K.pend m = 0) z0).trans (if_pos (c := ime = true ∧ K.pend m ≠ 0) z1))
   exact fM (fun w hw => xK rfl rfl rfl (aA (b := b1) (l := cS (vW K.toaVg (K.pend m) (⟨(⟨r, ime, soon, false, false⟩ : CS), m⟩ : Rn _)).s) m_m w hw) rfl rfl rfl (aA (b := b2) (l := cDd ⟨2, lH (K.pend m), r.pc, oN, false⟩) m_m w hw)) (.cons _ (.cons _ (.cons _ (.cons _ (.cons_cons _ (.cons _ sR_)))))) ⟨y_eQ, oT, hT, G0, rfl, y_X⟩
  refine A_16 ?_
  refine RZ (xS_ (l' := cN K (⟨r, ime, false, false, false⟩ : CS)) 5) rfl (c_u ?_)
  refine ZBb ?_
  refine RX (aR (F := [(b3, _), (b2, _), (b1, _), (b0, _)]) (A := (tb, _) :: (b4, _) :: _) K_ rfl (wL_ (aOM K b4 (⟨(⟨r, ime, false, false, false⟩ : CS), m⟩ : Rn _) (⟨h.r, K.oL h.m o_m⟩ : RunOk K.toaVh (4 + 3) (⟨(⟨r, ime, false, false, false⟩ : CS), m⟩ : Rn _)) G hG tb u3 oT hT))) rfl ?_
  rintro _ _ ⟨_, ⟨rfl, oT0, hT0, G0, rfl, hG0⟩, rfl⟩
  refine ZFI ?_
  refine RZ (xS_ (l' := cDd ⟨1, 0, r.pc, oN, false⟩) 0) rfl (ZFI ?_)
  refine RZ (xS_ (l' := cDd ⟨1, 0, r.pc, (nextT K.toaVg (⟨(⟨r, ime, false, false, false⟩ : CS), m⟩ : Rn _)).1, false⟩) 0) rfl (ZDb ?_)
  have n9 := aLg (⟨h.r, K.oL h.m o_m⟩ : RunOk K.toaVh (4 + 3) (⟨(⟨r, ime, false, false, false⟩ : CS), m⟩ : Rn _))
  refine ZA1 ?_
  refine ZAS ?_
  refine ZAl ?_
  refine RX (aR (F := [(b3, _), (b2, _), (b1, _), (b0, _), (tb, _)]) (A := (b4, _) :: _) K_ rfl (wL_ (aK9 K b4 (nextT K.toaVg (⟨(⟨r, ime, false, false, false⟩ : CS), m⟩ : Rn _)).2 (n9.1 : RunOk K.toaVh (0 + 4) _) G0 hG0 (nextT K.toaVg (⟨(⟨r, ime, false, false, false⟩ : CS), m⟩ : Rn _)).1 n9.2 r.pc h.r.pc))) rfl (ZBk fun G1 hG1 => ?_)
  refine ZBL ?_
  refine RZ (xS_ (l' := cDd ⟨1, 0, r.pc, (nextT K.toaVg (⟨(⟨r, ime, false, false, false⟩ : CS), m⟩ : Rn _)).1, (ordT K.toaVg (nextT K.toaVg (⟨(⟨r, ime, false, false, false⟩ : CS), m⟩ : Rn _)).1 r.pc (nextT K.toaVg (⟨(⟨r, ime, false, false, false⟩ : CS), m⟩ : Rn _)).2).1⟩) 0) rfl (ZDb ?_)
  refine aCW [110, 111, 112, 113, 114, 115, 116] [(116, .bool (decide (soon = true ∧ (nextT K.toaVg (⟨(⟨r, ime, false, false, false⟩ : CS), m⟩ : Rn _)).1.kind ≠ 5)))] ?_ (fun y21 => ?_)
  ·rcases soon with _ | _
   ·refine A_9 ?_
    exact ⟨.cons (cA_ Value.bool y_b3) .nil, a_g, fun _ h => h⟩
   refine A_9 ?_
   exact ⟨.cons (cA_ Value.bool y_b3) .nil, a_g, fun _ h => h⟩
  refine KC (fun q2 z2 => ?_) (fun q2 z2 => ?_)
  ·refine ZBb ?_
   refine RZ (xS_ (l' := cN K { (ordT K.toaVg (nextT K.toaVg (⟨(⟨r, ime, false, false, false⟩ : CS), m⟩ : Rn _)).1 r.pc (nextT K.toaVg (⟨(⟨r, ime, false, false, false⟩ : CS), m⟩ : Rn _)).2).2.s with ime := true }) 5) rfl (ZDb ?_)
   refine iE [(b3, blk (cDd ⟨1, 0, r.pc, (nextT K.toaVg (⟨(⟨r, ime, false, false, false⟩ : CS), m⟩ : Rn _)).1, (ordT K.toaVg (nextT K.toaVg (⟨(⟨r, ime, false, false, false⟩ : CS), m⟩ : Rn _)).1 r.pc (nextT K.toaVg (⟨(⟨r, ime, false, false, false⟩ : CS), m⟩ : Rn _)).2).1⟩) 184), (b4, blk (cN K { (ordT K.toaVg (nextT K.toaVg (⟨(⟨r, ime, false, false, false⟩ : CS), m⟩ : Rn _)).1 r.pc (nextT K.toaVg (⟨(⟨r, ime, false, false, false⟩ : CS), m⟩ : Rn _)).2).2.s with ime := true }) 321)] [4, 5] (.step true 0 (.step true 1 (.step true 2 (.step true 3 (.step true 4 (.step false 5 (.step false 6 .done))))))) rfl y_f y_f (fun x hx => y_m) ?_
   refine ZA1 ?_
   refine cL rfl rfl rfl rfl (fun w hw => Row.left (dV (l := cN K { (ordT K.toaVg (nextT K.toaVg (⟨(⟨r, ime, false, false, false⟩ : CS), m⟩ : Rn _)).1 r.pc (nextT K.toaVg (⟨(⟨r, ime, false, false, false⟩ : CS), m⟩ : Rn _)).2).2.s with ime := true }) m_m w hw)) rfl rfl ?_
   refine ZD2 ?_
   refine DZ rfl (xS_ (l' := cS { (ordT K.toaVg (nextT K.toaVg (⟨(⟨r, ime, false, false, false⟩ : CS), m⟩ : Rn _)).1 r.pc (nextT K.toaVg (⟨(⟨r, ime, false, false, false⟩ : CS), m⟩ : Rn _)).2).2.s with ime := true }) 2) rfl y_dT (ZBx ?_)
   refine ZDb ?_
   have e9 : dJ K.toaVg (⟨(⟨r, ime, soon, halt, false⟩ : CS), m⟩ : Rn _) = (⟨1, 0, r.pc, (nextT K.toaVg (⟨(⟨r, ime, false, false, false⟩ : CS), m⟩ : Rn _)).1, (ordT K.toaVg (nextT K.toaVg (⟨(⟨r, ime, false, false, false⟩ : CS), m⟩ : Rn _)).1 r.pc (nextT K.toaVg (⟨(⟨r, ime, false, false, false⟩ : CS), m⟩ : Rn _)).2).1⟩, (⟨{ (ordT K.toaVg (nextT K.toaVg (⟨(⟨r, ime, false, false, false⟩ : CS), m⟩ : Rn _)).1 r.pc (nextT K.toaVg (⟨(⟨r, ime, false, false, false⟩ : CS), m⟩ : Rn _)).2).2.s with ime := true }, (ordT K.toaVg (nextT K.toaVg (⟨(⟨r, ime, false, false, false⟩ : CS), m⟩ : Rn _)).1 r.pc (nextT K.toaVg (⟨(⟨r, ime, false, false, false⟩ : CS), m⟩ : Rn _)).2).2.m⟩ : Rn _)) := by unfold dJ; exact (if_neg (c := false = true) y_b).trans ((if_neg (c := halt = true ∧ K.pend m = 0) z0).trans ((if_neg (c := ime = true ∧ K.pend m ≠ 0) z1).trans (cA_ (Prod.mk _) (if_pos (c := soon = true ∧ (nextT K.toaVg (⟨(⟨r, ime, false, false, false⟩ : CS), m⟩ : Rn _)).1.kind ≠ 5) z2))))
   exact fM (fun w hw => xK rfl rfl rfl (aA (b := b1) (l := cS { (ordT K.toaVg (nextT K.toaVg (⟨(⟨r, ime, false, false, false⟩ : CS), m⟩ : Rn _)).1 r.pc (nextT K.toaVg (⟨(⟨r, ime, false, false, false⟩ : CS), m⟩ : Rn _)).2).2.s with ime := true }) m_m w hw) rfl rfl rfl (aA (b := b2) (l := cDd ⟨1, 0, r.pc, (nextT K.toaVg (⟨(⟨r, ime, false, false, false⟩ : CS), m⟩ : Rn _)).1, (ordT K.toaVg (nextT K.toaVg (⟨(⟨r, ime, false, false, false⟩ : CS), m⟩ : Rn _)).1 r.pc (nextT K.toaVg (⟨(⟨r, ime, false, false, false⟩ : CS), m⟩ : Rn _)).2).1⟩) m_m w hw)) (.cons _ (.cons _ (.cons _ (.cons _ (.cons_cons _ (.cons _ sR_)))))) ⟨y_eQ, oT0, hT0, G1, rfl, y_0⟩
  refine ZAl ?_
  refine iE [(b3, blk (cDd ⟨1, 0, r.pc, (nextT K.toaVg (⟨(⟨r, ime, false, false, false⟩ : CS), m⟩ : Rn _)).1, (ordT K.toaVg (nextT K.toaVg (⟨(⟨r, ime, false, false, false⟩ : CS), m⟩ : Rn _)).1 r.pc (nextT K.toaVg (⟨(⟨r, ime, false, false, false⟩ : CS), m⟩ : Rn _)).2).1⟩) 184), (b4, blk (cN K (ordT K.toaVg (nextT K.toaVg (⟨(⟨r, ime, false, false, false⟩ : CS), m⟩ : Rn _)).1 r.pc (nextT K.toaVg (⟨(⟨r, ime, false, false, false⟩ : CS), m⟩ : Rn _)).2).2.s) 321)] [4, 5] (.step true 0 (.step true 1 (.step true 2 (.step true 3 (.step true 4 (.step false 5 (.step false 6 .done))))))) rfl y_f y_f (fun x hx => y_m) ?_
  refine ZA1 ?_
  refine cL rfl rfl rfl rfl (fun w hw => Row.left (dV (l := cN K (ordT K.toaVg (nextT K.toaVg (⟨(⟨r, ime, false, false, false⟩ : CS), m⟩ : Rn _)).1 r.pc (nextT K.toaVg (⟨(⟨r, ime, false, false, false⟩ : CS), m⟩ : Rn _)).2).2.s) m_m w hw)) rfl rfl ?_
  refine ZD2 ?_
  refine DZ rfl (xS_ (l' := cS (ordT K.toaVg (nextT K.toaVg (⟨(⟨r, ime, false, false, false⟩ : CS), m⟩ : Rn _)).1 r.pc (nextT K.toaVg (⟨(⟨r, ime, false, false, false⟩ : CS), m⟩ : Rn _)).2).2.s) 2) rfl y_dT (ZBx ?_)
  refine ZDb ?_
  have e9 : dJ K.toaVg (⟨(⟨r, ime, soon, halt, false⟩ : CS), m⟩ : Rn _) = (⟨1, 0, r.pc, (nextT K.toaVg (⟨(⟨r, ime, false, false, false⟩ : CS), m⟩ : Rn _)).1, (ordT K.toaVg (nextT K.toaVg (⟨(⟨r, ime, false, false, false⟩ : CS), m⟩ : Rn _)).1 r.pc (nextT K.toaVg (⟨(⟨r, ime, false, false, false⟩ : CS), m⟩ : Rn _)).2).1⟩, ((ordT K.toaVg (nextT K.toaVg (⟨(⟨r, ime, false, false, false⟩ : CS), m⟩ : Rn _)).1 r.pc (nextT K.toaVg (⟨(⟨r, ime, false, false, false⟩ : CS), m⟩ : Rn _)).2).2 : Rn _)) := by unfold dJ; exact (if_neg (c := false = true) y_b).trans ((if_neg (c := halt = true ∧ K.pend m = 0) z0).trans ((if_neg (c := ime = true ∧ K.pend m ≠ 0) z1).trans (cA_ (Prod.mk _) (if_neg (c := soon = true ∧ (nextT K.toaVg (⟨(⟨r, ime, false, false, false⟩ : CS), m⟩ : Rn _)).1.kind ≠ 5) z2))))
  exact fM (fun w hw => xK rfl rfl rfl (aA (b := b1) (l := cS (ordT K.toaVg (nextT K.toaVg (⟨(⟨r, ime, false, false, false⟩ : CS), m⟩ : Rn _)).1 r.pc (nextT K.toaVg (⟨(⟨r, ime, false, false, false⟩ : CS), m⟩ : Rn _)).2).2.s) m_m w hw) rfl rfl rfl (aA (b := b2) (l := cDd ⟨1, 0, r.pc, (nextT K.toaVg (⟨(⟨r, ime, false, false, false⟩ : CS), m⟩ : Rn _)).1, (ordT K.toaVg (nextT K.toaVg (⟨(⟨r, ime, false, false, false⟩ : CS), m⟩ : Rn _)).1 r.pc (nextT K.toaVg (⟨(⟨r, ime, false, false, false⟩ : CS), m⟩ : Rn _)).2).1⟩) m_m w hw)) (.cons _ (.cons _ (.cons _ (.cons _ (.cons_cons _ (.cons _ sR_)))))) ⟨y_eQ, oT0, hT0, G1, rfl, y_0⟩
 refine A_11 ?_
 refine RX (aR (F := [(b3, _), (b2, _), (b1, _), (b0, _), (tb, _)]) (A := (b4, _) :: _) K_ rfl (wL_ (ridle_fn K b4 1 y_b (⟨(⟨r, ime, soon, halt, true⟩ : CS), m⟩ : Rn _) (h.le o_m : RunOk K.toaVh (0 + 1) _) G hG))) rfl (ZAg fun G0 hG0 => ?_)
 refine ZBb ?_
 refine RX (gP (F := [(b3, _), (b2, _), (b1, _), (b0, _), (tb, _), (b4, _)]) (A := G0) rfl K.mP K.cP rfl (fun w hw => K.dP (K.oI h.m) hG0 (St.lentV hw))) rfl ?_
 rintro _ _ ⟨GP, ⟨rfl, hGP⟩, rfl⟩
 rw [hGP]
 refine c_u ?_
 refine RW (v := (.int .u8 (aH .u8 (K.pend (K.idle m)) 16))) (bE rfl rfl) rfl rfl (RW (v := (.bool (K.pend (K.idle m) / 16 % 2 == 0))) rfl rfl (cA_ _ (aOz (K.oP (K.oI h.m)))) (ZA1 ?_))
 refine RZ (xS_ (l' := cN K (⟨r, ime, soon, halt, (K.pend (K.idle m) / 16 % 2 == 0)⟩ : CS)) 5) rfl (ZDb ?_)
 refine iE [(b3, blk (cDd ⟨0, 0, r.pc, oN, false⟩) 184), (b4, blk (cN K (⟨r, ime, soon, halt, (K.pend (K.idle m) / 16 % 2 == 0)⟩ : CS)) 321)] [4, 5] (.step true 0 (.step true 1 (.step true 2 (.step true 3 (.step true 4 (.step false 5 (.step false 6 .done))))))) rfl y_f y_f (fun x hx => y_m) ?_
 refine ZA1 ?_
 refine cL rfl rfl rfl rfl (fun w hw => Row.left (dV (l := cN K (⟨r, ime, soon, halt, (K.pend (K.idle m) / 16 % 2 == 0)⟩ : CS)) m_m w hw)) rfl rfl ?_
 refine ZD2 ?_
 refine DZ rfl (xS_ (l' := cS (⟨r, ime, soon, halt, (K.pend (K.idle m) / 16 % 2 == 0)⟩ : CS)) 2) rfl y_dT (c_u ?_)
 refine DZ rfl (xS_ (l' := cDd ⟨0, 0, r.pc, oN, false⟩) 1) rfl y_dT (ZDb ?_)
 have e9 : dJ K.toaVg (⟨(⟨r, ime, soon, halt, true⟩ : CS), m⟩ : Rn _) = (⟨0, 0, r.pc, oN, false⟩, (⟨(⟨r, ime, soon, halt, (K.pend (K.idle m) / 16 % 2 == 0)⟩ : CS), K.idle m⟩ : Rn _)) := by unfold dJ; exact if_pos (c := true = true) rfl
 exact fM (fun w hw => xK rfl rfl rfl (aA (b := b1) (l := cS (⟨r, ime, soon, halt, (K.pend (K.idle m) / 16 % 2 == 0)⟩ : CS)) m_m w hw) rfl rfl rfl (aA (b := b2) (l := cDd ⟨0, 0, r.pc, oN, false⟩) m_m w hw)) (.cons _ (.cons _ (.cons _ (.cons _ (.cons_cons _ (.cons _ sR_)))))) ⟨y_eQ, oT, hT, G0, rfl, y_X⟩
def aPt (A : Ad) (hd : A.rb ∉ [A.mb, A.ub] ∧ A.ob ∉ [A.mb, A.ub]) : kF prog Mm where
 toaVg := dY
 t0 := 268
 v := .agg #[P_ A.mb]
 rep := rO A
 ok := gN
 fF := 314
 mF := fun v w => by rfl
 cF := K_
 fR := 317
 mR := fun v w => by rfl
 cR := K_
 fW := 318
 mW := fun v w => by rfl
 cW := K_
 fI := 315
 mI := fun v w => by rfl
 cI := K_
 fP := 316
 mP := fun v w => by rfl
 cP := K_
 fA := 313
 mA := fun v w => by rfl
 cA := K_
 dF := fun h hr hw ha => aHk A hd _ h _ hr _ ha _ hw
 dR := fun h hr hw ha => aID A hd _ h _ hr _ ha _ hw
 dW := fun h hr hw ha hx => aHd A hd _ h _ hr _ _ ha hx _ hw
 dI := fun h hr hw => aIp A hd _ h _ hr _ hw
 dP := fun h hr hw => aEU A hd _ h _ hr _ hw
 dA := fun h hr hw hk => aKk A hd _ h _ hr _ hk _ hw
 oF := fun h ha => ⟨h.get 3 ha, uF h.wf.cycle _⟩
 oR := fun h ha => ⟨h.get 1 ha, uF h.wf.cycle _⟩
 oW := fun h ha hx => h.write ha hx
 oI := fun h => h.cycle.note 0 y_b y_b
 oP := fun _ => aGc _
 oA := fun h hk => h.ack hk
 oL := fun h hk => h.le hk
set_option maxHeartbeats 2000000 in
def aG2 (A : Ad) (hd : A.rb ∉ [A.mb, A.ub] ∧ A.ob ∉ [A.mb, A.ub]) (tb : Nat) (u3 : AH) (oT : Obj) (hT : iW tb u3 [(tb, oT)]) (hAt : A.tab = P_ tb) (plan : List Chg) (pa : AC) (pc : Nat) (hAp : A.plan = .slice pa plan.length pc) (hpo : ∀ c ∈ plan, kN c) (hpl : plan.length ≤ 1000000) (m : Mm) (h : m.Wf) (hcr : m.cpu.r.Ok) (va : AH) (ms : AE) (w : AI) (hst : St w ms [(tb, oT), (A.mb, blk (cMm A va m) 156), (A.ub, blk (cU m.u) 247), (A.rb, blk (List.map U_ m.ram ++ A.rs) 5), (A.ob, blk (List.map U_ m.rom ++ A.sp) 5)] w) (hE : Els w nR pa plan) (hpn : ∀ p, pa = some p → p.block ∉ ms) : aB prog 72 [P_ A.mb] w ms (fun v H => ∃ va' oT' Ga', v = .tuple #[.agg (cDd (cE plan m).1).toArray, va'] ∧ Vec 298 3 va' (cE plan m).2.acc.length (aF cAc (cE plan m).2.acc) Ga' ∧ iW tb u3 [(tb, oT')] ∧ H = (tb, oT') :: (Ga' ++ [(A.mb, blk (cMm A va' (cE plan m).2) 156), (A.ub, blk (cU (cE plan m).2.u) 247), (A.rb, blk (List.map U_ (cE plan m).2.ram ++ A.rs) 5), (A.ob, blk (List.map U_ (cE plan m).2.rom ++ A.sp) 5)])) := by
 have hA1 : MLn ({ m with pd := hY (eS plan m.steps) m.pd } : Mm) := ⟨h.ln.bd, h.ln.work, h.ln.high⟩
 have hs1 : ((kA (eS plan m.steps) m)).Wf := h.press (aEf hpo _)
 have e9 : ((kA (eS plan m.steps) m)).cpu = m.cpu := by unfold kA askM; split <;> rfl
 have eu9 : (bT plan m).u = m.u := uV _ _ _
 have er9 : (bT plan m).ram = m.ram := pA _ _ _
 have eo9 : (bT plan m).rom = m.rom := oX _ _ _
 have hst0 : gN 7 (bT plan m) := ⟨h.start hpo, by show (0 : Nat) + 7 ≤ 1000000; decide, fun e he => by cases he⟩
 have hq := (aDu (K := (aPt A hd).toaVh) (n := 0) (x := (⟨m.cpu, bT plan m⟩ : Rn Mm)) ⟨hcr, hst0⟩)
 have hqw : ((dJ dY (⟨m.cpu, bT plan m⟩ : Rn Mm)).2.m).Wf := hq.m.wf
 have hc1 : MLn ({ (dJ dY (⟨m.cpu, bT plan m⟩ : Rn Mm)).2.m with cpu := (dJ dY (⟨m.cpu, bT plan m⟩ : Rn Mm)).2.s } : Mm) := ⟨hqw.ln.bd, hqw.ln.work, hqw.ln.high⟩
 refine dO_ func72 hst ?_
 refine ZDX fun b0 => ?_
 refine ZBn ?_
 refine ZAE ?_
 refine ZEf ?_
 refine DR [6, 7, 8, 9, 10, 11, 12, 13, 14, 15] (pln [0, 2, 4, 6, 8, 10, 12, 14, 16, 18, 20, 22, 24, 26, 28, 31, 33, 34, 36, 38, 40, 42, 44, 47, 48]) ?_
 refine ZBb ?_
 refine cL rfl rfl rfl rfl (fun w hw => aDw (m := m) (acc := va) (dV (b := A.mb) m_m w hw)) rfl rfl ?_
 refine ZA1 ?_
 refine DL rfl rfl rfl (cJ (v := .slice pa plan.length pc) m_m (by rw [← hAp]; exact get_mid h.ln (j := 5) rfl)) rfl (ZBr ?_)
 refine DL rfl rfl rfl (cJ (v := .int .u64 m.steps) m_m (get_mid h.ln (j := 2) rfl)) rfl (DZ rfl (bJ K_ rfl (fun w hw => aL2 plan pa pc hpl m.steps w (Els.laterM hE hpn hw))) rfl y_d (DZ rfl (bJ K_ rfl (wQ_ (aII m.pd (eS plan m.steps)))) rfl n_h (ZBy ?_)))
 refine ZBb ?_
 refine DZ rfl (aD (l' := cMm A va { m with pd := hY (eS plan m.steps) m.pd }) 2 rfl rfl rfl rfl rfl rfl y_w (aHW _)) rfl n_h (ZEZ ?_)
 refine RX (bB (F := [(b0, _), (tb, oT)]) (A := [(A.mb, blk (cMm A va { m with pd := hY (eS plan m.steps) m.pd }) 156)]) (G := [(A.ub, blk (cU m.u) 247), (A.rb, blk (List.map U_ m.ram ++ A.rs) 5), (A.ob, blk (List.map U_ m.rom ++ A.sp) 5)]) (R := fun v H => v = .tuple #[] ∧ H = [(A.mb, blk (cMm A va (askM 16 (nP m.pd (hY (eS plan m.steps) m.pd)) { m with pd := hY (eS plan m.steps) m.pd })) 156)]) K_ rfl (fun w hw _ => ask_fnM A va { m with pd := hY (eS plan m.steps) m.pd } hA1 16 (nP m.pd (hY (eS plan m.steps) m.pd)) w hw)) rfl (ZAG ?_)
 refine ZAl ?_
 refine eW (L' := [(b0, _), (tb, oT), (A.mb, blk (cMm A va (kA (eS plan m.steps) m)) 156), (A.ub, blk (cU m.u) 247), (A.rb, blk (List.map U_ m.ram ++ A.rs) 5), (A.ob, blk (List.map U_ m.rom ++ A.sp) 5)]) (fun _ h => h) ?_
 refine ZBr ?_
 refine RZ (aD (l' := cMm A (.slice none 0 0) (kA (eS plan m.steps) m)) 2 rfl rfl rfl rfl rfl rfl (by rw [cMm_len hs1.ln]; exact ae rfl) (aBV hs1.ln _)) rfl (ZD1 ?_)
 refine ZAu fun b1 => ?_
 refine ZAl ?_
 refine DR [5, 6, 7, 8, 9, 10, 11, 12] (pln [0, 2, 4, 6, 8, 10, 12, 14, 16, 18, 20, 22, 24, 27, 28, 30, 32, 34, 36, 38, 41, 43]) ?_
 refine ZBr ?_
 refine DL rfl rfl rfl (cJ (v := P_ tb) m_m (by rw [← hAt]; exact get_mid (m := (kA (eS plan m.steps) m)) hs1.ln (j := 13) rfl)) rfl (ZBr ?_)
 refine cL rfl rfl rfl rfl (fun w hw => (show Row w A.mb 0 (cS m.cpu) from by have h9 := aFs (m := (kA (eS plan m.steps) m)) (acc := (.slice none 0 0)) (dV (b := A.mb) m_m w hw); rwa [e9] at h9)) rfl rfl ?_
 refine ZBL ?_
 refine ZED ?_
 refine ZBL ?_
 refine DX rfl (aR (F := [(b1, _), (b0, _)]) (A := (tb, oT) :: [(A.mb, blk (cMm A (.slice none 0 0) (kA (eS plan m.steps) m)) 156), (A.ub, blk (cU m.u) 247), (A.rb, blk (List.map U_ m.ram ++ A.rs) 5), (A.ob, blk (List.map U_ m.rom ++ A.sp) 5)]) (R := fun v H => v = .tuple #[.agg (cS (dJ dY (⟨m.cpu, bT plan m⟩ : Rn Mm)).2.s).toArray, .agg (cDd (dJ dY (⟨m.cpu, bT plan m⟩ : Rn Mm)).1).toArray] ∧ ∃ oT', iW tb u3 [(tb, oT')] ∧ ∃ G', H = (tb, oT') :: G' ∧ rO A (dJ dY (⟨m.cpu, bT plan m⟩ : Rn Mm)).2.m G') K_ rfl (wL_ (aRx (bn := 0) (aPt A hd) m.cpu (bT plan m) ⟨hcr, hst0⟩ [(A.mb, blk (cMm A (.slice none 0 0) (kA (eS plan m.steps) m)) 156), (A.ub, blk (cU m.u) 247), (A.rb, blk (List.map U_ m.ram ++ A.rs) 5), (A.ob, blk (List.map U_ m.rom ++ A.sp) 5)] ⟨.slice none 0 0, [], .nil, by show _ = [(A.mb, _), (A.ub, blk (cU (bT plan m).u) _), (A.rb, blk (List.map _ (bT plan m).ram ++ A.rs) _), (A.ob, blk (List.map _ (bT plan m).rom ++ A.sp) _)]; rw [eu9, er9, eo9]; rfl⟩ tb u3 oT hT))) rfl n_h ?_
 rintro _ _ ⟨_, ⟨rfl, oT', hT', G', rfl, va', Ga', hV', rfl⟩, rfl⟩
 obtain ⟨a8, c0, rfl⟩ := hV'.slice
 refine eX (fun w hw => hw.perm (aw (l₁ := [(b1, _), (b0, _), (tb, oT')] ++ Ga') (l₂ := [(A.mb, blk (cMm A (.slice a8 (dJ dY (⟨m.cpu, bT plan m⟩ : Rn Mm)).2.m.acc.length c0) (dJ dY (⟨m.cpu, bT plan m⟩ : Rn Mm)).2.m) 156), (A.ub, blk (cU (dJ dY (⟨m.cpu, bT plan m⟩ : Rn Mm)).2.m.u) 247), (A.rb, blk (List.map U_ (dJ dY (⟨m.cpu, bT plan m⟩ : Rn Mm)).2.m.ram ++ A.rs) 5), (A.ob, blk (List.map U_ (dJ dY (⟨m.cpu, bT plan m⟩ : Rn Mm)).2.m.rom ++ A.sp) 5)]))) ?_
 refine ZBt ?_
 refine ZBy ?_
 refine ZBb ?_
 refine DZ rfl (aD (l' := cMm A (.slice a8 (dJ dY (⟨m.cpu, bT plan m⟩ : Rn Mm)).2.m.acc.length c0) { (dJ dY (⟨m.cpu, bT plan m⟩ : Rn Mm)).2.m with cpu := (dJ dY (⟨m.cpu, bT plan m⟩ : Rn Mm)).2.s }) 0 rfl rfl rfl rfl rfl rfl (by rw [cMm_len hqw.ln]; exact ae rfl) (aN4 _)) rfl n_h (c_u ?_)
 refine DZ rfl (xS_ (l' := cDd (dJ dY (⟨m.cpu, bT plan m⟩ : Rn Mm)).1) 4) rfl n_h (c_u ?_)
 refine ZDH ?_
 refine RZ (aE rfl rfl (aJ (v := .int .u64 (dJ dY (⟨m.cpu, bT plan m⟩ : Rn Mm)).2.m.steps) m_m (get_mid (m := ({ (dJ dY (⟨m.cpu, bT plan m⟩ : Rn Mm)).2.m with cpu := (dJ dY (⟨m.cpu, bT plan m⟩ : Rn Mm)).2.s } : Mm)) hc1 (j := 2) rfl))) rfl (RW (v := (.int .u64 (((dJ dY (⟨m.cpu, bT plan m⟩ : Rn Mm)).2.m.steps + 1) % 18446744073709551616))) (jD rfl rfl) rfl (aBf _) (ZA1 ?_))
 refine RZ (aD (l' := cMm A (.slice a8 (dJ dY (⟨m.cpu, bT plan m⟩ : Rn Mm)).2.m.acc.length c0) (cE plan m).2) 0 rfl rfl rfl rfl rfl rfl (by rw [cMm_len hc1]; exact ae rfl) (aDa hc1 _)) rfl (ZDb ?_)
 refine iE [(A.mb, blk (cMm A (.slice a8 (dJ dY (⟨m.cpu, bT plan m⟩ : Rn Mm)).2.m.acc.length c0) (cE plan m).2) 156), (b1, blk (cDd (cE plan m).1) 184)] [1, 2, 3, 4, 5] (.step true 0 (.step true 1 (.step true 2 (.step true 3 (.step true 4 (.step false 5 (.step true 6 .done))))))) rfl y_f y_f (fun x hx => y_m) ?_
 refine cL rfl rfl rfl rfl (dV (b := b1) (l := cDd (dJ dY (⟨m.cpu, bT plan m⟩ : Rn Mm)).1) m_m) rfl rfl ?_
 refine ZA1 ?_
 refine DL rfl rfl rfl (cJ (v := (.slice a8 (dJ dY (⟨m.cpu, bT plan m⟩ : Rn Mm)).2.m.acc.length c0)) m_m (aIc (m := (cE plan m).2) (⟨hqw.ln.bd, hqw.ln.work, hqw.ln.high⟩ : MLn (cE plan m).2))) rfl (DZ rfl (xS_ (l' := cDd (cE plan m).1) 5) rfl (by intro _ _ _ hK; obtain ⟨rfl, rfl⟩ := hK; exact (fun x hx => y_m)) (ZFJ ?_))
 exact eY (fun w hw => aY rfl rfl rfl (aA (b := b0) (l := cDd (cE plan m).1) m_m w hw) rfl) (fun w hw => (hw.sub (.cons_cons _ (.cons_cons _ (.cons_cons _ (.cons_cons _ (.cons _ (.cons _ sR_))))))).perm (aw (l₁ := [(A.mb, blk (cMm A (.slice a8 (dJ dY (⟨m.cpu, bT plan m⟩ : Rn Mm)).2.m.acc.length c0) (cE plan m).2) 156), (A.ub, blk (cU (cE plan m).2.u) 247), (A.rb, blk (List.map U_ (cE plan m).2.ram ++ A.rs) 5), (A.ob, blk (List.map U_ (cE plan m).2.rom ++ A.sp) 5)]) (l₂ := (tb, oT') :: Ga'))) ⟨_, oT', Ga', rfl, hV', hT', rfl⟩
def yV (r : Bool) (lb pb o n : Nat) (hn : n ≤ 8) (va : AH) (bs : AB) (Gl : aC) (hV : LineB 5 r va bs Gl) (L : AA) (hS : fG r n (L, bs)) (T : Nat) (hf : Fit (.long n) L o) (ms : AE) (w : AI) (hst : St w ms ((pb, blk L T) :: (lb, blk [va, .bool r] 123) :: Gl) w) : aB prog 99 [P_ lb, .pointer (some ⟨pb, o, none⟩), .int .i64 n] w ms (fun v H => v = .tuple #[] ∧ ∃ va' Gl', LineB 5 r va' (pass1 r (.long n) (L, bs) o).2 Gl' ∧ H = (pb, blk (pass1 r (.long n) (L, bs) o).1 T) :: (lb, blk [va', .bool r] 123) :: Gl') := by
 have hby := hS.byts
 have hen := hS.en
 have hsz := hS.sz
 dsimp only at hby hen hsz
 have hx9 : L[o]? = some (.int .u64 (FK.at L o)) := hf.at.1
 have hk9 : 0 ≤ (FK.at L o) ∧ (FK.at L o) < 18446744073709551616 := hf.at.2
 have ho9 := hf.lt
 refine dO_ func99 hst ?_
 refine ZAl ?_
 rcases r with _ | _
 ·refine ZBb ?_
  refine ZAQ ?_
  refine ZBr ?_
  replace hV := hV.write
  refine ZBb ?_
  refine bD (σ := Nat × AH × aC) [6, 14, 15, 16, 17, 18, 19, 20, 21, 22, 23, 24, 25, 26, 27, 28, 29, 30, 31, 32, 33] (fun s => [(14, .int .i64 s.1)]) (fun s => (pb, blk L T) :: (lb, blk [s.2.1, .bool false] 123) :: (s.2.2 ++ [])) (fun s => s.1 ≤ n ∧ Vec 5 1 s.2.1 (bs ++ dE s.1 (FK.at L o)).length ((bs ++ dE s.1 (FK.at L o)).map (.int .u8)) s.2.2) (fun s => n - s.1) (0, va, Gl) ?_ ?_ ?_ ?_
  ·exact ⟨al _, by rw [show dE 0 (FK.at L o) = [] from rfl, bg]; exact hV⟩
  ·exact .cons rfl .nil
  ·exact fun _ h => by rw [bg]; exact h
  rintro ⟨i, v0, G0⟩ y2 ⟨hi, hV0⟩
  dsimp only at hi hV0 ⊢
  obtain ⟨a6, c0, rfl⟩ := hV0.slice
  refine ZBb ?_
  refine KC (fun q0 z0 => ?_) (fun q0 z0 => ?_)
  ·refine ZEf ?_
   refine iE [(pb, blk L T), (lb, blk [(.slice a6 (bs ++ dE i (FK.at L o)).length c0), .bool false] 123)] [5, 6, 7, 8, 9, 10, 11, 12] (.step true 0 (.step true 1 (.step true 2 (.step true 3 (.step true 4 (.step true 5 (.step true 6 (.step true 7 (.step true 8 (.step true 9 (.step true 10 (.step true 11 (.step false 12 (.step false 13 (.step true 14 (.step true 15 (.step false 16 .done))))))))))))))))) rfl y_f y_f (fun x hx => y_m) ?_
   refine ZBr ?_
   refine DL rfl rfl rfl (cJ (v := (.slice a6 (bs ++ dE i (FK.at L o)).length c0)) m_m rfl) rfl (ZAl ?_)
   refine DL rfl rfl rfl (cJ (v := .int .u64 (FK.at L o)) m_m hx9) rfl (ZBL ?_)
   refine DW (v := (.int .i64 ((8 * i : Nat) : Int))) rfl (yR rfl rfl) rfl ((lU o_m o_m).trans (cA_ _ o_m)) (DY rfl (dU rfl rfl o_m) rfl (DW (v := (.int .u8 (dgt (FK.at L o) i))) rfl (dN rfl rfl rfl) rfl (cA_ _ (aSF o_m rfl)) (DX rfl (dX (z := [.int .u8 0]) (l := [.int .u8 (dgt (FK.at L o) i)]) (ps := [(0, .int .u8 (dgt (FK.at L o) i))]) rfl rfl rfl rfl rfl rfl) rfl y_eI ?_)))
   refine ZAq fun b0 => ?_
   refine DX rfl (gD (A := [(b0, _), (pb, _), (lb, _)]) (G := G0) (R := []) (v := (.slice a6 (bs ++ dE i (FK.at L o)).length c0)) (n := (bs ++ dE i (FK.at L o)).length) (xs := (bs ++ dE i (FK.at L o)).map (.int .u8)) (m := 1) (T := 5) (s := 1) (by_ := 1) (ys := [.int .u8 (dgt (FK.at L o) i)]) rfl rfl rfl rfl hV0 (fun w hw => .row _ _ _ _ _ rfl (aA (b := b0) (.head _) w hw)) rfl (by rw [La_, rG]; omega) (by rw [La_, rG]; omega)) rfl n_h ?_
   rintro v1 _ ⟨G1, hV1, _, rfl⟩
   obtain ⟨b1, cp9, sp0, rfl, rfl, hc0, hle9, hm9⟩ := hV1.full o_m
   refine ZB3 ?_
   refine DZ rfl (xS_ (l' := [(.slice (Q_ b1) ((bs ++ dE i (FK.at L o)).length + 1) cp9), .bool false]) 3) rfl n_h (ZB3 ?_)
   refine ZAD ?_
   exact ⟨(i + 1, _, [(b1, _)]), ⟨y_y, hV1.as (by simp only [aED, La_, ar]; omega) (by simp only [aED, be, ce, cz, As_])⟩, y_y, .cons rfl .nil, a_g, fun _ h => (h.sub (.cons_cons _ (.cons _ sR_))).perm (aw (l₁ := [(b1, _)]) (l₂ := [_, _]))⟩
  refine ZAl ?_
  obtain rfl : i = n := by omega
  exact EN y_cx ⟨rfl, _, G0, hV0, rfl⟩
 refine ZBb ?_
 refine ZAE ?_
 refine ZBr ?_
 obtain ⟨cb, off, c, all, rfl, hle, rfl, hall⟩ := hV.read
 replace hen := hen rfl
 refine ZA1 ?_
 refine RZ (aD (l' := (aO L o [.int .u64 (val bs 0)])) 0 rfl rfl rfl rfl rfl rfl ho9 rfl) rfl (ZAA ?_)
 refine ZEf ?_
 refine bD (σ := Nat) [7, 37, 38, 39, 40, 41, 42, 43, 44, 45, 46, 47, 48, 49, 50, 51, 52, 53, 54, 55, 56] (fun i => [(37, .int .i64 i)]) (fun i => [(pb, blk (aO L o [.int .u64 (val bs i)]) T), (lb, blk [(.slice (some ⟨cb, off, none⟩) bs.length c), .bool true] 123), (cb, blk all 5)]) (fun i => i ≤ n) (fun i => n - i) 0 ?_ ?_ ?_ ?_
 ·exact al _
 ·exact .cons rfl .nil
 ·exact fun _ h => h
 rintro i y8 hi
 refine ZBb ?_
 refine KC (fun q0 z0 => ?_) (fun q0 z0 => ?_)
 ·refine ZEf ?_
  refine iE [(pb, blk (aO L o [.int .u64 (val bs i)]) T), (lb, blk [(.slice (some ⟨cb, off, none⟩) bs.length c), .bool true] 123), (cb, blk all 5)] [3, 4, 5, 6, 7, 8, 9, 10, 11, 12, 13] (.step true 0 (.step true 1 (.step true 2 (.step true 3 (.step true 4 (.step true 5 (.step true 6 (.step true 7 (.step true 8 (.step true 9 (.step true 10 (.step true 11 (.step true 12 (.step true 13 (.step true 14 (.step true 15 (.step false 16 .done))))))))))))))))) rfl y_f y_f (fun _ h => h) ?_
  refine ZAl ?_
  refine DL rfl rfl rfl (cJ (v := .int .u64 (val bs i)) m_m (by rw [uH ho9, if_pos rfl])) rfl (ZA1 ?_)
  refine DL rfl rfl rfl (cJ (v := (.slice (some ⟨cb, off, none⟩) bs.length c)) m_m rfl) rfl (ZBL ?_)
  refine DY rfl (aP i rfl rfl rfl rfl o_m) rfl (DL rfl rfl rfl (cJ (v := .int .u8 (bs.getD i 0)) m_m (hall i _ (cX o_m))) rfl (DW (v := (.int .u64 (bs.getD i 0))) rfl (dN rfl rfl rfl) rfl (xN (hby.get i).1 (by have := (hby.get i).2; omega)) (ZBL ?_)))
  refine DW (v := (.int .i64 ((8 * i : Nat) : Int))) rfl (yR rfl rfl) rfl ((lU o_m o_m).trans (cA_ _ o_m)) (DY rfl (dO rfl rfl o_m) rfl (DW (v := (.int .u64 (val bs (i + 1)))) rfl (cT rfl rfl) rfl (cA_ _ (aTm o_m rfl (val_ok hby i) (hby.get i))) (ZBL ?_)))
  refine DZ rfl (aD (l' := (aO L o [.int .u64 (val bs (i + 1))])) 0 rfl rfl rfl rfl rfl rfl (by rw [aAk ho9]; exact ho9) (aI4 ho9)) rfl n_h (ZB3 ?_)
  exact ZD0
 refine ZEf ?_
 refine RY (dT n bs.length rfl rfl rfl rfl rfl rfl o_m o_m) rfl (ZAl ?_)
 refine RZ (xS_ (l' := [.slice (some ⟨cb, cut1 off n c, none⟩) (bs.length - n) (c - n), .bool true]) 1) rfl (ZAA ?_)
 refine ZBL ?_
 obtain rfl : i = n := by omega
 exact EN sR_ ⟨rfl, _, _, LineB.cut hle hen hall, rfl⟩
def number1L_fn (r : Bool) (lb xb n : Nat) (hn : n ≤ 8) (va : AH) (x : Int) (hx : 0 ≤ x ∧ x < 18446744073709551616) (bs : AB) (Gl : aC) (hV : LineB 5 r va bs Gl) (hS : ∀ L : AA, fG r n (L, bs)) (ms : AE) (w : AI) (hst : St w ms ((xb, blk [.int .u64 x] 36) :: (lb, blk [va, .bool r] 123) :: Gl) w) : aB prog 99 [P_ lb, P_ xb, .int .i64 n] w ms (fun v H => v = .tuple #[] ∧ ∃ va' Gl', LineB 5 r va' (goes r n x bs).2 Gl' ∧ H = (xb, blk [.int .u64 (goes r n x bs).1] 36) :: (lb, blk [va', .bool r] 123) :: Gl') :=
 (yV r lb xb 0 n hn va bs Gl hV [.int .u64 x] (hS _) 36 ⟨x, rfl, hx⟩ ms w hst).mono fun v H ⟨h1, va', Gl', h2, h3⟩ => ⟨h1, va', Gl', by cases r <;> exact h2, by rw [h3]; cases r <;> rfl⟩
def aAU (r : Bool) (lb pb : Nat) (va : AH) (Gl : aC) (S : Ps) (hV : LineB 5 r va S.2 Gl) (os : AE) (hol : os.length ≤ 1000000) (hS : fG r (os.length * 1) S) (T : Nat) (hf : ∀ o ∈ os, Fit .byte S.1 o) (pa : AC) (pc : Nat) (ms : AE) (w : AI) (hst : St w ms ((lb, blk [va, .bool r] 123) :: (Gl ++ [(pb, blk S.1 T)])) w) (hE : Els w (aGQ pb) pa os) (hpn : ∀ p, pa = some p → p.block ∉ ms) : aB prog 96 [P_ lb, .slice pa os.length pc] w ms (fun v H => v = .tuple #[] ∧ ∃ va' Gl', LineB 5 r va' (aI r .byte os S).2 Gl' ∧ H = (lb, blk [va', .bool r] 123) :: (Gl' ++ [(pb, blk (aI r .byte os S).1 T)])) := by
 refine dO_ func96 hst ?_
 refine ZA1 ?_
 refine ZC1 ?_
 refine bD (σ := Nat × AH × aC) [5, 6, 9, 10, 11, 12, 13, 14, 15, 16, 17, 18, 19, 20, 21, 22, 23] (fun s => [(9, .int .i64 s.1)]) (fun s => (lb, blk [s.2.1, .bool r] 123) :: (s.2.2 ++ [(pb, blk (aI r .byte (os.take s.1) S).1 T)])) (fun s => s.1 ≤ os.length ∧ LineB 5 r s.2.1 (aI r .byte (os.take s.1) S).2 s.2.2) (fun s => os.length - s.1) (0, va, Gl) ?_ ?_ ?_ ?_
 ·exact ⟨al _, hV⟩
 ·exact .cons rfl .nil
 ·exact fun _ h => h
 rintro ⟨i, v0, G0⟩ y1 ⟨hi, hV0⟩
 dsimp only at hi hV0 ⊢
 refine ZBb ?_
 refine KC (fun q0 z0 => ?_) (fun q0 z0 => ?_)
 ·refine ZBr ?_
  obtain ⟨oi, hoi⟩ : ∃ o, os[i]? = some o := ⟨_, ak o_m⟩
  obtain ⟨bp, op, rfl, hrow⟩ := hE.row (i := i) o_m
  obtain ⟨Z, hZ⟩ : ∃ Z, Z = (aI r .byte (os.take i) S) := ⟨_, rfl⟩
  have hfz : Fit .byte Z.1 oi := hZ ▸ oJ trivial hS.byts hf hoi
  have hSz : fG r 1 Z := hZ ▸ hS.at (k := .byte) o_m
  rw [← hZ] at hV0 ⊢
  have hv9 : Z.1[oi]? = some (.int .u8 (FK.at Z.1 oi)) := hfz.at.1
  have hx9 : 0 ≤ (FK.at Z.1 oi) ∧ (FK.at Z.1 oi) < 256 := hfz.at.2
  have hx8 : 0 ≤ (FK.at Z.1 oi) ∧ (FK.at Z.1 oi) < 18446744073709551616 := ⟨hx9.1, by have := hx9.2; omega⟩
  have hy9 := aH1 (r := r) (n := 1) (x := (FK.at Z.1 oi)) (bs := Z.2) hx9 hSz.byts
  refine ZBL ?_
  refine ZDj ?_
  refine ZBn ?_
  refine RZ (aE rfl rfl (aJ (v := .int .u8 (FK.at Z.1 oi)) m_m hv9)) rfl (RW (v := (.int .u64 (FK.at Z.1 oi))) (dN rfl rfl rfl) rfl (xN hx8.1 hx8.2) (ZCN fun b0 => ?_))
  refine RZ (xS_ (l' := [.int .u64 (FK.at Z.1 oi)]) 0) rfl (ZAA ?_)
  refine ZBr ?_
  refine ZAO fun va0 G1 hV1 => ?_
  refine ZBA ?_
  refine ZBr ?_
  refine RW (v := (.int .u8 (goes r 1 (FK.at Z.1 oi) Z.2).1)) (dN rfl rfl rfl) rfl (aEY hy9.1 hy9.2) (ZBL ?_)
  refine RZ (aD (l' := (pass1 r .byte Z oi).1) 0 rfl rfl rfl rfl rfl rfl hfz.lt (cA_ Prod.fst (pass1_goes hfz r)).symm) rfl (ZB3 ?_)
  exact ZAm
 refine ZBL ?_
 exact ZCg
def aLf (r : Bool) (lb pb : Nat) (va : AH) (Gl : aC) (S : Ps) (hV : LineB 5 r va S.2 Gl) (os : AE) (hol : os.length ≤ 1000000) (hS : fG r (os.length * 2) S) (T : Nat) (hf : ∀ o ∈ os, Fit .word S.1 o) (pa : AC) (pc : Nat) (ms : AE) (w : AI) (hst : St w ms ((lb, blk [va, .bool r] 123) :: (Gl ++ [(pb, blk S.1 T)])) w) (hE : Els w (aGQ pb) pa os) (hpn : ∀ p, pa = some p → p.block ∉ ms) : aB prog 97 [P_ lb, .slice pa os.length pc] w ms (fun v H => v = .tuple #[] ∧ ∃ va' Gl', LineB 5 r va' (aI r .word os S).2 Gl' ∧ H = (lb, blk [va', .bool r] 123) :: (Gl' ++ [(pb, blk (aI r .word os S).1 T)])) := by
 refine dO_ func97 hst ?_
 refine ZA1 ?_
 refine ZC1 ?_
 refine bD (σ := Nat × AH × aC) [5, 6, 9, 10, 11, 12, 13, 14, 15, 16, 17, 18, 19, 20, 21, 22, 23] (fun s => [(9, .int .i64 s.1)]) (fun s => (lb, blk [s.2.1, .bool r] 123) :: (s.2.2 ++ [(pb, blk (aI r .word (os.take s.1) S).1 T)])) (fun s => s.1 ≤ os.length ∧ LineB 5 r s.2.1 (aI r .word (os.take s.1) S).2 s.2.2) (fun s => os.length - s.1) (0, va, Gl) ?_ ?_ ?_ ?_
 ·exact ⟨al _, hV⟩
 ·exact .cons rfl .nil
 ·exact fun _ h => h
 rintro ⟨i, v0, G0⟩ y1 ⟨hi, hV0⟩
 dsimp only at hi hV0 ⊢
 refine ZBb ?_
 refine KC (fun q0 z0 => ?_) (fun q0 z0 => ?_)
 ·refine ZBr ?_
  obtain ⟨oi, hoi⟩ : ∃ o, os[i]? = some o := ⟨_, ak o_m⟩
  obtain ⟨bp, op, rfl, hrow⟩ := hE.row (i := i) o_m
  obtain ⟨Z, hZ⟩ : ∃ Z, Z = (aI r .word (os.take i) S) := ⟨_, rfl⟩
  have hfz : Fit .word Z.1 oi := hZ ▸ oJ trivial hS.byts hf hoi
  have hSz : fG r 2 Z := hZ ▸ hS.at (k := .word) o_m
  rw [← hZ] at hV0 ⊢
  have hv9 : Z.1[oi]? = some (.int .u16 (FK.at Z.1 oi)) := hfz.at.1
  have hx9 : 0 ≤ (FK.at Z.1 oi) ∧ (FK.at Z.1 oi) < 65536 := hfz.at.2
  have hx8 : 0 ≤ (FK.at Z.1 oi) ∧ (FK.at Z.1 oi) < 18446744073709551616 := ⟨hx9.1, by have := hx9.2; omega⟩
  have hy9 := aH1 (r := r) (n := 2) (x := (FK.at Z.1 oi)) (bs := Z.2) hx9 hSz.byts
  refine ZBL ?_
  refine ZDj ?_
  refine ZBn ?_
  refine RZ (aE rfl rfl (aJ (v := .int .u16 (FK.at Z.1 oi)) m_m hv9)) rfl (RW (v := (.int .u64 (FK.at Z.1 oi))) (dN rfl rfl rfl) rfl (xN hx8.1 hx8.2) (ZCN fun b0 => ?_))
  refine RZ (xS_ (l' := [.int .u64 (FK.at Z.1 oi)]) 0) rfl (ZAA ?_)
  refine ZBr ?_
  refine RX (eQ (A := (b0, blk [.int .u64 (FK.at Z.1 oi)] 36) :: (lb, blk [v0, .bool r] 123) :: G0) (G := [(pb, blk Z.1 T)]) (R := fun v H => v = .tuple #[] ∧ ∃ va' Gl', LineB 5 r va' (goes r 2 (FK.at Z.1 oi) Z.2).2 Gl' ∧ H = (b0, blk [.int .u64 (goes r 2 (FK.at Z.1 oi) Z.2).1] 36) :: (lb, blk [va', .bool r] 123) :: Gl') (((b0, blk [.int .u64 (FK.at Z.1 oi)] 36) :: (lb, blk [v0, .bool r] 123) :: G0).map (·.1)) K_ rfl (fun _ hb => eR hb) (wL_ (number1L_fn r lb b0 2 y_b v0 (FK.at Z.1 oi) hx8 Z.2 G0 hV0 (fun L => ⟨hSz.byts, hSz.en, hSz.sz⟩) _))) rfl ?_
  rintro _ _ ⟨_, ⟨rfl, va0, G1, hV1, rfl⟩, rfl⟩
  refine ZBA ?_
  refine ZBr ?_
  refine RW (v := (.int .u16 (goes r 2 (FK.at Z.1 oi) Z.2).1)) (dN rfl rfl rfl) rfl (aAd hy9.1 hy9.2) (ZBL ?_)
  refine RZ (aD (l' := (pass1 r .word Z oi).1) 0 rfl rfl rfl rfl rfl rfl hfz.lt (cA_ Prod.fst (pass1_goes hfz r)).symm) rfl (ZB3 ?_)
  exact ZAm
 refine ZBL ?_
 exact ZCg
def aAP (r : Bool) (lb pb : Nat) (va : AH) (Gl : aC) (S : Ps) (hV : LineB 5 r va S.2 Gl) (os : AE) (hol : os.length ≤ 1000000) (hS : fG r (os.length * 1) S) (T : Nat) (hf : ∀ o ∈ os, Fit .bool S.1 o) (pa : AC) (pc : Nat) (ms : AE) (w : AI) (hst : St w ms ((lb, blk [va, .bool r] 123) :: (Gl ++ [(pb, blk S.1 T)])) w) (hE : Els w (aGQ pb) pa os) (hpn : ∀ p, pa = some p → p.block ∉ ms) : aB prog 98 [P_ lb, .slice pa os.length pc] w ms (fun v H => v = .tuple #[] ∧ ∃ va' Gl', LineB 5 r va' (aI r .bool os S).2 Gl' ∧ H = (lb, blk [va', .bool r] 123) :: (Gl' ++ [(pb, blk (aI r .bool os S).1 T)])) := by
 refine dO_ func98 hst ?_
 refine ZA1 ?_
 refine ZC1 ?_
 refine bD (σ := Nat × AH × aC) [5, 6, 9, 10, 11, 12, 13, 14, 15, 16, 17, 18, 19, 20, 21, 22] (fun s => [(9, .int .i64 s.1)]) (fun s => (lb, blk [s.2.1, .bool r] 123) :: (s.2.2 ++ [(pb, blk (aI r .bool (os.take s.1) S).1 T)])) (fun s => s.1 ≤ os.length ∧ LineB 5 r s.2.1 (aI r .bool (os.take s.1) S).2 s.2.2) (fun s => os.length - s.1) (0, va, Gl) ?_ ?_ ?_ ?_
 ·exact ⟨al _, hV⟩
 ·exact .cons rfl .nil
 ·exact fun _ h => h
 rintro ⟨i, v0, G0⟩ y1 ⟨hi, hV0⟩
 dsimp only at hi hV0 ⊢
 refine ZBb ?_
 refine KC (fun q0 z0 => ?_) (fun q0 z0 => ?_)
 ·refine ZBr ?_
  obtain ⟨oi, hoi⟩ : ∃ o, os[i]? = some o := ⟨_, ak o_m⟩
  obtain ⟨bp, op, rfl, hrow⟩ := hE.row (i := i) o_m
  obtain ⟨Z, hZ⟩ : ∃ Z, Z = (aI r .bool (os.take i) S) := ⟨_, rfl⟩
  have hfz : Fit .bool Z.1 oi := hZ ▸ oJ trivial hS.byts hf hoi
  have hSz : fG r 1 Z := hZ ▸ hS.at (k := .bool) o_m
  rw [← hZ] at hV0 ⊢
  have hv9 : Z.1[oi]? = some (.bool ((FK.at Z.1 oi) == 1)) := hfz.at.1
  have hx9 : (FK.at Z.1 oi) = 0 ∨ (FK.at Z.1 oi) = 1 := hfz.at.2
  have hx8 : 0 ≤ (FK.at Z.1 oi) ∧ (FK.at Z.1 oi) < 18446744073709551616 := by rcases hx9 with h | h <;> rw [h] <;> decide
  refine ZBL ?_
  refine ZDj ?_
  refine ZBr ?_
  refine ZCN fun b0 => ?_
  refine ZBn ?_
  refine RZ (aE rfl rfl (aJ (v := .bool ((FK.at Z.1 oi) == 1)) m_m hv9)) rfl (ZBL ?_)
  refine KC (fun q1 z1 => ?_) (fun q1 z1 => ?_)
  ·refine ZBL ?_
   refine RZ (xS_ (l' := [.int .u64 1]) 0) rfl (ZB3 ?_)
   have e8 : (FK.at Z.1 oi) = 1 := by simpa using q1
   refine ZEF ?_
   refine ZAO fun va0 G1 hV1 => ?_
   refine ZBA ?_
   refine ZEx ?_
   refine ZB3 ?_
   exact ZAm
  refine ZAl ?_
  have e8 : (FK.at Z.1 oi) = 0 := by rcases hx9 with h9 | h9; exact h9; rw [h9] at q1; cases q1
  refine ZEF ?_
  refine ZAO fun va0 G1 hV1 => ?_
  refine ZBA ?_
  refine ZEx ?_
  refine ZB3 ?_
  exact ZAm
 refine ZBL ?_
 exact ZCg
def yS (r : Bool) (lb pb : Nat) (mn : Nat) (hmn : mn ≤ 4) (hmn8 : mn ≤ 8) (va : AH) (Gl : aC) (S : Ps) (hV : LineB 5 r va S.2 Gl) (os : AE) (hol : os.length ≤ 1000000) (hS : fG r (os.length * mn) S) (T : Nat) (hf : ∀ o ∈ os, Fit (.int mn) S.1 o) (pa : AC) (pc : Nat) (ms : AE) (w : AI) (hst : St w ms ((lb, blk [va, .bool r] 123) :: (Gl ++ [(pb, blk S.1 T)])) w) (hE : Els w (aGQ pb) pa os) (hpn : ∀ p, pa = some p → p.block ∉ ms) : aB prog 100 [P_ lb, .int .i64 mn, .slice pa os.length pc] w ms (fun v H => v = .tuple #[] ∧ ∃ va' Gl', LineB 5 r va' (aI r (.int mn) os S).2 Gl' ∧ H = (lb, blk [va', .bool r] 123) :: (Gl' ++ [(pb, blk (aI r (.int mn) os S).1 T)])) := by
 refine dO_ func100 hst ?_
 refine ZA1 ?_
 refine ZC1 ?_
 refine bD (σ := Nat × AH × aC) [7, 8, 11, 12, 13, 14, 15, 16, 17, 18, 19, 20, 21, 22, 23, 24, 25, 26] (fun s => [(11, .int .i64 s.1)]) (fun s => (lb, blk [s.2.1, .bool r] 123) :: (s.2.2 ++ [(pb, blk (aI r (.int mn) (os.take s.1) S).1 T)])) (fun s => s.1 ≤ os.length ∧ LineB 5 r s.2.1 (aI r (.int mn) (os.take s.1) S).2 s.2.2) (fun s => os.length - s.1) (0, va, Gl) ?_ ?_ ?_ ?_
 ·exact ⟨al _, hV⟩
 ·exact .cons rfl .nil
 ·exact fun _ h => h
 rintro ⟨i, v0, G0⟩ y1 ⟨hi, hV0⟩
 dsimp only at hi hV0 ⊢
 refine ZBb ?_
 refine KC (fun q0 z0 => ?_) (fun q0 z0 => ?_)
 ·refine ZBr ?_
  obtain ⟨oi, hoi⟩ : ∃ o, os[i]? = some o := ⟨_, ak o_m⟩
  obtain ⟨bp, op, rfl, hrow⟩ := hE.row (i := i) o_m
  obtain ⟨Z, hZ⟩ : ∃ Z, Z = (aI r (.int mn) (os.take i) S) := ⟨_, rfl⟩
  have hfz : Fit (.int mn) Z.1 oi := hZ ▸ oJ hmn hS.byts hf hoi
  have hSz : fG r mn Z := hZ ▸ hS.at (k := (.int mn)) o_m
  rw [← hZ] at hV0 ⊢
  have hv9 : Z.1[oi]? = some (.int .i64 (FK.at Z.1 oi)) := hfz.at.1
  have hx9 : -9223372036854775808 ≤ (FK.at Z.1 oi) ∧ (FK.at Z.1 oi) ≤ 9223372036854775807 := hfz.at.2
  have hx8 : 0 ≤ ((FK.at Z.1 oi) % 18446744073709551616) ∧ ((FK.at Z.1 oi) % 18446744073709551616) < 18446744073709551616 := by omega
  refine ZBL ?_
  refine ZDj ?_
  refine ZBn ?_
  refine RZ (aE rfl rfl (aJ (v := .int .i64 (FK.at Z.1 oi)) m_m hv9)) rfl (RW (v := (.int .u64 ((FK.at Z.1 oi) % 18446744073709551616))) (dN rfl rfl rfl) rfl (aBf _) (ZCN fun b0 => ?_))
  refine RZ (xS_ (l' := [.int .u64 ((FK.at Z.1 oi) % 18446744073709551616)]) 0) rfl (ZAA ?_)
  refine ZBb ?_
  refine RX (eQ (A := (b0, blk [.int .u64 ((FK.at Z.1 oi) % 18446744073709551616)] 36) :: (lb, blk [v0, .bool r] 123) :: G0) (G := [(pb, blk Z.1 T)]) (R := fun v H => v = .tuple #[] ∧ ∃ va' Gl', LineB 5 r va' (goes r mn ((FK.at Z.1 oi) % 18446744073709551616) Z.2).2 Gl' ∧ H = (b0, blk [.int .u64 (goes r mn ((FK.at Z.1 oi) % 18446744073709551616) Z.2).1] 36) :: (lb, blk [va', .bool r] 123) :: Gl') (((b0, blk [.int .u64 ((FK.at Z.1 oi) % 18446744073709551616)] 36) :: (lb, blk [v0, .bool r] 123) :: G0).map (·.1)) K_ rfl (fun _ hb => eR hb) (wL_ (number1L_fn r lb b0 mn hmn8 v0 ((FK.at Z.1 oi) % 18446744073709551616) hx8 Z.2 G0 hV0 (fun L => ⟨hSz.byts, hSz.en, hSz.sz⟩) _))) rfl ?_
  rintro _ _ ⟨_, ⟨rfl, va0, G1, hV1, rfl⟩, rfl⟩
  refine ZBA ?_
  refine ZBr ?_
  refine RW (v := (.int .i64 (goes r mn (FK.at Z.1 oi) Z.2).1)) (dN rfl rfl rfl) rfl (cA_ _ (aGe hmn hx9 hSz.byts).1) (ZBL ?_)
  refine RZ (aD (l' := (pass1 r (.int mn) Z oi).1) 0 rfl rfl rfl rfl rfl rfl hfz.lt (cA_ Prod.fst (pass1_goes hfz r)).symm) rfl (ZB3 ?_)
  refine ZAD ?_
  exact ⟨(i + 1, va0, G1), ⟨y_y, (by rw [passes_snoc hoi, ← hZ, pass1_goes hfz]; show LineB _ r va0 (goes r mn (FK.at Z.1 oi) Z.2).2 G1; rw [← (aGe hmn hx9 hSz.byts).2]; exact hV1)⟩, y_y, .cons rfl .nil, a_g, fun _ h => (((h.sub (.cons_cons _ (.cons _ sR_))).perm (aw (l₁ := [(pb, _)]) (l₂ := (lb, _) :: G1)))).as y_b0⟩
 refine ZBL ?_
 exact ZCg
def uU (r : Bool) (lb pb o0 nn : Nat) (hnn : nn ≤ 1000000) (va : AH) (Gl : aC) (S : Ps) (hV : LineB 5 r va S.2 Gl) (hS : fG r nn S) (T : Nat) (hf : ∀ o ∈ bY o0 nn, Fit .byte S.1 o) (pc : Nat) (ms : AE) (w : AI) (hst : St w ms ((lb, blk [va, .bool r] 123) :: (Gl ++ [(pb, blk S.1 T)])) w) : aB prog 101 [P_ lb, .slice (some ⟨pb, o0, none⟩) nn pc] w ms (fun v H => v = .tuple #[] ∧ ∃ va' Gl', LineB 5 r va' (aI r .byte (bY o0 nn) S).2 Gl' ∧ H = (lb, blk [va', .bool r] 123) :: (Gl' ++ [(pb, blk (aI r .byte (bY o0 nn) S).1 T)])) := by
 refine dO_ func101 hst ?_
 refine ZA1 ?_
 refine ZC1 ?_
 refine bD (σ := Nat × AH × aC) [4, 7, 8, 9, 10, 11, 12, 13, 14, 15, 16] (fun s => [(7, .int .i64 s.1)]) (fun s => (lb, blk [s.2.1, .bool r] 123) :: (s.2.2 ++ [(pb, blk (aI r .byte (bY o0 s.1) S).1 T)])) (fun s => s.1 ≤ nn ∧ LineB 5 r s.2.1 (aI r .byte (bY o0 s.1) S).2 s.2.2) (fun s => nn - s.1) (0, va, Gl) ?_ ?_ ?_ ?_
 ·exact ⟨al _, hV⟩
 ·exact .cons rfl .nil
 ·exact fun _ h => h
 rintro ⟨i, v0, G0⟩ y1 ⟨hi, hV0⟩
 dsimp only at hi hV0 ⊢
 refine ZBb ?_
 refine KC (fun q0 z0 => ?_) (fun q0 z0 => ?_)
 ·refine ZBr ?_
  obtain ⟨Z, hZ⟩ : ∃ Z, Z = (aI r .byte (bY o0 i) S) := ⟨_, rfl⟩
  have hfz : Fit .byte Z.1 (o0 + i) := hZ ▸ tK (k := .byte) trivial hS.byts (fun o ho => by obtain ⟨j, hj, rfl⟩ := aCc ho; exact hf _ (uS o_m)) (hf _ (uS o_m)) (fun _ => rfl)
  have hSz : fG r 1 Z := hZ ▸ fG.pass (k := .byte) (hS.le (by rw [tX]; show i * 1 + 1 ≤ nn; omega))
  rw [← hZ] at hV0 ⊢
  refine ZEf ?_
  refine ZBX ?_
  refine RX (dX (z := [.pointer none]) (l := [.pointer (some ⟨pb, o0 + i, none⟩)]) (ps := [(0, .pointer (some ⟨pb, o0 + i, none⟩))]) rfl rfl rfl rfl rfl rfl) rfl (ZAq fun b0 => ?_)
  refine RX (aR (F := [(b0, blk [.pointer (some ⟨pb, o0 + i, none⟩)] 234)]) (A := (lb, blk [v0, .bool r] 123) :: (G0 ++ [(pb, blk Z.1 T)])) (R := fun v H => v = .tuple #[] ∧ ∃ va' Gl', LineB 5 r va' (aI r .byte [o0 + i] Z).2 Gl' ∧ H = (lb, blk [va', .bool r] 123) :: (Gl' ++ [(pb, blk (aI r .byte [o0 + i] Z).1 T)])) K_ rfl (fun w hw => aAU r lb pb v0 G0 Z hV0 [o0 + i] (ae rfl) hSz T (fun o ho => by rw [List.mem_singleton.1 ho]; exact hfz) _ _ _ w (St.lentV hw) (fun _ => ⟨b0, 0, rfl, aA (b := b0) (mR_ _ (.head _)) w hw⟩) (fun p hp => y_bV))) rfl ?_
  rintro _ _ ⟨_, ⟨rfl, va0, G1, hV1, rfl⟩, rfl⟩
  refine ZB3 ?_
  refine ZAD ?_
  exact ⟨(i + 1, va0, G1), ⟨y_y, by rw [aBy, ← hZ]; exact hV1⟩, y_y, .cons rfl .nil, a_g, fun _ h => (h.sub (.cons _ sR_)).as (by rw [aBy, ← hZ])⟩
 refine ZBL ?_
 obtain rfl : i = nn := by omega
 exact EN sR_ ⟨rfl, _, G0, hV0, rfl⟩
def aIs (r : Bool) (lb mb : Nat) (va : AH) (G : aC) (S : Ps) (hV : LineB 5 r va S.2 G) (hT : fC r 86 S) (ms : AE) (w : AI) (hst : St w ms ((lb, blk [va, .bool r] 123) :: (G ++ [(mb, blk S.1 156)])) w) : aB prog 102 [P_ mb, P_ lb] w ms (fun v H => v = .tuple #[] ∧ ∃ va' Gl', LineB 5 r va' (oE r S).2 Gl' ∧ H = (lb, blk [va', .bool r] 123) :: (Gl' ++ [(mb, blk (oE r S).1 156)])) := by
 refine dO_ func102 hst ?_
 refine A_14 ?_
 refine RW (v := (.slice (some ⟨mb, 49, none⟩) 48 48)) (eM 0 48 rfl rfl rfl rfl rfl rfl y_b y_b) rfl rfl (RX (aR (F := []) (A := (lb, blk [va, .bool r] 123) :: (G ++ [(mb, blk S.1 156)])) (R := (fun v H => v = .tuple #[] ∧ ∃ va' Gl', LineB 5 r va' (aI r .byte (bY 49 48) S).2 Gl' ∧ H = (lb, blk [va', .bool r] 123) :: (Gl' ++ [(mb, blk (aI r .byte (bY 49 48) S).1 156)]))) K_ rfl (fun w hw => uU r lb mb 49 48 y_b va G S hV (hT.ok.le (m := 48) o_m) 156 (hT.fit xH) _ _ w (St.lentV (G := []) hw))) rfl ?_)
 rintro _ _ ⟨_, ⟨rfl, va0, G0, hV0, rfl⟩, rfl⟩
 obtain ⟨Z16, hZ16⟩ : ∃ Z, Z = aI r .byte (bY 49 48) S := ⟨_, rfl⟩
 have hT16 : fC r 38 Z16 := hZ16 ▸ (hT.le (m := 48 * 1 + 38) o_m).pass (k := .byte) (os := bY 49 48) (n := 38) trivial xH
 rw [← hZ16] at hV0
 refine bF (fun w hw => hw.as (by rw [← hZ16]; rfl)) (H' := (lb, blk [va0, .bool r] 123) :: (G0 ++ [(mb, blk Z16.1 156)])) ?_
 refine ZAl ?_
 refine DR [] (pln [0, 2, 4, 6, 8, 10, 12, 15, 17]) ?_
 refine ZDH ?_
 refine DX rfl (dX (z := [.pointer none]) (l := [.pointer (some ⟨mb, 97, none⟩), .pointer (some ⟨mb, 118, none⟩)]) (ps := [(0, .pointer (some ⟨mb, 97, none⟩)), (1, .pointer (some ⟨mb, 118, none⟩))]) rfl rfl rfl rfl y_f y_f) rfl n_h (ZAq fun b0 => ?_)
 refine DX rfl (aR (F := [(b0, _)]) (A := (lb, blk [va0, .bool r] 123) :: (G0 ++ [(mb, blk Z16.1 156)])) (R := (fun v H => v = .tuple #[] ∧ ∃ va' Gl', LineB 5 r va' (aI r .bool [97, 118] Z16).2 Gl' ∧ H = (lb, blk [va', .bool r] 123) :: (Gl' ++ [(mb, blk (aI r .bool [97, 118] Z16).1 156)]))) K_ rfl (fun w hw => aAP r lb mb va0 G0 Z16 hV0 [97, 118] (ae rfl) (hT16.ok.le (m := 2) o_m) 156 (hT16.fit (show ∀ o ∈ [97, 118], tyM o = some .bool by decide)) _ _ _ w (St.lentV hw) (fun _ => ⟨b0, 0, rfl, aA (b := b0) (mR_ _ (.head _)) w hw⟩) (fun p hp => y_bV))) rfl n_h ?_
 rintro _ _ ⟨_, ⟨rfl, va1, G1, hV1, rfl⟩, rfl⟩
 obtain ⟨Z25, hZ25⟩ : ∃ Z, Z = aI r .bool [97, 118] Z16 := ⟨_, rfl⟩
 have hT25 : fC r 36 Z25 := hZ25 ▸ (hT16.le (m := 2 + 36) o_m).pass (k := .bool) (os := [97, 118]) (n := 36) trivial (show ∀ o ∈ [97, 118], tyM o = some .bool by decide)
 rw [← hZ25] at hV1
 refine eX (fun w hw => (hw.sub (.cons _ sR_)).as (by rw [← hZ25]; rfl)) (H' := (lb, blk [va1, .bool r] 123) :: (G1 ++ [(mb, blk Z25.1 156)])) ?_
 refine ZAl ?_
 refine DR [] (pln [0, 2, 4, 6, 8, 10, 12, 14, 16, 18, 20, 22, 24, 27, 29]) ?_
 refine A_13 ?_
 refine DX rfl (dX (z := [.pointer none]) (l := [.pointer (some ⟨mb, 98, none⟩), .pointer (some ⟨mb, 99, none⟩), .pointer (some ⟨mb, 116, none⟩), .pointer (some ⟨mb, 117, none⟩)]) (ps := [(0, .pointer (some ⟨mb, 98, none⟩)), (1, .pointer (some ⟨mb, 99, none⟩)), (2, .pointer (some ⟨mb, 116, none⟩)), (3, .pointer (some ⟨mb, 117, none⟩))]) rfl rfl rfl rfl y_f y_f) rfl n_h ?_
 rintro _ _ ⟨b1, rfl, rfl⟩
 refine DX rfl (aR (F := [(b1, _)]) (A := (lb, blk [va1, .bool r] 123) :: (G1 ++ [(mb, blk Z25.1 156)])) (R := (fun v H => v = .tuple #[] ∧ ∃ va' Gl', LineB 5 r va' (aI r (.int 2) [98, 99, 116, 117] Z25).2 Gl' ∧ H = (lb, blk [va', .bool r] 123) :: (Gl' ++ [(mb, blk (aI r (.int 2) [98, 99, 116, 117] Z25).1 156)]))) K_ rfl (fun w hw => yS r lb mb 2 y_b y_b va1 G1 Z25 hV1 [98, 99, 116, 117] (ae rfl) (hT25.ok.le (m := 8) o_m) 156 (hT25.fit (show ∀ o ∈ [98, 99, 116, 117], tyM o = some (.int 2) by decide)) _ _ _ w (St.lentV hw) (fun _ => ⟨b1, 0, rfl, aA (b := b1) (mR_ _ (.head _)) w hw⟩) (fun p hp => y_bV))) rfl n_h ?_
 rintro _ _ ⟨_, ⟨rfl, va2, G2, hV2, rfl⟩, rfl⟩
 obtain ⟨Z40, hZ40⟩ : ∃ Z, Z = aI r (.int 2) [98, 99, 116, 117] Z25 := ⟨_, rfl⟩
 have hT40 : fC r 28 Z40 := hZ40 ▸ (hT25.le (m := 8 + 28) o_m).pass (k := (.int 2)) (os := [98, 99, 116, 117]) (n := 28) (show 2 ≤ 4 by decide) (show ∀ o ∈ [98, 99, 116, 117], tyM o = some (.int 2) by decide)
 rw [← hZ40] at hV2
 refine eX (fun w hw => (hw.sub (.cons _ sR_)).as (by rw [← hZ40]; rfl)) (H' := (lb, blk [va2, .bool r] 123) :: (G2 ++ [(mb, blk Z40.1 156)])) ?_
 refine ZBn ?_
 refine bD (σ := Nat × AH × aC) [5, 6, 41, 42, 43, 44, 45, 46, 47, 48, 49, 50, 51, 52, 53, 54, 55, 56, 57, 58, 59, 60, 61, 62, 63, 64, 65, 66, 67] (fun s => [(41, .int .i64 s.1)]) (fun s => (lb, blk [s.2.1, .bool r] 123) :: (s.2.2 ++ [(mb, blk (lG r Z40 s.1).1 156)])) (fun s => s.1 ≤ 4 ∧ LineB 5 r s.2.1 (lG r Z40 s.1).2 s.2.2) (fun s => 4 - s.1) (0, va2, G2) ?_ ?_ ?_ ?_
 ·exact ⟨al _, hV2⟩
 ·exact .cons rfl .nil
 ·exact fun _ h => h
 rintro ⟨i, va3, G3⟩ y5 ⟨hi, hV3⟩
 dsimp only at hi hV3 ⊢
 refine ZBb ?_
 refine KC (fun q0 z0 => ?_) (fun q0 z0 => ?_)
 ·refine ZBr ?_
  have hi4 : i < 4 := by omega
  obtain ⟨Z5, hZ5⟩ : ∃ Z, Z = lG r Z40 i := ⟨_, rfl⟩
  have hT5 : fC r (7 * (4 - i)) Z5 := hZ5 ▸ (hT40.voices (n := 0) i o_m)
  rw [← hZ5] at hV3 ⊢
  refine A_10 ?_
  refine RW (v := (.pointer (some ⟨mb, 100 + 4 * i, none⟩))) (bZ (s := 4) i rfl rfl rfl rfl o_m) rfl (cA_ (fun z : Nat => Value.pointer (some ⟨mb, z, none⟩)) o_m) (ZDH ?_)
  refine RW (v := (.pointer (some ⟨mb, 100 + 4 * i, none⟩))) (rA rfl rfl) rfl (cA_ (fun z : Nat => Value.pointer (some ⟨mb, z, none⟩)) o_m) (RX (dX (z := [.pointer none]) (l := [.pointer (some ⟨mb, 100 + 4 * i, none⟩)]) (ps := [(0, .pointer (some ⟨mb, 100 + 4 * i, none⟩))]) rfl rfl rfl rfl y_f y_f) rfl ?_)
  rintro _ _ ⟨b2, rfl, rfl⟩
  refine RX (aR (F := [(b2, _)]) (A := (lb, blk [va3, .bool r] 123) :: (G3 ++ [(mb, blk Z5.1 156)])) (R := (fun v H => v = .tuple #[] ∧ ∃ va' Gl', LineB 5 r va' (aI r .bool [100 + 4 * i] Z5).2 Gl' ∧ H = (lb, blk [va', .bool r] 123) :: (Gl' ++ [(mb, blk (aI r .bool [100 + 4 * i] Z5).1 156)]))) K_ rfl (fun w hw => aAP r lb mb va3 G3 Z5 hV3 [100 + 4 * i] (ae rfl) (hT5.ok.le (m := 1) o_m) 156 (hT5.fit (aE5 hi4)) _ _ _ w (St.lentV hw) (fun _ => ⟨b2, 0, rfl, aA (b := b2) (mR_ _ (.head _)) w hw⟩) (fun p hp => y_bV))) rfl ?_
  rintro _ _ ⟨_, ⟨rfl, va4, G4, hV4, rfl⟩, rfl⟩
  obtain ⟨Z54, hZ54⟩ : ∃ Z, Z = aI r .bool [100 + 4 * i] Z5 := ⟨_, rfl⟩
  have hT54 : fC r (7 * (4 - i) - 1) Z54 := hZ54 ▸ (hT5.le (m := 1 + (7 * (4 - i) - 1)) o_m).pass (k := .bool) (os := [100 + 4 * i]) (n := (7 * (4 - i) - 1)) trivial (aE5 hi4)
  rw [← hZ54] at hV4
  refine bF (fun w hw => (hw.sub (.cons _ sR_)).as (by rw [← hZ54]; rfl)) (H' := (lb, blk [va4, .bool r] 123) :: (G4 ++ [(mb, blk Z54.1 156)])) ?_
  refine ZBL ?_
  refine DR [] (pln [0, 2, 4, 6, 8, 10, 12, 14, 16, 18, 21, 23]) ?_
  refine ZA1 ?_
  refine DW (v := (.pointer (some ⟨mb, 101 + 4 * i, none⟩))) rfl (rA rfl rfl) rfl (cA_ (fun z : Nat => Value.pointer (some ⟨mb, z, none⟩)) o_m) (ZAl ?_)
  refine DW (v := (.pointer (some ⟨mb, 102 + 4 * i, none⟩))) rfl (rA rfl rfl) rfl (cA_ (fun z : Nat => Value.pointer (some ⟨mb, z, none⟩)) o_m) (ZAl ?_)
  refine DW (v := (.pointer (some ⟨mb, 103 + 4 * i, none⟩))) rfl (rA rfl rfl) rfl (cA_ (fun z : Nat => Value.pointer (some ⟨mb, z, none⟩)) o_m) (DX rfl (dX (z := [.pointer none]) (l := [.pointer (some ⟨mb, 101 + 4 * i, none⟩), .pointer (some ⟨mb, 102 + 4 * i, none⟩), .pointer (some ⟨mb, 103 + 4 * i, none⟩)]) (ps := [(0, .pointer (some ⟨mb, 101 + 4 * i, none⟩)), (1, .pointer (some ⟨mb, 102 + 4 * i, none⟩)), (2, .pointer (some ⟨mb, 103 + 4 * i, none⟩))]) rfl rfl rfl rfl y_f y_f) rfl n_h ?_)
  rintro _ _ ⟨b3, rfl, rfl⟩
  refine DX rfl (aR (F := [(b3, _)]) (A := (lb, blk [va4, .bool r] 123) :: (G4 ++ [(mb, blk Z54.1 156)])) (R := (fun v H => v = .tuple #[] ∧ ∃ va' Gl', LineB 5 r va' (aI r (.int 2) [101 + 4 * i, 102 + 4 * i, 103 + 4 * i] Z54).2 Gl' ∧ H = (lb, blk [va', .bool r] 123) :: (Gl' ++ [(mb, blk (aI r (.int 2) [101 + 4 * i, 102 + 4 * i, 103 + 4 * i] Z54).1 156)]))) K_ rfl (fun w hw => yS r lb mb 2 y_b y_b va4 G4 Z54 hV4 [101 + 4 * i, 102 + 4 * i, 103 + 4 * i] (ae rfl) (hT54.ok.le (m := 6) o_m) 156 (hT54.fit (aEW hi4)) _ _ _ w (St.lentV hw) (fun _ => ⟨b3, 0, rfl, aA (b := b3) (mR_ _ (.head _)) w hw⟩) (fun p hp => y_bV))) rfl n_h ?_
  rintro _ _ ⟨_, ⟨rfl, va5, G5, hV5, rfl⟩, rfl⟩
  obtain ⟨Z66, hZ66⟩ : ∃ Z, Z = aI r (.int 2) [101 + 4 * i, 102 + 4 * i, 103 + 4 * i] Z54 := ⟨_, rfl⟩
  have hT66 : fC r (7 * (4 - (i + 1))) Z66 := hZ66 ▸ (hT54.le (m := 6 + (7 * (4 - (i + 1)))) o_m).pass (k := (.int 2)) (os := [101 + 4 * i, 102 + 4 * i, 103 + 4 * i]) (n := (7 * (4 - (i + 1)))) (show 2 ≤ 4 by decide) (aEW hi4)
  rw [← hZ66] at hV5
  refine eX (fun w hw => (hw.sub (.cons _ sR_)).as (by rw [← hZ66]; rfl)) (H' := (lb, blk [va5, .bool r] 123) :: (G5 ++ [(mb, blk Z66.1 156)])) ?_
  refine ZAl ?_
  refine ZAD ?_
  exact ⟨(i + 1, va5, G5), ⟨y_y, by show LineB _ r va5 (aI r (.int 2) _ (aI r .bool _ (lG r Z40 i))).2 G5; rw [← hZ5, ← hZ54, ← hZ66]; exact hV5⟩, y_y, .cons rfl .nil, a_g, fun _ h => h.as (by show _ = (lb, _) :: (G5 ++ [(mb, blk (aI r (.int 2) _ (aI r .bool _ (lG r Z40 i))).1 _)]); rw [← hZ5, ← hZ54, ← hZ66])⟩
 refine ZBL ?_
 obtain rfl : i = 4 := by omega
 exact EN sR_ ⟨rfl, _, G3, by unfold oE; rw [← hZ16, ← hZ25, ← hZ40]; exact hV3, by unfold oE; rw [← hZ16, ← hZ25, ← hZ40]⟩
end Go.Proofs.YtacejanlmhbddaaGreat
