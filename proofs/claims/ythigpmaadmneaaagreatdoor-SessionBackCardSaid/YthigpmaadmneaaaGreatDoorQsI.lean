/- Parts. -/
import Derived.Test.YthigpmaadmneaaaGreatDoorQsH
set_option maxRecDepth 100000
set_option maxHeartbeats 1000000
set_option linter.all false
namespace Go.Proofs.YthigpmaadmneaaaGreatDoor
open Go Go.VV Go.Proofs Go.RowKit Go.Proofs.Tryz
def aGX (o : cJ) (b : Nat) (a f : Int) (ha : 0 ≤ a ∧ a < 256) (hf : 0 ≤ f ∧ f < 256) (w : AI) (hr : aK w b 0 (cO o)) : aG prog 254 [.int .u8 a, .int .u8 f, P_ b] w [] (V_ (.tuple #[.int .u8 (gU o.x a f), .int .u8 (mH o.x a f)])) := by
 refine aT func254 ?_
 refine bA ?_
 refine W (aX U U (cB (hr 1 _ U) aL)) U (ZAm ?_)
 refine aP K_ (aS (aA9 o.x a f ha hf)) ?_
 refine aI ?_
 exact aZ (fun _ _ => mQ U U) ⟨U, U⟩
def rbytes_fn {β : Type} (K : lX prog β) (rb : Nat) {bn : Nat} (x : Rn β) (h : RunOk K.toaQ8 (bn + 2) x) (G : aF) (hG : K.rep x.m G) (o : cJ) (ho : rK o) (w : AI) (hst : St w (rb :: G.map (·.1)) ((rb, J (cN K x.s) 355) :: G) w) : aG prog 236 [P_ rb, .agg (cO o).toArray] w (rb :: G.map (·.1)) (fun v H => v = .bool (kQ o.kind) ∧ sD K rb (gT K.toaQ7 o x) H) := by
 have hn9 := ho.n
 have hgy9 := h.gett o.y
 have hgx9 := h.gett o.x
 have ha9 := h.r.a
 have hf9 := h.r.f
 refine cE func236 hst ?_
 refine Jz ?_
 refine ZBN fun b0 => ?_
 refine ZA7 ?_
 refine DR [6, 7, 8, 9] (bW [0, 2, 4, 6, 8, 10, 12, 14, 16, 18, 20]) ?_
 refine bA ?_
 refine vW ?_
 refine lZ ?_
 refine KC (fun q0 z0 => ?_) (fun q0 z0 => ?_)
 ·refine Z8 ?_
  refine Il fun G0 hG0 => ?_
  refine DX U (cX (F := [(b0, _)]) (A := (rb, _) :: _) K_ U (dJ (Kk K rb (x.mem (gett K.toaQ7 o.y x).2.m) (h.gmem o.y) G0 hG0 o.x (gett K.toaQ7 o.y x).1 hgy9.2))) U aW (nV fun G1 hG1 => ?_)
  refine aI ?_
  have e9 : gT K.toaQ7 o x = sett K.toaQ7 o.x (gett K.toaQ7 o.y x).1 (x.mem (gett K.toaQ7 o.y x).2.m) := by unfold gT; rw [ag I]; rw [← Cv]
  exact EV U (.cons _ aJ) ⟨aD Value.bool (ap I : kQ o.kind = true).symm, G1, fH, nC⟩
 refine ZBn ?_
 refine KC (fun q1 z1 => ?_) (fun q1 z1 => ?_)
 ·refine ZBn ?_
  refine RX (cX (F := [(b0, _)]) (A := (rb, _) :: _) K_ U (dJ (Kk K rb x h G hG o.x (o.n % 256) I))) U (jZ fun G0 hG0 => ?_)
  refine aI ?_
  have e9 : gT K.toaQ7 o x = sett K.toaQ7 o.x (o.n % 256) x := by unfold gT; rw [ae I]; rw [ag I]
  exact EV U (.cons _ aJ) ⟨aD Value.bool (ap I : kQ o.kind = true).symm, G0, fH, kT⟩
 refine ZBn ?_
 refine KC (fun q2 z2 => ?_) (fun q2 z2 => ?_)
 ·refine Z8 ?_
  refine Il fun G0 hG0 => ?_
  refine DX U (cX (F := [(b0, _)]) (A := (rb, _) :: _) K_ U (dJ (aBv K rb (x.mem (gett K.toaQ7 o.y x).2.m) (h.gmem o.y) G0 hG0 o.x (gett K.toaQ7 o.y x).1 hgy9.2))) U aW (nV fun G1 hG1 => ?_)
  refine aI ?_
  have e9 : gT K.toaQ7 o x = (x.mem (gett K.toaQ7 o.y x).2.m).reg (kO x.s.r o.x (gett K.toaQ7 o.y x).1) := by unfold gT; (iterate 2 rw [ae I]); rw [ag I]; rw [← Cv, V3]
  exact EV U (.cons _ aJ) ⟨aD Value.bool (ap I : kQ o.kind = true).symm, G1, fH, nC⟩
 refine ZBn ?_
 refine KC (fun q3 z3 => ?_) (fun q3 z3 => ?_)
 ·refine ZBn ?_
  refine RX (cX (F := [(b0, _)]) (A := (rb, _) :: _) K_ U (dJ (aBv K rb x h G hG o.x (o.n % 256) I))) U (jZ fun G0 hG0 => ?_)
  refine aI ?_
  have e9 : gT K.toaQ7 o x = x.reg (kO x.s.r o.x (o.n % 256)) := by unfold gT; (iterate 3 rw [ae I]); rw [ag I]
  exact EV U (.cons _ aJ) ⟨aD Value.bool (ap I : kQ o.kind = true).symm, G0, fH, kT⟩
 refine ZBn ?_
 refine KC (fun q4 z4 => ?_) (fun q4 z4 => ?_)
 ·refine ZBy ?_
  refine RX (cX (F := [(b0, _)]) (A := (rb, _) :: _) K_ U (fun w hw => Wp K rb x (h.le I : RunOk K.toaQ8 (bn + 2) x) G hG o.x 252 [] [] K_ (fun v f => (zP v, Sc v f)) (fun a f ha hf => ⟨Q8, vT _ _ _ _⟩) w (St.lentV hw) (fun w' _ a f _ ha hf => aNX a f ha hf w'))) U (jZ fun G0 hG0 => ?_)
  refine aI ?_
  have e9 : gT K.toaQ7 o x = change K.toaQ7 o.x (fun v f => (zP v, Sc v f)) x := by unfold gT; (iterate 4 rw [ae I]); rw [ag I]
  exact EV U (.cons _ aJ) ⟨aD Value.bool (ap I : kQ o.kind = true).symm, G0, fH, kT⟩
 refine ZBn ?_
 refine KC (fun q5 z5 => ?_) (fun q5 z5 => ?_)
 ·refine ZBy ?_
  refine RX (cX (F := [(b0, _)]) (A := (rb, _) :: _) K_ U (fun w hw => Wp K rb x (h.le I : RunOk K.toaQ8 (bn + 2) x) G hG o.x 253 [] [] K_ (fun v f => (Am v, Tu v f)) (fun a f ha hf => ⟨O0, vT _ _ _ _⟩) w (St.lentV hw) (fun w' _ a f _ ha hf => aJM a f ha hf w'))) U (jZ fun G0 hG0 => ?_)
  refine aI ?_
  have e9 : gT K.toaQ7 o x = change K.toaQ7 o.x (fun v f => (Am v, Tu v f)) x := by unfold gT; (iterate 5 rw [ae I]); rw [ag I]
  exact EV U (.cons _ aJ) ⟨aD Value.bool (ap I : kQ o.kind = true).symm, G0, fH, kT⟩
 refine ZBn ?_
 refine KC (fun q6 z6 => ?_) (fun q6 z6 => ?_)
 ·refine ZBy ?_
  refine RW (v := (.func (.func 254) (List.toArray []) (List.toArray [P_ b0]))) U U Fh (RX (cX (F := [(b0, _)]) (A := (rb, _) :: _) K_ U (fun w hw => Wp K rb x (h.le I : RunOk K.toaQ8 (bn + 2) x) G hG o.y 254 [] [P_ b0] K_ (fun v f => (gU o.x v f, mH o.x v f)) (fun a f ha hf => ⟨L5 ha, vT _ _ _ _⟩) w (St.lentV hw) (fun w' H' a f hw' ha hf => aGX o b0 a f ha hf w' (cG (aH (l := cO o) (bD _ (.head _)) w hw) (St.notin hw (.head _)) w' hw')))) U (jZ fun G0 hG0 => ?_))
  refine aI ?_
  have e9 : gT K.toaQ7 o x = change K.toaQ7 o.y (fun v f => (gU o.x v f, mH o.x v f)) x := by unfold gT; (iterate 6 rw [ae I]); rw [ag I]
  exact EV U (.cons _ aJ) ⟨aD Value.bool (ap I : kQ o.kind = true).symm, G0, fH, kT⟩
 refine ZBn ?_
 refine KC (fun q7 z7 => ?_) (fun q7 z7 => ?_)
 ·refine ZBE ?_
  refine DR [3, 4, 5, 6, 7, 8, 9] (bW [0, 2, 4, 6, 8, 10, 12, 14, 16, 18, 21, 22, 24, 26, 28, 30, 32, 34, 37, 38]) ?_
  refine cL ?_
  refine DZ U (dG K_ U (aS (aA9 o.x x.s.r.a x.s.r.f h.r.a h.r.f))) U aW (tB ?_)
  refine aI ?_
  refine DZ U (bH (l' := cN K { x.s with r := { x.s.r with a := gU o.x x.s.r.a x.s.r.f } }) 1) U aW (jQ ?_)
  refine ZBn ?_
  refine RW (v := (.int .u8 (fl false false false (turnO o.x x.s.r.a)))) (cM U U) U (aD _ (aFT _ _ _ _)) (ZBy ?_)
  refine W (bH (l' := cN K { x.s with r := { x.s.r with a := gU o.x x.s.r.a x.s.r.f, f := fl false false false (turnO o.x x.s.r.a) } }) 1) U (oH ?_)
  have e9 : gT K.toaQ7 o x = x.reg { x.s.r with a := gU o.x x.s.r.a x.s.r.f, f := fl false false false (turnO o.x x.s.r.a) } := by unfold gT; (iterate 7 rw [ae I]); rw [ag I]
  exact EV U (.cons _ aJ) ⟨aD Value.bool (ap I : kQ o.kind = true).symm, G, fH, rO⟩
 refine ZBn ?_
 refine KC (fun q8 z8 => ?_) (fun q8 z8 => ?_)
 ·refine mZ [(b0, J (cO o) 95)] [3, 4, 5, 6, 7] (.step true 0 (.step true 1 (.step true 2 (.step true 3 (.step true 4 (.step true 5 (.step true 7 (.step false 6 (.step false 8 (.step true 9 (.step true 10 (.step true 11 (.step true 12 (.step false 13 .done)))))))))))))) U aO aO (fun x hx => Kz) ?_
  refine ZDG ?_
  refine Il fun G0 hG0 => ?_
  refine DZ U (dG K_ U (aS (aQK o.x (gett K.toaQ7 o.y x).1 x.s.r.f hgy9.2 h.r.f))) U aW (ZBy ?_)
  refine DZ U (bH (l' := cN K { x.s with r := { x.s.r with f := Uh o.x (gett K.toaQ7 o.y x).1 x.s.r.f } }) 1) U aW (oH ?_)
  have e9 : gT K.toaQ7 o x = (x.mem (gett K.toaQ7 o.y x).2.m).reg { x.s.r with f := Uh o.x (gett K.toaQ7 o.y x).1 x.s.r.f } := by unfold gT; (iterate 8 rw [ae I]); rw [ag I]; rw [← Cv, V3]
  exact EV U (.cons _ aJ) ⟨aD Value.bool (ap I : kQ o.kind = true).symm, G0, fH, kT⟩
 refine ZBn ?_
 refine KC (fun q9 z9 => ?_) (fun q9 z9 => ?_)
 ·refine ZCI ?_
  refine DW (v := (.int .u8 (shl .u8 1 o.x))) U (iM U U ho.x.1) U U (Il fun G0 hG0 => ?_)
  refine DW (v := (.int .u8 (tF (gett K.toaQ7 o.y x).1 o.x))) U (zI U U) U (aD _ (W0 hgy9.2 ho.x)) (DX U (cX (F := [(b0, _)]) (A := (rb, _) :: _) K_ U (dJ (Kk K rb (x.mem (gett K.toaQ7 o.y x).2.m) (h.gmem o.y) G0 hG0 o.y (tF (gett K.toaQ7 o.y x).1 o.x) (Ru hgy9.2 ho.x).1))) U aW (nV fun G1 hG1 => ?_))
  refine aI ?_
  have e9 : gT K.toaQ7 o x = sett K.toaQ7 o.y (tF (gett K.toaQ7 o.y x).1 o.x) (x.mem (gett K.toaQ7 o.y x).2.m) := by unfold gT; (iterate 9 rw [ae I]); rw [ag I]; rw [← Cv]
  exact EV U (.cons _ aJ) ⟨aD Value.bool (ap I : kQ o.kind = true).symm, G1, fH, nC⟩
 refine ZBn ?_
 refine KC (fun q10 z10 => ?_) (fun q10 z10 => ?_)
 ·refine ZCI ?_
  refine DW (v := (.int .u8 (shl .u8 1 o.x))) U (iM U U ho.x.1) U U (Il fun G0 hG0 => ?_)
  refine DW (v := (.int .u8 (wC (gett K.toaQ7 o.y x).1 o.x))) U (dM U U) U (aD _ (aOj hgy9.2 ho.x)) (DX U (cX (F := [(b0, _)]) (A := (rb, _) :: _) K_ U (dJ (Kk K rb (x.mem (gett K.toaQ7 o.y x).2.m) (h.gmem o.y) G0 hG0 o.y (wC (gett K.toaQ7 o.y x).1 o.x) (Ru hgy9.2 ho.x).2))) U aW (nV fun G1 hG1 => ?_))
  refine aI ?_
  have e9 : gT K.toaQ7 o x = sett K.toaQ7 o.y (wC (gett K.toaQ7 o.y x).1 o.x) (x.mem (gett K.toaQ7 o.y x).2.m) := by unfold gT; (iterate 10 rw [ae I]); rw [ag I]; rw [← Cv]
  exact EV U (.cons _ aJ) ⟨aD Value.bool (ap I : kQ o.kind = true).symm, G1, fH, nC⟩
 refine ZBn ?_
 refine KC (fun q11 z11 => ?_) (fun q11 z11 => ?_)
 ·refine cL ?_
  refine aP K_ (aS (aJQ x.s.r.a x.s.r.f h.r.a h.r.f)) ?_
  refine ZDG ?_
  refine W (bH (l' := cN K { x.s with r := { x.s.r with a := tI x.s.r.a x.s.r.f } }) 1) U (pA ?_)
  refine W (bH (l' := cN K { x.s with r := { x.s.r with a := tI x.s.r.a x.s.r.f, f := Pu x.s.r.a x.s.r.f } }) 1) U (oH ?_)
  have e9 : gT K.toaQ7 o x = x.reg { x.s.r with a := tI x.s.r.a x.s.r.f, f := Pu x.s.r.a x.s.r.f } := by unfold gT; (iterate 11 rw [ae I]); rw [ag I]
  exact EV U (.cons _ aJ) ⟨aD Value.bool (ap I : kQ o.kind = true).symm, G, fH, rO⟩
 refine ZBn ?_
 refine KC (fun q12 z12 => ?_) (fun q12 z12 => ?_)
 ·refine bZ ?_
  refine RW (v := (.int .u8 (255 - x.s.r.a))) U U (aD _ (aJe h.r.a)) (ZBy ?_)
  refine W (bH (l' := cN K { x.s with r := { x.s.r with a := 255 - x.s.r.a } }) 1) U (pA ?_)
  refine RW (v := (.int .u8 (aQ .u8 x.s.r.f 144))) (cM U U) U U (RW (v := (.int .u8 (bL .u8 (aQ .u8 x.s.r.f 144) 64))) (dM U U) U U (RW (v := (.int .u8 (fl (zF x.s.r.f) true true (cF x.s.r.f)))) (dM U U) U (aD _ (aGO h.r.f)) (ZBy ?_)))
  refine W (bH (l' := cN K { x.s with r := { x.s.r with a := 255 - x.s.r.a, f := fl (zF x.s.r.f) true true (cF x.s.r.f) } }) 1) U (oH ?_)
  have e9 : gT K.toaQ7 o x = x.reg { x.s.r with a := 255 - x.s.r.a, f := fl (zF x.s.r.f) true true (cF x.s.r.f) } := by unfold gT; (iterate 12 rw [ae I]); rw [ag I]
  exact EV U (.cons _ aJ) ⟨aD Value.bool (ap I : kQ o.kind = true).symm, G, fH, rO⟩
 refine ZBn ?_
 refine KC (fun q13 z13 => ?_) (fun q13 z13 => ?_)
 ·refine ZA7 ?_
  refine RW (v := (.int .u8 (aQ .u8 x.s.r.f 128))) (cM U U) U U (RW (v := (.int .u8 (fl (zF x.s.r.f) false false true))) (dM U U) U (aD _ (aLQ h.r.f)) (ZBy ?_))
  refine W (bH (l' := cN K { x.s with r := { x.s.r with f := fl (zF x.s.r.f) false false true } }) 1) U (oH ?_)
  have e9 : gT K.toaQ7 o x = x.reg { x.s.r with f := fl (zF x.s.r.f) false false true } := by unfold gT; (iterate 13 rw [ae I]); rw [ag I]
  exact EV U (.cons _ aJ) ⟨aD Value.bool (ap I : kQ o.kind = true).symm, G, fH, rO⟩
 refine ZBn ?_
 refine KC (fun q14 z14 => ?_) (fun q14 z14 => ?_)
 ·refine ZA7 ?_
  refine RW (v := (.int .u8 (aQ .u8 x.s.r.f 144))) (cM U U) U U (RW (v := (.int .u8 (fl (zF x.s.r.f) false false (!cF x.s.r.f)))) (Qc U U) U (aD _ (aJF h.r.f)) (ZBy ?_))
  refine W (bH (l' := cN K { x.s with r := { x.s.r with f := fl (zF x.s.r.f) false false (!cF x.s.r.f) } }) 1) U (oH ?_)
  have e9 : gT K.toaQ7 o x = x.reg { x.s.r with f := fl (zF x.s.r.f) false false (!cF x.s.r.f) } := by unfold gT; (iterate 14 rw [ae I]); rw [ag I]
  exact EV U (.cons _ aJ) ⟨aD Value.bool (ap I : kQ o.kind = true).symm, G, fH, rO⟩
 refine ZBn ?_
 exact EV U (.cons _ aJ) ⟨aD Value.bool (cz I : kQ o.kind = false).symm, G, by rw [In K.toaQ7 (cz I)], by rw [In K.toaQ7 (cz I)]; exact hG⟩
def rwords_fn {β : Type} (K : lX prog β) (rb : Nat) {bn : Nat} (x : Rn β) (h : RunOk K.toaQ8 (bn + 3) x) (G : aF) (hG : K.rep x.m G) (o : cJ) (ho : rK o) (w : AI) (hst : St w (rb :: G.map (·.1)) ((rb, J (cN K x.s) 355) :: G) w) : aG prog 237 [P_ rb, .agg (cO o).toArray] w (rb :: G.map (·.1)) (fun v H => v = .bool (oG o.kind) ∧ sD K rb (jR K.toaQ7 o x) H) := by
 have hn9 := ho.n
 have hs9 := h.r.sp
 have hp9 := h.r.setP o.x (xW (w := (dD x.s.r o.x)))
 have hm9 := h.r.setP o.x (Ab (w := (dD x.s.r o.x)))
 have hq9 := (h.r.f_ (vT (zF x.s.r.f) false (decide (4095 < (dD x.s.r 2) % 4096 + (dD x.s.r o.x) % 4096)) (decide (65535 < (dD x.s.r 2) + (dD x.s.r o.x))))).setP 2 (K4 (a := (dD x.s.r 2)) (b := (dD x.s.r o.x)))
 refine cE func237 hst ?_
 refine Jz ?_
 refine ZBN fun b0 => ?_
 refine sJ ?_
 refine KC (fun q0 z0 => ?_) (fun q0 z0 => ?_)
 ·refine aI ?_
  refine RX (cX (F := [(b0, _)]) (A := (rb, _) :: _) K_ U (dJ (zK K rb x h G hG o.x o.n ho.n))) U (jZ fun G0 hG0 => ?_)
  refine aI ?_
  have e9 : jR K.toaQ7 o x = x.reg (iT x.s.r o.x o.n) := by unfold jR; rw [ag I]
  exact EV U (.cons _ aJ) ⟨aD Value.bool (ap I : oG o.kind = true).symm, G0, fH, kT⟩
 refine ZBn ?_
 refine KC (fun q1 z1 => ?_) (fun q1 z1 => ?_)
 ·refine ZCs ?_
  refine aI ?_
  refine I1 ?_
  refine DW (v := (.int .u16 (mX (dD x.s.r o.x)))) U (nL U U) U (aD _ (pR _)) (DX U (cX (F := [(b0, _)]) (A := (rb, _) :: _) K_ U (dJ (zK K rb x h G hG o.x (mX (dD x.s.r o.x)) xW))) U aW (jZ fun G0 hG0 => ?_))
  refine ZA7 ?_
  refine RX (cX (F := [(b0, _)]) (A := (rb, _) :: _) K_ U (dJ (ridle_fn K rb 1 M (x.reg (iT x.s.r o.x (mX (dD x.s.r o.x)))) (h.reg hp9) G0 hG0))) U (nV fun G1 hG1 => ?_)
  refine aI ?_
  have e9 : jR K.toaQ7 o x = idles K.toaQ7 1 (x.reg (iT x.s.r o.x (mX (dD x.s.r o.x)))) := by unfold jR; rw [ae I]; rw [ag I]
  exact EV U (.cons _ aJ) ⟨aD Value.bool (ap I : oG o.kind = true).symm, G1, fH, nC⟩
 refine ZBn ?_
 refine KC (fun q2 z2 => ?_) (fun q2 z2 => ?_)
 ·refine ZCs ?_
  refine aI ?_
  refine I1 ?_
  refine DW (v := (.int .u16 (rJ (dD x.s.r o.x)))) U (nA U U) U (aD _ (pR _)) (DX U (cX (F := [(b0, _)]) (A := (rb, _) :: _) K_ U (dJ (zK K rb x h G hG o.x (rJ (dD x.s.r o.x)) Ab))) U aW (jZ fun G0 hG0 => ?_))
  refine ZA7 ?_
  refine RX (cX (F := [(b0, _)]) (A := (rb, _) :: _) K_ U (dJ (ridle_fn K rb 1 M (x.reg (iT x.s.r o.x (rJ (dD x.s.r o.x)))) (h.reg hm9) G0 hG0))) U (nV fun G1 hG1 => ?_)
  refine aI ?_
  have e9 : jR K.toaQ7 o x = idles K.toaQ7 1 (x.reg (iT x.s.r o.x (rJ (dD x.s.r o.x)))) := by unfold jR; (iterate 2 rw [ae I]); rw [ag I]
  exact EV U (.cons _ aJ) ⟨aD Value.bool (ap I : oG o.kind = true).symm, G1, fH, nC⟩
 refine ZBn ?_
 refine KC (fun q3 z3 => ?_) (fun q3 z3 => ?_)
 ·refine ZBE ?_
  refine DR [2, 6, 7, 8, 9, 10, 11, 12] (bW [0, 2, 6, 8, 10, 14, 16, 18, 20, 22, 24, 5, 13, 27, 28, 30, 32, 34, 36, 38, 40, 42, 45]) ?_
  refine iG ?_
  refine DZ U (dG K_ U (fun w hw => rpair_fn K rb x.s h.r w (aH (l := cN K x.s) aE w hw) 2)) U jB (I1 ?_)
  refine DZ U (dG K_ U (aS (aOi (dD x.s.r 2) (dD x.s.r o.x) x.s.r.f (tH h.r 2) (tH h.r o.x) h.r.f))) U aW (tB ?_)
  refine ZDG ?_
  refine DZ U (bH (l' := cN K { x.s with r := { x.s.r with f := Hc (dD x.s.r 2) (dD x.s.r o.x) x.s.r.f } }) 1) U aW (jQ ?_)
  refine ZBn ?_
  refine RX (cX (F := [(b0, _)]) (A := (rb, _) :: _) K_ U (dJ (zK K rb (x.reg { x.s.r with f := Hc (dD x.s.r 2) (dD x.s.r o.x) x.s.r.f }) (h.reg (h.r.f_ (vT _ _ _ _))) G hG 2 (yR (dD x.s.r 2) (dD x.s.r o.x)) K4))) U (jZ fun G0 hG0 => ?_)
  refine ZA7 ?_
  refine RX (cX (F := [(b0, _)]) (A := (rb, _) :: _) K_ U (dJ (ridle_fn K rb 1 M (x.reg (iT { x.s.r with f := Hc (dD x.s.r 2) (dD x.s.r o.x) x.s.r.f } 2 (yR (dD x.s.r 2) (dD x.s.r o.x)))) (h.reg hq9) G0 hG0))) U (nV fun G1 hG1 => ?_)
  refine aI ?_
  have e9 : jR K.toaQ7 o x = idles K.toaQ7 1 (x.reg (iT { x.s.r with f := Hc (dD x.s.r 2) (dD x.s.r o.x) x.s.r.f } 2 (yR (dD x.s.r 2) (dD x.s.r o.x)))) := by unfold jR; (iterate 3 rw [ae I]); rw [ag I]
  exact EV U (.cons _ aJ) ⟨aD Value.bool (ap I : oG o.kind = true).symm, G1, fH, nC⟩
 refine ZBn ?_
 refine KC (fun q4 z4 => ?_) (fun q4 z4 => ?_)
 ·refine ZBE ?_
  refine DR [8, 9, 10] (bW [0, 2, 4, 6, 8, 10, 12, 14, 16, 18, 20, 23, 24, 26, 28, 30, 32, 34, 36, 39, 40, 42, 44, 46, 49]) ?_
  refine cL ?_
  refine vW ?_
  refine DZ U (dG K_ U (aS (W4 x.s.r.sp (o.n % 256) h.r.sp I))) U aW (tB ?_)
  refine aI ?_
  refine DZ U (bH (l' := cN K { x.s with r := { x.s.r with sp := qS x.s.r.sp (o.n % 256) } }) 1) U aW (pA ?_)
  refine DZ U (bH (l' := cN K { x.s with r := { x.s.r with sp := qS x.s.r.sp (o.n % 256), f := wQ x.s.r.sp (o.n % 256) } }) 1) U aW (wJ ?_)
  refine RX (cX (F := [(b0, _)]) (A := (rb, _) :: _) K_ U (dJ (ridle_fn K rb 2 M (x.reg { x.s.r with sp := qS x.s.r.sp (o.n % 256), f := wQ x.s.r.sp (o.n % 256) }) (h.reg ((h.r.sp_ Lc).f_ (vT _ _ _ _))) G hG))) U (jZ fun G0 hG0 => ?_)
  refine aI ?_
  have e9 : jR K.toaQ7 o x = idles K.toaQ7 2 (x.reg { x.s.r with sp := qS x.s.r.sp (o.n % 256), f := wQ x.s.r.sp (o.n % 256) }) := by unfold jR; (iterate 4 rw [ae I]); rw [ag I]
  exact EV U (.cons _ aJ) ⟨aD Value.bool (ap I : oG o.kind = true).symm, G0, fH, kT⟩
 refine ZBn ?_
 refine KC (fun q5 z5 => ?_) (fun q5 z5 => ?_)
 ·refine ZBE ?_
  refine DR [7, 8, 9] (bW [0, 2, 4, 6, 8, 10, 12, 14, 16, 18, 21, 22, 24, 26, 28, 30, 32, 34, 36, 39]) ?_
  refine bZ ?_
  refine vW ?_
  refine DZ U (dG K_ U (aS (W4 x.s.r.sp (o.n % 256) h.r.sp I))) U aW (tB ?_)
  refine ZDG ?_
  refine DZ U (bH (l' := cN K { x.s with r := { x.s.r with f := wQ x.s.r.sp (o.n % 256) } }) 1) U aW (jQ ?_)
  refine ZBn ?_
  refine RX (cX (F := [(b0, _)]) (A := (rb, _) :: _) K_ U (dJ (zK K rb (x.reg { x.s.r with f := wQ x.s.r.sp (o.n % 256) }) (h.reg (h.r.f_ (vT _ _ _ _))) G hG 2 (qS x.s.r.sp (o.n % 256)) Lc))) U (jZ fun G0 hG0 => ?_)
  refine ZA7 ?_
  refine RX (cX (F := [(b0, _)]) (A := (rb, _) :: _) K_ U (dJ (ridle_fn K rb 1 M (x.reg (iT { x.s.r with f := wQ x.s.r.sp (o.n % 256) } 2 (qS x.s.r.sp (o.n % 256)))) (h.reg ((h.r.f_ (vT _ _ _ _)).setP 2 Lc)) G0 hG0))) U (nV fun G1 hG1 => ?_)
  refine aI ?_
  have e9 : jR K.toaQ7 o x = idles K.toaQ7 1 (x.reg (iT { x.s.r with f := wQ x.s.r.sp (o.n % 256) } 2 (qS x.s.r.sp (o.n % 256)))) := by unfold jR; (iterate 5 rw [ae I]); rw [ag I]
  exact EV U (.cons _ aJ) ⟨aD Value.bool (ap I : oG o.kind = true).symm, G1, fH, nC⟩
 refine ZBn ?_
 refine KC (fun q6 z6 => ?_) (fun q6 z6 => ?_)
 ·refine ZBy ?_
  refine aP K_ (fun w hw => rpair_fn K rb x.s h.r w (aH (l := cN K x.s) aE w hw) 2) ?_
  refine ZBy ?_
  refine W (bH (l' := cN K { x.s with r := { x.s.r with sp := (dD x.s.r 2) } }) 1) U (wJ ?_)
  refine RX (cX (F := [(b0, _)]) (A := (rb, _) :: _) K_ U (dJ (ridle_fn K rb 1 M (x.reg { x.s.r with sp := (dD x.s.r 2) }) (h.reg (h.r.sp_ (tH h.r 2))) G hG))) U (jZ fun G0 hG0 => ?_)
  refine aI ?_
  have e9 : jR K.toaQ7 o x = idles K.toaQ7 1 (x.reg { x.s.r with sp := (dD x.s.r 2) }) := by unfold jR; (iterate 6 rw [ae I]); rw [ag I]
  exact EV U (.cons _ aJ) ⟨aD Value.bool (ap I : oG o.kind = true).symm, G0, fH, kT⟩
 refine ZBn ?_
 refine KC (fun q7 z7 => ?_) (fun q7 z7 => ?_)
 ·refine ZA7 ?_
  refine Ed fun G0 hG0 => ?_
  refine aI ?_
  refine aP K_ (fun w hw => rpair_fn K rb (idles K.toaQ7 1 x).s (h.idleK 1).r w (aH (l := cN K (idles K.toaQ7 1 x).s) aE w hw) o.x) ?_
  refine RX (cX (F := [(b0, _)]) (A := (rb, _) :: _) K_ U (dJ (rpush_fn K rb (idles K.toaQ7 1 x) (h.idleK 1) G0 hG0 (dD (idles K.toaQ7 1 x).s.r o.x) (tH h.r o.x)))) U (nV fun G1 hG1 => ?_)
  refine aI ?_
  have e9 : jR K.toaQ7 o x = push K.toaQ7 (dD (idles K.toaQ7 1 x).s.r o.x) (idles K.toaQ7 1 x) := by unfold jR; (iterate 7 rw [ae I]); rw [ag I]
  exact EV U (.cons _ aJ) ⟨aD Value.bool (ap I : oG o.kind = true).symm, G1, fH, nC⟩
 refine ZBn ?_
 refine KC (fun q8 z8 => ?_) (fun q8 z8 => ?_)
 ·refine ZA7 ?_
  refine RX (cX (F := [(b0, _)]) (A := (rb, _) :: _) K_ U (dJ (Lw K rb x h G hG))) U (jZ fun G0 hG0 => ?_)
  refine ZDG ?_
  refine RX (cX (F := [(b0, _)]) (A := (rb, _) :: _) K_ U (dJ (zK K rb (pop K.toaQ7 x).2 h.pop.1 G0 hG0 o.x (pop K.toaQ7 x).1 h.pop.2))) U (nV fun G1 hG1 => ?_)
  refine aI ?_
  have e9 : jR K.toaQ7 o x = (pop K.toaQ7 x).2.reg (iT (pop K.toaQ7 x).2.s.r o.x (pop K.toaQ7 x).1) := by unfold jR; (iterate 8 rw [ae I]); rw [ag I]
  exact EV U (.cons _ aJ) ⟨aD Value.bool (ap I : oG o.kind = true).symm, G1, fH, nC⟩
 refine ZBn ?_
 refine KC (fun q9 z9 => ?_) (fun q9 z9 => ?_)
 ·refine ZBE ?_
  refine DR [4, 5, 6, 7, 8, 9, 10, 11, 12, 13, 14] (bW [0, 2, 4, 6, 8, 10, 12, 14, 16, 18, 20, 22, 24, 26, 28, 31]) ?_
  refine fJ ?_
  refine vW ?_
  refine ZAm ?_
  refine DX U (rI (F := [(b0, _), (rb, _)]) (A := G) U K.mW K.cW U (fun w hw => K.dW (n := bn + 2) h.m hG (St.lentV hw) ho.n I)) U aW ?_
  rintro _ _ ⟨G0, ⟨rfl, hG0⟩, rfl⟩
  refine ZBE ?_
  refine DR [4, 5, 6, 7, 8, 9, 10, 11, 12, 13, 14, 15, 16] (bW [0, 2, 4, 6, 8, 10, 12, 14, 16, 18, 20, 22, 24, 26, 28, 30, 32, 35]) ?_
  refine aI ?_
  refine DW (v := (.int .u16 (mX o.n))) U (nL U U) U (aD _ (pR _)) (aI ?_)
  refine Ph ?_
  refine ZAm ?_
  refine DX U (rI (F := [(b0, _), (rb, _)]) (A := G0) U K.mW K.cW U (fun w hw => K.dW (n := bn + 1) (K.oW h.m ho.n I) hG0 (St.lentV hw) xW I)) U aW ?_
  rintro _ _ ⟨G1, ⟨rfl, hG1⟩, rfl⟩
  refine aI ?_
  have e9 : jR K.toaQ7 o x = x.mem (K.write (mX o.n) (x.s.r.sp / 256) (K.write o.n (x.s.r.sp % 256) x.m)) := by unfold jR; (iterate 9 rw [ae I]); rw [ag I]
  exact EV U (.cons _ aJ) ⟨aD Value.bool (ap I : oG o.kind = true).symm, G1, fH, nC⟩
 refine ZBn ?_
 exact EV U (.cons _ aJ) ⟨aD Value.bool (cz I : oG o.kind = false).symm, G, by rw [On K.toaQ7 (cz I)], by rw [On K.toaQ7 (cz I)]; exact hG⟩
def rplaces_fn {β : Type} (K : lX prog β) (rb : Nat) {bn : Nat} (x : Rn β) (h : RunOk K.toaQ8 (bn + 1) x) (G : aF) (hG : K.rep x.m G) (o : cJ) (ho : rK o) (w : AI) (hst : St w (rb :: G.map (·.1)) ((rb, J (cN K x.s) 355) :: G) w) : aG prog 238 [P_ rb, .agg (cO o).toArray] w (rb :: G.map (·.1)) (fun v H => v = .bool (isP o.kind) ∧ sD K rb (if isP o.kind = true then lU K.toaQ7 o x else x) H) := by
 have hn9 := ho.n
 have hs9 := ho.small
 have hc9 := h.r.c
 refine cE func238 hst ?_
 refine Jz ?_
 refine ZBN fun b0 => ?_
 refine bA ?_
 rcases (show o.kind = 32 ∨ o.kind = 33 ∨ o.kind = 34 ∨ o.kind = 35 ∨ o.kind = 36 ∨ o.kind = 37 ∨ o.kind = 38 ∨ o.kind = 39 ∨ (o.kind < 32 ∨ 39 < o.kind) by omega) with hk | hk | hk | hk | hk | hk | hk | hk | hk
 ·refine bA ?_
  refine kA ?_
  refine bZ ?_
  refine RX (cX (F := [(b0, _)]) (A := (rb, _) :: _) K_ U (dJ (aAR K rb x h G hG o.x))) U (jZ fun G0 hG0 => ?_)
  refine fJ ?_
  refine kA ?_
  refine fJ ?_
  refine RX (rI (F := [(b0, _), (rb, _)]) (A := G0) U K.mR K.cR U (fun w hw => K.dR (h.far o.x).1.m hG0 (St.lentV hw) (h.far o.x).2)) U ?_
  rintro _ _ ⟨G1, ⟨rfl, hG1⟩, rfl⟩
  refine ZBy ?_
  refine W (bH (l' := cN K { (far o.x x).2.s with r := { (far o.x x).2.s.r with a := (K.read (far o.x x).1 (far o.x x).2.m).1 } }) 1) U (oH ?_)
  have e8 : place o x = ((far o.x x).1, (far o.x x).2) := by unfold place; simp only [hk]; rfl
  have e9 : (if isP o.kind = true then lU K.toaQ7 o x else x) = ⟨{ (far o.x x).2.s with r := { (far o.x x).2.s.r with a := (K.read (far o.x x).1 (far o.x x).2.m).1 } }, (K.read (far o.x x).1 (far o.x x).2.m).2⟩ := by rw [ag (show isP o.kind = true from ap I)]; unfold lU; simp only [e8, hk]; rfl
  exact EV U (.cons _ aJ) ⟨aD Value.bool (ap I : isP o.kind = true).symm, G1, fH, nC⟩
 ·refine bA ?_
  refine yP ?_
  refine kA ?_
  refine ZDG ?_
  refine RX (cX (F := [(b0, _)]) (A := (rb, _) :: _) K_ U (dJ (aAR K rb x h G hG o.x))) U (jZ fun G0 hG0 => ?_)
  refine fJ ?_
  refine sT ?_
  refine oU ?_
  refine ZA7 ?_
  refine C3 ?_
  refine DX U (rI (F := [(b0, _), (rb, _)]) (A := G0) U K.mW K.cW U (fun w hw => K.dW (h.far o.x).1.m hG0 (St.lentV hw) (h.far o.x).2 (h.far o.x).1.r.a)) U aW ?_
  rintro _ _ ⟨G1, ⟨rfl, hG1⟩, rfl⟩
  refine aI ?_
  have e8 : place o x = ((far o.x x).1, (far o.x x).2) := by unfold place; simp only [hk]; rfl
  have e9 : (if isP o.kind = true then lU K.toaQ7 o x else x) = (far o.x x).2.mem (K.write (far o.x x).1 (far o.x x).2.s.r.a (far o.x x).2.m) := by rw [ag (show isP o.kind = true from ap I)]; unfold lU; simp only [e8, hk]; rfl
  exact EV U (.cons _ aJ) ⟨aD Value.bool (ap I : isP o.kind = true).symm, G1, fH, nC⟩
 ·refine uC ?_
  refine aI ?_
  refine kA ?_
  refine bA ?_
  refine RW (v := (.int .u16 (65280 + o.n % 256))) (dM U U) U (aD _ ((Pn I).trans I)) (fJ ?_)
  refine Kq ?_
  refine kA ?_
  refine fJ ?_
  refine Zp fun G0 hG0 => ?_
  refine ZBy ?_
  refine W (bH (l' := cN K { x.s with r := { x.s.r with a := (K.read (65280 + o.n % 256) x.m).1 } }) 1) U (oH ?_)
  have e8 : place o x = ((65280 + o.n % 256), x) := by unfold place; simp only [hk]; rfl
  have e9 : (if isP o.kind = true then lU K.toaQ7 o x else x) = ⟨{ x.s with r := { x.s.r with a := (K.read (65280 + o.n % 256) x.m).1 } }, (K.read (65280 + o.n % 256) x.m).2⟩ := by rw [ag (show isP o.kind = true from ap I)]; unfold lU; simp only [e8, hk]; rfl
  exact EV U (.cons _ aJ) ⟨aD Value.bool (ap I : isP o.kind = true).symm, G0, fH, kT⟩
 ·refine uC ?_
  refine aI ?_
  refine yP ?_
  refine kA ?_
  refine aI ?_
  refine RW (v := (.int .u16 (65280 + o.n % 256))) (dM U U) U (aD _ ((Pn I).trans I)) (fJ ?_)
  refine sT ?_
  refine oU ?_
  refine ZA7 ?_
  refine E3 ?_
  rintro _ _ ⟨G0, ⟨rfl, hG0⟩, rfl⟩
  refine aI ?_
  have e8 : place o x = ((65280 + o.n % 256), x) := by unfold place; simp only [hk]; rfl
  have e9 : (if isP o.kind = true then lU K.toaQ7 o x else x) = x.mem (K.write (65280 + o.n % 256) x.s.r.a x.m) := by rw [ag (show isP o.kind = true from ap I)]; unfold lU; simp only [e8, hk]; rfl
  exact EV U (.cons _ aJ) ⟨aD Value.bool (ap I : isP o.kind = true).symm, G0, fH, kT⟩
 ·refine uC ?_
  refine aI ?_
  refine oU ?_
  refine aI ?_
  refine kA ?_
  refine fJ ?_
  refine El ?_
  refine RW (v := (.int .u16 (65280 + x.s.r.c))) (dM U U) U (aD _ (Pn h.r.c)) (fJ ?_)
  refine sT ?_
  refine kA ?_
  refine fJ ?_
  refine Zp fun G0 hG0 => ?_
  refine ZBy ?_
  refine W (bH (l' := cN K { x.s with r := { x.s.r with a := (K.read (65280 + x.s.r.c) x.m).1 } }) 1) U (oH ?_)
  have e8 : place o x = ((65280 + x.s.r.c), x) := by unfold place; simp only [hk]; rfl
  have e9 : (if isP o.kind = true then lU K.toaQ7 o x else x) = ⟨{ x.s with r := { x.s.r with a := (K.read (65280 + x.s.r.c) x.m).1 } }, (K.read (65280 + x.s.r.c) x.m).2⟩ := by rw [ag (show isP o.kind = true from ap I)]; unfold lU; simp only [e8, hk]; rfl
  exact EV U (.cons _ aJ) ⟨aD Value.bool (ap I : isP o.kind = true).symm, G0, fH, kT⟩
 ·refine uC ?_
  refine aI ?_
  refine oU ?_
  refine aI ?_
  refine yP ?_
  refine kA ?_
  refine cL ?_
  refine El ?_
  refine RW (v := (.int .u16 (65280 + x.s.r.c))) (dM U U) U (aD _ (Pn h.r.c)) (fJ ?_)
  refine sT ?_
  refine oU ?_
  refine ZA7 ?_
  refine E3 ?_
  rintro _ _ ⟨G0, ⟨rfl, hG0⟩, rfl⟩
  refine aI ?_
  have e8 : place o x = ((65280 + x.s.r.c), x) := by unfold place; simp only [hk]; rfl
  have e9 : (if isP o.kind = true then lU K.toaQ7 o x else x) = x.mem (K.write (65280 + x.s.r.c) x.s.r.a x.m) := by rw [ag (show isP o.kind = true from ap I)]; unfold lU; simp only [e8, hk]; rfl
  exact EV U (.cons _ aJ) ⟨aD Value.bool (ap I : isP o.kind = true).symm, G0, fH, kT⟩
 ·refine uC ?_
  refine aI ?_
  refine oU ?_
  refine aI ?_
  refine oU ?_
  refine aI ?_
  refine kA ?_
  refine aMo ?_
  refine sT ?_
  refine yP ?_
  refine kA ?_
  refine cL ?_
  refine Zp fun G0 hG0 => ?_
  refine ZBy ?_
  refine W (bH (l' := cN K { x.s with r := { x.s.r with a := (K.read o.n x.m).1 } }) 1) U (oH ?_)
  have e8 : place o x = (o.n, x) := by unfold place; simp only [hk]; rfl
  have e9 : (if isP o.kind = true then lU K.toaQ7 o x else x) = ⟨{ x.s with r := { x.s.r with a := (K.read o.n x.m).1 } }, (K.read o.n x.m).2⟩ := by rw [ag (show isP o.kind = true from ap I)]; unfold lU; simp only [e8, hk]; rfl
  exact EV U (.cons _ aJ) ⟨aD Value.bool (ap I : isP o.kind = true).symm, G0, fH, kT⟩
 ·refine uC ?_
  refine aI ?_
  refine oU ?_
  refine aI ?_
  refine oU ?_
  refine aI ?_
  refine yP ?_
  refine kA ?_
  refine sJ ?_
  refine sT ?_
  refine oU ?_
  refine ZA7 ?_
  refine E3 ?_
  rintro _ _ ⟨G0, ⟨rfl, hG0⟩, rfl⟩
  refine aI ?_
  have e8 : place o x = (o.n, x) := by unfold place; simp only [hk]; rfl
  have e9 : (if isP o.kind = true then lU K.toaQ7 o x else x) = x.mem (K.write o.n x.s.r.a x.m) := by rw [ag (show isP o.kind = true from ap I)]; unfold lU; simp only [e8, hk]; rfl
  exact EV U (.cons _ aJ) ⟨aD Value.bool (ap I : isP o.kind = true).symm, G0, fH, kT⟩
 refine uC ?_
 refine aI ?_
 refine oU ?_
 refine aI ?_
 refine oU ?_
 refine aI ?_
 refine oU ?_
 refine bA ?_
 exact EV U (.cons _ aJ) ⟨aD Value.bool (cz I : isP o.kind = false).symm, G, by rw [ae aEk], by rw [ae aEk]; exact hG⟩
def aHf {β : Type} (K : lX prog β) (rb : Nat) {bn : Nat} (x : Rn β) (h : RunOk K.toaQ8 (bn + 4) x) (G : aF) (hG : K.rep x.m G) (o : cJ) (ho : rK o) (w : AI) (hst : St w (rb :: G.map (·.1)) ((rb, J (cN K x.s) 355) :: G) w) : aG prog 239 [P_ rb, .agg (cO o).toArray] w (rb :: G.map (·.1)) (fun v H => v = .bool (metJ o x) ∧ sD K rb (effJ K.toaQ7 o x) H) := by
 have hn9 := ho.n
 have hi9 := h.idleK 1
 have hp9 := h.r.pc
 refine cE func239 hst ?_
 refine Jz ?_
 refine ZBN fun b0 => ?_
 refine ZA7 ?_
 refine DR [5, 6] (bW [0, 2, 4, 6, 8, 10, 12, 15, 16]) ?_
 refine ZBy ?_
 refine gL U U U U (fun w hw => aK.left (aK.left (kN (l := cN K x.s) aE w hw))) U U ?_
 refine ZAm ?_
 refine DZ U (dG K_ U (aS (aH1 x.s.r h.r o.x))) U aW (ZBy ?_)
 rcases (show o.kind = 23 ∨ o.kind = 24 ∨ o.kind = 25 ∨ o.kind = 26 ∨ o.kind = 27 ∨ o.kind = 28 ∨ o.kind = 29 ∨ (o.kind < 23 ∨ 29 < o.kind) by omega) with hk | hk | hk | hk | hk | hk | hk | hk
 ·refine ZA7 ?_
  refine jL ?_
  refine sJ ?_
  refine kA ?_
  refine cL ?_
  refine KC (fun q0 z0 => ?_) (fun q0 z0 => ?_)
  ·refine ZBn ?_
   refine Cs fun e7 => ?_
   have e8 : metJ o x = false := by unfold metJ; rw [(ap I : decide (23 ≤ o.kind ∧ o.kind ≤ 26) = true)]; simpa using q0
   exact Rx
  refine Lm ?_
  refine kA ?_
  refine bA ?_
  refine Ed fun G0 hG0 => ?_
  refine ZBE ?_
  refine DR [6, 7, 8, 9] (bW [0, 2, 4, 6, 8, 10, 12, 14, 16, 18, 20, 22, 24, 26, 28, 31]) ?_
  refine bA ?_
  refine DW (v := (.int .i8 (s8 (o.n % 256)))) U (gN U U U) U (aD _ (aFU _)) (DW (v := (.int .u16 (s8 (o.n % 256) % 65536))) U (gN U U U) U (aD _ (pR _)) (DW (v := (.int .u16 ((x.s.r.pc + s8 (o.n % 256)) % 65536))) U (nL U U) U (aD _ ((pR _).trans (show (x.s.r.pc + s8 (o.n % 256) % 65536) % 65536 = (x.s.r.pc + s8 (o.n % 256)) % 65536 by omega))) (ZBy ?_)))
  refine DZ U (bH (l' := cN K { (idles K.toaQ7 1 x).s with r := { (idles K.toaQ7 1 x).s.r with pc := (x.s.r.pc + s8 (o.n % 256)) % 65536 } }) 1) U aW (jQ ?_)
  refine ZDG ?_
  refine Xe fun e7 e8 => ?_
  have e9 : effJ K.toaQ7 o x = goto ((x.s.r.pc + s8 (o.n % 256)) % 65536) (idles K.toaQ7 1 x) := by unfold effJ; rw [e7, e8]; simp only [eo, if_false]; simp only [hk]; rfl
  exact EV U (.cons _ aJ) ⟨aD Value.bool e8.symm, G0, fH, kT⟩
 ·refine ZA7 ?_
  refine jL ?_
  refine sJ ?_
  refine Kq ?_
  refine kA ?_
  refine cL ?_
  refine KC (fun q0 z0 => ?_) (fun q0 z0 => ?_)
  ·refine ZBn ?_
   refine Cs fun e7 => ?_
   have e8 : metJ o x = false := by unfold metJ; rw [(ap I : decide (23 ≤ o.kind ∧ o.kind ≤ 26) = true)]; simpa using q0
   exact Rx
  refine Lm ?_
  refine tG ?_
  refine kA ?_
  refine bA ?_
  refine Ed fun G0 hG0 => ?_
  refine bZ ?_
  refine W (bH (l' := cN K { (idles K.toaQ7 1 x).s with r := { (idles K.toaQ7 1 x).s.r with pc := o.n } }) 1) U (jQ ?_)
  refine ZDG ?_
  refine Xe fun e7 e8 => ?_
  have e9 : effJ K.toaQ7 o x = goto o.n (idles K.toaQ7 1 x) := by unfold effJ; rw [e7, e8]; simp only [eo, if_false]; simp only [hk]; rfl
  exact EV U (.cons _ aJ) ⟨aD Value.bool e8.symm, G0, fH, kT⟩
 ·refine ZA7 ?_
  refine jL ?_
  refine sJ ?_
  refine sT ?_
  refine kA ?_
  refine cL ?_
  refine KC (fun q0 z0 => ?_) (fun q0 z0 => ?_)
  ·refine ZBn ?_
   refine Cs fun e7 => ?_
   have e8 : metJ o x = false := by unfold metJ; rw [(ap I : decide (23 ≤ o.kind ∧ o.kind ≤ 26) = true)]; simpa using q0
   exact Rx
  refine Lm ?_
  refine tG ?_
  refine jL ?_
  refine bA ?_
  refine kA ?_
  refine cL ?_
  refine Ed fun G0 hG0 => ?_
  refine U7 ?_
  refine nV fun G1 hG1 => ?_
  refine ZDt ?_
  refine jQ ?_
  refine ZDG ?_
  refine Xe fun e7 e8 => ?_
  exact ZCQ
 ·refine ZA7 ?_
  refine kA ?_
  refine aI ?_
  refine KC (fun q0 z0 => ?_) (fun q0 z0 => ?_)
  ·refine ZAm ?_
   refine Ed fun G0 hG0 => ?_
   refine iG ?_
   refine sT ?_
   refine yP ?_
   refine kA ?_
   refine bA ?_
   refine KC (fun q1 z1 => ?_) (fun q1 z1 => ?_)
   ·refine ZBn ?_
    have e7 : (if o.kind = 26 ∧ o.x ≠ 4 then idles K.toaQ7 1 x else x) = (idles K.toaQ7 1 x) := ag I
    have e8 : metJ o x = false := by unfold metJ; rw [(ap I : decide (23 ≤ o.kind ∧ o.kind ≤ 26) = true)]; simpa using q1
    have e9 : effJ K.toaQ7 o x = (idles K.toaQ7 1 x) := by unfold effJ; rw [e7, e8]; rfl
    exact EV U (.cons _ aJ) ⟨aD Value.bool e8.symm, G0, fH, kT⟩
   refine Lm ?_
   refine tG ?_
   refine jL ?_
   refine uC ?_
   refine ZDG ?_
   refine tG ?_
   refine kA ?_
   refine bZ ?_
   refine RX (cX (F := [(b0, _)]) (A := (rb, _) :: _) K_ U (dJ (Lw K rb (idles K.toaQ7 1 x) (h.idleK 1) G0 hG0))) U (nV fun G1 hG1 => ?_)
   refine ZBy ?_
   refine W (bH (l' := cN K { (pop K.toaQ7 (idles K.toaQ7 1 x)).2.s with r := { (pop K.toaQ7 (idles K.toaQ7 1 x)).2.s.r with pc := (pop K.toaQ7 (idles K.toaQ7 1 x)).1 } }) 1) U (wJ ?_)
   refine RX (cX (F := [(b0, _)]) (A := (rb, _) :: _) K_ U (dJ (ridle_fn K rb 1 M (goto (pop K.toaQ7 (idles K.toaQ7 1 x)).1 (pop K.toaQ7 (idles K.toaQ7 1 x)).2) ((RunOk.pop (h.idleK 1)).1.reg ((RunOk.pop (h.idleK 1)).1.r.pc_ (RunOk.pop (h.idleK 1)).2)) G1 hG1))) U ?_
   rintro _ _ ⟨_, ⟨rfl, G2, rfl, hG2⟩, rfl⟩
   refine ZDG ?_
   have e7 : (if o.kind = 26 ∧ o.x ≠ 4 then idles K.toaQ7 1 x else x) = (idles K.toaQ7 1 x) := ag I
   have e8 : metJ o x = true := by unfold metJ; rw [(ap I : decide (23 ≤ o.kind ∧ o.kind ≤ 26) = true)]; simpa using q1
   have e9 : effJ K.toaQ7 o x = idles K.toaQ7 1 (goto (pop K.toaQ7 (idles K.toaQ7 1 x)).1 (pop K.toaQ7 (idles K.toaQ7 1 x)).2) := by unfold effJ; rw [e7, e8]; simp only [eo, if_false]; simp only [hk]; rfl
   exact EV U (.cons _ aJ) ⟨aD Value.bool e8.symm, G2, fH, by rw [e9]; exact hG2⟩
  refine iG ?_
  refine sT ?_
  refine yP ?_
  refine kA ?_
  refine bA ?_
  refine KC (fun q1 z1 => ?_) (fun q1 z1 => ?_)
  ·refine ZBn ?_
   refine Cs fun e7 => ?_
   have e8 : metJ o x = false := by unfold metJ; rw [(ap I : decide (23 ≤ o.kind ∧ o.kind ≤ 26) = true)]; simpa using q1
   exact Rx
  refine Lm ?_
  refine tG ?_
  refine jL ?_
  refine uC ?_
  refine ZDG ?_
  refine tG ?_
  refine kA ?_
  refine bZ ?_
  refine RX (cX (F := [(b0, _)]) (A := (rb, _) :: _) K_ U (dJ (Lw K rb x h G hG))) U (jZ fun G0 hG0 => ?_)
  refine ZBy ?_
  refine W (bH (l' := cN K { (pop K.toaQ7 x).2.s with r := { (pop K.toaQ7 x).2.s.r with pc := (pop K.toaQ7 x).1 } }) 1) U (wJ ?_)
  refine RX (cX (F := [(b0, _)]) (A := (rb, _) :: _) K_ U (dJ (ridle_fn K rb 1 M (goto (pop K.toaQ7 x).1 (pop K.toaQ7 x).2) ((RunOk.pop h).1.reg ((RunOk.pop h).1.r.pc_ (RunOk.pop h).2)) G0 hG0))) U (nV fun G1 hG1 => ?_)
  refine ZDG ?_
  refine Cs fun e7 => ?_
  have e8 : metJ o x = true := by unfold metJ; rw [(ap I : decide (23 ≤ o.kind ∧ o.kind ≤ 26) = true)]; simpa using q1
  have e9 : effJ K.toaQ7 o x = idles K.toaQ7 1 (goto (pop K.toaQ7 x).1 (pop K.toaQ7 x).2) := by unfold effJ; rw [e7, e8]; simp only [eo, if_false]; simp only [hk]; rfl
  exact EV U (.cons _ aJ) ⟨aD Value.bool e8.symm, G1, fH, nC⟩
 ·refine ZA7 ?_
  refine jL ?_
  refine sJ ?_
  refine sT ?_
  refine oU ?_
  refine Oy ?_
  refine tG ?_
  refine jL ?_
  refine uC ?_
  refine ZDG ?_
  refine kA ?_
  refine bZ ?_
  refine W (bH (l' := cN K { x.s with ime := true }) 1) U (oH ?_)
  refine RX (cX (F := [(b0, _)]) (A := (rb, _) :: _) K_ U (dJ (Lw K rb (⟨{ x.s with ime := true }, x.m⟩ : Rn _) (⟨h.r, h.m⟩ : RunOk K.toaQ8 _ (⟨{ x.s with ime := true }, x.m⟩ : Rn _)) G hG))) U (jZ fun G0 hG0 => ?_)
  refine ZBy ?_
  refine W (bH (l' := cN K { (pop K.toaQ7 (⟨{ x.s with ime := true }, x.m⟩ : Rn _)).2.s with r := { (pop K.toaQ7 (⟨{ x.s with ime := true }, x.m⟩ : Rn _)).2.s.r with pc := (pop K.toaQ7 (⟨{ x.s with ime := true }, x.m⟩ : Rn _)).1 } }) 1) U (wJ ?_)
  refine RX (cX (F := [(b0, _)]) (A := (rb, _) :: _) K_ U (dJ (ridle_fn K rb 1 M (goto (pop K.toaQ7 (⟨{ x.s with ime := true }, x.m⟩ : Rn _)).1 (pop K.toaQ7 (⟨{ x.s with ime := true }, x.m⟩ : Rn _)).2) ((RunOk.pop (⟨h.r, h.m⟩ : RunOk K.toaQ8 (bn + 1 + 1 + 2) (⟨{ x.s with ime := true }, x.m⟩ : Rn _))).1.reg ((RunOk.pop (⟨h.r, h.m⟩ : RunOk K.toaQ8 (bn + 1 + 1 + 2) (⟨{ x.s with ime := true }, x.m⟩ : Rn _))).1.r.pc_ (RunOk.pop (⟨h.r, h.m⟩ : RunOk K.toaQ8 (bn + 1 + 1 + 2) (⟨{ x.s with ime := true }, x.m⟩ : Rn _))).2)) G0 hG0))) U (nV fun G1 hG1 => ?_)
  refine ZDG ?_
  refine Tb fun e7 e8 => ?_
  have e9 : effJ K.toaQ7 o x = idles K.toaQ7 1 (goto (pop K.toaQ7 (⟨{ x.s with ime := true }, x.m⟩ : Rn _)).1 (pop K.toaQ7 (⟨{ x.s with ime := true }, x.m⟩ : Rn _)).2) := by unfold effJ; rw [e7, e8]; simp only [eo, if_false]; simp only [hk]; rfl
  exact EV U (.cons _ aJ) ⟨aD Value.bool e8.symm, G1, fH, nC⟩
 ·refine ZA7 ?_
  refine jL ?_
  refine sJ ?_
  refine sT ?_
  refine oU ?_
  refine Oy ?_
  refine tG ?_
  refine jL ?_
  refine bA ?_
  refine yP ?_
  refine kA ?_
  refine bA ?_
  refine Ed fun G0 hG0 => ?_
  refine U7 ?_
  refine nV fun G1 hG1 => ?_
  refine ZDt ?_
  refine jQ ?_
  refine ZDG ?_
  refine Tb fun e7 e8 => ?_
  exact ZCQ
 ·refine ZA7 ?_
  refine jL ?_
  refine sJ ?_
  refine sT ?_
  refine oU ?_
  refine Oy ?_
  refine tG ?_
  refine jL ?_
  refine uC ?_
  refine ZDG ?_
  refine tG ?_
  refine jL ?_
  refine aI ?_
  refine kA ?_
  refine bA ?_
  refine aP K_ (fun w hw => rpair_fn K rb x.s h.r w (aH (l := cN K x.s) aE w hw) 2) ?_
  refine ZBy ?_
  refine W (bH (l' := cN K { x.s with r := { x.s.r with pc := dD x.s.r 2 } }) 1) U (jQ ?_)
  refine ZDG ?_
  refine Tb fun e7 e8 => ?_
  have e9 : effJ K.toaQ7 o x = goto (dD x.s.r 2) x := by unfold effJ; rw [e7, e8]; simp only [eo, if_false]; simp only [hk]; rfl
  exact EV U (.cons _ aJ) ⟨aD Value.bool e8.symm, G, fH, rO⟩
 refine ZA7 ?_
 refine jL ?_
 refine sJ ?_
 refine sT ?_
 refine oU ?_
 refine Oy ?_
 refine tG ?_
 refine jL ?_
 refine uC ?_
 refine ZDG ?_
 refine tG ?_
 refine jL ?_
 refine aI ?_
 refine jL ?_
 refine cL ?_
 refine Tb fun e7 e8 => ?_
 have e9 : effJ K.toaQ7 o x = x := by unfold effJ; rw [e7, e8]; simp only [eo, if_false]; repeat rw [ae I]
 exact EV U (.cons _ aJ) ⟨aD Value.bool e8.symm, G, fH, rO⟩
def kF.blocks {b : Nat} {u3 : AH} {H : aF} (h : kF b u3 H) : H.map (·.1) = [b] := by
 rcases h with ⟨_, _, _, _, rfl⟩ | rfl <;> rfl
def kF.lent {b : Nat} {u3 : AH} {H R : aF} (h : kF b u3 H) {w0 w : AI} {ms : AE} (hw : St w0 ms (H ++ R) w) : St w [b] H w := by
 have := hw.lentV
 rwa [h.blocks] at this
def kF.mem {b : Nat} {u3 : AH} {H : aF} (h : kF b u3 H) : ∀ x ∈ [b], ∃ o, (x, o) ∈ H := fun x hx => by
 rw [← h.blocks] at hx; exact jS hx
def sQ.tab (b : Nat) (u3 : AH) : kF b u3 (sQ b u3) := .inr rfl
def aOa (b : Nat) (u3 : AH) (H0 : aF) (hT : kF b u3 H0) (w : AI) (hst : St w [b] H0 w) :
  aG prog 150 [P_ b, (.func (.func 151) #[P_ b] #[])] w [b] (fun v H => v = .tuple #[] ∧ H = sQ b u3) := by
 refine cE func150 hst ?_
 refine bG ?_
 rcases hT with ⟨P, B, hP, hB, rfl⟩ | rfl
 ·refine eK ?_
  refine aP K_ (fun w hw => aEj b 0 w (bN (.head _) U w hw)) ?_
  refine dO ?_
  refine W (gY K_ U (fun w hw => aNY b u3 P B hP hB w (hw.holds _ (.head _)))) U (bG ?_)
  exact EN aJ ⟨U, U⟩
 refine eK ?_
 refine aP K_ (fun w hw => aEj b 1 w (bN (.head _) U w hw)) ?_
 refine eK ?_
 exact EN aJ ⟨U, U⟩
def Zg (w : AI) :
  aG prog 19 [] w [] (fun v H => ∃ b, v = P_ b ∧ kF b (.int .u32 0) H) := by
 refine aT func19 ?_
 refine dO ?_
 refine RY (rV (pl := [(0, 3), (3, 1280), (1283, 1280)]) (z := jW (.int .u32 0) (.int .i32 0) (.int .u32 0) (List.replicate 256 o0) (List.replicate 256 o0)) (l := jW (.int .u32 0) (.int .i32 0) (.int .u32 0) (List.replicate 256 o0) (List.replicate 256 o0)) (ps := []) aO aO U aO) U (RX (eM U (l := jW (.int .u32 0) (.int .i32 0) (.int .u32 0) (List.replicate 256 o0) (List.replicate 256 o0)) U) U ?_)
 rintro _ _ ⟨b2, rfl, rfl⟩
 refine bU ?_
 exact EV U aJ ⟨_, U, .inl ⟨_, _, kW, kW, U⟩⟩
def aJP (b : Nat) (u3 : AH) (H0 : aF) (hT : kF b u3 H0) (a x c : Int) (ha : 0 ≤ a ∧ a < 256) (hx : 0 ≤ x ∧ x < 256) (hc : 0 ≤ c ∧ c < 256) (w : AI) (hst : St w [b] H0 w) :
  aG prog 121 [P_ b, .int .u8 a, .int .u8 x, .int .u8 c] w [b] (fun v H => v = .agg (cO (zY a x c)).toArray ∧ kF b u3 H) := by
 obtain ⟨m, o, rfl, hm, ho⟩ := Wa ha.1 ha.2
 obtain ⟨k, rfl⟩ : ∃ k : Nat, x = k := ⟨x.toNat, aR⟩
 refine cE func121 hst ?_
 refine aU ?_
 refine RX (gG U) U ?_
 rintro _ _ ⟨b8, rfl, rfl⟩
 refine lZ ?_
 refine RW (v := (.func (.func 151) #[P_ b] #[])) U U Fh (cZ (H' := H0 ++ [(b8, _)]) (fun _ h => St.fl [[_], H0] [1, 0] U (h.as U)) ?_)
 refine RX (kM (A := H0) (G := [(b8, _)]) [b] K_ U hT.mem (fun w hw => aOa b u3 H0 hT w (hT.lent hw))) U ?_
 rintro _ _ ⟨_, ⟨rfl, rfl⟩, rfl⟩
 refine gF ?_
 refine KC (fun h1 h1n => ?_) (fun h1 h1n => ?_)
 ·refine dO ?_
  refine RY (iP (s := 5) k U U U U I) U (W (bX U U U (fun w hw => aMV Y9 (aH (.head _) w hw) (aHx I))) U (W iB U (aU ?_)))
  exact lC (H' := sQ b u3) (fun w hw => eW U U U (aH aE w hw)) (fun _ h => h.sub (cj _ _)) ⟨Mz (by rw [J3 aM]; rfl), sQ.tab b u3⟩
 refine gF ?_
 refine RY (iP (s := 5) m U U U U hm) U (W (bX U U U (fun w hw => aKv (aH (.head _) w hw) ho)) U (RX (gG U) U ?_))
 rintro _ _ ⟨b9, rfl, rfl⟩
 refine W iB U (lS ?_)
 refine KC (fun h2 h2n => ?_) (fun h2 h2n => ?_)
 ·refine aU ?_
  refine RW (v := (.int .u16 k)) U U (aD _ (tW I I)) (bG ?_)
  refine W iB U (bU ?_)
  refine W (bX U U U sK) U (W iB U (aU ?_))
  exact lC (H' := sQ b u3) (fun w hw => eW U U U (aH aE w hw)) (fun _ h => St.fl [[_], [_], [_]] [1] U h) ⟨Mz (by rw [Jd rfl aM ho, Vt aM]; rfl), sQ.tab b u3⟩
 refine cY ?_
 refine KC (fun h3 h3n => ?_) (fun h3 h3n => ?_)
 ·refine aU ?_
  refine RW (v := (.int .u16 k)) U U (aD _ (tW I I)) (bG ?_)
  refine RW (v := (.int .u16 c)) U U (aD _ (tW I I)) (RY (iM U U M) U (RW (v := (.int .u16 (k + 256 * c))) U U (aD _ (M9 hx hc)) (bG ?_)))
  refine W iB U (bU ?_)
  refine W (bX U U U sK) U (W iB U (aU ?_))
  exact lC (H' := sQ b u3) (fun w hw => eW U U U (aH aE w hw)) (fun _ h => St.fl [[_], [_], [_]] [1] U h) ⟨Mz (by rw [Jd rfl aM ho, Ys aM]; rfl), sQ.tab b u3⟩
 refine bU ?_
 refine W (bX U U U sK) U (W iB U (aU ?_))
 exact lC (H' := sQ b u3) (fun w hw => eW U U U (aH aE w hw)) (fun _ h => St.fl [[_], [_], [_]] [1] U h) ⟨Mz (by rw [Jd rfl aM ho, Ze aM aM]; rfl), sQ.tab b u3⟩
def aOX {β : Type} (K : lX prog β) (rb : Nat) {bn : Nat} (x : Rn β) (h : RunOk K.toaQ8 (bn + 4) x) (G : aF) (hG : K.rep x.m G) (o : cJ) (ho : rK o) (p : Int) (hp : 0 ≤ p ∧ p < 65536) (w : AI) (hst : St w (rb :: G.map (·.1)) ((rb, J (cN K x.s) 355) :: G) w) : aG prog 214 [P_ rb, .agg (cO o).toArray, .int .u16 p] w (rb :: G.map (·.1)) (fun v H => v = .bool (ordT K.toaQ7 o p x).1 ∧ sD K rb (ordT K.toaQ7 o p x).2 H) := by
 refine cE func214 hst ?_
 refine Jz ?_
 refine ZBN fun b0 => ?_
 refine jN ?_
 refine KC (fun q0 z0 => ?_) (fun q0 z0 => ?_)
 ·refine ZBn ?_
  refine W (bH (l' := cN K { x.s with stop := true }) 1) U (oH ?_)
  have e9 : ordT K.toaQ7 o p x = (true, ⟨{ x.s with stop := true }, x.m⟩) := by unfold ordT; rw [ag I]
  exact EV U (.cons _ aJ) ⟨jO, G, jO, rO⟩
 refine ZBn ?_
 refine KC (fun q1 z1 => ?_) (fun q1 z1 => ?_)
 ·refine ZBn ?_
  refine W (bH (l' := cN K { x.s with halt := true }) 1) U (oH ?_)
  have e9 : ordT K.toaQ7 o p x = (true, ⟨{ x.s with halt := true }, x.m⟩) := by unfold ordT; rw [ae I]; rw [ag I]
  exact EV U (.cons _ aJ) ⟨jO, G, jO, rO⟩
 refine ZBn ?_
 refine KC (fun q2 z2 => ?_) (fun q2 z2 => ?_)
 ·refine ZDG ?_
  refine W (bH (l' := cN K { x.s with r := { x.s.r with pc := p } }) 1) U (oH ?_)
  have e9 : ordT K.toaQ7 o p x = (true, ⟨{ x.s with r := { x.s.r with pc := p } }, x.m⟩) := by unfold ordT; (iterate 2 rw [ae I]); rw [ag I]; rfl
  exact EV U (.cons _ aJ) ⟨jO, G, jO, rO⟩
 refine ZBn ?_
 refine KC (fun q3 z3 => ?_) (fun q3 z3 => ?_)
 ·refine ZBn ?_
  refine W (bH (l' := cN K { x.s with ime := false }) 1) U (oH ?_)
  have e9 : ordT K.toaQ7 o p x = (true, ⟨{ x.s with ime := false }, x.m⟩) := by unfold ordT; (iterate 3 rw [ae I]); rw [ag I]
  exact EV U (.cons _ aJ) ⟨jO, G, jO, rO⟩
 refine ZBn ?_
 refine KC (fun q4 z4 => ?_) (fun q4 z4 => ?_)
 ·refine ZBn ?_
  refine W (bH (l' := cN K { x.s with soon := true }) 1) U (oH ?_)
  have e9 : ordT K.toaQ7 o p x = (true, ⟨{ x.s with soon := true }, x.m⟩) := by unfold ordT; (iterate 4 rw [ae I]); rw [ag I]
  exact EV U (.cons _ aJ) ⟨jO, G, jO, rO⟩
 refine ZBE ?_
 rcases (show kQ o.kind = true ∨ (kQ o.kind = false ∧ oG o.kind = true) ∨ (kQ o.kind = false ∧ oG o.kind = false ∧ isP o.kind = true) ∨ (kQ o.kind = false ∧ oG o.kind = false ∧ isP o.kind = false) by cases kQ o.kind <;> cases oG o.kind <;> cases isP o.kind <;> simp) with hB | ⟨hB, hW⟩ | ⟨hB, hW, hP⟩ | ⟨hB, hW, hP⟩
 ·refine ZAm ?_
  refine Uq ?_
  refine jZ fun G0 hG0 => ?_
  rw [hB]
  refine sJ ?_
  have e9 : ordT K.toaQ7 o p x = (true, gT K.toaQ7 o x) := by unfold ordT; (iterate 5 rw [ae I]); rw [ag hB]
  exact EV U (.cons _ aJ) ⟨jO, G0, fH, kT⟩
 ·refine ZAm ?_
  refine Uq ?_
  refine jZ fun G0 hG0 => ?_
  rw [hB]
  rw [In K.toaQ7 hB] at hG0 ⊢
  refine ZAm ?_
  refine H8 ?_
  refine nV fun G1 hG1 => ?_
  rw [hW]
  refine jN ?_
  have e9 : ordT K.toaQ7 o p x = (true, jR K.toaQ7 o x) := by unfold ordT; (iterate 5 rw [ae I]); rw [ae (by rw [hB]; decide), ag hW]
  exact EV U (.cons _ aJ) ⟨jO, G1, fH, nC⟩
 ·refine ZAm ?_
  refine Uq ?_
  refine jZ fun G0 hG0 => ?_
  rw [hB]
  rw [In K.toaQ7 hB] at hG0 ⊢
  refine ZAm ?_
  refine H8 ?_
  refine nV fun G1 hG1 => ?_
  rw [hW]
  rw [On K.toaQ7 hW] at hG1 ⊢
  refine ZA7 ?_
  refine ZES ?_
  rintro _ _ ⟨_, ⟨rfl, G2, rfl, hG2⟩, rfl⟩
  rw [ag (show isP o.kind = true by rw [hP])] at hG2 ⊢
  rw [hP]
  refine bZ ?_
  have e9 : ordT K.toaQ7 o p x = (true, lU K.toaQ7 o x) := by unfold ordT; (iterate 5 rw [ae I]); rw [ae (by rw [hB]; decide), ae (by rw [hW]; decide), ag hP]
  exact EV U (.cons _ aJ) ⟨jO, G2, fH, by rw [e9]; exact hG2⟩
 refine ZAm ?_
 refine Uq ?_
 refine jZ fun G0 hG0 => ?_
 rw [hB]
 rw [In K.toaQ7 hB] at hG0 ⊢
 refine ZAm ?_
 refine H8 ?_
 refine nV fun G1 hG1 => ?_
 rw [hW]
 rw [On K.toaQ7 hW] at hG1 ⊢
 refine ZA7 ?_
 refine ZES ?_
 rintro _ _ ⟨_, ⟨rfl, G2, rfl, hG2⟩, rfl⟩
 rw [ae (show ¬ isP o.kind = true by rw [hP]; decide)] at hG2 ⊢
 rw [hP]
 refine ZA7 ?_
 refine pH ?_
 refine RX (cX (F := [(b0, _)]) (A := (rb, _) :: _) K_ U (dJ (aHf K rb x (h.le I : RunOk K.toaQ8 (bn + 4) x) G2 hG2 o ho))) U ?_
 rintro _ _ ⟨_, ⟨rfl, G3, rfl, hG3⟩, rfl⟩
 refine ZBy ?_
 have e9 : ordT K.toaQ7 o p x = (metJ o x, effJ K.toaQ7 o x) := by unfold ordT; (iterate 5 rw [ae I]); rw [ae (by rw [hB]; decide), ae (by rw [hW]; decide), ae (by rw [hP]; decide)]
 exact EV U (.cons _ aJ) ⟨jO, G3, fH, by rw [e9]; exact hG3⟩
def aQz (p : Int) (hp : 0 < p ∧ p < 32) (w : AI) : aG prog 234 [.int .u8 p] w [] (V_ (.int .i64 (nE p))) := by
 refine aT func234 ?_
 refine ZBn ?_
 rcases (show p = 1 ∨ p = 2 ∨ p = 3 ∨ p = 4 ∨ p = 5 ∨ p = 6 ∨ p = 7 ∨ p = 8 ∨ p = 9 ∨ p = 10 ∨ p = 11 ∨ p = 12 ∨ p = 13 ∨ p = 14 ∨ p = 15 ∨ p = 16 ∨ p = 17 ∨ p = 18 ∨ p = 19 ∨ p = 20 ∨ p = 21 ∨ p = 22 ∨ p = 23 ∨ p = 24 ∨ p = 25 ∨ p = 26 ∨ p = 27 ∨ p = 28 ∨ p = 29 ∨ p = 30 ∨ p = 31 by omega) with rfl | rfl | rfl | rfl | rfl | rfl | rfl | rfl | rfl | rfl | rfl | rfl | rfl | rfl | rfl | rfl | rfl | rfl | rfl | rfl | rfl | rfl | rfl | rfl | rfl | rfl | rfl | rfl | rfl | rfl | rfl
 ·refine ZA7 ?_
  refine fB ?_
  exact fN
 ·refine ZA7 ?_
  refine fB ?_
  exact fN
 ·refine ZA7 ?_
  refine fB ?_
  exact fN
 ·refine ZA7 ?_
  refine fB ?_
  exact fN
 ·refine ZA7 ?_
  refine fB ?_
  exact fN
 ·refine ZA7 ?_
  refine fB ?_
  exact fN
 ·refine ZA7 ?_
  refine fB ?_
  exact fN
 ·refine ZA7 ?_
  refine fB ?_
  exact fN
 ·refine ZA7 ?_
  refine fB ?_
  exact fN
 ·refine ZA7 ?_
  refine fB ?_
  exact fN
 ·refine ZA7 ?_
  refine fB ?_
  exact fN
 ·refine ZA7 ?_
  refine fB ?_
  exact fN
 ·refine ZA7 ?_
  refine fB ?_
  exact fN
 ·refine ZA7 ?_
  refine fB ?_
  exact fN
 ·refine ZA7 ?_
  refine fB ?_
  exact fN
 ·refine ZA7 ?_
  refine fB ?_
  exact fN
 ·refine ZA7 ?_
  refine fB ?_
  exact fN
 ·refine ZA7 ?_
  refine fB ?_
  exact fN
 ·refine ZA7 ?_
  refine fB ?_
  exact fN
 ·refine ZA7 ?_
  refine fB ?_
  exact fN
 ·refine ZA7 ?_
  refine fB ?_
  exact fN
 ·refine ZA7 ?_
  refine fB ?_
  exact fN
 ·refine ZA7 ?_
  refine fB ?_
  exact fN
 ·refine ZA7 ?_
  refine fB ?_
  exact fN
 ·refine ZA7 ?_
  refine fB ?_
  exact fN
 ·refine ZA7 ?_
  refine fB ?_
  exact fN
 ·refine ZA7 ?_
  refine fB ?_
  exact fN
 ·refine ZA7 ?_
  refine fB ?_
  exact fN
 ·refine ZA7 ?_
  refine fB ?_
  exact fN
 ·refine ZA7 ?_
  refine fB ?_
  exact fN
 refine ZA7 ?_
 refine fB ?_
 exact fN
def aIv {β : Type} (K : lX prog β) (rb : Nat) {bn : Nat} (x : Rn β) (h : RunOk K.toaQ8 (bn + 5) x) (G : aF) (hG : K.rep x.m G) (p : Int) (hp : 0 < p ∧ p < 32) (w : AI) (hst : St w (rb :: G.map (·.1)) ((rb, J (cN K x.s) 355) :: G) w) : aG prog 212 [P_ rb, .int .u8 p] w (rb :: G.map (·.1)) (fun v H => v = .int .i64 (nE p) ∧ sD K rb (zR K.toaQ7 p x) H) := by
 have hl9 := aEJ p
 refine cE func212 hst ?_
 refine ZDG ?_
 refine aP K_ (aS (aQz p hp)) ?_
 refine ZBn ?_
 refine RX (gY K_ U (kD (ridle_fn K rb 2 M x (h.le I : RunOk K.toaQ8 (bn + 3 + 2) x) G hG))) U ?_
 rintro _ _ ⟨rfl, G0, rfl, hG0⟩
 refine cL ?_
 refine RX (gY K_ U (kD (rpush_fn K rb (idles K.toaQ7 2 x) (h.idleK 2) G0 hG0 x.s.r.pc h.r.pc))) U ?_
 rintro _ _ ⟨rfl, G1, rfl, hG1⟩
 refine bA ?_
 refine RX (rI (F := [(rb, _)]) (A := G1) U K.mA K.cA U (fun w hw => K.dA ((h.idleK 2).push h.r.pc).m hG1 (St.lentV hw) hl9)) U ?_
 rintro _ _ ⟨G2, ⟨rfl, hG2⟩, rfl⟩
 refine pA ?_
 refine RX (gY K_ U (kD (ridle_fn K rb 1 M ((push K.toaQ7 x.s.r.pc (idles K.toaQ7 2 x)).mem (K.ack (nE p) (push K.toaQ7 x.s.r.pc (idles K.toaQ7 2 x)).m)) (((h.idleK 2).push h.r.pc).mem (K.oA ((h.idleK 2).push h.r.pc).m hl9)) G2 hG2))) U ?_
 rintro _ _ ⟨rfl, G3, rfl, hG3⟩
 refine bA ?_
 refine W (bH (l' := cN K { (idles K.toaQ7 1 ((push K.toaQ7 x.s.r.pc (idles K.toaQ7 2 x)).mem (K.ack (nE p) (push K.toaQ7 x.s.r.pc (idles K.toaQ7 2 x)).m))).s with ime := false }) 0) U (wJ ?_)
 refine W (bH (l' := cN K { (idles K.toaQ7 1 ((push K.toaQ7 x.s.r.pc (idles K.toaQ7 2 x)).mem (K.ack (nE p) (push K.toaQ7 x.s.r.pc (idles K.toaQ7 2 x)).m))).s with ime := false, soon := false }) 0) U (jQ ?_)
 refine ZBn ?_
 refine rU ?_
 refine hY ?_
 refine El ?_
 refine ZBy ?_
 refine W (bH (l' := cN K { (idles K.toaQ7 1 ((push K.toaQ7 x.s.r.pc (idles K.toaQ7 2 x)).mem (K.ack (nE p) (push K.toaQ7 x.s.r.pc (idles K.toaQ7 2 x)).m))).s with ime := false, soon := false, r := { (idles K.toaQ7 1 ((push K.toaQ7 x.s.r.pc (idles K.toaQ7 2 x)).mem (K.ack (nE p) (push K.toaQ7 x.s.r.pc (idles K.toaQ7 2 x)).m))).s.r with pc := 64 + 8 * nE p } }) 0) U (jQ ?_)
 refine ZDG ?_
 exact EV U aJ ⟨U, G3, U, hG3⟩
def aMl {β : Type} (K : lX prog β) (rb : Nat) {bn : Nat} (x : Rn β) (h : RunOk K.toaQ8 (bn + 3) x) (G : aF) (hG : K.rep x.m G) (tb : Nat) (u3 : AH) (oT : Obj) (hT : kF tb u3 [(tb, oT)]) (w : AI) (hst : St w (tb :: rb :: G.map (·.1)) ((tb, oT) :: (rb, J (cN K x.s) 355) :: G) w) : aG prog 213 [P_ rb, P_ tb] w (tb :: rb :: G.map (·.1)) (fun v H => v = .agg (cO (nextT K.toaQ7 x).1).toArray ∧ ∃ oT', kF tb u3 [(tb, oT')] ∧ ∃ G', H = (tb, oT') :: (rb, J (cN K (nextT K.toaQ7 x).2.s) 355) :: G' ∧ K.rep (nextT K.toaQ7 x).2.m G') := by
 refine cE func213 hst ?_
 refine ZAm ?_
 refine nM fun b0 => ?_
 refine ZA7 ?_
 refine lE fun b1 => ?_
 refine ZA7 ?_
 refine RS ?_
 refine ZC2 ?_
 rintro _ _ ⟨b2, rfl, rfl⟩
 refine ZEq ?_
 refine ZDG ?_
 refine dV (σ := Nat × Obj × aF) [7, 9, 10, 11, 12, 13, 14, 15, 16, 17, 18, 19, 20, 21, 22, 23, 24, 25, 26, 27, 28, 29, 30, 31, 32, 33, 34, 35, 36, 37, 38, 39, 40, 41, 42, 43, 44, 45, 46, 47, 48] (fun s => [(7, .int .i64 s.1)]) (fun s => (b2, J (cO (iN K.toaQ7 x s.1).o) 95) :: (b1, J ((iN K.toaQ7 x s.1).b.map (.int .u8)) 378) :: (b0, J (cO oN) 95) :: (tb, s.2.1) :: (rb, J (cN K (iN K.toaQ7 x s.1).x.s) 355) :: s.2.2) (fun s => s.1 ≤ 3 ∧ (∀ j : Nat, j < s.1 → (j : Int) < (iN K.toaQ7 x j).o.size) ∧ kF tb u3 [(tb, s.2.1)] ∧ K.rep (iN K.toaQ7 x s.1).x.m s.2.2) (fun s => 3 - s.1) (0, oT, G) ?_ ?_ ?_ ?_
 ·exact ⟨av _, fun j hj => absurd hj (Nat.not_lt_zero _), hT, hG⟩
 ·exact .cons U .nil
 ·exact fun _ h => h
 rintro ⟨i, oi, Gi⟩ y4 ⟨hi, hpi, hTi, hGi⟩
 dsimp only at hi hpi hTi hGi ⊢
 have hx9 := h.nx i hi
 refine bA ?_
 refine KC (fun q0 z0 => ?_) (fun q0 z0 => ?_)
 ·refine ZBy ?_
  have hs9 : i < 3 := by have := hx9.sz; omega
  have hy9 := hx9.le (k := 0 + 1) I
  have hl9 := hx9.len
  have hb9 := yO hx9.by_ i hy9.x.fetch1.2
  refine DR [5, 6, 7, 8, 9, 10, 11, 12] (bW [0, 2, 4, 6, 8, 10, 12, 14, 16, 18, 20, 22, 24, 27, 28, 31]) ?_
  refine lS ?_
  refine DX U (rI (F := [(b2, _), (b1, _), (b0, _), (tb, _), (rb, _)]) (A := Gi) U K.mF K.cF U (fun w hw => K.dF hy9.x.m hGi (St.lentV hw) hx9.x.r.pc)) U aW ?_
  rintro _ _ ⟨G0, ⟨rfl, hG0⟩, rfl⟩
  refine jQ ?_
  refine DY U (eG i U U U U I) U (DZ U (bF (l' := ((iN K.toaQ7 x i).b.set i (K.fetch (iN K.toaQ7 x i).x.s.r.pc (iN K.toaQ7 x i).x.m).1).map (.int .u8)) 1 U U U U U U (by simp [hl9]; omega) (by rw [cg]; exact vG _ I _)) U aW (jQ ?_))
  refine bZ ?_
  refine RW (v := (.int .u16 (mX (iN K.toaQ7 x i).x.s.r.pc))) (nL U U) U (aD _ (pR _)) (ZBy ?_)
  refine W (bH (l' := cN K { (iN K.toaQ7 x i).x.s with r := { (iN K.toaQ7 x i).x.s.r with pc := mX (iN K.toaQ7 x i).x.s.r.pc } }) 4) U (wJ ?_)
  refine RY zA U (W (aX U U (bN aE (gJ (j := 0) (by simp [hl9])))) U (RY Ku U (W (aX U U (bN aE (gJ (j := 1) (by simp [hl9])))) U ?_)))
  refine RY Pi U (W (aX U U (bN aE (gJ (j := 2) (by simp [hl9])))) U (RX (aDQ (F := [(b2, _), (b1, _), (b0, _)]) (A := [(tb, _)]) (G := (rb, _) :: _) [tb] K_ U (fun _ hb => jS (G := [(tb, _)]) hb) (fun w hw => aJP tb u3 _ hTi _ _ _ (hb9.get 0) (hb9.get 1) (hb9.get 2) w (hTi.lent hw))) U ?_))
  rintro _ _ ⟨HT, ⟨rfl, hT0⟩, rfl⟩
  obtain ⟨oT0, rfl⟩ := hT0.one
  refine jQ ?_
  refine W (bH (l' := cO (iN K.toaQ7 x (i + 1)).o) 0) U (wJ ?_)
  refine jF ?_
  exact ⟨(i + 1, oT0, G0), ⟨aR, fun j hj => by rcases Nat.lt_succ_iff_lt_or_eq.1 hj with q0 | rfl; exact hpi j q0; assumption, hT0, hG0⟩, Sn, .cons U .nil, bJ, fun _ h => h⟩
 refine ZA7 ?_
 refine tE ?_
 have e9 := aGf K.toaQ7 hi hpi (by assumption)
 exact iU (fun w hw => eW U U U (aH (b := b0) (l := cO (iN K.toaQ7 x i).o) aE w hw)) (.cons _ (.cons _ (.cons _ aJ))) ⟨jO, oi, hTi, Gi, jO, by rw [e9]; exact hGi⟩
set_option maxHeartbeats 4000000 in
def aQB {β : Type} (K : lX prog β) {bn : Nat} (s : CS) (m : β) (h : RunOk K.toaQ8 (bn + 7) (⟨s, m⟩ : Rn _)) (G : aF) (hG : K.rep m G) (tb : Nat) (u3 : AH) (oT : Obj) (hT : kF tb u3 [(tb, oT)]) (w : AI) (hst : St w (tb :: G.map (·.1)) ((tb, oT) :: G) w) : aG prog 176 [P_ tb, .agg (cS s).toArray, .iface K.t0 K.v] w (tb :: G.map (·.1)) (fun v H => v = .tuple #[.agg (cS (fK K.toaQ7 (⟨s, m⟩ : Rn _)).2.s).toArray, .agg (cDd (fK K.toaQ7 (⟨s, m⟩ : Rn _)).1).toArray] ∧ ∃ oT', kF tb u3 [(tb, oT')] ∧ ∃ G', H = (tb, oT') :: G' ∧ K.rep (fK K.toaQ7 (⟨s, m⟩ : Rn _)).2.m G') := by
 have hp9 : 0 ≤ K.pend m ∧ K.pend m < 32 := K.oP h.m
 obtain ⟨r, ime, soon, halt, stop⟩ := s
 refine cE func176 hst ?_
 refine ZAm ?_
 refine RX (eM (l := cS ⟨r, ime, soon, halt, stop⟩) U U) U (vP fun b0 b1 => ?_)
 refine ZC2 ?_
 rintro _ _ ⟨b2, rfl, rfl⟩
 refine aI ?_
 refine RS ?_
 refine ZC2 ?_
 rintro _ _ ⟨b3, rfl, rfl⟩
 refine W (bH (l' := cDd ⟨0, 0, r.pc, oN, false⟩) 0) U (jQ ?_)
 refine lZ ?_
 refine W (bX U U U (by first | exact aH aE | exact uY aE _ 14 rfl)) U (ZBE ?_)
 refine RS ?_
 refine RX (eM (l := cN K ⟨r, ime, soon, halt, stop⟩) U U) U ?_
 rintro _ _ ⟨b4, rfl, rfl⟩
 refine cZ (aQi [(b3, _), (b2, _), (b1, _), (b0, _), (tb, _)]) ?_
 refine pA ?_
 rcases stop with _ | _
 ·refine fJ ?_
  refine RX (rI (F := [(b3, _), (b2, _), (b1, _), (b0, _), (tb, _), (b4, _)]) (A := G) U K.mP K.cP U (fun w hw => K.dP h.m hG (St.lentV hw))) U ?_
  rintro _ _ ⟨GP, ⟨rfl, hGP⟩, rfl⟩
  rw [hGP]
  refine wJ ?_
  refine Sl [50, 51, 52, 53, 54, 55, 56, 57, 58] [(58, .bool (decide (halt = true ∧ K.pend m = 0)))] ?_ (fun y10 => ?_)
  ·rcases halt with _ | _
   ·exact Pa
   exact Pa
  refine KC (fun q0 z0 => ?_) (fun q0 z0 => ?_)
  ·refine ZA7 ?_
   refine RX (cX (F := [(b3, _), (b2, _), (b1, _), (b0, _), (tb, _)]) (A := (b4, _) :: _) K_ U (dJ (ridle_fn K b4 1 M (⟨(⟨r, ime, soon, halt, false⟩ : CS), m⟩ : Rn _) (h.le I : RunOk K.toaQ8 (0 + 1) _) G hG))) U (jZ fun G0 hG0 => ?_)
   refine ZAm ?_
   refine mZ [(b3, J (cDd ⟨0, 0, r.pc, oN, false⟩) 281), (b4, J (cN K (⟨r, ime, soon, halt, false⟩ : CS)) 355)] [4, 5] (.step true 0 (.step true 1 (.step true 2 (.step true 3 (.step true 4 (.step false 5 (.step false 6 .done))))))) U aO aO (fun x hx => uA) ?_
   refine ZA7 ?_
   refine gL U U U U (fun w hw => aK.left (kN (l := cN K (⟨r, ime, soon, halt, false⟩ : CS)) aE w hw)) U U ?_
   refine He ?_
   refine DZ U (bH (l' := cS (⟨r, ime, soon, halt, false⟩ : CS)) 2) U xZ (jQ ?_)
   refine DZ U (bH (l' := cDd ⟨0, 0, r.pc, oN, false⟩) 1) U xZ (rT ?_)
   have e9 : fK K.toaQ7 (⟨(⟨r, ime, soon, halt, false⟩ : CS), m⟩ : Rn _) = (⟨0, 0, r.pc, oN, false⟩, (⟨(⟨r, ime, soon, halt, false⟩ : CS), K.idle m⟩ : Rn _)) := by unfold fK; exact (ae (c := false = true) M).trans (ag (c := halt = true ∧ K.pend m = 0) z0)
   exact iU (fun w hw => Kp U U U (aH (b := b1) (l := cS (⟨r, ime, soon, halt, false⟩ : CS)) aE w hw) U U U (aH (b := b2) (l := cDd ⟨0, 0, r.pc, oN, false⟩) aE w hw)) (.cons _ (.cons _ (.cons _ (.cons _ (.cons_cons _ (.cons _ aJ)))))) ⟨jO, oT, hT, G0, U, kT⟩
  refine ZDG ?_
  refine W (bH (l' := cN K (⟨r, ime, soon, false, false⟩ : CS)) 5) U (rT ?_)
  refine Sl [70, 71, 72, 73, 74, 75, 76, 77, 78] [(78, .bool (decide (ime = true ∧ K.pend m ≠ 0)))] ?_ (fun y14 => ?_)
  ·rcases ime with _ | _
   ·exact Pa
   exact Pa
  refine KC (fun q1 z1 => ?_) (fun q1 z1 => ?_)
  ·refine ZBy ?_
   refine RX (cX (F := [(b3, _), (b2, _), (b1, _), (b0, _), (tb, _)]) (A := (b4, _) :: _) K_ U (dJ (aIv K b4 (⟨(⟨r, ime, soon, false, false⟩ : CS), m⟩ : Rn _) (⟨h.r, K.oL h.m I⟩ : RunOk K.toaQ8 (0 + 5) (⟨(⟨r, ime, soon, false, false⟩ : CS), m⟩ : Rn _)) G hG (K.pend m) I))) U (jZ fun G0 hG0 => ?_)
   refine ZBE ?_
   refine W (bH (l' := cDd ⟨2, 0, r.pc, oN, false⟩) 0) U (wN ?_)
   refine W (bH (l' := cDd ⟨2, nE (K.pend m), r.pc, oN, false⟩) 0) U (rT ?_)
   refine mZ [(b3, J (cDd ⟨2, nE (K.pend m), r.pc, oN, false⟩) 281), (b4, J (cN K (zR K.toaQ7 (K.pend m) (⟨(⟨r, ime, soon, false, false⟩ : CS), m⟩ : Rn _)).s) 355)] [4, 5] (.step true 0 (.step true 1 (.step true 2 (.step true 3 (.step true 4 (.step false 5 (.step false 6 .done))))))) U aO aO (fun x hx => uA) ?_
   refine ZA7 ?_
   refine gL U U U U (fun w hw => aK.left (kN (l := cN K (zR K.toaQ7 (K.pend m) (⟨(⟨r, ime, soon, false, false⟩ : CS), m⟩ : Rn _)).s) aE w hw)) U U ?_
   refine He ?_
   refine DZ U (bH (l' := cS (zR K.toaQ7 (K.pend m) (⟨(⟨r, ime, soon, false, false⟩ : CS), m⟩ : Rn _)).s) 2) U xZ (jQ ?_)
   refine DZ U (bH (l' := cDd ⟨2, nE (K.pend m), r.pc, oN, false⟩) 1) U xZ (rT ?_)
   have e9 : fK K.toaQ7 (⟨(⟨r, ime, soon, halt, false⟩ : CS), m⟩ : Rn _) = (⟨2, nE (K.pend m), r.pc, oN, false⟩, (zR K.toaQ7 (K.pend m) (⟨(⟨r, ime, soon, false, false⟩ : CS), m⟩ : Rn _))) := by unfold fK; exact (ae (c := false = true) M).trans ((ae (c := halt = true ∧ K.pend m = 0) z0).trans (ag (c := ime = true ∧ K.pend m ≠ 0) z1))
   exact iU (fun w hw => Kp U U U (aH (b := b1) (l := cS (zR K.toaQ7 (K.pend m) (⟨(⟨r, ime, soon, false, false⟩ : CS), m⟩ : Rn _)).s) aE w hw) U U U (aH (b := b2) (l := cDd ⟨2, nE (K.pend m), r.pc, oN, false⟩) aE w hw)) (.cons _ (.cons _ (.cons _ (.cons _ (.cons_cons _ (.cons _ aJ)))))) ⟨jO, oT, hT, G0, U, kT⟩
  refine Fy ?_
  refine W (bH (l' := cN K (⟨r, ime, false, false, false⟩ : CS)) 5) U (jQ ?_)
  refine ZBn ?_
  refine RX (cX (F := [(b3, _), (b2, _), (b1, _), (b0, _)]) (A := (tb, _) :: (b4, _) :: _) K_ U (dJ (aMl K b4 (⟨(⟨r, ime, false, false, false⟩ : CS), m⟩ : Rn _) (⟨h.r, K.oL h.m I⟩ : RunOk K.toaQ8 (4 + 3) (⟨(⟨r, ime, false, false, false⟩ : CS), m⟩ : Rn _)) G hG tb u3 oT hT))) U ?_
  rintro _ _ ⟨_, ⟨rfl, oT0, hT0, G0, rfl, hG0⟩, rfl⟩
  refine wN ?_
  refine W (bH (l' := cDd ⟨1, 0, r.pc, oN, false⟩) 0) U (wN ?_)
  refine W (bH (l' := cDd ⟨1, 0, r.pc, (nextT K.toaQ7 (⟨(⟨r, ime, false, false, false⟩ : CS), m⟩ : Rn _)).1, false⟩) 0) U (rT ?_)
  have n9 := aED (⟨h.r, K.oL h.m I⟩ : RunOk K.toaQ8 (4 + 3) (⟨(⟨r, ime, false, false, false⟩ : CS), m⟩ : Rn _))
  refine ZA7 ?_
  refine pH ?_
  refine ZAm ?_
  refine RX (cX (F := [(b3, _), (b2, _), (b1, _), (b0, _), (tb, _)]) (A := (b4, _) :: _) K_ U (dJ (aOX K b4 (nextT K.toaQ7 (⟨(⟨r, ime, false, false, false⟩ : CS), m⟩ : Rn _)).2 (n9.1 : RunOk K.toaQ8 (0 + 4) _) G0 hG0 (nextT K.toaQ7 (⟨(⟨r, ime, false, false, false⟩ : CS), m⟩ : Rn _)).1 n9.2 r.pc h.r.pc))) U (nV fun G1 hG1 => ?_)
  refine ZBE ?_
  refine W (bH (l' := cDd ⟨1, 0, r.pc, (nextT K.toaQ7 (⟨(⟨r, ime, false, false, false⟩ : CS), m⟩ : Rn _)).1, (ordT K.toaQ7 (nextT K.toaQ7 (⟨(⟨r, ime, false, false, false⟩ : CS), m⟩ : Rn _)).1 r.pc (nextT K.toaQ7 (⟨(⟨r, ime, false, false, false⟩ : CS), m⟩ : Rn _)).2).1⟩) 0) U (rT ?_)
  refine Sl [110, 111, 112, 113, 114, 115, 116] [(116, .bool (decide (soon = true ∧ (nextT K.toaQ7 (⟨(⟨r, ime, false, false, false⟩ : CS), m⟩ : Rn _)).1.kind ≠ 5)))] ?_ (fun y21 => ?_)
  ·rcases soon with _ | _
   ·refine bZ ?_
    exact ⟨.cons (aD Value.bool Yn) .nil, bJ, fun _ h => h⟩
   refine bZ ?_
   exact ⟨.cons (aD Value.bool Yn) .nil, bJ, fun _ h => h⟩
  refine KC (fun q2 z2 => ?_) (fun q2 z2 => ?_)
  ·refine ZBn ?_
   refine W (bH (l' := cN K { (ordT K.toaQ7 (nextT K.toaQ7 (⟨(⟨r, ime, false, false, false⟩ : CS), m⟩ : Rn _)).1 r.pc (nextT K.toaQ7 (⟨(⟨r, ime, false, false, false⟩ : CS), m⟩ : Rn _)).2).2.s with ime := true }) 5) U (rT ?_)
   refine mZ [(b3, J (cDd ⟨1, 0, r.pc, (nextT K.toaQ7 (⟨(⟨r, ime, false, false, false⟩ : CS), m⟩ : Rn _)).1, (ordT K.toaQ7 (nextT K.toaQ7 (⟨(⟨r, ime, false, false, false⟩ : CS), m⟩ : Rn _)).1 r.pc (nextT K.toaQ7 (⟨(⟨r, ime, false, false, false⟩ : CS), m⟩ : Rn _)).2).1⟩) 281), (b4, J (cN K { (ordT K.toaQ7 (nextT K.toaQ7 (⟨(⟨r, ime, false, false, false⟩ : CS), m⟩ : Rn _)).1 r.pc (nextT K.toaQ7 (⟨(⟨r, ime, false, false, false⟩ : CS), m⟩ : Rn _)).2).2.s with ime := true }) 355)] [4, 5] (.step true 0 (.step true 1 (.step true 2 (.step true 3 (.step true 4 (.step false 5 (.step false 6 .done))))))) U aO aO (fun x hx => uA) ?_
   refine ZA7 ?_
   refine gL U U U U (fun w hw => aK.left (kN (l := cN K { (ordT K.toaQ7 (nextT K.toaQ7 (⟨(⟨r, ime, false, false, false⟩ : CS), m⟩ : Rn _)).1 r.pc (nextT K.toaQ7 (⟨(⟨r, ime, false, false, false⟩ : CS), m⟩ : Rn _)).2).2.s with ime := true }) aE w hw)) U U ?_
   refine He ?_
   refine DZ U (bH (l' := cS { (ordT K.toaQ7 (nextT K.toaQ7 (⟨(⟨r, ime, false, false, false⟩ : CS), m⟩ : Rn _)).1 r.pc (nextT K.toaQ7 (⟨(⟨r, ime, false, false, false⟩ : CS), m⟩ : Rn _)).2).2.s with ime := true }) 2) U xZ (ZBv ?_)
   refine rT ?_
   have e9 : fK K.toaQ7 (⟨(⟨r, ime, soon, halt, false⟩ : CS), m⟩ : Rn _) = (⟨1, 0, r.pc, (nextT K.toaQ7 (⟨(⟨r, ime, false, false, false⟩ : CS), m⟩ : Rn _)).1, (ordT K.toaQ7 (nextT K.toaQ7 (⟨(⟨r, ime, false, false, false⟩ : CS), m⟩ : Rn _)).1 r.pc (nextT K.toaQ7 (⟨(⟨r, ime, false, false, false⟩ : CS), m⟩ : Rn _)).2).1⟩, (⟨{ (ordT K.toaQ7 (nextT K.toaQ7 (⟨(⟨r, ime, false, false, false⟩ : CS), m⟩ : Rn _)).1 r.pc (nextT K.toaQ7 (⟨(⟨r, ime, false, false, false⟩ : CS), m⟩ : Rn _)).2).2.s with ime := true }, (ordT K.toaQ7 (nextT K.toaQ7 (⟨(⟨r, ime, false, false, false⟩ : CS), m⟩ : Rn _)).1 r.pc (nextT K.toaQ7 (⟨(⟨r, ime, false, false, false⟩ : CS), m⟩ : Rn _)).2).2.m⟩ : Rn _)) := by unfold fK; exact (ae (c := false = true) M).trans ((ae (c := halt = true ∧ K.pend m = 0) z0).trans ((ae (c := ime = true ∧ K.pend m ≠ 0) z1).trans (aD (Prod.mk _) (ag (c := soon = true ∧ (nextT K.toaQ7 (⟨(⟨r, ime, false, false, false⟩ : CS), m⟩ : Rn _)).1.kind ≠ 5) z2))))
   exact iU (fun w hw => Kp U U U (aH (b := b1) (l := cS { (ordT K.toaQ7 (nextT K.toaQ7 (⟨(⟨r, ime, false, false, false⟩ : CS), m⟩ : Rn _)).1 r.pc (nextT K.toaQ7 (⟨(⟨r, ime, false, false, false⟩ : CS), m⟩ : Rn _)).2).2.s with ime := true }) aE w hw) U U U (aH (b := b2) (l := cDd ⟨1, 0, r.pc, (nextT K.toaQ7 (⟨(⟨r, ime, false, false, false⟩ : CS), m⟩ : Rn _)).1, (ordT K.toaQ7 (nextT K.toaQ7 (⟨(⟨r, ime, false, false, false⟩ : CS), m⟩ : Rn _)).1 r.pc (nextT K.toaQ7 (⟨(⟨r, ime, false, false, false⟩ : CS), m⟩ : Rn _)).2).1⟩) aE w hw)) (.cons _ (.cons _ (.cons _ (.cons _ (.cons_cons _ (.cons _ aJ)))))) ⟨jO, oT0, hT0, G1, U, nC⟩
  refine ZAm ?_
  refine mZ [(b3, J (cDd ⟨1, 0, r.pc, (nextT K.toaQ7 (⟨(⟨r, ime, false, false, false⟩ : CS), m⟩ : Rn _)).1, (ordT K.toaQ7 (nextT K.toaQ7 (⟨(⟨r, ime, false, false, false⟩ : CS), m⟩ : Rn _)).1 r.pc (nextT K.toaQ7 (⟨(⟨r, ime, false, false, false⟩ : CS), m⟩ : Rn _)).2).1⟩) 281), (b4, J (cN K (ordT K.toaQ7 (nextT K.toaQ7 (⟨(⟨r, ime, false, false, false⟩ : CS), m⟩ : Rn _)).1 r.pc (nextT K.toaQ7 (⟨(⟨r, ime, false, false, false⟩ : CS), m⟩ : Rn _)).2).2.s) 355)] [4, 5] (.step true 0 (.step true 1 (.step true 2 (.step true 3 (.step true 4 (.step false 5 (.step false 6 .done))))))) U aO aO (fun x hx => uA) ?_
  refine ZA7 ?_
  refine gL U U U U (fun w hw => aK.left (kN (l := cN K (ordT K.toaQ7 (nextT K.toaQ7 (⟨(⟨r, ime, false, false, false⟩ : CS), m⟩ : Rn _)).1 r.pc (nextT K.toaQ7 (⟨(⟨r, ime, false, false, false⟩ : CS), m⟩ : Rn _)).2).2.s) aE w hw)) U U ?_
  refine He ?_
  refine DZ U (bH (l' := cS (ordT K.toaQ7 (nextT K.toaQ7 (⟨(⟨r, ime, false, false, false⟩ : CS), m⟩ : Rn _)).1 r.pc (nextT K.toaQ7 (⟨(⟨r, ime, false, false, false⟩ : CS), m⟩ : Rn _)).2).2.s) 2) U xZ (ZBv ?_)
  refine rT ?_
  have e9 : fK K.toaQ7 (⟨(⟨r, ime, soon, halt, false⟩ : CS), m⟩ : Rn _) = (⟨1, 0, r.pc, (nextT K.toaQ7 (⟨(⟨r, ime, false, false, false⟩ : CS), m⟩ : Rn _)).1, (ordT K.toaQ7 (nextT K.toaQ7 (⟨(⟨r, ime, false, false, false⟩ : CS), m⟩ : Rn _)).1 r.pc (nextT K.toaQ7 (⟨(⟨r, ime, false, false, false⟩ : CS), m⟩ : Rn _)).2).1⟩, ((ordT K.toaQ7 (nextT K.toaQ7 (⟨(⟨r, ime, false, false, false⟩ : CS), m⟩ : Rn _)).1 r.pc (nextT K.toaQ7 (⟨(⟨r, ime, false, false, false⟩ : CS), m⟩ : Rn _)).2).2 : Rn _)) := by unfold fK; exact (ae (c := false = true) M).trans ((ae (c := halt = true ∧ K.pend m = 0) z0).trans ((ae (c := ime = true ∧ K.pend m ≠ 0) z1).trans (aD (Prod.mk _) (ae (c := soon = true ∧ (nextT K.toaQ7 (⟨(⟨r, ime, false, false, false⟩ : CS), m⟩ : Rn _)).1.kind ≠ 5) z2))))
  exact iU (fun w hw => Kp U U U (aH (b := b1) (l := cS (ordT K.toaQ7 (nextT K.toaQ7 (⟨(⟨r, ime, false, false, false⟩ : CS), m⟩ : Rn _)).1 r.pc (nextT K.toaQ7 (⟨(⟨r, ime, false, false, false⟩ : CS), m⟩ : Rn _)).2).2.s) aE w hw) U U U (aH (b := b2) (l := cDd ⟨1, 0, r.pc, (nextT K.toaQ7 (⟨(⟨r, ime, false, false, false⟩ : CS), m⟩ : Rn _)).1, (ordT K.toaQ7 (nextT K.toaQ7 (⟨(⟨r, ime, false, false, false⟩ : CS), m⟩ : Rn _)).1 r.pc (nextT K.toaQ7 (⟨(⟨r, ime, false, false, false⟩ : CS), m⟩ : Rn _)).2).1⟩) aE w hw)) (.cons _ (.cons _ (.cons _ (.cons _ (.cons_cons _ (.cons _ aJ)))))) ⟨jO, oT0, hT0, G1, U, nC⟩
 refine iG ?_
 refine RX (cX (F := [(b3, _), (b2, _), (b1, _), (b0, _), (tb, _)]) (A := (b4, _) :: _) K_ U (dJ (ridle_fn K b4 1 M (⟨(⟨r, ime, soon, halt, true⟩ : CS), m⟩ : Rn _) (h.le I : RunOk K.toaQ8 (0 + 1) _) G hG))) U (jZ fun G0 hG0 => ?_)
 refine ZBn ?_
 refine RX (rI (F := [(b3, _), (b2, _), (b1, _), (b0, _), (tb, _), (b4, _)]) (A := G0) U K.mP K.cP U (fun w hw => K.dP (K.oI h.m) hG0 (St.lentV hw))) U ?_
 rintro _ _ ⟨GP, ⟨rfl, hGP⟩, rfl⟩
 rw [hGP]
 refine jQ ?_
 refine RW (v := (.int .u8 (aQ .u8 (K.pend (K.idle m)) 16))) (cM U U) U U (RW (v := (.bool (K.pend (K.idle m) / 16 % 2 == 0))) U U (aD _ (aFP (K.oP (K.oI h.m)))) (ZA7 ?_))
 refine W (bH (l' := cN K (⟨r, ime, soon, halt, (K.pend (K.idle m) / 16 % 2 == 0)⟩ : CS)) 5) U (rT ?_)
 refine mZ [(b3, J (cDd ⟨0, 0, r.pc, oN, false⟩) 281), (b4, J (cN K (⟨r, ime, soon, halt, (K.pend (K.idle m) / 16 % 2 == 0)⟩ : CS)) 355)] [4, 5] (.step true 0 (.step true 1 (.step true 2 (.step true 3 (.step true 4 (.step false 5 (.step false 6 .done))))))) U aO aO (fun x hx => uA) ?_
 refine ZA7 ?_
 refine gL U U U U (fun w hw => aK.left (kN (l := cN K (⟨r, ime, soon, halt, (K.pend (K.idle m) / 16 % 2 == 0)⟩ : CS)) aE w hw)) U U ?_
 refine He ?_
 refine DZ U (bH (l' := cS (⟨r, ime, soon, halt, (K.pend (K.idle m) / 16 % 2 == 0)⟩ : CS)) 2) U xZ (jQ ?_)
 refine DZ U (bH (l' := cDd ⟨0, 0, r.pc, oN, false⟩) 1) U xZ (rT ?_)
 have e9 : fK K.toaQ7 (⟨(⟨r, ime, soon, halt, true⟩ : CS), m⟩ : Rn _) = (⟨0, 0, r.pc, oN, false⟩, (⟨(⟨r, ime, soon, halt, (K.pend (K.idle m) / 16 % 2 == 0)⟩ : CS), K.idle m⟩ : Rn _)) := by unfold fK; exact ag (c := true = true) rfl
 exact iU (fun w hw => Kp U U U (aH (b := b1) (l := cS (⟨r, ime, soon, halt, (K.pend (K.idle m) / 16 % 2 == 0)⟩ : CS)) aE w hw) U U U (aH (b := b2) (l := cDd ⟨0, 0, r.pc, oN, false⟩) aE w hw)) (.cons _ (.cons _ (.cons _ (.cons _ (.cons_cons _ (.cons _ aJ)))))) ⟨jO, oT, hT, G0, U, kT⟩
def aE1 (A : Ad) (hd : A.rb ∉ [A.mb, A.ub] ∧ A.ob ∉ [A.mb, A.ub]) : lX prog Mm where
 toaQ7 := fE
 t0 := 318
 v := .agg #[P_ A.mb]
 rep := tA A
 ok := iQ
 fF := 379
 mF := fun v w => by rfl
 cF := K_
 fR := 382
 mR := fun v w => by rfl
 cR := K_
 fW := 383
 mW := fun v w => by rfl
 cW := K_
 fI := 380
 mI := fun v w => by rfl
 cI := K_
 fP := 381
 mP := fun v w => by rfl
 cP := K_
 fA := 378
 mA := fun v w => by rfl
 cA := K_
 dF := fun h hr hw ha => aKz A hd _ h _ hr _ ha _ hw
 dR := fun h hr hw ha => aNF A hd _ h _ hr _ ha _ hw
 dW := fun h hr hw ha hx => aQy A hd _ h _ hr _ _ ha hx _ hw
 dI := fun h hr hw => aMh A hd _ h _ hr _ hw
 dP := fun h hr hw => aQd A hd _ h _ hr _ hw
 dA := fun h hr hw hk => aO6 A hd _ h _ hr _ hk _ hw
 oF := fun h ha => ⟨h.get 3 ha, Kb h.wf.cycle _⟩
 oR := fun h ha => ⟨h.get 1 ha, Kb h.wf.cycle _⟩
 oW := fun h ha hx => h.write ha hx
 oI := fun h => h.cycle.note 0 M M
 oP := fun _ => aCi _
 oA := fun h hk => h.ack hk
 oL := fun h hk => h.le hk
set_option maxHeartbeats 2000000 in
def aKa (A : Ad) (hd : A.rb ∉ [A.mb, A.ub] ∧ A.ob ∉ [A.mb, A.ub]) (tb : Nat) (u3 : AH) (oT : Obj) (hT : kF tb u3 [(tb, oT)]) (hAt : A.tab = P_ tb) (plan : List gH) (pa : AC) (pc : Nat) (hAp : A.plan = .slice pa plan.length pc) (hpo : ∀ c ∈ plan, sA c) (hpl : plan.length ≤ 1000000) (m : Mm) (h : m.Wf) (hcr : m.cpu.r.Ok) (va : AH) (ms : AE) (w : AI) (hst : St w ms [(tb, oT), (A.mb, J (cMm A va m) 134), (A.ub, J (cU m.u) 172), (A.rb, J (List.map Z m.ram ++ A.rs) 5), (A.ob, J (List.map Z m.rom ++ A.sp) 5)] w) (hE : iY w pX pa plan) (hpn : ∀ p, pa = some p → p.block ∉ ms) : aG prog 142 [P_ A.mb] w ms (fun v H => ∃ va' oT' Ga', v = .tuple #[.agg (cDd (eT plan m).1).toArray, va'] ∧ bM 329 3 va' (eT plan m).2.acc.length (aN cAc (eT plan m).2.acc) Ga' ∧ kF tb u3 [(tb, oT')] ∧ H = (tb, oT') :: (Ga' ++ [(A.mb, J (cMm A va' (eT plan m).2) 134), (A.ub, J (cU (eT plan m).2.u) 172), (A.rb, J (List.map Z (eT plan m).2.ram ++ A.rs) 5), (A.ob, J (List.map Z (eT plan m).2.rom ++ A.sp) 5)])) := by
 have hA1 : dY ({ m with pd := rH (jX plan m.steps) m.pd } : Mm) := ⟨h.ln.bd, h.ln.work, h.ln.high⟩
 have hs1 : ((sI (jX plan m.steps) m)).Wf := h.press (aBo hpo _)
 have e9 : ((sI (jX plan m.steps) m)).cpu = m.cpu := by unfold sI askM; split <;> rfl
 have eu9 : (fD plan m).u = m.u := Bj _ _ _
 have er9 : (fD plan m).ram = m.ram := Df _ _ _
 have eo9 : (fD plan m).rom = m.rom := By _ _ _
 have hst0 : iQ 7 (fD plan m) := ⟨h.start hpo, by show (0 : Nat) + 7 ≤ 1000000; decide, fun e he => by cases he⟩
 have hq := (aD0 (K := (aE1 A hd).toaQ8) (n := 0) (x := (⟨m.cpu, fD plan m⟩ : Rn Mm)) ⟨hcr, hst0⟩)
 have hqw : ((fK fE (⟨m.cpu, fD plan m⟩ : Rn Mm)).2.m).Wf := hq.m.wf
 have hc1 : dY ({ (fK fE (⟨m.cpu, fD plan m⟩ : Rn Mm)).2.m with cpu := (fK fE (⟨m.cpu, fD plan m⟩ : Rn Mm)).2.s } : Mm) := ⟨hqw.ln.bd, hqw.ln.work, hqw.ln.high⟩
 refine cE func142 hst ?_
 refine ZAm ?_
 refine nM fun b0 => ?_
 refine aI ?_
 refine jM ?_
 refine bA ?_
 refine DR [6, 7, 8, 9, 10, 11, 12, 13, 14, 15] (bW [0, 2, 4, 6, 8, 10, 12, 14, 16, 18, 20, 22, 24, 26, 28, 31, 33, 34, 36, 38, 40, 42, 44, 47, 48]) ?_
 refine ZBn ?_
 refine gL U U U U (fun w hw => Xw (m := m) (acc := va) (kN (b := A.mb) aE w hw)) U U ?_
 refine ZA7 ?_
 refine DL U U U (eN (v := .slice pa plan.length pc) aE (by rw [← hAp]; exact get_mid h.ln (j := 5) rfl)) U (ZBy ?_)
 refine DL U U U (eN (v := .int .u64 m.steps) aE (get_mid h.ln (j := 2) U)) U (DZ U (dG K_ U (fun w hw => aI8 plan pa pc hpl m.steps w (iY.laterM hE hpn hw))) U jB (DZ U (dG K_ U (aS (aHT m.pd (jX plan m.steps)))) U aW (tB ?_)))
 refine ZBn ?_
 refine DZ U (bF (l' := cMm A va { m with pd := rH (jX plan m.steps) m.pd }) 2 U U U U U U mE (aCV _)) U aW (rQ ?_)
 refine RX (eO (F := [(b0, _), (tb, oT)]) (A := [(A.mb, J (cMm A va { m with pd := rH (jX plan m.steps) m.pd }) 134)]) (G := [(A.ub, J (cU m.u) 172), (A.rb, J (List.map Z m.ram ++ A.rs) 5), (A.ob, J (List.map Z m.rom ++ A.sp) 5)]) (R := fun v H => v = .tuple #[] ∧ H = [(A.mb, J (cMm A va (askM 16 (xB m.pd (rH (jX plan m.steps) m.pd)) { m with pd := rH (jX plan m.steps) m.pd })) 134)]) K_ U (fun w hw _ => ask_fnM A va { m with pd := rH (jX plan m.steps) m.pd } hA1 16 (xB m.pd (rH (jX plan m.steps) m.pd)) w hw)) U (jT ?_)
 refine ZAm ?_
 refine kG (L' := [(b0, _), (tb, oT), (A.mb, J (cMm A va (sI (jX plan m.steps) m)) 134), (A.ub, J (cU m.u) 172), (A.rb, J (List.map Z m.ram ++ A.rs) 5), (A.ob, J (List.map Z m.rom ++ A.sp) 5)]) (fun _ h => h) ?_
 refine ZBy ?_
 refine W (bF (l' := cMm A (.slice none 0 0) (sI (jX plan m.steps) m)) 2 U U U U U U (by rw [cMm_len hs1.ln]; exact ai rfl) (H6 hs1.ln _)) U (mY ?_)
 refine lE fun b1 => ?_
 refine ZAm ?_
 refine DR [5, 6, 7, 8, 9, 10, 11, 12] (bW [0, 2, 4, 6, 8, 10, 12, 14, 16, 18, 20, 22, 24, 27, 28, 30, 32, 34, 36, 38, 41, 43]) ?_
 refine ZBy ?_
 refine DL U U U (eN (v := P_ tb) aE (by rw [← hAt]; exact get_mid (m := (sI (jX plan m.steps) m)) hs1.ln (j := 13) rfl)) U (ZBy ?_)
 refine gL U U U U (fun w hw => (show aK w A.mb 0 (cS m.cpu) from by have h9 := aDB (m := (sI (jX plan m.steps) m)) (acc := (.slice none 0 0)) (kN (b := A.mb) aE w hw); rwa [e9] at h9)) U U ?_
 refine ZBE ?_
 refine ZEG ?_
 refine ZBE ?_
 refine DX U (cX (F := [(b1, _), (b0, _)]) (A := (tb, oT) :: [(A.mb, J (cMm A (.slice none 0 0) (sI (jX plan m.steps) m)) 134), (A.ub, J (cU m.u) 172), (A.rb, J (List.map Z m.ram ++ A.rs) 5), (A.ob, J (List.map Z m.rom ++ A.sp) 5)]) (R := fun v H => v = .tuple #[.agg (cS (fK fE (⟨m.cpu, fD plan m⟩ : Rn Mm)).2.s).toArray, .agg (cDd (fK fE (⟨m.cpu, fD plan m⟩ : Rn Mm)).1).toArray] ∧ ∃ oT', kF tb u3 [(tb, oT')] ∧ ∃ G', H = (tb, oT') :: G' ∧ tA A (fK fE (⟨m.cpu, fD plan m⟩ : Rn Mm)).2.m G') K_ U (dJ (aQB (bn := 0) (aE1 A hd) m.cpu (fD plan m) ⟨hcr, hst0⟩ [(A.mb, J (cMm A (.slice none 0 0) (sI (jX plan m.steps) m)) 134), (A.ub, J (cU m.u) 172), (A.rb, J (List.map Z m.ram ++ A.rs) 5), (A.ob, J (List.map Z m.rom ++ A.sp) 5)] ⟨.slice none 0 0, [], .nil, by show _ = [(A.mb, _), (A.ub, J (cU (fD plan m).u) _), (A.rb, J (List.map _ (fD plan m).ram ++ A.rs) _), (A.ob, J (List.map _ (fD plan m).rom ++ A.sp) _)]; rw [eu9, er9, eo9]; rfl⟩ tb u3 oT hT))) U aW ?_
 rintro _ _ ⟨_, ⟨rfl, oT', hT', G', rfl, va', Ga', hV', rfl⟩, rfl⟩
 obtain ⟨a8, c0, rfl⟩ := hV'.slice
 refine jC (fun w hw => hw.perm (bg (l₁ := [(b1, _), (b0, _), (tb, oT')] ++ Ga') (l₂ := [(A.mb, J (cMm A (.slice a8 (fK fE (⟨m.cpu, fD plan m⟩ : Rn Mm)).2.m.acc.length c0) (fK fE (⟨m.cpu, fD plan m⟩ : Rn Mm)).2.m) 134), (A.ub, J (cU (fK fE (⟨m.cpu, fD plan m⟩ : Rn Mm)).2.m.u) 172), (A.rb, J (List.map Z (fK fE (⟨m.cpu, fD plan m⟩ : Rn Mm)).2.m.ram ++ A.rs) 5), (A.ob, J (List.map Z (fK fE (⟨m.cpu, fD plan m⟩ : Rn Mm)).2.m.rom ++ A.sp) 5)]))) ?_
 refine ZCE ?_
 refine tB ?_
 refine ZBn ?_
 refine DZ U (bF (l' := cMm A (.slice a8 (fK fE (⟨m.cpu, fD plan m⟩ : Rn Mm)).2.m.acc.length c0) { (fK fE (⟨m.cpu, fD plan m⟩ : Rn Mm)).2.m with cpu := (fK fE (⟨m.cpu, fD plan m⟩ : Rn Mm)).2.s }) 0 U U U U U U (by rw [cMm_len hqw.ln]; exact ai rfl) (aIR _)) U aW (jQ ?_)
 refine DZ U (bH (l' := cDd (fK fE (⟨m.cpu, fD plan m⟩ : Rn Mm)).1) 4) U aW (jQ ?_)
 refine ZDG ?_
 refine W (aX U U (bN (v := .int .u64 (fK fE (⟨m.cpu, fD plan m⟩ : Rn Mm)).2.m.steps) aE (get_mid (m := ({ (fK fE (⟨m.cpu, fD plan m⟩ : Rn Mm)).2.m with cpu := (fK fE (⟨m.cpu, fD plan m⟩ : Rn Mm)).2.s } : Mm)) hc1 (j := 2) U))) U (RW (v := (.int .u64 (((fK fE (⟨m.cpu, fD plan m⟩ : Rn Mm)).2.m.steps + 1) % 18446744073709551616))) (nL U U) U (Mk _) (ZA7 ?_))
 refine W (bF (l' := cMm A (.slice a8 (fK fE (⟨m.cpu, fD plan m⟩ : Rn Mm)).2.m.acc.length c0) (eT plan m).2) 0 U U U U U U (by rw [cMm_len hc1]; exact ai rfl) (aCT hc1 _)) U (rT ?_)
 refine mZ [(A.mb, J (cMm A (.slice a8 (fK fE (⟨m.cpu, fD plan m⟩ : Rn Mm)).2.m.acc.length c0) (eT plan m).2) 134), (b1, J (cDd (eT plan m).1) 281)] [1, 2, 3, 4, 5] (.step true 0 (.step true 1 (.step true 2 (.step true 3 (.step true 4 (.step false 5 (.step true 6 .done))))))) U aO aO (fun x hx => uA) ?_
 refine gL U U U U (kN (b := b1) (l := cDd (fK fE (⟨m.cpu, fD plan m⟩ : Rn Mm)).1) aE) U U ?_
 refine ZA7 ?_
 refine DL U U U (eN (v := (.slice a8 (fK fE (⟨m.cpu, fD plan m⟩ : Rn Mm)).2.m.acc.length c0)) aE (aEB (m := (eT plan m).2) (⟨hqw.ln.bd, hqw.ln.work, hqw.ln.high⟩ : dY (eT plan m).2))) U (DZ U (bH (l' := cDd (eT plan m).1) 5) U (by intro _ _ _ hK; obtain ⟨rfl, rfl⟩ := hK; exact (fun x hx => uA)) (wJ ?_))
 exact lC (fun w hw => gK U U U (aH (b := b0) (l := cDd (eT plan m).1) aE w hw) U) (fun w hw => (hw.sub (.cons_cons _ (.cons_cons _ (.cons_cons _ (.cons_cons _ (.cons _ (.cons _ aJ))))))).perm (bg (l₁ := [(A.mb, J (cMm A (.slice a8 (fK fE (⟨m.cpu, fD plan m⟩ : Rn Mm)).2.m.acc.length c0) (eT plan m).2) 134), (A.ub, J (cU (eT plan m).2.u) 172), (A.rb, J (List.map Z (eT plan m).2.ram ++ A.rs) 5), (A.ob, J (List.map Z (eT plan m).2.rom ++ A.sp) 5)]) (l₂ := (tb, oT') :: Ga'))) ⟨_, oT', Ga', U, hV', hT', U⟩
def M6 (r : Bool) (lb pb o n : Nat) (hn : n ≤ 8) (va : AH) (bs : AB) (Gl : aF) (hV : LineB 5 r va bs Gl) (L : AA) (hS : kP r n (L, bs)) (T : Nat) (hf : gP (.long n) L o) (ms : AE) (w : AI) (hst : St w ms ((pb, J L T) :: (lb, J [va, .bool r] 144) :: Gl) w) : aG prog 62 [P_ lb, .pointer (some ⟨pb, o, none⟩), .int .i64 n] w ms (fun v H => v = .tuple #[] ∧ ∃ va' Gl', LineB 5 r va' (pass1 r (.long n) (L, bs) o).2 Gl' ∧ H = (pb, J (pass1 r (.long n) (L, bs) o).1 T) :: (lb, J [va', .bool r] 144) :: Gl') := by
 have hby := hS.byts
 have hen := hS.en
 have hsz := hS.sz
 dsimp only at hby hen hsz
 have hx9 : L[o]? = some (.int .u64 (FK.at L o)) := hf.at.1
 have hk9 : 0 ≤ (FK.at L o) ∧ (FK.at L o) < 18446744073709551616 := hf.at.2
 have ho9 := hf.lt
 refine cE func62 hst ?_
 refine ZAm ?_
 rcases r with _ | _
 ·refine ZBn ?_
  refine iX ?_
  refine ZBy ?_
  replace hV := hV.write
  refine ZBn ?_
  refine dV (σ := Nat × AH × aF) [6, 14, 15, 16, 17, 18, 19, 20, 21, 22, 23, 24, 25, 26, 27, 28, 29, 30, 31, 32, 33] (fun s => [(14, .int .i64 s.1)]) (fun s => (pb, J L T) :: (lb, J [s.2.1, .bool false] 144) :: (s.2.2 ++ [])) (fun s => s.1 ≤ n ∧ bM 5 1 s.2.1 (bs ++ dX s.1 (FK.at L o)).length ((bs ++ dX s.1 (FK.at L o)).map (.int .u8)) s.2.2) (fun s => n - s.1) (0, va, Gl) ?_ ?_ ?_ ?_
  ·exact ⟨av _, by rw [show dX 0 (FK.at L o) = [] from rfl, aw]; exact hV⟩
  ·exact .cons U .nil
  ·exact fun _ h => by rw [aw]; exact h
  rintro ⟨i, v0, G0⟩ y2 ⟨hi, hV0⟩
  dsimp only at hi hV0 ⊢
  obtain ⟨a6, c0, rfl⟩ := hV0.slice
  refine ZBn ?_
  refine KC (fun q0 z0 => ?_) (fun q0 z0 => ?_)
  ·refine bA ?_
   refine mZ [(pb, J L T), (lb, J [(.slice a6 (bs ++ dX i (FK.at L o)).length c0), .bool false] 144)] [5, 6, 7, 8, 9, 10, 11, 12] (.step true 0 (.step true 1 (.step true 2 (.step true 3 (.step true 4 (.step true 5 (.step true 6 (.step true 7 (.step true 8 (.step true 9 (.step true 10 (.step true 11 (.step false 12 (.step false 13 (.step true 14 (.step true 15 (.step false 16 .done))))))))))))))))) U aO aO (fun x hx => uA) ?_
   refine ZBy ?_
   refine DL U U U (eN (v := (.slice a6 (bs ++ dX i (FK.at L o)).length c0)) aE U) U (ZAm ?_)
   refine DL U U U (eN (v := .int .u64 (FK.at L o)) aE hx9) U (ZBE ?_)
   refine DW (v := (.int .i64 ((8 * i : Nat) : Int))) U (Cu U U) U ((tO I I).trans (aD _ I)) (DY U (iV U U I) U (DW (v := (.int .u8 (aY (FK.at L o) i))) U (gN U U U) U (aD _ (aJt I U)) (DX U (eQ (z := [.int .u8 0]) (l := [.int .u8 (aY (FK.at L o) i)]) (ps := [(0, .int .u8 (aY (FK.at L o) i))]) U U U U U U) U aAC ?_)))
   refine ZBN fun b0 => ?_
   refine DX U (mO (A := [(b0, _), (pb, _), (lb, _)]) (G := G0) (R := []) (v := (.slice a6 (bs ++ dX i (FK.at L o)).length c0)) (n := (bs ++ dX i (FK.at L o)).length) (xs := (bs ++ dX i (FK.at L o)).map (.int .u8)) (m := 1) (T := 5) (s := 1) (by_ := 1) (ys := [.int .u8 (aY (FK.at L o) i)]) U U U U hV0 (fun w hw => .row _ _ _ _ _ U (aH (b := b0) (.head _) w hw)) U (by rw [bQ, Gb]; omega) (by rw [bQ, Gb]; omega)) U aW ?_
   rintro v1 _ ⟨G1, hV1, _, rfl⟩
   obtain ⟨b1, cp9, sp0, rfl, rfl, hc0, hle9, hm9⟩ := hV1.full I
   refine kB ?_
   refine DZ U (bH (l' := [(.slice (Q_ b1) ((bs ++ dX i (FK.at L o)).length + 1) cp9), .bool false]) 3) U aW (kB ?_)
   refine jF ?_
   exact ⟨(i + 1, _, [(b1, _)]), ⟨aR, hV1.as (by simp only [X6, bQ, az]; omega) (by simp only [X6, bz, cu, dk, eC])⟩, aR, .cons U .nil, bJ, fun _ h => (h.sub (.cons_cons _ (.cons _ aJ))).perm (bg (l₁ := [(b1, _)]) (l₂ := [_, _]))⟩
  refine ZAm ?_
  obtain rfl : i = n := by omega
  exact EN aCc ⟨U, _, G0, hV0, U⟩
 refine ZBn ?_
 refine jM ?_
 refine ZBy ?_
 obtain ⟨cb, off, c, all, rfl, hle, rfl, hall⟩ := hV.read
 replace hen := hen rfl
 refine ZA7 ?_
 refine W (bF (l' := (aV L o [.int .u64 (val bs 0)])) 0 U U U U U U ho9 U) U (eP ?_)
 refine bA ?_
 refine dV (σ := Nat) [7, 37, 38, 39, 40, 41, 42, 43, 44, 45, 46, 47, 48, 49, 50, 51, 52, 53, 54, 55, 56] (fun i => [(37, .int .i64 i)]) (fun i => [(pb, J (aV L o [.int .u64 (val bs i)]) T), (lb, J [(.slice (some ⟨cb, off, none⟩) bs.length c), .bool true] 144), (cb, J all 5)]) (fun i => i ≤ n) (fun i => n - i) 0 ?_ ?_ ?_ ?_
 ·exact av _
 ·exact .cons U .nil
 ·exact fun _ h => h
 rintro i y8 hi
 refine ZBn ?_
 refine KC (fun q0 z0 => ?_) (fun q0 z0 => ?_)
 ·refine bA ?_
  refine mZ [(pb, J (aV L o [.int .u64 (val bs i)]) T), (lb, J [(.slice (some ⟨cb, off, none⟩) bs.length c), .bool true] 144), (cb, J all 5)] [3, 4, 5, 6, 7, 8, 9, 10, 11, 12, 13] (.step true 0 (.step true 1 (.step true 2 (.step true 3 (.step true 4 (.step true 5 (.step true 6 (.step true 7 (.step true 8 (.step true 9 (.step true 10 (.step true 11 (.step true 12 (.step true 13 (.step true 14 (.step true 15 (.step false 16 .done))))))))))))))))) U aO aO (fun _ h => h) ?_
  refine ZAm ?_
  refine DL U U U (eN (v := .int .u64 (val bs i)) aE (by rw [Lj ho9, ag rfl])) U (ZA7 ?_)
  refine DL U U U (eN (v := (.slice (some ⟨cb, off, none⟩) bs.length c)) aE U) U (ZBE ?_)
  refine DY U (eB i U U U U I) U (DL U U U (eN (v := .int .u8 (bs.getD i 0)) aE (hall i _ (gJ I))) U (DW (v := (.int .u64 (bs.getD i 0))) U (gN U U U) U (Bv (hby.get i).1 (by have := (hby.get i).2; omega)) (ZBE ?_)))
  refine DW (v := (.int .i64 ((8 * i : Nat) : Int))) U (Cu U U) U ((tO I I).trans (aD _ I)) (DY U (iM U U I) U (DW (v := (.int .u64 (val bs (i + 1)))) U (dM U U) U (aD _ (aJ9 I U (val_ok hby i) (hby.get i))) (ZBE ?_)))
  refine DZ U (bF (l' := (aV L o [.int .u64 (val bs (i + 1))])) 0 U U U U U U (by rw [Wh ho9]; exact ho9) (aFH ho9)) U aW (kB ?_)
  exact I2
 refine bA ?_
 refine RY (mB n bs.length U U U U U U I I) U (ZAm ?_)
 refine W (bH (l' := [.slice (some ⟨cb, cut1 off n c, none⟩) (bs.length - n) (c - n), .bool true]) 1) U (eP ?_)
 refine ZBE ?_
 obtain rfl : i = n := by omega
 exact EN aJ ⟨U, _, _, LineB.cut hle hen hall, U⟩
def number1L_fn (r : Bool) (lb xb n : Nat) (hn : n ≤ 8) (va : AH) (x : Int) (hx : 0 ≤ x ∧ x < 18446744073709551616) (bs : AB) (Gl : aF) (hV : LineB 5 r va bs Gl) (hS : ∀ L : AA, kP r n (L, bs)) (ms : AE) (w : AI) (hst : St w ms ((xb, J [.int .u64 x] 38) :: (lb, J [va, .bool r] 144) :: Gl) w) : aG prog 62 [P_ lb, P_ xb, .int .i64 n] w ms (fun v H => v = .tuple #[] ∧ ∃ va' Gl', LineB 5 r va' (goes r n x bs).2 Gl' ∧ H = (xb, J [.int .u64 (goes r n x bs).1] 38) :: (lb, J [va', .bool r] 144) :: Gl') :=
 (M6 r lb xb 0 n hn va bs Gl hV [.int .u64 x] (hS _) 38 ⟨x, rfl, hx⟩ ms w hst).mono fun v H ⟨h1, va', Gl', h2, h3⟩ => ⟨h1, va', Gl', by cases r <;> exact h2, by rw [h3]; cases r <;> rfl⟩
def Zf (r : Bool) (lb pb : Nat) (va : AH) (Gl : aF) (S : Ps) (hV : LineB 5 r va S.2 Gl) (os : AE) (hol : os.length ≤ 1000000) (hS : kP r (os.length * 1) S) (T : Nat) (hf : ∀ o ∈ os, gP .byte S.1 o) (pa : AC) (pc : Nat) (ms : AE) (w : AI) (hst : St w ms ((lb, J [va, .bool r] 144) :: (Gl ++ [(pb, J S.1 T)])) w) (hE : iY w (Hz pb) pa os) (hpn : ∀ p, pa = some p → p.block ∉ ms) : aG prog 59 [P_ lb, .slice pa os.length pc] w ms (fun v H => v = .tuple #[] ∧ ∃ va' Gl', LineB 5 r va' (bI r .byte os S).2 Gl' ∧ H = (lb, J [va', .bool r] 144) :: (Gl' ++ [(pb, J (bI r .byte os S).1 T)])) := by
 refine cE func59 hst ?_
 refine ZA7 ?_
 refine oS ?_
 refine dV (σ := Nat × AH × aF) [5, 6, 9, 10, 11, 12, 13, 14, 15, 16, 17, 18, 19, 20, 21, 22, 23] (fun s => [(9, .int .i64 s.1)]) (fun s => (lb, J [s.2.1, .bool r] 144) :: (s.2.2 ++ [(pb, J (bI r .byte (os.take s.1) S).1 T)])) (fun s => s.1 ≤ os.length ∧ LineB 5 r s.2.1 (bI r .byte (os.take s.1) S).2 s.2.2) (fun s => os.length - s.1) (0, va, Gl) ?_ ?_ ?_ ?_
 ·exact ⟨av _, hV⟩
 ·exact .cons U .nil
 ·exact fun _ h => h
 rintro ⟨i, v0, G0⟩ y1 ⟨hi, hV0⟩
 dsimp only at hi hV0 ⊢
 refine ZBn ?_
 refine KC (fun q0 z0 => ?_) (fun q0 z0 => ?_)
 ·refine ZBy ?_
  obtain ⟨oi, hoi⟩ : ∃ o, os[i]? = some o := ⟨_, am I⟩
  obtain ⟨bp, op, rfl, hrow⟩ := hE.row (i := i) I
  obtain ⟨Z, hZ⟩ : ∃ Z, Z = (bI r .byte (os.take i) S) := ⟨_, rfl⟩
  have hfz : gP .byte Z.1 oi := hZ ▸ Sa trivial hS.byts hf hoi
  have hSz : kP r 1 Z := hZ ▸ hS.at (k := .byte) I
  rw [← hZ] at hV0 ⊢
  have hv9 : Z.1[oi]? = some (.int .u8 (FK.at Z.1 oi)) := hfz.at.1
  have hx9 : 0 ≤ (FK.at Z.1 oi) ∧ (FK.at Z.1 oi) < 256 := hfz.at.2
  have hx8 : 0 ≤ (FK.at Z.1 oi) ∧ (FK.at Z.1 oi) < 18446744073709551616 := ⟨hx9.1, by have := hx9.2; omega⟩
  have hy9 := aAe (r := r) (n := 1) (x := (FK.at Z.1 oi)) (bs := Z.2) hx9 hSz.byts
  refine ZBE ?_
  refine Qy ?_
  refine aI ?_
  refine W (aX U U (bN (v := .int .u8 (FK.at Z.1 oi)) aE hv9)) U (RW (v := (.int .u64 (FK.at Z.1 oi))) (gN U U U) U (Bv hx8.1 hx8.2) (nM fun b0 => ?_))
  refine W (bH (l' := [.int .u64 (FK.at Z.1 oi)]) 0) U (eP ?_)
  refine ZBy ?_
  refine Yx fun va0 G1 hV1 => ?_
  refine Kw ?_
  refine ZBy ?_
  refine RW (v := (.int .u8 (goes r 1 (FK.at Z.1 oi) Z.2).1)) (gN U U U) U (Do hy9.1 hy9.2) (ZBE ?_)
  refine W (bF (l' := (pass1 r .byte Z oi).1) 0 U U U U U U hfz.lt (aD Prod.fst (pass1_goes hfz r)).symm) U (kB ?_)
  exact Mo
 refine ZBE ?_
 exact Oe
def aQM (r : Bool) (lb pb : Nat) (va : AH) (Gl : aF) (S : Ps) (hV : LineB 5 r va S.2 Gl) (os : AE) (hol : os.length ≤ 1000000) (hS : kP r (os.length * 2) S) (T : Nat) (hf : ∀ o ∈ os, gP .word S.1 o) (pa : AC) (pc : Nat) (ms : AE) (w : AI) (hst : St w ms ((lb, J [va, .bool r] 144) :: (Gl ++ [(pb, J S.1 T)])) w) (hE : iY w (Hz pb) pa os) (hpn : ∀ p, pa = some p → p.block ∉ ms) : aG prog 60 [P_ lb, .slice pa os.length pc] w ms (fun v H => v = .tuple #[] ∧ ∃ va' Gl', LineB 5 r va' (bI r .word os S).2 Gl' ∧ H = (lb, J [va', .bool r] 144) :: (Gl' ++ [(pb, J (bI r .word os S).1 T)])) := by
 refine cE func60 hst ?_
 refine ZA7 ?_
 refine oS ?_
 refine dV (σ := Nat × AH × aF) [5, 6, 9, 10, 11, 12, 13, 14, 15, 16, 17, 18, 19, 20, 21, 22, 23] (fun s => [(9, .int .i64 s.1)]) (fun s => (lb, J [s.2.1, .bool r] 144) :: (s.2.2 ++ [(pb, J (bI r .word (os.take s.1) S).1 T)])) (fun s => s.1 ≤ os.length ∧ LineB 5 r s.2.1 (bI r .word (os.take s.1) S).2 s.2.2) (fun s => os.length - s.1) (0, va, Gl) ?_ ?_ ?_ ?_
 ·exact ⟨av _, hV⟩
 ·exact .cons U .nil
 ·exact fun _ h => h
 rintro ⟨i, v0, G0⟩ y1 ⟨hi, hV0⟩
 dsimp only at hi hV0 ⊢
 refine ZBn ?_
 refine KC (fun q0 z0 => ?_) (fun q0 z0 => ?_)
 ·refine ZBy ?_
  obtain ⟨oi, hoi⟩ : ∃ o, os[i]? = some o := ⟨_, am I⟩
  obtain ⟨bp, op, rfl, hrow⟩ := hE.row (i := i) I
  obtain ⟨Z, hZ⟩ : ∃ Z, Z = (bI r .word (os.take i) S) := ⟨_, rfl⟩
  have hfz : gP .word Z.1 oi := hZ ▸ Sa trivial hS.byts hf hoi
  have hSz : kP r 2 Z := hZ ▸ hS.at (k := .word) I
  rw [← hZ] at hV0 ⊢
  have hv9 : Z.1[oi]? = some (.int .u16 (FK.at Z.1 oi)) := hfz.at.1
  have hx9 : 0 ≤ (FK.at Z.1 oi) ∧ (FK.at Z.1 oi) < 65536 := hfz.at.2
  have hx8 : 0 ≤ (FK.at Z.1 oi) ∧ (FK.at Z.1 oi) < 18446744073709551616 := ⟨hx9.1, by have := hx9.2; omega⟩
  have hy9 := aAe (r := r) (n := 2) (x := (FK.at Z.1 oi)) (bs := Z.2) hx9 hSz.byts
  refine ZBE ?_
  refine Qy ?_
  refine aI ?_
  refine W (aX U U (bN (v := .int .u16 (FK.at Z.1 oi)) aE hv9)) U (RW (v := (.int .u64 (FK.at Z.1 oi))) (gN U U U) U (Bv hx8.1 hx8.2) (nM fun b0 => ?_))
  refine W (bH (l' := [.int .u64 (FK.at Z.1 oi)]) 0) U (eP ?_)
  refine ZBy ?_
  refine RX (kM (A := (b0, J [.int .u64 (FK.at Z.1 oi)] 38) :: (lb, J [v0, .bool r] 144) :: G0) (G := [(pb, J Z.1 T)]) (R := fun v H => v = .tuple #[] ∧ ∃ va' Gl', LineB 5 r va' (goes r 2 (FK.at Z.1 oi) Z.2).2 Gl' ∧ H = (b0, J [.int .u64 (goes r 2 (FK.at Z.1 oi) Z.2).1] 38) :: (lb, J [va', .bool r] 144) :: Gl') (((b0, J [.int .u64 (FK.at Z.1 oi)] 38) :: (lb, J [v0, .bool r] 144) :: G0).map (·.1)) K_ U (fun _ hb => jS hb) (dJ (number1L_fn r lb b0 2 M v0 (FK.at Z.1 oi) hx8 Z.2 G0 hV0 (fun L => ⟨hSz.byts, hSz.en, hSz.sz⟩) _))) U ?_
  rintro _ _ ⟨_, ⟨rfl, va0, G1, hV1, rfl⟩, rfl⟩
  refine Kw ?_
  refine ZBy ?_
  refine RW (v := (.int .u16 (goes r 2 (FK.at Z.1 oi) Z.2).1)) (gN U U U) U (Ie hy9.1 hy9.2) (ZBE ?_)
  refine W (bF (l' := (pass1 r .word Z oi).1) 0 U U U U U U hfz.lt (aD Prod.fst (pass1_goes hfz r)).symm) U (kB ?_)
  exact Mo
 refine ZBE ?_
 exact Oe
def Yy (r : Bool) (lb pb : Nat) (va : AH) (Gl : aF) (S : Ps) (hV : LineB 5 r va S.2 Gl) (os : AE) (hol : os.length ≤ 1000000) (hS : kP r (os.length * 1) S) (T : Nat) (hf : ∀ o ∈ os, gP .bool S.1 o) (pa : AC) (pc : Nat) (ms : AE) (w : AI) (hst : St w ms ((lb, J [va, .bool r] 144) :: (Gl ++ [(pb, J S.1 T)])) w) (hE : iY w (Hz pb) pa os) (hpn : ∀ p, pa = some p → p.block ∉ ms) : aG prog 61 [P_ lb, .slice pa os.length pc] w ms (fun v H => v = .tuple #[] ∧ ∃ va' Gl', LineB 5 r va' (bI r .bool os S).2 Gl' ∧ H = (lb, J [va', .bool r] 144) :: (Gl' ++ [(pb, J (bI r .bool os S).1 T)])) := by
 refine cE func61 hst ?_
 refine ZA7 ?_
 refine oS ?_
 refine dV (σ := Nat × AH × aF) [5, 6, 9, 10, 11, 12, 13, 14, 15, 16, 17, 18, 19, 20, 21, 22] (fun s => [(9, .int .i64 s.1)]) (fun s => (lb, J [s.2.1, .bool r] 144) :: (s.2.2 ++ [(pb, J (bI r .bool (os.take s.1) S).1 T)])) (fun s => s.1 ≤ os.length ∧ LineB 5 r s.2.1 (bI r .bool (os.take s.1) S).2 s.2.2) (fun s => os.length - s.1) (0, va, Gl) ?_ ?_ ?_ ?_
 ·exact ⟨av _, hV⟩
 ·exact .cons U .nil
 ·exact fun _ h => h
 rintro ⟨i, v0, G0⟩ y1 ⟨hi, hV0⟩
 dsimp only at hi hV0 ⊢
 refine ZBn ?_
 refine KC (fun q0 z0 => ?_) (fun q0 z0 => ?_)
 ·refine ZBy ?_
  obtain ⟨oi, hoi⟩ : ∃ o, os[i]? = some o := ⟨_, am I⟩
  obtain ⟨bp, op, rfl, hrow⟩ := hE.row (i := i) I
  obtain ⟨Z, hZ⟩ : ∃ Z, Z = (bI r .bool (os.take i) S) := ⟨_, rfl⟩
  have hfz : gP .bool Z.1 oi := hZ ▸ Sa trivial hS.byts hf hoi
  have hSz : kP r 1 Z := hZ ▸ hS.at (k := .bool) I
  rw [← hZ] at hV0 ⊢
  have hv9 : Z.1[oi]? = some (.bool ((FK.at Z.1 oi) == 1)) := hfz.at.1
  have hx9 : (FK.at Z.1 oi) = 0 ∨ (FK.at Z.1 oi) = 1 := hfz.at.2
  have hx8 : 0 ≤ (FK.at Z.1 oi) ∧ (FK.at Z.1 oi) < 18446744073709551616 := by rcases hx9 with h | h <;> rw [h] <;> decide
  refine ZBE ?_
  refine Qy ?_
  refine ZBy ?_
  refine nM fun b0 => ?_
  refine aI ?_
  refine W (aX U U (bN (v := .bool ((FK.at Z.1 oi) == 1)) aE hv9)) U (ZBE ?_)
  refine KC (fun q1 z1 => ?_) (fun q1 z1 => ?_)
  ·refine ZBE ?_
   refine W (bH (l' := [.int .u64 1]) 0) U (kB ?_)
   have e8 : (FK.at Z.1 oi) = 1 := by simpa using q1
   refine ZEI ?_
   refine Yx fun va0 G1 hV1 => ?_
   refine Kw ?_
   refine ZEz ?_
   refine kB ?_
   exact Mo
  refine ZAm ?_
  have e8 : (FK.at Z.1 oi) = 0 := by rcases hx9 with h9 | h9; exact h9; rw [h9] at q1; cases q1
  refine ZEI ?_
  refine Yx fun va0 G1 hV1 => ?_
  refine Kw ?_
  refine ZEz ?_
  refine kB ?_
  exact Mo
 refine ZBE ?_
 exact Oe
def Pp (r : Bool) (lb pb : Nat) (mn : Nat) (hmn : mn ≤ 4) (hmn8 : mn ≤ 8) (va : AH) (Gl : aF) (S : Ps) (hV : LineB 5 r va S.2 Gl) (os : AE) (hol : os.length ≤ 1000000) (hS : kP r (os.length * mn) S) (T : Nat) (hf : ∀ o ∈ os, gP (.int mn) S.1 o) (pa : AC) (pc : Nat) (ms : AE) (w : AI) (hst : St w ms ((lb, J [va, .bool r] 144) :: (Gl ++ [(pb, J S.1 T)])) w) (hE : iY w (Hz pb) pa os) (hpn : ∀ p, pa = some p → p.block ∉ ms) : aG prog 63 [P_ lb, .int .i64 mn, .slice pa os.length pc] w ms (fun v H => v = .tuple #[] ∧ ∃ va' Gl', LineB 5 r va' (bI r (.int mn) os S).2 Gl' ∧ H = (lb, J [va', .bool r] 144) :: (Gl' ++ [(pb, J (bI r (.int mn) os S).1 T)])) := by
 refine cE func63 hst ?_
 refine ZA7 ?_
 refine oS ?_
 refine dV (σ := Nat × AH × aF) [7, 8, 11, 12, 13, 14, 15, 16, 17, 18, 19, 20, 21, 22, 23, 24, 25, 26] (fun s => [(11, .int .i64 s.1)]) (fun s => (lb, J [s.2.1, .bool r] 144) :: (s.2.2 ++ [(pb, J (bI r (.int mn) (os.take s.1) S).1 T)])) (fun s => s.1 ≤ os.length ∧ LineB 5 r s.2.1 (bI r (.int mn) (os.take s.1) S).2 s.2.2) (fun s => os.length - s.1) (0, va, Gl) ?_ ?_ ?_ ?_
 ·exact ⟨av _, hV⟩
 ·exact .cons U .nil
 ·exact fun _ h => h
 rintro ⟨i, v0, G0⟩ y1 ⟨hi, hV0⟩
 dsimp only at hi hV0 ⊢
 refine ZBn ?_
 refine KC (fun q0 z0 => ?_) (fun q0 z0 => ?_)
 ·refine ZBy ?_
  obtain ⟨oi, hoi⟩ : ∃ o, os[i]? = some o := ⟨_, am I⟩
  obtain ⟨bp, op, rfl, hrow⟩ := hE.row (i := i) I
  obtain ⟨Z, hZ⟩ : ∃ Z, Z = (bI r (.int mn) (os.take i) S) := ⟨_, rfl⟩
  have hfz : gP (.int mn) Z.1 oi := hZ ▸ Sa hmn hS.byts hf hoi
  have hSz : kP r mn Z := hZ ▸ hS.at (k := (.int mn)) I
  rw [← hZ] at hV0 ⊢
  have hv9 : Z.1[oi]? = some (.int .i64 (FK.at Z.1 oi)) := hfz.at.1
  have hx9 : -9223372036854775808 ≤ (FK.at Z.1 oi) ∧ (FK.at Z.1 oi) ≤ 9223372036854775807 := hfz.at.2
  have hx8 : 0 ≤ ((FK.at Z.1 oi) % 18446744073709551616) ∧ ((FK.at Z.1 oi) % 18446744073709551616) < 18446744073709551616 := by omega
  refine ZBE ?_
  refine Qy ?_
  refine aI ?_
  refine W (aX U U (bN (v := .int .i64 (FK.at Z.1 oi)) aE hv9)) U (RW (v := (.int .u64 ((FK.at Z.1 oi) % 18446744073709551616))) (gN U U U) U (Mk _) (nM fun b0 => ?_))
  refine W (bH (l' := [.int .u64 ((FK.at Z.1 oi) % 18446744073709551616)]) 0) U (eP ?_)
  refine ZBn ?_
  refine RX (kM (A := (b0, J [.int .u64 ((FK.at Z.1 oi) % 18446744073709551616)] 38) :: (lb, J [v0, .bool r] 144) :: G0) (G := [(pb, J Z.1 T)]) (R := fun v H => v = .tuple #[] ∧ ∃ va' Gl', LineB 5 r va' (goes r mn ((FK.at Z.1 oi) % 18446744073709551616) Z.2).2 Gl' ∧ H = (b0, J [.int .u64 (goes r mn ((FK.at Z.1 oi) % 18446744073709551616) Z.2).1] 38) :: (lb, J [va', .bool r] 144) :: Gl') (((b0, J [.int .u64 ((FK.at Z.1 oi) % 18446744073709551616)] 38) :: (lb, J [v0, .bool r] 144) :: G0).map (·.1)) K_ U (fun _ hb => jS hb) (dJ (number1L_fn r lb b0 mn hmn8 v0 ((FK.at Z.1 oi) % 18446744073709551616) hx8 Z.2 G0 hV0 (fun L => ⟨hSz.byts, hSz.en, hSz.sz⟩) _))) U ?_
  rintro _ _ ⟨_, ⟨rfl, va0, G1, hV1, rfl⟩, rfl⟩
  refine Kw ?_
  refine ZBy ?_
  refine RW (v := (.int .i64 (goes r mn (FK.at Z.1 oi) Z.2).1)) (gN U U U) U (aD _ (aDo hmn hx9 hSz.byts).1) (ZBE ?_)
  refine W (bF (l' := (pass1 r (.int mn) Z oi).1) 0 U U U U U U hfz.lt (aD Prod.fst (pass1_goes hfz r)).symm) U (kB ?_)
  refine jF ?_
  exact ⟨(i + 1, va0, G1), ⟨aR, (by rw [passes_snoc hoi, ← hZ, pass1_goes hfz]; show LineB _ r va0 (goes r mn (FK.at Z.1 oi) Z.2).2 G1; rw [← (aDo hmn hx9 hSz.byts).2]; exact hV1)⟩, aR, .cons U .nil, bJ, fun _ h => (((h.sub (.cons_cons _ (.cons _ aJ))).perm (bg (l₁ := [(pb, _)]) (l₂ := (lb, _) :: G1)))).as W8⟩
 refine ZBE ?_
 exact Oe
def Kf (r : Bool) (lb pb o0 nn : Nat) (hnn : nn ≤ 1000000) (va : AH) (Gl : aF) (S : Ps) (hV : LineB 5 r va S.2 Gl) (hS : kP r nn S) (T : Nat) (hf : ∀ o ∈ cT o0 nn, gP .byte S.1 o) (pc : Nat) (ms : AE) (w : AI) (hst : St w ms ((lb, J [va, .bool r] 144) :: (Gl ++ [(pb, J S.1 T)])) w) : aG prog 64 [P_ lb, .slice (some ⟨pb, o0, none⟩) nn pc] w ms (fun v H => v = .tuple #[] ∧ ∃ va' Gl', LineB 5 r va' (bI r .byte (cT o0 nn) S).2 Gl' ∧ H = (lb, J [va', .bool r] 144) :: (Gl' ++ [(pb, J (bI r .byte (cT o0 nn) S).1 T)])) := by
 refine cE func64 hst ?_
 refine ZA7 ?_
 refine oS ?_
 refine dV (σ := Nat × AH × aF) [4, 7, 8, 9, 10, 11, 12, 13, 14, 15, 16] (fun s => [(7, .int .i64 s.1)]) (fun s => (lb, J [s.2.1, .bool r] 144) :: (s.2.2 ++ [(pb, J (bI r .byte (cT o0 s.1) S).1 T)])) (fun s => s.1 ≤ nn ∧ LineB 5 r s.2.1 (bI r .byte (cT o0 s.1) S).2 s.2.2) (fun s => nn - s.1) (0, va, Gl) ?_ ?_ ?_ ?_
 ·exact ⟨av _, hV⟩
 ·exact .cons U .nil
 ·exact fun _ h => h
 rintro ⟨i, v0, G0⟩ y1 ⟨hi, hV0⟩
 dsimp only at hi hV0 ⊢
 refine ZBn ?_
 refine KC (fun q0 z0 => ?_) (fun q0 z0 => ?_)
 ·refine ZBy ?_
  obtain ⟨Z, hZ⟩ : ∃ Z, Z = (bI r .byte (cT o0 i) S) := ⟨_, rfl⟩
  have hfz : gP .byte Z.1 (o0 + i) := hZ ▸ Mi (k := .byte) trivial hS.byts (fun o ho => by obtain ⟨j, hj, rfl⟩ := Yu ho; exact hf _ (Jh I)) (hf _ (Jh I)) (fun _ => rfl)
  have hSz : kP r 1 Z := hZ ▸ kP.pass (k := .byte) (hS.le (by rw [Js]; show i * 1 + 1 ≤ nn; omega))
  rw [← hZ] at hV0 ⊢
  refine bA ?_
  refine Bu ?_
  refine RX (eQ (z := [.pointer none]) (l := [.pointer (some ⟨pb, o0 + i, none⟩)]) (ps := [(0, .pointer (some ⟨pb, o0 + i, none⟩))]) U U U U U U) U (ZBN fun b0 => ?_)
  refine RX (cX (F := [(b0, J [.pointer (some ⟨pb, o0 + i, none⟩)] 178)]) (A := (lb, J [v0, .bool r] 144) :: (G0 ++ [(pb, J Z.1 T)])) (R := fun v H => v = .tuple #[] ∧ ∃ va' Gl', LineB 5 r va' (bI r .byte [o0 + i] Z).2 Gl' ∧ H = (lb, J [va', .bool r] 144) :: (Gl' ++ [(pb, J (bI r .byte [o0 + i] Z).1 T)])) K_ U (fun w hw => Zf r lb pb v0 G0 Z hV0 [o0 + i] (ai U) hSz T (fun o ho => by rw [List.mem_singleton.1 ho]; exact hfz) _ _ _ w (St.lentV hw) (fun _ => ⟨b0, 0, U, aH (b := b0) (bD _ (.head _)) w hw⟩) (fun p hp => It))) U ?_
  rintro _ _ ⟨_, ⟨rfl, va0, G1, hV1, rfl⟩, rfl⟩
  refine kB ?_
  refine jF ?_
  exact ⟨(i + 1, va0, G1), ⟨aR, by rw [aAI, ← hZ]; exact hV1⟩, aR, .cons U .nil, bJ, fun _ h => (h.sub (.cons _ aJ)).as (by rw [aAI, ← hZ])⟩
 refine ZBE ?_
 obtain rfl : i = nn := by omega
 exact EN aJ ⟨U, _, G0, hV0, U⟩
def aG5 (r : Bool) (lb mb : Nat) (va : AH) (G : aF) (S : Ps) (hV : LineB 5 r va S.2 G) (hT : gQ r 86 S) (ms : AE) (w : AI) (hst : St w ms ((lb, J [va, .bool r] 144) :: (G ++ [(mb, J S.1 134)])) w) : aG prog 65 [P_ mb, P_ lb] w ms (fun v H => v = .tuple #[] ∧ ∃ va' Gl', LineB 5 r va' (uD r S).2 Gl' ∧ H = (lb, J [va', .bool r] 144) :: (Gl' ++ [(mb, J (uD r S).1 134)])) := by
 refine cE func65 hst ?_
 refine jN ?_
 refine RW (v := (.slice (some ⟨mb, 49, none⟩) 48 48)) (pC 0 48 U U U U U U M M) U U (RX (cX (F := []) (A := (lb, J [va, .bool r] 144) :: (G ++ [(mb, J S.1 134)])) (R := (fun v H => v = .tuple #[] ∧ ∃ va' Gl', LineB 5 r va' (bI r .byte (cT 49 48) S).2 Gl' ∧ H = (lb, J [va', .bool r] 144) :: (Gl' ++ [(mb, J (bI r .byte (cT 49 48) S).1 134)]))) K_ U (fun w hw => Kf r lb mb 49 48 M va G S hV (hT.ok.le (m := 48) I) 134 (hT.fit Ic) _ _ w (St.lentV (G := []) hw))) U ?_)
 rintro _ _ ⟨_, ⟨rfl, va0, G0, hV0, rfl⟩, rfl⟩
 obtain ⟨Z16, hZ16⟩ : ∃ Z, Z = bI r .byte (cT 49 48) S := ⟨_, rfl⟩
 have hT16 : gQ r 38 Z16 := hZ16 ▸ (hT.le (m := 48 * 1 + 38) I).pass (k := .byte) (os := cT 49 48) (n := 38) trivial Ic
 rw [← hZ16] at hV0
 refine cZ (fun w hw => hw.as (by rw [← hZ16]; rfl)) (H' := (lb, J [va0, .bool r] 144) :: (G0 ++ [(mb, J Z16.1 134)])) ?_
 refine ZAm ?_
 refine DR [] (bW [0, 2, 4, 6, 8, 10, 12, 15, 17]) ?_
 refine ZDG ?_
 refine DX U (eQ (z := [.pointer none]) (l := [.pointer (some ⟨mb, 97, none⟩), .pointer (some ⟨mb, 118, none⟩)]) (ps := [(0, .pointer (some ⟨mb, 97, none⟩)), (1, .pointer (some ⟨mb, 118, none⟩))]) U U U U aO aO) U aW (ZBN fun b0 => ?_)
 refine DX U (cX (F := [(b0, _)]) (A := (lb, J [va0, .bool r] 144) :: (G0 ++ [(mb, J Z16.1 134)])) (R := (fun v H => v = .tuple #[] ∧ ∃ va' Gl', LineB 5 r va' (bI r .bool [97, 118] Z16).2 Gl' ∧ H = (lb, J [va', .bool r] 144) :: (Gl' ++ [(mb, J (bI r .bool [97, 118] Z16).1 134)]))) K_ U (fun w hw => Yy r lb mb va0 G0 Z16 hV0 [97, 118] (ai U) (hT16.ok.le (m := 2) I) 134 (hT16.fit (show ∀ o ∈ [97, 118], eV o = some .bool by decide)) _ _ _ w (St.lentV hw) (fun _ => ⟨b0, 0, U, aH (b := b0) (bD _ (.head _)) w hw⟩) (fun p hp => It))) U aW ?_
 rintro _ _ ⟨_, ⟨rfl, va1, G1, hV1, rfl⟩, rfl⟩
 obtain ⟨Z25, hZ25⟩ : ∃ Z, Z = bI r .bool [97, 118] Z16 := ⟨_, rfl⟩
 have hT25 : gQ r 36 Z25 := hZ25 ▸ (hT16.le (m := 2 + 36) I).pass (k := .bool) (os := [97, 118]) (n := 36) trivial (show ∀ o ∈ [97, 118], eV o = some .bool by decide)
 rw [← hZ25] at hV1
 refine jC (fun w hw => (hw.sub (.cons _ aJ)).as (by rw [← hZ25]; rfl)) (H' := (lb, J [va1, .bool r] 144) :: (G1 ++ [(mb, J Z25.1 134)])) ?_
 refine ZAm ?_
 refine DR [] (bW [0, 2, 4, 6, 8, 10, 12, 14, 16, 18, 20, 22, 24, 27, 29]) ?_
 refine lS ?_
 refine DX U (eQ (z := [.pointer none]) (l := [.pointer (some ⟨mb, 98, none⟩), .pointer (some ⟨mb, 99, none⟩), .pointer (some ⟨mb, 116, none⟩), .pointer (some ⟨mb, 117, none⟩)]) (ps := [(0, .pointer (some ⟨mb, 98, none⟩)), (1, .pointer (some ⟨mb, 99, none⟩)), (2, .pointer (some ⟨mb, 116, none⟩)), (3, .pointer (some ⟨mb, 117, none⟩))]) U U U U aO aO) U aW ?_
 rintro _ _ ⟨b1, rfl, rfl⟩
 refine DX U (cX (F := [(b1, _)]) (A := (lb, J [va1, .bool r] 144) :: (G1 ++ [(mb, J Z25.1 134)])) (R := (fun v H => v = .tuple #[] ∧ ∃ va' Gl', LineB 5 r va' (bI r (.int 2) [98, 99, 116, 117] Z25).2 Gl' ∧ H = (lb, J [va', .bool r] 144) :: (Gl' ++ [(mb, J (bI r (.int 2) [98, 99, 116, 117] Z25).1 134)]))) K_ U (fun w hw => Pp r lb mb 2 M M va1 G1 Z25 hV1 [98, 99, 116, 117] (ai U) (hT25.ok.le (m := 8) I) 134 (hT25.fit (show ∀ o ∈ [98, 99, 116, 117], eV o = some (.int 2) by decide)) _ _ _ w (St.lentV hw) (fun _ => ⟨b1, 0, U, aH (b := b1) (bD _ (.head _)) w hw⟩) (fun p hp => It))) U aW ?_
 rintro _ _ ⟨_, ⟨rfl, va2, G2, hV2, rfl⟩, rfl⟩
 obtain ⟨Z40, hZ40⟩ : ∃ Z, Z = bI r (.int 2) [98, 99, 116, 117] Z25 := ⟨_, rfl⟩
 have hT40 : gQ r 28 Z40 := hZ40 ▸ (hT25.le (m := 8 + 28) I).pass (k := (.int 2)) (os := [98, 99, 116, 117]) (n := 28) (show 2 ≤ 4 by decide) (show ∀ o ∈ [98, 99, 116, 117], eV o = some (.int 2) by decide)
 rw [← hZ40] at hV2
 refine jC (fun w hw => (hw.sub (.cons _ aJ)).as (by rw [← hZ40]; rfl)) (H' := (lb, J [va2, .bool r] 144) :: (G2 ++ [(mb, J Z40.1 134)])) ?_
 refine aI ?_
 refine dV (σ := Nat × AH × aF) [5, 6, 41, 42, 43, 44, 45, 46, 47, 48, 49, 50, 51, 52, 53, 54, 55, 56, 57, 58, 59, 60, 61, 62, 63, 64, 65, 66, 67] (fun s => [(41, .int .i64 s.1)]) (fun s => (lb, J [s.2.1, .bool r] 144) :: (s.2.2 ++ [(mb, J (qV r Z40 s.1).1 134)])) (fun s => s.1 ≤ 4 ∧ LineB 5 r s.2.1 (qV r Z40 s.1).2 s.2.2) (fun s => 4 - s.1) (0, va2, G2) ?_ ?_ ?_ ?_
 ·exact ⟨av _, hV2⟩
 ·exact .cons U .nil
 ·exact fun _ h => h
 rintro ⟨i, va3, G3⟩ y5 ⟨hi, hV3⟩
 dsimp only at hi hV3 ⊢
 refine ZBn ?_
 refine KC (fun q0 z0 => ?_) (fun q0 z0 => ?_)
 ·refine ZBy ?_
  have hi4 : i < 4 := by omega
  obtain ⟨Z5, hZ5⟩ : ∃ Z, Z = qV r Z40 i := ⟨_, rfl⟩
  have hT5 : gQ r (7 * (4 - i)) Z5 := hZ5 ▸ (hT40.voices (n := 0) i I)
  rw [← hZ5] at hV3 ⊢
  refine cL ?_
  refine RW (v := (.pointer (some ⟨mb, 100 + 4 * i, none⟩))) (iP (s := 4) i U U U U I) U (aD (fun z : Nat => Value.pointer (some ⟨mb, z, none⟩)) I) (ZDG ?_)
  refine RW (v := (.pointer (some ⟨mb, 100 + 4 * i, none⟩))) (Du U U) U (aD (fun z : Nat => Value.pointer (some ⟨mb, z, none⟩)) I) (RX (eQ (z := [.pointer none]) (l := [.pointer (some ⟨mb, 100 + 4 * i, none⟩)]) (ps := [(0, .pointer (some ⟨mb, 100 + 4 * i, none⟩))]) U U U U aO aO) U ?_)
  rintro _ _ ⟨b2, rfl, rfl⟩
  refine RX (cX (F := [(b2, _)]) (A := (lb, J [va3, .bool r] 144) :: (G3 ++ [(mb, J Z5.1 134)])) (R := (fun v H => v = .tuple #[] ∧ ∃ va' Gl', LineB 5 r va' (bI r .bool [100 + 4 * i] Z5).2 Gl' ∧ H = (lb, J [va', .bool r] 144) :: (Gl' ++ [(mb, J (bI r .bool [100 + 4 * i] Z5).1 134)]))) K_ U (fun w hw => Yy r lb mb va3 G3 Z5 hV3 [100 + 4 * i] (ai U) (hT5.ok.le (m := 1) I) 134 (hT5.fit (Tg hi4)) _ _ _ w (St.lentV hw) (fun _ => ⟨b2, 0, U, aH (b := b2) (bD _ (.head _)) w hw⟩) (fun p hp => It))) U ?_
  rintro _ _ ⟨_, ⟨rfl, va4, G4, hV4, rfl⟩, rfl⟩
  obtain ⟨Z54, hZ54⟩ : ∃ Z, Z = bI r .bool [100 + 4 * i] Z5 := ⟨_, rfl⟩
  have hT54 : gQ r (7 * (4 - i) - 1) Z54 := hZ54 ▸ (hT5.le (m := 1 + (7 * (4 - i) - 1)) I).pass (k := .bool) (os := [100 + 4 * i]) (n := (7 * (4 - i) - 1)) trivial (Tg hi4)
  rw [← hZ54] at hV4
  refine cZ (fun w hw => (hw.sub (.cons _ aJ)).as (by rw [← hZ54]; rfl)) (H' := (lb, J [va4, .bool r] 144) :: (G4 ++ [(mb, J Z54.1 134)])) ?_
  refine ZBE ?_
  refine DR [] (bW [0, 2, 4, 6, 8, 10, 12, 14, 16, 18, 21, 23]) ?_
  refine ZA7 ?_
  refine DW (v := (.pointer (some ⟨mb, 101 + 4 * i, none⟩))) U (Du U U) U (aD (fun z : Nat => Value.pointer (some ⟨mb, z, none⟩)) I) (ZAm ?_)
  refine DW (v := (.pointer (some ⟨mb, 102 + 4 * i, none⟩))) U (Du U U) U (aD (fun z : Nat => Value.pointer (some ⟨mb, z, none⟩)) I) (ZAm ?_)
  refine DW (v := (.pointer (some ⟨mb, 103 + 4 * i, none⟩))) U (Du U U) U (aD (fun z : Nat => Value.pointer (some ⟨mb, z, none⟩)) I) (DX U (eQ (z := [.pointer none]) (l := [.pointer (some ⟨mb, 101 + 4 * i, none⟩), .pointer (some ⟨mb, 102 + 4 * i, none⟩), .pointer (some ⟨mb, 103 + 4 * i, none⟩)]) (ps := [(0, .pointer (some ⟨mb, 101 + 4 * i, none⟩)), (1, .pointer (some ⟨mb, 102 + 4 * i, none⟩)), (2, .pointer (some ⟨mb, 103 + 4 * i, none⟩))]) U U U U aO aO) U aW ?_)
  rintro _ _ ⟨b3, rfl, rfl⟩
  refine DX U (cX (F := [(b3, _)]) (A := (lb, J [va4, .bool r] 144) :: (G4 ++ [(mb, J Z54.1 134)])) (R := (fun v H => v = .tuple #[] ∧ ∃ va' Gl', LineB 5 r va' (bI r (.int 2) [101 + 4 * i, 102 + 4 * i, 103 + 4 * i] Z54).2 Gl' ∧ H = (lb, J [va', .bool r] 144) :: (Gl' ++ [(mb, J (bI r (.int 2) [101 + 4 * i, 102 + 4 * i, 103 + 4 * i] Z54).1 134)]))) K_ U (fun w hw => Pp r lb mb 2 M M va4 G4 Z54 hV4 [101 + 4 * i, 102 + 4 * i, 103 + 4 * i] (ai U) (hT54.ok.le (m := 6) I) 134 (hT54.fit (Ud hi4)) _ _ _ w (St.lentV hw) (fun _ => ⟨b3, 0, U, aH (b := b3) (bD _ (.head _)) w hw⟩) (fun p hp => It))) U aW ?_
  rintro _ _ ⟨_, ⟨rfl, va5, G5, hV5, rfl⟩, rfl⟩
  obtain ⟨Z66, hZ66⟩ : ∃ Z, Z = bI r (.int 2) [101 + 4 * i, 102 + 4 * i, 103 + 4 * i] Z54 := ⟨_, rfl⟩
  have hT66 : gQ r (7 * (4 - (i + 1))) Z66 := hZ66 ▸ (hT54.le (m := 6 + (7 * (4 - (i + 1)))) I).pass (k := (.int 2)) (os := [101 + 4 * i, 102 + 4 * i, 103 + 4 * i]) (n := (7 * (4 - (i + 1)))) (show 2 ≤ 4 by decide) (Ud hi4)
  rw [← hZ66] at hV5
  refine jC (fun w hw => (hw.sub (.cons _ aJ)).as (by rw [← hZ66]; rfl)) (H' := (lb, J [va5, .bool r] 144) :: (G5 ++ [(mb, J Z66.1 134)])) ?_
  refine ZAm ?_
  refine jF ?_
  exact ⟨(i + 1, va5, G5), ⟨aR, by show LineB _ r va5 (bI r (.int 2) _ (bI r .bool _ (qV r Z40 i))).2 G5; rw [← hZ5, ← hZ54, ← hZ66]; exact hV5⟩, aR, .cons U .nil, bJ, fun _ h => h.as (by show _ = (lb, _) :: (G5 ++ [(mb, J (bI r (.int 2) _ (bI r .bool _ (qV r Z40 i))).1 _)]); rw [← hZ5, ← hZ54, ← hZ66])⟩
 refine ZBE ?_
 obtain rfl : i = 4 := by omega
 exact EN aJ ⟨U, _, G3, by unfold uD; rw [← hZ16, ← hZ25, ← hZ40]; exact hV3, by unfold uD; rw [← hZ16, ← hZ25, ← hZ40]⟩
set_option maxHeartbeats 4000000 in
def aDx (r : Bool) (lb mb rb nn rc : Nat) (hnn : nn ≤ 200000) (va : AH) (G : aF) (S : Ps) (hV : LineB 5 r va S.2 G) (hT : gQ r (8482 + nn) S) (RL : AA) (hR : ∀ o ∈ cT 0 nn, gP .byte RL o) (hrv : S.1[134]? = some (.slice (Q_ rb) nn rc)) (ms : AE) (w : AI) (hst : St w ms ((lb, J [va, .bool r] 144) :: ((G ++ [(mb, J S.1 134)]) ++ [(rb, J RL 5)])) w) : aG prog 29 [P_ mb, P_ lb] w ms (fun v H => v = .tuple #[] ∧ ∃ va' Gl', LineB 5 r va' (bI r .byte (cT 0 nn) (RL, (vE r S).2)).2 Gl' ∧ H = (lb, J [va', .bool r] 144) :: ((Gl' ++ [(mb, J (vE r S).1 134)]) ++ [(rb, J (bI r .byte (cT 0 nn) (RL, (vE r S).2)).1 5)])) := by
 refine cE func29 hst ?_
 refine ZBE ?_
 refine DR [] (bW [0, 2, 4, 6, 8, 10, 12, 14, 16, 18, 20, 22, 24, 26, 28, 30, 32, 34, 36, 38, 40]) ?_
 refine J6 ?_
 refine DR [] (bW [0, 2, 4, 6, 8, 10, 12, 14, 16, 18, 20, 22, 24, 26, 28, 30, 32, 34, 36, 38, 40, 42, 44, 46, 48, 50, 52, 54, 56, 58, 60, 62, 64, 66, 68, 70, 72, 74, 76, 78, 80, 82, 84, 86, 88, 90, 92, 94, 96, 98, 100, 102, 104, 107, 109]) ?_
 refine aPi ?_
 refine DX U (eQ (z := [.pointer none]) (l := [P_ mb, .pointer (some ⟨mb, 1, none⟩), .pointer (some ⟨mb, 2, none⟩), .pointer (some ⟨mb, 3, none⟩), .pointer (some ⟨mb, 4, none⟩), .pointer (some ⟨mb, 5, none⟩), .pointer (some ⟨mb, 6, none⟩), .pointer (some ⟨mb, 7, none⟩), .pointer (some ⟨mb, 119, none⟩), .pointer (some ⟨mb, 120, none⟩), .pointer (some ⟨mb, 21, none⟩), .pointer (some ⟨mb, 39, none⟩), .pointer (some ⟨mb, 40, none⟩), .pointer (some ⟨mb, 47, none⟩)]) (ps := [(0, P_ mb), (1, .pointer (some ⟨mb, 1, none⟩)), (2, .pointer (some ⟨mb, 2, none⟩)), (3, .pointer (some ⟨mb, 3, none⟩)), (4, .pointer (some ⟨mb, 4, none⟩)), (5, .pointer (some ⟨mb, 5, none⟩)), (6, .pointer (some ⟨mb, 6, none⟩)), (7, .pointer (some ⟨mb, 7, none⟩)), (8, .pointer (some ⟨mb, 119, none⟩)), (9, .pointer (some ⟨mb, 120, none⟩)), (10, .pointer (some ⟨mb, 21, none⟩)), (11, .pointer (some ⟨mb, 39, none⟩)), (12, .pointer (some ⟨mb, 40, none⟩)), (13, .pointer (some ⟨mb, 47, none⟩))]) U U U U aO aO) U aW (ZBN fun b0 => ?_)
 refine DX U (eO (F := [(b0, _)]) (A := (lb, J [va, .bool r] 144) :: (G ++ [(mb, J S.1 134)])) (G := [(rb, J RL 5)]) (R := (fun v H => v = .tuple #[] ∧ ∃ va' Gl', LineB 5 r va' (bI r .byte gA S).2 Gl' ∧ H = (lb, J [va', .bool r] 144) :: (Gl' ++ [(mb, J (bI r .byte gA S).1 134)]))) K_ U (fun w hw hw2 => Zf r lb mb va G S hV gA (ai U) (hT.ok.le (m := 14) I) 134 (hT.fit M3) _ _ _ w hw (fun _ => ⟨b0, 0, U, aH (b := b0) (bD _ (.head _)) w hw2⟩) (fun p hp => Ff))) U aW ?_
 rintro _ _ ⟨_, ⟨rfl, va0, G0, hV0, rfl⟩, rfl⟩
 obtain ⟨Z79, hZ79⟩ : ∃ Z, Z = bI r .byte gA S := ⟨_, rfl⟩
 have hT79 : gQ r (8468 + nn) Z79 := hZ79 ▸ (hT.le (m := 14 + (8468 + nn)) I).pass (k := .byte) (os := gA) (n := (8468 + nn)) trivial M3
 rw [← hZ79] at hV0
 refine jC (fun w hw => (hw.sub (.cons _ aJ)).as (by rw [← hZ79]; rfl)) (H' := (lb, J [va0, .bool r] 144) :: ((G0 ++ [(mb, J Z79.1 134)]) ++ [(rb, J RL 5)])) ?_
 refine ZAm ?_
 refine DR [] (bW [0, 2, 4, 6, 8, 10, 12, 14, 16, 18, 21, 23]) ?_
 refine cL ?_
 refine DX U (eQ (z := [.pointer none]) (l := [.pointer (some ⟨mb, 8, none⟩), .pointer (some ⟨mb, 9, none⟩), .pointer (some ⟨mb, 34, none⟩)]) (ps := [(0, .pointer (some ⟨mb, 8, none⟩)), (1, .pointer (some ⟨mb, 9, none⟩)), (2, .pointer (some ⟨mb, 34, none⟩))]) U U U U aO aO) U aW ?_
 rintro _ _ ⟨b1, rfl, rfl⟩
 refine DX U (eO (F := [(b1, _)]) (A := (lb, J [va0, .bool r] 144) :: (G0 ++ [(mb, J Z79.1 134)])) (G := [(rb, J RL 5)]) (R := (fun v H => v = .tuple #[] ∧ ∃ va' Gl', LineB 5 r va' (bI r .word gW Z79).2 Gl' ∧ H = (lb, J [va', .bool r] 144) :: (Gl' ++ [(mb, J (bI r .word gW Z79).1 134)]))) K_ U (fun w hw hw2 => aQM r lb mb va0 G0 Z79 hV0 gW (ai U) (hT79.ok.le (m := 6) I) 134 (hT79.fit E4) _ _ _ w hw (fun _ => ⟨b1, 0, U, aH (b := b1) (bD _ (.head _)) w hw2⟩) (fun p hp => Ff))) U aW ?_
 rintro _ _ ⟨_, ⟨rfl, va1, G1, hV1, rfl⟩, rfl⟩
 obtain ⟨Z91, hZ91⟩ : ∃ Z, Z = bI r .word gW Z79 := ⟨_, rfl⟩
 have hT91 : gQ r (8462 + nn) Z91 := hZ91 ▸ (hT79.le (m := 6 + (8462 + nn)) I).pass (k := .word) (os := gW) (n := (8462 + nn)) trivial E4
 rw [← hZ91] at hV1
 refine jC (fun w hw => (hw.sub (.cons _ aJ)).as (by rw [← hZ91]; rfl)) (H' := (lb, J [va1, .bool r] 144) :: ((G1 ++ [(mb, J Z91.1 134)]) ++ [(rb, J RL 5)])) ?_
 refine ZAm ?_
 refine DR [] (bW [0, 2, 4, 6, 8, 10, 12, 14, 16, 18, 20, 22, 24, 26, 28, 30, 32, 34, 36, 38, 40, 42, 44, 46, 48, 50, 52, 54, 56, 58, 60, 62, 64, 66, 68, 70, 72, 74, 76, 78, 81, 83]) ?_
 refine aGi ?_
 refine DX U (eQ (z := [.pointer none]) (l := [.pointer (some ⟨mb, 10, none⟩), .pointer (some ⟨mb, 11, none⟩), .pointer (some ⟨mb, 12, none⟩), .pointer (some ⟨mb, 13, none⟩), .pointer (some ⟨mb, 17, none⟩), .pointer (some ⟨mb, 18, none⟩), .pointer (some ⟨mb, 38, none⟩), .pointer (some ⟨mb, 27, none⟩), .pointer (some ⟨mb, 28, none⟩)]) (ps := [(0, .pointer (some ⟨mb, 10, none⟩)), (1, .pointer (some ⟨mb, 11, none⟩)), (2, .pointer (some ⟨mb, 12, none⟩)), (3, .pointer (some ⟨mb, 13, none⟩)), (4, .pointer (some ⟨mb, 17, none⟩)), (5, .pointer (some ⟨mb, 18, none⟩)), (6, .pointer (some ⟨mb, 38, none⟩)), (7, .pointer (some ⟨mb, 27, none⟩)), (8, .pointer (some ⟨mb, 28, none⟩))]) U U U U aO aO) U aW ?_
 rintro _ _ ⟨b2, rfl, rfl⟩
 refine DX U (eO (F := [(b2, _)]) (A := (lb, J [va1, .bool r] 144) :: (G1 ++ [(mb, J Z91.1 134)])) (G := [(rb, J RL 5)]) (R := (fun v H => v = .tuple #[] ∧ ∃ va' Gl', LineB 5 r va' (bI r .bool gB Z91).2 Gl' ∧ H = (lb, J [va', .bool r] 144) :: (Gl' ++ [(mb, J (bI r .bool gB Z91).1 134)]))) K_ U (fun w hw hw2 => Yy r lb mb va1 G1 Z91 hV1 gB (ai U) (hT91.ok.le (m := 9) I) 134 (hT91.fit F5) _ _ _ w hw (fun _ => ⟨b2, 0, U, aH (b := b2) (bD _ (.head _)) w hw2⟩) (fun p hp => Ff))) U aW ?_
 rintro _ _ ⟨_, ⟨rfl, va2, G2, hV2, rfl⟩, rfl⟩
 obtain ⟨Z133, hZ133⟩ : ∃ Z, Z = bI r .bool gB Z91 := ⟨_, rfl⟩
 have hT133 : gQ r (8453 + nn) Z133 := hZ133 ▸ (hT91.le (m := 9 + (8453 + nn)) I).pass (k := .bool) (os := gB) (n := (8453 + nn)) trivial F5
 rw [← hZ133] at hV2
 refine jC (fun w hw => (hw.sub (.cons _ aJ)).as (by rw [← hZ133]; rfl)) (H' := (lb, J [va2, .bool r] 144) :: ((G2 ++ [(mb, J Z133.1 134)]) ++ [(rb, J RL 5)])) ?_
 refine bA ?_
 refine cZ (fun w hw => hw.perm (d7 [(rb, J RL 5)] (bg (l₁ := (lb, J [va2, .bool r] 144) :: G2) (l₂ := [_])))) (H' := ((mb, J Z133.1 134) :: (lb, J [va2, .bool r] 144) :: G2) ++ [(rb, J RL 5)]) ?_
 refine RX (kM (A := (mb, J Z133.1 134) :: (lb, J [va2, .bool r] 144) :: G2) (G := [(rb, J RL 5)]) (R := (fun v H => v = .tuple #[] ∧ ∃ va' Gl', LineB 5 r va' (pass1 r (.long 8) Z133 121).2 Gl' ∧ H = (mb, J (pass1 r (.long 8) Z133 121).1 134) :: (lb, J [va', .bool r] 144) :: Gl')) (((mb, J Z133.1 134) :: (lb, J [va2, .bool r] 144) :: G2).map (·.1)) K_ U (fun _ hb => jS hb) (dJ (M6 r lb mb 121 8 M va2 Z133.2 G2 hV2 Z133.1 (hT133.ok.le (m := 8) I) 134 (hT133.ty 121 _ M) _))) U ?_
 rintro _ _ ⟨_, ⟨rfl, va3, G3, hV3, rfl⟩, rfl⟩
 obtain ⟨Z139, hZ139⟩ : ∃ Z, Z = pass1 r (.long 8) Z133 121 := ⟨_, rfl⟩
 have hT139 : gQ r (8445 + nn) Z139 := hZ139 ▸ (hT133.le (m := 8 + (8445 + nn)) I).one (k := .long 8) (n := (8445 + nn)) (show 8 ≤ 8 by decide) M
 rw [← hZ139] at hV3
 refine cZ (fun w hw => (hw.perm (d7 [(rb, J RL 5)] (bg (l₁ := [_]) (l₂ := (lb, J [va3, .bool r] 144) :: G3)))).as (by rw [← hZ139]; rfl)) (H' := (lb, J [va3, .bool r] 144) :: ((G3 ++ [(mb, J Z139.1 134)]) ++ [(rb, J RL 5)])) ?_
 refine bA ?_
 refine cZ (fun w hw => hw.perm (d7 [(rb, J RL 5)] (bg (l₁ := (lb, J [va3, .bool r] 144) :: G3) (l₂ := [_])))) (H' := ((mb, J Z139.1 134) :: (lb, J [va3, .bool r] 144) :: G3) ++ [(rb, J RL 5)]) ?_
 refine RX (kM (A := (mb, J Z139.1 134) :: (lb, J [va3, .bool r] 144) :: G3) (G := [(rb, J RL 5)]) (R := (fun v H => v = .tuple #[] ∧ ∃ va' Gl', LineB 5 r va' (pass1 r (.long 8) Z139 122).2 Gl' ∧ H = (mb, J (pass1 r (.long 8) Z139 122).1 134) :: (lb, J [va', .bool r] 144) :: Gl')) (((mb, J Z139.1 134) :: (lb, J [va3, .bool r] 144) :: G3).map (·.1)) K_ U (fun _ hb => jS hb) (dJ (M6 r lb mb 122 8 M va3 Z139.2 G3 hV3 Z139.1 (hT139.ok.le (m := 8) I) 134 (hT139.ty 122 _ M) _))) U ?_
 rintro _ _ ⟨_, ⟨rfl, va4, G4, hV4, rfl⟩, rfl⟩
 obtain ⟨Z145, hZ145⟩ : ∃ Z, Z = pass1 r (.long 8) Z139 122 := ⟨_, rfl⟩
 have hT145 : gQ r (8437 + nn) Z145 := hZ145 ▸ (hT139.le (m := 8 + (8437 + nn)) I).one (k := .long 8) (n := (8437 + nn)) (show 8 ≤ 8 by decide) M
 rw [← hZ145] at hV4
 refine cZ (fun w hw => (hw.perm (d7 [(rb, J RL 5)] (bg (l₁ := [_]) (l₂ := (lb, J [va4, .bool r] 144) :: G4)))).as (by rw [← hZ145]; rfl)) (H' := (lb, J [va4, .bool r] 144) :: ((G4 ++ [(mb, J Z145.1 134)]) ++ [(rb, J RL 5)])) ?_
 refine ZAm ?_
 refine Z4 ?_
 refine DX U (eQ (z := [.pointer none]) (l := [.pointer (some ⟨mb, 19, none⟩), .pointer (some ⟨mb, 20, none⟩), .pointer (some ⟨mb, 25, none⟩), .pointer (some ⟨mb, 44, none⟩), .pointer (some ⟨mb, 45, none⟩), .pointer (some ⟨mb, 46, none⟩), .pointer (some ⟨mb, 48, none⟩)]) (ps := [(0, .pointer (some ⟨mb, 19, none⟩)), (1, .pointer (some ⟨mb, 20, none⟩)), (2, .pointer (some ⟨mb, 25, none⟩)), (3, .pointer (some ⟨mb, 44, none⟩)), (4, .pointer (some ⟨mb, 45, none⟩)), (5, .pointer (some ⟨mb, 46, none⟩)), (6, .pointer (some ⟨mb, 48, none⟩))]) U U U U aO aO) U aW ?_
 rintro _ _ ⟨b3, rfl, rfl⟩
 refine DX U (eO (F := [(b3, _)]) (A := (lb, J [va4, .bool r] 144) :: (G4 ++ [(mb, J Z145.1 134)])) (G := [(rb, J RL 5)]) (R := (fun v H => v = .tuple #[] ∧ ∃ va' Gl', LineB 5 r va' (bI r (.int 2) gI Z145).2 Gl' ∧ H = (lb, J [va', .bool r] 144) :: (Gl' ++ [(mb, J (bI r (.int 2) gI Z145).1 134)]))) K_ U (fun w hw hw2 => Pp r lb mb 2 M M va4 G4 Z145 hV4 gI (ai U) (hT145.ok.le (m := 14) I) 134 (hT145.fit Vq) _ _ _ w hw (fun _ => ⟨b3, 0, U, aH (b := b3) (bD _ (.head _)) w hw2⟩) (fun p hp => Ff))) U aW ?_
 rintro _ _ ⟨_, ⟨rfl, va5, G5, hV5, rfl⟩, rfl⟩
 obtain ⟨Z175, hZ175⟩ : ∃ Z, Z = bI r (.int 2) gI Z145 := ⟨_, rfl⟩
 have hT175 : gQ r (8423 + nn) Z175 := hZ175 ▸ (hT145.le (m := 14 + (8423 + nn)) I).pass (k := (.int 2)) (os := gI) (n := (8423 + nn)) (show 2 ≤ 4 by decide) Vq
 rw [← hZ175] at hV5
 refine jC (fun w hw => (hw.sub (.cons _ aJ)).as (by rw [← hZ175]; rfl)) (H' := (lb, J [va5, .bool r] 144) :: ((G5 ++ [(mb, J Z175.1 134)]) ++ [(rb, J RL 5)])) ?_
 refine ZDG ?_
 refine RX (eQ (z := [.pointer none]) (l := [.pointer (some ⟨mb, 26, none⟩)]) (ps := [(0, .pointer (some ⟨mb, 26, none⟩))]) U U U U aO aO) U ?_
 rintro _ _ ⟨b4, rfl, rfl⟩
 refine RX (eO (F := [(b4, _)]) (A := (lb, J [va5, .bool r] 144) :: (G5 ++ [(mb, J Z175.1 134)])) (G := [(rb, J RL 5)]) (R := (fun v H => v = .tuple #[] ∧ ∃ va' Gl', LineB 5 r va' (bI r (.int 4) [26] Z175).2 Gl' ∧ H = (lb, J [va', .bool r] 144) :: (Gl' ++ [(mb, J (bI r (.int 4) [26] Z175).1 134)]))) K_ U (fun w hw hw2 => Pp r lb mb 4 M M va5 G5 Z175 hV5 [26] (ai U) (hT175.ok.le (m := 4) I) 134 (hT175.fit (show ∀ o ∈ [26], eV o = some (.int 4) by decide)) _ _ _ w hw (fun _ => ⟨b4, 0, U, aH (b := b4) (bD _ (.head _)) w hw2⟩) (fun p hp => Ff))) U ?_
 rintro _ _ ⟨_, ⟨rfl, va6, G6, hV6, rfl⟩, rfl⟩
 obtain ⟨Z181, hZ181⟩ : ∃ Z, Z = bI r (.int 4) [26] Z175 := ⟨_, rfl⟩
 have hT181 : gQ r (8419 + nn) Z181 := hZ181 ▸ (hT175.le (m := 4 + (8419 + nn)) I).pass (k := (.int 4)) (os := [26]) (n := (8419 + nn)) (show 4 ≤ 4 by decide) (show ∀ o ∈ [26], eV o = some (.int 4) by decide)
 rw [← hZ181] at hV6
 refine cZ (fun w hw => (hw.sub (.cons _ aJ)).as (by rw [← hZ181]; rfl)) (H' := (lb, J [va6, .bool r] 144) :: ((G6 ++ [(mb, J Z181.1 134)]) ++ [(rb, J RL 5)])) ?_
 refine ZAm ?_
 refine Z4 ?_
 refine DX U (eQ (z := [.pointer none]) (l := [.pointer (some ⟨mb, 22, none⟩), .pointer (some ⟨mb, 23, none⟩), .pointer (some ⟨mb, 24, none⟩), .pointer (some ⟨mb, 35, none⟩), .pointer (some ⟨mb, 36, none⟩), .pointer (some ⟨mb, 37, none⟩), .pointer (some ⟨mb, 41, none⟩), .pointer (some ⟨mb, 42, none⟩), .pointer (some ⟨mb, 43, none⟩)]) (ps := [(0, .pointer (some ⟨mb, 22, none⟩)), (1, .pointer (some ⟨mb, 23, none⟩)), (2, .pointer (some ⟨mb, 24, none⟩)), (3, .pointer (some ⟨mb, 35, none⟩)), (4, .pointer (some ⟨mb, 36, none⟩)), (5, .pointer (some ⟨mb, 37, none⟩)), (6, .pointer (some ⟨mb, 41, none⟩)), (7, .pointer (some ⟨mb, 42, none⟩)), (8, .pointer (some ⟨mb, 43, none⟩))]) U U U U aO aO) U aW ?_
 rintro _ _ ⟨b5, rfl, rfl⟩
 refine DX U (eO (F := [(b5, _)]) (A := (lb, J [va6, .bool r] 144) :: (G6 ++ [(mb, J Z181.1 134)])) (G := [(rb, J RL 5)]) (R := (fun v H => v = .tuple #[] ∧ ∃ va' Gl', LineB 5 r va' (bI r .byte gC Z181).2 Gl' ∧ H = (lb, J [va', .bool r] 144) :: (Gl' ++ [(mb, J (bI r .byte gC Z181).1 134)]))) K_ U (fun w hw hw2 => Zf r lb mb va6 G6 Z181 hV6 gC (ai U) (hT181.ok.le (m := 9) I) 134 (hT181.fit C5) _ _ _ w hw (fun _ => ⟨b5, 0, U, aH (b := b5) (bD _ (.head _)) w hw2⟩) (fun p hp => Ff))) U aW ?_
 rintro _ _ ⟨_, ⟨rfl, va7, G7, hV7, rfl⟩, rfl⟩
 obtain ⟨Z211, hZ211⟩ : ∃ Z, Z = bI r .byte gC Z181 := ⟨_, rfl⟩
 have hT211 : gQ r (8410 + nn) Z211 := hZ211 ▸ (hT181.le (m := 9 + (8410 + nn)) I).pass (k := .byte) (os := gC) (n := (8410 + nn)) trivial C5
 rw [← hZ211] at hV7
 refine jC (fun w hw => (hw.sub (.cons _ aJ)).as (by rw [← hZ211]; rfl)) (H' := (lb, J [va7, .bool r] 144) :: ((G7 ++ [(mb, J Z211.1 134)]) ++ [(rb, J RL 5)])) ?_
 refine ZDG ?_
 refine RW (v := (.slice (some ⟨mb, 29, none⟩) 5 5)) (pC 0 5 U U U U U U M M) U U (RX (kM (A := (lb, J [va7, .bool r] 144) :: (G7 ++ [(mb, J Z211.1 134)])) (G := [(rb, J RL 5)]) (R := (fun v H => v = .tuple #[] ∧ ∃ va' Gl', LineB 5 r va' (bI r .byte (cT 29 5) Z211).2 Gl' ∧ H = (lb, J [va', .bool r] 144) :: (Gl' ++ [(mb, J (bI r .byte (cT 29 5) Z211).1 134)]))) (((lb, J [va7, .bool r] 144) :: (G7 ++ [(mb, J Z211.1 134)])).map (·.1)) K_ U (fun _ hb => jS hb) (dJ (Kf r lb mb 29 5 M va7 G7 Z211 hV7 (hT211.ok.le (m := 5) I) 134 (hT211.fit B7) _ _))) U ?_)
 rintro _ _ ⟨_, ⟨rfl, va8, G8, hV8, rfl⟩, rfl⟩
 obtain ⟨Z217, hZ217⟩ : ∃ Z, Z = bI r .byte (cT 29 5) Z211 := ⟨_, rfl⟩
 have hT217 : gQ r (8405 + nn) Z217 := hZ217 ▸ (hT211.le (m := 5 * 1 + (8405 + nn)) I).pass (k := .byte) (os := cT 29 5) (n := (8405 + nn)) trivial B7
 rw [← hZ217] at hV8
 refine cZ (fun w hw => hw.as (by rw [← hZ217]; rfl)) (H' := (lb, J [va8, .bool r] 144) :: ((G8 ++ [(mb, J Z217.1 134)]) ++ [(rb, J RL 5)])) ?_
 refine ZBn ?_
 refine RX (kM (A := (lb, J [va8, .bool r] 144) :: (G8 ++ [(mb, J Z217.1 134)])) (G := [(rb, J RL 5)]) (R := (fun v H => v = .tuple #[] ∧ ∃ va' Gl', LineB 5 r va' (uD r Z217).2 Gl' ∧ H = (lb, J [va', .bool r] 144) :: (Gl' ++ [(mb, J (uD r Z217).1 134)]))) (((lb, J [va8, .bool r] 144) :: (G8 ++ [(mb, J Z217.1 134)])).map (·.1)) K_ U (fun _ hb => jS hb) (dJ (aG5 r lb mb va8 G8 Z217 hV8 (hT217.le (m := 86) I) _))) U ?_
 rintro _ _ ⟨_, ⟨rfl, va9, G9, hV9, rfl⟩, rfl⟩
 obtain ⟨Z220, hZ220⟩ : ∃ Z, Z = uD r Z217 := ⟨_, rfl⟩
 have hT220 : gQ r (8319 + nn) Z220 := hZ220 ▸ (hT217.le (m := 86 + (8319 + nn)) I).board
 rw [← hZ220] at hV9
 refine cZ (fun w hw => hw.as (by rw [← hZ220]; rfl)) (H' := (lb, J [va9, .bool r] 144) :: ((G9 ++ [(mb, J Z220.1 134)]) ++ [(rb, J RL 5)])) ?_
 refine ZDG ?_
 refine RW (v := (.slice (some ⟨mb, 135, none⟩) 8192 8192)) (pC 0 8192 U U U U U U M M) U U (RX (kM (A := (lb, J [va9, .bool r] 144) :: (G9 ++ [(mb, J Z220.1 134)])) (G := [(rb, J RL 5)]) (R := (fun v H => v = .tuple #[] ∧ ∃ va' Gl', LineB 5 r va' (bI r .byte (cT 135 8192) Z220).2 Gl' ∧ H = (lb, J [va', .bool r] 144) :: (Gl' ++ [(mb, J (bI r .byte (cT 135 8192) Z220).1 134)]))) (((lb, J [va9, .bool r] 144) :: (G9 ++ [(mb, J Z220.1 134)])).map (·.1)) K_ U (fun _ hb => jS hb) (dJ (Kf r lb mb 135 8192 M va9 G9 Z220 hV9 (hT220.ok.le (m := 8192) I) 134 (hT220.fit Ol) _ _))) U ?_)
 rintro _ _ ⟨_, ⟨rfl, va10, G10, hV10, rfl⟩, rfl⟩
 obtain ⟨Z226, hZ226⟩ : ∃ Z, Z = bI r .byte (cT 135 8192) Z220 := ⟨_, rfl⟩
 have hT226 : gQ r (127 + nn) Z226 := hZ226 ▸ (hT220.le (m := 8192 * 1 + (127 + nn)) I).pass (k := .byte) (os := cT 135 8192) (n := (127 + nn)) trivial Ol
 rw [← hZ226] at hV10
 refine cZ (fun w hw => hw.as (by rw [← hZ226]; rfl)) (H' := (lb, J [va10, .bool r] 144) :: ((G10 ++ [(mb, J Z226.1 134)]) ++ [(rb, J RL 5)])) ?_
 refine ZDG ?_
 refine RW (v := (.slice (some ⟨mb, 8327, none⟩) 127 127)) (pC 0 127 U U U U U U M M) U U (RX (kM (A := (lb, J [va10, .bool r] 144) :: (G10 ++ [(mb, J Z226.1 134)])) (G := [(rb, J RL 5)]) (R := (fun v H => v = .tuple #[] ∧ ∃ va' Gl', LineB 5 r va' (bI r .byte (cT 8327 127) Z226).2 Gl' ∧ H = (lb, J [va', .bool r] 144) :: (Gl' ++ [(mb, J (bI r .byte (cT 8327 127) Z226).1 134)]))) (((lb, J [va10, .bool r] 144) :: (G10 ++ [(mb, J Z226.1 134)])).map (·.1)) K_ U (fun _ hb => jS hb) (dJ (Kf r lb mb 8327 127 M va10 G10 Z226 hV10 (hT226.ok.le (m := 127) I) 134 (hT226.fit Uo) _ _))) U ?_)
 rintro _ _ ⟨_, ⟨rfl, va11, G11, hV11, rfl⟩, rfl⟩
 obtain ⟨Z232, hZ232⟩ : ∃ Z, Z = bI r .byte (cT 8327 127) Z226 := ⟨_, rfl⟩
 have hT232 : gQ r nn Z232 := hZ232 ▸ (hT226.le (m := 127 * 1 + nn) I).pass (k := .byte) (os := cT 8327 127) (n := nn) trivial Uo
 rw [← hZ232] at hV11
 refine cZ (fun w hw => hw.as (by rw [← hZ232]; rfl)) (H' := (lb, J [va11, .bool r] 144) :: ((G11 ++ [(mb, J Z232.1 134)]) ++ [(rb, J RL 5)])) ?_
 refine ZBE ?_
 have hr9 : Z232.1[134]? = some (.slice (Q_ rb) nn rc) := by
  rw [hZ232, hZ226, hZ220, hZ217, hZ211, hZ181, hZ175, hZ145, hZ139, hZ133, hZ91, hZ79]; exact (aOH r S M hT.ty hT.ok.byts).trans hrv
 refine ZBn ?_
 refine W (aX U U (bN (v := .slice (Q_ rb) nn rc) (.tail _ (iK _ (bD _ (.head _)))) hr9)) U (cZ (fun w hw => hw.perm (List.Perm.cons _ (V6 G11 _ _))) (H' := ((lb, J [va11, .bool r] 144) :: (G11 ++ [(rb, J RL 5)])) ++ [(mb, J Z232.1 134)]) ?_)
 refine RX (kM (A := (lb, J [va11, .bool r] 144) :: (G11 ++ [(rb, J RL 5)])) (G := [(mb, J Z232.1 134)]) (R := fun v H => v = .tuple #[] ∧ ∃ va' Gl', LineB 5 r va' (bI r .byte (cT 0 nn) (RL, Z232.2)).2 Gl' ∧ H = (lb, J [va', .bool r] 144) :: (Gl' ++ [(rb, J (bI r .byte (cT 0 nn) (RL, Z232.2)).1 5)])) (((lb, J [va11, .bool r] 144) :: (G11 ++ [(rb, J RL 5)])).map (·.1)) K_ U (fun _ hb => jS hb) (dJ (Kf r lb rb 0 nn I va11 G11 (RL, Z232.2) hV11 ⟨hT232.ok.byts, hT232.ok.en, hT232.ok.sz⟩ 5 hR _ _))) U ?_
 rintro _ _ ⟨_, ⟨rfl, va12, G12, hV12, rfl⟩, rfl⟩
 refine cZ (fun w hw => hw.perm (List.Perm.cons _ (V6 G12 _ _))) (H' := (lb, J [va12, .bool r] 144) :: ((G12 ++ [(mb, J Z232.1 134)]) ++ [(rb, J (bI r .byte (cT 0 nn) (RL, Z232.2)).1 5)])) ?_
 refine ZBE ?_
 exact EN aJ ⟨U, va12, G12, by unfold vE Cl; rw [← hZ79, ← hZ91, ← hZ133, ← hZ139, ← hZ145, ← hZ175, ← hZ181, ← hZ211, ← hZ217, ← hZ220, ← hZ226, ← hZ232]; exact hV12, by unfold vE Cl; rw [← hZ79, ← hZ91, ← hZ133, ← hZ139, ← hZ145, ← hZ175, ← hZ181, ← hZ211, ← hZ217, ← hZ220, ← hZ226, ← hZ232]⟩
def xX (b off c : Nat) (l : AB) (hc : l.length ≤ 1000000) (w : AI) (hB : Ns w .u8 (some ⟨b, off, none⟩) l) : aG prog 187 [.slice (some ⟨b, off, none⟩) l.length c] w [] (fun v H => ∃ b5 c5 sp, v = .slice (Q_ b5) l.length c5 ∧ l.length ≤ c5 ∧ H = [(b5, (J (l.map Z ++ sp) 5))]) := by
 refine aT func187 ?_
 refine rB ?_
 refine ZBy ?_
 rcases d9 l.length with hz | hz
 ·refine ZBE ?_
  refine RX (Kd U) U ?_
  rintro _ _ ⟨b5, rfl, rfl⟩
  refine ZBE ?_
  refine W (D3 U U hz U U (bi _)) U (ZA7 ?_)
  exact EV U aJ ⟨b5, 0, [], by rw [hz], aR, by rw [dg hz]; rfl⟩
 refine ZBE ?_
 refine RX (Kd U) U ?_
 rintro _ _ ⟨b5, rfl, rfl⟩
 refine ZBE ?_
 obtain ⟨b0, o9, e9, hrow⟩ := hB.row (i := 0) hz
 cases e9
 refine RX (mO (A := []) (G := [(b5, J [] 5)]) (R := []) (v := .slice (Q_ b5) 0 0) (n := 0) (xs := []) (m := l.length) (T := 5) (s := 1) (by_ := 1) (ys := l.map Z) U U U U (.row b5 0 0 [] [] U U M (bi _)) (fun w hw => .row _ _ _ _ _ aL (cG hrow aL w hw)) (kE _ _) I I) U ?_
 rintro v0 _ ⟨G0, hV0, _, rfl⟩
 obtain ⟨b1, c0, sp0, rfl, rfl, hc0, hle7, hm7⟩ := hV0.full I
 simp only [cg, bq, aw]
 refine ZA7 ?_
 exact EV U aJ ⟨b1, c0, sp0, U, aR, U⟩
def aQ4 (a a2 : AC) (c c2 : Nat) (la lb : AB) (ha : la.length ≤ 1000000) (hb : lb.length ≤ 1000000) (w : AI) (hA : Ns w .u8 a la) (hB : Ns w .u8 a2 lb) : aG prog 189 [.slice a la.length c, .slice a2 lb.length c2] w [] (V_ (.bool (decide (la = lb)))) := by
 refine aT func189 ?_
 refine bA ?_
 refine gZ ?_
 refine ZBE ?_
 refine gZ ?_
 refine ZAm ?_
 refine KC (fun q0 z0 => ?_) (fun q0 z0 => ?_)
 ·refine ZBn ?_
  exact E0 U ⟨U, (aD Value.bool (cz (by rintro rfl; omega)).symm)⟩
 refine ZBn ?_
 refine oS ?_
 refine dV (σ := Nat) [4, 5, 13, 14, 15, 16, 17, 18, 19, 20, 21, 22, 23, 24, 25] (fun i => [(13, .int .i64 i)]) (fun _ => []) (fun i => i ≤ la.length ∧ ∀ j, j < i → la.getD j 0 = lb.getD j 0) (fun i => la.length - i) 0 ?_ ?_ ?_ ?_
 ·exact ⟨av _, fun j hj => aR⟩
 ·exact .cons U .nil
 ·exact fun _ h => h
 rintro i y4 ⟨hi, hj⟩
 refine ZBn ?_
 refine KC (fun q1 z1 => ?_) (fun q1 z1 => ?_)
 ·refine ZBy ?_
  have hl9 : la.length = lb.length := by omega
  obtain ⟨ba, oa, rfl, hra⟩ := hA.row (i := i) I
  obtain ⟨bb, ob, rfl, hrb⟩ := hB.row (i := i) I
  refine ZBn ?_
  refine DR [4, 5, 6, 7] (bW [0, 2, 4, 6, 8, 10, 12, 14, 16]) ?_
  refine ZAm ?_
  refine DY U (eB i U U U U I) U (DL U U U (gD (hra _ _ (gJ I)) aL) U (ZAm ?_))
  refine DY U (eB i U U U U I) U (DL U U U (gD (hrb _ _ (gJ I)) aL) U (ZAm ?_))
  refine KC (fun q2 z2 => ?_) (fun q2 z2 => ?_)
  ·refine ZBn ?_
   exact E0 U ⟨U, (aD Value.bool (cz (by rintro rfl; simp at q2)).symm)⟩
  refine ZAm ?_
  refine jF ?_
  exact ⟨i + 1, ⟨aR, fun j hj' => Xl⟩, aR, .cons U .nil, bJ, fun _ h => h⟩
 refine aI ?_
 exact E0 U ⟨U, (aD Value.bool (ap (jx I (fun j h8 h9 => by have := hj j I; simpa [fV, am h8, am h9] using this))).symm)⟩
def J1 (A : Ad) (acc : AH) (m : Mm) (h : m.Wf) (hr : m.cpu.r.Ok) (hrl : m.ram.length ≤ 200000) (ms : AE) (w : AI) (hst : St w ms [(A.mb, J (cMm A acc m) 134), (A.rb, J (m.ram.map Z ++ A.rs) 5)] w) (hu : aK w A.ub 0 (cU m.u)) (hub : A.ub ∉ ms) : aG prog 22 [P_ A.mb] w ms (fun v H => ∃ b c sp, v = .slice (Q_ b) (fM m).length c ∧ (fM m).length ≤ c ∧ H = (b, J ((fM m).map Z ++ sp) 5) :: [(A.mb, J (cMm A acc m) 134), (A.rb, J (m.ram.map Z ++ A.rs) 5)]) := by
 refine cE func22 hst ?_
 refine rB ?_
 refine ZBn ?_
 refine RS ?_
 refine RX (eM (l := [.slice none 0 0, .bool false]) U U) U (ZBN fun b0 => ?_)
 refine ZBy ?_
 have hml := Wo h
 have hbl : (oM m ++ m.ram).length = 8482 + m.ram.length := by rw [bQ, hml]
 refine ZAm ?_
 refine RX (cX (F := []) (A := (b0, J [.slice none 0 0, .bool false] 144) :: ((([] : aF) ++ [(A.mb, J (cMm A acc m) 134)]) ++ [(A.rb, J (m.ram.map Z ++ A.rs) 5)])) (R := fun v H => v = .tuple #[] ∧ ∃ va' Gl', bM 5 1 va' (oM m ++ m.ram).length ((oM m ++ m.ram).map Z) Gl' ∧ H = (b0, J [va', .bool false] 144) :: ((Gl' ++ [(A.mb, J (cMm A acc m) 134)]) ++ [(A.rb, J (m.ram.map Z ++ A.rs) 5)])) K_ U (fun w hw => (aDx false b0 A.mb A.rb m.ram.length A.rc hrl (.slice none 0 0) [] (cMm A acc m, []) .nil ⟨O8 h hr, ⟨fun x hx => (by cases hx), fun hx => (by cases hx), (by show 0 + _ ≤ _; omega)⟩⟩ (m.ram.map Z ++ A.rs) (aAk h A.rs) (get_mid h.ln (j := 15) U) _ w (St.lentV (G := []) hw)).mono fun v H ⟨e1, va', Gl', e2, e3⟩ => ⟨e1, va', Gl', (by rw [N7, aE5 h, aGK h] at e2; exact e2), (by rw [N7, aE5 h] at e3; exact e3)⟩)) U ?_
 rintro _ _ ⟨_, ⟨rfl, va0, G0, hV0, rfl⟩, rfl⟩
 obtain ⟨a8, c0, rfl⟩ := hV0.slice
 refine cZ (H' := (b0, J [(.slice a8 (oM m ++ m.ram).length c0), .bool false] 144) :: ((G0 ++ [(A.mb, J (cMm A acc m) 134)]) ++ [(A.rb, J (m.ram.map Z ++ A.rs) 5)])) (fun _ h => h) ?_
 refine ZAm ?_
 refine DR [4, 5, 6, 7, 8] (bW [0, 2, 4, 6, 8, 10, 12, 14, 17, 19, 20]) ?_
 refine ZA7 ?_
 refine DL U U U (eN (v := (.slice a8 (oM m ++ m.ram).length c0)) aE U) U (ZA7 ?_)
 refine DL U U U (eN (v := P_ A.ub) (.tail _ (iK _ (bD _ (.head _)))) (get_mid (m := m) h.ln (j := 14) U)) U (DX U (cQ K_ U (fun w hw => aEF A.ub m.u h.u.wf w (cG hu hub w hw))) U (by intro _ _ _ hK; obtain ⟨G19, _, rfl⟩ := hK; exact fun x hx => bD _ hx) ?_)
 rintro v0 _ ⟨G1, hV1, rfl⟩
 have hul := Um h.u.wf
 obtain ⟨b1, cx1, sp0, rfl, rfl, hc0, hle19, hm19⟩ := hV1.full I
 refine jC (fun w hw => hw.as (by simp only [eC, ct, bq])) (H' := [(b1, J ((fQ m.u).map Z ++ sp0) 5), (b0, J [(.slice a8 (oM m ++ m.ram).length c0), .bool false] 144)] ++ (G0 ++ [(A.mb, J (cMm A acc m) 134), (A.rb, J (m.ram.map Z ++ A.rs) 5)])) ?_
 refine DX U (mO (A := [(b1, _), (b0, _)]) (G := G0) (R := [(A.mb, J (cMm A acc m) 134), (A.rb, J (m.ram.map Z ++ A.rs) 5)]) (v := (.slice a8 (oM m ++ m.ram).length c0)) (n := (oM m ++ m.ram).length) (xs := (oM m ++ m.ram).map Z) (m := (fQ m.u).length) (T := 5) (s := 1) (by_ := 1) (ys := (fQ m.u).map Z) U U U U hV0 (fun w hw => .row _ _ _ _ _ aL (aK.left (aH (b := b1) (.head _) w hw))) (kE _ _) I I) U aW ?_
 rintro v1 _ ⟨G2, hV2, _, rfl⟩
 obtain ⟨b2, c2, sp1, rfl, rfl, hc1, hle20, hm20⟩ := hV2.full I
 refine ZA7 ?_
 exact EV U (.cons_cons _ (.cons _ (.cons _ aJ))) ⟨b2, c2, sp1, aD (fun z => Value.slice (Q_ b2) z c2) (by unfold fM; simp only [bQ, eC, eh]), (by unfold fM; simp only [bQ] at hle20 ⊢; omega), (by unfold fM; simp only [bz, eC]; rfl)⟩
def aJU (A : Ad) (acc : AH) (m : Mm) (h : m.Wf) (hrl : m.ram.length ≤ 200000) (hon : fL [acc, A.plan, A.tab] = true) (w : AI) (hm : aK w A.mb 0 (cMm A acc m)) (hu : aK w A.ub 0 (cU m.u)) (hr : aK w A.rb 0 (m.ram.map Z)) : aG prog 186 [P_ A.mb] w [] (fun v H => ∃ b3 b12 bc cc sp, v = P_ b3 ∧ m.ram.length ≤ cc ∧ H = [(b12, J (cU (lD jV (fQ m.u))) 172), (bc, J (m.ram.map Z ++ sp) 5), (b3, J (cMm ({ A with mb := b3, ub := b12, rb := bc, rc := cc, rs := sp } : Ad) (.slice none 0 0) m) 134)]) := by
 refine aT func186 ?_
 refine bA ?_
 refine W (bX U U (by rw [cMm_len h.ln]; rfl) (cG hm aL)) U (RX (gG (l := Ej) aO) U ?_)
 rintro _ _ ⟨b3, rfl, rfl⟩
 refine W (bF (l' := cMm A acc m) 0 U U U (by rw [cMm_len h.ln]; rfl) (aE2 hon) U (by rw [cMm_len h.ln, aCh]; exact ai rfl) (Cb (by rw [cMm_len h.ln, aCh]))) U (eP ?_)
 refine aI ?_
 refine Zj ?_
 refine RX (cQ K_ U (fun w hw => xX A.rb 0 A.rc m.ram I w (Ns.of (cG hr aL w hw)))) U ?_
 rintro _ _ ⟨_, ⟨bc, cc, sp, rfl, hcc, rfl⟩, rfl⟩
 refine eP ?_
 refine RX (cQ K_ U (aS new_fn)) U ?_
 rintro _ _ ⟨_, ⟨b12, rfl, rfl⟩, rfl⟩
 refine eP ?_
 refine ZBE ?_
 refine W (bF (l' := cMm { A with rb := bc, rc := cc, rs := sp } acc m) 2 U U U U U U mE (aLn h.ln bc cc sp)) U (eP ?_)
 refine ZBE ?_
 refine W (bF (l' := cMm { A with rb := bc, rc := cc, rs := sp, ub := b12 } acc m) 2 U U U U U U mE (aEG h.ln b12)) U (eP ?_)
 refine ZBE ?_
 refine W (bF (l' := cMm { A with rb := bc, rc := cc, rs := sp, ub := b12 } (.slice none 0 0) m) 2 U U U U U U mE (H6 h.ln _)) U (kB ?_)
 refine DR [2, 3, 4, 5, 6] (bW [0, 2, 4, 6, 8, 10, 13, 15]) ?_
 refine ZBE ?_
 refine DL U U U (eN (v := P_ b12) aE (get_mid (A := { A with rb := bc, rc := cc, rs := sp, ub := b12 }) (m := m) h.ln (j := 14) U)) U (ZA7 ?_)
 refine DL U U U (gD (hm _ _ (get_mid h.ln (j := 14) U)) aL) U (DX U (cQ K_ U (fun w hw => aEF A.ub m.u h.u.wf w (cG hu aL w hw))) U (by intro _ _ _ hK; obtain ⟨G22, _, rfl⟩ := hK; exact fun x hx => bD _ hx) ?_)
 rintro v0 _ ⟨G0, hV0, rfl⟩
 have hul := Um h.u.wf
 obtain ⟨b0, c0, sp0, rfl, rfl, hc0, hle22, hm22⟩ := hV0.full I
 refine eP ?_
 refine DX U (eO (F := [(b0, _)]) (A := [(b12, J (cU jV) 172)]) (G := [(bc, J (m.ram.map Z ++ sp) 5), (b3, J (cMm ({ A with rb := bc, rc := cc, rs := sp, ub := b12 } : Ad) (.slice none 0 0) m) 134)]) (R := fun v H => v = .int .i64 (lK (fQ m.u)) ∧ H = [(b12, J (cU (lD jV (fQ m.u))) 172)]) K_ U (fun w hw hw2 => Wt b12 jV Rv w hw (Q_ b0) c0 (fQ m.u) (enc_byts h.u.wf) hle22 (Ns.of (aK.left (aH (b := b0) (bD _ (.head _)) w hw2))) (fun p hp => by cases hp; exact fun e => St.apartT hw2 (show _ ∈ [_] from List.mem_singleton.2 e)))) U aW (ZBQ ?_)
 refine eP ?_
 refine aI ?_
 exact EV U (.cons _ aJ) ⟨b3, b12, bc, cc, sp, U, hcc, U⟩
end Go.Proofs.YthigpmaadmneaaaGreatDoor
