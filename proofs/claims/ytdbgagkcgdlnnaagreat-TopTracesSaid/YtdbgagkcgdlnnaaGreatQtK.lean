/- Parts. -/
import Derived.Test.YtdbgagkcgdlnnaaGreatQtJ
set_option maxRecDepth 100000
set_option maxHeartbeats 1000000
set_option linter.all false
namespace Go.Proofs.YtdbgagkcgdlnnaaGreat
open Go Go.VV Go.Proofs Go.RowKit Go.Proofs.Tryz
def gN.blocks {b : Nat} {u3 : AH} {H : aB} (h : gN b u3 H) : H.map (·.1) = [b] := by
 rcases h with ⟨_, _, _, _, rfl⟩ | rfl <;> rfl
def gN.lent {b : Nat} {u3 : AH} {H R : aB} (h : gN b u3 H) {w0 w : AI} {ms : AE} (hw : St w0 ms (H ++ R) w) : St w [b] H w := by
 have := hw.lentV
 rwa [h.blocks] at this
def gN.mem {b : Nat} {u3 : AH} {H : aB} (h : gN b u3 H) : ∀ x ∈ [b], ∃ o, (x, o) ∈ H := fun x hx => by
 rw [← h.blocks] at hx; exact eA hx
def pR.tab (b : Nat) (u3 : AH) : gN b u3 (pR b u3) := .inr rfl
def aSy (b : Nat) (u3 : AH) (H0 : aB) (hT : gN b u3 H0) (w : AI) (hst : St w [b] H0 w) :
  aC prog 32 [P_ b, (.func (.func 33) #[P_ b] #[])] w [b] (fun v H => v = .tuple #[] ∧ H = pR b u3) := by
 refine dO_ func32 hst ?_
 refine A_1 ?_
 rcases hT with ⟨P, B, hP, hB, rfl⟩ | rfl
 ·refine A_4 ?_
  refine RLv K_ (fun w hw => aGO b 0 w (aT (.head _) rfl w hw)) ?_
  refine A_6 ?_
  refine RZ (dB K_ rfl (fun w hw => aN6 b u3 P B hP hB w (hw.holds _ (.head _)))) rfl (A_1 ?_)
  exact EN sR_ ⟨rfl, rfl⟩
 refine A_4 ?_
 refine RLv K_ (fun w hw => aGO b 1 w (aT (.head _) rfl w hw)) ?_
 refine A_4 ?_
 exact EN sR_ ⟨rfl, rfl⟩
def aAt (w : AI) :
  aC prog 10 [] w [] (fun v H => ∃ b, v = P_ b ∧ gN b (.int .u32 0) H) := by
 refine dR_ func10 ?_
 refine A_6 ?_
 refine RY (eB (pl := [(0, 3), (3, 1280), (1283, 1280)]) (z := gU (.int .u32 0) (.int .i32 0) (.int .u32 0) (List.replicate 256 o0) (List.replicate 256 o0)) (l := gU (.int .u32 0) (.int .i32 0) (.int .u32 0) (List.replicate 256 o0) (List.replicate 256 o0)) (ps := []) y_i y_i rfl y_i) rfl (RX (dC rfl (l := gU (.int .u32 0) (.int .i32 0) (.int .u32 0) (List.replicate 256 o0) (List.replicate 256 o0)) rfl) rfl ?_)
 rintro _ _ ⟨b2, rfl, rfl⟩
 refine A_3 ?_
 exact EV rfl sR_ ⟨_, rfl, .inl ⟨_, _, y_eu, y_eu, rfl⟩⟩
def aDt (b : Nat) (u3 : AH) (H0 : aB) (hT : gN b u3 H0) (a x c : Int) (ha : 0 ≤ a ∧ a < 256) (hx : 0 ≤ x ∧ x < 256) (hc : 0 ≤ c ∧ c < 256) (w : AI) (hst : St w [b] H0 w) :
  aC prog 14 [P_ b, .int .u8 a, .int .u8 x, .int .u8 c] w [b] (fun v H => v = .agg (cO (dcd a x c)).toArray ∧ gN b u3 H) := by
 obtain ⟨m, o, rfl, hm, ho⟩ := qB ha.1 ha.2
 obtain ⟨k, rfl⟩ : ∃ k : Nat, x = k := ⟨x.toNat, y_B⟩
 refine dO_ func14 hst ?_
 refine A_2 ?_
 refine RX (bY rfl) rfl ?_
 rintro _ _ ⟨b8, rfl, rfl⟩
 refine A_15 ?_
 refine RW (v := (.func (.func 33) #[P_ b] #[])) rfl rfl y_bA (cE (H' := H0 ++ [(b8, _)]) (fun _ h => St.fl [[_], H0] [1, 0] rfl (h.as rfl)) ?_)
 refine RX (dY (A := H0) (G := [(b8, _)]) [b] K_ rfl hT.mem (fun w hw => aSy b u3 H0 hT w (hT.lent hw))) rfl ?_
 rintro _ _ ⟨_, ⟨rfl, rfl⟩, rfl⟩
 refine A_7 ?_
 refine KC (fun h1 h1n => ?_) (fun h1 h1n => ?_)
 ·refine A_6 ?_
  refine RY (bT (s := 5) k rfl rfl rfl rfl o_m) rfl (RZ (aL rfl rfl rfl (fun w hw => aJi aFP (aA (.head _) w hw) (aLi o_m))) rfl (RZ s_t rfl (A_2 ?_)))
  exact eQ (H' := pR b u3) (fun w hw => aU rfl rfl rfl (aA m_m w hw)) (fun _ h => h.sub (cq _ _)) ⟨aHd (by rw [pS y_a]; rfl), pR.tab b u3⟩
 refine A_7 ?_
 refine RY (bT (s := 5) m rfl rfl rfl rfl hm) rfl (RZ (aL rfl rfl rfl (fun w hw => aKN (aA (.head _) w hw) ho)) rfl (RX (bY rfl) rfl ?_))
 rintro _ _ ⟨b9, rfl, rfl⟩
 refine RZ s_t rfl (A_13 ?_)
 refine KC (fun h2 h2n => ?_) (fun h2 h2n => ?_)
 ·refine A_2 ?_
  refine RW (v := (.int .u16 k)) rfl rfl (cA_ _ (eV o_m o_m)) (A_1 ?_)
  refine RZ s_t rfl (A_3 ?_)
  refine RZ (aL rfl rfl rfl y_h) rfl (RZ s_t rfl (A_2 ?_))
  exact eQ (H' := pR b u3) (fun w hw => aU rfl rfl rfl (aA m_m w hw)) (fun _ h => St.fl [[_], [_], [_]] [1] rfl h) ⟨aHd (by rw [jQ rfl y_a ho, aEB y_a]; rfl), pR.tab b u3⟩
 refine A_5 ?_
 refine KC (fun h3 h3n => ?_) (fun h3 h3n => ?_)
 ·refine A_2 ?_
  refine RW (v := (.int .u16 k)) rfl rfl (cA_ _ (eV o_m o_m)) (A_1 ?_)
  refine RW (v := (.int .u16 c)) rfl rfl (cA_ _ (eV o_m o_m)) (RY (dJ rfl rfl y_b) rfl (RW (v := (.int .u16 (k + 256 * c))) rfl rfl (cA_ _ (aFk hx hc)) (A_1 ?_)))
  refine RZ s_t rfl (A_3 ?_)
  refine RZ (aL rfl rfl rfl y_h) rfl (RZ s_t rfl (A_2 ?_))
  exact eQ (H' := pR b u3) (fun w hw => aU rfl rfl rfl (aA m_m w hw)) (fun _ h => St.fl [[_], [_], [_]] [1] rfl h) ⟨aHd (by rw [jQ rfl y_a ho, aEo y_a]; rfl), pR.tab b u3⟩
 refine A_3 ?_
 refine RZ (aL rfl rfl rfl y_h) rfl (RZ s_t rfl (A_2 ?_))
 exact eQ (H' := pR b u3) (fun w hw => aU rfl rfl rfl (aA m_m w hw)) (fun _ h => St.fl [[_], [_], [_]] [1] rfl h) ⟨aHd (by rw [jQ rfl y_a ho, aBp y_a y_a]; rfl), pR.tab b u3⟩
def aIH {β : Type} (K : jV prog β) (rb : Nat) {bn : Nat} (x : Rn β) (h : RunOk K.toaSY (bn + 4) x) (G : aB) (hG : K.rep x.m G) (o : Opr) (ho : nD o) (p : Int) (hp : 0 ≤ p ∧ p < 65536) (w : AI) (hst : St w (rb :: G.map (·.1)) ((rb, blk (cN K x.s) 179) :: G) w) : aC prog 59 [P_ rb, .agg (cO o).toArray, .int .u16 p] w (rb :: G.map (·.1)) (fun v H => v = .bool (ordT K.toaSX o p x).1 ∧ pC K rb (ordT K.toaSX o p x).2 H) := by
 refine dO_ func59 hst ?_
 refine ZDL ?_
 refine ZBz fun b0 => ?_
 refine A_14 ?_
 refine KC (fun q0 z0 => ?_) (fun q0 z0 => ?_)
 ·refine ZBx ?_
  refine RZ (xS_ (l' := cN K { x.s with stop := true }) 1) rfl (ZCd ?_)
  have e9 : ordT K.toaSX o p x = (true, ⟨{ x.s with stop := true }, x.m⟩) := by unfold ordT; rw [if_pos o_m]
  exact EV rfl (.cons _ sR_) ⟨y_es, G, y_es, y_dT⟩
 refine ZBx ?_
 refine KC (fun q1 z1 => ?_) (fun q1 z1 => ?_)
 ·refine ZBx ?_
  refine RZ (xS_ (l' := cN K { x.s with halt := true }) 1) rfl (ZCd ?_)
  have e9 : ordT K.toaSX o p x = (true, ⟨{ x.s with halt := true }, x.m⟩) := by unfold ordT; rw [if_neg o_m]; rw [if_pos o_m]
  exact EV rfl (.cons _ sR_) ⟨y_es, G, y_es, y_dT⟩
 refine ZBx ?_
 refine KC (fun q2 z2 => ?_) (fun q2 z2 => ?_)
 ·refine ZDR ?_
  refine RZ (xS_ (l' := cN K { x.s with r := { x.s.r with pc := p } }) 1) rfl (ZCd ?_)
  have e9 : ordT K.toaSX o p x = (true, ⟨{ x.s with r := { x.s.r with pc := p } }, x.m⟩) := by unfold ordT; (iterate 2 rw [if_neg o_m]); rw [if_pos o_m]; rfl
  exact EV rfl (.cons _ sR_) ⟨y_es, G, y_es, y_dT⟩
 refine ZBx ?_
 refine KC (fun q3 z3 => ?_) (fun q3 z3 => ?_)
 ·refine ZBx ?_
  refine RZ (xS_ (l' := cN K { x.s with ime := false }) 1) rfl (ZCd ?_)
  have e9 : ordT K.toaSX o p x = (true, ⟨{ x.s with ime := false }, x.m⟩) := by unfold ordT; (iterate 3 rw [if_neg o_m]); rw [if_pos o_m]
  exact EV rfl (.cons _ sR_) ⟨y_es, G, y_es, y_dT⟩
 refine ZBx ?_
 refine KC (fun q4 z4 => ?_) (fun q4 z4 => ?_)
 ·refine ZBx ?_
  refine RZ (xS_ (l' := cN K { x.s with soon := true }) 1) rfl (ZCd ?_)
  have e9 : ordT K.toaSX o p x = (true, ⟨{ x.s with soon := true }, x.m⟩) := by unfold ordT; (iterate 4 rw [if_neg o_m]); rw [if_pos o_m]
  exact EV rfl (.cons _ sR_) ⟨y_es, G, y_es, y_dT⟩
 refine ZBR ?_
 rcases (show isB o.kind = true ∨ (isB o.kind = false ∧ isW o.kind = true) ∨ (isB o.kind = false ∧ isW o.kind = false ∧ isP o.kind = true) ∨ (isB o.kind = false ∧ isW o.kind = false ∧ isP o.kind = false) by cases isB o.kind <;> cases isW o.kind <;> cases isP o.kind <;> simp) with hB | ⟨hB, hW⟩ | ⟨hB, hW, hP⟩ | ⟨hB, hW, hP⟩
 ·refine ZAn ?_
  refine ZBA ?_
  refine ZAg fun G0 hG0 => ?_
  rw [hB]
  refine A_18 ?_
  have e9 : ordT K.toaSX o p x = (true, eF K.toaSX o x) := by unfold ordT; (iterate 5 rw [if_neg o_m]); rw [if_pos hB]
  exact EV rfl (.cons _ sR_) ⟨y_es, G0, y_s, y_2⟩
 ·refine ZAn ?_
  refine ZBA ?_
  refine ZAg fun G0 hG0 => ?_
  rw [hB]
  rw [vT K.toaSX hB] at hG0 ⊢
  refine ZAn ?_
  refine ZB7 ?_
  refine ZBZ fun G1 hG1 => ?_
  rw [hW]
  refine A_14 ?_
  have e9 : ordT K.toaSX o p x = (true, gJ K.toaSX o x) := by unfold ordT; (iterate 5 rw [if_neg o_m]); rw [if_neg (by rw [hB]; decide), if_pos hW]
  exact EV rfl (.cons _ sR_) ⟨y_es, G1, y_s, y_5⟩
 ·refine ZAn ?_
  refine ZBA ?_
  refine ZAg fun G0 hG0 => ?_
  rw [hB]
  rw [vT K.toaSX hB] at hG0 ⊢
  refine ZAn ?_
  refine ZB7 ?_
  refine ZBZ fun G1 hG1 => ?_
  rw [hW]
  rw [aAi K.toaSX hW] at hG1 ⊢
  refine ZBB ?_
  refine ZD0 ?_
  rintro _ _ ⟨_, ⟨rfl, G2, rfl, hG2⟩, rfl⟩
  rw [if_pos (show isP o.kind = true by rw [hP])] at hG2 ⊢
  rw [hP]
  refine A_9 ?_
  have e9 : ordT K.toaSX o p x = (true, jC K.toaSX o x) := by unfold ordT; (iterate 5 rw [if_neg o_m]); rw [if_neg (by rw [hB]; decide), if_neg (by rw [hW]; decide), if_pos hP]
  exact EV rfl (.cons _ sR_) ⟨y_es, G2, y_s, by rw [e9]; exact hG2⟩
 refine ZAn ?_
 refine ZBA ?_
 refine ZAg fun G0 hG0 => ?_
 rw [hB]
 rw [vT K.toaSX hB] at hG0 ⊢
 refine ZAn ?_
 refine ZB7 ?_
 refine ZBZ fun G1 hG1 => ?_
 rw [hW]
 rw [aAi K.toaSX hW] at hG1 ⊢
 refine ZBB ?_
 refine ZD0 ?_
 rintro _ _ ⟨_, ⟨rfl, G2, rfl, hG2⟩, rfl⟩
 rw [if_neg (show ¬ isP o.kind = true by rw [hP]; decide)] at hG2 ⊢
 rw [hP]
 refine ZBB ?_
 refine ZAP ?_
 refine RX (aS (F := [(b0, _)]) (A := (rb, _) :: _) K_ rfl (wL_ (aMk K rb x (h.le o_m : RunOk K.toaSY (bn + 4) x) G2 hG2 o ho))) rfl ?_
 rintro _ _ ⟨_, ⟨rfl, G3, rfl, hG3⟩, rfl⟩
 refine ZB6 ?_
 have e9 : ordT K.toaSX o p x = (metJ o x, effJ K.toaSX o x) := by unfold ordT; (iterate 5 rw [if_neg o_m]); rw [if_neg (by rw [hB]; decide), if_neg (by rw [hW]; decide), if_neg (by rw [hP]; decide)]
 exact EV rfl (.cons _ sR_) ⟨y_es, G3, y_s, by rw [e9]; exact hG3⟩
def aPg (p : Int) (hp : 0 < p ∧ p < 32) (w : AI) : aC prog 92 [.int .u8 p] w [] (V_ (.int .i64 (jJ p))) := by
 refine dR_ func92 ?_
 refine ZBx ?_
 rcases (show p = 1 ∨ p = 2 ∨ p = 3 ∨ p = 4 ∨ p = 5 ∨ p = 6 ∨ p = 7 ∨ p = 8 ∨ p = 9 ∨ p = 10 ∨ p = 11 ∨ p = 12 ∨ p = 13 ∨ p = 14 ∨ p = 15 ∨ p = 16 ∨ p = 17 ∨ p = 18 ∨ p = 19 ∨ p = 20 ∨ p = 21 ∨ p = 22 ∨ p = 23 ∨ p = 24 ∨ p = 25 ∨ p = 26 ∨ p = 27 ∨ p = 28 ∨ p = 29 ∨ p = 30 ∨ p = 31 by omega) with rfl | rfl | rfl | rfl | rfl | rfl | rfl | rfl | rfl | rfl | rfl | rfl | rfl | rfl | rfl | rfl | rfl | rfl | rfl | rfl | rfl | rfl | rfl | rfl | rfl | rfl | rfl | rfl | rfl | rfl | rfl
 ·refine ZBB ?_
  refine ZAU ?_
  exact ZAZ
 ·refine ZBB ?_
  refine ZAU ?_
  exact ZAZ
 ·refine ZBB ?_
  refine ZAU ?_
  exact ZAZ
 ·refine ZBB ?_
  refine ZAU ?_
  exact ZAZ
 ·refine ZBB ?_
  refine ZAU ?_
  exact ZAZ
 ·refine ZBB ?_
  refine ZAU ?_
  exact ZAZ
 ·refine ZBB ?_
  refine ZAU ?_
  exact ZAZ
 ·refine ZBB ?_
  refine ZAU ?_
  exact ZAZ
 ·refine ZBB ?_
  refine ZAU ?_
  exact ZAZ
 ·refine ZBB ?_
  refine ZAU ?_
  exact ZAZ
 ·refine ZBB ?_
  refine ZAU ?_
  exact ZAZ
 ·refine ZBB ?_
  refine ZAU ?_
  exact ZAZ
 ·refine ZBB ?_
  refine ZAU ?_
  exact ZAZ
 ·refine ZBB ?_
  refine ZAU ?_
  exact ZAZ
 ·refine ZBB ?_
  refine ZAU ?_
  exact ZAZ
 ·refine ZBB ?_
  refine ZAU ?_
  exact ZAZ
 ·refine ZBB ?_
  refine ZAU ?_
  exact ZAZ
 ·refine ZBB ?_
  refine ZAU ?_
  exact ZAZ
 ·refine ZBB ?_
  refine ZAU ?_
  exact ZAZ
 ·refine ZBB ?_
  refine ZAU ?_
  exact ZAZ
 ·refine ZBB ?_
  refine ZAU ?_
  exact ZAZ
 ·refine ZBB ?_
  refine ZAU ?_
  exact ZAZ
 ·refine ZBB ?_
  refine ZAU ?_
  exact ZAZ
 ·refine ZBB ?_
  refine ZAU ?_
  exact ZAZ
 ·refine ZBB ?_
  refine ZAU ?_
  exact ZAZ
 ·refine ZBB ?_
  refine ZAU ?_
  exact ZAZ
 ·refine ZBB ?_
  refine ZAU ?_
  exact ZAZ
 ·refine ZBB ?_
  refine ZAU ?_
  exact ZAZ
 ·refine ZBB ?_
  refine ZAU ?_
  exact ZAZ
 ·refine ZBB ?_
  refine ZAU ?_
  exact ZAZ
 refine ZBB ?_
 refine ZAU ?_
 exact ZAZ
def aDH {β : Type} (K : jV prog β) (rb : Nat) {bn : Nat} (x : Rn β) (h : RunOk K.toaSY (bn + 5) x) (G : aB) (hG : K.rep x.m G) (p : Int) (hp : 0 < p ∧ p < 32) (w : AI) (hst : St w (rb :: G.map (·.1)) ((rb, blk (cN K x.s) 179) :: G) w) : aC prog 57 [P_ rb, .int .u8 p] w (rb :: G.map (·.1)) (fun v H => v = .int .i64 (jJ p) ∧ pC K rb (qG K.toaSX p x) H) := by
 have hl9 := aGY p
 refine dO_ func57 hst ?_
 refine ZDR ?_
 refine RLv K_ (wQ_ (aPg p hp)) ?_
 refine ZBx ?_
 refine RX (dB K_ rfl (wV_ (ridle_fn K rb 2 y_b x (h.le o_m : RunOk K.toaSY (bn + 3 + 2) x) G hG))) rfl ?_
 rintro _ _ ⟨rfl, G0, rfl, hG0⟩
 refine A_10 ?_
 refine RX (dB K_ rfl (wV_ (rpush_fn K rb (idles K.toaSX 2 x) (h.idleK 2) G0 hG0 x.s.r.pc h.r.pc))) rfl ?_
 rintro _ _ ⟨rfl, G1, rfl, hG1⟩
 refine A_8 ?_
 refine RX (fT (F := [(rb, _)]) (A := G1) rfl K.mA K.cA rfl (fun w hw => K.dA ((h.idleK 2).push h.r.pc).m hG1 (St.lentV hw) hl9)) rfl ?_
 rintro _ _ ⟨G2, ⟨rfl, hG2⟩, rfl⟩
 refine ZCl ?_
 refine RX (dB K_ rfl (wV_ (ridle_fn K rb 1 y_b ((push K.toaSX x.s.r.pc (idles K.toaSX 2 x)).mem (K.ack (jJ p) (push K.toaSX x.s.r.pc (idles K.toaSX 2 x)).m)) (((h.idleK 2).push h.r.pc).mem (K.oA ((h.idleK 2).push h.r.pc).m hl9)) G2 hG2))) rfl ?_
 rintro _ _ ⟨rfl, G3, rfl, hG3⟩
 refine A_8 ?_
 refine RZ (xS_ (l' := cN K { (idles K.toaSX 1 ((push K.toaSX x.s.r.pc (idles K.toaSX 2 x)).mem (K.ack (jJ p) (push K.toaSX x.s.r.pc (idles K.toaSX 2 x)).m))).s with ime := false }) 0) rfl (ZEj ?_)
 refine RZ (xS_ (l' := cN K { (idles K.toaSX 1 ((push K.toaSX x.s.r.pc (idles K.toaSX 2 x)).mem (K.ack (jJ p) (push K.toaSX x.s.r.pc (idles K.toaSX 2 x)).m))).s with ime := false, soon := false }) 0) rfl (c_u ?_)
 refine ZBx ?_
 refine ZBu ?_
 refine ZAb ?_
 refine ZD3 ?_
 refine ZB6 ?_
 refine RZ (xS_ (l' := cN K { (idles K.toaSX 1 ((push K.toaSX x.s.r.pc (idles K.toaSX 2 x)).mem (K.ack (jJ p) (push K.toaSX x.s.r.pc (idles K.toaSX 2 x)).m))).s with ime := false, soon := false, r := { (idles K.toaSX 1 ((push K.toaSX x.s.r.pc (idles K.toaSX 2 x)).mem (K.ack (jJ p) (push K.toaSX x.s.r.pc (idles K.toaSX 2 x)).m))).s.r with pc := 64 + 8 * jJ p } }) 0) rfl (c_u ?_)
 refine ZDR ?_
 exact EV rfl sR_ ⟨rfl, G3, rfl, hG3⟩
def aLn {β : Type} (K : jV prog β) (rb : Nat) {bn : Nat} (x : Rn β) (h : RunOk K.toaSY (bn + 3) x) (G : aB) (hG : K.rep x.m G) (tb : Nat) (u3 : AH) (oT : Obj) (hT : gN tb u3 [(tb, oT)]) (w : AI) (hst : St w (tb :: rb :: G.map (·.1)) ((tb, oT) :: (rb, blk (cN K x.s) 179) :: G) w) : aC prog 58 [P_ rb, P_ tb] w (tb :: rb :: G.map (·.1)) (fun v H => v = .agg (cO (nextT K.toaSX x).1).toArray ∧ ∃ oT', gN tb u3 [(tb, oT')] ∧ ∃ G', H = (tb, oT') :: (rb, blk (cN K (nextT K.toaSX x).2.s) 179) :: G' ∧ K.rep (nextT K.toaSX x).2.m G') := by
 refine dO_ func58 hst ?_
 refine ZAn ?_
 refine ZAt fun b0 => ?_
 refine ZBB ?_
 refine ZAR fun b1 => ?_
 refine ZBB ?_
 refine RS ?_
 refine ZDk ?_
 rintro _ _ ⟨b2, rfl, rfl⟩
 refine ZEH ?_
 refine ZDR ?_
 refine bG (σ := Nat × Obj × aB) [7, 9, 10, 11, 12, 13, 14, 15, 16, 17, 18, 19, 20, 21, 22, 23, 24, 25, 26, 27, 28, 29, 30, 31, 32, 33, 34, 35, 36, 37, 38, 39, 40, 41, 42, 43, 44, 45, 46, 47, 48] (fun s => [(7, .int .i64 s.1)]) (fun s => (b2, blk (cO (nxN K.toaSX x s.1).o) 44) :: (b1, blk ((nxN K.toaSX x s.1).b.map (.int .u8)) 50) :: (b0, blk (cO oN) 44) :: (tb, s.2.1) :: (rb, blk (cN K (nxN K.toaSX x s.1).x.s) 179) :: s.2.2) (fun s => s.1 ≤ 3 ∧ (∀ j : Nat, j < s.1 → (j : Int) < (nxN K.toaSX x j).o.size) ∧ gN tb u3 [(tb, s.2.1)] ∧ K.rep (nxN K.toaSX x s.1).x.m s.2.2) (fun s => 3 - s.1) (0, oT, G) ?_ ?_ ?_ ?_
 ·exact ⟨aj _, fun j hj => absurd hj (Nat.not_lt_zero _), hT, hG⟩
 ·exact .cons rfl .nil
 ·exact fun _ h => h
 rintro ⟨i, oi, Gi⟩ y4 ⟨hi, hpi, hTi, hGi⟩
 dsimp only at hi hpi hTi hGi ⊢
 have hx9 := h.nx i hi
 refine A_8 ?_
 refine KC (fun q0 z0 => ?_) (fun q0 z0 => ?_)
 ·refine ZB6 ?_
  have hs9 : i < 3 := by have := hx9.sz; omega
  have hy9 := hx9.le (k := 0 + 1) o_m
  have hl9 := hx9.len
  have hb9 := kP hx9.by_ i hy9.x.fetch1.2
  refine DR [5, 6, 7, 8, 9, 10, 11, 12] (pln [0, 2, 4, 6, 8, 10, 12, 14, 16, 18, 20, 22, 24, 27, 28, 31]) ?_
  refine A_13 ?_
  refine DX rfl (fT (F := [(b2, _), (b1, _), (b0, _), (tb, _), (rb, _)]) (A := Gi) rfl K.mF K.cF rfl (fun w hw => K.dF hy9.x.m hGi (St.lentV hw) hx9.x.r.pc)) rfl n_h ?_
  rintro _ _ ⟨G0, ⟨rfl, hG0⟩, rfl⟩
  refine c_u ?_
  refine DY rfl (aM i rfl rfl rfl rfl o_m) rfl (DZ rfl (aD (l' := ((nxN K.toaSX x i).b.set i (K.fetch (nxN K.toaSX x i).x.s.r.pc (nxN K.toaSX x i).x.m).1).map (.int .u8)) 1 rfl rfl rfl rfl rfl rfl (by simp [hl9]; omega) (by rw [az]; exact jE _ o_m _)) rfl n_h (c_u ?_))
  refine A_9 ?_
  refine RW (v := (.int .u16 (bJ (nxN K.toaSX x i).x.s.r.pc))) (jI rfl rfl) rfl (cA_ _ (eT _)) (ZB6 ?_)
  refine RZ (xS_ (l' := cN K { (nxN K.toaSX x i).x.s with r := { (nxN K.toaSX x i).x.s.r with pc := bJ (nxN K.toaSX x i).x.s.r.pc } }) 4) rfl (ZEj ?_)
  refine RY y_dC rfl (RZ (aH rfl rfl (aT m_m (dL (j := 0) (by simp [hl9])))) rfl (RY y_dK rfl (RZ (aH rfl rfl (aT m_m (dL (j := 1) (by simp [hl9])))) rfl ?_)))
  refine RY y_dJ rfl (RZ (aH rfl rfl (aT m_m (dL (j := 2) (by simp [hl9])))) rfl (RX (aGI (F := [(b2, _), (b1, _), (b0, _)]) (A := [(tb, _)]) (G := (rb, _) :: _) [tb] K_ rfl (fun _ hb => eA (G := [(tb, _)]) hb) (fun w hw => aDt tb u3 _ hTi _ _ _ (hb9.get 0) (hb9.get 1) (hb9.get 2) w (hTi.lent hw))) rfl ?_))
  rintro _ _ ⟨HT, ⟨rfl, hT0⟩, rfl⟩
  obtain ⟨oT0, rfl⟩ := hT0.one
  refine c_u ?_
  refine RZ (xS_ (l' := cO (nxN K.toaSX x (i + 1)).o) 0) rfl (ZEj ?_)
  refine ZAD ?_
  exact ⟨(i + 1, oT0, G0), ⟨y_B, fun j hj => by rcases Nat.lt_succ_iff_lt_or_eq.1 hj with q0 | rfl; exact hpi j q0; assumption, hT0, hG0⟩, y_cA, .cons rfl .nil, a_g, fun _ h => h⟩
 refine ZBB ?_
 refine ZEL ?_
 have e9 := aRM K.toaSX hi hpi (by assumption)
 exact iN (fun w hw => aU rfl rfl rfl (aA (b := b0) (l := cO (nxN K.toaSX x i).o) m_m w hw)) (.cons _ (.cons _ (.cons _ sR_))) ⟨y_es, oi, hTi, Gi, y_es, by rw [e9]; exact hGi⟩
set_option maxHeartbeats 4000000 in
def aQc {β : Type} (K : jV prog β) {bn : Nat} (s : CS) (m : β) (h : RunOk K.toaSY (bn + 7) (⟨s, m⟩ : Rn _)) (G : aB) (hG : K.rep m G) (tb : Nat) (u3 : AH) (oT : Obj) (hT : gN tb u3 [(tb, oT)]) (w : AI) (hst : St w (tb :: G.map (·.1)) ((tb, oT) :: G) w) : aC prog 31 [P_ tb, .agg (cS s).toArray, .iface K.t0 K.v] w (tb :: G.map (·.1)) (fun v H => v = .tuple #[.agg (cS (bW K.toaSX (⟨s, m⟩ : Rn _)).2.s).toArray, .agg (cDd (bW K.toaSX (⟨s, m⟩ : Rn _)).1).toArray] ∧ ∃ oT', gN tb u3 [(tb, oT')] ∧ ∃ G', H = (tb, oT') :: G' ∧ K.rep (bW K.toaSX (⟨s, m⟩ : Rn _)).2.m G') := by
 have hp9 : 0 ≤ K.pend m ∧ K.pend m < 32 := K.oP h.m
 obtain ⟨r, ime, soon, halt, stop⟩ := s
 refine dO_ func31 hst ?_
 refine ZAn ?_
 refine RX (dC (l := cS ⟨r, ime, soon, halt, stop⟩) rfl rfl) rfl (ZDl fun b0 b1 => ?_)
 refine ZDk ?_
 rintro _ _ ⟨b2, rfl, rfl⟩
 refine ZB2 ?_
 refine RS ?_
 refine ZDk ?_
 rintro _ _ ⟨b3, rfl, rfl⟩
 refine RZ (xS_ (l' := cDd ⟨0, 0, r.pc, oN, false⟩) 0) rfl (c_u ?_)
 refine A_15 ?_
 refine RZ (aL rfl rfl rfl (by first | exact aA m_m | exact gH m_m _ 14 rfl)) rfl (ZBR ?_)
 refine RS ?_
 refine RX (dC (l := cN K ⟨r, ime, soon, halt, stop⟩) rfl rfl) rfl ?_
 rintro _ _ ⟨b4, rfl, rfl⟩
 refine cE (aKx [(b3, _), (b2, _), (b1, _), (b0, _), (tb, _)]) ?_
 refine ZCl ?_
 rcases stop with _ | _
 ·refine A_12 ?_
  refine RX (fT (F := [(b3, _), (b2, _), (b1, _), (b0, _), (tb, _), (b4, _)]) (A := G) rfl K.mP K.cP rfl (fun w hw => K.dP h.m hG (St.lentV hw))) rfl ?_
  rintro _ _ ⟨GP, ⟨rfl, hGP⟩, rfl⟩
  rw [hGP]
  refine ZEj ?_
  refine zG [50, 51, 52, 53, 54, 55, 56, 57, 58] [(58, .bool (decide (halt = true ∧ K.pend m = 0)))] ?_ (fun y10 => ?_)
  ·rcases halt with _ | _
   ·exact ZDQ
   exact ZDQ
  refine KC (fun q0 z0 => ?_) (fun q0 z0 => ?_)
  ·refine ZBB ?_
   refine RX (aS (F := [(b3, _), (b2, _), (b1, _), (b0, _), (tb, _)]) (A := (b4, _) :: _) K_ rfl (wL_ (ridle_fn K b4 1 y_b (⟨(⟨r, ime, soon, halt, false⟩ : CS), m⟩ : Rn _) (h.le o_m : RunOk K.toaSY (0 + 1) _) G hG))) rfl (ZAg fun G0 hG0 => ?_)
   refine ZAn ?_
   refine gM [(b3, blk (cDd ⟨0, 0, r.pc, oN, false⟩) 46), (b4, blk (cN K (⟨r, ime, soon, halt, false⟩ : CS)) 179)] [4, 5] (.step true 0 (.step true 1 (.step true 2 (.step true 3 (.step true 4 (.step false 5 (.step false 6 .done))))))) rfl y_i y_i (fun x hx => y_n) ?_
   refine ZBB ?_
   refine bU rfl rfl rfl rfl (fun w hw => Row.left (dO (l := cN K (⟨r, ime, soon, halt, false⟩ : CS)) m_m w hw)) rfl rfl ?_
   refine ZDZ ?_
   refine DZ rfl (xS_ (l' := cS (⟨r, ime, soon, halt, false⟩ : CS)) 2) rfl y_dE (c_u ?_)
   refine DZ rfl (xS_ (l' := cDd ⟨0, 0, r.pc, oN, false⟩) 1) rfl y_dE (ZDE ?_)
   have e9 : bW K.toaSX (⟨(⟨r, ime, soon, halt, false⟩ : CS), m⟩ : Rn _) = (⟨0, 0, r.pc, oN, false⟩, (⟨(⟨r, ime, soon, halt, false⟩ : CS), K.idle m⟩ : Rn _)) := by unfold bW; exact (if_neg (c := false = true) y_b).trans (if_pos (c := halt = true ∧ K.pend m = 0) z0)
   exact iN (fun w hw => vE rfl rfl rfl (aA (b := b1) (l := cS (⟨r, ime, soon, halt, false⟩ : CS)) m_m w hw) rfl rfl rfl (aA (b := b2) (l := cDd ⟨0, 0, r.pc, oN, false⟩) m_m w hw)) (.cons _ (.cons _ (.cons _ (.cons _ (.cons_cons _ (.cons _ sR_)))))) ⟨y_es, oT, hT, G0, rfl, y_2⟩
  refine ZDR ?_
  refine RZ (xS_ (l' := cN K (⟨r, ime, soon, false, false⟩ : CS)) 5) rfl (ZDE ?_)
  refine zG [70, 71, 72, 73, 74, 75, 76, 77, 78] [(78, .bool (decide (ime = true ∧ K.pend m ≠ 0)))] ?_ (fun y14 => ?_)
  ·rcases ime with _ | _
   ·exact ZDQ
   exact ZDQ
  refine KC (fun q1 z1 => ?_) (fun q1 z1 => ?_)
  ·refine ZB6 ?_
   refine RX (aS (F := [(b3, _), (b2, _), (b1, _), (b0, _), (tb, _)]) (A := (b4, _) :: _) K_ rfl (wL_ (aDH K b4 (⟨(⟨r, ime, soon, false, false⟩ : CS), m⟩ : Rn _) (⟨h.r, K.oL h.m o_m⟩ : RunOk K.toaSY (0 + 5) (⟨(⟨r, ime, soon, false, false⟩ : CS), m⟩ : Rn _)) G hG (K.pend m) o_m))) rfl (ZAg fun G0 hG0 => ?_)
   refine ZBR ?_
   refine RZ (xS_ (l' := cDd ⟨2, 0, r.pc, oN, false⟩) 0) rfl (ZEi ?_)
   refine RZ (xS_ (l' := cDd ⟨2, jJ (K.pend m), r.pc, oN, false⟩) 0) rfl (ZDE ?_)
   refine gM [(b3, blk (cDd ⟨2, jJ (K.pend m), r.pc, oN, false⟩) 46), (b4, blk (cN K (qG K.toaSX (K.pend m) (⟨(⟨r, ime, soon, false, false⟩ : CS), m⟩ : Rn _)).s) 179)] [4, 5] (.step true 0 (.step true 1 (.step true 2 (.step true 3 (.step true 4 (.step false 5 (.step false 6 .done))))))) rfl y_i y_i (fun x hx => y_n) ?_
   refine ZBB ?_
   refine bU rfl rfl rfl rfl (fun w hw => Row.left (dO (l := cN K (qG K.toaSX (K.pend m) (⟨(⟨r, ime, soon, false, false⟩ : CS), m⟩ : Rn _)).s) m_m w hw)) rfl rfl ?_
   refine ZDZ ?_
   refine DZ rfl (xS_ (l' := cS (qG K.toaSX (K.pend m) (⟨(⟨r, ime, soon, false, false⟩ : CS), m⟩ : Rn _)).s) 2) rfl y_dE (c_u ?_)
   refine DZ rfl (xS_ (l' := cDd ⟨2, jJ (K.pend m), r.pc, oN, false⟩) 1) rfl y_dE (ZDE ?_)
   have e9 : bW K.toaSX (⟨(⟨r, ime, soon, halt, false⟩ : CS), m⟩ : Rn _) = (⟨2, jJ (K.pend m), r.pc, oN, false⟩, (qG K.toaSX (K.pend m) (⟨(⟨r, ime, soon, false, false⟩ : CS), m⟩ : Rn _))) := by unfold bW; exact (if_neg (c := false = true) y_b).trans ((if_neg (c := halt = true ∧ K.pend m = 0) z0).trans (if_pos (c := ime = true ∧ K.pend m ≠ 0) z1))
   exact iN (fun w hw => vE rfl rfl rfl (aA (b := b1) (l := cS (qG K.toaSX (K.pend m) (⟨(⟨r, ime, soon, false, false⟩ : CS), m⟩ : Rn _)).s) m_m w hw) rfl rfl rfl (aA (b := b2) (l := cDd ⟨2, jJ (K.pend m), r.pc, oN, false⟩) m_m w hw)) (.cons _ (.cons _ (.cons _ (.cons _ (.cons_cons _ (.cons _ sR_)))))) ⟨y_es, oT, hT, G0, rfl, y_2⟩
  refine A_16 ?_
  refine RZ (xS_ (l' := cN K (⟨r, ime, false, false, false⟩ : CS)) 5) rfl (c_u ?_)
  refine ZBx ?_
  refine RX (aS (F := [(b3, _), (b2, _), (b1, _), (b0, _)]) (A := (tb, _) :: (b4, _) :: _) K_ rfl (wL_ (aLn K b4 (⟨(⟨r, ime, false, false, false⟩ : CS), m⟩ : Rn _) (⟨h.r, K.oL h.m o_m⟩ : RunOk K.toaSY (4 + 3) (⟨(⟨r, ime, false, false, false⟩ : CS), m⟩ : Rn _)) G hG tb u3 oT hT))) rfl ?_
  rintro _ _ ⟨_, ⟨rfl, oT0, hT0, G0, rfl, hG0⟩, rfl⟩
  refine ZEi ?_
  refine RZ (xS_ (l' := cDd ⟨1, 0, r.pc, oN, false⟩) 0) rfl (ZEi ?_)
  refine RZ (xS_ (l' := cDd ⟨1, 0, r.pc, (nextT K.toaSX (⟨(⟨r, ime, false, false, false⟩ : CS), m⟩ : Rn _)).1, false⟩) 0) rfl (ZDE ?_)
  have n9 := aJz (⟨h.r, K.oL h.m o_m⟩ : RunOk K.toaSY (4 + 3) (⟨(⟨r, ime, false, false, false⟩ : CS), m⟩ : Rn _))
  refine ZBB ?_
  refine ZAP ?_
  refine ZAn ?_
  refine RX (aS (F := [(b3, _), (b2, _), (b1, _), (b0, _), (tb, _)]) (A := (b4, _) :: _) K_ rfl (wL_ (aIH K b4 (nextT K.toaSX (⟨(⟨r, ime, false, false, false⟩ : CS), m⟩ : Rn _)).2 (n9.1 : RunOk K.toaSY (0 + 4) _) G0 hG0 (nextT K.toaSX (⟨(⟨r, ime, false, false, false⟩ : CS), m⟩ : Rn _)).1 n9.2 r.pc h.r.pc))) rfl (ZBZ fun G1 hG1 => ?_)
  refine ZBR ?_
  refine RZ (xS_ (l' := cDd ⟨1, 0, r.pc, (nextT K.toaSX (⟨(⟨r, ime, false, false, false⟩ : CS), m⟩ : Rn _)).1, (ordT K.toaSX (nextT K.toaSX (⟨(⟨r, ime, false, false, false⟩ : CS), m⟩ : Rn _)).1 r.pc (nextT K.toaSX (⟨(⟨r, ime, false, false, false⟩ : CS), m⟩ : Rn _)).2).1⟩) 0) rfl (ZDE ?_)
  refine zG [110, 111, 112, 113, 114, 115, 116] [(116, .bool (decide (soon = true ∧ (nextT K.toaSX (⟨(⟨r, ime, false, false, false⟩ : CS), m⟩ : Rn _)).1.kind ≠ 5)))] ?_ (fun y21 => ?_)
  ·rcases soon with _ | _
   ·refine A_9 ?_
    exact ⟨.cons (cA_ Value.bool y_b4) .nil, a_g, fun _ h => h⟩
   refine A_9 ?_
   exact ⟨.cons (cA_ Value.bool y_b4) .nil, a_g, fun _ h => h⟩
  refine KC (fun q2 z2 => ?_) (fun q2 z2 => ?_)
  ·refine ZBx ?_
   refine RZ (xS_ (l' := cN K { (ordT K.toaSX (nextT K.toaSX (⟨(⟨r, ime, false, false, false⟩ : CS), m⟩ : Rn _)).1 r.pc (nextT K.toaSX (⟨(⟨r, ime, false, false, false⟩ : CS), m⟩ : Rn _)).2).2.s with ime := true }) 5) rfl (ZDE ?_)
   refine gM [(b3, blk (cDd ⟨1, 0, r.pc, (nextT K.toaSX (⟨(⟨r, ime, false, false, false⟩ : CS), m⟩ : Rn _)).1, (ordT K.toaSX (nextT K.toaSX (⟨(⟨r, ime, false, false, false⟩ : CS), m⟩ : Rn _)).1 r.pc (nextT K.toaSX (⟨(⟨r, ime, false, false, false⟩ : CS), m⟩ : Rn _)).2).1⟩) 46), (b4, blk (cN K { (ordT K.toaSX (nextT K.toaSX (⟨(⟨r, ime, false, false, false⟩ : CS), m⟩ : Rn _)).1 r.pc (nextT K.toaSX (⟨(⟨r, ime, false, false, false⟩ : CS), m⟩ : Rn _)).2).2.s with ime := true }) 179)] [4, 5] (.step true 0 (.step true 1 (.step true 2 (.step true 3 (.step true 4 (.step false 5 (.step false 6 .done))))))) rfl y_i y_i (fun x hx => y_n) ?_
   refine ZBB ?_
   refine bU rfl rfl rfl rfl (fun w hw => Row.left (dO (l := cN K { (ordT K.toaSX (nextT K.toaSX (⟨(⟨r, ime, false, false, false⟩ : CS), m⟩ : Rn _)).1 r.pc (nextT K.toaSX (⟨(⟨r, ime, false, false, false⟩ : CS), m⟩ : Rn _)).2).2.s with ime := true }) m_m w hw)) rfl rfl ?_
   refine ZDZ ?_
   refine DZ rfl (xS_ (l' := cS { (ordT K.toaSX (nextT K.toaSX (⟨(⟨r, ime, false, false, false⟩ : CS), m⟩ : Rn _)).1 r.pc (nextT K.toaSX (⟨(⟨r, ime, false, false, false⟩ : CS), m⟩ : Rn _)).2).2.s with ime := true }) 2) rfl y_dE (ZBg ?_)
   refine ZDE ?_
   have e9 : bW K.toaSX (⟨(⟨r, ime, soon, halt, false⟩ : CS), m⟩ : Rn _) = (⟨1, 0, r.pc, (nextT K.toaSX (⟨(⟨r, ime, false, false, false⟩ : CS), m⟩ : Rn _)).1, (ordT K.toaSX (nextT K.toaSX (⟨(⟨r, ime, false, false, false⟩ : CS), m⟩ : Rn _)).1 r.pc (nextT K.toaSX (⟨(⟨r, ime, false, false, false⟩ : CS), m⟩ : Rn _)).2).1⟩, (⟨{ (ordT K.toaSX (nextT K.toaSX (⟨(⟨r, ime, false, false, false⟩ : CS), m⟩ : Rn _)).1 r.pc (nextT K.toaSX (⟨(⟨r, ime, false, false, false⟩ : CS), m⟩ : Rn _)).2).2.s with ime := true }, (ordT K.toaSX (nextT K.toaSX (⟨(⟨r, ime, false, false, false⟩ : CS), m⟩ : Rn _)).1 r.pc (nextT K.toaSX (⟨(⟨r, ime, false, false, false⟩ : CS), m⟩ : Rn _)).2).2.m⟩ : Rn _)) := by unfold bW; exact (if_neg (c := false = true) y_b).trans ((if_neg (c := halt = true ∧ K.pend m = 0) z0).trans ((if_neg (c := ime = true ∧ K.pend m ≠ 0) z1).trans (cA_ (Prod.mk _) (if_pos (c := soon = true ∧ (nextT K.toaSX (⟨(⟨r, ime, false, false, false⟩ : CS), m⟩ : Rn _)).1.kind ≠ 5) z2))))
   exact iN (fun w hw => vE rfl rfl rfl (aA (b := b1) (l := cS { (ordT K.toaSX (nextT K.toaSX (⟨(⟨r, ime, false, false, false⟩ : CS), m⟩ : Rn _)).1 r.pc (nextT K.toaSX (⟨(⟨r, ime, false, false, false⟩ : CS), m⟩ : Rn _)).2).2.s with ime := true }) m_m w hw) rfl rfl rfl (aA (b := b2) (l := cDd ⟨1, 0, r.pc, (nextT K.toaSX (⟨(⟨r, ime, false, false, false⟩ : CS), m⟩ : Rn _)).1, (ordT K.toaSX (nextT K.toaSX (⟨(⟨r, ime, false, false, false⟩ : CS), m⟩ : Rn _)).1 r.pc (nextT K.toaSX (⟨(⟨r, ime, false, false, false⟩ : CS), m⟩ : Rn _)).2).1⟩) m_m w hw)) (.cons _ (.cons _ (.cons _ (.cons _ (.cons_cons _ (.cons _ sR_)))))) ⟨y_es, oT0, hT0, G1, rfl, y_5⟩
  refine ZAn ?_
  refine gM [(b3, blk (cDd ⟨1, 0, r.pc, (nextT K.toaSX (⟨(⟨r, ime, false, false, false⟩ : CS), m⟩ : Rn _)).1, (ordT K.toaSX (nextT K.toaSX (⟨(⟨r, ime, false, false, false⟩ : CS), m⟩ : Rn _)).1 r.pc (nextT K.toaSX (⟨(⟨r, ime, false, false, false⟩ : CS), m⟩ : Rn _)).2).1⟩) 46), (b4, blk (cN K (ordT K.toaSX (nextT K.toaSX (⟨(⟨r, ime, false, false, false⟩ : CS), m⟩ : Rn _)).1 r.pc (nextT K.toaSX (⟨(⟨r, ime, false, false, false⟩ : CS), m⟩ : Rn _)).2).2.s) 179)] [4, 5] (.step true 0 (.step true 1 (.step true 2 (.step true 3 (.step true 4 (.step false 5 (.step false 6 .done))))))) rfl y_i y_i (fun x hx => y_n) ?_
  refine ZBB ?_
  refine bU rfl rfl rfl rfl (fun w hw => Row.left (dO (l := cN K (ordT K.toaSX (nextT K.toaSX (⟨(⟨r, ime, false, false, false⟩ : CS), m⟩ : Rn _)).1 r.pc (nextT K.toaSX (⟨(⟨r, ime, false, false, false⟩ : CS), m⟩ : Rn _)).2).2.s) m_m w hw)) rfl rfl ?_
  refine ZDZ ?_
  refine DZ rfl (xS_ (l' := cS (ordT K.toaSX (nextT K.toaSX (⟨(⟨r, ime, false, false, false⟩ : CS), m⟩ : Rn _)).1 r.pc (nextT K.toaSX (⟨(⟨r, ime, false, false, false⟩ : CS), m⟩ : Rn _)).2).2.s) 2) rfl y_dE (ZBg ?_)
  refine ZDE ?_
  have e9 : bW K.toaSX (⟨(⟨r, ime, soon, halt, false⟩ : CS), m⟩ : Rn _) = (⟨1, 0, r.pc, (nextT K.toaSX (⟨(⟨r, ime, false, false, false⟩ : CS), m⟩ : Rn _)).1, (ordT K.toaSX (nextT K.toaSX (⟨(⟨r, ime, false, false, false⟩ : CS), m⟩ : Rn _)).1 r.pc (nextT K.toaSX (⟨(⟨r, ime, false, false, false⟩ : CS), m⟩ : Rn _)).2).1⟩, ((ordT K.toaSX (nextT K.toaSX (⟨(⟨r, ime, false, false, false⟩ : CS), m⟩ : Rn _)).1 r.pc (nextT K.toaSX (⟨(⟨r, ime, false, false, false⟩ : CS), m⟩ : Rn _)).2).2 : Rn _)) := by unfold bW; exact (if_neg (c := false = true) y_b).trans ((if_neg (c := halt = true ∧ K.pend m = 0) z0).trans ((if_neg (c := ime = true ∧ K.pend m ≠ 0) z1).trans (cA_ (Prod.mk _) (if_neg (c := soon = true ∧ (nextT K.toaSX (⟨(⟨r, ime, false, false, false⟩ : CS), m⟩ : Rn _)).1.kind ≠ 5) z2))))
  exact iN (fun w hw => vE rfl rfl rfl (aA (b := b1) (l := cS (ordT K.toaSX (nextT K.toaSX (⟨(⟨r, ime, false, false, false⟩ : CS), m⟩ : Rn _)).1 r.pc (nextT K.toaSX (⟨(⟨r, ime, false, false, false⟩ : CS), m⟩ : Rn _)).2).2.s) m_m w hw) rfl rfl rfl (aA (b := b2) (l := cDd ⟨1, 0, r.pc, (nextT K.toaSX (⟨(⟨r, ime, false, false, false⟩ : CS), m⟩ : Rn _)).1, (ordT K.toaSX (nextT K.toaSX (⟨(⟨r, ime, false, false, false⟩ : CS), m⟩ : Rn _)).1 r.pc (nextT K.toaSX (⟨(⟨r, ime, false, false, false⟩ : CS), m⟩ : Rn _)).2).1⟩) m_m w hw)) (.cons _ (.cons _ (.cons _ (.cons _ (.cons_cons _ (.cons _ sR_)))))) ⟨y_es, oT0, hT0, G1, rfl, y_5⟩
 refine A_11 ?_
 refine RX (aS (F := [(b3, _), (b2, _), (b1, _), (b0, _), (tb, _)]) (A := (b4, _) :: _) K_ rfl (wL_ (ridle_fn K b4 1 y_b (⟨(⟨r, ime, soon, halt, true⟩ : CS), m⟩ : Rn _) (h.le o_m : RunOk K.toaSY (0 + 1) _) G hG))) rfl (ZAg fun G0 hG0 => ?_)
 refine ZBx ?_
 refine RX (fT (F := [(b3, _), (b2, _), (b1, _), (b0, _), (tb, _), (b4, _)]) (A := G0) rfl K.mP K.cP rfl (fun w hw => K.dP (K.oI h.m) hG0 (St.lentV hw))) rfl ?_
 rintro _ _ ⟨GP, ⟨rfl, hGP⟩, rfl⟩
 rw [hGP]
 refine c_u ?_
 refine RW (v := (.int .u8 (aG .u8 (K.pend (K.idle m)) 16))) (bA rfl rfl) rfl rfl (RW (v := (.bool (K.pend (K.idle m) / 16 % 2 == 0))) rfl rfl (cA_ _ (aLx (K.oP (K.oI h.m)))) (ZBB ?_))
 refine RZ (xS_ (l' := cN K (⟨r, ime, soon, halt, (K.pend (K.idle m) / 16 % 2 == 0)⟩ : CS)) 5) rfl (ZDE ?_)
 refine gM [(b3, blk (cDd ⟨0, 0, r.pc, oN, false⟩) 46), (b4, blk (cN K (⟨r, ime, soon, halt, (K.pend (K.idle m) / 16 % 2 == 0)⟩ : CS)) 179)] [4, 5] (.step true 0 (.step true 1 (.step true 2 (.step true 3 (.step true 4 (.step false 5 (.step false 6 .done))))))) rfl y_i y_i (fun x hx => y_n) ?_
 refine ZBB ?_
 refine bU rfl rfl rfl rfl (fun w hw => Row.left (dO (l := cN K (⟨r, ime, soon, halt, (K.pend (K.idle m) / 16 % 2 == 0)⟩ : CS)) m_m w hw)) rfl rfl ?_
 refine ZDZ ?_
 refine DZ rfl (xS_ (l' := cS (⟨r, ime, soon, halt, (K.pend (K.idle m) / 16 % 2 == 0)⟩ : CS)) 2) rfl y_dE (c_u ?_)
 refine DZ rfl (xS_ (l' := cDd ⟨0, 0, r.pc, oN, false⟩) 1) rfl y_dE (ZDE ?_)
 have e9 : bW K.toaSX (⟨(⟨r, ime, soon, halt, true⟩ : CS), m⟩ : Rn _) = (⟨0, 0, r.pc, oN, false⟩, (⟨(⟨r, ime, soon, halt, (K.pend (K.idle m) / 16 % 2 == 0)⟩ : CS), K.idle m⟩ : Rn _)) := by unfold bW; exact if_pos (c := true = true) rfl
 exact iN (fun w hw => vE rfl rfl rfl (aA (b := b1) (l := cS (⟨r, ime, soon, halt, (K.pend (K.idle m) / 16 % 2 == 0)⟩ : CS)) m_m w hw) rfl rfl rfl (aA (b := b2) (l := cDd ⟨0, 0, r.pc, oN, false⟩) m_m w hw)) (.cons _ (.cons _ (.cons _ (.cons _ (.cons_cons _ (.cons _ sR_)))))) ⟨y_es, oT, hT, G0, rfl, y_2⟩
def aNQ (A : Ad) (hd : A.rb ∉ [A.mb, A.ub] ∧ A.ob ∉ [A.mb, A.ub]) : jV prog Mm where
 toaSX := dN
 t0 := 137
 v := .agg #[P_ A.mb]
 rep := pT A
 ok := fQ
 fF := 225
 mF := fun v w => by rfl
 cF := K_
 fR := 228
 mR := fun v w => by rfl
 cR := K_
 fW := 229
 mW := fun v w => by rfl
 cW := K_
 fI := 226
 mI := fun v w => by rfl
 cI := K_
 fP := 227
 mP := fun v w => by rfl
 cP := K_
 fA := 224
 mA := fun v w => by rfl
 cA := K_
 dF := fun h hr hw ha => aF4 A hd _ h _ hr _ ha _ hw
 dR := fun h hr hw ha => aIw A hd _ h _ hr _ ha _ hw
 dW := fun h hr hw ha hx => aGb A hd _ h _ hr _ _ ha hx _ hw
 dI := fun h hr hw => aHr A hd _ h _ hr _ hw
 dP := fun h hr hw => aDG A hd _ h _ hr _ hw
 dA := fun h hr hw hk => aJR A hd _ h _ hr _ hk _ hw
 oF := fun h ha => ⟨h.get 3 ha, sP h.wf.cycle _⟩
 oR := fun h ha => ⟨h.get 1 ha, sP h.wf.cycle _⟩
 oW := fun h ha hx => h.write ha hx
 oI := fun h => h.cycle.note 0 y_b y_b
 oP := fun _ => aFo _
 oA := fun h hk => h.ack hk
 oL := fun h hk => h.le hk
set_option maxHeartbeats 2000000 in
def aFW (A : Ad) (hd : A.rb ∉ [A.mb, A.ub] ∧ A.ob ∉ [A.mb, A.ub]) (tb : Nat) (u3 : AH) (oT : Obj) (hT : gN tb u3 [(tb, oT)]) (hAt : A.tab = P_ tb) (plan : List Chg) (pa : AC) (pc : Nat) (hAp : A.plan = .slice pa plan.length pc) (hpo : ∀ c ∈ plan, mX c) (hpl : plan.length ≤ 1000000) (m : Mm) (h : m.Wf) (hcr : m.cpu.r.Ok) (va : AH) (ms : AE) (w : AI) (hst : St w ms [(tb, oT), (A.mb, blk (cMm A va m) 130), (A.ub, blk (cU m.u) 204), (A.rb, blk (List.map U_ m.ram ++ A.rs) 5), (A.ob, blk (List.map U_ m.rom ++ A.sp) 5)] w) (hE : Els w aA8 pa plan) (hpn : ∀ p, pa = some p → p.block ∉ ms) : aC prog 13 [P_ A.mb] w ms (fun v H => ∃ va' oT' Ga', v = .tuple #[.agg (cDd (stepM plan m).1).toArray, va'] ∧ Vec 52 3 va' (stepM plan m).2.acc.length (aE cAc (stepM plan m).2.acc) Ga' ∧ gN tb u3 [(tb, oT')] ∧ H = (tb, oT') :: (Ga' ++ [(A.mb, blk (cMm A va' (stepM plan m).2) 130), (A.ub, blk (cU (stepM plan m).2.u) 204), (A.rb, blk (List.map U_ (stepM plan m).2.ram ++ A.rs) 5), (A.ob, blk (List.map U_ (stepM plan m).2.rom ++ A.sp) 5)])) := by
 have hA1 : MLn ({ m with pd := gQ (eC plan m.steps) m.pd } : Mm) := ⟨h.ln.bd, h.ln.work, h.ln.high⟩
 have hs1 : ((jN (eC plan m.steps) m)).Wf := h.press (aCT hpo _)
 have e9 : ((jN (eC plan m.steps) m)).cpu = m.cpu := by unfold jN askM; split <;> rfl
 have eu9 : (bS plan m).u = m.u := tG _ _ _
 have er9 : (bS plan m).ram = m.ram := nI _ _ _
 have eo9 : (bS plan m).rom = m.rom := nR _ _ _
 have hst0 : fQ 7 (bS plan m) := ⟨h.start hpo, by show (0 : Nat) + 7 ≤ 1000000; decide, fun e he => by cases he⟩
 have hq := (aGo (K := (aNQ A hd).toaSY) (n := 0) (x := (⟨m.cpu, bS plan m⟩ : Rn Mm)) ⟨hcr, hst0⟩)
 have hqw : ((bW dN (⟨m.cpu, bS plan m⟩ : Rn Mm)).2.m).Wf := hq.m.wf
 have hc1 : MLn ({ (bW dN (⟨m.cpu, bS plan m⟩ : Rn Mm)).2.m with cpu := (bW dN (⟨m.cpu, bS plan m⟩ : Rn Mm)).2.s } : Mm) := ⟨hqw.ln.bd, hqw.ln.work, hqw.ln.high⟩
 refine dO_ func13 hst ?_
 refine ZAn ?_
 refine ZAt fun b0 => ?_
 refine ZB2 ?_
 refine ZAY ?_
 refine A_8 ?_
 refine DR [6, 7, 8, 9, 10, 11, 12, 13, 14, 15] (pln [0, 2, 4, 6, 8, 10, 12, 14, 16, 18, 20, 22, 24, 26, 28, 31, 33, 34, 36, 38, 40, 42, 44, 47, 48]) ?_
 refine ZBx ?_
 refine bU rfl rfl rfl rfl (fun w hw => aCr (m := m) (acc := va) (dO (b := A.mb) m_m w hw)) rfl rfl ?_
 refine ZBB ?_
 refine DL rfl rfl rfl (cZ (v := .slice pa plan.length pc) m_m (by rw [← hAp]; exact get_mid h.ln (j := 5) rfl)) rfl (ZB6 ?_)
 refine DL rfl rfl rfl (cZ (v := .int .u64 m.steps) m_m (get_mid h.ln (j := 2) rfl)) rfl (DZ rfl (aZ K_ rfl (fun w hw => aJ2 plan pa pc hpl m.steps w (Els.laterM hE hpn hw))) rfl y_c (DZ rfl (aZ K_ rfl (wQ_ (aHt m.pd (eC plan m.steps)))) rfl n_h (ZBh ?_)))
 refine ZBx ?_
 refine DZ rfl (aD (l' := cMm A va { m with pd := gQ (eC plan m.steps) m.pd }) 2 rfl rfl rfl rfl rfl rfl y_y (aGt _)) rfl n_h (ZD5 ?_)
 refine RX (cB (F := [(b0, _), (tb, oT)]) (A := [(A.mb, blk (cMm A va { m with pd := gQ (eC plan m.steps) m.pd }) 130)]) (G := [(A.ub, blk (cU m.u) 204), (A.rb, blk (List.map U_ m.ram ++ A.rs) 5), (A.ob, blk (List.map U_ m.rom ++ A.sp) 5)]) (R := fun v H => v = .tuple #[] ∧ H = [(A.mb, blk (cMm A va (askM 16 (mB m.pd (gQ (eC plan m.steps) m.pd)) { m with pd := gQ (eC plan m.steps) m.pd })) 130)]) K_ rfl (fun w hw _ => ask_fnM A va { m with pd := gQ (eC plan m.steps) m.pd } hA1 16 (mB m.pd (gQ (eC plan m.steps) m.pd)) w hw)) rfl (ZAF ?_)
 refine ZAn ?_
 refine eP (L' := [(b0, _), (tb, oT), (A.mb, blk (cMm A va (jN (eC plan m.steps) m)) 130), (A.ub, blk (cU m.u) 204), (A.rb, blk (List.map U_ m.ram ++ A.rs) 5), (A.ob, blk (List.map U_ m.rom ++ A.sp) 5)]) (fun _ h => h) ?_
 refine ZB6 ?_
 refine RZ (aD (l' := cMm A (.slice none 0 0) (jN (eC plan m.steps) m)) 2 rfl rfl rfl rfl rfl rfl (by rw [cMm_len hs1.ln]; exact ag rfl) (aEl hs1.ln _)) rfl (ZDf ?_)
 refine ZAR fun b1 => ?_
 refine ZAn ?_
 refine DR [5, 6, 7, 8, 9, 10, 11, 12] (pln [0, 2, 4, 6, 8, 10, 12, 14, 16, 18, 20, 22, 24, 27, 28, 30, 32, 34, 36, 38, 41, 43]) ?_
 refine ZB6 ?_
 refine DL rfl rfl rfl (cZ (v := P_ tb) m_m (by rw [← hAt]; exact get_mid (m := (jN (eC plan m.steps) m)) hs1.ln (j := 13) rfl)) rfl (ZB6 ?_)
 refine bU rfl rfl rfl rfl (fun w hw => (show Row w A.mb 0 (cS m.cpu) from by have h9 := aEh (m := (jN (eC plan m.steps) m)) (acc := (.slice none 0 0)) (dO (b := A.mb) m_m w hw); rwa [e9] at h9)) rfl rfl ?_
 refine ZBR ?_
 refine ZDr ?_
 refine ZBR ?_
 refine DX rfl (aS (F := [(b1, _), (b0, _)]) (A := (tb, oT) :: [(A.mb, blk (cMm A (.slice none 0 0) (jN (eC plan m.steps) m)) 130), (A.ub, blk (cU m.u) 204), (A.rb, blk (List.map U_ m.ram ++ A.rs) 5), (A.ob, blk (List.map U_ m.rom ++ A.sp) 5)]) (R := fun v H => v = .tuple #[.agg (cS (bW dN (⟨m.cpu, bS plan m⟩ : Rn Mm)).2.s).toArray, .agg (cDd (bW dN (⟨m.cpu, bS plan m⟩ : Rn Mm)).1).toArray] ∧ ∃ oT', gN tb u3 [(tb, oT')] ∧ ∃ G', H = (tb, oT') :: G' ∧ pT A (bW dN (⟨m.cpu, bS plan m⟩ : Rn Mm)).2.m G') K_ rfl (wL_ (aQc (bn := 0) (aNQ A hd) m.cpu (bS plan m) ⟨hcr, hst0⟩ [(A.mb, blk (cMm A (.slice none 0 0) (jN (eC plan m.steps) m)) 130), (A.ub, blk (cU m.u) 204), (A.rb, blk (List.map U_ m.ram ++ A.rs) 5), (A.ob, blk (List.map U_ m.rom ++ A.sp) 5)] ⟨.slice none 0 0, [], .nil, by show _ = [(A.mb, _), (A.ub, blk (cU (bS plan m).u) _), (A.rb, blk (List.map _ (bS plan m).ram ++ A.rs) _), (A.ob, blk (List.map _ (bS plan m).rom ++ A.sp) _)]; rw [eu9, er9, eo9]; rfl⟩ tb u3 oT hT))) rfl n_h ?_
 rintro _ _ ⟨_, ⟨rfl, oT', hT', G', rfl, va', Ga', hV', rfl⟩, rfl⟩
 obtain ⟨a8, c0, rfl⟩ := hV'.slice
 refine gL (fun w hw => hw.perm (au (l₁ := [(b1, _), (b0, _), (tb, oT')] ++ Ga') (l₂ := [(A.mb, blk (cMm A (.slice a8 (bW dN (⟨m.cpu, bS plan m⟩ : Rn Mm)).2.m.acc.length c0) (bW dN (⟨m.cpu, bS plan m⟩ : Rn Mm)).2.m) 130), (A.ub, blk (cU (bW dN (⟨m.cpu, bS plan m⟩ : Rn Mm)).2.m.u) 204), (A.rb, blk (List.map U_ (bW dN (⟨m.cpu, bS plan m⟩ : Rn Mm)).2.m.ram ++ A.rs) 5), (A.ob, blk (List.map U_ (bW dN (⟨m.cpu, bS plan m⟩ : Rn Mm)).2.m.rom ++ A.sp) 5)]))) ?_
 refine ZB4 ?_
 refine ZBh ?_
 refine ZBx ?_
 refine DZ rfl (aD (l' := cMm A (.slice a8 (bW dN (⟨m.cpu, bS plan m⟩ : Rn Mm)).2.m.acc.length c0) { (bW dN (⟨m.cpu, bS plan m⟩ : Rn Mm)).2.m with cpu := (bW dN (⟨m.cpu, bS plan m⟩ : Rn Mm)).2.s }) 0 rfl rfl rfl rfl rfl rfl (by rw [cMm_len hqw.ln]; exact ag rfl) (aMT _)) rfl n_h (c_u ?_)
 refine DZ rfl (xS_ (l' := cDd (bW dN (⟨m.cpu, bS plan m⟩ : Rn Mm)).1) 4) rfl n_h (c_u ?_)
 refine ZDR ?_
 refine RZ (aH rfl rfl (aT (v := .int .u64 (bW dN (⟨m.cpu, bS plan m⟩ : Rn Mm)).2.m.steps) m_m (get_mid (m := ({ (bW dN (⟨m.cpu, bS plan m⟩ : Rn Mm)).2.m with cpu := (bW dN (⟨m.cpu, bS plan m⟩ : Rn Mm)).2.s } : Mm)) hc1 (j := 2) rfl))) rfl (RW (v := (.int .u64 (((bW dN (⟨m.cpu, bS plan m⟩ : Rn Mm)).2.m.steps + 1) % 18446744073709551616))) (jI rfl rfl) rfl (zX _) (ZBB ?_))
 refine RZ (aD (l' := cMm A (.slice a8 (bW dN (⟨m.cpu, bS plan m⟩ : Rn Mm)).2.m.acc.length c0) (stepM plan m).2) 0 rfl rfl rfl rfl rfl rfl (by rw [cMm_len hc1]; exact ag rfl) (aH3 hc1 _)) rfl (ZDE ?_)
 refine gM [(A.mb, blk (cMm A (.slice a8 (bW dN (⟨m.cpu, bS plan m⟩ : Rn Mm)).2.m.acc.length c0) (stepM plan m).2) 130), (b1, blk (cDd (stepM plan m).1) 46)] [1, 2, 3, 4, 5] (.step true 0 (.step true 1 (.step true 2 (.step true 3 (.step true 4 (.step false 5 (.step true 6 .done))))))) rfl y_i y_i (fun x hx => y_n) ?_
 refine bU rfl rfl rfl rfl (dO (b := b1) (l := cDd (bW dN (⟨m.cpu, bS plan m⟩ : Rn Mm)).1) m_m) rfl rfl ?_
 refine ZBB ?_
 refine DL rfl rfl rfl (cZ (v := (.slice a8 (bW dN (⟨m.cpu, bS plan m⟩ : Rn Mm)).2.m.acc.length c0)) m_m (aGZ (m := (stepM plan m).2) (⟨hqw.ln.bd, hqw.ln.work, hqw.ln.high⟩ : MLn (stepM plan m).2))) rfl (DZ rfl (xS_ (l' := cDd (stepM plan m).1) 5) rfl (by intro _ _ _ hK; obtain ⟨rfl, rfl⟩ := hK; exact (fun x hx => y_n)) (ZEj ?_))
 exact eQ (fun w hw => bC rfl rfl rfl (aA (b := b0) (l := cDd (stepM plan m).1) m_m w hw) rfl) (fun w hw => (hw.sub (.cons_cons _ (.cons_cons _ (.cons_cons _ (.cons_cons _ (.cons _ (.cons _ sR_))))))).perm (au (l₁ := [(A.mb, blk (cMm A (.slice a8 (bW dN (⟨m.cpu, bS plan m⟩ : Rn Mm)).2.m.acc.length c0) (stepM plan m).2) 130), (A.ub, blk (cU (stepM plan m).2.u) 204), (A.rb, blk (List.map U_ (stepM plan m).2.ram ++ A.rs) 5), (A.ob, blk (List.map U_ (stepM plan m).2.rom ++ A.sp) 5)]) (l₂ := (tb, oT') :: Ga'))) ⟨_, oT', Ga', rfl, hV', hT', rfl⟩
def xE (r : Bool) (lb pb o n : Nat) (hn : n ≤ 8) (va : AH) (bs : AB) (Gl : aB) (hV : LineB 5 r va bs Gl) (L : AA) (hS : eO r n (L, bs)) (T : Nat) (hf : Fit (.long n) L o) (ms : AE) (w : AI) (hst : St w ms ((pb, blk L T) :: (lb, blk [va, .bool r] 151) :: Gl) w) : aC prog 73 [P_ lb, .pointer (some ⟨pb, o, none⟩), .int .i64 n] w ms (fun v H => v = .tuple #[] ∧ ∃ va' Gl', LineB 5 r va' (pass1 r (.long n) (L, bs) o).2 Gl' ∧ H = (pb, blk (pass1 r (.long n) (L, bs) o).1 T) :: (lb, blk [va', .bool r] 151) :: Gl') := by
 have hby := hS.byts
 have hen := hS.en
 have hsz := hS.sz
 dsimp only at hby hen hsz
 have hx9 : L[o]? = some (.int .u64 (FK.at L o)) := hf.at.1
 have hk9 : 0 ≤ (FK.at L o) ∧ (FK.at L o) < 18446744073709551616 := hf.at.2
 have ho9 := hf.lt
 refine dO_ func73 hst ?_
 refine ZAn ?_
 rcases r with _ | _
 ·refine ZBx ?_
  refine ZA1 ?_
  refine ZB6 ?_
  replace hV := hV.write
  refine ZBx ?_
  refine bG (σ := Nat × AH × aB) [6, 14, 15, 16, 17, 18, 19, 20, 21, 22, 23, 24, 25, 26, 27, 28, 29, 30, 31, 32, 33] (fun s => [(14, .int .i64 s.1)]) (fun s => (pb, blk L T) :: (lb, blk [s.2.1, .bool false] 151) :: (s.2.2 ++ [])) (fun s => s.1 ≤ n ∧ Vec 5 1 s.2.1 (bs ++ cT s.1 (FK.at L o)).length ((bs ++ cT s.1 (FK.at L o)).map (.int .u8)) s.2.2) (fun s => n - s.1) (0, va, Gl) ?_ ?_ ?_ ?_
  ·exact ⟨aj _, by rw [show cT 0 (FK.at L o) = [] from rfl, bq]; exact hV⟩
  ·exact .cons rfl .nil
  ·exact fun _ h => by rw [bq]; exact h
  rintro ⟨i, v0, G0⟩ y2 ⟨hi, hV0⟩
  dsimp only at hi hV0 ⊢
  obtain ⟨a6, c0, rfl⟩ := hV0.slice
  refine ZBx ?_
  refine KC (fun q0 z0 => ?_) (fun q0 z0 => ?_)
  ·refine A_8 ?_
   refine gM [(pb, blk L T), (lb, blk [(.slice a6 (bs ++ cT i (FK.at L o)).length c0), .bool false] 151)] [5, 6, 7, 8, 9, 10, 11, 12] (.step true 0 (.step true 1 (.step true 2 (.step true 3 (.step true 4 (.step true 5 (.step true 6 (.step true 7 (.step true 8 (.step true 9 (.step true 10 (.step true 11 (.step false 12 (.step false 13 (.step true 14 (.step true 15 (.step false 16 .done))))))))))))))))) rfl y_i y_i (fun x hx => y_n) ?_
   refine ZB6 ?_
   refine DL rfl rfl rfl (cZ (v := (.slice a6 (bs ++ cT i (FK.at L o)).length c0)) m_m rfl) rfl (ZAn ?_)
   refine DL rfl rfl rfl (cZ (v := .int .u64 (FK.at L o)) m_m hx9) rfl (ZBR ?_)
   refine DW (v := (.int .i64 ((8 * i : Nat) : Int))) rfl (aAm rfl rfl) rfl ((lL o_m o_m).trans (cA_ _ o_m)) (DY rfl (dK rfl rfl o_m) rfl (DW (v := (.int .u8 (dgt (FK.at L o) i))) rfl (dM rfl rfl rfl) rfl (cA_ _ (aRh o_m rfl)) (DX rfl (bX (z := [.int .u8 0]) (l := [.int .u8 (dgt (FK.at L o) i)]) (ps := [(0, .int .u8 (dgt (FK.at L o) i))]) rfl rfl rfl rfl rfl rfl) rfl y_el ?_)))
   refine ZBz fun b0 => ?_
   refine DX rfl (gD (A := [(b0, _), (pb, _), (lb, _)]) (G := G0) (R := []) (v := (.slice a6 (bs ++ cT i (FK.at L o)).length c0)) (n := (bs ++ cT i (FK.at L o)).length) (xs := (bs ++ cT i (FK.at L o)).map (.int .u8)) (m := 1) (T := 5) (s := 1) (by_ := 1) (ys := [.int .u8 (dgt (FK.at L o) i)]) rfl rfl rfl rfl hV0 (fun w hw => .row _ _ _ _ _ rfl (aA (b := b0) (.head _) w hw)) rfl (by rw [La_, pW]; omega) (by rw [La_, pW]; omega)) rfl n_h ?_
   rintro v1 _ ⟨G1, hV1, _, rfl⟩
   obtain ⟨b1, cp9, sp0, rfl, rfl, hc0, hle9, hm9⟩ := hV1.full o_m
   refine ZCR ?_
   refine DZ rfl (xS_ (l' := [(.slice (Q_ b1) ((bs ++ cT i (FK.at L o)).length + 1) cp9), .bool false]) 3) rfl n_h (ZCR ?_)
   refine ZAD ?_
   exact ⟨(i + 1, _, [(b1, _)]), ⟨y_B, hV1.as (by simp only [aCZ, La_, aq]; omega) (by simp only [aCZ, aw, be, ct, As_])⟩, y_B, .cons rfl .nil, a_g, fun _ h => (h.sub (.cons_cons _ (.cons _ sR_))).perm (au (l₁ := [(b1, _)]) (l₂ := [_, _]))⟩
  refine ZAn ?_
  obtain rfl : i = n := by omega
  exact EN y_dz ⟨rfl, _, G0, hV0, rfl⟩
 refine ZBx ?_
 refine ZAY ?_
 refine ZB6 ?_
 obtain ⟨cb, off, c, all, rfl, hle, rfl, hall⟩ := hV.read
 replace hen := hen rfl
 refine ZBB ?_
 refine RZ (aD (l' := (aP L o [.int .u64 (val bs 0)])) 0 rfl rfl rfl rfl rfl rfl ho9 rfl) rfl (ZAB ?_)
 refine A_8 ?_
 refine bG (σ := Nat) [7, 37, 38, 39, 40, 41, 42, 43, 44, 45, 46, 47, 48, 49, 50, 51, 52, 53, 54, 55, 56] (fun i => [(37, .int .i64 i)]) (fun i => [(pb, blk (aP L o [.int .u64 (val bs i)]) T), (lb, blk [(.slice (some ⟨cb, off, none⟩) bs.length c), .bool true] 151), (cb, blk all 5)]) (fun i => i ≤ n) (fun i => n - i) 0 ?_ ?_ ?_ ?_
 ·exact aj _
 ·exact .cons rfl .nil
 ·exact fun _ h => h
 rintro i y8 hi
 refine ZBx ?_
 refine KC (fun q0 z0 => ?_) (fun q0 z0 => ?_)
 ·refine A_8 ?_
  refine gM [(pb, blk (aP L o [.int .u64 (val bs i)]) T), (lb, blk [(.slice (some ⟨cb, off, none⟩) bs.length c), .bool true] 151), (cb, blk all 5)] [3, 4, 5, 6, 7, 8, 9, 10, 11, 12, 13] (.step true 0 (.step true 1 (.step true 2 (.step true 3 (.step true 4 (.step true 5 (.step true 6 (.step true 7 (.step true 8 (.step true 9 (.step true 10 (.step true 11 (.step true 12 (.step true 13 (.step true 14 (.step true 15 (.step false 16 .done))))))))))))))))) rfl y_i y_i (fun _ h => h) ?_
  refine ZAn ?_
  refine DL rfl rfl rfl (cZ (v := .int .u64 (val bs i)) m_m (by rw [sL ho9, if_pos rfl])) rfl (ZBB ?_)
  refine DL rfl rfl rfl (cZ (v := (.slice (some ⟨cb, off, none⟩) bs.length c)) m_m rfl) rfl (ZBR ?_)
  refine DY rfl (aV i rfl rfl rfl rfl o_m) rfl (DL rfl rfl rfl (cZ (v := .int .u8 (bs.getD i 0)) m_m (hall i _ (dL o_m))) rfl (DW (v := (.int .u64 (bs.getD i 0))) rfl (dM rfl rfl rfl) rfl (qX (hby.get i).1 (by have := (hby.get i).2; omega)) (ZBR ?_)))
  refine DW (v := (.int .i64 ((8 * i : Nat) : Int))) rfl (aAm rfl rfl) rfl ((lL o_m o_m).trans (cA_ _ o_m)) (DY rfl (dJ rfl rfl o_m) rfl (DW (v := (.int .u64 (val bs (i + 1)))) rfl (cM rfl rfl) rfl (cA_ _ (aQy o_m rfl (val_ok hby i) (hby.get i))) (ZBR ?_)))
  refine DZ rfl (aD (l' := (aP L o [.int .u64 (val bs (i + 1))])) 0 rfl rfl rfl rfl rfl rfl (by rw [aIV ho9]; exact ho9) (aG7 ho9)) rfl n_h (ZCR ?_)
  exact ZDe
 refine A_8 ?_
 refine RY (gE n bs.length rfl rfl rfl rfl rfl rfl o_m o_m) rfl (ZAn ?_)
 refine RZ (xS_ (l' := [.slice (some ⟨cb, cut1 off n c, none⟩) (bs.length - n) (c - n), .bool true]) 1) rfl (ZAB ?_)
 refine ZBR ?_
 obtain rfl : i = n := by omega
 exact EN sR_ ⟨rfl, _, _, LineB.cut hle hen hall, rfl⟩
def number1L_fn (r : Bool) (lb xb n : Nat) (hn : n ≤ 8) (va : AH) (x : Int) (hx : 0 ≤ x ∧ x < 18446744073709551616) (bs : AB) (Gl : aB) (hV : LineB 5 r va bs Gl) (hS : ∀ L : AA, eO r n (L, bs)) (ms : AE) (w : AI) (hst : St w ms ((xb, blk [.int .u64 x] 31) :: (lb, blk [va, .bool r] 151) :: Gl) w) : aC prog 73 [P_ lb, P_ xb, .int .i64 n] w ms (fun v H => v = .tuple #[] ∧ ∃ va' Gl', LineB 5 r va' (goes r n x bs).2 Gl' ∧ H = (xb, blk [.int .u64 (goes r n x bs).1] 31) :: (lb, blk [va', .bool r] 151) :: Gl') :=
 (xE r lb xb 0 n hn va bs Gl hV [.int .u64 x] (hS _) 31 ⟨x, rfl, hx⟩ ms w hst).mono fun v H ⟨h1, va', Gl', h2, h3⟩ => ⟨h1, va', Gl', by cases r <;> exact h2, by rw [h3]; cases r <;> rfl⟩
def yW (r : Bool) (lb pb : Nat) (va : AH) (Gl : aB) (S : Ps) (hV : LineB 5 r va S.2 Gl) (os : AE) (hol : os.length ≤ 1000000) (hS : eO r (os.length * 1) S) (T : Nat) (hf : ∀ o ∈ os, Fit .byte S.1 o) (pa : AC) (pc : Nat) (ms : AE) (w : AI) (hst : St w ms ((lb, blk [va, .bool r] 151) :: (Gl ++ [(pb, blk S.1 T)])) w) (hE : Els w (aEU pb) pa os) (hpn : ∀ p, pa = some p → p.block ∉ ms) : aC prog 70 [P_ lb, .slice pa os.length pc] w ms (fun v H => v = .tuple #[] ∧ ∃ va' Gl', LineB 5 r va' (aJ r .byte os S).2 Gl' ∧ H = (lb, blk [va', .bool r] 151) :: (Gl' ++ [(pb, blk (aJ r .byte os S).1 T)])) := by
 refine dO_ func70 hst ?_
 refine ZBB ?_
 refine ZCJ ?_
 refine bG (σ := Nat × AH × aB) [5, 6, 9, 10, 11, 12, 13, 14, 15, 16, 17, 18, 19, 20, 21, 22, 23] (fun s => [(9, .int .i64 s.1)]) (fun s => (lb, blk [s.2.1, .bool r] 151) :: (s.2.2 ++ [(pb, blk (aJ r .byte (os.take s.1) S).1 T)])) (fun s => s.1 ≤ os.length ∧ LineB 5 r s.2.1 (aJ r .byte (os.take s.1) S).2 s.2.2) (fun s => os.length - s.1) (0, va, Gl) ?_ ?_ ?_ ?_
 ·exact ⟨aj _, hV⟩
 ·exact .cons rfl .nil
 ·exact fun _ h => h
 rintro ⟨i, v0, G0⟩ y1 ⟨hi, hV0⟩
 dsimp only at hi hV0 ⊢
 refine ZBx ?_
 refine KC (fun q0 z0 => ?_) (fun q0 z0 => ?_)
 ·refine ZB6 ?_
  obtain ⟨oi, hoi⟩ : ∃ o, os[i]? = some o := ⟨_, am o_m⟩
  obtain ⟨bp, op, rfl, hrow⟩ := hE.row (i := i) o_m
  obtain ⟨Z, hZ⟩ : ∃ Z, Z = (aJ r .byte (os.take i) S) := ⟨_, rfl⟩
  have hfz : Fit .byte Z.1 oi := hZ ▸ mV trivial hS.byts hf hoi
  have hSz : eO r 1 Z := hZ ▸ hS.at (k := .byte) o_m
  rw [← hZ] at hV0 ⊢
  have hv9 : Z.1[oi]? = some (.int .u8 (FK.at Z.1 oi)) := hfz.at.1
  have hx9 : 0 ≤ (FK.at Z.1 oi) ∧ (FK.at Z.1 oi) < 256 := hfz.at.2
  have hx8 : 0 ≤ (FK.at Z.1 oi) ∧ (FK.at Z.1 oi) < 18446744073709551616 := ⟨hx9.1, by have := hx9.2; omega⟩
  have hy9 := aGC (r := r) (n := 1) (x := (FK.at Z.1 oi)) (bs := Z.2) hx9 hSz.byts
  refine ZBR ?_
  refine ZDM ?_
  refine ZB2 ?_
  refine RZ (aH rfl rfl (aT (v := .int .u8 (FK.at Z.1 oi)) m_m hv9)) rfl (RW (v := (.int .u64 (FK.at Z.1 oi))) (dM rfl rfl rfl) rfl (qX hx8.1 hx8.2) (ZAt fun b0 => ?_))
  refine RZ (xS_ (l' := [.int .u64 (FK.at Z.1 oi)]) 0) rfl (ZAB ?_)
  refine ZB6 ?_
  refine ZAN fun va0 G1 hV1 => ?_
  refine ZA5 ?_
  refine ZB6 ?_
  refine RW (v := (.int .u8 (goes r 1 (FK.at Z.1 oi) Z.2).1)) (dM rfl rfl rfl) rfl (aDJ hy9.1 hy9.2) (ZBR ?_)
  refine RZ (aD (l' := (pass1 r .byte Z oi).1) 0 rfl rfl rfl rfl rfl rfl hfz.lt (cA_ Prod.fst (pass1_goes hfz r)).symm) rfl (ZCR ?_)
  exact ZAi
 refine ZBR ?_
 exact ZCT
def aKG (r : Bool) (lb pb : Nat) (va : AH) (Gl : aB) (S : Ps) (hV : LineB 5 r va S.2 Gl) (os : AE) (hol : os.length ≤ 1000000) (hS : eO r (os.length * 2) S) (T : Nat) (hf : ∀ o ∈ os, Fit .word S.1 o) (pa : AC) (pc : Nat) (ms : AE) (w : AI) (hst : St w ms ((lb, blk [va, .bool r] 151) :: (Gl ++ [(pb, blk S.1 T)])) w) (hE : Els w (aEU pb) pa os) (hpn : ∀ p, pa = some p → p.block ∉ ms) : aC prog 71 [P_ lb, .slice pa os.length pc] w ms (fun v H => v = .tuple #[] ∧ ∃ va' Gl', LineB 5 r va' (aJ r .word os S).2 Gl' ∧ H = (lb, blk [va', .bool r] 151) :: (Gl' ++ [(pb, blk (aJ r .word os S).1 T)])) := by
 refine dO_ func71 hst ?_
 refine ZBB ?_
 refine ZCJ ?_
 refine bG (σ := Nat × AH × aB) [5, 6, 9, 10, 11, 12, 13, 14, 15, 16, 17, 18, 19, 20, 21, 22, 23] (fun s => [(9, .int .i64 s.1)]) (fun s => (lb, blk [s.2.1, .bool r] 151) :: (s.2.2 ++ [(pb, blk (aJ r .word (os.take s.1) S).1 T)])) (fun s => s.1 ≤ os.length ∧ LineB 5 r s.2.1 (aJ r .word (os.take s.1) S).2 s.2.2) (fun s => os.length - s.1) (0, va, Gl) ?_ ?_ ?_ ?_
 ·exact ⟨aj _, hV⟩
 ·exact .cons rfl .nil
 ·exact fun _ h => h
 rintro ⟨i, v0, G0⟩ y1 ⟨hi, hV0⟩
 dsimp only at hi hV0 ⊢
 refine ZBx ?_
 refine KC (fun q0 z0 => ?_) (fun q0 z0 => ?_)
 ·refine ZB6 ?_
  obtain ⟨oi, hoi⟩ : ∃ o, os[i]? = some o := ⟨_, am o_m⟩
  obtain ⟨bp, op, rfl, hrow⟩ := hE.row (i := i) o_m
  obtain ⟨Z, hZ⟩ : ∃ Z, Z = (aJ r .word (os.take i) S) := ⟨_, rfl⟩
  have hfz : Fit .word Z.1 oi := hZ ▸ mV trivial hS.byts hf hoi
  have hSz : eO r 2 Z := hZ ▸ hS.at (k := .word) o_m
  rw [← hZ] at hV0 ⊢
  have hv9 : Z.1[oi]? = some (.int .u16 (FK.at Z.1 oi)) := hfz.at.1
  have hx9 : 0 ≤ (FK.at Z.1 oi) ∧ (FK.at Z.1 oi) < 65536 := hfz.at.2
  have hx8 : 0 ≤ (FK.at Z.1 oi) ∧ (FK.at Z.1 oi) < 18446744073709551616 := ⟨hx9.1, by have := hx9.2; omega⟩
  have hy9 := aGC (r := r) (n := 2) (x := (FK.at Z.1 oi)) (bs := Z.2) hx9 hSz.byts
  refine ZBR ?_
  refine ZDM ?_
  refine ZB2 ?_
  refine RZ (aH rfl rfl (aT (v := .int .u16 (FK.at Z.1 oi)) m_m hv9)) rfl (RW (v := (.int .u64 (FK.at Z.1 oi))) (dM rfl rfl rfl) rfl (qX hx8.1 hx8.2) (ZAt fun b0 => ?_))
  refine RZ (xS_ (l' := [.int .u64 (FK.at Z.1 oi)]) 0) rfl (ZAB ?_)
  refine ZB6 ?_
  refine RX (dY (A := (b0, blk [.int .u64 (FK.at Z.1 oi)] 31) :: (lb, blk [v0, .bool r] 151) :: G0) (G := [(pb, blk Z.1 T)]) (R := fun v H => v = .tuple #[] ∧ ∃ va' Gl', LineB 5 r va' (goes r 2 (FK.at Z.1 oi) Z.2).2 Gl' ∧ H = (b0, blk [.int .u64 (goes r 2 (FK.at Z.1 oi) Z.2).1] 31) :: (lb, blk [va', .bool r] 151) :: Gl') (((b0, blk [.int .u64 (FK.at Z.1 oi)] 31) :: (lb, blk [v0, .bool r] 151) :: G0).map (·.1)) K_ rfl (fun _ hb => eA hb) (wL_ (number1L_fn r lb b0 2 y_b v0 (FK.at Z.1 oi) hx8 Z.2 G0 hV0 (fun L => ⟨hSz.byts, hSz.en, hSz.sz⟩) _))) rfl ?_
  rintro _ _ ⟨_, ⟨rfl, va0, G1, hV1, rfl⟩, rfl⟩
  refine ZA5 ?_
  refine ZB6 ?_
  refine RW (v := (.int .u16 (goes r 2 (FK.at Z.1 oi) Z.2).1)) (dM rfl rfl rfl) rfl (zC hy9.1 hy9.2) (ZBR ?_)
  refine RZ (aD (l' := (pass1 r .word Z oi).1) 0 rfl rfl rfl rfl rfl rfl hfz.lt (cA_ Prod.fst (pass1_goes hfz r)).symm) rfl (ZCR ?_)
  exact ZAi
 refine ZBR ?_
 exact ZCT
def yL (r : Bool) (lb pb : Nat) (va : AH) (Gl : aB) (S : Ps) (hV : LineB 5 r va S.2 Gl) (os : AE) (hol : os.length ≤ 1000000) (hS : eO r (os.length * 1) S) (T : Nat) (hf : ∀ o ∈ os, Fit .bool S.1 o) (pa : AC) (pc : Nat) (ms : AE) (w : AI) (hst : St w ms ((lb, blk [va, .bool r] 151) :: (Gl ++ [(pb, blk S.1 T)])) w) (hE : Els w (aEU pb) pa os) (hpn : ∀ p, pa = some p → p.block ∉ ms) : aC prog 72 [P_ lb, .slice pa os.length pc] w ms (fun v H => v = .tuple #[] ∧ ∃ va' Gl', LineB 5 r va' (aJ r .bool os S).2 Gl' ∧ H = (lb, blk [va', .bool r] 151) :: (Gl' ++ [(pb, blk (aJ r .bool os S).1 T)])) := by
 refine dO_ func72 hst ?_
 refine ZBB ?_
 refine ZCJ ?_
 refine bG (σ := Nat × AH × aB) [5, 6, 9, 10, 11, 12, 13, 14, 15, 16, 17, 18, 19, 20, 21, 22] (fun s => [(9, .int .i64 s.1)]) (fun s => (lb, blk [s.2.1, .bool r] 151) :: (s.2.2 ++ [(pb, blk (aJ r .bool (os.take s.1) S).1 T)])) (fun s => s.1 ≤ os.length ∧ LineB 5 r s.2.1 (aJ r .bool (os.take s.1) S).2 s.2.2) (fun s => os.length - s.1) (0, va, Gl) ?_ ?_ ?_ ?_
 ·exact ⟨aj _, hV⟩
 ·exact .cons rfl .nil
 ·exact fun _ h => h
 rintro ⟨i, v0, G0⟩ y1 ⟨hi, hV0⟩
 dsimp only at hi hV0 ⊢
 refine ZBx ?_
 refine KC (fun q0 z0 => ?_) (fun q0 z0 => ?_)
 ·refine ZB6 ?_
  obtain ⟨oi, hoi⟩ : ∃ o, os[i]? = some o := ⟨_, am o_m⟩
  obtain ⟨bp, op, rfl, hrow⟩ := hE.row (i := i) o_m
  obtain ⟨Z, hZ⟩ : ∃ Z, Z = (aJ r .bool (os.take i) S) := ⟨_, rfl⟩
  have hfz : Fit .bool Z.1 oi := hZ ▸ mV trivial hS.byts hf hoi
  have hSz : eO r 1 Z := hZ ▸ hS.at (k := .bool) o_m
  rw [← hZ] at hV0 ⊢
  have hv9 : Z.1[oi]? = some (.bool ((FK.at Z.1 oi) == 1)) := hfz.at.1
  have hx9 : (FK.at Z.1 oi) = 0 ∨ (FK.at Z.1 oi) = 1 := hfz.at.2
  have hx8 : 0 ≤ (FK.at Z.1 oi) ∧ (FK.at Z.1 oi) < 18446744073709551616 := by rcases hx9 with h | h <;> rw [h] <;> decide
  refine ZBR ?_
  refine ZDM ?_
  refine ZB6 ?_
  refine ZAt fun b0 => ?_
  refine ZB2 ?_
  refine RZ (aH rfl rfl (aT (v := .bool ((FK.at Z.1 oi) == 1)) m_m hv9)) rfl (ZBR ?_)
  refine KC (fun q1 z1 => ?_) (fun q1 z1 => ?_)
  ·refine ZBR ?_
   refine RZ (xS_ (l' := [.int .u64 1]) 0) rfl (ZCR ?_)
   have e8 : (FK.at Z.1 oi) = 1 := by simpa using q1
   refine ZDt ?_
   refine ZAN fun va0 G1 hV1 => ?_
   refine ZA5 ?_
   refine ZEP ?_
   refine ZCR ?_
   exact ZAi
  refine ZAn ?_
  have e8 : (FK.at Z.1 oi) = 0 := by rcases hx9 with h9 | h9; exact h9; rw [h9] at q1; cases q1
  refine ZDt ?_
  refine ZAN fun va0 G1 hV1 => ?_
  refine ZA5 ?_
  refine ZEP ?_
  refine ZCR ?_
  exact ZAi
 refine ZBR ?_
 exact ZCT
def xB (r : Bool) (lb pb : Nat) (mn : Nat) (hmn : mn ≤ 4) (hmn8 : mn ≤ 8) (va : AH) (Gl : aB) (S : Ps) (hV : LineB 5 r va S.2 Gl) (os : AE) (hol : os.length ≤ 1000000) (hS : eO r (os.length * mn) S) (T : Nat) (hf : ∀ o ∈ os, Fit (.int mn) S.1 o) (pa : AC) (pc : Nat) (ms : AE) (w : AI) (hst : St w ms ((lb, blk [va, .bool r] 151) :: (Gl ++ [(pb, blk S.1 T)])) w) (hE : Els w (aEU pb) pa os) (hpn : ∀ p, pa = some p → p.block ∉ ms) : aC prog 74 [P_ lb, .int .i64 mn, .slice pa os.length pc] w ms (fun v H => v = .tuple #[] ∧ ∃ va' Gl', LineB 5 r va' (aJ r (.int mn) os S).2 Gl' ∧ H = (lb, blk [va', .bool r] 151) :: (Gl' ++ [(pb, blk (aJ r (.int mn) os S).1 T)])) := by
 refine dO_ func74 hst ?_
 refine ZBB ?_
 refine ZCJ ?_
 refine bG (σ := Nat × AH × aB) [7, 8, 11, 12, 13, 14, 15, 16, 17, 18, 19, 20, 21, 22, 23, 24, 25, 26] (fun s => [(11, .int .i64 s.1)]) (fun s => (lb, blk [s.2.1, .bool r] 151) :: (s.2.2 ++ [(pb, blk (aJ r (.int mn) (os.take s.1) S).1 T)])) (fun s => s.1 ≤ os.length ∧ LineB 5 r s.2.1 (aJ r (.int mn) (os.take s.1) S).2 s.2.2) (fun s => os.length - s.1) (0, va, Gl) ?_ ?_ ?_ ?_
 ·exact ⟨aj _, hV⟩
 ·exact .cons rfl .nil
 ·exact fun _ h => h
 rintro ⟨i, v0, G0⟩ y1 ⟨hi, hV0⟩
 dsimp only at hi hV0 ⊢
 refine ZBx ?_
 refine KC (fun q0 z0 => ?_) (fun q0 z0 => ?_)
 ·refine ZB6 ?_
  obtain ⟨oi, hoi⟩ : ∃ o, os[i]? = some o := ⟨_, am o_m⟩
  obtain ⟨bp, op, rfl, hrow⟩ := hE.row (i := i) o_m
  obtain ⟨Z, hZ⟩ : ∃ Z, Z = (aJ r (.int mn) (os.take i) S) := ⟨_, rfl⟩
  have hfz : Fit (.int mn) Z.1 oi := hZ ▸ mV hmn hS.byts hf hoi
  have hSz : eO r mn Z := hZ ▸ hS.at (k := (.int mn)) o_m
  rw [← hZ] at hV0 ⊢
  have hv9 : Z.1[oi]? = some (.int .i64 (FK.at Z.1 oi)) := hfz.at.1
  have hx9 : -9223372036854775808 ≤ (FK.at Z.1 oi) ∧ (FK.at Z.1 oi) ≤ 9223372036854775807 := hfz.at.2
  have hx8 : 0 ≤ ((FK.at Z.1 oi) % 18446744073709551616) ∧ ((FK.at Z.1 oi) % 18446744073709551616) < 18446744073709551616 := by omega
  refine ZBR ?_
  refine ZDM ?_
  refine ZB2 ?_
  refine RZ (aH rfl rfl (aT (v := .int .i64 (FK.at Z.1 oi)) m_m hv9)) rfl (RW (v := (.int .u64 ((FK.at Z.1 oi) % 18446744073709551616))) (dM rfl rfl rfl) rfl (zX _) (ZAt fun b0 => ?_))
  refine RZ (xS_ (l' := [.int .u64 ((FK.at Z.1 oi) % 18446744073709551616)]) 0) rfl (ZAB ?_)
  refine ZBx ?_
  refine RX (dY (A := (b0, blk [.int .u64 ((FK.at Z.1 oi) % 18446744073709551616)] 31) :: (lb, blk [v0, .bool r] 151) :: G0) (G := [(pb, blk Z.1 T)]) (R := fun v H => v = .tuple #[] ∧ ∃ va' Gl', LineB 5 r va' (goes r mn ((FK.at Z.1 oi) % 18446744073709551616) Z.2).2 Gl' ∧ H = (b0, blk [.int .u64 (goes r mn ((FK.at Z.1 oi) % 18446744073709551616) Z.2).1] 31) :: (lb, blk [va', .bool r] 151) :: Gl') (((b0, blk [.int .u64 ((FK.at Z.1 oi) % 18446744073709551616)] 31) :: (lb, blk [v0, .bool r] 151) :: G0).map (·.1)) K_ rfl (fun _ hb => eA hb) (wL_ (number1L_fn r lb b0 mn hmn8 v0 ((FK.at Z.1 oi) % 18446744073709551616) hx8 Z.2 G0 hV0 (fun L => ⟨hSz.byts, hSz.en, hSz.sz⟩) _))) rfl ?_
  rintro _ _ ⟨_, ⟨rfl, va0, G1, hV1, rfl⟩, rfl⟩
  refine ZA5 ?_
  refine ZB6 ?_
  refine RW (v := (.int .i64 (goes r mn (FK.at Z.1 oi) Z.2).1)) (dM rfl rfl rfl) rfl (cA_ _ (aEH hmn hx9 hSz.byts).1) (ZBR ?_)
  refine RZ (aD (l' := (pass1 r (.int mn) Z oi).1) 0 rfl rfl rfl rfl rfl rfl hfz.lt (cA_ Prod.fst (pass1_goes hfz r)).symm) rfl (ZCR ?_)
  refine ZAD ?_
  exact ⟨(i + 1, va0, G1), ⟨y_B, (by rw [passes_snoc hoi, ← hZ, pass1_goes hfz]; show LineB _ r va0 (goes r mn (FK.at Z.1 oi) Z.2).2 G1; rw [← (aEH hmn hx9 hSz.byts).2]; exact hV1)⟩, y_B, .cons rfl .nil, a_g, fun _ h => (((h.sub (.cons_cons _ (.cons _ sR_))).perm (au (l₁ := [(pb, _)]) (l₂ := (lb, _) :: G1)))).as y_b1⟩
 refine ZBR ?_
 exact ZCT
def sW (r : Bool) (lb pb o0 nn : Nat) (hnn : nn ≤ 1000000) (va : AH) (Gl : aB) (S : Ps) (hV : LineB 5 r va S.2 Gl) (hS : eO r nn S) (T : Nat) (hf : ∀ o ∈ cX o0 nn, Fit .byte S.1 o) (pc : Nat) (ms : AE) (w : AI) (hst : St w ms ((lb, blk [va, .bool r] 151) :: (Gl ++ [(pb, blk S.1 T)])) w) : aC prog 75 [P_ lb, .slice (some ⟨pb, o0, none⟩) nn pc] w ms (fun v H => v = .tuple #[] ∧ ∃ va' Gl', LineB 5 r va' (aJ r .byte (cX o0 nn) S).2 Gl' ∧ H = (lb, blk [va', .bool r] 151) :: (Gl' ++ [(pb, blk (aJ r .byte (cX o0 nn) S).1 T)])) := by
 refine dO_ func75 hst ?_
 refine ZBB ?_
 refine ZCJ ?_
 refine bG (σ := Nat × AH × aB) [4, 7, 8, 9, 10, 11, 12, 13, 14, 15, 16] (fun s => [(7, .int .i64 s.1)]) (fun s => (lb, blk [s.2.1, .bool r] 151) :: (s.2.2 ++ [(pb, blk (aJ r .byte (cX o0 s.1) S).1 T)])) (fun s => s.1 ≤ nn ∧ LineB 5 r s.2.1 (aJ r .byte (cX o0 s.1) S).2 s.2.2) (fun s => nn - s.1) (0, va, Gl) ?_ ?_ ?_ ?_
 ·exact ⟨aj _, hV⟩
 ·exact .cons rfl .nil
 ·exact fun _ h => h
 rintro ⟨i, v0, G0⟩ y1 ⟨hi, hV0⟩
 dsimp only at hi hV0 ⊢
 refine ZBx ?_
 refine KC (fun q0 z0 => ?_) (fun q0 z0 => ?_)
 ·refine ZB6 ?_
  obtain ⟨Z, hZ⟩ : ∃ Z, Z = (aJ r .byte (cX o0 i) S) := ⟨_, rfl⟩
  have hfz : Fit .byte Z.1 (o0 + i) := hZ ▸ rM (k := .byte) trivial hS.byts (fun o ho => by obtain ⟨j, hj, rfl⟩ := aAY ho; exact hf _ (sD o_m)) (hf _ (sD o_m)) (fun _ => rfl)
  have hSz : eO r 1 Z := hZ ▸ eO.pass (k := .byte) (hS.le (by rw [aMj]; show i * 1 + 1 ≤ nn; omega))
  rw [← hZ] at hV0 ⊢
  refine A_8 ?_
  refine ZBY ?_
  refine RX (bX (z := [.pointer none]) (l := [.pointer (some ⟨pb, o0 + i, none⟩)]) (ps := [(0, .pointer (some ⟨pb, o0 + i, none⟩))]) rfl rfl rfl rfl rfl rfl) rfl (ZBz fun b0 => ?_)
  refine RX (aS (F := [(b0, blk [.pointer (some ⟨pb, o0 + i, none⟩)] 210)]) (A := (lb, blk [v0, .bool r] 151) :: (G0 ++ [(pb, blk Z.1 T)])) (R := fun v H => v = .tuple #[] ∧ ∃ va' Gl', LineB 5 r va' (aJ r .byte [o0 + i] Z).2 Gl' ∧ H = (lb, blk [va', .bool r] 151) :: (Gl' ++ [(pb, blk (aJ r .byte [o0 + i] Z).1 T)])) K_ rfl (fun w hw => yW r lb pb v0 G0 Z hV0 [o0 + i] (ag rfl) hSz T (fun o ho => by rw [List.mem_singleton.1 ho]; exact hfz) _ _ _ w (St.lentV hw) (fun _ => ⟨b0, 0, rfl, aA (b := b0) (mR_ _ (.head _)) w hw⟩) (fun p hp => y_bW))) rfl ?_
  rintro _ _ ⟨_, ⟨rfl, va0, G1, hV1, rfl⟩, rfl⟩
  refine ZCR ?_
  refine ZAD ?_
  exact ⟨(i + 1, va0, G1), ⟨y_B, by rw [aAz, ← hZ]; exact hV1⟩, y_B, .cons rfl .nil, a_g, fun _ h => (h.sub (.cons _ sR_)).as (by rw [aAz, ← hZ])⟩
 refine ZBR ?_
 obtain rfl : i = nn := by omega
 exact EN sR_ ⟨rfl, _, G0, hV0, rfl⟩
def aHG (r : Bool) (lb mb : Nat) (va : AH) (G : aB) (S : Ps) (hV : LineB 5 r va S.2 G) (hT : eI r 86 S) (ms : AE) (w : AI) (hst : St w ms ((lb, blk [va, .bool r] 151) :: (G ++ [(mb, blk S.1 130)])) w) : aC prog 76 [P_ mb, P_ lb] w ms (fun v H => v = .tuple #[] ∧ ∃ va' Gl', LineB 5 r va' (qI r S).2 Gl' ∧ H = (lb, blk [va', .bool r] 151) :: (Gl' ++ [(mb, blk (qI r S).1 130)])) := by
 refine dO_ func76 hst ?_
 refine A_14 ?_
 refine RW (v := (.slice (some ⟨mb, 49, none⟩) 48 48)) (fO 0 48 rfl rfl rfl rfl rfl rfl y_b y_b) rfl rfl (RX (aS (F := []) (A := (lb, blk [va, .bool r] 151) :: (G ++ [(mb, blk S.1 130)])) (R := (fun v H => v = .tuple #[] ∧ ∃ va' Gl', LineB 5 r va' (aJ r .byte (cX 49 48) S).2 Gl' ∧ H = (lb, blk [va', .bool r] 151) :: (Gl' ++ [(mb, blk (aJ r .byte (cX 49 48) S).1 130)]))) K_ rfl (fun w hw => sW r lb mb 49 48 y_b va G S hV (hT.ok.le (m := 48) o_m) 130 (hT.fit vN) _ _ w (St.lentV (G := []) hw))) rfl ?_)
 rintro _ _ ⟨_, ⟨rfl, va0, G0, hV0, rfl⟩, rfl⟩
 obtain ⟨Z16, hZ16⟩ : ∃ Z, Z = aJ r .byte (cX 49 48) S := ⟨_, rfl⟩
 have hT16 : eI r 38 Z16 := hZ16 ▸ (hT.le (m := 48 * 1 + 38) o_m).pass (k := .byte) (os := cX 49 48) (n := 38) trivial vN
 rw [← hZ16] at hV0
 refine cE (fun w hw => hw.as (by rw [← hZ16]; rfl)) (H' := (lb, blk [va0, .bool r] 151) :: (G0 ++ [(mb, blk Z16.1 130)])) ?_
 refine ZAn ?_
 refine DR [] (pln [0, 2, 4, 6, 8, 10, 12, 15, 17]) ?_
 refine ZDR ?_
 refine DX rfl (bX (z := [.pointer none]) (l := [.pointer (some ⟨mb, 97, none⟩), .pointer (some ⟨mb, 118, none⟩)]) (ps := [(0, .pointer (some ⟨mb, 97, none⟩)), (1, .pointer (some ⟨mb, 118, none⟩))]) rfl rfl rfl rfl y_i y_i) rfl n_h (ZBz fun b0 => ?_)
 refine DX rfl (aS (F := [(b0, _)]) (A := (lb, blk [va0, .bool r] 151) :: (G0 ++ [(mb, blk Z16.1 130)])) (R := (fun v H => v = .tuple #[] ∧ ∃ va' Gl', LineB 5 r va' (aJ r .bool [97, 118] Z16).2 Gl' ∧ H = (lb, blk [va', .bool r] 151) :: (Gl' ++ [(mb, blk (aJ r .bool [97, 118] Z16).1 130)]))) K_ rfl (fun w hw => yL r lb mb va0 G0 Z16 hV0 [97, 118] (ag rfl) (hT16.ok.le (m := 2) o_m) 130 (hT16.fit (show ∀ o ∈ [97, 118], tyM o = some .bool by decide)) _ _ _ w (St.lentV hw) (fun _ => ⟨b0, 0, rfl, aA (b := b0) (mR_ _ (.head _)) w hw⟩) (fun p hp => y_bW))) rfl n_h ?_
 rintro _ _ ⟨_, ⟨rfl, va1, G1, hV1, rfl⟩, rfl⟩
 obtain ⟨Z25, hZ25⟩ : ∃ Z, Z = aJ r .bool [97, 118] Z16 := ⟨_, rfl⟩
 have hT25 : eI r 36 Z25 := hZ25 ▸ (hT16.le (m := 2 + 36) o_m).pass (k := .bool) (os := [97, 118]) (n := 36) trivial (show ∀ o ∈ [97, 118], tyM o = some .bool by decide)
 rw [← hZ25] at hV1
 refine gL (fun w hw => (hw.sub (.cons _ sR_)).as (by rw [← hZ25]; rfl)) (H' := (lb, blk [va1, .bool r] 151) :: (G1 ++ [(mb, blk Z25.1 130)])) ?_
 refine ZAn ?_
 refine DR [] (pln [0, 2, 4, 6, 8, 10, 12, 14, 16, 18, 20, 22, 24, 27, 29]) ?_
 refine A_13 ?_
 refine DX rfl (bX (z := [.pointer none]) (l := [.pointer (some ⟨mb, 98, none⟩), .pointer (some ⟨mb, 99, none⟩), .pointer (some ⟨mb, 116, none⟩), .pointer (some ⟨mb, 117, none⟩)]) (ps := [(0, .pointer (some ⟨mb, 98, none⟩)), (1, .pointer (some ⟨mb, 99, none⟩)), (2, .pointer (some ⟨mb, 116, none⟩)), (3, .pointer (some ⟨mb, 117, none⟩))]) rfl rfl rfl rfl y_i y_i) rfl n_h ?_
 rintro _ _ ⟨b1, rfl, rfl⟩
 refine DX rfl (aS (F := [(b1, _)]) (A := (lb, blk [va1, .bool r] 151) :: (G1 ++ [(mb, blk Z25.1 130)])) (R := (fun v H => v = .tuple #[] ∧ ∃ va' Gl', LineB 5 r va' (aJ r (.int 2) [98, 99, 116, 117] Z25).2 Gl' ∧ H = (lb, blk [va', .bool r] 151) :: (Gl' ++ [(mb, blk (aJ r (.int 2) [98, 99, 116, 117] Z25).1 130)]))) K_ rfl (fun w hw => xB r lb mb 2 y_b y_b va1 G1 Z25 hV1 [98, 99, 116, 117] (ag rfl) (hT25.ok.le (m := 8) o_m) 130 (hT25.fit (show ∀ o ∈ [98, 99, 116, 117], tyM o = some (.int 2) by decide)) _ _ _ w (St.lentV hw) (fun _ => ⟨b1, 0, rfl, aA (b := b1) (mR_ _ (.head _)) w hw⟩) (fun p hp => y_bW))) rfl n_h ?_
 rintro _ _ ⟨_, ⟨rfl, va2, G2, hV2, rfl⟩, rfl⟩
 obtain ⟨Z40, hZ40⟩ : ∃ Z, Z = aJ r (.int 2) [98, 99, 116, 117] Z25 := ⟨_, rfl⟩
 have hT40 : eI r 28 Z40 := hZ40 ▸ (hT25.le (m := 8 + 28) o_m).pass (k := (.int 2)) (os := [98, 99, 116, 117]) (n := 28) (show 2 ≤ 4 by decide) (show ∀ o ∈ [98, 99, 116, 117], tyM o = some (.int 2) by decide)
 rw [← hZ40] at hV2
 refine gL (fun w hw => (hw.sub (.cons _ sR_)).as (by rw [← hZ40]; rfl)) (H' := (lb, blk [va2, .bool r] 151) :: (G2 ++ [(mb, blk Z40.1 130)])) ?_
 refine ZB2 ?_
 refine bG (σ := Nat × AH × aB) [5, 6, 41, 42, 43, 44, 45, 46, 47, 48, 49, 50, 51, 52, 53, 54, 55, 56, 57, 58, 59, 60, 61, 62, 63, 64, 65, 66, 67] (fun s => [(41, .int .i64 s.1)]) (fun s => (lb, blk [s.2.1, .bool r] 151) :: (s.2.2 ++ [(mb, blk (mC r Z40 s.1).1 130)])) (fun s => s.1 ≤ 4 ∧ LineB 5 r s.2.1 (mC r Z40 s.1).2 s.2.2) (fun s => 4 - s.1) (0, va2, G2) ?_ ?_ ?_ ?_
 ·exact ⟨aj _, hV2⟩
 ·exact .cons rfl .nil
 ·exact fun _ h => h
 rintro ⟨i, va3, G3⟩ y5 ⟨hi, hV3⟩
 dsimp only at hi hV3 ⊢
 refine ZBx ?_
 refine KC (fun q0 z0 => ?_) (fun q0 z0 => ?_)
 ·refine ZB6 ?_
  have hi4 : i < 4 := by omega
  obtain ⟨Z5, hZ5⟩ : ∃ Z, Z = mC r Z40 i := ⟨_, rfl⟩
  have hT5 : eI r (7 * (4 - i)) Z5 := hZ5 ▸ (hT40.voices (n := 0) i o_m)
  rw [← hZ5] at hV3 ⊢
  refine A_10 ?_
  refine RW (v := (.pointer (some ⟨mb, 100 + 4 * i, none⟩))) (bT (s := 4) i rfl rfl rfl rfl o_m) rfl (cA_ (fun z : Nat => Value.pointer (some ⟨mb, z, none⟩)) o_m) (ZDR ?_)
  refine RW (v := (.pointer (some ⟨mb, 100 + 4 * i, none⟩))) (qE rfl rfl) rfl (cA_ (fun z : Nat => Value.pointer (some ⟨mb, z, none⟩)) o_m) (RX (bX (z := [.pointer none]) (l := [.pointer (some ⟨mb, 100 + 4 * i, none⟩)]) (ps := [(0, .pointer (some ⟨mb, 100 + 4 * i, none⟩))]) rfl rfl rfl rfl y_i y_i) rfl ?_)
  rintro _ _ ⟨b2, rfl, rfl⟩
  refine RX (aS (F := [(b2, _)]) (A := (lb, blk [va3, .bool r] 151) :: (G3 ++ [(mb, blk Z5.1 130)])) (R := (fun v H => v = .tuple #[] ∧ ∃ va' Gl', LineB 5 r va' (aJ r .bool [100 + 4 * i] Z5).2 Gl' ∧ H = (lb, blk [va', .bool r] 151) :: (Gl' ++ [(mb, blk (aJ r .bool [100 + 4 * i] Z5).1 130)]))) K_ rfl (fun w hw => yL r lb mb va3 G3 Z5 hV3 [100 + 4 * i] (ag rfl) (hT5.ok.le (m := 1) o_m) 130 (hT5.fit (aDN hi4)) _ _ _ w (St.lentV hw) (fun _ => ⟨b2, 0, rfl, aA (b := b2) (mR_ _ (.head _)) w hw⟩) (fun p hp => y_bW))) rfl ?_
  rintro _ _ ⟨_, ⟨rfl, va4, G4, hV4, rfl⟩, rfl⟩
  obtain ⟨Z54, hZ54⟩ : ∃ Z, Z = aJ r .bool [100 + 4 * i] Z5 := ⟨_, rfl⟩
  have hT54 : eI r (7 * (4 - i) - 1) Z54 := hZ54 ▸ (hT5.le (m := 1 + (7 * (4 - i) - 1)) o_m).pass (k := .bool) (os := [100 + 4 * i]) (n := (7 * (4 - i) - 1)) trivial (aDN hi4)
  rw [← hZ54] at hV4
  refine cE (fun w hw => (hw.sub (.cons _ sR_)).as (by rw [← hZ54]; rfl)) (H' := (lb, blk [va4, .bool r] 151) :: (G4 ++ [(mb, blk Z54.1 130)])) ?_
  refine ZBR ?_
  refine DR [] (pln [0, 2, 4, 6, 8, 10, 12, 14, 16, 18, 21, 23]) ?_
  refine ZBB ?_
  refine DW (v := (.pointer (some ⟨mb, 101 + 4 * i, none⟩))) rfl (qE rfl rfl) rfl (cA_ (fun z : Nat => Value.pointer (some ⟨mb, z, none⟩)) o_m) (ZAn ?_)
  refine DW (v := (.pointer (some ⟨mb, 102 + 4 * i, none⟩))) rfl (qE rfl rfl) rfl (cA_ (fun z : Nat => Value.pointer (some ⟨mb, z, none⟩)) o_m) (ZAn ?_)
  refine DW (v := (.pointer (some ⟨mb, 103 + 4 * i, none⟩))) rfl (qE rfl rfl) rfl (cA_ (fun z : Nat => Value.pointer (some ⟨mb, z, none⟩)) o_m) (DX rfl (bX (z := [.pointer none]) (l := [.pointer (some ⟨mb, 101 + 4 * i, none⟩), .pointer (some ⟨mb, 102 + 4 * i, none⟩), .pointer (some ⟨mb, 103 + 4 * i, none⟩)]) (ps := [(0, .pointer (some ⟨mb, 101 + 4 * i, none⟩)), (1, .pointer (some ⟨mb, 102 + 4 * i, none⟩)), (2, .pointer (some ⟨mb, 103 + 4 * i, none⟩))]) rfl rfl rfl rfl y_i y_i) rfl n_h ?_)
  rintro _ _ ⟨b3, rfl, rfl⟩
  refine DX rfl (aS (F := [(b3, _)]) (A := (lb, blk [va4, .bool r] 151) :: (G4 ++ [(mb, blk Z54.1 130)])) (R := (fun v H => v = .tuple #[] ∧ ∃ va' Gl', LineB 5 r va' (aJ r (.int 2) [101 + 4 * i, 102 + 4 * i, 103 + 4 * i] Z54).2 Gl' ∧ H = (lb, blk [va', .bool r] 151) :: (Gl' ++ [(mb, blk (aJ r (.int 2) [101 + 4 * i, 102 + 4 * i, 103 + 4 * i] Z54).1 130)]))) K_ rfl (fun w hw => xB r lb mb 2 y_b y_b va4 G4 Z54 hV4 [101 + 4 * i, 102 + 4 * i, 103 + 4 * i] (ag rfl) (hT54.ok.le (m := 6) o_m) 130 (hT54.fit (aDR hi4)) _ _ _ w (St.lentV hw) (fun _ => ⟨b3, 0, rfl, aA (b := b3) (mR_ _ (.head _)) w hw⟩) (fun p hp => y_bW))) rfl n_h ?_
  rintro _ _ ⟨_, ⟨rfl, va5, G5, hV5, rfl⟩, rfl⟩
  obtain ⟨Z66, hZ66⟩ : ∃ Z, Z = aJ r (.int 2) [101 + 4 * i, 102 + 4 * i, 103 + 4 * i] Z54 := ⟨_, rfl⟩
  have hT66 : eI r (7 * (4 - (i + 1))) Z66 := hZ66 ▸ (hT54.le (m := 6 + (7 * (4 - (i + 1)))) o_m).pass (k := (.int 2)) (os := [101 + 4 * i, 102 + 4 * i, 103 + 4 * i]) (n := (7 * (4 - (i + 1)))) (show 2 ≤ 4 by decide) (aDR hi4)
  rw [← hZ66] at hV5
  refine gL (fun w hw => (hw.sub (.cons _ sR_)).as (by rw [← hZ66]; rfl)) (H' := (lb, blk [va5, .bool r] 151) :: (G5 ++ [(mb, blk Z66.1 130)])) ?_
  refine ZAn ?_
  refine ZAD ?_
  exact ⟨(i + 1, va5, G5), ⟨y_B, by show LineB _ r va5 (aJ r (.int 2) _ (aJ r .bool _ (mC r Z40 i))).2 G5; rw [← hZ5, ← hZ54, ← hZ66]; exact hV5⟩, y_B, .cons rfl .nil, a_g, fun _ h => h.as (by show _ = (lb, _) :: (G5 ++ [(mb, blk (aJ r (.int 2) _ (aJ r .bool _ (mC r Z40 i))).1 _)]); rw [← hZ5, ← hZ54, ← hZ66])⟩
 refine ZBR ?_
 obtain rfl : i = 4 := by omega
 exact EN sR_ ⟨rfl, _, G3, by unfold qI; rw [← hZ16, ← hZ25, ← hZ40]; exact hV3, by unfold qI; rw [← hZ16, ← hZ25, ← hZ40]⟩
set_option maxHeartbeats 4000000 in
def aF7 (r : Bool) (lb mb rb nn rc : Nat) (hnn : nn ≤ 200000) (va : AH) (G : aB) (S : Ps) (hV : LineB 5 r va S.2 G) (hT : eI r (8482 + nn) S) (RL : AA) (hR : ∀ o ∈ cX 0 nn, Fit .byte RL o) (hrv : S.1[134]? = some (.slice (Q_ rb) nn rc)) (ms : AE) (w : AI) (hst : St w ms ((lb, blk [va, .bool r] 151) :: ((G ++ [(mb, blk S.1 130)]) ++ [(rb, blk RL 5)])) w) : aC prog 44 [P_ mb, P_ lb] w ms (fun v H => v = .tuple #[] ∧ ∃ va' Gl', LineB 5 r va' (aJ r .byte (cX 0 nn) (RL, (rR r S).2)).2 Gl' ∧ H = (lb, blk [va', .bool r] 151) :: ((Gl' ++ [(mb, blk (rR r S).1 130)]) ++ [(rb, blk (aJ r .byte (cX 0 nn) (RL, (rR r S).2)).1 5)])) := by
 refine dO_ func44 hst ?_
 refine ZBR ?_
 refine DR [] (pln [0, 2, 4, 6, 8, 10, 12, 14, 16, 18, 20, 22, 24, 26, 28, 30, 32, 34, 36, 38, 40]) ?_
 refine A_23 ?_
 refine DR [] (pln [0, 2, 4, 6, 8, 10, 12, 14, 16, 18, 20, 22, 24, 26, 28, 30, 32, 34, 36, 38, 40, 42, 44, 46, 48, 50, 52, 54, 56, 58, 60, 62, 64, 66, 68, 70, 72, 74, 76, 78, 80, 82, 84, 86, 88, 90, 92, 94, 96, 98, 100, 102, 104, 107, 109]) ?_
 refine A_53 ?_
 refine DX rfl (bX (z := [.pointer none]) (l := [P_ mb, .pointer (some ⟨mb, 1, none⟩), .pointer (some ⟨mb, 2, none⟩), .pointer (some ⟨mb, 3, none⟩), .pointer (some ⟨mb, 4, none⟩), .pointer (some ⟨mb, 5, none⟩), .pointer (some ⟨mb, 6, none⟩), .pointer (some ⟨mb, 7, none⟩), .pointer (some ⟨mb, 119, none⟩), .pointer (some ⟨mb, 120, none⟩), .pointer (some ⟨mb, 21, none⟩), .pointer (some ⟨mb, 39, none⟩), .pointer (some ⟨mb, 40, none⟩), .pointer (some ⟨mb, 47, none⟩)]) (ps := [(0, P_ mb), (1, .pointer (some ⟨mb, 1, none⟩)), (2, .pointer (some ⟨mb, 2, none⟩)), (3, .pointer (some ⟨mb, 3, none⟩)), (4, .pointer (some ⟨mb, 4, none⟩)), (5, .pointer (some ⟨mb, 5, none⟩)), (6, .pointer (some ⟨mb, 6, none⟩)), (7, .pointer (some ⟨mb, 7, none⟩)), (8, .pointer (some ⟨mb, 119, none⟩)), (9, .pointer (some ⟨mb, 120, none⟩)), (10, .pointer (some ⟨mb, 21, none⟩)), (11, .pointer (some ⟨mb, 39, none⟩)), (12, .pointer (some ⟨mb, 40, none⟩)), (13, .pointer (some ⟨mb, 47, none⟩))]) rfl rfl rfl rfl y_i y_i) rfl n_h (ZBz fun b0 => ?_)
 refine DX rfl (cB (F := [(b0, _)]) (A := (lb, blk [va, .bool r] 151) :: (G ++ [(mb, blk S.1 130)])) (G := [(rb, blk RL 5)]) (R := (fun v H => v = .tuple #[] ∧ ∃ va' Gl', LineB 5 r va' (aJ r .byte gA S).2 Gl' ∧ H = (lb, blk [va', .bool r] 151) :: (Gl' ++ [(mb, blk (aJ r .byte gA S).1 130)]))) K_ rfl (fun w hw hw2 => yW r lb mb va G S hV gA (ag rfl) (hT.ok.le (m := 14) o_m) 130 (hT.fit aMb) _ _ _ w hw (fun _ => ⟨b0, 0, rfl, aA (b := b0) (mR_ _ (.head _)) w hw2⟩) (fun p hp => y_bh))) rfl n_h ?_
 rintro _ _ ⟨_, ⟨rfl, va0, G0, hV0, rfl⟩, rfl⟩
 obtain ⟨Z79, hZ79⟩ : ∃ Z, Z = aJ r .byte gA S := ⟨_, rfl⟩
 have hT79 : eI r (8468 + nn) Z79 := hZ79 ▸ (hT.le (m := 14 + (8468 + nn)) o_m).pass (k := .byte) (os := gA) (n := (8468 + nn)) trivial aMb
 rw [← hZ79] at hV0
 refine gL (fun w hw => (hw.sub (.cons _ sR_)).as (by rw [← hZ79]; rfl)) (H' := (lb, blk [va0, .bool r] 151) :: ((G0 ++ [(mb, blk Z79.1 130)]) ++ [(rb, blk RL 5)])) ?_
 refine ZAn ?_
 refine DR [] (pln [0, 2, 4, 6, 8, 10, 12, 14, 16, 18, 21, 23]) ?_
 refine A_10 ?_
 refine DX rfl (bX (z := [.pointer none]) (l := [.pointer (some ⟨mb, 8, none⟩), .pointer (some ⟨mb, 9, none⟩), .pointer (some ⟨mb, 34, none⟩)]) (ps := [(0, .pointer (some ⟨mb, 8, none⟩)), (1, .pointer (some ⟨mb, 9, none⟩)), (2, .pointer (some ⟨mb, 34, none⟩))]) rfl rfl rfl rfl y_i y_i) rfl n_h ?_
 rintro _ _ ⟨b1, rfl, rfl⟩
 refine DX rfl (cB (F := [(b1, _)]) (A := (lb, blk [va0, .bool r] 151) :: (G0 ++ [(mb, blk Z79.1 130)])) (G := [(rb, blk RL 5)]) (R := (fun v H => v = .tuple #[] ∧ ∃ va' Gl', LineB 5 r va' (aJ r .word gW Z79).2 Gl' ∧ H = (lb, blk [va', .bool r] 151) :: (Gl' ++ [(mb, blk (aJ r .word gW Z79).1 130)]))) K_ rfl (fun w hw hw2 => aKG r lb mb va0 G0 Z79 hV0 gW (ag rfl) (hT79.ok.le (m := 6) o_m) 130 (hT79.fit aMY) _ _ _ w hw (fun _ => ⟨b1, 0, rfl, aA (b := b1) (mR_ _ (.head _)) w hw2⟩) (fun p hp => y_bh))) rfl n_h ?_
 rintro _ _ ⟨_, ⟨rfl, va1, G1, hV1, rfl⟩, rfl⟩
 obtain ⟨Z91, hZ91⟩ : ∃ Z, Z = aJ r .word gW Z79 := ⟨_, rfl⟩
 have hT91 : eI r (8462 + nn) Z91 := hZ91 ▸ (hT79.le (m := 6 + (8462 + nn)) o_m).pass (k := .word) (os := gW) (n := (8462 + nn)) trivial aMY
 rw [← hZ91] at hV1
 refine gL (fun w hw => (hw.sub (.cons _ sR_)).as (by rw [← hZ91]; rfl)) (H' := (lb, blk [va1, .bool r] 151) :: ((G1 ++ [(mb, blk Z91.1 130)]) ++ [(rb, blk RL 5)])) ?_
 refine ZAn ?_
 refine DR [] (pln [0, 2, 4, 6, 8, 10, 12, 14, 16, 18, 20, 22, 24, 26, 28, 30, 32, 34, 36, 38, 40, 42, 44, 46, 48, 50, 52, 54, 56, 58, 60, 62, 64, 66, 68, 70, 72, 74, 76, 78, 81, 83]) ?_
 refine A_40 ?_
 refine DX rfl (bX (z := [.pointer none]) (l := [.pointer (some ⟨mb, 10, none⟩), .pointer (some ⟨mb, 11, none⟩), .pointer (some ⟨mb, 12, none⟩), .pointer (some ⟨mb, 13, none⟩), .pointer (some ⟨mb, 17, none⟩), .pointer (some ⟨mb, 18, none⟩), .pointer (some ⟨mb, 38, none⟩), .pointer (some ⟨mb, 27, none⟩), .pointer (some ⟨mb, 28, none⟩)]) (ps := [(0, .pointer (some ⟨mb, 10, none⟩)), (1, .pointer (some ⟨mb, 11, none⟩)), (2, .pointer (some ⟨mb, 12, none⟩)), (3, .pointer (some ⟨mb, 13, none⟩)), (4, .pointer (some ⟨mb, 17, none⟩)), (5, .pointer (some ⟨mb, 18, none⟩)), (6, .pointer (some ⟨mb, 38, none⟩)), (7, .pointer (some ⟨mb, 27, none⟩)), (8, .pointer (some ⟨mb, 28, none⟩))]) rfl rfl rfl rfl y_i y_i) rfl n_h ?_
 rintro _ _ ⟨b2, rfl, rfl⟩
 refine DX rfl (cB (F := [(b2, _)]) (A := (lb, blk [va1, .bool r] 151) :: (G1 ++ [(mb, blk Z91.1 130)])) (G := [(rb, blk RL 5)]) (R := (fun v H => v = .tuple #[] ∧ ∃ va' Gl', LineB 5 r va' (aJ r .bool gB Z91).2 Gl' ∧ H = (lb, blk [va', .bool r] 151) :: (Gl' ++ [(mb, blk (aJ r .bool gB Z91).1 130)]))) K_ rfl (fun w hw hw2 => yL r lb mb va1 G1 Z91 hV1 gB (ag rfl) (hT91.ok.le (m := 9) o_m) 130 (hT91.fit aK7) _ _ _ w hw (fun _ => ⟨b2, 0, rfl, aA (b := b2) (mR_ _ (.head _)) w hw2⟩) (fun p hp => y_bh))) rfl n_h ?_
 rintro _ _ ⟨_, ⟨rfl, va2, G2, hV2, rfl⟩, rfl⟩
 obtain ⟨Z133, hZ133⟩ : ∃ Z, Z = aJ r .bool gB Z91 := ⟨_, rfl⟩
 have hT133 : eI r (8453 + nn) Z133 := hZ133 ▸ (hT91.le (m := 9 + (8453 + nn)) o_m).pass (k := .bool) (os := gB) (n := (8453 + nn)) trivial aK7
 rw [← hZ133] at hV2
 refine gL (fun w hw => (hw.sub (.cons _ sR_)).as (by rw [← hZ133]; rfl)) (H' := (lb, blk [va2, .bool r] 151) :: ((G2 ++ [(mb, blk Z133.1 130)]) ++ [(rb, blk RL 5)])) ?_
 refine A_8 ?_
 refine cE (fun w hw => hw.perm (c8 [(rb, blk RL 5)] (au (l₁ := (lb, blk [va2, .bool r] 151) :: G2) (l₂ := [_])))) (H' := ((mb, blk Z133.1 130) :: (lb, blk [va2, .bool r] 151) :: G2) ++ [(rb, blk RL 5)]) ?_
 refine RX (dY (A := (mb, blk Z133.1 130) :: (lb, blk [va2, .bool r] 151) :: G2) (G := [(rb, blk RL 5)]) (R := (fun v H => v = .tuple #[] ∧ ∃ va' Gl', LineB 5 r va' (pass1 r (.long 8) Z133 121).2 Gl' ∧ H = (mb, blk (pass1 r (.long 8) Z133 121).1 130) :: (lb, blk [va', .bool r] 151) :: Gl')) (((mb, blk Z133.1 130) :: (lb, blk [va2, .bool r] 151) :: G2).map (·.1)) K_ rfl (fun _ hb => eA hb) (wL_ (xE r lb mb 121 8 y_b va2 Z133.2 G2 hV2 Z133.1 (hT133.ok.le (m := 8) o_m) 130 (hT133.ty 121 _ y_b) _))) rfl ?_
 rintro _ _ ⟨_, ⟨rfl, va3, G3, hV3, rfl⟩, rfl⟩
 obtain ⟨Z139, hZ139⟩ : ∃ Z, Z = pass1 r (.long 8) Z133 121 := ⟨_, rfl⟩
 have hT139 : eI r (8445 + nn) Z139 := hZ139 ▸ (hT133.le (m := 8 + (8445 + nn)) o_m).one (k := .long 8) (n := (8445 + nn)) (show 8 ≤ 8 by decide) y_b
 rw [← hZ139] at hV3
 refine cE (fun w hw => (hw.perm (c8 [(rb, blk RL 5)] (au (l₁ := [_]) (l₂ := (lb, blk [va3, .bool r] 151) :: G3)))).as (by rw [← hZ139]; rfl)) (H' := (lb, blk [va3, .bool r] 151) :: ((G3 ++ [(mb, blk Z139.1 130)]) ++ [(rb, blk RL 5)])) ?_
 refine A_8 ?_
 refine cE (fun w hw => hw.perm (c8 [(rb, blk RL 5)] (au (l₁ := (lb, blk [va3, .bool r] 151) :: G3) (l₂ := [_])))) (H' := ((mb, blk Z139.1 130) :: (lb, blk [va3, .bool r] 151) :: G3) ++ [(rb, blk RL 5)]) ?_
 refine RX (dY (A := (mb, blk Z139.1 130) :: (lb, blk [va3, .bool r] 151) :: G3) (G := [(rb, blk RL 5)]) (R := (fun v H => v = .tuple #[] ∧ ∃ va' Gl', LineB 5 r va' (pass1 r (.long 8) Z139 122).2 Gl' ∧ H = (mb, blk (pass1 r (.long 8) Z139 122).1 130) :: (lb, blk [va', .bool r] 151) :: Gl')) (((mb, blk Z139.1 130) :: (lb, blk [va3, .bool r] 151) :: G3).map (·.1)) K_ rfl (fun _ hb => eA hb) (wL_ (xE r lb mb 122 8 y_b va3 Z139.2 G3 hV3 Z139.1 (hT139.ok.le (m := 8) o_m) 130 (hT139.ty 122 _ y_b) _))) rfl ?_
 rintro _ _ ⟨_, ⟨rfl, va4, G4, hV4, rfl⟩, rfl⟩
 obtain ⟨Z145, hZ145⟩ : ∃ Z, Z = pass1 r (.long 8) Z139 122 := ⟨_, rfl⟩
 have hT145 : eI r (8437 + nn) Z145 := hZ145 ▸ (hT139.le (m := 8 + (8437 + nn)) o_m).one (k := .long 8) (n := (8437 + nn)) (show 8 ≤ 8 by decide) y_b
 rw [← hZ145] at hV4
 refine cE (fun w hw => (hw.perm (c8 [(rb, blk RL 5)] (au (l₁ := [_]) (l₂ := (lb, blk [va4, .bool r] 151) :: G4)))).as (by rw [← hZ145]; rfl)) (H' := (lb, blk [va4, .bool r] 151) :: ((G4 ++ [(mb, blk Z145.1 130)]) ++ [(rb, blk RL 5)])) ?_
 refine ZAn ?_
 refine ZEA ?_
 refine DX rfl (bX (z := [.pointer none]) (l := [.pointer (some ⟨mb, 19, none⟩), .pointer (some ⟨mb, 20, none⟩), .pointer (some ⟨mb, 25, none⟩), .pointer (some ⟨mb, 44, none⟩), .pointer (some ⟨mb, 45, none⟩), .pointer (some ⟨mb, 46, none⟩), .pointer (some ⟨mb, 48, none⟩)]) (ps := [(0, .pointer (some ⟨mb, 19, none⟩)), (1, .pointer (some ⟨mb, 20, none⟩)), (2, .pointer (some ⟨mb, 25, none⟩)), (3, .pointer (some ⟨mb, 44, none⟩)), (4, .pointer (some ⟨mb, 45, none⟩)), (5, .pointer (some ⟨mb, 46, none⟩)), (6, .pointer (some ⟨mb, 48, none⟩))]) rfl rfl rfl rfl y_i y_i) rfl n_h ?_
 rintro _ _ ⟨b3, rfl, rfl⟩
 refine DX rfl (cB (F := [(b3, _)]) (A := (lb, blk [va4, .bool r] 151) :: (G4 ++ [(mb, blk Z145.1 130)])) (G := [(rb, blk RL 5)]) (R := (fun v H => v = .tuple #[] ∧ ∃ va' Gl', LineB 5 r va' (aJ r (.int 2) gI Z145).2 Gl' ∧ H = (lb, blk [va', .bool r] 151) :: (Gl' ++ [(mb, blk (aJ r (.int 2) gI Z145).1 130)]))) K_ rfl (fun w hw hw2 => xB r lb mb 2 y_b y_b va4 G4 Z145 hV4 gI (ag rfl) (hT145.ok.le (m := 14) o_m) 130 (hT145.fit aLL) _ _ _ w hw (fun _ => ⟨b3, 0, rfl, aA (b := b3) (mR_ _ (.head _)) w hw2⟩) (fun p hp => y_bh))) rfl n_h ?_
 rintro _ _ ⟨_, ⟨rfl, va5, G5, hV5, rfl⟩, rfl⟩
 obtain ⟨Z175, hZ175⟩ : ∃ Z, Z = aJ r (.int 2) gI Z145 := ⟨_, rfl⟩
 have hT175 : eI r (8423 + nn) Z175 := hZ175 ▸ (hT145.le (m := 14 + (8423 + nn)) o_m).pass (k := (.int 2)) (os := gI) (n := (8423 + nn)) (show 2 ≤ 4 by decide) aLL
 rw [← hZ175] at hV5
 refine gL (fun w hw => (hw.sub (.cons _ sR_)).as (by rw [← hZ175]; rfl)) (H' := (lb, blk [va5, .bool r] 151) :: ((G5 ++ [(mb, blk Z175.1 130)]) ++ [(rb, blk RL 5)])) ?_
 refine ZDR ?_
 refine RX (bX (z := [.pointer none]) (l := [.pointer (some ⟨mb, 26, none⟩)]) (ps := [(0, .pointer (some ⟨mb, 26, none⟩))]) rfl rfl rfl rfl y_i y_i) rfl ?_
 rintro _ _ ⟨b4, rfl, rfl⟩
 refine RX (cB (F := [(b4, _)]) (A := (lb, blk [va5, .bool r] 151) :: (G5 ++ [(mb, blk Z175.1 130)])) (G := [(rb, blk RL 5)]) (R := (fun v H => v = .tuple #[] ∧ ∃ va' Gl', LineB 5 r va' (aJ r (.int 4) [26] Z175).2 Gl' ∧ H = (lb, blk [va', .bool r] 151) :: (Gl' ++ [(mb, blk (aJ r (.int 4) [26] Z175).1 130)]))) K_ rfl (fun w hw hw2 => xB r lb mb 4 y_b y_b va5 G5 Z175 hV5 [26] (ag rfl) (hT175.ok.le (m := 4) o_m) 130 (hT175.fit (show ∀ o ∈ [26], tyM o = some (.int 4) by decide)) _ _ _ w hw (fun _ => ⟨b4, 0, rfl, aA (b := b4) (mR_ _ (.head _)) w hw2⟩) (fun p hp => y_bh))) rfl ?_
 rintro _ _ ⟨_, ⟨rfl, va6, G6, hV6, rfl⟩, rfl⟩
 obtain ⟨Z181, hZ181⟩ : ∃ Z, Z = aJ r (.int 4) [26] Z175 := ⟨_, rfl⟩
 have hT181 : eI r (8419 + nn) Z181 := hZ181 ▸ (hT175.le (m := 4 + (8419 + nn)) o_m).pass (k := (.int 4)) (os := [26]) (n := (8419 + nn)) (show 4 ≤ 4 by decide) (show ∀ o ∈ [26], tyM o = some (.int 4) by decide)
 rw [← hZ181] at hV6
 refine cE (fun w hw => (hw.sub (.cons _ sR_)).as (by rw [← hZ181]; rfl)) (H' := (lb, blk [va6, .bool r] 151) :: ((G6 ++ [(mb, blk Z181.1 130)]) ++ [(rb, blk RL 5)])) ?_
 refine ZAn ?_
 refine ZEA ?_
 refine DX rfl (bX (z := [.pointer none]) (l := [.pointer (some ⟨mb, 22, none⟩), .pointer (some ⟨mb, 23, none⟩), .pointer (some ⟨mb, 24, none⟩), .pointer (some ⟨mb, 35, none⟩), .pointer (some ⟨mb, 36, none⟩), .pointer (some ⟨mb, 37, none⟩), .pointer (some ⟨mb, 41, none⟩), .pointer (some ⟨mb, 42, none⟩), .pointer (some ⟨mb, 43, none⟩)]) (ps := [(0, .pointer (some ⟨mb, 22, none⟩)), (1, .pointer (some ⟨mb, 23, none⟩)), (2, .pointer (some ⟨mb, 24, none⟩)), (3, .pointer (some ⟨mb, 35, none⟩)), (4, .pointer (some ⟨mb, 36, none⟩)), (5, .pointer (some ⟨mb, 37, none⟩)), (6, .pointer (some ⟨mb, 41, none⟩)), (7, .pointer (some ⟨mb, 42, none⟩)), (8, .pointer (some ⟨mb, 43, none⟩))]) rfl rfl rfl rfl y_i y_i) rfl n_h ?_
 rintro _ _ ⟨b5, rfl, rfl⟩
 refine DX rfl (cB (F := [(b5, _)]) (A := (lb, blk [va6, .bool r] 151) :: (G6 ++ [(mb, blk Z181.1 130)])) (G := [(rb, blk RL 5)]) (R := (fun v H => v = .tuple #[] ∧ ∃ va' Gl', LineB 5 r va' (aJ r .byte gC Z181).2 Gl' ∧ H = (lb, blk [va', .bool r] 151) :: (Gl' ++ [(mb, blk (aJ r .byte gC Z181).1 130)]))) K_ rfl (fun w hw hw2 => yW r lb mb va6 G6 Z181 hV6 gC (ag rfl) (hT181.ok.le (m := 9) o_m) 130 (hT181.fit aLD) _ _ _ w hw (fun _ => ⟨b5, 0, rfl, aA (b := b5) (mR_ _ (.head _)) w hw2⟩) (fun p hp => y_bh))) rfl n_h ?_
 rintro _ _ ⟨_, ⟨rfl, va7, G7, hV7, rfl⟩, rfl⟩
 obtain ⟨Z211, hZ211⟩ : ∃ Z, Z = aJ r .byte gC Z181 := ⟨_, rfl⟩
 have hT211 : eI r (8410 + nn) Z211 := hZ211 ▸ (hT181.le (m := 9 + (8410 + nn)) o_m).pass (k := .byte) (os := gC) (n := (8410 + nn)) trivial aLD
 rw [← hZ211] at hV7
 refine gL (fun w hw => (hw.sub (.cons _ sR_)).as (by rw [← hZ211]; rfl)) (H' := (lb, blk [va7, .bool r] 151) :: ((G7 ++ [(mb, blk Z211.1 130)]) ++ [(rb, blk RL 5)])) ?_
 refine ZDR ?_
 refine RW (v := (.slice (some ⟨mb, 29, none⟩) 5 5)) (fO 0 5 rfl rfl rfl rfl rfl rfl y_b y_b) rfl rfl (RX (dY (A := (lb, blk [va7, .bool r] 151) :: (G7 ++ [(mb, blk Z211.1 130)])) (G := [(rb, blk RL 5)]) (R := (fun v H => v = .tuple #[] ∧ ∃ va' Gl', LineB 5 r va' (aJ r .byte (cX 29 5) Z211).2 Gl' ∧ H = (lb, blk [va', .bool r] 151) :: (Gl' ++ [(mb, blk (aJ r .byte (cX 29 5) Z211).1 130)]))) (((lb, blk [va7, .bool r] 151) :: (G7 ++ [(mb, blk Z211.1 130)])).map (·.1)) K_ rfl (fun _ hb => eA hb) (wL_ (sW r lb mb 29 5 y_b va7 G7 Z211 hV7 (hT211.ok.le (m := 5) o_m) 130 (hT211.fit aB9) _ _))) rfl ?_)
 rintro _ _ ⟨_, ⟨rfl, va8, G8, hV8, rfl⟩, rfl⟩
 obtain ⟨Z217, hZ217⟩ : ∃ Z, Z = aJ r .byte (cX 29 5) Z211 := ⟨_, rfl⟩
 have hT217 : eI r (8405 + nn) Z217 := hZ217 ▸ (hT211.le (m := 5 * 1 + (8405 + nn)) o_m).pass (k := .byte) (os := cX 29 5) (n := (8405 + nn)) trivial aB9
 rw [← hZ217] at hV8
 refine cE (fun w hw => hw.as (by rw [← hZ217]; rfl)) (H' := (lb, blk [va8, .bool r] 151) :: ((G8 ++ [(mb, blk Z217.1 130)]) ++ [(rb, blk RL 5)])) ?_
 refine ZBx ?_
 refine RX (dY (A := (lb, blk [va8, .bool r] 151) :: (G8 ++ [(mb, blk Z217.1 130)])) (G := [(rb, blk RL 5)]) (R := (fun v H => v = .tuple #[] ∧ ∃ va' Gl', LineB 5 r va' (qI r Z217).2 Gl' ∧ H = (lb, blk [va', .bool r] 151) :: (Gl' ++ [(mb, blk (qI r Z217).1 130)]))) (((lb, blk [va8, .bool r] 151) :: (G8 ++ [(mb, blk Z217.1 130)])).map (·.1)) K_ rfl (fun _ hb => eA hb) (wL_ (aHG r lb mb va8 G8 Z217 hV8 (hT217.le (m := 86) o_m) _))) rfl ?_
 rintro _ _ ⟨_, ⟨rfl, va9, G9, hV9, rfl⟩, rfl⟩
 obtain ⟨Z220, hZ220⟩ : ∃ Z, Z = qI r Z217 := ⟨_, rfl⟩
 have hT220 : eI r (8319 + nn) Z220 := hZ220 ▸ (hT217.le (m := 86 + (8319 + nn)) o_m).board
 rw [← hZ220] at hV9
 refine cE (fun w hw => hw.as (by rw [← hZ220]; rfl)) (H' := (lb, blk [va9, .bool r] 151) :: ((G9 ++ [(mb, blk Z220.1 130)]) ++ [(rb, blk RL 5)])) ?_
 refine ZDR ?_
 refine RW (v := (.slice (some ⟨mb, 135, none⟩) 8192 8192)) (fO 0 8192 rfl rfl rfl rfl rfl rfl y_b y_b) rfl rfl (RX (dY (A := (lb, blk [va9, .bool r] 151) :: (G9 ++ [(mb, blk Z220.1 130)])) (G := [(rb, blk RL 5)]) (R := (fun v H => v = .tuple #[] ∧ ∃ va' Gl', LineB 5 r va' (aJ r .byte (cX 135 8192) Z220).2 Gl' ∧ H = (lb, blk [va', .bool r] 151) :: (Gl' ++ [(mb, blk (aJ r .byte (cX 135 8192) Z220).1 130)]))) (((lb, blk [va9, .bool r] 151) :: (G9 ++ [(mb, blk Z220.1 130)])).map (·.1)) K_ rfl (fun _ hb => eA hb) (wL_ (sW r lb mb 135 8192 y_b va9 G9 Z220 hV9 (hT220.ok.le (m := 8192) o_m) 130 (hT220.fit aAp) _ _))) rfl ?_)
 rintro _ _ ⟨_, ⟨rfl, va10, G10, hV10, rfl⟩, rfl⟩
 obtain ⟨Z226, hZ226⟩ : ∃ Z, Z = aJ r .byte (cX 135 8192) Z220 := ⟨_, rfl⟩
 have hT226 : eI r (127 + nn) Z226 := hZ226 ▸ (hT220.le (m := 8192 * 1 + (127 + nn)) o_m).pass (k := .byte) (os := cX 135 8192) (n := (127 + nn)) trivial aAp
 rw [← hZ226] at hV10
 refine cE (fun w hw => hw.as (by rw [← hZ226]; rfl)) (H' := (lb, blk [va10, .bool r] 151) :: ((G10 ++ [(mb, blk Z226.1 130)]) ++ [(rb, blk RL 5)])) ?_
 refine ZDR ?_
 refine RW (v := (.slice (some ⟨mb, 8327, none⟩) 127 127)) (fO 0 127 rfl rfl rfl rfl rfl rfl y_b y_b) rfl rfl (RX (dY (A := (lb, blk [va10, .bool r] 151) :: (G10 ++ [(mb, blk Z226.1 130)])) (G := [(rb, blk RL 5)]) (R := (fun v H => v = .tuple #[] ∧ ∃ va' Gl', LineB 5 r va' (aJ r .byte (cX 8327 127) Z226).2 Gl' ∧ H = (lb, blk [va', .bool r] 151) :: (Gl' ++ [(mb, blk (aJ r .byte (cX 8327 127) Z226).1 130)]))) (((lb, blk [va10, .bool r] 151) :: (G10 ++ [(mb, blk Z226.1 130)])).map (·.1)) K_ rfl (fun _ hb => eA hb) (wL_ (sW r lb mb 8327 127 y_b va10 G10 Z226 hV10 (hT226.ok.le (m := 127) o_m) 130 (hT226.fit aAv) _ _))) rfl ?_)
 rintro _ _ ⟨_, ⟨rfl, va11, G11, hV11, rfl⟩, rfl⟩
 obtain ⟨Z232, hZ232⟩ : ∃ Z, Z = aJ r .byte (cX 8327 127) Z226 := ⟨_, rfl⟩
 have hT232 : eI r nn Z232 := hZ232 ▸ (hT226.le (m := 127 * 1 + nn) o_m).pass (k := .byte) (os := cX 8327 127) (n := nn) trivial aAv
 rw [← hZ232] at hV11
 refine cE (fun w hw => hw.as (by rw [← hZ232]; rfl)) (H' := (lb, blk [va11, .bool r] 151) :: ((G11 ++ [(mb, blk Z232.1 130)]) ++ [(rb, blk RL 5)])) ?_
 refine ZBR ?_
 have hr9 : Z232.1[134]? = some (.slice (Q_ rb) nn rc) := by
  rw [hZ232, hZ226, hZ220, hZ217, hZ211, hZ181, hZ175, hZ145, hZ139, hZ133, hZ91, hZ79]; exact (aJK r S y_b hT.ty hT.ok.byts).trans hrv
 refine ZBx ?_
 refine RZ (aH rfl rfl (aT (v := .slice (Q_ rb) nn rc) (.tail _ (mL_ _ (mR_ _ (.head _)))) hr9)) rfl (cE (fun w hw => hw.perm (List.Perm.cons _ (aFd G11 _ _))) (H' := ((lb, blk [va11, .bool r] 151) :: (G11 ++ [(rb, blk RL 5)])) ++ [(mb, blk Z232.1 130)]) ?_)
 refine RX (dY (A := (lb, blk [va11, .bool r] 151) :: (G11 ++ [(rb, blk RL 5)])) (G := [(mb, blk Z232.1 130)]) (R := fun v H => v = .tuple #[] ∧ ∃ va' Gl', LineB 5 r va' (aJ r .byte (cX 0 nn) (RL, Z232.2)).2 Gl' ∧ H = (lb, blk [va', .bool r] 151) :: (Gl' ++ [(rb, blk (aJ r .byte (cX 0 nn) (RL, Z232.2)).1 5)])) (((lb, blk [va11, .bool r] 151) :: (G11 ++ [(rb, blk RL 5)])).map (·.1)) K_ rfl (fun _ hb => eA hb) (wL_ (sW r lb rb 0 nn o_m va11 G11 (RL, Z232.2) hV11 ⟨hT232.ok.byts, hT232.ok.en, hT232.ok.sz⟩ 5 hR _ _))) rfl ?_
 rintro _ _ ⟨_, ⟨rfl, va12, G12, hV12, rfl⟩, rfl⟩
 refine cE (fun w hw => hw.perm (List.Perm.cons _ (aFd G12 _ _))) (H' := (lb, blk [va12, .bool r] 151) :: ((G12 ++ [(mb, blk Z232.1 130)]) ++ [(rb, blk (aJ r .byte (cX 0 nn) (RL, Z232.2)).1 5)])) ?_
 refine ZBR ?_
 exact EN sR_ ⟨rfl, va12, G12, by unfold rR aBu; rw [← hZ79, ← hZ91, ← hZ133, ← hZ139, ← hZ145, ← hZ175, ← hZ181, ← hZ211, ← hZ217, ← hZ220, ← hZ226, ← hZ232]; exact hV12, by unfold rR aBu; rw [← hZ79, ← hZ91, ← hZ133, ← hZ139, ← hZ145, ← hZ175, ← hZ181, ← hZ211, ← hZ217, ← hZ220, ← hZ226, ← hZ232]⟩
def aIf (A : Ad) (acc : AH) (m : Mm) (h : m.Wf) (hr : m.cpu.r.Ok) (hrl : m.ram.length ≤ 200000) (ms : AE) (w : AI) (hst : St w ms [(A.mb, blk (cMm A acc m) 130), (A.rb, blk (m.ram.map U_ ++ A.rs) 5)] w) (hu : Row w A.ub 0 (cU m.u)) (hub : A.ub ∉ ms) : aC prog 20 [P_ A.mb] w ms (fun v H => ∃ b c sp, v = .slice (Q_ b) (fY m).length c ∧ (fY m).length ≤ c ∧ H = (b, blk ((fY m).map U_ ++ sp) 5) :: [(A.mb, blk (cMm A acc m) 130), (A.rb, blk (m.ram.map U_ ++ A.rs) 5)]) := by
 refine dO_ func20 hst ?_
 refine A_8 ?_
 refine ZAY ?_
 refine ZBx ?_
 refine RS ?_
 refine RX (dC (l := [.slice none 0 0, .bool false]) rfl rfl) rfl (ZBz fun b0 => ?_)
 refine ZB6 ?_
 have hml := aAF h
 have hbl : (lY m ++ m.ram).length = 8482 + m.ram.length := by rw [La_, hml]
 refine ZAn ?_
 refine RX (aS (F := []) (A := (b0, blk [.slice none 0 0, .bool false] 151) :: ((([] : aB) ++ [(A.mb, blk (cMm A acc m) 130)]) ++ [(A.rb, blk (m.ram.map U_ ++ A.rs) 5)])) (R := fun v H => v = .tuple #[] ∧ ∃ va' Gl', Vec 5 1 va' (lY m ++ m.ram).length ((lY m ++ m.ram).map U_) Gl' ∧ H = (b0, blk [va', .bool false] 151) :: ((Gl' ++ [(A.mb, blk (cMm A acc m) 130)]) ++ [(A.rb, blk (m.ram.map U_ ++ A.rs) 5)])) K_ rfl (fun w hw => (aF7 false b0 A.mb A.rb m.ram.length A.rc hrl (.slice none 0 0) [] (cMm A acc m, []) .nil ⟨aJh h hr, ⟨fun x hx => (by cases hx), fun hx => (by cases hx), (by show 0 + _ ≤ _; omega)⟩⟩ (m.ram.map U_ ++ A.rs) (aPZ h A.rs) (get_mid h.ln (j := 15) rfl) _ w (St.lentV (G := []) hw)).mono fun v H ⟨e1, va', Gl', e2, e3⟩ => ⟨e1, va', Gl', (by rw [aBx, aGT h, aMc h] at e2; exact e2), (by rw [aBx, aGT h] at e3; exact e3)⟩)) rfl ?_
 rintro _ _ ⟨_, ⟨rfl, va0, G0, hV0, rfl⟩, rfl⟩
 obtain ⟨a8, c0, rfl⟩ := hV0.slice
 refine cE (H' := (b0, blk [(.slice a8 (lY m ++ m.ram).length c0), .bool false] 151) :: ((G0 ++ [(A.mb, blk (cMm A acc m) 130)]) ++ [(A.rb, blk (m.ram.map U_ ++ A.rs) 5)])) (fun _ h => h) ?_
 refine ZAn ?_
 refine DR [4, 5, 6, 7, 8] (pln [0, 2, 4, 6, 8, 10, 12, 14, 17, 19, 20]) ?_
 refine ZBB ?_
 refine DL rfl rfl rfl (cZ (v := (.slice a8 (lY m ++ m.ram).length c0)) m_m rfl) rfl (ZBB ?_)
 refine DL rfl rfl rfl (cZ (v := P_ A.ub) (.tail _ (mL_ _ (mR_ _ (.head _)))) (get_mid (m := m) h.ln (j := 14) rfl)) rfl (DX rfl (dE K_ rfl (fun w hw => aQ0 A.ub m.u h.u.wf w (aR hu hub w hw))) rfl (by intro _ _ _ hK; obtain ⟨G19, _, rfl⟩ := hK; exact fun x hx => mR_ _ hx) ?_)
 rintro v0 _ ⟨G1, hV1, rfl⟩
 have hul := aAS h.u.wf
 obtain ⟨b1, cx1, sp0, rfl, rfl, hc0, hle19, hm19⟩ := hV1.full o_m
 refine gL (fun w hw => hw.as (by simp only [As_, cg, bw])) (H' := [(b1, blk ((fU m.u).map U_ ++ sp0) 5), (b0, blk [(.slice a8 (lY m ++ m.ram).length c0), .bool false] 151)] ++ (G0 ++ [(A.mb, blk (cMm A acc m) 130), (A.rb, blk (m.ram.map U_ ++ A.rs) 5)])) ?_
 refine DX rfl (gD (A := [(b1, _), (b0, _)]) (G := G0) (R := [(A.mb, blk (cMm A acc m) 130), (A.rb, blk (m.ram.map U_ ++ A.rs) 5)]) (v := (.slice a8 (lY m ++ m.ram).length c0)) (n := (lY m ++ m.ram).length) (xs := (lY m ++ m.ram).map U_) (m := (fU m.u).length) (T := 5) (s := 1) (by_ := 1) (ys := (fU m.u).map U_) rfl rfl rfl rfl hV0 (fun w hw => .row _ _ _ _ _ y_v (Row.left (aA (b := b1) (.head _) w hw))) (jF _ _) o_m o_m) rfl n_h ?_
 rintro v1 _ ⟨G2, hV2, _, rfl⟩
 obtain ⟨b2, c2, sp1, rfl, rfl, hc1, hle20, hm20⟩ := hV2.full o_m
 refine ZBB ?_
 exact EV rfl (.cons_cons _ (.cons _ (.cons _ sR_))) ⟨b2, c2, sp1, cA_ (fun z => Value.slice (Q_ b2) z c2) (by unfold fY; simp only [La_, As_, dg]), (by unfold fY; simp only [La_] at hle20 ⊢; omega), (by unfold fY; simp only [aw, As_]; rfl)⟩
set_option maxHeartbeats 2000000 in
def aEQ (a : AC) (c : Nat) (l : AB) (hl : l.length ≤ 100000000) (hb : aY l) (hlc : l.length ≤ c) (w : AI) (hB : Ns w .u8 a l) : aC prog 41 [.slice a l.length c] w [] (V_ (.tuple #[.agg (cHd (if errH l = 0 then hdH l else zHd)).toArray, .int .i64 (errH l)])) := by
 refine dR_ func41 ?_
 refine ZAn ?_
 refine RX (bY (l := cHd zHd) rfl) rfl (ZBz fun b0 => ?_)
 refine ZB6 ?_
 refine RY (jW (l := [.int .i64 0, .int .i64 2048, .int .i64 8192, .int .i64 32768, .int .i64 131072, .int .i64 65536]) (z := [.int .i64 0, .int .i64 0, .int .i64 0, .int .i64 0, .int .i64 0, .int .i64 0]) (ps := [(0, .int .i64 0), (1, .int .i64 2048), (2, .int .i64 8192), (3, .int .i64 32768), (4, .int .i64 131072), (5, .int .i64 65536)]) rfl rfl rfl y_i) rfl (RX (bY (l := (List.replicate 6 (0 : Int)).map (Value.int .i64)) rfl) rfl ?_)
 rintro _ _ ⟨b1, rfl, rfl⟩
 refine RZ (xS_ (l' := sizesH.map (Value.int .i64)) 0) rfl (ZAB ?_)
 refine ZBx ?_
 refine ZEd ?_
 refine KC (fun q0 z0 => ?_) (fun q0 z0 => ?_)
 ·refine ZAn ?_
  refine RS ?_
  refine RZ (xS_ (l' := cHd zHd) 1) rfl (ZAB ?_)
  refine ZBB ?_
  have e9 : errH l = 2 := by unfold errH; rw [if_pos o_m]
  exact aF (fun w hw => bC rfl rfl rfl (aA (b := b0) (l := cHd zHd) m_m w hw) rfl) ⟨rfl, y_ef⟩
 refine ZBR ?_
 refine pJ (σ := Nat) [5, 6, 15, 16, 17, 18, 19, 20, 21, 22] (fun b => [(5, P_ b), (6, .bool (sortH (l.getD 327 0)).isSome)]) (fun b => [(b, blk (cSrt ((sortH (l.getD 327 0)).getD (0, false, false))) 194), (b1, blk (sizesH.map (Value.int .i64)) 192), (b0, blk (cHd zHd) 125)]) (fun _ => True) ?_ ?_
 ·obtain ⟨ba, oa, rfl, hra⟩ := hB.row (i := 0) o_m
  have hb7 := hb.get 327
  have hb8 := hb.get 328
  have hb9 := hb.get 329
  have hb4 := hb.get 334
  have hb5 := hb.get 335
  have hcut : cut1 oa 308 c = oa + 308 := sA o_m
  have hl15 : ((l.drop 308).take 15).length = 15 := by rw [Lt_, Ld_]; omega
  refine DR [0, 8] (.step true 1 (.step true 2 (.step true 3 (.fork 0 (.fork 4 (.step true 5 (.step true 6 (.step true 7 (.step false 8 (.step false 9 (.step true 10 .done)))))) (.fork 8 (.step false 4 (.step true 5 (.step true 6 (.step true 7 (.step false 9 (.step true 10 .done)))))) .stop)) (.fork 8 (.step false 0 (.step false 4 (.step true 5 (.step true 6 (.step true 7 (.step false 9 (.step true 10 .done))))))) .stop))))) ?_
  refine ZBR ?_
  refine DY rfl (aV (n := l.length) 327 rfl rfl rfl rfl o_m) rfl (DL rfl rfl rfl (fG (hra _ _ (dL (j := 327) o_m)) y_v) rfl (lC ?_ ?_))
  ·refine DX rfl (dE K_ rfl (wQ_ aEc)) rfl y_C ?_
   rintro _ _ ⟨_, ⟨b2, rfl, rfl⟩, rfl⟩
   refine ZB4 ?_
   refine lC ?_ ?_
   ·refine ZD1 ?_
    refine ZBh ?_
    refine ZAn ?_
    refine DX rfl (bY (l := cSrt (0, false, false)) rfl) rfl y_o ?_
    rintro _ _ ⟨b3, rfl, rfl⟩
    refine DZ rfl y_7 rfl n_h (ZCR ?_)
    exact ⟨b3, trivial, .cons rfl (.cons rfl .nil), a_g, fun _ h => y_bV⟩
   refine lC ?_ ?_
   ·refine DX rfl (bY (l := cSrt (0, false, false)) rfl) rfl y_o ?_
    rintro _ _ ⟨b3, rfl, rfl⟩
    refine ZD1 ?_
    refine ZBh ?_
    refine ZAn ?_
    refine DZ rfl y_7 rfl n_h (ZCR ?_)
    exact ⟨b3, trivial, .cons rfl (.cons rfl .nil), a_g, fun _ h => y_bV⟩
   exact vQ
  refine lC ?_ ?_
  ·refine DX rfl (bY (l := cSrt (0, false, false)) rfl) rfl y_o ?_
   rintro _ _ ⟨b2, rfl, rfl⟩
   refine DX rfl (dE K_ rfl (wQ_ aEc)) rfl y_C ?_
   rintro _ _ ⟨_, ⟨b3, rfl, rfl⟩, rfl⟩
   refine ZB4 ?_
   refine DZ rfl (aFB (k := .u8) (l := sortE) (c := 19) (b := b3) (z := .agg (cSrt (0, false, false)).toArray) rfl rfl rfl rfl m_m) rfl n_h ?_
   rw [sort_ask]
   refine ZBh ?_
   refine ZAn ?_
   refine DZ rfl y_7 rfl n_h (ZCR ?_)
   exact ⟨b2, trivial, .cons rfl (.cons rfl .nil), a_g, fun _ h => y_bV⟩
  exact vQ
 rintro b2 y4 _
 obtain ⟨ba, oa, rfl, hra⟩ := hB.row (i := 0) o_m
 have hb7 := hb.get 327
 have hb8 := hb.get 328
 have hb9 := hb.get 329
 have hb4 := hb.get 334
 have hb5 := hb.get 335
 have hcut : cut1 oa 308 c = oa + 308 := sA o_m
 have hl15 : ((l.drop 308).take 15).length = 15 := by rw [Lt_, Ld_]; omega
 refine ZBR ?_
 refine DR [3, 4, 5, 6, 7] (pln [0, 2, 4, 6, 8, 10, 12, 14, 16]) ?_
 refine ZBR ?_
 refine DY rfl (aV (n := l.length) 328 rfl rfl rfl rfl o_m) rfl (DL rfl rfl rfl (fG (hra _ _ (dL (j := 328) o_m)) y_v) rfl (ZBR ?_))
 refine DY rfl (aV (n := l.length) 329 rfl rfl rfl rfl o_m) rfl (DL rfl rfl rfl (fG (hra _ _ (dL (j := 329) o_m)) y_v) rfl (DW (v := (.int .i64 (l.getD 329 0))) rfl (dM rfl rfl rfl) rfl (lL o_m o_m) (ZB2 ?_)))
 refine DR [3, 4] (pln [0, 2, 4, 6, 9, 10, 12]) ?_
 refine ZBR ?_
 refine DY rfl (aV (n := l.length) 333 rfl rfl rfl rfl o_m) rfl (DL rfl rfl rfl (fG (hra _ _ (dL (j := 333) o_m)) y_v) rfl (ZBR ?_))
 refine DZ rfl (aZ K_ rfl (fun w hw => aMX (some ⟨ba, oa, none⟩) c l hl hb w (hB.later0 hw) o_m)) rfl y_c ?_
 rw [if_neg (show ¬ l.length < 336 by omega)]
 refine ZBB ?_
 refine KC (fun q1 z1 => ?_) (fun q1 z1 => ?_)
 ·refine ZAn ?_
  refine ZDX ?_
  refine ZAB ?_
  refine ZBB ?_
  have e9 : errH l = 4 := by unfold errH; rw [if_neg o_m, if_pos y_bi]
  exact aF (fun w hw => bC rfl rfl rfl (aA (b := b0) (l := cHd zHd) m_m w hw) rfl) ⟨rfl, y_ef⟩
 refine ZB2 ?_
 refine KC (fun q2 z2 => ?_) (fun q2 z2 => ?_)
 ·refine ZAn ?_
  refine ZDX ?_
  refine ZAB ?_
  refine ZBB ?_
  have e9 : errH l = 5 := by unfold errH; rw [if_neg o_m, if_neg y_bi]; rw [show sortH (l.getD 327 0) = none from by cases hh : sortH (l.getD 327 0) with | none => rfl | some s => (rw [hh] at q2; cases q2)]
  exact aF (fun w hw => bC rfl rfl rfl (aA (b := b0) (l := cHd zHd) m_m w hw) rfl) ⟨rfl, y_ef⟩
 refine ZBR ?_
 obtain ⟨s9, hs0⟩ : ∃ s, sortH (l.getD 327 0) = some s := by
  cases hh : sortH (l.getD 327 0) with
  | none => rw [hh] at q2; cases q2
  | some s => exact ⟨s, rfl⟩
 refine ZBB ?_
 refine KL (fun q3 z3 => ?_) (fun q3 z3 => ?_)
 ·refine A_8 ?_
  refine ZDX ?_
  refine ZAB ?_
  refine ZBB ?_
  exact ZCV
 refine ZBx ?_
 refine KC (fun q4 z4 => ?_) (fun q4 z4 => ?_)
 ·refine ZAn ?_
  refine ZDX ?_
  refine ZAB ?_
  refine ZBB ?_
  exact ZCV
 refine ZBB ?_
 refine RY l_n rfl (ZBR ?_)
 refine RW (v := (.int .i64 (32768 * 2 ^ (l.getD 328 0).toNat))) (dJ rfl rfl o_m) rfl (cA_ _ (aE0 (.inr rfl) ⟨y_B, y_B⟩)) (ZBB ?_)
 refine KC (fun q5 z5 => ?_) (fun q5 z5 => ?_)
 ·refine ZAn ?_
  refine ZDX ?_
  refine ZAB ?_
  refine ZBB ?_
  have e9 : errH l = 6 := by unfold errH; rw [if_neg o_m, if_neg y_bi]; rw [hs0]; dsimp only; rw [if_neg o_m, if_pos (by simpa using q5)]
  exact aF (fun w hw => bC rfl rfl rfl (aA (b := b0) (l := cHd zHd) m_m w hw) rfl) ⟨rfl, y_ef⟩
 refine ZBR ?_
 refine pJ (σ := Nat) [9, 57, 58, 59, 60, 61, 62, 63, 64, 65, 66, 67, 68, 69, 70, 71] (fun b => [(9, P_ b)]) (fun b => [(b, blk (cHd ⟨(nameH ((l.drop 308).take 15)), ((sortH (l.getD 327 0)).getD (0, false, false)).1, ((sortH (l.getD 327 0)).getD (0, false, false)).2.1, ((sortH (l.getD 327 0)).getD (0, false, false)).2.2, 2 * 2 ^ (l.getD 328 0).toNat, (sizesH.getD (l.getD 329 0).toNat 0), false⟩) 125), (b0, blk (cHd zHd) 125)]) (fun _ => True) ?_ ?_
 ·refine DR [2, 5, 6, 7, 8, 9, 10, 11, 12, 13, 15] (.step true 0 (.step true 1 (.step true 3 (.step true 4 (.step true 5 (.step true 6 (.step true 7 (.step true 8 (.step true 9 (.step true 10 (.step true 11 (.step true 12 (.step true 13 (.fork 2 (.step true 14 (.step false 15 (.step false 16 .done))) (.fork 15 (.step false 2 (.step true 14 (.step false 16 .done))) .stop))))))))))))))) ?_
  refine ZBR ?_
  refine DW (v := (.slice (some ⟨ba, oa + 308, none⟩) ((l.drop 308).take 15).length (c - 308))) rfl (gE 308 323 rfl rfl rfl rfl rfl rfl y_b o_m) rfl (by rw [hcut, hl15]) (ZDR ?_)
  refine DW (v := (.int .i64 (2 * 2 ^ (l.getD 328 0).toNat))) rfl (dJ rfl rfl o_m) rfl (cA_ _ (aE0 (.inl rfl) ⟨y_B, y_B⟩)) (ZBR ?_)
  refine DY rfl (aM (l.getD 329 0).toNat rfl rfl rfl o_m o_m) rfl (DL rfl rfl rfl (cZ (v := .int .i64 (sizesH.getD (l.getD 329 0).toNat 0)) m_m (by rw [az]; exact dL (by show _ < 6; omega))) rfl (lC ?_ ?_))
  ·refine ZCG ?_
   refine DX rfl (bY (l := cHd zHd) rfl) rfl y_o ?_
   rintro _ _ ⟨b3, rfl, rfl⟩
   refine ZBs ?_
   exact ZEF
  refine lC ?_ ?_
  ·refine DX rfl (bY (l := cHd zHd) rfl) rfl y_o ?_
   rintro _ _ ⟨b3, rfl, rfl⟩
   refine ZCG ?_
   refine ZBs ?_
   exact ZEF
  exact vQ
 rintro b3 y14 _
 refine ZDR ?_
 refine KC (fun q6 z6 => ?_) (fun q6 z6 => ?_)
 ·refine ZAn ?_
  refine RZ (xS_ (l' := cHd ⟨(nameH ((l.drop 308).take 15)), ((sortH (l.getD 327 0)).getD (0, false, false)).1, ((sortH (l.getD 327 0)).getD (0, false, false)).2.1, ((sortH (l.getD 327 0)).getD (0, false, false)).2.2, 2 * 2 ^ (l.getD 328 0).toNat, 512, false⟩) 0) rfl (ZCR ?_)
  refine eP (L' := [(b3, blk (cHd ⟨(nameH ((l.drop 308).take 15)), ((sortH (l.getD 327 0)).getD (0, false, false)).1, ((sortH (l.getD 327 0)).getD (0, false, false)).2.1, ((sortH (l.getD 327 0)).getD (0, false, false)).2.2, 2 * 2 ^ (l.getD 328 0).toNat, wU ((sortH (l.getD 327 0)).getD (0, false, false)).1 (l.getD 329 0), false⟩) 125), (b0, blk (cHd zHd) 125)]) (fun _ h => h.as (by rw [show wU ((sortH (l.getD 327 0)).getD (0, false, false)).1 (l.getD 329 0) = 512 from if_pos (by simpa using q6)])) ?_
  refine DR [5, 6, 7, 8, 10, 11] (pln [0, 2, 4, 6, 8, 10, 12, 14, 16, 18, 20, 23, 24, 26, 29]) ?_
  refine ZBR ?_
  refine DY rfl (aV (n := l.length) 334 rfl rfl rfl rfl o_m) rfl (ZEG ?_)
  refine ZBR ?_
  refine DY rfl (aV (n := l.length) 335 rfl rfl rfl rfl o_m) rfl (ZBn ?_)
  refine DW (v := (.int .u16 (l.getD 334 0 * 256 + l.getD 335 0))) rfl (cM rfl rfl) rfl (cA_ _ (rG hb4 hb5)) (ZBR ?_)
  refine ZDz ?_
  refine ZAn ?_
  refine DZ rfl (xS_ (l' := cHd (hdH l)) 0) rfl n_h (ZAB ?_)
  refine ZBB ?_
  refine RZ (aL rfl rfl rfl (aA (b := b3) (l := cHd (hdH l)) m_m)) rfl (RZ (xS_ (l' := cHd (hdH l)) 1) rfl (ZAB ?_))
  refine ZBB ?_
  exact ZB5
 refine ZAn ?_
 refine eP (L' := [(b3, blk (cHd ⟨(nameH ((l.drop 308).take 15)), ((sortH (l.getD 327 0)).getD (0, false, false)).1, ((sortH (l.getD 327 0)).getD (0, false, false)).2.1, ((sortH (l.getD 327 0)).getD (0, false, false)).2.2, 2 * 2 ^ (l.getD 328 0).toNat, wU ((sortH (l.getD 327 0)).getD (0, false, false)).1 (l.getD 329 0), false⟩) 125), (b0, blk (cHd zHd) 125)]) (fun _ h => h.as (by rw [← aIZ (k := ((sortH (l.getD 327 0)).getD (0, false, false)).1) (by simpa using q6) ⟨hb9.1, y_B⟩])) ?_
 refine DR [5, 6, 7, 8, 10, 11] (pln [0, 2, 4, 6, 8, 10, 12, 14, 16, 18, 20, 23, 24, 26, 29]) ?_
 refine ZBR ?_
 refine DY rfl (aV (n := l.length) 334 rfl rfl rfl rfl o_m) rfl (ZEG ?_)
 refine ZBR ?_
 refine DY rfl (aV (n := l.length) 335 rfl rfl rfl rfl o_m) rfl (ZBn ?_)
 refine DW (v := (.int .u16 (l.getD 334 0 * 256 + l.getD 335 0))) rfl (cM rfl rfl) rfl (cA_ _ (rG hb4 hb5)) (ZBR ?_)
 refine ZDz ?_
 refine ZAn ?_
 refine DZ rfl (xS_ (l' := cHd (hdH l)) 0) rfl n_h (ZAB ?_)
 refine ZBB ?_
 refine RZ (aL rfl rfl rfl (aA (b := b3) (l := cHd (hdH l)) m_m)) rfl (RZ (xS_ (l' := cHd (hdH l)) 1) rfl (ZAB ?_))
 refine ZBB ?_
 exact ZB5
set_option maxHeartbeats 2000000 in
def aO6 (ob oc : Nat) (rom : AB) (hl : rom.length ≤ 100000000) (hb : aY rom) (hc : rom.length ≤ oc) (pa : AC) (pl pc : Nat) (w : AI) (hr : Row w ob 0 (rom.map U_)) : aC prog 16 [.slice (Q_ ob) rom.length oc, .slice pa pl pc] w [] (fun v H => (errH rom ≠ 0 ∧ v = .tuple #[.pointer none, .int .i64 (errH rom)] ∧ H = []) ∨ (errH rom = 0 ∧ ∃ mb ub rb tb oT, gN tb (.int .u32 0) [(tb, oT)] ∧ v = .tuple #[P_ mb, .int .i64 0] ∧ H = [((mb, ub, rb, tb, oT).1, blk (cMm (mM (mb, ub, rb, tb, oT).1 (mb, ub, rb, tb, oT).2.1 (mb, ub, rb, tb, oT).2.2.1 (mb, ub, rb, tb, oT).2.2.2.1 ob oc [] (.slice pa pl pc) (hdH rom).ram.toNat) (.slice none 0 0) (dX rom)) 130), ((mb, ub, rb, tb, oT).2.2.1, blk ((dX rom).ram.map U_) 5), ((mb, ub, rb, tb, oT).2.1, blk (cU oK) 204), ((mb, ub, rb, tb, oT).2.2.2.1, (mb, ub, rb, tb, oT).2.2.2.2)])) := by
 have hram := aCc rom
 refine dR_ func16 ?_
 refine ZB2 ?_
 by_cases he9 : errH rom = 0
 ·refine ZAn ?_
  refine RLv K_ (fun w hw => aEQ (Q_ ob) oc rom hl hb hc w (Ns.of (aR hr y_v w hw))) ?_
  rw [if_pos he9]
  refine ZBB ?_
  refine RX (bY (l := cHd zHd) rfl) rfl (ZBz fun b0 => ?_)
  refine RZ (xS_ (l' := cHd (hdH rom)) 0) rfl (ZAB ?_)
  refine ZB2 ?_
  refine dT false rfl rfl rfl (by simpa using he9) ?_
  refine ZBB ?_
  refine pJ (σ := Nat × Nat × Nat × Nat × Obj) [8, 17, 18, 19, 20, 21, 22, 23, 24, 25, 26] (fun q => [(8, P_ q.1)]) (fun q => [(q.1, blk (cMm (mM q.1 q.2.1 q.2.2.1 q.2.2.2.1 ob oc [] (.slice pa pl pc) (hdH rom).ram.toNat) (.slice none 0 0) (newM0 rom)) 130), (q.2.2.1, blk ((newM0 rom).ram.map U_) 5), (q.2.1, blk (cU oK) 204), (q.2.2.2.1, q.2.2.2.2)] ++ [(b0, blk (cHd (hdH rom)) 125)]) (fun q => gN q.2.2.2.1 (.int .u32 0) [(q.2.2.2.1, q.2.2.2.2)]) ?_ ?_
  ·refine DR [3, 4, 5, 6, 7] (.step true 0 (.step true 1 (.step true 2 (.step true 5 (.step true 6 (.fork 3 (.fork 4 (.step false 7 (.step true 8 (.step false 9 (.step true 10 .done)))) (.fork 7 (.step false 4 (.step true 8 (.step false 9 (.step true 10 .done)))) .stop)) (.fork 7 (.step false 3 (.step false 4 (.step true 8 (.step false 9 (.step true 10 .done))))) .stop))))))) ?_
   refine ZAn ?_
   refine bU rfl rfl rfl rfl (dO (b := b0) (l := cHd (hdH rom)) m_m) rfl rfl ?_
   refine ZBR ?_
   refine DL rfl rfl rfl (cZ (v := .int .i64 (hdH rom).ram) m_m rfl) rfl (lC ?_ ?_)
   ·refine DX rfl (dE K_ rfl (wQ_ aAt)) rfl y_C ?_
    rintro _ _ ⟨_, ⟨b1, rfl, hT0⟩, rfl⟩
    obtain ⟨o20, rfl⟩ := hT0.one
    refine ZB4 ?_
    refine lC ?_ ?_
    ·refine DX rfl (dE K_ rfl (wQ_ new_fn)) rfl y_C ?_
     rintro _ _ ⟨_, ⟨b2, rfl, rfl⟩, rfl⟩
     refine ZB4 ?_
     refine ZCY ?_
     rintro _ _ ⟨b3, rfl, rfl⟩
     refine DW (v := (.agg (cMm (mM 0 b2 b3 b1 ob oc [] (.slice pa pl pc) (hdH rom).ram.toNat) (.slice none 0 0) (newM0 rom)).toArray)) rfl (eB (l := aHD (mM 0 b2 b3 b1 ob oc [] (.slice pa pl pc) (hdH rom).ram.toNat) (.slice none 0 0) (newM0 rom) (hdH rom).ram.toNat) (z := aIz) (ps := [(1, .slice (Q_ ob) rom.length oc), (2, .slice pa pl pc), (3, .agg (cHd (hdH rom)).toArray), (4, P_ b1), (5, P_ b2), (6, .slice (Q_ b3) (hdH rom).ram.toNat (hdH rom).ram.toNat)]) rfl y_i rfl y_i) rfl y_cK (DX rfl (dC (l := cMm (mM 0 b2 b3 b1 ob oc [] (.slice pa pl pc) (hdH rom).ram.toNat) (.slice none 0 0) (newM0 rom)) rfl rfl) rfl n_h ?_)
     rintro _ _ ⟨b4, rfl, rfl⟩
     refine ZAn ?_
     exact ⟨(b4, b2, b3, b1, o20), hT0, .cons rfl .nil, a_g, fun _ h => St.perm_ix 5 [0, 1, 2, 3, 4] y_b rfl y_cE h⟩
    refine lC ?_ ?_
    ·refine ZCY ?_
     rintro _ _ ⟨b2, rfl, rfl⟩
     refine DX rfl (dE K_ rfl (wQ_ new_fn)) rfl y_C ?_
     rintro _ _ ⟨_, ⟨b3, rfl, rfl⟩, rfl⟩
     refine ZB4 ?_
     refine DW (v := (.agg (cMm (mM 0 b3 b2 b1 ob oc [] (.slice pa pl pc) (hdH rom).ram.toNat) (.slice none 0 0) (newM0 rom)).toArray)) rfl (eB (l := aHD (mM 0 b3 b2 b1 ob oc [] (.slice pa pl pc) (hdH rom).ram.toNat) (.slice none 0 0) (newM0 rom) (hdH rom).ram.toNat) (z := aIz) (ps := [(1, .slice (Q_ ob) rom.length oc), (2, .slice pa pl pc), (3, .agg (cHd (hdH rom)).toArray), (4, P_ b1), (5, P_ b3), (6, .slice (Q_ b2) (hdH rom).ram.toNat (hdH rom).ram.toNat)]) rfl y_i rfl y_i) rfl y_cK (DX rfl (dC (l := cMm (mM 0 b3 b2 b1 ob oc [] (.slice pa pl pc) (hdH rom).ram.toNat) (.slice none 0 0) (newM0 rom)) rfl rfl) rfl n_h ?_)
     rintro _ _ ⟨b4, rfl, rfl⟩
     refine ZAn ?_
     exact ⟨(b4, b3, b2, b1, o20), hT0, .cons rfl .nil, a_g, fun _ h => St.perm_ix 5 [0, 2, 1, 3, 4] y_b rfl y_cE h⟩
    exact vQ
   refine lC ?_ ?_
   ·refine ZCY ?_
    rintro _ _ ⟨b1, rfl, rfl⟩
    refine DX rfl (dE K_ rfl (wQ_ aAt)) rfl y_C ?_
    rintro _ _ ⟨_, ⟨b2, rfl, hT0⟩, rfl⟩
    obtain ⟨o20, rfl⟩ := hT0.one
    refine ZB4 ?_
    refine DX rfl (dE K_ rfl (wQ_ new_fn)) rfl y_C ?_
    rintro _ _ ⟨_, ⟨b3, rfl, rfl⟩, rfl⟩
    refine ZB4 ?_
    refine DW (v := (.agg (cMm (mM 0 b3 b1 b2 ob oc [] (.slice pa pl pc) (hdH rom).ram.toNat) (.slice none 0 0) (newM0 rom)).toArray)) rfl (eB (l := aHD (mM 0 b3 b1 b2 ob oc [] (.slice pa pl pc) (hdH rom).ram.toNat) (.slice none 0 0) (newM0 rom) (hdH rom).ram.toNat) (z := aIz) (ps := [(1, .slice (Q_ ob) rom.length oc), (2, .slice pa pl pc), (3, .agg (cHd (hdH rom)).toArray), (4, P_ b2), (5, P_ b3), (6, .slice (Q_ b1) (hdH rom).ram.toNat (hdH rom).ram.toNat)]) rfl y_i rfl y_i) rfl y_cK (DX rfl (dC (l := cMm (mM 0 b3 b1 b2 ob oc [] (.slice pa pl pc) (hdH rom).ram.toNat) (.slice none 0 0) (newM0 rom)) rfl rfl) rfl n_h ?_)
    rintro _ _ ⟨b4, rfl, rfl⟩
    refine ZAn ?_
    exact ⟨(b4, b3, b1, b2, o20), hT0, .cons rfl .nil, a_g, fun _ h => St.perm_ix 5 [0, 3, 1, 2, 4] y_b rfl y_cE h⟩
   exact vQ
  rintro ⟨mb, ub, rb, tb, oT⟩ y4 hT
  dsimp only at hT ⊢
  refine ZBB ?_
  refine RZ (aL rfl rfl rfl (aA (b := b0) (l := cHd (hdH rom)) m_m)) rfl (RLv K_ (wQ_ (aOs _ _ _ _ _ _ _)) ?_)
  refine ZBB ?_
  refine RZ (aD (l' := cMm (mM (mb, ub, rb, tb, oT).1 (mb, ub, rb, tb, oT).2.1 (mb, ub, rb, tb, oT).2.2.1 (mb, ub, rb, tb, oT).2.2.2.1 ob oc [] (.slice pa pl pc) (hdH rom).ram.toNat) (.slice none 0 0) (aHk rom)) 0 rfl rfl rfl rfl rfl rfl (by rw [cMm_len (xU rom)]; exact ag rfl) (aGD _)) rfl (ZAB ?_)
  refine ZB6 ?_
  refine RS ?_
  refine ZB6 ?_
  refine RZ (aD (l' := cMm (mM (mb, ub, rb, tb, oT).1 (mb, ub, rb, tb, oT).2.1 (mb, ub, rb, tb, oT).2.2.1 (mb, ub, rb, tb, oT).2.2.2.1 ob oc [] (.slice pa pl pc) (hdH rom).ram.toNat) (.slice none 0 0) (dX rom)) 0 rfl rfl rfl rfl rfl rfl (by rw [cMm_len (m := aHk rom) ⟨(xU rom).bd, (xU rom).work, (xU rom).high⟩]; exact ag rfl) ((lN (ag rfl)).trans rfl)) rfl (ZAB ?_)
  refine A_8 ?_
  exact iN (fun _ _ => bZ rfl rfl) (.cons_cons _ (.cons_cons _ (.cons_cons _ (.cons_cons _ (List.nil_sublist _))))) (.inr ⟨he9, mb, ub, rb, tb, oT, hT, rfl, rfl⟩)
 refine ZAn ?_
 refine RLv K_ (fun w hw => aEQ (Q_ ob) oc rom hl hb hc w (Ns.of (aR hr y_v w hw))) ?_
 rw [if_neg he9]
 refine ZBB ?_
 refine RX (bY (l := cHd zHd) rfl) rfl (ZBz fun b0 => ?_)
 refine RZ (xS_ (l' := cHd zHd) 0) rfl (ZAB ?_)
 refine ZB2 ?_
 refine dT true rfl rfl rfl (by simpa using he9) ?_
 refine A_9 ?_
 exact iN (fun _ _ => bZ rfl rfl) (List.nil_sublist _) (.inl ⟨he9, rfl, rfl⟩)
structure MA where
 A : Ad
 tb : Nat
 oT : Obj
 va : AH
def pM (q : MA) : AH := P_ q.A.mb
def hM (q : MA) (m : Mm) : aB := [(q.tb, q.oT), (q.A.mb, blk (cMm q.A q.va m) 130), (q.A.ub, blk (cU m.u) 204), (q.A.rb, blk (m.ram.map U_ ++ q.A.rs) 5), (q.A.ob, blk (m.rom.map U_ ++ q.A.sp) 5)]
structure MA.Ok (q : MA) (pa : AC) (n pc : Nat) : Prop where
 apart : q.A.rb ∉ [q.A.mb, q.A.ub] ∧ q.A.ob ∉ [q.A.mb, q.A.ub]
 tab : gN q.tb (.int .u32 0) [(q.tb, q.oT)]
 at_ : q.A.tab = P_ q.tb
 plan : q.A.plan = .slice pa n pc
 va : ∃ aa an ac, q.va = .slice aa an ac
structure yY (T : Nat) (plan : List Chg) (pa : AC) (pc : Nat) (G : aB) : Prop where
 vec : Vec T 2 (.slice pa plan.length pc) plan.length (aE aA8 plan) G
 ok : ∀ c ∈ plan, mX c
 few : plan.length ≤ 1000000
section
variable {w0 w : AI} {ms : AE} {H : aB} {q : MA} {m : Mm}
def aO5 (hw : St w0 ms H w) (hs : ∀ x ∈ hM q m, x ∈ H) : Row w q.A.mb 0 (cMm q.A q.va m) ∧ Row w q.A.ub 0 (cU m.u) ∧ Row w q.A.rb 0 (m.ram.map U_) ∧ Row w q.A.ob 0 (m.rom.map U_) :=
 ⟨aA (hs _ (.tail _ (.head _))) w hw, aA (hs _ (.tail _ (.tail _ (.head _)))) w hw, (aA (hs _ (.tail _ (.tail _ (.tail _ (.head _))))) w hw).left, (aA (hs _ (.tail _ (.tail _ (.tail _ (.tail _ (.head _)))))) w hw).left⟩
def yY.els {T : Nat} {plan : List Chg} {pa : AC} {pc : Nat} {G : aB} (h : yY T plan pa pc G) (hw : St w0 ms H w) (hs : ∀ x ∈ G, x ∈ H) : Els w aA8 pa plan := by
 obtain ⟨a, cp, e, _, _, h1⟩ := h.vec.gives cChg_len y_b
 cases e
 exact h1.els hw hs
def yY.off {T : Nat} {plan : List Chg} {pa : AC} {pc : Nat} {G R : aB} (h : yY T plan pa pc G) (hw : St w0 ms (R ++ G) w) : ∀ p, pa = some p → p.block ∉ R.map (·.1) := by
 rintro p rfl hp
 rcases h.vec.alt with ⟨h1, _⟩ | ⟨b, cap, sp, h1, rfl, _⟩
 ·cases h1
 cases h1
 have hn := hw.nodup
 rw [aw, cx] at hn
 exact hn.2.2 _ hp _ (.head _) rfl
end
def aHO {R : Mm} {D : Prop} (q : MA) (pa : AC) (pc : Nat) (plan : List Chg) (hq : q.Ok pa plan.length pc) (hpo : ∀ c ∈ plan, mX c) (hpl : plan.length ≤ 1000000) (m : Mm) (h : jK R D m) (ms : AE) (w : AI) (hst : St w ms (hM q m) w) (hE : Els w aA8 pa plan) (hpn : ∀ p, pa = some p → p.block ∉ ms) :
  aC prog 13 [pM q] w ms (fun v H => ∃ oT va G, (MA.mk q.A q.tb oT va).Ok pa plan.length pc ∧ v = .tuple #[.agg (cDd (stepM plan m).1).toArray, va] ∧ Vec 52 3 va (stepM plan m).2.acc.length (aE cAc (stepM plan m).2.acc) G ∧ H = G ++ hM ⟨q.A, q.tb, oT, va⟩ (stepM plan m).2) := by
 refine aC.turn (aFW q.A hq.apart q.tb (.int .u32 0) q.oT hq.tab hq.at_ plan pa pc hq.plan hpo hpl m h.wf h.rg q.va ms w hst hE hpn) ?_
 rintro v H w' ⟨va, oT, G, rfl, hV, hT, rfl⟩ hw
 obtain ⟨aa, ac, rfl⟩ := hV.slice
 exact ⟨_, hw.perm (show List.Perm ([(q.tb, oT)] ++ (G ++ _)) (G ++ ([(q.tb, oT)] ++ _)) by rw [← As_, ← As_]; exact c8 _ au), oT, _, G, ⟨hq.apart, hT, hq.at_, hq.plan, _, _, _, rfl⟩, rfl, hV, rfl⟩
def aGh (q : MA) (m : Mm) (h : m.Wf) (hr : m.cpu.r.Ok) (hrl : m.ram.length ≤ 200000) (ms : AE) (w : AI) (hst : St w ms (hM q m) w) :
  aC prog 20 [pM q] w ms (fun v H => ∃ b c sp, v = .slice (Q_ b) (fY m).length c ∧ (fY m).length ≤ c ∧ H = (b, blk ((fY m).map U_ ++ sp) 5) :: hM q m) := by
 have hw1 : St w ms ([(q.A.mb, blk (cMm q.A q.va m) 130), (q.A.rb, blk (m.ram.map U_ ++ q.A.rs) 5)] ++ [(q.tb, q.oT), (q.A.ub, blk (cU m.u) 204), (q.A.ob, blk (m.rom.map U_ ++ q.A.sp) 5)]) w := St.perm_ix 5 [1, 3, 0, 2, 4] y_b rfl rfl hst
 have hn := hw1.nodup
 rw [aw, cx] at hn
 refine aC.frame hw1 (ms2 := [q.A.mb, q.A.rb]) (fun b hb => eA (G := [(q.A.mb, blk (cMm q.A q.va m) 130), (q.A.rb, _)]) hb) (aIf q.A q.va m h hr hrl [q.A.mb, q.A.rb] w hw1.lentV (aO5 hst (fun _ hx => hx)).2.1 (fun hb => hn.2.2 _ hb _ (.tail _ (.head _)) rfl)) ?_
 rintro v H w' ⟨b, c, sp, rfl, hc, rfl⟩ hw
 exact ⟨_, St.perm_ix 6 [0, 3, 1, 4, 2, 5] y_b rfl rfl hw, b, c, sp, rfl, hc, rfl⟩
end Go.Proofs.YtdbgagkcgdlnnaaGreat
