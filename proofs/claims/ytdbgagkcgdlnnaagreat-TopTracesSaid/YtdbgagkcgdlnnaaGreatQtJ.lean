/- Parts. -/
import Derived.Test.YtdbgagkcgdlnnaaGreatQtI
set_option maxRecDepth 100000
set_option maxHeartbeats 1000000
set_option linter.all false
namespace Go.Proofs.YtdbgagkcgdlnnaaGreat
open Go Go.VV Go.Proofs Go.RowKit Go.Proofs.Tryz
def aN0 (A : Ad) (acc : AH) (m : Mm) (h : m.Wf) (a x : Int) (ha : 0 ≤ a ∧ a < 65536) (hx : 0 ≤ x ∧ x < 256) (w : AI) (hst : St w [A.mb, A.ub, A.rb] [(A.mb, blk (cMm A acc m) 130), (A.ub, blk (cU m.u) 204), (A.rb, blk (List.map U_ m.ram ++ A.rs) 5)] w) : aC prog 256 [P_ A.mb, .int .u16 a, .int .u8 x] w [A.mb, A.ub, A.rb] (fun v H => v = .tuple #[] ∧ H = [(A.mb, blk (cMm A acc (iM a x m)) 130), (A.ub, blk (cU (iM a x m).u) 204), (A.rb, blk (List.map U_ (iM a x m).ram ++ A.rs) 5)]) := by
 have hl9 := h.lRam
 refine dO_ func256 hst ?_
 refine ZAn ?_
 rcases hc9 : clockB m.bk with _ | p
 ·refine ZBx ?_
  refine ZBJ ?_
  refine ZEY ?_
  refine A_8 ?_
  refine ZAY ?_
  refine ZB6 ?_
  rcases hat9 : atB_ a m.bk with _ | n
  ·refine ZBx ?_
   refine ZBJ ?_
   refine ZEC ?_
   rw [hat9]
   refine A_8 ?_
   refine ZAY ?_
   refine ZBB ?_
   exact EN sR_ ⟨rfl, by unfold iM; rw [hc9]; dsimp only; rw [hat9]⟩
  refine ZBx ?_
  refine ZBJ ?_
  refine ZEC ?_
  rw [hat9]
  refine A_8 ?_
  refine ZA1 ?_
  refine ZB2 ?_
  have hn9 := aFp a hat9
  refine RZ (aH rfl rfl (aT (v := .slice (Q_ A.rb) m.ram.length A.rc) m_m (get_mid (m := m) h.ln (j := 15) rfl))) rfl (ZAn ?_)
  refine RY (aV n.toNat rfl rfl rfl o_m o_m) rfl (RZ (aD (l' := List.map U_ (m.ram.set n.toNat x) ++ A.rs) 2 rfl rfl rfl rfl rfl rfl (by rw [La_, Lm_, aq]; omega) (by rw [az, eU (by rw [Lm_, aq]; omega)]; exact cA_ (· ++ A.rs) (jE .u8 o_m _))) rfl ?_)
  refine ZAC ?_
  refine ZBR ?_
  exact EN sR_ ⟨rfl, by unfold iM; rw [hc9]; dsimp only; rw [hat9]; dsimp only; rw [aOR]⟩
 refine ZBx ?_
 refine ZBJ ?_
 refine ZEY ?_
 refine A_8 ?_
 refine ZA1 ?_
 refine A_9 ?_
 refine RZ (aL rfl rfl rfl (fun w hw => rowM_ck (m := m) (acc := acc) (aA (b := A.mb) m_m w hw))) rfl (ZAn ?_)
 refine RLv K_ (wQ_ (aIa m.ck h.ck p x hx)) ?_
 refine ZBB ?_
 refine RZ (aD (l' := cMm A acc { m with ck := writeCk p x m.ck }) 0 rfl rfl rfl rfl rfl rfl y_y (putM_ck _)) rfl (ZBM ?_)
 exact EN sR_ ⟨rfl, by unfold iM; rw [hc9]⟩
def aEy (A : Ad) (acc : AH) (m : Mm) (h : m.Wf) (a x : Int) (ha : 65280 ≤ a ∧ a < 65536) (hx : 0 ≤ x ∧ x < 256) (w : AI) (hst : St w [A.mb] [(A.mb, blk (cMm A acc m) 130)] w) : aC prog 257 [P_ A.mb, .int .u16 a, .int .u8 x] w [A.mb] (fun v H => v = .tuple #[] ∧ H = [(A.mb, blk (cMm A acc (setDeviceM a x m)) 130)]) := by
 have hP : MLn ({ m with pd := kT x m.pd } : Mm) := ⟨h.ln.bd, h.ln.work, h.ln.high⟩
 refine dO_ func257 hst ?_
 refine ZBB ?_
 refine ZAU ?_
 refine A_9 ?_
 refine KC (fun q0 z0 => ?_) (fun q0 z0 => ?_)
 ·refine A_11 ?_
  refine RZ (aL rfl rfl rfl (fun w hw => aCr (m := m) (acc := acc) (aA (b := A.mb) m_m w hw))) rfl (ZBR ?_)
  refine RLv K_ (wQ_ (aLS m.pd x)) ?_
  refine ZB2 ?_
  refine RZ (aD (l' := cMm A acc { m with pd := kT x m.pd }) 0 rfl rfl rfl rfl rfl rfl y_y (aGt _)) rfl (ZAC ?_)
  refine ZBx ?_
  refine RX (cB (F := []) (A := [(A.mb, blk (cMm A acc { m with pd := kT x m.pd }) 130)]) (G := []) (R := fun v H => v = .tuple #[] ∧ H = [(A.mb, blk (cMm A acc (askM 16 (mB m.pd (kT x m.pd)) { m with pd := kT x m.pd })) 130)]) K_ rfl (fun w hw _ => ask_fnM A acc { m with pd := kT x m.pd } hP 16 (mB m.pd (kT x m.pd)) w hw)) rfl (ZAF ?_)
  exact ZBI
 refine ZB2 ?_
 refine KC (fun q1 z1 => ?_) (fun q1 z1 => ?_)
 ·refine ZB2 ?_
  refine RZ (aL rfl rfl rfl (fun w hw => aCb (m := m) (acc := acc) (aA (b := A.mb) m_m w hw))) rfl (ZBR ?_)
  refine ZBT ?_
  refine ZBR ?_
  refine RLv K_ (wQ_ (aHp m.pt h.pt _ x hx)) ?_
  refine ZBB ?_
  refine RZ (aD (l' := cMm A acc { m with pt := writePt (a - 65281) x m.pt }) 0 rfl rfl rfl rfl rfl rfl y_y (aGN _)) rfl (ZAC ?_)
  exact ZBI
 refine ZB6 ?_
 refine KL (fun q2 z2 => ?_) (fun q2 z2 => ?_)
 ·refine ZBx ?_
  refine KC (fun q3 z3 => ?_) (fun q3 z3 => ?_)
  ·refine ZB2 ?_
   refine RZ (aL rfl rfl rfl (fun w hw => aCy (m := m) (acc := acc) (aA (b := A.mb) m_m w hw))) rfl (ZBR ?_)
   refine ZBT ?_
   refine ZBR ?_
   refine RLv K_ (wQ_ (aHj m.tm h.tm _ x hx)) ?_
   refine ZBB ?_
   refine RZ (aD (l' := cMm A acc { m with tm := writeTm (a - 65284) x m.tm }) 0 rfl rfl rfl rfl rfl rfl y_y (aGE _)) rfl (ZAC ?_)
   exact ZBI
  refine ZB2 ?_
  refine KC (fun q4 z4 => ?_) (fun q4 z4 => ?_)
  ·refine ZBB ?_
   refine RW (v := (.int .u8 (aG .u8 x 31))) (bA rfl rfl) rfl rfl (ZBB ?_)
   refine RZ (aD (l' := cMm A acc { m with flags := aG .u8 x 31 }) 0 rfl rfl rfl rfl rfl rfl y_y (rN h.ln _)) rfl (ZAC ?_)
   exact ZBI
  refine ZB6 ?_
  refine KL (fun q5 z5 => ?_) (fun q5 z5 => ?_)
  ·refine ZBx ?_
   refine KC (fun q6 z6 => ?_) (fun q6 z6 => ?_)
   ·refine ZB2 ?_
    refine RZ (aL rfl rfl y_cR (fun w hw => rowM_bd (m := m) (acc := acc) (aA (b := A.mb) m_m w hw))) rfl (ZBR ?_)
    refine ZBT ?_
    refine ZBR ?_
    refine RLv K_ (wQ_ (aBz m.bd h.bd _ x hx)) ?_
    refine ZBB ?_
    refine RZ (aD (l' := cMm A acc { m with bd := writeBd (a - 65296) x m.bd }) 0 rfl rfl rfl y_dt (ones_cBd _) rfl y_cz (putM_bd h.ln (h.bd.write (a - 65296) hx).ln)) rfl (ZAC ?_)
    exact ZBI
   refine ZB2 ?_
   refine KC (fun q7 z7 => ?_) (fun q7 z7 => ?_)
   ·refine ZB2 ?_
    refine RZ (aL rfl rfl rfl (fun w hw => rowM_cp (m := m) (acc := acc) (aA (b := A.mb) m_m w hw))) rfl (ZBR ?_)
    refine RLv K_ (wQ_ (rO m.cp x)) ?_
    refine ZBB ?_
    refine RZ (aD (l' := cMm A acc { m with cp := sB x }) 0 rfl rfl rfl rfl rfl rfl y_y (vF _)) rfl (ZAC ?_)
    exact ZBI
   refine ZB2 ?_
   refine KC (fun q8 z8 => ?_) (fun q8 z8 => ?_)
   ·refine ZB2 ?_
    refine RZ (aD (l' := cMm A acc { m with lets := x }) 0 rfl rfl rfl rfl rfl rfl y_y (uF h.ln _)) rfl (ZAC ?_)
    exact ZBI
   refine ZB2 ?_
   refine KC (fun q9 z9 => ?_) (fun q9 z9 => ?_)
   ·refine ZBB ?_
    refine RW (iB rfl rfl) rfl y_r (ZBB ?_)
    refine RY (aM (a - 65408).toNat rfl rfl rfl o_m o_m) rfl (RZ (aD (l' := cMm A acc { m with high := m.high.set (a - 65408).toNat x }) 0 rfl rfl rfl rfl rfl rfl y_bk (putM_high h.ln o_m _)) rfl (ZAC ?_))
    exact ZBI
   exact ZBI
  refine A_12 ?_
  refine KC (fun q6 z6 => ?_) (fun q6 z6 => ?_)
  ·refine ZB2 ?_
   refine RZ (aL rfl rfl rfl (fun w hw => rowM_cp (m := m) (acc := acc) (aA (b := A.mb) m_m w hw))) rfl (ZBR ?_)
   refine RLv K_ (wQ_ (rO m.cp x)) ?_
   refine ZBB ?_
   refine RZ (aD (l' := cMm A acc { m with cp := sB x }) 0 rfl rfl rfl rfl rfl rfl y_y (vF _)) rfl (ZAC ?_)
   exact ZBI
  refine ZB2 ?_
  refine KC (fun q7 z7 => ?_) (fun q7 z7 => ?_)
  ·refine ZB2 ?_
   refine RZ (aD (l' := cMm A acc { m with lets := x }) 0 rfl rfl rfl rfl rfl rfl y_y (uF h.ln _)) rfl (ZAC ?_)
   exact ZBI
  refine ZB2 ?_
  exact ZBL
 refine A_12 ?_
 refine KC (fun q3 z3 => ?_) (fun q3 z3 => ?_)
 ·refine ZBB ?_
  refine RW (v := (.int .u8 (aG .u8 x 31))) (bA rfl rfl) rfl rfl (ZBB ?_)
  refine RZ (aD (l' := cMm A acc { m with flags := aG .u8 x 31 }) 0 rfl rfl rfl rfl rfl rfl y_y (rN h.ln _)) rfl (ZAC ?_)
  exact ZBI
 refine ZB6 ?_
 refine KL (fun q4 z4 => ?_) (fun q4 z4 => ?_)
 ·refine ZBx ?_
  refine KC (fun q5 z5 => ?_) (fun q5 z5 => ?_)
  ·refine ZB2 ?_
   refine RZ (aL rfl rfl y_cR (fun w hw => rowM_bd (m := m) (acc := acc) (aA (b := A.mb) m_m w hw))) rfl (ZBR ?_)
   refine ZBT ?_
   refine ZBR ?_
   refine RLv K_ (wQ_ (aBz m.bd h.bd _ x hx)) ?_
   refine ZBB ?_
   refine RZ (aD (l' := cMm A acc { m with bd := writeBd (a - 65296) x m.bd }) 0 rfl rfl rfl y_dt (ones_cBd _) rfl y_cz (putM_bd h.ln (h.bd.write (a - 65296) hx).ln)) rfl (ZAC ?_)
   exact ZBI
  refine ZB2 ?_
  refine KC (fun q6 z6 => ?_) (fun q6 z6 => ?_)
  ·refine ZB2 ?_
   refine RZ (aL rfl rfl rfl (fun w hw => rowM_cp (m := m) (acc := acc) (aA (b := A.mb) m_m w hw))) rfl (ZBR ?_)
   refine RLv K_ (wQ_ (rO m.cp x)) ?_
   refine ZBB ?_
   refine RZ (aD (l' := cMm A acc { m with cp := sB x }) 0 rfl rfl rfl rfl rfl rfl y_y (vF _)) rfl (ZAC ?_)
   exact ZBI
  refine ZB2 ?_
  refine KC (fun q7 z7 => ?_) (fun q7 z7 => ?_)
  ·refine ZB2 ?_
   refine RZ (aD (l' := cMm A acc { m with lets := x }) 0 rfl rfl rfl rfl rfl rfl y_y (uF h.ln _)) rfl (ZAC ?_)
   exact ZBI
  refine ZB2 ?_
  exact ZBL
 refine A_12 ?_
 refine KC (fun q5 z5 => ?_) (fun q5 z5 => ?_)
 ·refine ZB2 ?_
  refine RZ (aL rfl rfl rfl (fun w hw => rowM_cp (m := m) (acc := acc) (aA (b := A.mb) m_m w hw))) rfl (ZBR ?_)
  refine RLv K_ (wQ_ (rO m.cp x)) ?_
  refine ZBB ?_
  refine RZ (aD (l' := cMm A acc { m with cp := sB x }) 0 rfl rfl rfl rfl rfl rfl y_y (vF _)) rfl (ZAC ?_)
  exact ZBI
 refine ZB2 ?_
 refine KC (fun q6 z6 => ?_) (fun q6 z6 => ?_)
 ·refine ZB2 ?_
  refine RZ (aD (l' := cMm A acc { m with lets := x }) 0 rfl rfl rfl rfl rfl rfl y_y (uF h.ln _)) rfl (ZAC ?_)
  exact ZBI
 refine ZB2 ?_
 refine KC (fun q7 z7 => ?_) (fun q7 z7 => ?_)
 ·refine ZBB ?_
  refine RW (iB rfl rfl) rfl y_r (ZBB ?_)
  refine RY (aM (a - 65408).toNat rfl rfl rfl o_m o_m) rfl (RZ (aD (l' := cMm A acc { m with high := m.high.set (a - 65408).toNat x }) 0 rfl rfl rfl rfl rfl rfl y_bk (putM_high h.ln o_m _)) rfl (ZAC ?_))
  exact ZBI
 exact ZBI
def aPb (A : Ad) (acc : AH) (m : Mm) (h : m.Wf) (a x : Int) (ha : 0 ≤ a ∧ a < 65536) (hx : 0 ≤ x ∧ x < 256) (w : AI) (hst : St w [A.mb, A.ub, A.rb] [(A.mb, blk (cMm A acc m) 130), (A.ub, blk (cU m.u) 204), (A.rb, blk (List.map U_ m.ram ++ A.rs) 5)] w) : aC prog 241 [P_ A.mb, .int .u16 a, .int .u8 x] w [A.mb, A.ub, A.rb] (fun v H => v = .tuple #[] ∧ H = [(A.mb, blk (cMm A acc (pokeM a x m)) 130), (A.ub, blk (cU (pokeM a x m).u) 204), (A.rb, blk (List.map U_ (pokeM a x m).ram ++ A.rs) 5)]) := by
 have hB1 : MLn ({ m with bk := writeB a x m.bk } : Mm) := ⟨h.ln.bd, h.ln.work, h.ln.high⟩
 have hU1 : MLn ({ m with u := eS m.u a x } : Mm) := ⟨h.ln.bd, h.ln.work, h.ln.high⟩
 refine dO_ func241 hst ?_
 refine ZDR ?_
 refine KC (fun q0 z0 => ?_) (fun q0 z0 => ?_)
 ·refine A_11 ?_
  refine ZBJ ?_
  refine ZAn ?_
  refine RLv K_ (wQ_ (aJA m.bk h.bk a x ha hx)) ?_
  refine ZB2 ?_
  refine RZ (aD (l' := cMm A acc { m with bk := writeB a x m.bk }) 0 rfl rfl rfl rfl rfl rfl y_y (aGD _)) rfl (ZD5 ?_)
  refine KC (fun q1 z1 => ?_) (fun q1 z1 => ?_)
  ·refine ZB2 ?_
   refine RZ (aL rfl rfl rfl (fun w hw => rowM_ck (m := ({ m with bk := writeB a x m.bk } : Mm)) (acc := acc) (aA (b := A.mb) m_m w hw))) rfl (RLv K_ (wQ_ (aIJ m.ck h.ck)) ?_)
   refine ZBB ?_
   refine RZ (aD (l' := cMm A acc { m with bk := writeB a x m.bk, ck := sR m.ck }) 0 rfl rfl rfl rfl rfl rfl (by rw [cMm_len hB1]; exact ag rfl) (putM_ck _)) rfl (ZAC ?_)
   refine ZBR ?_
   exact EN sR_ ⟨rfl, by rw [show pokeM a x m = { m with bk := writeB a x m.bk, ck := sR m.ck } from by unfold pokeM; rw [if_pos o_m]; unfold mQ; rw [if_pos q1]]⟩
  refine ZBR ?_
  exact EN sR_ ⟨rfl, by rw [show pokeM a x m = { m with bk := writeB a x m.bk } from by unfold pokeM; rw [if_pos o_m]; unfold mQ; rw [if_neg y_bR]]⟩
 refine ZBB ?_
 refine RLv K_ (wQ_ (uS a ha)) ?_
 refine ZAn ?_
 refine KC (fun q1 z1 => ?_) (fun q1 z1 => ?_)
 ·refine ZBx ?_
  refine RZ (aH rfl rfl (aT (v := P_ A.ub) m_m (get_mid (m := m) h.ln (j := 14) rfl))) rfl (ZAn ?_)
  refine RX (cB (F := [(A.mb, blk (cMm A acc m) 130)]) (A := [(A.ub, blk (cU m.u) 204)]) (G := [(A.rb, blk (List.map U_ m.ram ++ A.rs) 5)]) (R := fun v H => v = .int .u8 (jB m.u a x) ∧ H = [(A.ub, blk (cU (eS m.u a x)) 204)]) K_ rfl (fun w hw _ => aNn A.ub m.u h.u.wf w hw a x ha hx)) rfl (ZCH ?_)
  refine RW (v := (.int .u8 (aG .u8 (jB m.u a x) 2))) (bA rfl rfl) rfl rfl (ZBR ?_)
  refine RX (cB (F := []) (A := [(A.mb, blk (cMm A acc { m with u := eS m.u a x }) 130)]) (G := [(A.ub, blk (cU (eS m.u a x)) 204), (A.rb, blk (List.map U_ m.ram ++ A.rs) 5)]) (R := fun v H => v = .tuple #[] ∧ H = [(A.mb, blk (cMm A acc (askM 2 (aG .u8 (jB m.u a x) 2 != 0) { m with u := eS m.u a x })) 130)]) K_ rfl (fun w hw _ => ask_fnM A acc { m with u := eS m.u a x } hU1 2 (aG .u8 (jB m.u a x) 2 != 0) w hw)) rfl (ZCH ?_)
  refine ZBR ?_
  exact EN sR_ ⟨rfl, by rw [show pokeM a x m = askM 2 (aG .u8 (jB m.u a x) 2 != 0) { m with u := eS m.u a x } from by unfold pokeM; rw [if_neg o_m, if_pos q1]]; rw [tG, nI]⟩
 refine ZB2 ?_
 refine KC (fun q2 z2 => ?_) (fun q2 z2 => ?_)
 ·refine ZB6 ?_
  refine RX (cB (F := []) (A := [(A.mb, blk (cMm A acc m) 130), (A.ub, blk (cU m.u) 204), (A.rb, blk (List.map U_ m.ram ++ A.rs) 5)]) (G := []) (R := fun v H => v = .tuple #[] ∧ H = [(A.mb, blk (cMm A acc (iM a x m)) 130), (A.ub, blk (cU (iM a x m).u) 204), (A.rb, blk (List.map U_ (iM a x m).ram ++ A.rs) 5)]) K_ rfl (wA_ (aN0 A acc m h a x ha hx))) rfl (ZCH ?_)
  refine ZBR ?_
  exact EN sR_ ⟨rfl, by rw [show pokeM a x m = iM a x m from by unfold pokeM; rw [if_neg o_m, if_neg y_bR, if_pos o_m]]⟩
 refine ZB2 ?_
 refine KC (fun q3 z3 => ?_) (fun q3 z3 => ?_)
 ·refine ZBB ?_
  refine ZBU ?_
  refine ZBB ?_
  refine RY (aM (a % 8192).toNat rfl rfl rfl o_m o_m) rfl (RZ (aD (l' := cMm A acc { m with work := m.work.set (a % 8192).toNat x }) 0 rfl rfl rfl rfl rfl rfl y_bk (aIG h.ln o_m _)) rfl (ZAC ?_))
  refine ZBR ?_
  exact EN sR_ ⟨rfl, by rw [show pokeM a x m = { m with work := m.work.set (a % 8192).toNat x } from by unfold pokeM; rw [if_neg o_m, if_neg y_bR, if_neg o_m, if_pos o_m]]⟩
 refine ZB2 ?_
 refine KC (fun q4 z4 => ?_) (fun q4 z4 => ?_)
 ·refine ZB6 ?_
  refine RX (cB (F := []) (A := [(A.mb, blk (cMm A acc m) 130)]) (G := [(A.ub, blk (cU m.u) 204), (A.rb, blk (List.map U_ m.ram ++ A.rs) 5)]) (R := fun v H => v = .tuple #[] ∧ H = [(A.mb, blk (cMm A acc (setDeviceM a x m)) 130)]) K_ rfl (wA_ (aEy A acc m h a x o_m hx))) rfl (ZCH ?_)
  refine ZBR ?_
  exact EN sR_ ⟨rfl, by rw [show pokeM a x m = setDeviceM a x m from by unfold pokeM; rw [if_neg o_m, if_neg y_bR, if_neg o_m, if_neg o_m, if_neg o_m]]; rw [aEk, aCx]⟩
 refine ZBR ?_
 exact EN sR_ ⟨rfl, by rw [show pokeM a x m = m from by unfold pokeM; rw [if_neg o_m, if_neg y_bR, if_neg o_m, if_neg o_m, if_pos o_m]]⟩
def note_fn (A : Ad) (m : Mm) (hl : MLn m) (hm9 : m.acc.length + 1 ≤ 1000000) (va : AH) (Ga R : aB) (hV : Vec 52 3 va m.acc.length (aE cAc m.acc) Ga) (k a x : Int) (w : AI) (hst : St w ((Ga ++ (A.mb, blk (cMm A va m) 130) :: R).map (·.1)) (Ga ++ (A.mb, blk (cMm A va m) 130) :: R) w) : aC prog 230 [.agg #[P_ A.mb], .int .i64 k, .int .u16 a, .int .u8 x] w ((Ga ++ (A.mb, blk (cMm A va m) 130) :: R).map (·.1)) (fun v H => v = .int .u8 x ∧ ∃ va' Ga', Vec 52 3 va' (m.acc.length + 1) (aE cAc (m.acc ++ [⟨k, a, x⟩])) Ga' ∧ H = Ga' ++ (A.mb, blk (cMm A va' m) 130) :: R) := by
 obtain ⟨a9, c0, rfl⟩ := hV.slice
 refine dO_ func230 hst ?_
 refine ZAn ?_
 refine ZBP fun b0 => ?_
 refine ZBB ?_
 refine gM [(b0, blk [P_ A.mb] 137), (A.mb, blk (cMm A (.slice a9 m.acc.length c0) m) 130)] [2, 3, 4, 5, 6, 7, 8, 9, 10, 11, 12] (.step true 0 (.step true 1 (.step true 2 (.step true 3 (.step true 4 (.step true 5 (.step true 6 (.step true 7 (.step true 8 (.step true 9 (.step true 10 (.step false 11 (.step false 12 (.step true 13 (.step true 14 (.step false 15 .done)))))))))))))))) rfl y_i y_i (fun x hx => y_n) ?_
 refine ZB2 ?_
 refine DL rfl rfl rfl (cZ (v := .slice a9 m.acc.length c0) m_m (aGZ hl)) rfl (ZBB ?_)
 refine ZDr ?_
 refine DX rfl (bX (z := [.int .i64 0, .int .u16 0, .int .u8 0]) (l := cAc ⟨k, a, x⟩) (ps := [(0, .agg (cAc ⟨k, a, x⟩).toArray)]) rfl rfl rfl rfl rfl rfl) rfl y_el ?_
 rintro _ _ ⟨b1, rfl, rfl⟩
 refine DX rfl (gD (A := [(b1, _), (b0, _)]) (G := Ga) (R := (A.mb, _) :: R) (v := .slice a9 m.acc.length c0) (n := m.acc.length) (xs := aE cAc m.acc) (m := 1) (T := 52) (s := 3) (by_ := 16) (ys := cAc ⟨k, a, x⟩) rfl rfl rfl rfl hV (fun w hw => .row _ _ _ _ _ rfl (aA (b := b1) (.head _) w hw)) rfl o_m o_m) rfl (by intro _ _ _ hK; obtain ⟨G9, hV9, _, rfl⟩ := hK; exact (fun x hx => y_n)) ?_
 rintro v0 _ ⟨G0, hV0, _, rfl⟩
 obtain ⟨b2, cp9, sp0, rfl, rfl, hc0, hle9, hm9⟩ := hV0.full o_m
 refine ZDE ?_
 refine DZ rfl (aD (l' := cMm A (.slice (Q_ b2) (m.acc.length + 1) cp9) m) 3 rfl rfl rfl rfl rfl rfl (by rw [cMm_len hl]; exact ag rfl) (aEl hl _)) rfl n_h (c_u ?_)
 refine ZDR ?_
 exact EV rfl (.cons_cons _ (.cons _ (.cons _ sR_))) ⟨rfl, _, _, hV0.as rfl (jM _ _).symm, rfl⟩
def seen_fn (A : Ad) (acc : AH) (m : Mm) (h : m.Wf) (a : Int) (ha : 0 ≤ a ∧ a < 65536) (w : AI) (hst : St w [A.mb, A.ub] [(A.mb, blk (cMm A acc m) 130), (A.ub, blk (cU m.u) 204)] w) (hr : Row w A.rb 0 (m.ram.map (.int .u8))) (ho : Row w A.ob 0 (m.rom.map (.int .u8))) (hd : A.rb ∉ [A.mb, A.ub] ∧ A.ob ∉ [A.mb, A.ub]) : aC prog 231 [.agg #[P_ A.mb], .int .u16 a] w [A.mb, A.ub] (fun v H => v = .int .u8 (seenM a (cycleM m)) ∧ H = [(A.mb, blk (cMm A acc (cycleM m)) 130), (A.ub, blk (cU (cycleM m).u) 204)]) := by
 have hc := h.cycle
 have hr2 : Row w A.rb 0 ((cycleM m).ram.map (.int .u8)) := by rw [cycleM_ram]; exact hr
 have ho2 : Row w A.ob 0 ((cycleM m).rom.map (.int .u8)) := by rw [cycleM_rom]; exact ho
 refine dO_ func231 hst ?_
 refine ZAn ?_
 refine ZBP fun b0 => ?_
 refine ZB2 ?_
 refine RX (cB (F := [(b0, blk [P_ A.mb] 137)]) (A := [(A.mb, blk (cMm A acc m) 130), (A.ub, blk (cU m.u) 204)]) (G := []) (R := fun v H => v = .tuple #[] ∧ H = [(A.mb, blk (cMm A acc (cycleM m)) 130), (A.ub, blk (cU (cycleM m).u) 204)]) K_ rfl (fun w hw hw2 => cycle_fn A acc m h w hw (aR hr hd.1 w hw2) (aR ho hd.2 w hw2) hd)) rfl (ZAF ?_)
 refine A_10 ?_
 refine RZ (aL rfl rfl rfl (fun w hw => rowM_cp (m := (cycleM m)) (acc := acc) (aA (b := A.mb) m_m w hw))) rfl (ZBR ?_)
 refine RLv K_ (wQ_ (aDD (cycleM m).cp hc.cp a)) ?_
 refine ZBB ?_
 refine KC (fun q0 z0 => ?_) (fun q0 z0 => ?_)
 ·refine ZBx ?_
  exact EV rfl (.cons _ sR_) ⟨cA_ U_ (by unfold seenM; rw [if_pos (by simpa using q0)]), rfl⟩
 refine ZBB ?_
 refine RLv K_ (wQ_ (uS a ha)) ?_
 refine ZAn ?_
 refine KC (fun q1 z1 => ?_) (fun q1 z1 => ?_)
 ·refine ZB2 ?_
  refine RZ (aH rfl rfl (aT (v := P_ A.ub) m_m (get_mid (m := (cycleM m)) hc.ln (j := 14) rfl))) rfl (ZBR ?_)
  refine RLv K_ (fun w hw => aPX A.ub (cycleM m).u hc.u.wf w (aA (b := A.ub) m_m w hw) a ha) ?_
  refine ZBB ?_
  exact EV rfl (.cons _ sR_) ⟨cA_ U_ (by unfold seenM; rw [if_neg y_cV, if_pos q1]), rfl⟩
 refine ZB2 ?_
 refine RLv K_ (fun w hw => aD4 A acc (cycleM m) hc w (aA (b := A.mb) m_m w hw) (aA (b := A.ub) m_m w hw) (aR hr2 hd.1 w hw) (aR ho2 hd.2 w hw) a ha) ?_
 refine ZBB ?_
 exact EV rfl (.cons _ sR_) ⟨cA_ U_ (by unfold seenM; rw [if_neg y_cV, if_neg y_bR]), rfl⟩
def aF4 {n : Nat} (A : Ad) (hd : A.rb ∉ [A.mb, A.ub] ∧ A.ob ∉ [A.mb, A.ub]) (m : Mm) (hm : fQ (n + 1) m) (H : aB) (hr : pT A m H) (a : Int) (ha : 0 ≤ a ∧ a < 65536) (w : AI) (hst : St w (H.map (·.1)) H w) : aC prog 225 [.agg #[P_ A.mb], .int .u16 a] w (H.map (·.1)) (fun v H' => v = .int .u8 (dN.fetch a m).1 ∧ pT A (dN.fetch a m).2 H') := by
 obtain ⟨va, Ga, hV, rfl⟩ := hr
 have h := hm.wf
 have hroom := hm.room
 have hc := h.cycle
 refine ZA8 fun hVc hrc => ?_
 refine dO_ func225 hst ?_
 refine ZAn ?_
 refine ZBP fun b0 => ?_
 refine ZBB ?_
 refine ZCg ?_
 refine ZBR ?_
 refine bU rfl rfl rfl rfl y_bE rfl rfl ?_
 refine ZA2 ?_
 refine ZAF ?_
 refine DX rfl (aS (F := [(b0, _)]) (A := Ga ++ (A.mb, blk (cMm A va (cycleM m)) 130) :: [(A.ub, blk (cU (cycleM m).u) 204), (A.rb, blk (List.map U_ m.ram ++ A.rs) 5), (A.ob, blk (List.map U_ m.rom ++ A.sp) 5)]) (R := fun v H => v = .int .u8 (seenM a (cycleM m)) ∧ ∃ va' Ga', Vec 52 3 va' ((cycleM m).acc.length + 1) (aE cAc ((cycleM m).acc ++ [⟨3, a, (seenM a (cycleM m))⟩])) Ga' ∧ H = Ga' ++ (A.mb, blk (cMm A va' (cycleM m)) 130) :: [(A.ub, blk (cU (cycleM m).u) 204), (A.rb, blk (List.map U_ m.ram ++ A.rs) 5), (A.ob, blk (List.map U_ m.rom ++ A.sp) 5)]) K_ rfl (wL_ (note_fn A (cycleM m) hc.ln hrc va Ga _ hVc 3 a (seenM a (cycleM m))))) rfl y_ec ?_
 rintro _ _ ⟨_, ⟨rfl, va', Ga', hV', rfl⟩, rfl⟩
 refine ZBB ?_
 exact EV rfl (.cons _ sR_) ⟨rfl, va', Ga', hV'.as y_cp rfl, y_8⟩
def aIw {n : Nat} (A : Ad) (hd : A.rb ∉ [A.mb, A.ub] ∧ A.ob ∉ [A.mb, A.ub]) (m : Mm) (hm : fQ (n + 1) m) (H : aB) (hr : pT A m H) (a : Int) (ha : 0 ≤ a ∧ a < 65536) (w : AI) (hst : St w (H.map (·.1)) H w) : aC prog 228 [.agg #[P_ A.mb], .int .u16 a] w (H.map (·.1)) (fun v H' => v = .int .u8 (dN.read a m).1 ∧ pT A (dN.read a m).2 H') := by
 obtain ⟨va, Ga, hV, rfl⟩ := hr
 have h := hm.wf
 have hroom := hm.room
 have hc := h.cycle
 refine ZA8 fun hVc hrc => ?_
 refine dO_ func228 hst ?_
 refine ZAn ?_
 refine ZBP fun b0 => ?_
 refine ZBB ?_
 refine ZCg ?_
 refine ZBR ?_
 refine bU rfl rfl rfl rfl y_bE rfl rfl ?_
 refine ZA2 ?_
 refine ZAF ?_
 refine DX rfl (aS (F := [(b0, _)]) (A := Ga ++ (A.mb, blk (cMm A va (cycleM m)) 130) :: [(A.ub, blk (cU (cycleM m).u) 204), (A.rb, blk (List.map U_ m.ram ++ A.rs) 5), (A.ob, blk (List.map U_ m.rom ++ A.sp) 5)]) (R := fun v H => v = .int .u8 (seenM a (cycleM m)) ∧ ∃ va' Ga', Vec 52 3 va' ((cycleM m).acc.length + 1) (aE cAc ((cycleM m).acc ++ [⟨1, a, (seenM a (cycleM m))⟩])) Ga' ∧ H = Ga' ++ (A.mb, blk (cMm A va' (cycleM m)) 130) :: [(A.ub, blk (cU (cycleM m).u) 204), (A.rb, blk (List.map U_ m.ram ++ A.rs) 5), (A.ob, blk (List.map U_ m.rom ++ A.sp) 5)]) K_ rfl (wL_ (note_fn A (cycleM m) hc.ln hrc va Ga _ hVc 1 a (seenM a (cycleM m))))) rfl y_ec ?_
 rintro _ _ ⟨_, ⟨rfl, va', Ga', hV', rfl⟩, rfl⟩
 refine ZBB ?_
 exact EV rfl (.cons _ sR_) ⟨rfl, va', Ga', hV'.as y_cp rfl, y_8⟩
def aHr {n : Nat} (A : Ad) (hd : A.rb ∉ [A.mb, A.ub] ∧ A.ob ∉ [A.mb, A.ub]) (m : Mm) (hm : fQ (n + 1) m) (H : aB) (hr : pT A m H) (w : AI) (hst : St w (H.map (·.1)) H w) : aC prog 226 [.agg #[P_ A.mb]] w (H.map (·.1)) (fun v H' => v = .tuple #[] ∧ pT A (dN.idle m) H') := by
 obtain ⟨va, Ga, hV, rfl⟩ := hr
 have h := hm.wf
 have hroom := hm.room
 have hc := h.cycle
 refine ZA8 fun hVc hrc => ?_
 refine dO_ func226 hst ?_
 refine ZAn ?_
 refine ZBP fun b0 => ?_
 refine ZA6 ?_
 refine ZAF ?_
 refine ZAn ?_
 refine RZ (aL rfl rfl rfl y_cm) rfl (RX (aS (F := [(b0, _)]) (A := Ga ++ (A.mb, blk (cMm A va (cycleM m)) 130) :: [(A.ub, blk (cU (cycleM m).u) 204), (A.rb, blk (List.map U_ m.ram ++ A.rs) 5), (A.ob, blk (List.map U_ m.rom ++ A.sp) 5)]) (R := fun v H => v = .int .u8 0 ∧ ∃ va' Ga', Vec 52 3 va' ((cycleM m).acc.length + 1) (aE cAc ((cycleM m).acc ++ [⟨0, 0, 0⟩])) Ga' ∧ H = Ga' ++ (A.mb, blk (cMm A va' (cycleM m)) 130) :: [(A.ub, blk (cU (cycleM m).u) 204), (A.rb, blk (List.map U_ m.ram ++ A.rs) 5), (A.ob, blk (List.map U_ m.rom ++ A.sp) 5)]) K_ rfl (wL_ (note_fn A (cycleM m) hc.ln hrc va Ga _ hVc 0 0 0))) rfl ?_)
 rintro _ _ ⟨_, ⟨rfl, va', Ga', hV', rfl⟩, rfl⟩
 refine ZBR ?_
 exact EN (.cons _ sR_) ⟨rfl, va', Ga', hV'.as y_cp rfl, y_8⟩
def aDG {n : Nat} (A : Ad) (hd : A.rb ∉ [A.mb, A.ub] ∧ A.ob ∉ [A.mb, A.ub]) (m : Mm) (hm : fQ n m) (H : aB) (hr : pT A m H) (w : AI) (hst : St w (H.map (·.1)) H w) : aC prog 227 [.agg #[P_ A.mb]] w (H.map (·.1)) (fun v H' => v = .int .u8 (dN.pend m) ∧ H' = H) := by
 obtain ⟨va, Ga, hV, rfl⟩ := hr
 have h := hm.wf
 refine dO_ func227 hst ?_
 refine ZAn ?_
 refine ZBP fun b0 => ?_
 refine ZBB ?_
 refine DR [6, 7, 8, 9, 10, 11] (pln [0, 2, 4, 6, 8, 10, 12, 14, 16, 18, 20, 22, 24, 26, 28]) ?_
 refine ZBx ?_
 refine DL rfl rfl rfl (cZ (v := .int .u8 m.flags) m_m (get_mid h.ln (j := 0) rfl)) rfl (ZBx ?_)
 refine DL rfl rfl rfl (cZ (v := .int .u8 m.lets) m_m (get_mid h.ln (j := 1) rfl)) rfl (DW (v := (.int .u8 (aG .u8 m.flags m.lets))) rfl (bA rfl rfl) rfl rfl (DW (v := (.int .u8 (dN.pend m))) rfl (bA rfl rfl) rfl rfl (ZBB ?_)))
 exact EV rfl (.cons _ sR_) ⟨rfl, rfl⟩
def aJR {n : Nat} (A : Ad) (hd : A.rb ∉ [A.mb, A.ub] ∧ A.ob ∉ [A.mb, A.ub]) (m : Mm) (hm : fQ n m) (H : aB) (hr : pT A m H) (k : Int) (hk : 0 ≤ k ∧ k < 5) (w : AI) (hst : St w (H.map (·.1)) H w) : aC prog 224 [.agg #[P_ A.mb], .int .i64 k] w (H.map (·.1)) (fun v H' => v = .tuple #[] ∧ pT A (dN.ack k m) H') := by
 obtain ⟨va, Ga, hV, rfl⟩ := hr
 have h := hm.wf
 refine dO_ func224 hst ?_
 refine ZBR ?_
 refine eP (fun w hw => hw.perm au) ?_
 refine ZB4 ?_
 refine ZBR ?_
 refine ZBP fun b0 => ?_
 refine ZBR ?_
 refine DR [6, 7] (pln [0, 2, 4, 6, 8, 10, 12, 14, 16, 18, 20, 22, 25]) ?_
 refine ZBx ?_
 refine DL rfl rfl rfl (cZ (v := .int .u8 m.flags) m_m (get_mid h.ln (j := 0) rfl)) rfl (ZBR ?_)
 refine DW (v := (.int .u8 (shl .u8 1 k))) rfl (dJ rfl rfl hk.1) rfl rfl (DW (v := (.int .u8 (qD m.flags k))) rfl (sJ rfl rfl) rfl (cA_ _ (aGp h.flags o_m)) (ZBB ?_))
 refine DZ rfl (aD (l' := cMm A va { m with flags := qD m.flags k }) 1 rfl rfl rfl rfl rfl rfl y_y (rN h.ln _)) rfl n_h (ZEi ?_)
 exact eQ (fun _ _ => eL) (fun w hw => (hw.sub (.cons _ sR_)).perm (au (l₁ := [(A.mb, _), (A.ub, _), (A.rb, _), (A.ob, _)]))) ⟨rfl, va, Ga, hV, rfl⟩
def aGb {n : Nat} (A : Ad) (hd : A.rb ∉ [A.mb, A.ub] ∧ A.ob ∉ [A.mb, A.ub]) (m : Mm) (hm : fQ (n + 1) m) (H : aB) (hr : pT A m H) (a x : Int) (ha : 0 ≤ a ∧ a < 65536) (hx : 0 ≤ x ∧ x < 256) (w : AI) (hst : St w (H.map (·.1)) H w) : aC prog 229 [.agg #[P_ A.mb], .int .u16 a, .int .u8 x] w (H.map (·.1)) (fun v H' => v = .tuple #[] ∧ pT A (dN.write a x m) H') := by
 obtain ⟨va, Ga, hV, rfl⟩ := hr
 have h := hm.wf
 have hroom := hm.room
 have hc := h.cycle
 refine ZA8 fun hVc hrc => ?_
 refine dO_ func229 hst ?_
 refine ZAn ?_
 refine ZBP fun b0 => ?_
 refine ZA6 ?_
 refine ZAF ?_
 refine ZBB ?_
 refine eP (L' := (b0, blk [P_ A.mb] 137) :: (Ga ++ [(A.mb, blk (cMm A va (cycleM m)) 130), (A.ub, blk (cU (cycleM m).u) 204), (A.rb, blk (List.map U_ (cycleM m).ram ++ A.rs) 5), (A.ob, blk (List.map U_ (cycleM m).rom ++ A.sp) 5)])) (fun _ h => h.as (by rw [cycleM_ram, cycleM_rom])) ?_
 refine ZB2 ?_
 refine RZ (aL rfl rfl rfl (fun w hw => rowM_cp (m := (cycleM m)) (acc := va) (aA (b := A.mb) m_m w hw))) rfl (ZBR ?_)
 refine RLv K_ (wQ_ (aDD (cycleM m).cp hc.cp a)) ?_
 refine ZBR ?_
 refine KC (fun q0 z0 => ?_) (fun q0 z0 => ?_)
 ·refine ZBx ?_
  refine RX (cB (F := (b0, _) :: Ga) (A := [(A.mb, blk (cMm A va (cycleM m)) 130), (A.ub, blk (cU (cycleM m).u) 204), (A.rb, blk (List.map U_ (cycleM m).ram ++ A.rs) 5)]) (G := [(A.ob, blk (List.map U_ (cycleM m).rom ++ A.sp) 5)]) (R := fun v H => v = .tuple #[] ∧ H = [(A.mb, blk (cMm A va (pokeM a x (cycleM m))) 130), (A.ub, blk (cU (pokeM a x (cycleM m)).u) 204), (A.rb, blk (List.map U_ (pokeM a x (cycleM m)).ram ++ A.rs) 5)]) K_ rfl (wA_ (aPb A va (cycleM m) hc a x ha hx))) rfl (ZAF ?_)
  refine ZAn ?_
  refine RZ (aL rfl rfl rfl y_cm) rfl (ZAn ?_)
  have hVs : Vec 52 3 va (pokeM a x (cycleM m)).acc.length (aE cAc (pokeM a x (cycleM m)).acc) Ga := by rw [qV, cycleM_acc]; exact hV
  have hrs : (pokeM a x (cycleM m)).acc.length + 1 ≤ 1000000 := by rw [qV, cycleM_acc]; omega
  refine RX (aS (F := [(b0, _)]) (A := Ga ++ (A.mb, blk (cMm A va (pokeM a x (cycleM m))) 130) :: [(A.ub, blk (cU (pokeM a x (cycleM m)).u) 204), (A.rb, blk (List.map U_ (pokeM a x (cycleM m)).ram ++ A.rs) 5), (A.ob, blk (List.map U_ (cycleM m).rom ++ A.sp) 5)]) (R := fun v H => v = .int .u8 x ∧ ∃ va' Ga', Vec 52 3 va' ((pokeM a x (cycleM m)).acc.length + 1) (aE cAc ((pokeM a x (cycleM m)).acc ++ [⟨2, a, x⟩])) Ga' ∧ H = Ga' ++ (A.mb, blk (cMm A va' (pokeM a x (cycleM m))) 130) :: [(A.ub, blk (cU (pokeM a x (cycleM m)).u) 204), (A.rb, blk (List.map U_ (pokeM a x (cycleM m)).ram ++ A.rs) 5), (A.ob, blk (List.map U_ (cycleM m).rom ++ A.sp) 5)]) K_ rfl (wL_ (note_fn A (pokeM a x (cycleM m)) (hc.poke a hx).ln hrs va Ga _ hVs 2 a x))) rfl ?_
  rintro _ _ ⟨_, ⟨rfl, va', Ga', hV', rfl⟩, rfl⟩
  refine ZBR ?_
  have e9 : (if letsCp (cycleM m).cp a = true then pokeM a x (cycleM m) else (cycleM m)) = (pokeM a x (cycleM m)) := if_pos q0
  exact EN (.cons _ sR_) ⟨rfl, va', Ga', y_bf, by unfold dN; dsimp only; rw [e9]; show _ = _ ++ [_, _, _, (A.ob, blk (List.map U_ (pokeM a x (cycleM m)).rom ++ A.sp) 5)]; rw [aKs]; rfl⟩
 refine ZAn ?_
 refine RZ (aL rfl rfl rfl y_cm) rfl (ZAn ?_)
 have hVs : Vec 52 3 va (cycleM m).acc.length (aE cAc (cycleM m).acc) Ga := by rw [cycleM_acc]; exact hV
 have hrs : (cycleM m).acc.length + 1 ≤ 1000000 := by rw [cycleM_acc]; omega
 refine RX (aS (F := [(b0, _)]) (A := Ga ++ (A.mb, blk (cMm A va (cycleM m)) 130) :: [(A.ub, blk (cU (cycleM m).u) 204), (A.rb, blk (List.map U_ (cycleM m).ram ++ A.rs) 5), (A.ob, blk (List.map U_ (cycleM m).rom ++ A.sp) 5)]) (R := fun v H => v = .int .u8 x ∧ ∃ va' Ga', Vec 52 3 va' ((cycleM m).acc.length + 1) (aE cAc ((cycleM m).acc ++ [⟨2, a, x⟩])) Ga' ∧ H = Ga' ++ (A.mb, blk (cMm A va' (cycleM m)) 130) :: [(A.ub, blk (cU (cycleM m).u) 204), (A.rb, blk (List.map U_ (cycleM m).ram ++ A.rs) 5), (A.ob, blk (List.map U_ (cycleM m).rom ++ A.sp) 5)]) K_ rfl (wL_ (note_fn A (cycleM m) hc.ln hrs va Ga _ hVs 2 a x))) rfl ?_
 rintro _ _ ⟨_, ⟨rfl, va', Ga', hV', rfl⟩, rfl⟩
 refine ZBR ?_
 have e9 : (if letsCp (cycleM m).cp a = true then pokeM a x (cycleM m) else (cycleM m)) = (cycleM m) := if_neg (by rw [q0]; decide)
 exact EN (.cons _ sR_) ⟨rfl, va', Ga', y_bf, by unfold dN; dsimp only; rw [e9]; rfl⟩
def eZ (rb : Nat) (n : Int) (w : AI) : aC prog 153 [P_ rb, .int .i64 n] w [] (V_ (atV rb n)) := by
 refine dR_ func153 ?_
 refine ZBx ?_
 refine DR [] (pln [0, 2, 4, 6, 8, 10, 12, 14, 16, 18, 20, 22, 24, 26, 28, 30, 32, 34, 36, 38, 40, 42, 45, 47]) ?_
 refine A_21 ?_
 refine DY rfl (jW (l := [.pointer (some ⟨rb, 2, none⟩), .pointer (some ⟨rb, 3, none⟩), .pointer (some ⟨rb, 4, none⟩), .pointer (some ⟨rb, 5, none⟩), .pointer (some ⟨rb, 6, none⟩), .pointer (some ⟨rb, 7, none⟩), .pointer none, P_ rb]) (z := [.pointer none, .pointer none, .pointer none, .pointer none, .pointer none, .pointer none, .pointer none, .pointer none]) (ps := [(0, .pointer (some ⟨rb, 2, none⟩)), (1, .pointer (some ⟨rb, 3, none⟩)), (2, .pointer (some ⟨rb, 4, none⟩)), (3, .pointer (some ⟨rb, 5, none⟩)), (4, .pointer (some ⟨rb, 6, none⟩)), (5, .pointer (some ⟨rb, 7, none⟩)), (6, .pointer none), (7, P_ rb)]) rfl y_i rfl y_i) rfl (DX rfl (bY rfl) rfl n_h (ZBz fun b0 => ?_))
 refine DZ rfl s_t rfl n_h (ZB2 ?_)
 refine KL (fun q0 z0 => ?_) (fun q0 z0 => ?_)
 ·refine A_10 ?_
  exact E0 rfl ⟨rfl, (by unfold atV; rw [if_pos o_m])⟩
 refine ZB6 ?_
 refine KC (fun q1 z1 => ?_) (fun q1 z1 => ?_)
 ·refine ZBx ?_
  exact E0 rfl ⟨rfl, (by unfold atV; rw [if_pos o_m])⟩
 refine ZAn ?_
 rcases (show n = 0 ∨ n = 1 ∨ n = 2 ∨ n = 3 ∨ n = 4 ∨ n = 5 ∨ n = 6 ∨ n = 7 by omega) with rfl | rfl | rfl | rfl | rfl | rfl | rfl | rfl
 ·refine ZAn ?_
  exact RY (aM 0 rfl rfl rfl rfl y_b) rfl ZAw
 ·refine ZAn ?_
  exact RY (aM 1 rfl rfl rfl rfl y_b) rfl ZAw
 ·refine ZAn ?_
  exact RY (aM 2 rfl rfl rfl rfl y_b) rfl ZAw
 ·refine ZAn ?_
  exact RY (aM 3 rfl rfl rfl rfl y_b) rfl ZAw
 ·refine ZAn ?_
  exact RY (aM 4 rfl rfl rfl rfl y_b) rfl ZAw
 ·refine ZAn ?_
  exact RY (aM 5 rfl rfl rfl rfl y_b) rfl ZAw
 ·refine ZAn ?_
  exact RY (aM 6 rfl rfl rfl rfl y_b) rfl ZAw
 refine ZAn ?_
 exact RY (aM 7 rfl rfl rfl rfl y_b) rfl ZAw
def aRI (r : CR) (n : Int) (w : AI) : aC prog 133 [.agg (cR r).toArray, .int .i64 n] w [] (fun v H => H = [] ∧ ∃ k : Int, v = .tuple #[.int .u8 (yZ r n), .int .i64 k]) := by
 refine dR_ func133 ?_
 refine ZDJ ?_
 refine ZBz fun b0 => ?_
 refine ZBx ?_
 rcases aDr n with rfl | rfl | rfl | rfl | rfl | rfl | rfl | hno
 ·refine ZAn ?_
  refine RLv K_ (wQ_ (eZ b0 0)) ?_
  rw [show atV b0 0 = Value.pointer (some ⟨b0, 2, none⟩) from rfl]
  exact ZA9
 ·refine ZAn ?_
  refine RLv K_ (wQ_ (eZ b0 1)) ?_
  rw [show atV b0 1 = Value.pointer (some ⟨b0, 3, none⟩) from rfl]
  exact ZA9
 ·refine ZAn ?_
  refine RLv K_ (wQ_ (eZ b0 2)) ?_
  rw [show atV b0 2 = Value.pointer (some ⟨b0, 4, none⟩) from rfl]
  exact ZA9
 ·refine ZAn ?_
  refine RLv K_ (wQ_ (eZ b0 3)) ?_
  rw [show atV b0 3 = Value.pointer (some ⟨b0, 5, none⟩) from rfl]
  exact ZA9
 ·refine ZAn ?_
  refine RLv K_ (wQ_ (eZ b0 4)) ?_
  rw [show atV b0 4 = Value.pointer (some ⟨b0, 6, none⟩) from rfl]
  exact ZA9
 ·refine ZAn ?_
  refine RLv K_ (wQ_ (eZ b0 5)) ?_
  rw [show atV b0 5 = Value.pointer (some ⟨b0, 7, none⟩) from rfl]
  exact ZA9
 ·refine ZAn ?_
  refine RLv K_ (wQ_ (eZ b0 7)) ?_
  rw [show atV b0 7 = P_ b0 from rfl]
  exact ZA9
 refine ZAn ?_
 refine RLv K_ (wQ_ (eZ b0 n)) ?_
 rw [aI3 hno]
 refine A_15 ?_
 exact aF (fun _ _ => bZ rfl rfl) ⟨rfl, _, by rw [aOF hno]⟩
def aRz (r : CR) (n x : Int) (w : AI) : aC prog 132 [.agg (cR r).toArray, .int .i64 n, .int .u8 x] w [] (fun v H => H = [] ∧ ∃ k : Int, v = .tuple #[.agg (cR (lM r n x)).toArray, .int .i64 k]) := by
 refine dR_ func132 ?_
 refine ZDJ ?_
 refine ZDl fun b0 b1 => ?_
 refine ZBB ?_
 rcases aDr n with rfl | rfl | rfl | rfl | rfl | rfl | rfl | hno
 ·refine ZAn ?_
  refine RLv K_ (wQ_ (eZ b0 0)) ?_
  rw [show atV b0 0 = Value.pointer (some ⟨b0, 2, none⟩) from rfl]
  refine A_15 ?_
  refine ZAE ?_
  refine ZA4 ?_
  exact aF (fun w hw => bC rfl rfl rfl (aA (b := b1) (l := cR (lM r 0 x)) m_m w hw) rfl) ⟨rfl, _, rfl⟩
 ·refine ZAn ?_
  refine RLv K_ (wQ_ (eZ b0 1)) ?_
  rw [show atV b0 1 = Value.pointer (some ⟨b0, 3, none⟩) from rfl]
  refine A_15 ?_
  refine ZAE ?_
  refine ZA4 ?_
  exact aF (fun w hw => bC rfl rfl rfl (aA (b := b1) (l := cR (lM r 1 x)) m_m w hw) rfl) ⟨rfl, _, rfl⟩
 ·refine ZAn ?_
  refine RLv K_ (wQ_ (eZ b0 2)) ?_
  rw [show atV b0 2 = Value.pointer (some ⟨b0, 4, none⟩) from rfl]
  refine A_15 ?_
  refine ZAE ?_
  refine ZA4 ?_
  exact aF (fun w hw => bC rfl rfl rfl (aA (b := b1) (l := cR (lM r 2 x)) m_m w hw) rfl) ⟨rfl, _, rfl⟩
 ·refine ZAn ?_
  refine RLv K_ (wQ_ (eZ b0 3)) ?_
  rw [show atV b0 3 = Value.pointer (some ⟨b0, 5, none⟩) from rfl]
  refine A_15 ?_
  refine ZAE ?_
  refine ZA4 ?_
  exact aF (fun w hw => bC rfl rfl rfl (aA (b := b1) (l := cR (lM r 3 x)) m_m w hw) rfl) ⟨rfl, _, rfl⟩
 ·refine ZAn ?_
  refine RLv K_ (wQ_ (eZ b0 4)) ?_
  rw [show atV b0 4 = Value.pointer (some ⟨b0, 6, none⟩) from rfl]
  refine A_15 ?_
  refine ZAE ?_
  refine ZA4 ?_
  exact aF (fun w hw => bC rfl rfl rfl (aA (b := b1) (l := cR (lM r 4 x)) m_m w hw) rfl) ⟨rfl, _, rfl⟩
 ·refine ZAn ?_
  refine RLv K_ (wQ_ (eZ b0 5)) ?_
  rw [show atV b0 5 = Value.pointer (some ⟨b0, 7, none⟩) from rfl]
  refine A_15 ?_
  refine ZAE ?_
  refine ZA4 ?_
  exact aF (fun w hw => bC rfl rfl rfl (aA (b := b1) (l := cR (lM r 5 x)) m_m w hw) rfl) ⟨rfl, _, rfl⟩
 ·refine ZAn ?_
  refine RLv K_ (wQ_ (eZ b0 7)) ?_
  rw [show atV b0 7 = P_ b0 from rfl]
  refine A_15 ?_
  refine ZAE ?_
  refine ZA4 ?_
  exact aF (fun w hw => bC rfl rfl rfl (aA (b := b1) (l := cR (lM r 7 x)) m_m w hw) rfl) ⟨rfl, _, rfl⟩
 refine ZAn ?_
 refine RLv K_ (wQ_ (eZ b0 n)) ?_
 rw [aI3 hno]
 refine A_11 ?_
 refine RS ?_
 refine ZAE ?_
 exact aF (fun w hw => bC rfl rfl rfl (aA (b := b1) m_m w hw) rfl) ⟨rfl, _, by rw [aN8 hno]; rfl⟩
def nY (rb : Nat) (n : Int) (hn : n = 0 ∨ n = 1 ∨ n = 2 ∨ n = 4) (w : AI) : aC prog 155 [P_ rb, .int .i64 n] w [] (V_ (.tuple #[.pointer (some ⟨rb, hiO n, none⟩), .pointer (some ⟨rb, loO n, none⟩)])) := by
 refine dR_ func155 ?_
 refine ZDR ?_
 rcases hn with rfl | rfl | rfl | rfl
 ·refine A_10 ?_
  refine ZBu ?_
  refine RLv K_ (wQ_ (eZ rb (2 * 0))) ?_
  rw [show atV rb (2 * 0) = Value.pointer (some ⟨rb, 2, none⟩) from rfl]
  refine ZAn ?_
  refine ZBu ?_
  refine ZAb ?_
  refine RLv K_ (wQ_ (eZ rb (2 * 0 + 1))) ?_
  rw [show atV rb (2 * 0 + 1) = Value.pointer (some ⟨rb, 3, none⟩) from rfl]
  exact ZDv
 ·refine A_10 ?_
  refine ZBu ?_
  refine RLv K_ (wQ_ (eZ rb (2 * 1))) ?_
  rw [show atV rb (2 * 1) = Value.pointer (some ⟨rb, 4, none⟩) from rfl]
  refine ZAn ?_
  refine ZBu ?_
  refine ZAb ?_
  refine RLv K_ (wQ_ (eZ rb (2 * 1 + 1))) ?_
  rw [show atV rb (2 * 1 + 1) = Value.pointer (some ⟨rb, 5, none⟩) from rfl]
  exact ZDv
 ·refine A_10 ?_
  refine ZBu ?_
  refine RLv K_ (wQ_ (eZ rb (2 * 2))) ?_
  rw [show atV rb (2 * 2) = Value.pointer (some ⟨rb, 6, none⟩) from rfl]
  refine ZAn ?_
  refine ZBu ?_
  refine ZAb ?_
  refine RLv K_ (wQ_ (eZ rb (2 * 2 + 1))) ?_
  rw [show atV rb (2 * 2 + 1) = Value.pointer (some ⟨rb, 7, none⟩) from rfl]
  exact ZDv
 refine ZB2 ?_
 refine DR [] (pln [0, 2, 4, 6, 8, 10, 12, 14]) ?_
 refine A_10 ?_
 exact aF (fun _ _ => bZ rfl rfl) ⟨rfl, rfl⟩
def aPM (r : CR) (hr : r.Ok) (n : Int) (w : AI) : aC prog 143 [.agg (cR r).toArray, .int .i64 n] w [] (fun v H => H = [] ∧ ∃ k : Int, v = .tuple #[.int .u16 (bD r n), .int .i64 k]) := by
 have k1 := hr.a
 have k2 := hr.f
 have k3 := hr.b
 have k4 := hr.c
 have k5 := hr.d
 have k6 := hr.e
 have k7 := hr.h
 have k8 := hr.l
 have k9 := hr.sp
 refine dR_ func143 ?_
 refine ZDJ ?_
 refine ZBz fun b0 => ?_
 refine A_9 ?_
 refine KL (fun q0 z0 => ?_) (fun q0 z0 => ?_)
 ·refine A_12 ?_
  exact aF (fun _ _ => bZ rfl rfl) ⟨rfl, _, (by rw [aFr o_m])⟩
 refine ZBx ?_
 refine KC (fun q1 z1 => ?_) (fun q1 z1 => ?_)
 ·refine ZB2 ?_
  exact aF (fun _ _ => bZ rfl rfl) ⟨rfl, _, (by rw [aFr o_m])⟩
 refine ZB2 ?_
 refine KC (fun q2 z2 => ?_) (fun q2 z2 => ?_)
 ·refine A_8 ?_
  obtain rfl : n = 3 := by omega
  exact aF (fun _ _ => bZ rfl rfl) ⟨rfl, _, rfl⟩
 refine ZBx ?_
 refine RW (v := (.int .u8 (r.f / 16 * 16))) (bA rfl rfl) rfl (cA_ _ (aSu hr.f)) (ZBR ?_)
 refine ZAI ?_
 rcases (show n = 0 ∨ n = 1 ∨ n = 2 ∨ n = 4 by omega) with rfl | rfl | rfl | rfl
 ·refine ZAn ?_
  refine RLv K_ (wQ_ (nY b0 0 y_b)) ?_
  rw [show hiO 0 = 2 from rfl, show loO 0 = 3 from rfl]
  refine ZCe ?_
  refine ZD4 ?_
  refine ZBj ?_
  exact DW (v := (.int .u16 (r.b * 256 + r.c))) rfl (cM rfl rfl) rfl (cA_ _ (rG hr.b hr.c)) ZCm
 ·refine ZAn ?_
  refine RLv K_ (wQ_ (nY b0 1 y_b)) ?_
  rw [show hiO 1 = 4 from rfl, show loO 1 = 5 from rfl]
  refine ZCe ?_
  refine ZD4 ?_
  refine ZBj ?_
  exact DW (v := (.int .u16 (r.d * 256 + r.e))) rfl (cM rfl rfl) rfl (cA_ _ (rG hr.d hr.e)) ZCm
 ·refine ZAn ?_
  refine RLv K_ (wQ_ (nY b0 2 y_b)) ?_
  rw [show hiO 2 = 6 from rfl, show loO 2 = 7 from rfl]
  refine ZCe ?_
  refine ZD4 ?_
  refine ZBj ?_
  exact DW (v := (.int .u16 (r.h * 256 + r.l))) rfl (cM rfl rfl) rfl (cA_ _ (rG hr.h hr.l)) ZCm
 refine ZAn ?_
 refine RLv K_ (wQ_ (nY b0 4 y_b)) ?_
 rw [show hiO 4 = 0 from rfl, show loO 4 = 1 from rfl]
 refine ZCe ?_
 refine ZD4 ?_
 refine ZBj ?_
 exact DW (v := (.int .u16 (r.a * 256 + r.f / 16 * 16))) rfl (cM rfl rfl) rfl (cA_ _ (rG hr.a o_m)) ZCm
def aIo (r : CR) (n x : Int) (hx : 0 ≤ x ∧ x < 65536) (w : AI) : aC prog 142 [.agg (cR r).toArray, .int .i64 n, .int .u16 x] w [] (fun v H => H = [] ∧ ∃ k : Int, v = .tuple #[.agg (cR (dZ r n x)).toArray, .int .i64 k]) := by
 refine dR_ func142 ?_
 refine ZDJ ?_
 refine ZDl fun b0 b1 => ?_
 refine A_8 ?_
 refine KL (fun q0 z0 => ?_) (fun q0 z0 => ?_)
 ·refine A_8 ?_
  refine RS ?_
  exact ZDn
 refine ZBx ?_
 refine KC (fun q1 z1 => ?_) (fun q1 z1 => ?_)
 ·refine ZAn ?_
  refine RS ?_
  exact ZDn
 refine ZB2 ?_
 refine KC (fun q2 z2 => ?_) (fun q2 z2 => ?_)
 ·refine ZB6 ?_
  refine ZAE ?_
  refine ZA4 ?_
  obtain rfl : n = 3 := by omega
  exact aF (fun w hw => bC rfl rfl rfl (aA (b := b1) (l := cR (dZ r 3 x)) m_m w hw) rfl) ⟨rfl, _, rfl⟩
 refine ZB2 ?_
 refine KC (fun q3 z3 => ?_) (fun q3 z3 => ?_)
 ·refine ZAn ?_
  refine RW (v := (.int .u16 (x / 16 * 16))) (sJ rfl rfl) rfl (cA_ _ (aQr hx)) (ZBB ?_)
  obtain rfl : n = 4 := by omega
  ·refine ZAn ?_
   refine RLv K_ (wQ_ (nY b0 4 y_b)) ?_
   rw [show hiO 4 = 0 from rfl, show loO 4 = 1 from rfl]
   refine A_11 ?_
   refine ZA7 ?_
   refine ZBR ?_
   refine RW (v := (.int .u8 (x % 256 / 16 * 16))) (dM rfl rfl rfl) rfl (cA_ _ ((eX _).trans o_m)) (ZAy ?_)
   refine ZAz ?_
   refine ZA4 ?_
   exact aF (fun w hw => bC rfl rfl rfl (aA (b := b1) (l := cR (dZ r 4 x)) m_m w hw) rfl) ⟨rfl, _, rfl⟩
 refine ZAn ?_
 rcases (show n = 0 ∨ n = 1 ∨ n = 2 by omega) with rfl | rfl | rfl
 ·refine ZAn ?_
  refine RLv K_ (wQ_ (nY b0 0 y_b)) ?_
  rw [show hiO 0 = 2 from rfl, show loO 0 = 3 from rfl]
  refine A_11 ?_
  refine ZA7 ?_
  refine ZC1 ?_
  refine ZAy ?_
  refine ZAz ?_
  refine ZA4 ?_
  exact aF (fun w hw => bC rfl rfl rfl (aA (b := b1) (l := cR (dZ r 0 x)) m_m w hw) rfl) ⟨rfl, _, rfl⟩
 ·refine ZAn ?_
  refine RLv K_ (wQ_ (nY b0 1 y_b)) ?_
  rw [show hiO 1 = 4 from rfl, show loO 1 = 5 from rfl]
  refine A_11 ?_
  refine ZA7 ?_
  refine ZC1 ?_
  refine ZAy ?_
  refine ZAz ?_
  refine ZA4 ?_
  exact aF (fun w hw => bC rfl rfl rfl (aA (b := b1) (l := cR (dZ r 1 x)) m_m w hw) rfl) ⟨rfl, _, rfl⟩
 refine ZAn ?_
 refine RLv K_ (wQ_ (nY b0 2 y_b)) ?_
 rw [show hiO 2 = 6 from rfl, show loO 2 = 7 from rfl]
 refine A_11 ?_
 refine ZA7 ?_
 refine ZC1 ?_
 refine ZAy ?_
 refine ZAz ?_
 refine ZA4 ?_
 exact aF (fun w hw => bC rfl rfl rfl (aA (b := b1) (l := cR (dZ r 2 x)) m_m w hw) rfl) ⟨rfl, _, rfl⟩
def aSC (r : CR) (hr : r.Ok) (n : Int) (w : AI) : aC prog 125 [.agg (cR r).toArray, .int .i64 n] w [] (V_ (.bool (isR r n))) := by
 refine dR_ func125 ?_
 refine ZDJ ?_
 refine ZBz fun b0 => ?_
 refine A_14 ?_
 refine KC (fun q0 z0 => ?_) (fun q0 z0 => ?_)
 ·refine ZBR ?_
  refine fK true rfl q0 ?_
  refine ZB6 ?_
  refine RW (v := (.int .u8 (aG .u8 r.f 128))) rfl rfl rfl (RW (v := (.bool (zF r.f))) rfl rfl (cA_ _ (aNz hr.f)) (ZAn ?_))
  refine RY (uI rfl rfl rfl) rfl (ZBB ?_)
  exact E0 rfl ⟨rfl, (cA_ Value.bool (aIX o_m r))⟩
 refine ZB6 ?_
 refine KC (fun q1 z1 => ?_) (fun q1 z1 => ?_)
 ·refine ZB6 ?_
  refine RW (v := (.int .u8 (aG .u8 r.f 128))) rfl rfl rfl (RW (v := (.bool (zF r.f))) rfl rfl (cA_ _ (aNz hr.f)) (ZAn ?_))
  refine RY (uI rfl rfl rfl) rfl (ZBB ?_)
  exact E0 rfl ⟨rfl, (cA_ Value.bool (aIX o_m r))⟩
 refine ZB2 ?_
 refine KC (fun q2 z2 => ?_) (fun q2 z2 => ?_)
 ·refine ZBR ?_
  refine fK true rfl q2 ?_
  refine ZB6 ?_
  refine RW (v := (.int .u8 (aG .u8 r.f 16))) rfl rfl rfl (RW (v := (.bool (cF r.f))) rfl rfl (cA_ _ (aIi hr.f)) (ZAn ?_))
  refine RY (uI rfl rfl rfl) rfl (ZBB ?_)
  exact E0 rfl ⟨rfl, (cA_ Value.bool (aKU o_m r))⟩
 refine ZB6 ?_
 refine KC (fun q3 z3 => ?_) (fun q3 z3 => ?_)
 ·refine ZB6 ?_
  refine RW (v := (.int .u8 (aG .u8 r.f 16))) rfl rfl rfl (RW (v := (.bool (cF r.f))) rfl rfl (cA_ _ (aIi hr.f)) (ZAn ?_))
  refine RY (uI rfl rfl rfl) rfl (ZBB ?_)
  exact E0 rfl ⟨rfl, (cA_ Value.bool (aKU o_m r))⟩
 refine A_8 ?_
 exact E0 rfl ⟨rfl, (cA_ Value.bool (aSt o_m o_m o_m o_m r))⟩
def flagA_fn (x : Int) (b : Bool) (w : AI) : aC prog 140 [.int .u8 x, .bool b] w [] (V_ (.int .u8 (fg x b))) := by
 refine dR_ func140 ?_
 refine A_9 ?_
 refine KC (fun q0 z0 => ?_) (fun q0 z0 => ?_)
 ·refine ZB2 ?_
  exact E0 rfl ⟨rfl, (by rw [show b = true from q0]; rfl)⟩
 refine ZB2 ?_
 exact E0 rfl ⟨rfl, (by rw [show b = false from q0]; rfl)⟩
def zero_fn (x : Int) (w : AI) : aC prog 139 [.int .u8 x] w [] (V_ (.int .u8 (fg 128 (x == 0)))) := by
 refine dR_ func139 ?_
 refine A_8 ?_
 refine RLv K_ (wQ_ (flagA_fn 128 _)) ?_
 exact ZAZ
def aKe (b : Bool) (w : AI) : aC prog 154 [.bool b] w [] (V_ (.int .u8 (b2i b))) := by
 refine dR_ func154 ?_
 refine ZDR ?_
 refine RLv K_ (wQ_ (flagA_fn 1 _)) ?_
 exact ZAZ
def aBD (a b : Int) (c : Bool) (ha : 0 ≤ a ∧ a < 256) (hb : 0 ≤ b ∧ b < 256) (w : AI) : aC prog 134 [.int .u8 a, .int .u8 b, .bool c] w [] (V_ (.tuple #[.int .u8 (nH a b c), .int .u8 (xQ a b c)])) := by
 have hc := aB5 c
 refine dR_ func134 ?_
 refine A_8 ?_
 refine RLv K_ (wQ_ (aKe c)) ?_
 refine ZB2 ?_
 refine ZBt ?_
 refine ZBR ?_
 refine ZBt ?_
 refine ZB2 ?_
 refine ZBF ?_
 refine ZBf ?_
 refine ZBR ?_
 refine ZBf ?_
 refine ZBt ?_
 refine ZBR ?_
 refine ZBt ?_
 refine ZC2 ?_
 refine ZAa ?_
 refine ZD7 ?_
 refine ZD7 ?_
 refine ZAb ?_
 refine ZD7 ?_
 refine ZAb ?_
 refine ZBR ?_
 refine RLv K_ (wQ_ (flagA_fn 16 _)) ?_
 refine ZDO ?_
 have e1 : ((a + b) % 256 + b2i c) % 256 = nH a b c := by unfold nH; omega
 rw [e1, aEf]
 exact aF (fun _ _ => eD rfl rfl) ⟨rfl, rfl⟩
def aKy (a b : Int) (c : Bool) (ha : 0 ≤ a ∧ a < 256) (hb : 0 ≤ b ∧ b < 256) (w : AI) : aC prog 135 [.int .u8 a, .int .u8 b, .bool c] w [] (V_ (.tuple #[.int .u8 (nM a b c), .int .u8 (oS a b c)])) := by
 have hc := aB5 c
 refine dR_ func135 ?_
 refine A_8 ?_
 refine RLv K_ (wQ_ (aKe c)) ?_
 refine ZB2 ?_
 refine RW (iB rfl rfl) rfl y_p (ZBR ?_)
 refine RW (iB rfl rfl) rfl y_p (ZB2 ?_)
 refine ZEM ?_
 refine ZAa ?_
 refine ZBR ?_
 refine ZBf ?_
 refine ZBR ?_
 refine ZBf ?_
 refine ZBR ?_
 refine ZBt ?_
 refine ZC2 ?_
 refine ZAa ?_
 refine ZD7 ?_
 refine ZD7 ?_
 refine ZD7 ?_
 refine ZAb ?_
 refine ZBR ?_
 refine RLv K_ (wQ_ (flagA_fn 16 _)) ?_
 refine ZDO ?_
 have e1 : ((a - b) % 256 - b2i c) % 256 = nM a b c := by unfold nM; omega
 rw [e1, aG4]
 exact aF (fun _ _ => eD rfl rfl) ⟨rfl, rfl⟩
def aQ3 (a b : Int) (ha : 0 ≤ a ∧ a < 256) (hb : 0 ≤ b ∧ b < 256) (w : AI) : aC prog 136 [.int .u8 a, .int .u8 b] w [] (V_ (.tuple #[.int .u8 (aG .u8 a b), .int .u8 (pF 0 (aG .u8 a b))])) := by
 refine dR_ func136 ?_
 refine A_9 ?_
 refine RW (bA rfl rfl) rfl rfl (ZAn ?_)
 refine RW (bA rfl rfl) rfl rfl (ZEM ?_)
 refine ZDO ?_
 rw [aR5]
 exact aF (fun _ _ => eD rfl rfl) ⟨rfl, rfl⟩
def aR0 (a b : Int) (ha : 0 ≤ a ∧ a < 256) (hb : 0 ≤ b ∧ b < 256) (w : AI) : aC prog 138 [.int .u8 a, .int .u8 b] w [] (V_ (.tuple #[.int .u8 (bor .u8 a b), .int .u8 (pF 1 (bor .u8 a b))])) := by
 refine dR_ func138 ?_
 refine A_9 ?_
 refine ZAa ?_
 refine ZAn ?_
 refine ZAa ?_
 refine ZEM ?_
 refine ZB6 ?_
 rw [aQ5]
 exact aF (fun _ _ => eD rfl rfl) ⟨rfl, rfl⟩
def aQS (a b : Int) (ha : 0 ≤ a ∧ a < 256) (hb : 0 ≤ b ∧ b < 256) (w : AI) : aC prog 137 [.int .u8 a, .int .u8 b] w [] (V_ (.tuple #[.int .u8 (jZ .u8 a b), .int .u8 (pF 2 (jZ .u8 a b))])) := by
 refine dR_ func137 ?_
 refine A_9 ?_
 refine RW (aDL rfl rfl) rfl rfl (ZAn ?_)
 refine RW (aDL rfl rfl) rfl rfl (ZEM ?_)
 refine ZB6 ?_
 rw [aQ5]
 exact aF (fun _ _ => eD rfl rfl) ⟨rfl, rfl⟩
def aRb (a f : Int) (ha : 0 ≤ a ∧ a < 256) (hf : 0 ≤ f ∧ f < 256) (w : AI) : aC prog 113 [.int .u8 a, .int .u8 f] w [] (V_ (.tuple #[.int .u8 (zA a), .int .u8 (aHa a f)])) := by
 refine dR_ func113 ?_
 refine A_8 ?_
 refine ZBt ?_
 refine ZB2 ?_
 refine ZBF ?_
 refine ZBf ?_
 refine ZC2 ?_
 refine ZAa ?_
 refine ZBR ?_
 refine RW (bA rfl rfl) rfl y_dX (ZDO ?_)
 rw [aHc, aEf]
 exact aF (fun _ _ => eD rfl rfl) ⟨rfl, rfl⟩
def aON (a f : Int) (ha : 0 ≤ a ∧ a < 256) (hf : 0 ≤ f ∧ f < 256) (w : AI) : aC prog 114 [.int .u8 a, .int .u8 f] w [] (V_ (.tuple #[.int .u8 (zU a), .int .u8 (aHv a f)])) := by
 refine dR_ func114 ?_
 refine A_8 ?_
 refine RW (iB rfl rfl) rfl y_p (ZB2 ?_)
 refine ZEM ?_
 refine ZAa ?_
 refine ZBR ?_
 refine ZBf ?_
 refine ZC2 ?_
 refine ZAa ?_
 refine ZBR ?_
 refine RW (bA rfl rfl) rfl y_dX (ZDO ?_)
 rw [aHc, aG4]
 exact aF (fun _ _ => eD rfl rfl) ⟨rfl, rfl⟩
def aNf (a b f : Int) (ha : 0 ≤ a ∧ a < 65536) (hb : 0 ≤ b ∧ b < 65536) (hf : 0 ≤ f ∧ f < 256) (w : AI) : aC prog 121 [.int .u16 a, .int .u16 b, .int .u8 f] w [] (V_ (.tuple #[.int .u16 (rF a b), .int .u8 (vM a b f)])) := by
 refine dR_ func121 ?_
 refine A_9 ?_
 refine RW (jI rfl rfl) rfl y_r (ZBR ?_)
 refine ZDy ?_
 refine ZBR ?_
 refine RW (bA rfl rfl) rfl y_d7 (ZBR ?_)
 refine RW (bA rfl rfl) rfl y_d7 (RW (jI rfl rfl) rfl y_r (ZC2 ?_))
 refine ZAa ?_
 refine ZD7 ?_
 refine ZD7 ?_
 refine ZAb ?_
 refine ZBR ?_
 refine RLv K_ (wQ_ (flagA_fn 16 _)) ?_
 refine ZDO ?_
 rw [aSz hf, aRp]
 exact aF (fun _ _ => eD rfl rfl) ⟨rfl, rfl⟩
def aD2 (a e : Int) (ha : 0 ≤ a ∧ a < 65536) (he : 0 ≤ e ∧ e < 256) (w : AI) : aC prog 122 [.int .u16 a, .int .u8 e] w [] (V_ (.tuple #[.int .u16 (shR a e), .int .u8 (shF a e)])) := by
 refine dR_ func122 ?_
 refine A_8 ?_
 refine RW (v := (.int .u8 (a % 256))) rfl rfl (cA_ _ (eX _)) (ZB2 ?_)
 refine RW (v := (.int .i8 (s8 e))) (dM rfl rfl rfl) rfl (cA_ _ (aPu he)) (RW (v := (.int .u16 (s8 e % 65536))) (dM rfl rfl rfl) rfl (cA_ _ (eT _)) (RW (jI rfl rfl) rfl y_r (ZBR ?_)))
 refine ZBf ?_
 refine ZBR ?_
 refine ZBf ?_
 refine ZBt ?_
 refine ZC2 ?_
 refine ZD7 ?_
 refine ZD7 ?_
 refine ZAb ?_
 refine ZBR ?_
 refine RLv K_ (wQ_ (flagA_fn 16 _)) ?_
 refine ZDO ?_
 have e1 : (a + s8 e % 65536) % 65536 = shR a e := by unfold shR; omega
 rw [e1, aRR, show a % 256 % 16 = a % 16 by omega]
 exact aF (fun _ _ => eD rfl rfl) ⟨rfl, rfl⟩
def aOB (n a f : Int) (ha : 0 ≤ a ∧ a < 256) (hf : 0 ≤ f ∧ f < 256) (w : AI) : aC prog 117 [.int .i64 n, .int .u8 a, .int .u8 f] w [] (V_ (.int .u8 (aHh n a f))) := by
 refine dR_ func117 ?_
 refine ZBx ?_
 have hs := aMW n ha
 refine ZBB ?_
 refine RW (v := (.int .i64 (n % 8))) (bA rfl rfl) rfl (cA_ _ (aNP n)) (RW (v := (.int .u8 (a / 2 ^ (n % 8).toNat))) (dK rfl rfl o_m) rfl (cA_ _ (aPy o_m)) (RW (bA rfl rfl) rfl y_dM (ZEM ?_)))
 refine ZAa ?_
 refine ZBR ?_
 refine RW (bA rfl rfl) rfl y_dX (ZAa ?_)
 refine ZBB ?_
 rw [aHc, aQh]
 exact E0 rfl ⟨rfl, rfl⟩
def aO8 (a : Int) (ha : 0 ≤ a ∧ a < 256) (w : AI) : aC prog 141 [.int .u8 a, .int .i64 1] w [] (V_ (.int .u8 (a * 2 % 256 + a / 128))) := by
 refine dR_ func141 ?_
 refine ZDR ?_
 refine RW (v := (.int .u64 1)) rfl rfl rfl (RW (v := (.int .u64 1)) (bA rfl rfl) rfl (cA_ _ y_b) (ZB2 ?_))
 refine RW (v := (.int .u8 (shl .u8 a 1))) (dJ rfl rfl y_b) rfl rfl (ZAn ?_)
 refine RW (v := (.int .u64 7)) (iB rfl rfl) rfl (cA_ _ y_b) (RW (v := (.int .u8 (shr .u8 a 7))) (dK rfl rfl y_b) rfl rfl (ZAa ?_))
 refine ZBB ?_
 rw [aSx ha]
 exact E0 rfl ⟨rfl, rfl⟩
def aPF (a : Int) (ha : 0 ≤ a ∧ a < 256) (w : AI) : aC prog 141 [.int .u8 a, .int .i64 4] w [] (V_ (.int .u8 (a % 16 * 16 + a / 16))) := by
 refine dR_ func141 ?_
 refine ZDR ?_
 refine RW (v := (.int .u64 4)) rfl rfl rfl (RW (v := (.int .u64 4)) (bA rfl rfl) rfl (cA_ _ y_b) (ZB2 ?_))
 refine RW (v := (.int .u8 (shl .u8 a 4))) (dJ rfl rfl y_b) rfl rfl (ZAn ?_)
 refine RW (v := (.int .u64 4)) (iB rfl rfl) rfl (cA_ _ y_b) (RW (v := (.int .u8 (shr .u8 a 4))) (dK rfl rfl y_b) rfl rfl (ZAa ?_))
 refine ZBB ?_
 rw [aRV ha]
 exact E0 rfl ⟨rfl, rfl⟩
def aQv (a f : Int) (ha : 0 ≤ a ∧ a < 256) (hf : 0 ≤ f ∧ f < 256) (w : AI) : aC prog 118 [.int .u8 a, .int .u8 f] w [] (V_ (.tuple #[.int .u8 (rI a f), .int .u8 (aH9 a f)])) := by
 refine dR_ func118 ?_
 refine A_12 ?_
 refine RW (v := (.int .u8 (aG .u8 f 64))) rfl rfl rfl (RW (v := (.bool (nF f))) rfl rfl (cA_ _ (aSe hf)) (ZBx ?_))
 refine RW (v := (.int .u8 (fg 16 (cF f)))) rfl rfl (cA_ _ (aK1 hf)) (ZAn ?_)
 refine pJ (σ := Unit) [6, 14, 15, 16, 17, 18, 19, 20, 21, 22, 23, 24, 25, 26, 27] (fun _ => [(6, .int .u8 (fg 6 (daaL a f)))]) (fun _ => []) (fun _ => True) ?_ ?_
 ·refine ZBB ?_
  refine RW (v := (.int .u8 (aG .u8 f 32))) rfl rfl rfl (RW (v := (.bool (hF f))) rfl rfl (cA_ _ (aR2 hf)) (KL (fun q0 z0 => ?_) (fun q0 z0 => ?_)))
  ·refine A_12 ?_
   refine RW (v := (.int .u8 6)) (cM rfl rfl) rfl (cA_ _ y_b) (ZAn ?_)
   exact ⟨(), trivial, .cons (cA_ U_ y_bs) (.nil), a_g, fun _ h => h⟩
  refine ZAn ?_
  refine KL (fun q1 z1 => ?_) (fun q1 z1 => ?_)
  ·refine ZBR ?_
   refine ZBf ?_
   refine ZB6 ?_
   refine KC (fun q2 z2 => ?_) (fun q2 z2 => ?_)
   ·refine ZAn ?_
    refine RW (v := (.int .u8 6)) (cM rfl rfl) rfl (cA_ _ y_b) (ZAn ?_)
    exact ⟨(), trivial, .cons (cA_ U_ y_bs) (.nil), a_g, fun _ h => h⟩
   refine ZBR ?_
   exact ⟨(), trivial, .cons (cA_ U_ y_bs) (.nil), a_g, fun _ h => h⟩
  refine A_8 ?_
  exact ⟨(), trivial, .cons (cA_ U_ y_bs) (.nil), a_g, fun _ h => h⟩
 rintro _ y4 _
 refine pJ (σ := Unit) [6, 28, 29, 30, 31, 32, 33, 34, 35, 36, 37, 38, 39, 8] (fun _ => [(6, .int .u8 (daaB a f)), (8, .int .u8 (fg 16 (daaC a f)))]) (fun _ => []) (fun _ => True) ?_ ?_
 ·refine ZBB ?_
  refine RW (v := (.bool (cF f))) rfl rfl (cA_ _ (aRT _)) (KL (fun q0 z0 => ?_) (fun q0 z0 => ?_))
  ·refine A_12 ?_
   exact ZEc
  refine ZAn ?_
  refine KL (fun q1 z1 => ?_) (fun q1 z1 => ?_)
  ·refine ZBx ?_
   refine KC (fun q2 z2 => ?_) (fun q2 z2 => ?_)
   ·refine ZBB ?_
    exact ZEc
   refine ZBR ?_
   exact ⟨(), trivial, .cons (cA_ U_ y_bn) (.cons (cA_ U_ y_bt) (.nil)), a_g, fun _ h => h⟩
  refine ZDR ?_
  exact ⟨(), trivial, .cons (cA_ U_ y_bn) (.cons (cA_ U_ y_bt) (.nil)), a_g, fun _ h => h⟩
 rintro _ y6 _
 refine pJ (σ := Unit) [4, 40, 41, 42, 43, 44, 45, 46] (fun _ => [(4, .int .u8 (rI a f))]) (fun _ => []) (fun _ => True) ?_ ?_
 ·refine ZB6 ?_
  refine ZBt ?_
  refine ZB2 ?_
  refine KC (fun q0 z0 => ?_) (fun q0 z0 => ?_)
  ·refine ZBB ?_
   refine RW (iB rfl rfl) rfl y_p (ZAn ?_)
   exact ⟨(), trivial, .cons (cA_ U_ (by unfold rI; simp_all)) (.nil), a_g, fun _ h => h⟩
  refine ZBR ?_
  exact ⟨(), trivial, .cons (cA_ U_ (by unfold rI; simp_all)) (.nil), a_g, fun _ h => h⟩
 rintro _ y10 _
 refine ZB6 ?_
 refine ZBF ?_
 refine RW (bA rfl rfl) rfl y_dW (ZAa ?_)
 refine ZBR ?_
 refine ZDO ?_
 rw [aSv, aRo]
 exact aF (fun _ _ => eD rfl rfl) ⟨rfl, rfl⟩
def aGV (k a f : Int) (ha : 0 ≤ a ∧ a < 256) (hf : 0 ≤ f ∧ f < 256) (w : AI) : aC prog 116 [.int .i64 k, .int .u8 a, .int .u8 f] w [] (V_ (.tuple #[.int .u8 (dQ k a f), .int .u8 (gY k a f)])) := by
 have hb := aB5 (cF f)
 refine dR_ func116 ?_
 refine A_8 ?_
 refine RW (v := (.int .u8 (fg 16 (cF f)))) rfl rfl (cA_ _ (aK1 hf)) (RW (v := (.int .u8 (b2i (cF f)))) (dK rfl rfl y_b) rfl (cA_ _ (aRX _)) (ZBx ?_))
 refine RW (dK rfl rfl y_b) rfl (iK 128 y_b y_b) (ZBR ?_)
 refine RW (bA rfl rfl) rfl y_dM (A_12 ?_)
 refine RW (v := (.int .i64 (k % 8))) (bA rfl rfl) rfl (cA_ _ (aNP k)) (A_25 ?_)
 refine KC (fun q0 z0 => ?_) (fun q0 z0 => ?_)
 ·refine ZB6 ?_
  refine RLv K_ (wQ_ (aO8 a ha)) ?_
  refine ZDR ?_
  refine ZBV ?_
  refine ZDO ?_
  have hk : k % 8 = 0 := by omega
  have hr : dQ k a f = a * 2 % 256 + a / 128 := by unfold dQ; rw [hk]; rfl
  refine ZD9 fun ho => ?_
  have e9 : Value.tuple #[.int .u8 (a * 2 % 256 + a / 128), .int .u8 (fl ((a * 2 % 256 + a / 128) == 0) false false (a / 128 == 1))] = .tuple #[.int .u8 (dQ k a f), .int .u8 (gY k a f)] := by unfold gY; rw [hr, ho]
  exact aF (fun _ _ => eD rfl rfl) ⟨rfl, e9⟩
 refine ZDR ?_
 refine KC (fun q1 z1 => ?_) (fun q1 z1 => ?_)
 ·refine ZB6 ?_
  refine RW (dJ rfl rfl y_b) rfl y_dY (ZBR ?_)
  refine RW (v := (.int .u8 (a * 2 % 256 + b2i (cF f)))) (cM rfl rfl) rfl (cA_ _ (aQg ha _)) (ZDR ?_)
  refine ZBV ?_
  refine ZDO ?_
  have hk : k % 8 = 2 := by omega
  have hr : dQ k a f = a * 2 % 256 + b2i (cF f) := by unfold dQ; rw [hk]; rfl
  refine ZD9 fun ho => ?_
  have e9 : Value.tuple #[.int .u8 (a * 2 % 256 + b2i (cF f)), .int .u8 (fl ((a * 2 % 256 + b2i (cF f)) == 0) false false (a / 128 == 1))] = .tuple #[.int .u8 (dQ k a f), .int .u8 (gY k a f)] := by unfold gY; rw [hr, ho]
  exact aF (fun _ _ => eD rfl rfl) ⟨rfl, e9⟩
 refine ZDR ?_
 refine KC (fun q2 z2 => ?_) (fun q2 z2 => ?_)
 ·refine ZB6 ?_
  refine RW (dJ rfl rfl y_b) rfl y_dY (ZDR ?_)
  refine ZBV ?_
  refine ZDO ?_
  have hk : k % 8 = 4 := by omega
  have hr : dQ k a f = a * 2 % 256 := by unfold dQ; rw [hk]; rfl
  refine ZD9 fun ho => ?_
  have e9 : Value.tuple #[.int .u8 (a * 2 % 256), .int .u8 (fl ((a * 2 % 256) == 0) false false (a / 128 == 1))] = .tuple #[.int .u8 (dQ k a f), .int .u8 (gY k a f)] := by unfold gY; rw [hr, ho]
  exact aF (fun _ _ => eD rfl rfl) ⟨rfl, e9⟩
 refine ZDR ?_
 refine KC (fun q3 z3 => ?_) (fun q3 z3 => ?_)
 ·refine ZB6 ?_
  refine RLv K_ (wQ_ (aPF a ha)) ?_
  refine A_8 ?_
  refine ZBV ?_
  refine ZDO ?_
  have hk : k % 8 = 6 := by omega
  have hr : dQ k a f = a % 16 * 16 + a / 16 := by unfold dQ; rw [hk]; rfl
  have ho : turnO k a = ((0 : Int) == 1) := by unfold turnO; rw [hk]; rfl
  rw [x16 (x := 0) o_m, or_zc]
  have e9 : Value.tuple #[.int .u8 (a % 16 * 16 + a / 16), .int .u8 (fl ((a % 16 * 16 + a / 16) == 0) false false ((0 : Int) == 1))] = .tuple #[.int .u8 (dQ k a f), .int .u8 (gY k a f)] := by unfold gY; rw [hr, ho]
  exact aF (fun _ _ => eD rfl rfl) ⟨rfl, e9⟩
 refine ZDR ?_
 refine KC (fun q4 z4 => ?_) (fun q4 z4 => ?_)
 ·refine A_8 ?_
  refine ZDK ?_
  refine ZBR ?_
  refine RW (dJ rfl rfl y_b) rfl y_ed (RW (v := (.int .u8 (a / 2 + a % 2 * 128))) (cM rfl rfl) rfl (cA_ _ (aPG ha)) (A_9 ?_))
  refine ZBV ?_
  refine ZDO ?_
  have hk : k % 8 = 1 := by omega
  have hr : dQ k a f = a / 2 + a % 2 * 128 := by unfold dQ; rw [hk]; rfl
  refine ZCr fun ho => ?_
  have e9 : Value.tuple #[.int .u8 (a / 2 + a % 2 * 128), .int .u8 (fl ((a / 2 + a % 2 * 128) == 0) false false (a % 2 == 1))] = .tuple #[.int .u8 (dQ k a f), .int .u8 (gY k a f)] := by unfold gY; rw [hr, ho]
  exact aF (fun _ _ => eD rfl rfl) ⟨rfl, e9⟩
 refine ZDR ?_
 refine KC (fun q5 z5 => ?_) (fun q5 z5 => ?_)
 ·refine ZB6 ?_
  refine ZDK ?_
  refine ZBR ?_
  refine RW (dJ rfl rfl y_b) rfl y_ed (RW (v := (.int .u8 (a / 2 + b2i (cF f) * 128))) (cM rfl rfl) rfl (cA_ _ (aO9 ha _)) (A_9 ?_))
  refine ZBV ?_
  refine ZDO ?_
  have hk : k % 8 = 3 := by omega
  have hr : dQ k a f = a / 2 + b2i (cF f) * 128 := by unfold dQ; rw [hk]; rfl
  refine ZCr fun ho => ?_
  have e9 : Value.tuple #[.int .u8 (a / 2 + b2i (cF f) * 128), .int .u8 (fl ((a / 2 + b2i (cF f) * 128) == 0) false false (a % 2 == 1))] = .tuple #[.int .u8 (dQ k a f), .int .u8 (gY k a f)] := by unfold gY; rw [hr, ho]
  exact aF (fun _ _ => eD rfl rfl) ⟨rfl, e9⟩
 refine ZDR ?_
 refine KC (fun q6 z6 => ?_) (fun q6 z6 => ?_)
 ·refine ZB6 ?_
  refine ZDK ?_
  refine ZBR ?_
  refine ZDy ?_
  refine RW (v := (.int .u8 (a / 2 + a / 128 * 128))) (cM rfl rfl) rfl (cA_ _ (aN3 ha)) (A_9 ?_)
  refine ZBV ?_
  refine ZDO ?_
  have hk : k % 8 = 5 := by omega
  have hr : dQ k a f = a / 2 + a / 128 * 128 := by unfold dQ; rw [hk]; rfl
  refine ZCr fun ho => ?_
  have e9 : Value.tuple #[.int .u8 (a / 2 + a / 128 * 128), .int .u8 (fl ((a / 2 + a / 128 * 128) == 0) false false (a % 2 == 1))] = .tuple #[.int .u8 (dQ k a f), .int .u8 (gY k a f)] := by unfold gY; rw [hr, ho]
  exact aF (fun _ _ => eD rfl rfl) ⟨rfl, e9⟩
 refine ZB2 ?_
 refine KC (fun q7 z7 => ?_) (fun q7 z7 => ?_)
 ·refine ZB6 ?_
  refine ZDK ?_
  refine A_9 ?_
  refine ZBV ?_
  refine ZDO ?_
  have hk : k % 8 = 7 := by omega
  have hr : dQ k a f = a / 2 := by unfold dQ; rw [hk]; rfl
  refine ZCr fun ho => ?_
  have e9 : Value.tuple #[.int .u8 (a / 2), .int .u8 (fl ((a / 2) == 0) false false (a % 2 == 1))] = .tuple #[.int .u8 (dQ k a f), .int .u8 (gY k a f)] := by unfold gY; rw [hr, ho]
  exact aF (fun _ _ => eD rfl rfl) ⟨rfl, e9⟩
 refine ZB2 ?_
 refine ZBV ?_
 refine ZDO ?_
 exfalso; omega
def rpair_fn {β : Type} (K : jV prog β) (rb : Nat) (s : CS) (hr : s.r.Ok) (w : AI) (hrow : Row w rb 0 (cN K s)) (n : Int) : aC prog 120 [P_ rb, .int .i64 n] w [] (V_ (.int .u16 (bD s.r n))) := by
 refine dR_ func120 ?_
 refine A_10 ?_
 refine RZ (aL rfl rfl rfl (aR (Row.left (Row.left hrow)) y_v)) rfl (ZBR ?_)
 refine RX (dE K_ rfl (wQ_ (aPM s.r hr n))) rfl ?_
 rintro _ _ ⟨G0, ⟨rfl, k14, rfl⟩, rfl⟩
 refine A_12 ?_
 exact E0 rfl ⟨rfl, rfl⟩
def iU {β : Type} (K : jV prog β) (rb : Nat) {bn : Nat} (x : Rn β) (h : RunOk K.toaSY bn x) (G : aB) (hG : K.rep x.m G) (n p : Int) (hp : 0 ≤ p ∧ p < 65536) (w : AI) (hst : St w (rb :: G.map (·.1)) ((rb, blk (cN K x.s) 179) :: G) w) : aC prog 119 [P_ rb, .int .i64 n, .int .u16 p] w (rb :: G.map (·.1)) (fun v H => v = .tuple #[] ∧ pC K rb (x.reg (dZ x.s.r n p)) H) := by
 refine dO_ func119 hst ?_
 refine ZB2 ?_
 refine ZC5 ?_
 refine ZAn ?_
 refine RX (dE K_ rfl (wQ_ (aIo x.s.r n p hp))) rfl ?_
 rintro _ _ ⟨G0, ⟨rfl, k15, rfl⟩, rfl⟩
 refine ZB2 ?_
 refine RZ (xS_ (l' := cN K { x.s with r := dZ x.s.r n p }) 0) rfl (ZEi ?_)
 exact EN sR_ ⟨rfl, G, rfl, hG⟩
def rget_fn {β : Type} (K : jV prog β) (rb : Nat) {bn : Nat} (x : Rn β) (h : RunOk K.toaSY (bn + 1) x) (G : aB) (hG : K.rep x.m G) (n : Int) (w : AI) (hst : St w (rb :: G.map (·.1)) ((rb, blk (cN K x.s) 179) :: G) w) : aC prog 110 [P_ rb, .int .i64 n] w (rb :: G.map (·.1)) (fun v H => v = .int .u8 (gett K.toaSX n x).1 ∧ ∃ G', H = (rb, blk (cN K x.s) 179) :: G' ∧ K.rep (gett K.toaSX n x).2.m G') := by
 refine dO_ func110 hst ?_
 refine A_10 ?_
 refine KC (fun q0 z0 => ?_) (fun q0 z0 => ?_)
 ·refine ZBR ?_
  obtain rfl : n = 6 := by omega
  refine DR [4, 5] (pln [0, 2, 4, 6, 8, 12, 14, 11, 17, 18]) ?_
  refine ZDR ?_
  refine DZ rfl (aZ K_ rfl (fun w hw => rpair_fn K rb x.s h.r w (aA m_m w hw) 2)) rfl y_c (DX rfl (fT (F := [(rb, _)]) (A := G) rfl K.mR K.cR rfl (fun w hw => K.dR h.m hG (St.lentV hw) (eW h.r 2))) rfl n_h ?_)
  rintro _ _ ⟨G0, ⟨rfl, hG0⟩, rfl⟩
  refine ZBB ?_
  exact EV rfl sR_ ⟨rfl, G0, rfl, hG0⟩
 refine ZDR ?_
 refine ZC5 ?_
 refine ZBR ?_
 refine RX (dE K_ rfl (wQ_ (aRI x.s.r n))) rfl ?_
 rintro _ _ ⟨G0, ⟨rfl, k25, rfl⟩, rfl⟩
 refine A_12 ?_
 have hn : gett K.toaSX n x = (yZ x.s.r n, x) := if_neg o_m
 exact EV rfl sR_ ⟨by rw [hn], G, rfl, by rw [hn]; exact hG⟩
def vJ {β : Type} (K : jV prog β) (rb : Nat) {bn : Nat} (x : Rn β) (h : RunOk K.toaSY (bn + 1) x) (G : aB) (hG : K.rep x.m G) (n u : Int) (hu : 0 ≤ u ∧ u < 256) (w : AI) (hst : St w (rb :: G.map (·.1)) ((rb, blk (cN K x.s) 179) :: G) w) : aC prog 109 [P_ rb, .int .i64 n, .int .u8 u] w (rb :: G.map (·.1)) (fun v H => v = .tuple #[] ∧ pC K rb (sett K.toaSX n u x) H) := by
 refine dO_ func109 hst ?_
 refine ZB2 ?_
 refine KC (fun q0 z0 => ?_) (fun q0 z0 => ?_)
 ·refine ZBR ?_
  obtain rfl : n = 6 := by omega
  refine DR [4, 5, 6] (pln [0, 2, 4, 6, 8, 12, 14, 16, 11, 19]) ?_
  refine A_8 ?_
  refine DZ rfl (aZ K_ rfl (fun w hw => rpair_fn K rb x.s h.r w (aA m_m w hw) 2)) rfl y_c (DX rfl (fT (F := [(rb, _)]) (A := G) rfl K.mW K.cW rfl (fun w hw => K.dW h.m hG (St.lentV hw) (eW h.r 2) hu)) rfl n_h ?_)
  rintro _ _ ⟨G0, ⟨rfl, hG0⟩, rfl⟩
  refine ZAn ?_
  exact EN sR_ ⟨rfl, G0, rfl, hG0⟩
 refine ZDR ?_
 refine ZC5 ?_
 refine ZAn ?_
 refine RX (dE K_ rfl (wQ_ (aRz x.s.r n u))) rfl ?_
 rintro _ _ ⟨G0, ⟨rfl, k27, rfl⟩, rfl⟩
 refine ZB2 ?_
 refine RZ (xS_ (l' := cN K { x.s with r := lM x.s.r n u }) 0) rfl (ZEi ?_)
 have hn : sett K.toaSX n u x = x.reg (lM x.s.r n u) := if_neg o_m
 exact EN sR_ ⟨rfl, by rw [hn]; exact ⟨G, rfl, hG⟩⟩
def ridle_fn {β : Type} (K : jV prog β) (rb : Nat) {bn : Nat} (n : Nat) (hn : n ≤ 1000) (x : Rn β) (h : RunOk K.toaSY (bn + n) x) (G : aB) (hG : K.rep x.m G) (w : AI) (hst : St w (rb :: G.map (·.1)) ((rb, blk (cN K x.s) 179) :: G) w) : aC prog 56 [P_ rb, .int .i64 n] w (rb :: G.map (·.1)) (fun v H => v = .tuple #[] ∧ pC K rb (idles K.toaSX n x) H) := by
 have hs9 : ∀ i, (idles K.toaSX i x).s = x.s := fun i => by induction i with | zero => rfl | succ i ih => exact ih
 refine dO_ func56 hst ?_
 refine ZB2 ?_
 refine bG (σ := Nat × aB) [5, 6, 7, 8, 9, 10, 11, 12] (fun s => [(5, .int .i64 s.1)]) (fun s => (rb, blk (cN K x.s) 179) :: s.2) (fun s => s.1 ≤ n ∧ K.rep (idles K.toaSX s.1 x).m s.2) (fun s => n - s.1) (0, G) ?_ ?_ ?_ ?_
 ·exact ⟨aj _, hG⟩
 ·exact .cons rfl .nil
 ·exact fun _ h => h
 rintro ⟨i, Gi⟩ y1 ⟨hi, hGi⟩
 dsimp only at hi hGi ⊢
 refine ZBx ?_
 refine KC (fun q0 z0 => ?_) (fun q0 z0 => ?_)
 ·refine A_8 ?_
  refine RX (fT (F := [(rb, _)]) (A := Gi) rfl K.mI K.cI rfl (fun w hw => K.dI (K.oL (k := 0 + 1) (h.idles i hi).m o_m) hGi (St.lentV hw))) rfl ?_
  rintro _ _ ⟨G0, ⟨rfl, hG0⟩, rfl⟩
  refine ZAn ?_
  refine ZAD ?_
  exact ⟨(i + 1, G0), ⟨y_B, hG0⟩, y_cA, .cons rfl .nil, a_g, fun _ h => h⟩
 refine ZBR ?_
 obtain rfl : i = n := by omega
 exact EN sR_ ⟨rfl, Gi, by rw [hs9], hGi⟩
def rpush_fn {β : Type} (K : jV prog β) (rb : Nat) {bn : Nat} (x : Rn β) (h : RunOk K.toaSY (bn + 2) x) (G : aB) (hG : K.rep x.m G) (p : Int) (hp : 0 ≤ p ∧ p < 65536) (w : AI) (hst : St w (rb :: G.map (·.1)) ((rb, blk (cN K x.s) 179) :: G) w) : aC prog 93 [P_ rb, .int .u16 p] w (rb :: G.map (·.1)) (fun v H => v = .tuple #[] ∧ pC K rb (push K.toaSX p x) H) := by
 refine dO_ func93 hst ?_
 refine ZBB ?_
 refine RW (dK rfl rfl y_b) rfl (iK 256 y_b y_b) (RW (dM rfl rfl rfl) rfl y_p (ZBR ?_))
 refine RW (dM rfl rfl rfl) rfl y_p (RX (bX rfl rfl rfl rfl rfl rfl) rfl (ZBz fun b0 => ?_))
 refine ZCJ ?_
 refine bG (σ := Nat × aB) [5, 13, 14, 15, 16, 17, 18, 19, 20, 21, 22, 23, 24, 25, 26, 27, 28, 29, 30, 31, 32, 33, 34, 35, 36, 37, 38, 39, 40, 41, 42] (fun s => [(13, .int .i64 s.1)]) (fun s => (b0, blk [.int .u8 (p / 256), .int .u8 (p % 256)] 5) :: (rb, blk (cN K (pushN K.toaSX p x s.1).s) 179) :: s.2) (fun s => s.1 ≤ 2 ∧ K.rep (pushN K.toaSX p x s.1).m s.2) (fun s => 2 - s.1) (0, G) ?_ ?_ ?_ ?_
 ·exact ⟨aj _, hG⟩
 ·exact .cons rfl .nil
 ·exact fun _ h => h
 rintro ⟨i, Gi⟩ y1 ⟨hi, hGi⟩
 dsimp only at hi hGi ⊢
 refine ZBx ?_
 refine KC (fun q0 z0 => ?_) (fun q0 z0 => ?_)
 ·refine ZB6 ?_
  have hx9 := (h.pushN hp i o_m).le (k := 0 + 1) o_m
  have hk9 := hx9.r.sp
  refine ZBR ?_
  refine ZBY ?_
  refine RZ (aH rfl rfl (aT (b := b0) m_m (aHV p o_m))) rfl (A_10 ?_)
  refine RW (iB rfl rfl) rfl y_r (ZB6 ?_)
  refine RZ (xS_ (l' := cN K { (pushN K.toaSX p x i).s with r := { (pushN K.toaSX p x i).s.r with sp := kZ (pushN K.toaSX p x i).s.r.sp } }) 1) rfl (ZEi ?_)
  refine ZBD ?_
  refine DX rfl (fT (F := [(b0, _), (rb, _)]) (A := Gi) rfl K.mW K.cW rfl (fun w hw => K.dW hx9.m hGi (St.lentV hw) lW (aDi hp i))) rfl n_h ?_
  rintro _ _ ⟨G0, ⟨rfl, hG0⟩, rfl⟩
  refine ZAn ?_
  refine ZAD ?_
  exact ⟨(i + 1, G0), ⟨y_B, hG0⟩, y_cA, .cons rfl .nil, a_g, fun _ h => h⟩
 refine ZBR ?_
 obtain rfl : i = 2 := by omega
 exact EN (.cons _ sR_) ⟨rfl, Gi, rfl, hGi⟩
def aAk {β : Type} (K : jV prog β) (rb : Nat) {bn : Nat} (x : Rn β) (h : RunOk K.toaSY (bn + 2) x) (G : aB) (hG : K.rep x.m G) (w : AI) (hst : St w (rb :: G.map (·.1)) ((rb, blk (cN K x.s) 179) :: G) w) : aC prog 123 [P_ rb] w (rb :: G.map (·.1)) (fun v H => v = .int .u16 (pop K.toaSX x).1 ∧ pC K rb ((pop K.toaSX x).2) H) := by
 refine dO_ func123 hst ?_
 refine A_14 ?_
 refine bG (σ := Nat × aB) [3, 4, 5, 6, 7, 8, 9, 10, 11, 12, 13, 14, 15, 16, 17, 18, 19, 20, 21, 22, 23, 24, 25, 26, 27, 28, 29, 30, 31, 32, 33, 34, 35, 36, 37, 38] (fun s => [(3, .int .u16 (popN K.toaSX x s.1).1), (5, .int .i64 s.1)]) (fun s => (rb, blk (cN K (popN K.toaSX x s.1).2.s) 179) :: s.2) (fun s => s.1 ≤ 2 ∧ K.rep (popN K.toaSX x s.1).2.m s.2) (fun s => 2 - s.1) (0, G) ?_ ?_ ?_ ?_
 ·exact ⟨aj _, hG⟩
 ·exact .cons rfl (.cons rfl .nil)
 ·exact fun _ h => h
 rintro ⟨i, Gi⟩ y3 ⟨hi, hGi⟩
 dsimp only at hi hGi ⊢
 refine ZBx ?_
 refine KC (fun q0 z0 => ?_) (fun q0 z0 => ?_)
 ·refine ZB6 ?_
  have hx9 := (h.popN i o_m).le (k := 0 + 1) o_m
  have hk9 := hx9.r.sp
  have hv9 : 0 ≤ (K.read (popN K.toaSX x i).2.s.r.sp (popN K.toaSX x i).2.m).1 ∧ (K.read (popN K.toaSX x i).2.s.r.sp (popN K.toaSX x i).2.m).1 < 256 := hx9.pop1.2
  have ha9 := aN2 (h.le (k := 0 + 1) o_m) (i := i) o_m
  refine ZBx ?_
  refine DR [5, 6, 7, 8, 9, 10, 11, 12, 15, 16] (pln [0, 2, 4, 6, 8, 10, 12, 14, 16, 18, 20, 22, 24, 30, 32, 27, 28, 34, 36, 38]) ?_
  refine A_14 ?_
  refine DW rfl (aAm rfl rfl) rfl y_d (DX rfl (fT (F := [(rb, _)]) (A := Gi) rfl K.mR K.cR rfl (fun w hw => K.dR hx9.m hGi (St.lentV hw) hk9)) rfl n_h ?_)
  rintro _ _ ⟨G0, ⟨rfl, hG0⟩, rfl⟩
  refine DW rfl (dM rfl rfl rfl) rfl y_r (DW (v := (.int .u16 (shl .u16 (K.read (popN K.toaSX x i).2.s.r.sp (popN K.toaSX x i).2.m).1 (8 * (i : Int))))) rfl (dJ rfl rfl o_m) rfl rfl (DW (v := (.int .u16 (popN K.toaSX x (i + 1)).1)) rfl (cM rfl rfl) rfl (cA_ _ (aCz o_m ha9 (fun h => by subst h; rfl) hv9)) (A_9 ?_)))
  refine RW (jI rfl rfl) rfl y_r (ZB6 ?_)
  refine RZ (xS_ (l' := cN K { (popN K.toaSX x i).2.s with r := { (popN K.toaSX x i).2.s.r with sp := bJ (popN K.toaSX x i).2.s.r.sp } }) 0) rfl (ZDE ?_)
  refine ZAD ?_
  exact ⟨(i + 1, G0), ⟨y_B, hG0⟩, y_cA, .cons rfl (.cons rfl .nil), a_g, fun _ h => h⟩
 refine ZDR ?_
 obtain rfl : i = 2 := by omega
 exact EV rfl sR_ ⟨by rw [← aFb], Gi, by rw [← aFb], by rw [← aFb]; exact hGi⟩
def aG2 {β : Type} (K : jV prog β) (rb : Nat) {bn : Nat} (x : Rn β) (h : RunOk K.toaSY bn x) (G : aB) (hG : K.rep x.m G) (k u : Int) (hu : 0 ≤ u ∧ u < 256) (w : AI) (hst : St w (rb :: G.map (·.1)) ((rb, blk (cN K x.s) 179) :: G) w) : aC prog 111 [P_ rb, .int .i64 k, .int .u8 u] w (rb :: G.map (·.1)) (fun v H => v = .tuple #[] ∧ pC K rb (x.reg (iA x.s.r k u)) H) := by
 refine dO_ func111 hst ?_
 refine ZBR ?_
 refine DR [6, 7, 8, 9, 10, 11, 12, 13, 14] (pln [0, 2, 4, 6, 8, 10, 12, 14, 16, 18, 20, 22, 24, 26, 28, 30]) ?_
 refine A_12 ?_
 refine DW (v := (.int .u8 (aG .u8 x.s.r.f 16))) rfl rfl rfl rfl (DW (v := (.bool (cF x.s.r.f))) rfl rfl rfl (cA_ _ (aIi h.r.f)) (A_9 ?_))
 refine pJ (σ := Unit) [23, 24, 25] (fun _ => [(23, .bool (decide (k = 0 ∨ k = 1)))]) (fun _ => (rb, blk (cN K x.s) 179) :: G) (fun _ => True) ?_ ?_
 ·refine ZBx ?_
  refine KC (fun q0 z0 => ?_) (fun q0 z0 => ?_)
  ·refine ZBR ?_
   exact ⟨(), trivial, .cons (cA_ Value.bool y_b2) .nil, a_g, fun _ h => h⟩
  refine ZB6 ?_
  exact ⟨(), trivial, .cons (cA_ Value.bool y_b2) .nil, a_g, fun _ h => h⟩
 rintro _ yc23 _
 refine KC (fun q0 z0 => ?_) (fun q0 z0 => ?_)
 ·refine ZB2 ?_
  refine KL (fun q1 z1 => ?_) (fun q1 z1 => ?_)
  ·refine ZBB ?_
   refine RLv K_ (wQ_ (aBD x.s.r.a u (k == 1) h.r.a hu)) ?_
   refine ZDR ?_
   refine RZ (xS_ (l' := cN K { x.s with r := { x.s.r with a := nH x.s.r.a u (k == 1) } }) 0) rfl (ZCl ?_)
   refine RZ (xS_ (l' := cN K { x.s with r := { x.s.r with a := nH x.s.r.a u (k == 1), f := xQ x.s.r.a u (k == 1) } }) 0) rfl (ZCl ?_)
   refine ZAA ?_
   refine ZBB ?_
   have e9 : iA x.s.r k u = { x.s.r with a := nH x.s.r.a u (k == 1), f := xQ x.s.r.a u (k == 1) } := by
    rcases (show k = 0 ∨ k = 1 by omega) with rfl | rfl <;> simp_all [iA]
   exact EN sR_ ⟨rfl, G, y_cv, hG⟩
  refine ZBB ?_
  refine RLv K_ (wQ_ (aBD x.s.r.a u false h.r.a hu)) ?_
  refine ZDR ?_
  refine RZ (xS_ (l' := cN K { x.s with r := { x.s.r with a := nH x.s.r.a u false } }) 0) rfl (ZCl ?_)
  refine RZ (xS_ (l' := cN K { x.s with r := { x.s.r with a := nH x.s.r.a u false, f := xQ x.s.r.a u false } }) 0) rfl (ZCl ?_)
  refine ZAA ?_
  refine ZBB ?_
  have e9 : iA x.s.r k u = { x.s.r with a := nH x.s.r.a u false, f := xQ x.s.r.a u false } := by
   rcases (show k = 0 ∨ k = 1 by omega) with rfl | rfl <;> simp_all [iA]
  exact EN sR_ ⟨rfl, G, y_cv, hG⟩
 refine pJ (σ := Unit) [47, 48, 49, 50] (fun _ => [(47, .bool (decide (k = 2 ∨ k = 3 ∨ k = 7)))]) (fun _ => (rb, blk (cN K x.s) 179) :: G) (fun _ => True) ?_ ?_
 ·refine ZBx ?_
  refine KC (fun q1 z1 => ?_) (fun q1 z1 => ?_)
  ·refine ZBR ?_
   exact ⟨(), trivial, .cons (cA_ Value.bool y_b2) .nil, a_g, fun _ h => h⟩
  refine ZBx ?_
  refine KC (fun q2 z2 => ?_) (fun q2 z2 => ?_)
  ·refine ZBR ?_
   exact ⟨(), trivial, .cons (cA_ Value.bool y_b2) .nil, a_g, fun _ h => h⟩
  refine ZB6 ?_
  exact ⟨(), trivial, .cons (cA_ Value.bool y_b2) .nil, a_g, fun _ h => h⟩
 rintro _ yc47 _
 refine KC (fun q1 z1 => ?_) (fun q1 z1 => ?_)
 ·refine ZB2 ?_
  refine KL (fun q2 z2 => ?_) (fun q2 z2 => ?_)
  ·refine ZBB ?_
   refine RLv K_ (wQ_ (aKy x.s.r.a u (k == 3) h.r.a hu)) ?_
   refine ZDR ?_
   refine RZ (xS_ (l' := cN K { x.s with r := { x.s.r with a := nM x.s.r.a u (k == 3) } }) 0) rfl (ZCl ?_)
   refine RZ (xS_ (l' := cN K { x.s with r := { x.s.r with a := nM x.s.r.a u (k == 3), f := oS x.s.r.a u (k == 3) } }) 0) rfl (ZCd ?_)
   refine KC (fun q3 z3 => ?_) (fun q3 z3 => ?_)
   ·refine ZDR ?_
    refine RZ (xS_ (l' := cN K { x.s with r := { x.s.r with a := x.s.r.a, f := oS x.s.r.a u (k == 3) } }) 0) rfl (ZEi ?_)
    have e9 : iA x.s.r k u = { x.s.r with a := x.s.r.a, f := oS x.s.r.a u (k == 3) } := by
     obtain rfl : k = 7 := by omega
     simp_all [iA]
    exact EN sR_ ⟨rfl, G, y_cv, hG⟩
   refine ZBR ?_
   have e9 : iA x.s.r k u = { x.s.r with a := nM x.s.r.a u (k == 3), f := oS x.s.r.a u (k == 3) } := by
    rcases (show k = 2 ∨ k = 3 by omega) with rfl | rfl <;> simp_all [iA]
   exact EN sR_ ⟨rfl, G, y_cv, hG⟩
  refine ZBB ?_
  refine RLv K_ (wQ_ (aKy x.s.r.a u false h.r.a hu)) ?_
  refine ZDR ?_
  refine RZ (xS_ (l' := cN K { x.s with r := { x.s.r with a := nM x.s.r.a u false } }) 0) rfl (ZCl ?_)
  refine RZ (xS_ (l' := cN K { x.s with r := { x.s.r with a := nM x.s.r.a u false, f := oS x.s.r.a u false } }) 0) rfl (ZCd ?_)
  refine KC (fun q3 z3 => ?_) (fun q3 z3 => ?_)
  ·refine ZDR ?_
   refine RZ (xS_ (l' := cN K { x.s with r := { x.s.r with a := x.s.r.a, f := oS x.s.r.a u false } }) 0) rfl (ZEi ?_)
   have e9 : iA x.s.r k u = { x.s.r with a := x.s.r.a, f := oS x.s.r.a u false } := by
    obtain rfl : k = 7 := by omega
    simp_all [iA]
   exact EN sR_ ⟨rfl, G, y_cv, hG⟩
  refine ZBR ?_
  have e9 : iA x.s.r k u = { x.s.r with a := nM x.s.r.a u false, f := oS x.s.r.a u false } := by
   rcases (show k = 2 ∨ k = 3 by omega) with rfl | rfl <;> simp_all [iA]
  exact EN sR_ ⟨rfl, G, y_cv, hG⟩
 refine ZBx ?_
 refine KC (fun q2 z2 => ?_) (fun q2 z2 => ?_)
 ·refine ZBx ?_
  refine RLv K_ (wQ_ (aQ3 x.s.r.a u h.r.a hu)) ?_
  refine ZDR ?_
  refine RZ (xS_ (l' := cN K { x.s with r := { x.s.r with a := aG .u8 x.s.r.a u } }) 0) rfl (ZCl ?_)
  refine RZ (xS_ (l' := cN K { x.s with r := { x.s.r with a := aG .u8 x.s.r.a u, f := pF 0 (aG .u8 x.s.r.a u) } }) 0) rfl (ZCl ?_)
  refine ZAA ?_
  refine ZBB ?_
  have e9 : iA x.s.r k u = { x.s.r with a := aG .u8 x.s.r.a u, f := pF 0 (aG .u8 x.s.r.a u) } := by
   obtain rfl : k = 4 := by omega
   rfl
  exact EN sR_ ⟨rfl, G, y_cv, hG⟩
 refine ZBx ?_
 refine KC (fun q3 z3 => ?_) (fun q3 z3 => ?_)
 ·refine ZBx ?_
  refine RLv K_ (wQ_ (aQS x.s.r.a u h.r.a hu)) ?_
  refine ZDR ?_
  refine RZ (xS_ (l' := cN K { x.s with r := { x.s.r with a := jZ .u8 x.s.r.a u } }) 0) rfl (ZCl ?_)
  refine RZ (xS_ (l' := cN K { x.s with r := { x.s.r with a := jZ .u8 x.s.r.a u, f := pF 2 (jZ .u8 x.s.r.a u) } }) 0) rfl (ZCl ?_)
  refine ZAA ?_
  refine ZBB ?_
  have e9 : iA x.s.r k u = { x.s.r with a := jZ .u8 x.s.r.a u, f := pF 2 (jZ .u8 x.s.r.a u) } := by
   obtain rfl : k = 5 := by omega
   rfl
  exact EN sR_ ⟨rfl, G, y_cv, hG⟩
 refine ZBx ?_
 refine KC (fun q4 z4 => ?_) (fun q4 z4 => ?_)
 ·refine ZBx ?_
  refine RLv K_ (wQ_ (aR0 x.s.r.a u h.r.a hu)) ?_
  refine ZDR ?_
  refine RZ (xS_ (l' := cN K { x.s with r := { x.s.r with a := bor .u8 x.s.r.a u } }) 0) rfl (ZCl ?_)
  refine RZ (xS_ (l' := cN K { x.s with r := { x.s.r with a := bor .u8 x.s.r.a u, f := pF 1 (bor .u8 x.s.r.a u) } }) 0) rfl (ZCl ?_)
  refine ZAA ?_
  refine ZBB ?_
  have e9 : iA x.s.r k u = { x.s.r with a := bor .u8 x.s.r.a u, f := pF 1 (bor .u8 x.s.r.a u) } := by
   obtain rfl : k = 6 := by omega
   rfl
  exact EN sR_ ⟨rfl, G, y_cv, hG⟩
 refine ZB6 ?_
 refine ZAA ?_
 refine ZBB ?_
 exact EN sR_ ⟨rfl, G, by rw [show iA x.s.r k u = x.s.r by unfold iA; repeat rw [if_neg o_m]]; rfl, hG⟩
def wE {β : Type} (K : jV prog β) (rb : Nat) {bn : Nat} (x : Rn β) (h : RunOk K.toaSY (bn + 2) x) (G : aB) (hG : K.rep x.m G) (n : Int) (ff : Nat) (V1 V2 : AA) (hcf : cL prog ff = true) (gg : Int → Int → Int × Int) (hgb : ∀ a f, 0 ≤ a ∧ a < 256 → 0 ≤ f ∧ f < 256 → (0 ≤ (gg a f).1 ∧ (gg a f).1 < 256) ∧ (0 ≤ (gg a f).2 ∧ (gg a f).2 < 256)) (w : AI) (hst : St w (rb :: G.map (·.1)) ((rb, blk (cN K x.s) 179) :: G) w) (hfun : ∀ (w' : AI) (H' : aB) (a f : Int), St w (rb :: G.map (·.1)) H' w' → 0 ≤ a ∧ a < 256 → 0 ≤ f ∧ f < 256 → aC prog ff (V1 ++ [.int .u8 a, .int .u8 f] ++ V2) w' [] (fun v H => H = [] ∧ v = .tuple #[.int .u8 (gg a f).1, .int .u8 (gg a f).2])) : aC prog 112 [P_ rb, .int .i64 n, .func (.func ff) V1.toArray V2.toArray] w (rb :: G.map (·.1)) (fun v H => v = .tuple #[] ∧ pC K rb (change K.toaSX n gg x) H) := by
 have hq9 := h.gett n
 have hb9 := hgb _ _ hq9.2 h.r.f
 refine dO_ func112 hst ?_
 refine ZBR ?_
 refine gM [(rb, blk (cN K x.s) 179)] [3] (.step true 0 (.step true 1 (.step true 2 (.step true 4 (.step true 5 (.step true 6 (.step true 7 (.step true 8 (.step true 9 (.step false 3 (.step false 10 (.step true 11 (.step true 12 (.step true 13 (.step true 14 (.step true 15 .done)))))))))))))))) rfl y_i y_i (fun x hx => y_3) ?_
 refine A_9 ?_
 refine DX rfl (dB K_ rfl (wV_ (rget_fn K rb x h G hG n))) rfl (by rintro _ _ _ ⟨rfl, _, rfl, _⟩ x hx; obtain rfl := List.mem_singleton.1 hx; exact .head _) ?_
 rintro _ _ ⟨rfl, G0, rfl, hG0⟩
 refine DZ rfl (aIN (A := V1) (B := V2) rfl hcf rfl (fun w hw => hfun w _ _ _ hw hq9.2 h.r.f)) rfl n_h (ZBh ?_)
 refine A_10 ?_
 refine RX (dB K_ rfl (wV_ (vJ K rb (x.mem (gett K.toaSX n x).2.m) (h.gmem n) G0 hG0 n (gg (gett K.toaSX n x).1 x.s.r.f).1 hb9.1))) rfl ?_
 rintro _ _ ⟨rfl, G1, rfl, hG1⟩
 refine A_8 ?_
 refine RZ (xS_ (l' := cN K { (sett K.toaSX n (gg (gett K.toaSX n x).1 x.s.r.f).1 (x.mem (gett K.toaSX n x).2.m)).s with r := { (sett K.toaSX n (gg (gett K.toaSX n x).1 x.s.r.f).1 (x.mem (gett K.toaSX n x).2.m)).s.r with f := (gg (gett K.toaSX n x).1 x.s.r.f).2 } }) 0) rfl (ZEi ?_)
 have e9 : change K.toaSX n gg x = (sett K.toaSX n (gg (gett K.toaSX n x).1 x.s.r.f).1 (x.mem (gett K.toaSX n x).2.m)).reg { (sett K.toaSX n (gg (gett K.toaSX n x).1 x.s.r.f).1 (x.mem (gett K.toaSX n x).2.m)).s.r with f := (gg (gett K.toaSX n x).1 x.s.r.f).2 } := by unfold change; dsimp only; rw [nQ]; rfl
 exact EN sR_ ⟨rfl, G1, y_cv, y_5⟩
def aC0 {β : Type} (K : jV prog β) (rb : Nat) {bn : Nat} (x : Rn β) (h : RunOk K.toaSY bn x) (G : aB) (hG : K.rep x.m G) (n : Int) (w : AI) (hst : St w (rb :: G.map (·.1)) ((rb, blk (cN K x.s) 179) :: G) w) : aC prog 124 [P_ rb, .int .i64 n] w (rb :: G.map (·.1)) (fun v H => v = .int .u16 (far n x).1 ∧ pC K rb ((far n x).2) H) := by
 refine dO_ func124 hst ?_
 refine A_10 ?_
 refine KC (fun q0 z0 => ?_) (fun q0 z0 => ?_)
 ·refine ZB6 ?_
  refine RLv K_ (fun w hw => rpair_fn K rb x.s h.r w (aA m_m w hw) n) ?_
  refine ZBB ?_
  have e9 : far n x = (bD x.s.r n, x) := if_pos o_m
  exact EV rfl sR_ ⟨y_es, G, y_es, y_dT⟩
 refine ZB6 ?_
 refine RLv K_ (fun w hw => rpair_fn K rb x.s h.r w (aA m_m w hw) 2) ?_
 refine A_8 ?_
 refine KC (fun q1 z1 => ?_) (fun q1 z1 => ?_)
 ·refine ZBB ?_
  refine RW (v := (.int .u16 (bJ (bD x.s.r 2)))) (jI rfl rfl) rfl (cA_ _ (eT _)) (RX (dB K_ rfl (wV_ (iU K rb x h G hG 2 (bJ (bD x.s.r 2)) lA))) rfl ?_)
  rintro _ _ ⟨rfl, G0, rfl, hG0⟩
  refine ZDR ?_
  have e9 : far n x = (bD x.s.r 2, x.reg (dZ x.s.r 2 (bJ (bD x.s.r 2)))) := by unfold far; rw [if_neg o_m, if_pos o_m]
  exact EV rfl sR_ ⟨y_es, G0, y_es, y_2⟩
 refine ZBB ?_
 refine RW (v := (.int .u16 (kZ (bD x.s.r 2)))) (iB rfl rfl) rfl (cA_ _ (eT _)) (RX (dB K_ rfl (wV_ (iU K rb x h G hG 2 (kZ (bD x.s.r 2)) lW))) rfl ?_)
 rintro _ _ ⟨rfl, G0, rfl, hG0⟩
 refine ZDR ?_
 have e9 : far n x = (bD x.s.r 2, x.reg (dZ x.s.r 2 (kZ (bD x.s.r 2)))) := by unfold far; rw [if_neg o_m, if_neg o_m]
 exact EV rfl sR_ ⟨y_es, G0, y_es, y_2⟩
def aMi (o : Opr) (b : Nat) (a f : Int) (ha : 0 ≤ a ∧ a < 256) (hf : 0 ≤ f ∧ f < 256) (w : AI) (hr : Row w b 0 (cO o)) : aC prog 115 [.int .u8 a, .int .u8 f, P_ b] w [] (V_ (.tuple #[.int .u8 (dQ o.x a f), .int .u8 (gY o.x a f)])) := by
 refine dR_ func115 ?_
 refine A_8 ?_
 refine RZ (aH rfl rfl (bF (hr 1 _ rfl) y_v)) rfl (ZAn ?_)
 refine RLv K_ (wQ_ (aGV o.x a f ha hf)) ?_
 refine ZB2 ?_
 exact aF (fun _ _ => eD rfl rfl) ⟨rfl, rfl⟩
def rbytes_fn {β : Type} (K : jV prog β) (rb : Nat) {bn : Nat} (x : Rn β) (h : RunOk K.toaSY (bn + 2) x) (G : aB) (hG : K.rep x.m G) (o : Opr) (ho : nD o) (w : AI) (hst : St w (rb :: G.map (·.1)) ((rb, blk (cN K x.s) 179) :: G) w) : aC prog 94 [P_ rb, .agg (cO o).toArray] w (rb :: G.map (·.1)) (fun v H => v = .bool (isB o.kind) ∧ pC K rb (eF K.toaSX o x) H) := by
 have hn9 := ho.n
 have hgy9 := h.gett o.y
 have hgx9 := h.gett o.x
 have ha9 := h.r.a
 have hf9 := h.r.f
 refine dO_ func94 hst ?_
 refine ZDL ?_
 refine ZBz fun b0 => ?_
 refine ZBB ?_
 refine DR [6, 7, 8, 9] (pln [0, 2, 4, 6, 8, 10, 12, 14, 16, 18, 20]) ?_
 refine A_8 ?_
 refine ZBN ?_
 refine A_15 ?_
 refine KC (fun q0 z0 => ?_) (fun q0 z0 => ?_)
 ·refine ZCy ?_
  refine ZBE fun G0 hG0 => ?_
  refine DX rfl (aS (F := [(b0, _)]) (A := (rb, _) :: _) K_ rfl (wL_ (vJ K rb (x.mem (gett K.toaSX o.y x).2.m) (h.gmem o.y) G0 hG0 o.x (gett K.toaSX o.y x).1 hgy9.2))) rfl n_h (ZBZ fun G1 hG1 => ?_)
  refine ZB2 ?_
  have e9 : eF K.toaSX o x = sett K.toaSX o.x (gett K.toaSX o.y x).1 (x.mem (gett K.toaSX o.y x).2.m) := by unfold eF; rw [if_pos o_m]; rw [← nQ]
  exact EV rfl (.cons _ sR_) ⟨cA_ Value.bool (ah o_m : isB o.kind = true).symm, G1, y_s, y_5⟩
 refine ZBx ?_
 refine KC (fun q1 z1 => ?_) (fun q1 z1 => ?_)
 ·refine ZBx ?_
  refine RX (aS (F := [(b0, _)]) (A := (rb, _) :: _) K_ rfl (wL_ (vJ K rb x h G hG o.x (o.n % 256) o_m))) rfl (ZAg fun G0 hG0 => ?_)
  refine ZB2 ?_
  have e9 : eF K.toaSX o x = sett K.toaSX o.x (o.n % 256) x := by unfold eF; rw [if_neg o_m]; rw [if_pos o_m]
  exact EV rfl (.cons _ sR_) ⟨cA_ Value.bool (ah o_m : isB o.kind = true).symm, G0, y_s, y_2⟩
 refine ZBx ?_
 refine KC (fun q2 z2 => ?_) (fun q2 z2 => ?_)
 ·refine ZCy ?_
  refine ZBE fun G0 hG0 => ?_
  refine DX rfl (aS (F := [(b0, _)]) (A := (rb, _) :: _) K_ rfl (wL_ (aG2 K rb (x.mem (gett K.toaSX o.y x).2.m) (h.gmem o.y) G0 hG0 o.x (gett K.toaSX o.y x).1 hgy9.2))) rfl n_h (ZBZ fun G1 hG1 => ?_)
  refine ZB2 ?_
  have e9 : eF K.toaSX o x = (x.mem (gett K.toaSX o.y x).2.m).reg (iA x.s.r o.x (gett K.toaSX o.y x).1) := by unfold eF; (iterate 2 rw [if_neg o_m]); rw [if_pos o_m]; rw [← nQ, aJ7]
  exact EV rfl (.cons _ sR_) ⟨cA_ Value.bool (ah o_m : isB o.kind = true).symm, G1, y_s, y_5⟩
 refine ZBx ?_
 refine KC (fun q3 z3 => ?_) (fun q3 z3 => ?_)
 ·refine ZBx ?_
  refine RX (aS (F := [(b0, _)]) (A := (rb, _) :: _) K_ rfl (wL_ (aG2 K rb x h G hG o.x (o.n % 256) o_m))) rfl (ZAg fun G0 hG0 => ?_)
  refine ZB2 ?_
  have e9 : eF K.toaSX o x = x.reg (iA x.s.r o.x (o.n % 256)) := by unfold eF; (iterate 3 rw [if_neg o_m]); rw [if_pos o_m]
  exact EV rfl (.cons _ sR_) ⟨cA_ Value.bool (ah o_m : isB o.kind = true).symm, G0, y_s, y_2⟩
 refine ZBx ?_
 refine KC (fun q4 z4 => ?_) (fun q4 z4 => ?_)
 ·refine ZB6 ?_
  refine RX (aS (F := [(b0, _)]) (A := (rb, _) :: _) K_ rfl (fun w hw => wE K rb x (h.le o_m : RunOk K.toaSY (bn + 2) x) G hG o.x 113 [] [] K_ (fun v f => (zA v, aHa v f)) (fun a f ha hf => ⟨aGB, kJ _ _ _ _⟩) w (St.lentV hw) (fun w' _ a f _ ha hf => aRb a f ha hf w'))) rfl (ZAg fun G0 hG0 => ?_)
  refine ZB2 ?_
  have e9 : eF K.toaSX o x = change K.toaSX o.x (fun v f => (zA v, aHa v f)) x := by unfold eF; (iterate 4 rw [if_neg o_m]); rw [if_pos o_m]
  exact EV rfl (.cons _ sR_) ⟨cA_ Value.bool (ah o_m : isB o.kind = true).symm, G0, y_s, y_2⟩
 refine ZBx ?_
 refine KC (fun q5 z5 => ?_) (fun q5 z5 => ?_)
 ·refine ZB6 ?_
  refine RX (aS (F := [(b0, _)]) (A := (rb, _) :: _) K_ rfl (fun w hw => wE K rb x (h.le o_m : RunOk K.toaSY (bn + 2) x) G hG o.x 114 [] [] K_ (fun v f => (zU v, aHv v f)) (fun a f ha hf => ⟨aG0, kJ _ _ _ _⟩) w (St.lentV hw) (fun w' _ a f _ ha hf => aON a f ha hf w'))) rfl (ZAg fun G0 hG0 => ?_)
  refine ZB2 ?_
  have e9 : eF K.toaSX o x = change K.toaSX o.x (fun v f => (zU v, aHv v f)) x := by unfold eF; (iterate 5 rw [if_neg o_m]); rw [if_pos o_m]
  exact EV rfl (.cons _ sR_) ⟨cA_ Value.bool (ah o_m : isB o.kind = true).symm, G0, y_s, y_2⟩
 refine ZBx ?_
 refine KC (fun q6 z6 => ?_) (fun q6 z6 => ?_)
 ·refine ZB6 ?_
  refine RW (v := (.func (.func 115) (List.toArray []) (List.toArray [P_ b0]))) rfl rfl y_bA (RX (aS (F := [(b0, _)]) (A := (rb, _) :: _) K_ rfl (fun w hw => wE K rb x (h.le o_m : RunOk K.toaSY (bn + 2) x) G hG o.y 115 [] [P_ b0] K_ (fun v f => (dQ o.x v f, gY o.x v f)) (fun a f ha hf => ⟨aAJ ha, kJ _ _ _ _⟩) w (St.lentV hw) (fun w' H' a f hw' ha hf => aMi o b0 a f ha hf w' (aR (aA (l := cO o) (mR_ _ (.head _)) w hw) (St.notin hw (.head _)) w' hw')))) rfl (ZAg fun G0 hG0 => ?_))
  refine ZB2 ?_
  have e9 : eF K.toaSX o x = change K.toaSX o.y (fun v f => (dQ o.x v f, gY o.x v f)) x := by unfold eF; (iterate 6 rw [if_neg o_m]); rw [if_pos o_m]
  exact EV rfl (.cons _ sR_) ⟨cA_ Value.bool (ah o_m : isB o.kind = true).symm, G0, y_s, y_2⟩
 refine ZBx ?_
 refine KC (fun q7 z7 => ?_) (fun q7 z7 => ?_)
 ·refine ZBR ?_
  refine DR [3, 4, 5, 6, 7, 8, 9] (pln [0, 2, 4, 6, 8, 10, 12, 14, 16, 18, 21, 22, 24, 26, 28, 30, 32, 34, 37, 38]) ?_
  refine A_10 ?_
  refine DZ rfl (aZ K_ rfl (wQ_ (aGV o.x x.s.r.a x.s.r.f h.r.a h.r.f))) rfl n_h (ZBh ?_)
  refine ZB2 ?_
  refine DZ rfl (xS_ (l' := cN K { x.s with r := { x.s.r with a := dQ o.x x.s.r.a x.s.r.f } }) 1) rfl n_h (c_u ?_)
  refine ZBx ?_
  refine RW (v := (.int .u8 (fl false false false (turnO o.x x.s.r.a)))) (bA rfl rfl) rfl (cA_ _ (aJc _ _ _ _)) (ZB6 ?_)
  refine RZ (xS_ (l' := cN K { x.s with r := { x.s.r with a := dQ o.x x.s.r.a x.s.r.f, f := fl false false false (turnO o.x x.s.r.a) } }) 1) rfl (ZCd ?_)
  have e9 : eF K.toaSX o x = x.reg { x.s.r with a := dQ o.x x.s.r.a x.s.r.f, f := fl false false false (turnO o.x x.s.r.a) } := by unfold eF; (iterate 7 rw [if_neg o_m]); rw [if_pos o_m]
  exact EV rfl (.cons _ sR_) ⟨cA_ Value.bool (ah o_m : isB o.kind = true).symm, G, y_s, y_dT⟩
 refine ZBx ?_
 refine KC (fun q8 z8 => ?_) (fun q8 z8 => ?_)
 ·refine gM [(b0, blk (cO o) 44)] [3, 4, 5, 6, 7] (.step true 0 (.step true 1 (.step true 2 (.step true 3 (.step true 4 (.step true 5 (.step true 7 (.step false 6 (.step false 8 (.step true 9 (.step true 10 (.step true 11 (.step true 12 (.step false 13 .done)))))))))))))) rfl y_i y_i (fun x hx => y_3) ?_
  refine ZDR ?_
  refine ZBE fun G0 hG0 => ?_
  refine DZ rfl (aZ K_ rfl (wQ_ (aOB o.x (gett K.toaSX o.y x).1 x.s.r.f hgy9.2 h.r.f))) rfl n_h (ZB6 ?_)
  refine DZ rfl (xS_ (l' := cN K { x.s with r := { x.s.r with f := aHh o.x (gett K.toaSX o.y x).1 x.s.r.f } }) 1) rfl n_h (ZCd ?_)
  have e9 : eF K.toaSX o x = (x.mem (gett K.toaSX o.y x).2.m).reg { x.s.r with f := aHh o.x (gett K.toaSX o.y x).1 x.s.r.f } := by unfold eF; (iterate 8 rw [if_neg o_m]); rw [if_pos o_m]; rw [← nQ, aJ7]
  exact EV rfl (.cons _ sR_) ⟨cA_ Value.bool (ah o_m : isB o.kind = true).symm, G0, y_s, y_2⟩
 refine ZBx ?_
 refine KC (fun q9 z9 => ?_) (fun q9 z9 => ?_)
 ·refine ZCA ?_
  refine DW (v := (.int .u8 (shl .u8 1 o.x))) rfl (dJ rfl rfl ho.x.1) rfl rfl (ZBE fun G0 hG0 => ?_)
  refine DW (v := (.int .u8 (qD (gett K.toaSX o.y x).1 o.x))) rfl (sJ rfl rfl) rfl (cA_ _ (aGp hgy9.2 ho.x)) (DX rfl (aS (F := [(b0, _)]) (A := (rb, _) :: _) K_ rfl (wL_ (vJ K rb (x.mem (gett K.toaSX o.y x).2.m) (h.gmem o.y) G0 hG0 o.y (qD (gett K.toaSX o.y x).1 o.x) (aAh hgy9.2 ho.x).1))) rfl n_h (ZBZ fun G1 hG1 => ?_))
  refine ZB2 ?_
  have e9 : eF K.toaSX o x = sett K.toaSX o.y (qD (gett K.toaSX o.y x).1 o.x) (x.mem (gett K.toaSX o.y x).2.m) := by unfold eF; (iterate 9 rw [if_neg o_m]); rw [if_pos o_m]; rw [← nQ]
  exact EV rfl (.cons _ sR_) ⟨cA_ Value.bool (ah o_m : isB o.kind = true).symm, G1, y_s, y_5⟩
 refine ZBx ?_
 refine KC (fun q10 z10 => ?_) (fun q10 z10 => ?_)
 ·refine ZCA ?_
  refine DW (v := (.int .u8 (shl .u8 1 o.x))) rfl (dJ rfl rfl ho.x.1) rfl rfl (ZBE fun G0 hG0 => ?_)
  refine DW (v := (.int .u8 (uX (gett K.toaSX o.y x).1 o.x))) rfl (cM rfl rfl) rfl (cA_ _ (aOv hgy9.2 ho.x)) (DX rfl (aS (F := [(b0, _)]) (A := (rb, _) :: _) K_ rfl (wL_ (vJ K rb (x.mem (gett K.toaSX o.y x).2.m) (h.gmem o.y) G0 hG0 o.y (uX (gett K.toaSX o.y x).1 o.x) (aAh hgy9.2 ho.x).2))) rfl n_h (ZBZ fun G1 hG1 => ?_))
  refine ZB2 ?_
  have e9 : eF K.toaSX o x = sett K.toaSX o.y (uX (gett K.toaSX o.y x).1 o.x) (x.mem (gett K.toaSX o.y x).2.m) := by unfold eF; (iterate 10 rw [if_neg o_m]); rw [if_pos o_m]; rw [← nQ]
  exact EV rfl (.cons _ sR_) ⟨cA_ Value.bool (ah o_m : isB o.kind = true).symm, G1, y_s, y_5⟩
 refine ZBx ?_
 refine KC (fun q11 z11 => ?_) (fun q11 z11 => ?_)
 ·refine A_10 ?_
  refine RLv K_ (wQ_ (aQv x.s.r.a x.s.r.f h.r.a h.r.f)) ?_
  refine ZDR ?_
  refine RZ (xS_ (l' := cN K { x.s with r := { x.s.r with a := rI x.s.r.a x.s.r.f } }) 1) rfl (ZCl ?_)
  refine RZ (xS_ (l' := cN K { x.s with r := { x.s.r with a := rI x.s.r.a x.s.r.f, f := aH9 x.s.r.a x.s.r.f } }) 1) rfl (ZCd ?_)
  have e9 : eF K.toaSX o x = x.reg { x.s.r with a := rI x.s.r.a x.s.r.f, f := aH9 x.s.r.a x.s.r.f } := by unfold eF; (iterate 11 rw [if_neg o_m]); rw [if_pos o_m]
  exact EV rfl (.cons _ sR_) ⟨cA_ Value.bool (ah o_m : isB o.kind = true).symm, G, y_s, y_dT⟩
 refine ZBx ?_
 refine KC (fun q12 z12 => ?_) (fun q12 z12 => ?_)
 ·refine A_9 ?_
  refine RW (v := (.int .u8 (255 - x.s.r.a))) rfl rfl (cA_ _ (aQd h.r.a)) (ZB6 ?_)
  refine RZ (xS_ (l' := cN K { x.s with r := { x.s.r with a := 255 - x.s.r.a } }) 1) rfl (ZCl ?_)
  refine RW (v := (.int .u8 (aG .u8 x.s.r.f 144))) (bA rfl rfl) rfl rfl (RW (v := (.int .u8 (bor .u8 (aG .u8 x.s.r.f 144) 64))) (cM rfl rfl) rfl rfl (RW (v := (.int .u8 (fl (zF x.s.r.f) true true (cF x.s.r.f)))) (cM rfl rfl) rfl (cA_ _ (aPd h.r.f)) (ZB6 ?_)))
  refine RZ (xS_ (l' := cN K { x.s with r := { x.s.r with a := 255 - x.s.r.a, f := fl (zF x.s.r.f) true true (cF x.s.r.f) } }) 1) rfl (ZCd ?_)
  have e9 : eF K.toaSX o x = x.reg { x.s.r with a := 255 - x.s.r.a, f := fl (zF x.s.r.f) true true (cF x.s.r.f) } := by unfold eF; (iterate 12 rw [if_neg o_m]); rw [if_pos o_m]
  exact EV rfl (.cons _ sR_) ⟨cA_ Value.bool (ah o_m : isB o.kind = true).symm, G, y_s, y_dT⟩
 refine ZBx ?_
 refine KC (fun q13 z13 => ?_) (fun q13 z13 => ?_)
 ·refine ZBB ?_
  refine RW (v := (.int .u8 (aG .u8 x.s.r.f 128))) (bA rfl rfl) rfl rfl (RW (v := (.int .u8 (fl (zF x.s.r.f) false false true))) (cM rfl rfl) rfl (cA_ _ (aOg h.r.f)) (ZB6 ?_))
  refine RZ (xS_ (l' := cN K { x.s with r := { x.s.r with f := fl (zF x.s.r.f) false false true } }) 1) rfl (ZCd ?_)
  have e9 : eF K.toaSX o x = x.reg { x.s.r with f := fl (zF x.s.r.f) false false true } := by unfold eF; (iterate 13 rw [if_neg o_m]); rw [if_pos o_m]
  exact EV rfl (.cons _ sR_) ⟨cA_ Value.bool (ah o_m : isB o.kind = true).symm, G, y_s, y_dT⟩
 refine ZBx ?_
 refine KC (fun q14 z14 => ?_) (fun q14 z14 => ?_)
 ·refine ZBB ?_
  refine RW (v := (.int .u8 (aG .u8 x.s.r.f 144))) (bA rfl rfl) rfl rfl (RW (v := (.int .u8 (fl (zF x.s.r.f) false false (!cF x.s.r.f)))) (aDL rfl rfl) rfl (cA_ _ (aOd h.r.f)) (ZB6 ?_))
  refine RZ (xS_ (l' := cN K { x.s with r := { x.s.r with f := fl (zF x.s.r.f) false false (!cF x.s.r.f) } }) 1) rfl (ZCd ?_)
  have e9 : eF K.toaSX o x = x.reg { x.s.r with f := fl (zF x.s.r.f) false false (!cF x.s.r.f) } := by unfold eF; (iterate 14 rw [if_neg o_m]); rw [if_pos o_m]
  exact EV rfl (.cons _ sR_) ⟨cA_ Value.bool (ah o_m : isB o.kind = true).symm, G, y_s, y_dT⟩
 refine ZBx ?_
 exact EV rfl (.cons _ sR_) ⟨cA_ Value.bool (cr o_m : isB o.kind = false).symm, G, by rw [vT K.toaSX (cr o_m)], by rw [vT K.toaSX (cr o_m)]; exact hG⟩
def rwords_fn {β : Type} (K : jV prog β) (rb : Nat) {bn : Nat} (x : Rn β) (h : RunOk K.toaSY (bn + 3) x) (G : aB) (hG : K.rep x.m G) (o : Opr) (ho : nD o) (w : AI) (hst : St w (rb :: G.map (·.1)) ((rb, blk (cN K x.s) 179) :: G) w) : aC prog 95 [P_ rb, .agg (cO o).toArray] w (rb :: G.map (·.1)) (fun v H => v = .bool (isW o.kind) ∧ pC K rb (gJ K.toaSX o x) H) := by
 have hn9 := ho.n
 have hs9 := h.r.sp
 have hp9 := h.r.setP o.x (lA (w := (bD x.s.r o.x)))
 have hm9 := h.r.setP o.x (lW (w := (bD x.s.r o.x)))
 have hq9 := (h.r.f_ (kJ (zF x.s.r.f) false (decide (4095 < (bD x.s.r 2) % 4096 + (bD x.s.r o.x) % 4096)) (decide (65535 < (bD x.s.r 2) + (bD x.s.r o.x))))).setP 2 (yH (a := (bD x.s.r 2)) (b := (bD x.s.r o.x)))
 refine dO_ func95 hst ?_
 refine ZDL ?_
 refine ZBz fun b0 => ?_
 refine A_18 ?_
 refine KC (fun q0 z0 => ?_) (fun q0 z0 => ?_)
 ·refine ZB2 ?_
  refine RX (aS (F := [(b0, _)]) (A := (rb, _) :: _) K_ rfl (wL_ (iU K rb x h G hG o.x o.n ho.n))) rfl (ZAg fun G0 hG0 => ?_)
  refine ZB2 ?_
  have e9 : gJ K.toaSX o x = x.reg (dZ x.s.r o.x o.n) := by unfold gJ; rw [if_pos o_m]
  exact EV rfl (.cons _ sR_) ⟨cA_ Value.bool (ah o_m : isW o.kind = true).symm, G0, y_s, y_2⟩
 refine ZBx ?_
 refine KC (fun q1 z1 => ?_) (fun q1 z1 => ?_)
 ·refine ZCi ?_
  refine ZB2 ?_
  refine ZCz ?_
  refine DW (v := (.int .u16 (bJ (bD x.s.r o.x)))) rfl (jI rfl rfl) rfl (cA_ _ (eT _)) (DX rfl (aS (F := [(b0, _)]) (A := (rb, _) :: _) K_ rfl (wL_ (iU K rb x h G hG o.x (bJ (bD x.s.r o.x)) lA))) rfl n_h (ZAg fun G0 hG0 => ?_))
  refine ZBB ?_
  refine RX (aS (F := [(b0, _)]) (A := (rb, _) :: _) K_ rfl (wL_ (ridle_fn K rb 1 y_b (x.reg (dZ x.s.r o.x (bJ (bD x.s.r o.x)))) (h.reg hp9) G0 hG0))) rfl (ZBZ fun G1 hG1 => ?_)
  refine ZB2 ?_
  have e9 : gJ K.toaSX o x = idles K.toaSX 1 (x.reg (dZ x.s.r o.x (bJ (bD x.s.r o.x)))) := by unfold gJ; rw [if_neg o_m]; rw [if_pos o_m]
  exact EV rfl (.cons _ sR_) ⟨cA_ Value.bool (ah o_m : isW o.kind = true).symm, G1, y_s, y_5⟩
 refine ZBx ?_
 refine KC (fun q2 z2 => ?_) (fun q2 z2 => ?_)
 ·refine ZCi ?_
  refine ZB2 ?_
  refine ZCz ?_
  refine DW (v := (.int .u16 (kZ (bD x.s.r o.x)))) rfl (iB rfl rfl) rfl (cA_ _ (eT _)) (DX rfl (aS (F := [(b0, _)]) (A := (rb, _) :: _) K_ rfl (wL_ (iU K rb x h G hG o.x (kZ (bD x.s.r o.x)) lW))) rfl n_h (ZAg fun G0 hG0 => ?_))
  refine ZBB ?_
  refine RX (aS (F := [(b0, _)]) (A := (rb, _) :: _) K_ rfl (wL_ (ridle_fn K rb 1 y_b (x.reg (dZ x.s.r o.x (kZ (bD x.s.r o.x)))) (h.reg hm9) G0 hG0))) rfl (ZBZ fun G1 hG1 => ?_)
  refine ZB2 ?_
  have e9 : gJ K.toaSX o x = idles K.toaSX 1 (x.reg (dZ x.s.r o.x (kZ (bD x.s.r o.x)))) := by unfold gJ; (iterate 2 rw [if_neg o_m]); rw [if_pos o_m]
  exact EV rfl (.cons _ sR_) ⟨cA_ Value.bool (ah o_m : isW o.kind = true).symm, G1, y_s, y_5⟩
 refine ZBx ?_
 refine KC (fun q3 z3 => ?_) (fun q3 z3 => ?_)
 ·refine ZBR ?_
  refine DR [2, 6, 7, 8, 9, 10, 11, 12] (pln [0, 2, 6, 8, 10, 14, 16, 18, 20, 22, 24, 5, 13, 27, 28, 30, 32, 34, 36, 38, 40, 42, 45]) ?_
  refine A_11 ?_
  refine DZ rfl (aZ K_ rfl (fun w hw => rpair_fn K rb x.s h.r w (aA (l := cN K x.s) m_m w hw) 2)) rfl y_c (ZCz ?_)
  refine DZ rfl (aZ K_ rfl (wQ_ (aNf (bD x.s.r 2) (bD x.s.r o.x) x.s.r.f (eW h.r 2) (eW h.r o.x) h.r.f))) rfl n_h (ZBh ?_)
  refine ZDR ?_
  refine DZ rfl (xS_ (l' := cN K { x.s with r := { x.s.r with f := vM (bD x.s.r 2) (bD x.s.r o.x) x.s.r.f } }) 1) rfl n_h (c_u ?_)
  refine ZBx ?_
  refine RX (aS (F := [(b0, _)]) (A := (rb, _) :: _) K_ rfl (wL_ (iU K rb (x.reg { x.s.r with f := vM (bD x.s.r 2) (bD x.s.r o.x) x.s.r.f }) (h.reg (h.r.f_ (kJ _ _ _ _))) G hG 2 (rF (bD x.s.r 2) (bD x.s.r o.x)) yH))) rfl (ZAg fun G0 hG0 => ?_)
  refine ZBB ?_
  refine RX (aS (F := [(b0, _)]) (A := (rb, _) :: _) K_ rfl (wL_ (ridle_fn K rb 1 y_b (x.reg (dZ { x.s.r with f := vM (bD x.s.r 2) (bD x.s.r o.x) x.s.r.f } 2 (rF (bD x.s.r 2) (bD x.s.r o.x)))) (h.reg hq9) G0 hG0))) rfl (ZBZ fun G1 hG1 => ?_)
  refine ZB2 ?_
  have e9 : gJ K.toaSX o x = idles K.toaSX 1 (x.reg (dZ { x.s.r with f := vM (bD x.s.r 2) (bD x.s.r o.x) x.s.r.f } 2 (rF (bD x.s.r 2) (bD x.s.r o.x)))) := by unfold gJ; (iterate 3 rw [if_neg o_m]); rw [if_pos o_m]
  exact EV rfl (.cons _ sR_) ⟨cA_ Value.bool (ah o_m : isW o.kind = true).symm, G1, y_s, y_5⟩
 refine ZBx ?_
 refine KC (fun q4 z4 => ?_) (fun q4 z4 => ?_)
 ·refine ZBR ?_
  refine DR [8, 9, 10] (pln [0, 2, 4, 6, 8, 10, 12, 14, 16, 18, 20, 23, 24, 26, 28, 30, 32, 34, 36, 39, 40, 42, 44, 46, 49]) ?_
  refine A_10 ?_
  refine ZBN ?_
  refine DZ rfl (aZ K_ rfl (wQ_ (aD2 x.s.r.sp (o.n % 256) h.r.sp o_m))) rfl n_h (ZBh ?_)
  refine ZB2 ?_
  refine DZ rfl (xS_ (l' := cN K { x.s with r := { x.s.r with sp := shR x.s.r.sp (o.n % 256) } }) 1) rfl n_h (ZCl ?_)
  refine DZ rfl (xS_ (l' := cN K { x.s with r := { x.s.r with sp := shR x.s.r.sp (o.n % 256), f := shF x.s.r.sp (o.n % 256) } }) 1) rfl n_h (ZEj ?_)
  refine RX (aS (F := [(b0, _)]) (A := (rb, _) :: _) K_ rfl (wL_ (ridle_fn K rb 2 y_b (x.reg { x.s.r with sp := shR x.s.r.sp (o.n % 256), f := shF x.s.r.sp (o.n % 256) }) (h.reg ((h.r.sp_ yK).f_ (kJ _ _ _ _))) G hG))) rfl (ZAg fun G0 hG0 => ?_)
  refine ZB2 ?_
  have e9 : gJ K.toaSX o x = idles K.toaSX 2 (x.reg { x.s.r with sp := shR x.s.r.sp (o.n % 256), f := shF x.s.r.sp (o.n % 256) }) := by unfold gJ; (iterate 4 rw [if_neg o_m]); rw [if_pos o_m]
  exact EV rfl (.cons _ sR_) ⟨cA_ Value.bool (ah o_m : isW o.kind = true).symm, G0, y_s, y_2⟩
 refine ZBx ?_
 refine KC (fun q5 z5 => ?_) (fun q5 z5 => ?_)
 ·refine ZBR ?_
  refine DR [7, 8, 9] (pln [0, 2, 4, 6, 8, 10, 12, 14, 16, 18, 21, 22, 24, 26, 28, 30, 32, 34, 36, 39]) ?_
  refine A_9 ?_
  refine ZBN ?_
  refine DZ rfl (aZ K_ rfl (wQ_ (aD2 x.s.r.sp (o.n % 256) h.r.sp o_m))) rfl n_h (ZBh ?_)
  refine ZDR ?_
  refine DZ rfl (xS_ (l' := cN K { x.s with r := { x.s.r with f := shF x.s.r.sp (o.n % 256) } }) 1) rfl n_h (c_u ?_)
  refine ZBx ?_
  refine RX (aS (F := [(b0, _)]) (A := (rb, _) :: _) K_ rfl (wL_ (iU K rb (x.reg { x.s.r with f := shF x.s.r.sp (o.n % 256) }) (h.reg (h.r.f_ (kJ _ _ _ _))) G hG 2 (shR x.s.r.sp (o.n % 256)) yK))) rfl (ZAg fun G0 hG0 => ?_)
  refine ZBB ?_
  refine RX (aS (F := [(b0, _)]) (A := (rb, _) :: _) K_ rfl (wL_ (ridle_fn K rb 1 y_b (x.reg (dZ { x.s.r with f := shF x.s.r.sp (o.n % 256) } 2 (shR x.s.r.sp (o.n % 256)))) (h.reg ((h.r.f_ (kJ _ _ _ _)).setP 2 yK)) G0 hG0))) rfl (ZBZ fun G1 hG1 => ?_)
  refine ZB2 ?_
  have e9 : gJ K.toaSX o x = idles K.toaSX 1 (x.reg (dZ { x.s.r with f := shF x.s.r.sp (o.n % 256) } 2 (shR x.s.r.sp (o.n % 256)))) := by unfold gJ; (iterate 5 rw [if_neg o_m]); rw [if_pos o_m]
  exact EV rfl (.cons _ sR_) ⟨cA_ Value.bool (ah o_m : isW o.kind = true).symm, G1, y_s, y_5⟩
 refine ZBx ?_
 refine KC (fun q6 z6 => ?_) (fun q6 z6 => ?_)
 ·refine ZB6 ?_
  refine RLv K_ (fun w hw => rpair_fn K rb x.s h.r w (aA (l := cN K x.s) m_m w hw) 2) ?_
  refine ZB6 ?_
  refine RZ (xS_ (l' := cN K { x.s with r := { x.s.r with sp := (bD x.s.r 2) } }) 1) rfl (ZEj ?_)
  refine RX (aS (F := [(b0, _)]) (A := (rb, _) :: _) K_ rfl (wL_ (ridle_fn K rb 1 y_b (x.reg { x.s.r with sp := (bD x.s.r 2) }) (h.reg (h.r.sp_ (eW h.r 2))) G hG))) rfl (ZAg fun G0 hG0 => ?_)
  refine ZB2 ?_
  have e9 : gJ K.toaSX o x = idles K.toaSX 1 (x.reg { x.s.r with sp := (bD x.s.r 2) }) := by unfold gJ; (iterate 6 rw [if_neg o_m]); rw [if_pos o_m]
  exact EV rfl (.cons _ sR_) ⟨cA_ Value.bool (ah o_m : isW o.kind = true).symm, G0, y_s, y_2⟩
 refine ZBx ?_
 refine KC (fun q7 z7 => ?_) (fun q7 z7 => ?_)
 ·refine ZBB ?_
  refine ZAx fun G0 hG0 => ?_
  refine ZB2 ?_
  refine RLv K_ (fun w hw => rpair_fn K rb (idles K.toaSX 1 x).s (h.idleK 1).r w (aA (l := cN K (idles K.toaSX 1 x).s) m_m w hw) o.x) ?_
  refine RX (aS (F := [(b0, _)]) (A := (rb, _) :: _) K_ rfl (wL_ (rpush_fn K rb (idles K.toaSX 1 x) (h.idleK 1) G0 hG0 (bD (idles K.toaSX 1 x).s.r o.x) (eW h.r o.x)))) rfl (ZBZ fun G1 hG1 => ?_)
  refine ZB2 ?_
  have e9 : gJ K.toaSX o x = push K.toaSX (bD (idles K.toaSX 1 x).s.r o.x) (idles K.toaSX 1 x) := by unfold gJ; (iterate 7 rw [if_neg o_m]); rw [if_pos o_m]
  exact EV rfl (.cons _ sR_) ⟨cA_ Value.bool (ah o_m : isW o.kind = true).symm, G1, y_s, y_5⟩
 refine ZBx ?_
 refine KC (fun q8 z8 => ?_) (fun q8 z8 => ?_)
 ·refine ZBB ?_
  refine RX (aS (F := [(b0, _)]) (A := (rb, _) :: _) K_ rfl (wL_ (aAk K rb x h G hG))) rfl (ZAg fun G0 hG0 => ?_)
  refine ZDR ?_
  refine RX (aS (F := [(b0, _)]) (A := (rb, _) :: _) K_ rfl (wL_ (iU K rb (pop K.toaSX x).2 h.pop.1 G0 hG0 o.x (pop K.toaSX x).1 h.pop.2))) rfl (ZBZ fun G1 hG1 => ?_)
  refine ZB2 ?_
  have e9 : gJ K.toaSX o x = (pop K.toaSX x).2.reg (dZ (pop K.toaSX x).2.s.r o.x (pop K.toaSX x).1) := by unfold gJ; (iterate 8 rw [if_neg o_m]); rw [if_pos o_m]
  exact EV rfl (.cons _ sR_) ⟨cA_ Value.bool (ah o_m : isW o.kind = true).symm, G1, y_s, y_5⟩
 refine ZBx ?_
 refine KC (fun q9 z9 => ?_) (fun q9 z9 => ?_)
 ·refine ZBR ?_
  refine DR [4, 5, 6, 7, 8, 9, 10, 11, 12, 13, 14] (pln [0, 2, 4, 6, 8, 10, 12, 14, 16, 18, 20, 22, 24, 26, 28, 31]) ?_
  refine A_12 ?_
  refine ZBN ?_
  refine ZAn ?_
  refine DX rfl (fT (F := [(b0, _), (rb, _)]) (A := G) rfl K.mW K.cW rfl (fun w hw => K.dW (n := bn + 2) h.m hG (St.lentV hw) ho.n o_m)) rfl n_h ?_
  rintro _ _ ⟨G0, ⟨rfl, hG0⟩, rfl⟩
  refine ZBR ?_
  refine DR [4, 5, 6, 7, 8, 9, 10, 11, 12, 13, 14, 15, 16] (pln [0, 2, 4, 6, 8, 10, 12, 14, 16, 18, 20, 22, 24, 26, 28, 30, 32, 35]) ?_
  refine ZB2 ?_
  refine DW (v := (.int .u16 (bJ o.n))) rfl (jI rfl rfl) rfl (cA_ _ (eT _)) (ZB2 ?_)
  refine ZC4 ?_
  refine ZAn ?_
  refine DX rfl (fT (F := [(b0, _), (rb, _)]) (A := G0) rfl K.mW K.cW rfl (fun w hw => K.dW (n := bn + 1) (K.oW h.m ho.n o_m) hG0 (St.lentV hw) lA o_m)) rfl n_h ?_
  rintro _ _ ⟨G1, ⟨rfl, hG1⟩, rfl⟩
  refine ZB2 ?_
  have e9 : gJ K.toaSX o x = x.mem (K.write (bJ o.n) (x.s.r.sp / 256) (K.write o.n (x.s.r.sp % 256) x.m)) := by unfold gJ; (iterate 9 rw [if_neg o_m]); rw [if_pos o_m]
  exact EV rfl (.cons _ sR_) ⟨cA_ Value.bool (ah o_m : isW o.kind = true).symm, G1, y_s, y_5⟩
 refine ZBx ?_
 exact EV rfl (.cons _ sR_) ⟨cA_ Value.bool (cr o_m : isW o.kind = false).symm, G, by rw [aAi K.toaSX (cr o_m)], by rw [aAi K.toaSX (cr o_m)]; exact hG⟩
def rplaces_fn {β : Type} (K : jV prog β) (rb : Nat) {bn : Nat} (x : Rn β) (h : RunOk K.toaSY (bn + 1) x) (G : aB) (hG : K.rep x.m G) (o : Opr) (ho : nD o) (w : AI) (hst : St w (rb :: G.map (·.1)) ((rb, blk (cN K x.s) 179) :: G) w) : aC prog 96 [P_ rb, .agg (cO o).toArray] w (rb :: G.map (·.1)) (fun v H => v = .bool (isP o.kind) ∧ pC K rb (if isP o.kind = true then jC K.toaSX o x else x) H) := by
 have hn9 := ho.n
 have hs9 := ho.small
 have hc9 := h.r.c
 refine dO_ func96 hst ?_
 refine ZDL ?_
 refine ZBz fun b0 => ?_
 refine A_8 ?_
 rcases (show o.kind = 32 ∨ o.kind = 33 ∨ o.kind = 34 ∨ o.kind = 35 ∨ o.kind = 36 ∨ o.kind = 37 ∨ o.kind = 38 ∨ o.kind = 39 ∨ (o.kind < 32 ∨ 39 < o.kind) by omega) with hk | hk | hk | hk | hk | hk | hk | hk | hk
 ·refine A_8 ?_
  refine ZAS ?_
  refine A_9 ?_
  refine RX (aS (F := [(b0, _)]) (A := (rb, _) :: _) K_ rfl (wL_ (aC0 K rb x h G hG o.x))) rfl (ZAg fun G0 hG0 => ?_)
  refine A_12 ?_
  refine ZAS ?_
  refine A_12 ?_
  refine RX (fT (F := [(b0, _), (rb, _)]) (A := G0) rfl K.mR K.cR rfl (fun w hw => K.dR (h.far o.x).1.m hG0 (St.lentV hw) (h.far o.x).2)) rfl ?_
  rintro _ _ ⟨G1, ⟨rfl, hG1⟩, rfl⟩
  refine ZB6 ?_
  refine RZ (xS_ (l' := cN K { (far o.x x).2.s with r := { (far o.x x).2.s.r with a := (K.read (far o.x x).1 (far o.x x).2.m).1 } }) 1) rfl (ZCd ?_)
  have e8 : place o x = ((far o.x x).1, (far o.x x).2) := by unfold place; simp only [hk]; rfl
  have e9 : (if isP o.kind = true then jC K.toaSX o x else x) = ⟨{ (far o.x x).2.s with r := { (far o.x x).2.s.r with a := (K.read (far o.x x).1 (far o.x x).2.m).1 } }, (K.read (far o.x x).1 (far o.x x).2.m).2⟩ := by rw [if_pos (show isP o.kind = true from ah o_m)]; unfold jC; simp only [e8, hk]; rfl
  exact EV rfl (.cons _ sR_) ⟨cA_ Value.bool (ah o_m : isP o.kind = true).symm, G1, y_s, y_5⟩
 ·refine A_8 ?_
  refine ZA0 ?_
  refine ZAS ?_
  refine ZDR ?_
  refine RX (aS (F := [(b0, _)]) (A := (rb, _) :: _) K_ rfl (wL_ (aC0 K rb x h G hG o.x))) rfl (ZAg fun G0 hG0 => ?_)
  refine A_12 ?_
  refine ZEN ?_
  refine ZBy ?_
  refine ZBB ?_
  refine ZBD ?_
  refine DX rfl (fT (F := [(b0, _), (rb, _)]) (A := G0) rfl K.mW K.cW rfl (fun w hw => K.dW (h.far o.x).1.m hG0 (St.lentV hw) (h.far o.x).2 (h.far o.x).1.r.a)) rfl n_h ?_
  rintro _ _ ⟨G1, ⟨rfl, hG1⟩, rfl⟩
  refine ZB2 ?_
  have e8 : place o x = ((far o.x x).1, (far o.x x).2) := by unfold place; simp only [hk]; rfl
  have e9 : (if isP o.kind = true then jC K.toaSX o x else x) = (far o.x x).2.mem (K.write (far o.x x).1 (far o.x x).2.s.r.a (far o.x x).2.m) := by rw [if_pos (show isP o.kind = true from ah o_m)]; unfold jC; simp only [e8, hk]; rfl
  exact EV rfl (.cons _ sR_) ⟨cA_ Value.bool (ah o_m : isP o.kind = true).symm, G1, y_s, y_5⟩
 ·refine ZDu ?_
  refine ZB2 ?_
  refine ZAS ?_
  refine A_8 ?_
  refine RW (v := (.int .u16 (65280 + o.n % 256))) (cM rfl rfl) rfl (cA_ _ ((aAx o_m).trans o_m)) (A_12 ?_)
  refine ZBQ ?_
  refine ZAS ?_
  refine A_12 ?_
  refine ZCU fun G0 hG0 => ?_
  refine ZB6 ?_
  refine RZ (xS_ (l' := cN K { x.s with r := { x.s.r with a := (K.read (65280 + o.n % 256) x.m).1 } }) 1) rfl (ZCd ?_)
  have e8 : place o x = ((65280 + o.n % 256), x) := by unfold place; simp only [hk]; rfl
  have e9 : (if isP o.kind = true then jC K.toaSX o x else x) = ⟨{ x.s with r := { x.s.r with a := (K.read (65280 + o.n % 256) x.m).1 } }, (K.read (65280 + o.n % 256) x.m).2⟩ := by rw [if_pos (show isP o.kind = true from ah o_m)]; unfold jC; simp only [e8, hk]; rfl
  exact EV rfl (.cons _ sR_) ⟨cA_ Value.bool (ah o_m : isP o.kind = true).symm, G0, y_s, y_2⟩
 ·refine ZDu ?_
  refine ZB2 ?_
  refine ZA0 ?_
  refine ZAS ?_
  refine ZB2 ?_
  refine RW (v := (.int .u16 (65280 + o.n % 256))) (cM rfl rfl) rfl (cA_ _ ((aAx o_m).trans o_m)) (A_12 ?_)
  refine ZEN ?_
  refine ZBy ?_
  refine ZBB ?_
  refine ZCF ?_
  rintro _ _ ⟨G0, ⟨rfl, hG0⟩, rfl⟩
  refine ZB2 ?_
  have e8 : place o x = ((65280 + o.n % 256), x) := by unfold place; simp only [hk]; rfl
  have e9 : (if isP o.kind = true then jC K.toaSX o x else x) = x.mem (K.write (65280 + o.n % 256) x.s.r.a x.m) := by rw [if_pos (show isP o.kind = true from ah o_m)]; unfold jC; simp only [e8, hk]; rfl
  exact EV rfl (.cons _ sR_) ⟨cA_ Value.bool (ah o_m : isP o.kind = true).symm, G0, y_s, y_2⟩
 ·refine ZDu ?_
  refine ZB2 ?_
  refine ZBy ?_
  refine ZB2 ?_
  refine ZAS ?_
  refine A_12 ?_
  refine ZD3 ?_
  refine RW (v := (.int .u16 (65280 + x.s.r.c))) (cM rfl rfl) rfl (cA_ _ (aAx h.r.c)) (A_12 ?_)
  refine ZEN ?_
  refine ZAS ?_
  refine A_12 ?_
  refine ZCU fun G0 hG0 => ?_
  refine ZB6 ?_
  refine RZ (xS_ (l' := cN K { x.s with r := { x.s.r with a := (K.read (65280 + x.s.r.c) x.m).1 } }) 1) rfl (ZCd ?_)
  have e8 : place o x = ((65280 + x.s.r.c), x) := by unfold place; simp only [hk]; rfl
  have e9 : (if isP o.kind = true then jC K.toaSX o x else x) = ⟨{ x.s with r := { x.s.r with a := (K.read (65280 + x.s.r.c) x.m).1 } }, (K.read (65280 + x.s.r.c) x.m).2⟩ := by rw [if_pos (show isP o.kind = true from ah o_m)]; unfold jC; simp only [e8, hk]; rfl
  exact EV rfl (.cons _ sR_) ⟨cA_ Value.bool (ah o_m : isP o.kind = true).symm, G0, y_s, y_2⟩
 ·refine ZDu ?_
  refine ZB2 ?_
  refine ZBy ?_
  refine ZB2 ?_
  refine ZA0 ?_
  refine ZAS ?_
  refine A_10 ?_
  refine ZD3 ?_
  refine RW (v := (.int .u16 (65280 + x.s.r.c))) (cM rfl rfl) rfl (cA_ _ (aAx h.r.c)) (A_12 ?_)
  refine ZEN ?_
  refine ZBy ?_
  refine ZBB ?_
  refine ZCF ?_
  rintro _ _ ⟨G0, ⟨rfl, hG0⟩, rfl⟩
  refine ZB2 ?_
  have e8 : place o x = ((65280 + x.s.r.c), x) := by unfold place; simp only [hk]; rfl
  have e9 : (if isP o.kind = true then jC K.toaSX o x else x) = x.mem (K.write (65280 + x.s.r.c) x.s.r.a x.m) := by rw [if_pos (show isP o.kind = true from ah o_m)]; unfold jC; simp only [e8, hk]; rfl
  exact EV rfl (.cons _ sR_) ⟨cA_ Value.bool (ah o_m : isP o.kind = true).symm, G0, y_s, y_2⟩
 ·refine ZDu ?_
  refine ZB2 ?_
  refine ZBy ?_
  refine ZB2 ?_
  refine ZBy ?_
  refine ZB2 ?_
  refine ZAS ?_
  refine A_20 ?_
  refine ZEN ?_
  refine ZA0 ?_
  refine ZAS ?_
  refine A_10 ?_
  refine ZCU fun G0 hG0 => ?_
  refine ZB6 ?_
  refine RZ (xS_ (l' := cN K { x.s with r := { x.s.r with a := (K.read o.n x.m).1 } }) 1) rfl (ZCd ?_)
  have e8 : place o x = (o.n, x) := by unfold place; simp only [hk]; rfl
  have e9 : (if isP o.kind = true then jC K.toaSX o x else x) = ⟨{ x.s with r := { x.s.r with a := (K.read o.n x.m).1 } }, (K.read o.n x.m).2⟩ := by rw [if_pos (show isP o.kind = true from ah o_m)]; unfold jC; simp only [e8, hk]; rfl
  exact EV rfl (.cons _ sR_) ⟨cA_ Value.bool (ah o_m : isP o.kind = true).symm, G0, y_s, y_2⟩
 ·refine ZDu ?_
  refine ZB2 ?_
  refine ZBy ?_
  refine ZB2 ?_
  refine ZBy ?_
  refine ZB2 ?_
  refine ZA0 ?_
  refine ZAS ?_
  refine A_18 ?_
  refine ZEN ?_
  refine ZBy ?_
  refine ZBB ?_
  refine ZCF ?_
  rintro _ _ ⟨G0, ⟨rfl, hG0⟩, rfl⟩
  refine ZB2 ?_
  have e8 : place o x = (o.n, x) := by unfold place; simp only [hk]; rfl
  have e9 : (if isP o.kind = true then jC K.toaSX o x else x) = x.mem (K.write o.n x.s.r.a x.m) := by rw [if_pos (show isP o.kind = true from ah o_m)]; unfold jC; simp only [e8, hk]; rfl
  exact EV rfl (.cons _ sR_) ⟨cA_ Value.bool (ah o_m : isP o.kind = true).symm, G0, y_s, y_2⟩
 refine ZDu ?_
 refine ZB2 ?_
 refine ZBy ?_
 refine ZB2 ?_
 refine ZBy ?_
 refine ZB2 ?_
 refine ZBy ?_
 refine A_8 ?_
 exact EV rfl (.cons _ sR_) ⟨cA_ Value.bool (cr o_m : isP o.kind = false).symm, G, by rw [if_neg y_cZ], by rw [if_neg y_cZ]; exact hG⟩
def aMk {β : Type} (K : jV prog β) (rb : Nat) {bn : Nat} (x : Rn β) (h : RunOk K.toaSY (bn + 4) x) (G : aB) (hG : K.rep x.m G) (o : Opr) (ho : nD o) (w : AI) (hst : St w (rb :: G.map (·.1)) ((rb, blk (cN K x.s) 179) :: G) w) : aC prog 97 [P_ rb, .agg (cO o).toArray] w (rb :: G.map (·.1)) (fun v H => v = .bool (metJ o x) ∧ pC K rb (effJ K.toaSX o x) H) := by
 have hn9 := ho.n
 have hi9 := h.idleK 1
 have hp9 := h.r.pc
 refine dO_ func97 hst ?_
 refine ZDL ?_
 refine ZBz fun b0 => ?_
 refine ZBB ?_
 refine DR [5, 6] (pln [0, 2, 4, 6, 8, 10, 12, 15, 16]) ?_
 refine ZB6 ?_
 refine bU rfl rfl rfl rfl (fun w hw => Row.left (Row.left (dO (l := cN K x.s) m_m w hw))) rfl rfl ?_
 refine ZAn ?_
 refine DZ rfl (aZ K_ rfl (wQ_ (aSC x.s.r h.r o.x))) rfl n_h (ZB6 ?_)
 rcases (show o.kind = 23 ∨ o.kind = 24 ∨ o.kind = 25 ∨ o.kind = 26 ∨ o.kind = 27 ∨ o.kind = 28 ∨ o.kind = 29 ∨ (o.kind < 23 ∨ 29 < o.kind) by omega) with hk | hk | hk | hk | hk | hk | hk | hk
 ·refine ZBB ?_
  refine ZAA ?_
  refine A_18 ?_
  refine ZAS ?_
  refine A_10 ?_
  refine KC (fun q0 z0 => ?_) (fun q0 z0 => ?_)
  ·refine ZBx ?_
   refine ZAm fun e7 => ?_
   have e8 : metJ o x = false := by unfold metJ; rw [(ah o_m : decide (23 ≤ o.kind ∧ o.kind ≤ 26) = true)]; simpa using q0
   exact ZDj
  refine A_24 ?_
  refine ZAS ?_
  refine A_8 ?_
  refine ZAx fun G0 hG0 => ?_
  refine ZBR ?_
  refine DR [6, 7, 8, 9] (pln [0, 2, 4, 6, 8, 10, 12, 14, 16, 18, 20, 22, 24, 26, 28, 31]) ?_
  refine A_8 ?_
  refine DW (v := (.int .i8 (s8 (o.n % 256)))) rfl (dM rfl rfl rfl) rfl (cA_ _ (aNW _)) (DW (v := (.int .u16 (s8 (o.n % 256) % 65536))) rfl (dM rfl rfl rfl) rfl (cA_ _ (eT _)) (DW (v := (.int .u16 ((x.s.r.pc + s8 (o.n % 256)) % 65536))) rfl (jI rfl rfl) rfl (cA_ _ ((eT _).trans (show (x.s.r.pc + s8 (o.n % 256) % 65536) % 65536 = (x.s.r.pc + s8 (o.n % 256)) % 65536 by omega))) (ZB6 ?_)))
  refine DZ rfl (xS_ (l' := cN K { (idles K.toaSX 1 x).s with r := { (idles K.toaSX 1 x).s.r with pc := (x.s.r.pc + s8 (o.n % 256)) % 65536 } }) 1) rfl n_h (c_u ?_)
  refine ZDR ?_
  refine ZCc fun e7 e8 => ?_
  have e9 : effJ K.toaSX o x = goto ((x.s.r.pc + s8 (o.n % 256)) % 65536) (idles K.toaSX 1 x) := by unfold effJ; rw [e7, e8]; simp only [Bool.true_eq_false, if_false]; simp only [hk]; rfl
  exact EV rfl (.cons _ sR_) ⟨cA_ Value.bool e8.symm, G0, y_s, y_2⟩
 ·refine ZBB ?_
  refine ZAA ?_
  refine A_18 ?_
  refine ZBQ ?_
  refine ZAS ?_
  refine A_10 ?_
  refine KC (fun q0 z0 => ?_) (fun q0 z0 => ?_)
  ·refine ZBx ?_
   refine ZAm fun e7 => ?_
   have e8 : metJ o x = false := by unfold metJ; rw [(ah o_m : decide (23 ≤ o.kind ∧ o.kind ≤ 26) = true)]; simpa using q0
   exact ZDj
  refine A_24 ?_
  refine ZAA ?_
  refine ZDR ?_
  refine ZAS ?_
  refine A_8 ?_
  refine ZAx fun G0 hG0 => ?_
  refine A_9 ?_
  refine RZ (xS_ (l' := cN K { (idles K.toaSX 1 x).s with r := { (idles K.toaSX 1 x).s.r with pc := o.n } }) 1) rfl (c_u ?_)
  refine ZDR ?_
  refine ZCc fun e7 e8 => ?_
  have e9 : effJ K.toaSX o x = goto o.n (idles K.toaSX 1 x) := by unfold effJ; rw [e7, e8]; simp only [Bool.true_eq_false, if_false]; simp only [hk]; rfl
  exact EV rfl (.cons _ sR_) ⟨cA_ Value.bool e8.symm, G0, y_s, y_2⟩
 ·refine ZBB ?_
  refine ZAA ?_
  refine A_18 ?_
  refine ZEN ?_
  refine ZAS ?_
  refine A_10 ?_
  refine KC (fun q0 z0 => ?_) (fun q0 z0 => ?_)
  ·refine ZBx ?_
   refine ZAm fun e7 => ?_
   have e8 : metJ o x = false := by unfold metJ; rw [(ah o_m : decide (23 ≤ o.kind ∧ o.kind ≤ 26) = true)]; simpa using q0
   exact ZDj
  refine A_24 ?_
  refine ZAA ?_
  refine ZEO ?_
  refine A_8 ?_
  refine ZAS ?_
  refine A_10 ?_
  refine ZAx fun G0 hG0 => ?_
  refine ZDw ?_
  refine ZBZ fun G1 hG1 => ?_
  refine ZDW ?_
  refine c_u ?_
  refine ZDR ?_
  refine ZCc fun e7 e8 => ?_
  exact ZCI
 ·refine ZBB ?_
  refine ZAS ?_
  refine ZB2 ?_
  refine KC (fun q0 z0 => ?_) (fun q0 z0 => ?_)
  ·refine ZAn ?_
   refine ZAx fun G0 hG0 => ?_
   refine A_11 ?_
   refine ZEN ?_
   refine ZA0 ?_
   refine ZAS ?_
   refine A_8 ?_
   refine KC (fun q1 z1 => ?_) (fun q1 z1 => ?_)
   ·refine ZBx ?_
    have e7 : (if o.kind = 26 ∧ o.x ≠ 4 then idles K.toaSX 1 x else x) = (idles K.toaSX 1 x) := if_pos o_m
    have e8 : metJ o x = false := by unfold metJ; rw [(ah o_m : decide (23 ≤ o.kind ∧ o.kind ≤ 26) = true)]; simpa using q1
    have e9 : effJ K.toaSX o x = (idles K.toaSX 1 x) := by unfold effJ; rw [e7, e8]; rfl
    exact EV rfl (.cons _ sR_) ⟨cA_ Value.bool e8.symm, G0, y_s, y_2⟩
   refine A_24 ?_
   refine ZAA ?_
   refine ZEO ?_
   refine ZDu ?_
   refine ZEO ?_
   refine ZDR ?_
   refine ZAS ?_
   refine A_9 ?_
   refine RX (aS (F := [(b0, _)]) (A := (rb, _) :: _) K_ rfl (wL_ (aAk K rb (idles K.toaSX 1 x) (h.idleK 1) G0 hG0))) rfl (ZBZ fun G1 hG1 => ?_)
   refine ZB6 ?_
   refine RZ (xS_ (l' := cN K { (pop K.toaSX (idles K.toaSX 1 x)).2.s with r := { (pop K.toaSX (idles K.toaSX 1 x)).2.s.r with pc := (pop K.toaSX (idles K.toaSX 1 x)).1 } }) 1) rfl (ZEj ?_)
   refine RX (aS (F := [(b0, _)]) (A := (rb, _) :: _) K_ rfl (wL_ (ridle_fn K rb 1 y_b (goto (pop K.toaSX (idles K.toaSX 1 x)).1 (pop K.toaSX (idles K.toaSX 1 x)).2) ((RunOk.pop (h.idleK 1)).1.reg ((RunOk.pop (h.idleK 1)).1.r.pc_ (RunOk.pop (h.idleK 1)).2)) G1 hG1))) rfl ?_
   rintro _ _ ⟨_, ⟨rfl, G2, rfl, hG2⟩, rfl⟩
   refine ZDR ?_
   have e7 : (if o.kind = 26 ∧ o.x ≠ 4 then idles K.toaSX 1 x else x) = (idles K.toaSX 1 x) := if_pos o_m
   have e8 : metJ o x = true := by unfold metJ; rw [(ah o_m : decide (23 ≤ o.kind ∧ o.kind ≤ 26) = true)]; simpa using q1
   have e9 : effJ K.toaSX o x = idles K.toaSX 1 (goto (pop K.toaSX (idles K.toaSX 1 x)).1 (pop K.toaSX (idles K.toaSX 1 x)).2) := by unfold effJ; rw [e7, e8]; simp only [Bool.true_eq_false, if_false]; simp only [hk]; rfl
   exact EV rfl (.cons _ sR_) ⟨cA_ Value.bool e8.symm, G2, y_s, by rw [e9]; exact hG2⟩
  refine A_11 ?_
  refine ZEN ?_
  refine ZA0 ?_
  refine ZAS ?_
  refine A_8 ?_
  refine KC (fun q1 z1 => ?_) (fun q1 z1 => ?_)
  ·refine ZBx ?_
   refine ZAm fun e7 => ?_
   have e8 : metJ o x = false := by unfold metJ; rw [(ah o_m : decide (23 ≤ o.kind ∧ o.kind ≤ 26) = true)]; simpa using q1
   exact ZDj
  refine A_24 ?_
  refine ZAA ?_
  refine ZEO ?_
  refine ZDu ?_
  refine ZEO ?_
  refine ZDR ?_
  refine ZAS ?_
  refine A_9 ?_
  refine RX (aS (F := [(b0, _)]) (A := (rb, _) :: _) K_ rfl (wL_ (aAk K rb x h G hG))) rfl (ZAg fun G0 hG0 => ?_)
  refine ZB6 ?_
  refine RZ (xS_ (l' := cN K { (pop K.toaSX x).2.s with r := { (pop K.toaSX x).2.s.r with pc := (pop K.toaSX x).1 } }) 1) rfl (ZEj ?_)
  refine RX (aS (F := [(b0, _)]) (A := (rb, _) :: _) K_ rfl (wL_ (ridle_fn K rb 1 y_b (goto (pop K.toaSX x).1 (pop K.toaSX x).2) ((RunOk.pop h).1.reg ((RunOk.pop h).1.r.pc_ (RunOk.pop h).2)) G0 hG0))) rfl (ZBZ fun G1 hG1 => ?_)
  refine ZDR ?_
  refine ZAm fun e7 => ?_
  have e8 : metJ o x = true := by unfold metJ; rw [(ah o_m : decide (23 ≤ o.kind ∧ o.kind ≤ 26) = true)]; simpa using q1
  have e9 : effJ K.toaSX o x = idles K.toaSX 1 (goto (pop K.toaSX x).1 (pop K.toaSX x).2) := by unfold effJ; rw [e7, e8]; simp only [Bool.true_eq_false, if_false]; simp only [hk]; rfl
  exact EV rfl (.cons _ sR_) ⟨cA_ Value.bool e8.symm, G1, y_s, y_5⟩
 ·refine ZBB ?_
  refine ZAA ?_
  refine A_18 ?_
  refine ZEN ?_
  refine ZBy ?_
  refine A_27 ?_
  refine ZAA ?_
  refine ZEO ?_
  refine ZDu ?_
  refine ZDR ?_
  refine ZAS ?_
  refine A_9 ?_
  refine RZ (xS_ (l' := cN K { x.s with ime := true }) 1) rfl (ZCd ?_)
  refine RX (aS (F := [(b0, _)]) (A := (rb, _) :: _) K_ rfl (wL_ (aAk K rb (⟨{ x.s with ime := true }, x.m⟩ : Rn _) (⟨h.r, h.m⟩ : RunOk K.toaSY _ (⟨{ x.s with ime := true }, x.m⟩ : Rn _)) G hG))) rfl (ZAg fun G0 hG0 => ?_)
  refine ZB6 ?_
  refine RZ (xS_ (l' := cN K { (pop K.toaSX (⟨{ x.s with ime := true }, x.m⟩ : Rn _)).2.s with r := { (pop K.toaSX (⟨{ x.s with ime := true }, x.m⟩ : Rn _)).2.s.r with pc := (pop K.toaSX (⟨{ x.s with ime := true }, x.m⟩ : Rn _)).1 } }) 1) rfl (ZEj ?_)
  refine RX (aS (F := [(b0, _)]) (A := (rb, _) :: _) K_ rfl (wL_ (ridle_fn K rb 1 y_b (goto (pop K.toaSX (⟨{ x.s with ime := true }, x.m⟩ : Rn _)).1 (pop K.toaSX (⟨{ x.s with ime := true }, x.m⟩ : Rn _)).2) ((RunOk.pop (⟨h.r, h.m⟩ : RunOk K.toaSY (bn + 1 + 1 + 2) (⟨{ x.s with ime := true }, x.m⟩ : Rn _))).1.reg ((RunOk.pop (⟨h.r, h.m⟩ : RunOk K.toaSY (bn + 1 + 1 + 2) (⟨{ x.s with ime := true }, x.m⟩ : Rn _))).1.r.pc_ (RunOk.pop (⟨h.r, h.m⟩ : RunOk K.toaSY (bn + 1 + 1 + 2) (⟨{ x.s with ime := true }, x.m⟩ : Rn _))).2)) G0 hG0))) rfl (ZBZ fun G1 hG1 => ?_)
  refine ZDR ?_
  refine ZBa fun e7 e8 => ?_
  have e9 : effJ K.toaSX o x = idles K.toaSX 1 (goto (pop K.toaSX (⟨{ x.s with ime := true }, x.m⟩ : Rn _)).1 (pop K.toaSX (⟨{ x.s with ime := true }, x.m⟩ : Rn _)).2) := by unfold effJ; rw [e7, e8]; simp only [Bool.true_eq_false, if_false]; simp only [hk]; rfl
  exact EV rfl (.cons _ sR_) ⟨cA_ Value.bool e8.symm, G1, y_s, y_5⟩
 ·refine ZBB ?_
  refine ZAA ?_
  refine A_18 ?_
  refine ZEN ?_
  refine ZBy ?_
  refine A_27 ?_
  refine ZAA ?_
  refine ZEO ?_
  refine A_8 ?_
  refine ZA0 ?_
  refine ZAS ?_
  refine A_8 ?_
  refine ZAx fun G0 hG0 => ?_
  refine ZDw ?_
  refine ZBZ fun G1 hG1 => ?_
  refine ZDW ?_
  refine c_u ?_
  refine ZDR ?_
  refine ZBa fun e7 e8 => ?_
  exact ZCI
 ·refine ZBB ?_
  refine ZAA ?_
  refine A_18 ?_
  refine ZEN ?_
  refine ZBy ?_
  refine A_27 ?_
  refine ZAA ?_
  refine ZEO ?_
  refine ZDu ?_
  refine ZEO ?_
  refine ZEO ?_
  refine ZB2 ?_
  refine ZAS ?_
  refine A_8 ?_
  refine RLv K_ (fun w hw => rpair_fn K rb x.s h.r w (aA (l := cN K x.s) m_m w hw) 2) ?_
  refine ZB6 ?_
  refine RZ (xS_ (l' := cN K { x.s with r := { x.s.r with pc := bD x.s.r 2 } }) 1) rfl (c_u ?_)
  refine ZDR ?_
  refine ZBa fun e7 e8 => ?_
  have e9 : effJ K.toaSX o x = goto (bD x.s.r 2) x := by unfold effJ; rw [e7, e8]; simp only [Bool.true_eq_false, if_false]; simp only [hk]; rfl
  exact EV rfl (.cons _ sR_) ⟨cA_ Value.bool e8.symm, G, y_s, y_dT⟩
 refine ZBB ?_
 refine ZAA ?_
 refine A_18 ?_
 refine ZEN ?_
 refine ZBy ?_
 refine A_27 ?_
 refine ZAA ?_
 refine ZEO ?_
 refine ZDu ?_
 refine ZEO ?_
 refine ZEO ?_
 refine ZB2 ?_
 refine ZAA ?_
 refine A_10 ?_
 refine ZBa fun e7 e8 => ?_
 have e9 : effJ K.toaSX o x = x := by unfold effJ; rw [e7, e8]; simp only [Bool.true_eq_false, if_false]; repeat rw [if_neg o_m]
 exact EV rfl (.cons _ sR_) ⟨cA_ Value.bool e8.symm, G, y_s, y_dT⟩
end Go.Proofs.YtdbgagkcgdlnnaaGreat
