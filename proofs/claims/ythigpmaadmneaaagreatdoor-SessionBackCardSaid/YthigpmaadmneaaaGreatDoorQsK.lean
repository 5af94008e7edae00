/- Parts. -/
import Derived.Test.YthigpmaadmneaaaGreatDoorQsJ
set_option maxRecDepth 100000
set_option maxHeartbeats 1000000
set_option linter.all false
namespace Go.Proofs.YthigpmaadmneaaaGreatDoor.Hs
open Go Go.VV Go.Proofs Go.Proofs.Tryz
def _root_.Go.VV.Rz1 {p : Prop} (h : p := by rw [bQ (b := [x.kind % 256])]; simp only [eF, ax]; omega) : p := h
def _root_.Go.VV.Rz2 {p : Prop} (h : p := by rw [bQ (b := [x.kind % 256])]; rfl) : p := h
def _root_.Go.VV.Rz3 {p q : Prop} (k_ : q) (h : T_ q p := by
 intro k_
 exact DX U (eO (F := []) (A := (b6, J ([x.at_, x.to, x.back].map (.int .u16)) 93) :: G4) (G := [(lb, .loop (busy rec)), (b4, J (Hs.cC x) 197), (bx, J [(.slice a21 cs.length c0)] 136), (b3, J [(.slice ao (leW [(cs.length : Int) % 65536] ++ lastB callB cs i).length co)] 22), (b1, J [(.slice a21 cs.length c0)] 136)] ++ G1) K_ U (uG (swords_fn _ (leW [(cs.length : Int) % 65536] ++ lastB callB cs i ++ [x.kind % 256]) G4 (hV2.as Rz2 aAO) [x.at_, x.to, x.back] hwx b6 3 Rz1))) U aW (k_.u)) := h ⟨k_⟩
def new_fn (n : Int) (w : AI) :
  aG prog 21 [.int .i64 n] w [] (fun v H => ∃ b, v = P_ b ∧ HistH b (max 1 (min n 32)).toNat 0 [] (List.replicate 32 r0) H) := by
 refine aT func21 ?_
 refine gF ?_
 refine RY (vD U U) U (RY (Cz U U) U (RY (rV (z := hC (.slice none 0 0) (List.replicate 32 r0) 0 0) (l := hC (.slice none 0 0) (List.replicate 32 r0) (max 1 (min n 32)) 0) U aO U aO) U (RX (eM U U) U ?_)))
 rintro _ _ ⟨b7, rfl, rfl⟩
 refine bU ?_
 exact EV U aJ ⟨_, U, _, [], by rw [d6 I]; rfl, .nil, kW⟩
def Tc (b c j : Nat) (cs : List Cll) (sp : AA) (hlen : cs.length < 1000000000) (hc : cs.length ≤ c) (hsz : (aN cC cs ++ sp).length = c * 5) (h2 : 1 ≤ j) (hj : j ≤ cs.length) (w : AI) (hb : w.heap[b]? = some (J (aN cC cs ++ sp) 197)) :
  aG prog 215 [.slice (Q_ b) cs.length c, .int .i64 0, .int .i64 j] w [b] (fun v H => v = .slice (Q_ b) (cs.drop j).length c ∧ ∃ sp', (aN cC (cs.drop j) ++ sp').length = c * 5 ∧ H = [(b, J (aN cC (cs.drop j) ++ sp') 197)]) := by
 refine yI func215 U U U (St.lent1 hb) ?_
 refine cL ?_
 refine RY fY U (RY (aBx (s := 5) 0 j cs.length U U U U U U U U I hj hc) U (dO ?_))
 refine gO false U U U lA ?_
 refine dO ?_
 refine RY fY U (bU ?_)
 refine DR [] (bW [0, 2, 4, 6, 8, 10, 13, 14]) ?_
 refine aU ?_
 refine DW (v := (.slice (Q_ b) 0 c)) U (wG (s := 5) 0 0 U U U U U U I I) U (aCw b 0 5 0 c) (aU ?_)
 refine DY U (wG (s := 5) j cs.length U U U U U U hj hc) U (DZ U (aDr (n := 0) (m := cs.length - j) (T := 197) (s := 5) (by_ := 24) (ys := aN cC (cs.drop j)) 0 U U U U U (fun w hw => .row _ _ _ _ _ (by rw [gM cC_len, dN]) (aGR cC_len (aH (.head _) w hw) hj hc)) (Vf O4 _) I (Qz cC_len cs sp j)) U aW (dO ?_))
 refine RY fY U (bG ?_)
 refine RW (v := (.slice (some ⟨b, (cs.length - j) * 5, none⟩) j (c - (cs.length - j)))) (wG (s := 5) (cs.length - j) cs.length U U U U aL U I hc) U (aJ5 I I) (W (aCK (s := 5) (z := [.int .i64 0, .int .i64 0, .int .u16 0, .int .u16 0, .int .u16 0]) 0 U U U U U U U I (by rw [yQ (Qz cC_len cs sp j), hsz]; simp only [eF, ax]; omega)) U (gF ?_))
 obtain ⟨sp', hsp⟩ := aNv cC_len cs sp (mG (j * 5) [.int .i64 0, .int .i64 0, .int .u16 0, .int .u16 0, .int .u16 0]) hj
 refine iU (fun _ _ => Cy U) aJ ⟨by rw [dN, cg], sp', ?_, by rw [← hsp]; rfl⟩
 rw [← hsp, yQ (by rw [yQ (Qz cC_len cs sp j), hsz, Zv]; omega), yQ (Qz cC_len cs sp j), hsz]
def Xg (b keep noted : Nat) (cs : List Cll) (ring : List Rcd) (hcl : cs.length ≤ 256) (G : aF) (w : AI) (hL : HistH b keep noted cs ring G) (hst : St w (G.map (·.1)) G w) (x : Cll) :
  aG prog 177 [P_ b, .agg (cC x).toArray] w (G.map (·.1)) (fun v H => v = .tuple #[] ∧ HistH b keep noted (layC cs x) ring H) := by
 obtain ⟨v, GV, rfl, hV, hr⟩ := hL
 obtain ⟨a, c, rfl⟩ := hV.slice
 refine cE func177 hst ?_
 refine aU ?_
 refine RX (eM U U) U ?_
 rintro _ _ ⟨b3, rfl, rfl⟩
 refine aU ?_
 refine DR [5, 6] (bW [0, 2, 4, 6, 8, 10, 13, 15, 16, 18, 21]) ?_
 refine cY ?_
 refine gL U U U U Le U U ?_
 refine DX U (eQ U U U U U U) U tM ?_
 rintro _ _ ⟨b11, rfl, rfl⟩
 refine jC (H' := [(b11, J (cC x) 197), (b3, J (cC x) 197), (b, _)] ++ GV) (fun _ h => h) ?_
 refine DX U (vN (A := [(b11, J (cC x) 197), (b3, J (cC x) 197), (b, _)]) (G := GV) (n := cs.length) (m := 1) (T := 197) (s := 5) (by_ := 24) (ys := cC x) U U U U hV (fun w hw => .row _ _ _ _ _ U (aH (.head _) w hw)) U I I) U aW ?_
 rintro v12 _ ⟨G12, hV12, hn12, rfl⟩
 refine jC (H' := (b, _) :: G12) (fun _ h => St.fl [G12, [_], [_], [_]] [3, 0] U h) ?_
 rw [← wS] at hV12
 have hl12 : cs.length + 1 = (cs ++ [x]).length := by simp
 rw [hl12] at hV12
 obtain ⟨bc, cc, sc, rfl, rfl, hz, hlc, hxc⟩ := hV12.full aL
 refine aU ?_
 refine DZ U (hQ 0 U U U U U U Lu) U aW ?_
 simp only [ak]
 rw [Ix]
 refine gF ?_
 refine RY fY U (RW (v := (.int .i64 (((cs ++ [x]).length : Int) - 256))) U U (aD _ (bY I I)) (gF ?_))
 refine KC (fun h1 h1n => ?_) (fun h1 h1n => ?_)
 ·refine dO ?_
  refine RW (v := (.int .i64 ((1 : Nat) : Int))) U U (aD _ (by rw [bQ, az] at *; (try simp only [al, ah, ci, aq, cr, ar, ne_eq] at *); omega)) (cZ (H' := [(bc, _)] ++ [(b, _)]) (fun _ h => St.fl [[_], [_]] [1, 0] U h) ?_)
  refine RX (kM (A := [(bc, _)]) (G := [(b, _)]) [bc] K_ U aL (fun w hw => Tc bc cc 1 (cs ++ [x]) sc I hlc hz I aL w (hw.holds _ (.head _)))) U ?_
  rintro _ _ ⟨_, ⟨rfl, sp9, hz9, rfl⟩, rfl⟩
  refine aU ?_
  refine W (hQ 1 U U U U U U Lu) U ?_
  try simp only [ak, bf]
  rw [Ix]
  refine bG ?_
  exact lC (fun _ _ => nK) (fun _ h => St.fl [[_], [_]] [1, 0] U h) ⟨U, _, [_], U, by rw [aHh I aM]; exact bM.all_ cC_len hz9 (by rw [dN]; omega) hxc, hr⟩
 refine bG ?_
 exact EN aJ ⟨U, _, [_], U, by rw [aIE aM]; exact bM.all_ cC_len hz hlc hxc, hr⟩
def aOf (b keep noted : Nat) (cs : List Cll) (ring : List Rcd) (hcl : cs.length ≤ 256) (G : aF) (w : AI) (hL : HistH b keep noted cs ring G) (hst : St w (G.map (·.1)) G w) (s : Stp) (hs : StpOk s) :
  aG prog 178 [P_ b, .int .i64 s.bank, .agg (cD s).toArray, .int .u16 s.to] w (G.map (·.1)) (fun v H => v = .tuple #[] ∧ HistH b keep noted (pJ cs s) ring H) := by
 obtain ⟨v, GV, rfl, hV, hr⟩ := hL
 obtain ⟨a, c, rfl⟩ := hV.slice
 refine cE func178 hst ?_
 refine aU ?_
 refine RX (eM U U) U ?_
 rintro _ _ ⟨b6, rfl, rfl⟩
 refine lS ?_
 refine RW (v := (.int .u16 (backOf s))) U U (aD _ (L6 hs)) (RS ?_)
 refine RX (gG U) U ?_
 rintro _ _ ⟨b8, rfl, rfl⟩
 refine W iB U (J6 ?_)
 refine KC (fun h1 h1n => ?_) (fun h1 h1n => ?_)
 ·refine cY ?_
  refine W iB U (dO ?_)
  refine KC (fun h2 h2n => ?_) (fun h2 h2n => ?_)
  ·refine aU ?_
   refine W (bX U U U sK) U (cZ (fun _ h => h.sub (.cons _ (.cons _ aJ))) ?_)
   refine RX (gY K_ U (fun w hw => Xg b keep noted cs ring hcl _ w ⟨_, _, U, hV, hr⟩ (St.lentA hw) ⟨1, s.bank, s.at_, s.to, backOf s⟩)) U ?_
   rintro _ H9 ⟨rfl, hH9⟩
   refine aU ?_
   exact EN aJ ⟨U, by rw [aGh aM aM]; exact hH9⟩
  refine aU ?_
  exact lC (fun _ _ => nK) (fun _ h => h.sub (.cons _ (.cons _ aJ))) ⟨U, by rw [aJO aM aM]; exact ⟨_, _, rfl, hV, hr⟩⟩
 refine gF ?_
 refine KC (fun h3 h3n => ?_) (fun h3 h3n => ?_)
 ·refine cY ?_
  refine W iB U (bU ?_)
  refine W (bX U U U sK) U (cZ (fun _ h => h.sub (.cons _ (.cons _ aJ))) ?_)
  refine RX (gY K_ U (fun w hw => Xg b keep noted cs ring hcl _ w ⟨_, _, U, hV, hr⟩ (St.lentA hw) ⟨2, s.bank, s.at_, s.to, backOf s⟩)) U ?_
  rintro _ H9 ⟨rfl, hH9⟩
  refine aU ?_
  exact EN aJ ⟨U, by rw [aNw aM]; exact hH9⟩
 refine gF ?_
 refine KC (fun h4 h4n => ?_) (fun h4 h4n => ?_)
 ·refine gF ?_
  refine KC (fun h5 h5n => ?_) (fun h5 h5n => ?_)
  ·refine bG ?_
   exact lC (fun _ _ => nK) (fun _ h => h.sub (.cons _ (.cons _ aJ))) ⟨U, by rw [aMT aM Va]; exact ⟨_, _, rfl, hV, hr⟩⟩
  refine bA ?_
  refine RY fY U (gF ?_)
  refine KC (fun h6 h6n => ?_) (fun h6 h6n => ?_)
  ·obtain ⟨bv, cv, sv, hv9, rfl, hzv, hlv, hxv⟩ := hV.full aM
   cases hv9
   refine gF ?_
   refine RW (v := (.int .i64 ((cs.length - 1 : Nat) : Int))) U U (aD _ aFq) (RW (v := (.slice (Q_ bv) cs.dropLast.length c)) (wG (s := 5) 0 (cs.length - 1) U U U U U U I I) U aBf (aU ?_))
   refine W (hQ 2 U U U U U U Lu) U ?_
   simp only [ak, bf]
   rw [Ix]
   refine aU ?_
   exact lC (fun _ _ => nK) (fun _ h => h.sub (.cons _ (.cons _ aJ))) ⟨U, by rw [aC0 aM Va]; exact ⟨_, [_], rfl, aAG aM hzv hlv hxv, hr⟩⟩
  refine aU ?_
  exact lC (fun _ _ => nK) (fun _ h => h.sub (.cons _ (.cons _ aJ))) ⟨U, by rw [aC0 aM Va, Z9 aM]; exact ⟨_, _, rfl, hV, hr⟩⟩
 refine dO ?_
 refine KC (fun h7 h7n => ?_) (fun h7 h7n => ?_)
 ·refine bA ?_
  refine RY fY U (gF ?_)
  refine KC (fun h8 h8n => ?_) (fun h8 h8n => ?_)
  ·obtain ⟨bv, cv, sv, hv9, rfl, hzv, hlv, hxv⟩ := hV.full aM
   cases hv9
   refine gF ?_
   refine RW (v := (.int .i64 ((cs.length - 1 : Nat) : Int))) U U (aD _ aFq) (RW (v := (.slice (Q_ bv) cs.dropLast.length c)) (wG (s := 5) 0 (cs.length - 1) U U U U U U I I) U aBf (aU ?_))
   refine W (hQ 2 U U U U U U Lu) U ?_
   simp only [ak, bf]
   rw [Ix]
   refine aU ?_
   exact lC (fun _ _ => nK) (fun _ h => h.sub (.cons _ (.cons _ aJ))) ⟨U, by rw [aAJ aM]; exact ⟨_, [_], rfl, aAG aM hzv hlv hxv, hr⟩⟩
  refine aU ?_
  exact lC (fun _ _ => nK) (fun _ h => h.sub (.cons _ (.cons _ aJ))) ⟨U, by rw [aAJ aM, Z9 aM]; exact ⟨_, _, rfl, hV, hr⟩⟩
 refine aU ?_
 exact lC (fun _ _ => nK) (fun _ h => h.sub (.cons _ (.cons _ aJ))) ⟨U, by rw [aGP aM aM aM aM]; exact ⟨_, _, rfl, hV, hr⟩⟩
def note_fn (b keep noted : Nat) (cs : List Cll) (ring : List Rcd) (hk1 : 1 ≤ keep) (hk2 : keep ≤ 32) (hnt : noted < 1000000000) (hcl : cs.length ≤ 256) (G : aF) (w : AI) (hL : HistH b keep noted cs ring G) (hst : St w (G.map (·.1)) G w) (s : Stp) (hs : StpOk s) :
  aG prog 143 [P_ b, .int .u64 s.n, .int .i64 s.bank, .agg (cD s).toArray, .int .u16 s.to] w (G.map (·.1)) (fun v H => v = .tuple #[] ∧ HistH b keep (noted + 1) (noteC cs s) (ring.set (noted % keep) (recOf s)) H) := by
 obtain ⟨v, GV, rfl, hV, hr⟩ := hL
 obtain ⟨a, c, rfl⟩ := hV.slice
 have hm32 : noted % keep < 32 := ef (io _ I) hk2
 have hr2 : (ring.set (noted % keep) (recOf s)).length = 32 := by rw [cy]; exact hr
 refine cE func143 hst ?_
 refine aU ?_
 refine RX (eM U U) U ?_
 rintro _ _ ⟨b8, rfl, rfl⟩
 refine cL ?_
 refine DR [5, 6, 7, 8, 10, 11, 12, 13, 14, 15, 16, 17, 18, 19, 20] (bW [0, 2, 4, 6, 8, 10, 12, 14, 16, 18, 20, 22, 24, 26, 28, 30, 32, 34, 36, 38, 40, 42, 45]) ?_
 refine eK ?_
 refine DL U U U (eN aE (H7 hr)) U (bU ?_)
 refine DL U U U (eN aE (aD9 hr)) U (DW (v := (.int .i64 ((noted % keep : Nat) : Int))) U (tU U U I) U (aD _ Vv) (gF ?_))
 refine gL U U U U Le U U ?_
 refine DY U (rV U U U U) U (aU ?_)
 refine DY U (iP (s := 9) (noted % keep) U U U U hm32) U (DZ U (hQ (vs := cR (recOf s)) 1 U U U U U U (by rw [hC_len hr, cR_len]; omega)) U aW ?_)
 simp only [ak, bf]
 rw [show 0 + 1 + noted % keep * 9 = 1 + noted % keep * 9 by omega, aOP hr hm32]
 refine dO ?_
 refine W (aX U U (bN aE (H7 hr2))) U (RW (v := (.int .i64 ((noted + 1 : Nat) : Int))) U U (aD _ (eX I)) (aU ?_))
 refine W (hQ 1 U U U U U U (by rw [hC_len hr2]; simp)) U ?_
 simp only [ak, bf]
 rw [show 0 + 290 = 290 from rfl, aJ6 hr2]
 refine fJ ?_
 refine KC (fun h1 h1n => ?_) (fun h1 h1n => ?_)
 ·refine bA ?_
  refine RS ?_
  refine cZ (fun _ h => h.sub (.cons _ aJ)) ?_
  refine RX (gY K_ U (fun w hw => Xg b keep (noted + 1) cs (ring.set (noted % keep) (recOf s)) hcl _ w ⟨_, _, U, hV, hr2⟩ (St.lentA hw) ⟨3, s.bank, s.at_, s.to, s.at_⟩)) U ?_
  rintro _ H9 ⟨rfl, hH9⟩
  refine bG ?_
  exact EN aJ ⟨U, by rw [aMy aM]; exact hH9⟩
 refine cY ?_
 refine KC (fun h2 h2n => ?_) (fun h2 h2n => ?_)
 ·refine bU ?_
  refine W (bX U U U (by first | exact aH aE | exact uY aE _ 9 rfl)) U (bG ?_)
  refine cZ (fun _ h => h.sub (.cons _ aJ)) ?_
  refine RX (gY K_ U (fun w hw => aOf b keep (noted + 1) cs (ring.set (noted % keep) (recOf s)) hcl _ w ⟨_, _, U, hV, hr2⟩ (St.lentA hw) s hs)) U ?_
  rintro _ H9 ⟨rfl, hH9⟩
  refine bG ?_
  exact EN aJ ⟨U, by rw [aOF aM]; exact hH9⟩
 refine bG ?_
 exact lC (fun _ _ => nK) (fun _ h => h.sub (.cons _ aJ)) ⟨U, by rw [aLD aM aM]; exact ⟨_, _, rfl, hV, hr2⟩⟩
def xX (a : AC) (c : Nat) (cs : List Cll) (hlen : cs.length < 1000000000) (w : AI) (hS : Gf w cC a cs) :
  aG prog 74 [.slice a cs.length c] w [] (fun v H => bM 197 5 v cs.length (aN cC cs) H) := by
 refine aT func74 ?_
 refine dO ?_
 rcases hS with ⟨rfl, rfl⟩ | ⟨bs, os, rfl, hr⟩
 ·refine cL ?_
  exact E0 U .nil
 refine bA ?_
 refine RX (Kd (el := 197) (n := 5) U) U ?_
 rintro _ _ ⟨b5, rfl, rfl⟩
 refine bG ?_
 refine RX (vN (A := []) (G := [(b5, J [] 197)]) (v := .slice (Q_ b5) 0 0) (n := 0) (xs := []) (m := cs.length) (T := 197) (s := 5) (by_ := 24) (ys := aN cC cs) U U U U (.row b5 0 0 [] [] U U M (bi 0)) (fun w hw => .row _ _ _ _ _ (gM cC_len cs) (cG hr aL w hw)) (Vf O4 _) I I) U ?_
 rintro v7 _ ⟨G7, hV7, hnil7, rfl⟩
 refine wE (v := v7) U U U ?_
 refine aU ?_
 exact iU (fun _ _ => Jp U) (cj _ _) (hV7.as (cg _) (bq _))
def calls_fn (b keep noted : Nat) (cs : List Cll) (ring : List Rcd) (hcl : cs.length < 1000000000) (w : AI) (hW : HistW w b keep noted cs ring) :
  aG prog 98 [P_ b] w [] (fun v H => bM 197 5 v cs.length (aN cC cs) H) := by
 obtain ⟨⟨a, c, q0, qc, qz, hS, hA⟩, q1, q2, q3, q4⟩ := hW
 refine aT func98 ?_
 refine xN ?_
 refine W (aX U U (cB q0 aL)) U (RX (cQ K_ U (fun w hw => xX a c cs hcl w (hS.later0 hw))) U ?_)
 rintro v9 _ ⟨G9, hV9, rfl⟩
 refine wE (v := v9) U U U ?_
 refine aU ?_
 exact iU (fun _ _ => Jp U) (cj _ _) hV9
def aQG {l : List Stp} {k j : Nat} {s : Stp} (h : (lastL l k)[j]? = some s) : l[l.length - k + j]? = some s := by
 unfold lastL at h; rw [ee] at h; exact h
def records_fn (b keep : Nat) (cs : List Cll) (ring : List Rcd) (l : List Stp) (hk1 : 1 ≤ keep) (hk2 : keep ≤ 32) (hl : l.length < 1000000000) (hR : RingOk keep ring l) (w : AI) (hW : HistW w b keep l.length cs ring) :
  aG prog 101 [P_ b] w [] (fun v H => bM 138 9 v (lastL l keep).length (aN cR ((lastL l keep).map recOf)) H) := by
 obtain ⟨⟨a, c, q0, qc, qz, hS, hA⟩, q1, q2, q3, q4⟩ := hW
 have hll := lastL_len l keep
 refine aT func101 ?_
 refine sJ ?_
 refine DR [4, 5, 6, 7] (bW [0, 2, 4, 6, 8, 10, 12, 14, 16, 18, 20]) ?_
 refine bU ?_
 refine DL U U U (gD q2 aL) U (bU ?_)
 refine DL U U U (gD q1 aL) U (DW (v := (.int .i64 ((l.length : Int) - keep))) U U U (aD _ (bY I I)) (DW (v := (.int .i64 ((l.length - keep + 0 : Nat) : Int))) U (Cz U U) U (aD _ I) (bU ?_)))
 refine dV (σ := Nat × AH × aF) [3, 4, 17, 18, 19, 20, 21, 22, 23, 24, 25, 26, 27, 28, 29, 30, 31, 32, 33, 34, 35, 36, 37, 38] (fun s => [(3, s.2.1), (4, .int .i64 ((l.length - keep + s.1 : Nat) : Int))]) (fun s => s.2.2 ++ []) (fun s => s.1 ≤ (lastL l keep).length ∧ bM 138 9 s.2.1 s.1 (aN cR (((lastL l keep).map recOf).take s.1)) s.2.2) (fun s => (lastL l keep).length - s.1) (0, .slice none 0 0, []) ?_ ?_ ?_ ?_
 ·exact ⟨av _, .nil⟩
 ·exact .cons U (.cons U .nil)
 ·exact fun _ h => h
 rintro ⟨j, v, G⟩ y5 ⟨hj, hV⟩
 dsimp only at hj hV ⊢
 obtain ⟨a3, c3, rfl⟩ := hV.slice
 refine gF ?_
 refine W (aX U U (cB q2 aL)) U (aU ?_)
 refine KC (fun h1 h1n => ?_) (fun h1 h1n => ?_)
 ·refine bU ?_
  obtain ⟨s, hg⟩ : ∃ s, (lastL l keep)[j]? = some s := ⟨_, Pz (by rw [hll]; (try simp only [al, ah, ci, aq, cr, ar, ne_eq] at *); omega)⟩
  have hg2 := aQG hg
  obtain ⟨hi9, hg3⟩ := List.getElem?_eq_some_iff.1 hg2
  have hrg := hR.2 _ hi9 I
  rw [hg3] at hrg
  have hm9 : (l.length - keep + j) % keep < 32 := ef (io _ I) hk2
  refine kG (L' := G) (fun _ h => h.as aL) ?_
  refine DR [8, 9] (bW [0, 2, 4, 6, 8, 10, 12, 14, 16, 18, 20, 22, 25, 27, 28]) ?_
  refine dO ?_
  refine DL U U U (gD q1 aL) U (DW (v := (.int .i64 (((l.length - keep + j) % keep : Nat) : Int))) U (tU U U I) U (aD _ Vv) (aU ?_))
  refine DY U (iP (s := 9) ((l.length - keep + j) % keep) U U U U hm9) U (gL U U U U (Yv (q4 _ _ hrg) aL) U U ?_)
  refine DX U (eQ (z := cR r0) (l := cR (recOf s)) (ps := [(0, .agg (cR (recOf s)).toArray)]) U U U U U aO) U aW ?_
  rintro _ _ ⟨b37, rfl, rfl⟩
  refine DX U (vN (A := [(b37, _)]) (G := G) (v := (.slice a3 j c3)) (n := j) (xs := (aN cR (((lastL l keep).map recOf).take j))) (m := 1) (T := 138) (s := 9) (by_ := 72) (ys := cR (recOf s)) U U U U hV (fun w hw => .row _ _ _ _ _ U (aH (.head _) w hw)) U I I) U aW ?_
  rintro v38 _ ⟨G38, hV38, hn38, rfl⟩
  have hV9 : bM 138 9 v38 (j + 1) (aN cR (((lastL l keep).map recOf).take (j + 1))) G38 := hV38.as rfl (by rw [Ep (show ((lastL l keep).map recOf)[j]? = some (recOf s) by rw [df, hg]; rfl), wS])
  obtain ⟨a9, c9, rfl⟩ := hV9.slice
  refine eK ?_
  refine RW (v := (.int .i64 ((l.length - keep + (j + 1) : Nat) : Int))) U U (aD _ Oz) (aU ?_)
  exact ⟨(j + 1, _, G38), ⟨by rw [hll]; (try simp only [al, ah, ci, aq, cr, ar, ne_eq] at *); omega, hV9⟩, by dsimp only; rw [hll]; (try simp only [al, ah, ci, aq, cr, ar, ne_eq] at *); omega, .cons U (.cons U .nil), bJ, fun _ h => h.sub (aJ.append (du _))⟩
 refine gF ?_
 obtain rfl : j = (lastL l keep).length := by rw [hll]; (try simp only [al, ah, ci, aq, cr, ar, ne_eq] at *); omega
 have ht9 : ((lastL l keep).map recOf).take (lastL l keep).length = (lastL l keep).map recOf := dm aL
 rw [ht9] at hV
 exact EV U (cj _ _) hV
def copy_fn (b keep noted : Nat) (cs : List Cll) (ring : List Rcd) (hcl : cs.length < 1000000000) (w : AI) (hW : HistW w b keep noted cs ring) :
  aG prog 34 [P_ b] w [] (fun v H => ∃ b2, v = P_ b2 ∧ HistH b2 keep noted cs ring H) := by
 obtain ⟨⟨a, c, q0, qc, qz, hS, hA⟩, q1, q2, q3, q4⟩ := hW
 refine aT func34 ?_
 refine Fy ?_
 refine W (bX U U (by rw [hC_len q3]; rfl) (cG hA aL)) U (RX (gG (l := hC (.slice none 0 0) (List.replicate 32 r0) 0 0) aO) U ?_)
 rintro _ _ ⟨b3, rfl, rfl⟩
 refine W (hQ (vs := hC (.slice a cs.length c) ring keep noted) 0 U U U (by rw [hC_len q3]; rfl) aII U (by rw [hC_len q3, hC_len aL]; decide)) U ?_
 simp only [ak]
 rw [Cb (l := hC (.slice none 0 0) (List.replicate 32 r0) 0 0) (vs := hC (.slice a cs.length c) ring keep noted) (by rw [hC_len q3, hC_len aL])]
 refine dO ?_
 refine W (aX U U (cB q0 aL)) U (RX (cQ K_ U (fun w hw => xX a c cs hcl w (hS.later0 hw))) U ?_)
 rintro v13 _ ⟨G13, hV13, rfl⟩
 obtain ⟨a13, c13, rfl⟩ := hV13.slice
 refine bG ?_
 refine cZ (H' := (b3, _) :: G13) (fun _ h => St.fl [G13, [_]] [1, 0] U h) ?_
 refine W (hQ 0 U U U U U U (by rw [hC_len q3]; simp)) U ?_
 simp only [ak]
 rw [Ix]
 refine dO ?_
 exact EV U aJ ⟨b3, U, _, _, U, hV13, q3⟩
end Go.Proofs.YthigpmaadmneaaaGreatDoor.Hs
namespace Go.Proofs.YthigpmaadmneaaaGreatDoor
open Go Go.VV Go.Proofs Go.RowKit Go.Proofs.Tryz
def cSt (at_ y i : Int) (wr : Bool) : AA := [.int .u64 at_, .int .i64 y, .int .i64 i, .bool wr]
def Bl (n : Int) (tab : AH) : AA := [.int .i64 n, .pointer none, .pointer none, .int .u64 0, .slice none 0 0, .pointer none, .map none, .slice none 0 0, .slice none 0 0, .int .u32 0, .int .u64 0, tab]
def aIb (b o : Nat) (cs : AA) (T : AJ) (x s : Int) (hc : cs[o]? = some (.int .u64 x)) (hs : IntKind.u64.wrap (x + 1) = s) (w : AI) (hst : St w [b] [(b, J cs T)] w) : aG prog 144 [.pointer (some ⟨b, o, none⟩), .int .u64 1] w [b] (fun v H => v = .int .u64 s ∧ H = [(b, J (cs.set o (.int .u64 s)) T)]) := by
 refine cE func144 hst ?_
 refine cL ?_
 refine W (aOE (b := b) (off := o) (cs := cs) (T := T) 0 .u64 (x := x) (s := s) func179 aO aO aO aO U U hc (by rw [← hs]; rfl)) U (ZA7 ?_)
 exact EV U aJ ⟨U, U⟩
def Yb (b mb : Nat) (w : AI) (h1 : w.cell? ⟨b, 1, none⟩ = some (P_ mb)) : aG prog 113 [P_ b] w [] (V_ (.bool true)) := by
 refine aT func113 ?_
 refine ZDG ?_
 refine iX ?_
 refine ZBy ?_
 refine W (aX U U (cB h1 aL)) U (iX ?_)
 exact pI
def aBQ (b : Nat) (w : AI) (h1 : w.cell? ⟨b, 1, none⟩ = some (.pointer none)) : aG prog 113 [P_ b] w [] (V_ (.bool false)) := by
 refine aT func113 ?_
 refine ZDG ?_
 refine iX ?_
 refine ZBy ?_
 refine W (aX U U (cB h1 aL)) U (jM ?_)
 exact pI
def Vm (b : Nat) (k y : Int) (w : AI) (h3 : w.cell? ⟨b, 3, none⟩ = some (.int .u64 k)) : aG prog 115 [P_ b, .int .i64 y] w [] (V_ (.tuple #[.agg (cSt k y 0 false).toArray, .int .i64 0])) := by
 refine aT func115 ?_
 refine ZAm ?_
 refine nM fun b0 => ?_
 refine ZDG ?_
 refine W (aX U U (cB h3 aL)) U (ZBE ?_)
 refine RS ?_
 refine W (bH 0) U (ZA7 ?_)
 exact aZ (fun w hw => gK U U U (aH (b := b0) (l := cSt k y 0 false) aE w hw) U) ⟨U, U⟩
def aG8 (b : Nat) (k : Int) (w : AI) (h3 : w.cell? ⟨b, 3, none⟩ = some (.int .u64 k)) : aG prog 18 [P_ b] w [] (V_ (.int .u64 k)) := by
 refine aT func18 ?_
 refine rB ?_
 refine bA ?_
 exact W (aX U U (cB h3 aL)) U fN
def mach_fn (b : Nat) (mb : Nat) (w : AI) (h1 : w.cell? ⟨b, 1, none⟩ = some (P_ mb)) : aG prog 86 [P_ b] w [] (V_ (P_ mb)) := by
 refine aT func86 ?_
 refine rB ?_
 refine bA ?_
 exact W (aX U U (cB h1 aL)) U fN
def machM_fn (b : Nat) (w : AI) (h1 : w.cell? ⟨b, 1, none⟩ = some (.pointer none)) : aG prog 86 [P_ b] w [] (V_ (.pointer none)) := by
 refine aT func86 ?_
 refine rB ?_
 refine bA ?_
 exact W (aX U U (cB h1 aL)) U fN
def histD_fn (b hb keep noted : Nat) (cs : List Hs.Cll) (ring : List Hs.Rcd) (hl : cs.length < 1000000000) (w : AI) (h2 : w.cell? ⟨b, 2, none⟩ = some (P_ hb)) (hW : Hs.HistW w hb keep noted cs ring) : aG prog 97 [P_ b] w [] (fun v H => ∃ b2, v = P_ b2 ∧ Hs.HistH b2 keep noted cs ring H) := by
 refine aT func97 ?_
 refine rB ?_
 refine bA ?_
 refine W (aX U U (cB h2 aL)) U (RX (cQ K_ U (fun w hw => Hs.copy_fn hb keep noted cs ring hl w (hW.later0 hw))) U ?_)
 rintro _ _ ⟨G0, ⟨b0, rfl, hH9⟩, rfl⟩
 refine ZA7 ?_
 exact EV U aCc ⟨b0, U, hH9⟩
def S5 (n : Int) (w : AI) : aG prog 14 [.int .i64 n] w [] (fun v H => ∃ b tb oT, v = P_ b ∧ kF tb (.int .u32 0) [(tb, oT)] ∧ H = [(b, J (Bl n (P_ tb)) 76), (tb, oT)]) := by
 refine aT func14 ?_
 refine ZDG ?_
 refine RX (cQ K_ U (aS Zg)) U ?_
 rintro _ _ ⟨GT, ⟨tb, rfl, hT⟩, rfl⟩
 obtain ⟨oT, rfl⟩ := hT.one
 refine RS ?_
 refine RX (eM (l := Bl n (P_ tb)) U U) U (ZBN fun b0 => ?_)
 refine ZA7 ?_
 exact EV U aJ ⟨b0, tb, oT, U, hT, U⟩
def Ij (v : AH) (l : AB) (G : aF) (hV : bM 5 1 v (l).length ((l).map (.int .u8)) G) (n : Int) (m : Nat) (hm : m ≤ 8) (hl : l.length ≤ 100000) (w : AI) (hst : St w (G.map (·.1)) G w) : aG prog 103 [v, .int .u64 n, .int .i64 m] w (G.map (·.1)) (fun v H => bM 5 1 v (l ++ leB n m).length ((l ++ leB n m).map (.int .u8)) H) := by
 refine cE func103 hst ?_
 refine iG ?_
 refine dV (σ := Nat × AH × aF) [0, 7, 9, 10, 11, 12, 13, 14, 15, 16, 17, 18, 19, 20] (fun s => [(0, s.2.1), (9, .int .i64 s.1)]) (fun s => s.2.2) (fun s => s.1 ≤ m ∧ bM 5 1 s.2.1 (l ++ leB n s.1).length ((l ++ leB n s.1).map (.int .u8)) s.2.2) (fun s => m - s.1) (0, v, G) ?_ ?_ ?_ ?_
 ·exact ⟨av _, by rw [show leB n 0 = [] from rfl, aw]; exact hV⟩
 ·exact .cons U (.cons U .nil)
 ·exact fun _ h => h
 rintro ⟨i, v0, G0⟩ y2 ⟨hi, hV0⟩
 dsimp only at hi hV0 ⊢
 obtain ⟨a0, c0, rfl⟩ := hV0.slice
 refine ZBn ?_
 refine KC (fun q0 z0 => ?_) (fun q0 z0 => ?_)
 ·refine fJ ?_
  refine RW (v := (.int .i64 ((8 * i : Nat) : Int))) U U (aD _ ((bY I I).trans I)) (RY (iV U U I) U (RW (v := (.int .u8 (Gh n i))) U U (yC _) (Li ?_)))
  refine ZBN fun b0 => ?_
  refine RX (vN (A := [(b0, _)]) (G := G0) (v := .slice a0 (l ++ leB n i).length c0) (n := (l ++ leB n i).length) (xs := (l ++ leB n i).map (.int .u8)) (m := 1) (T := 5) (s := 1) (by_ := 1) (ys := [.int .u8 (Gh n i)]) U U U U hV0 (fun w hw => .row _ _ _ _ _ U (aH (b := b0) (.head _) w hw)) U (by rw [bQ, leB_len]; omega) (by rw [bQ, leB_len]; omega)) U ?_
  rintro v1 _ ⟨G1, hV1, _, rfl⟩
  refine wE (v := v1) U U U ?_
  refine ZAm ?_
  refine jF ?_
  exact ⟨(i + 1, v1, G1), ⟨aR, hV1.as (by rw [aCn, ← eC, bQ (b := [Gh n i])]; rfl) (by show _ = (l ++ leB n (i + 1)).map Z; rw [aCn, ← eC, bz (l₂ := [Gh n i])]; rfl)⟩, by show m - (i + 1) < m - i; omega, .cons U (.cons U .nil), bJ, fun _ h => h.sub (cj _ _)⟩
 refine ZAm ?_
 obtain rfl : i = m := by omega
 refine ZBn ?_
 exact EV U aJ hV0
def swords_fn (v : AH) (l : AB) (G : aF) (hV : bM 5 1 v (l).length ((l).map (.int .u8)) G) (ws : AB) (hw9 : ∀ x ∈ ws, 0 ≤ x ∧ x < 65536) (wb c : Nat) (hl : l.length + ws.length * 2 ≤ 100000) (w : AI) (hst : St w (wb :: G.map (·.1)) ((wb, J (ws.map (.int .u16)) 93) :: G) w) : aG prog 99 [v, .slice (Q_ wb) ws.length c] w (wb :: G.map (·.1)) (fun v H => bM 5 1 v (l ++ leW ws).length ((l ++ leW ws).map (.int .u8)) H) := by
 refine cE func99 hst ?_
 refine bA ?_
 refine oS ?_
 refine dV (σ := Nat × AH × aF) [0, 6, 9, 10, 11, 12, 13, 14, 15, 16, 17] (fun s => [(0, s.2.1), (9, .int .i64 s.1)]) (fun s => (wb, J (ws.map (.int .u16)) 93) :: s.2.2) (fun s => s.1 ≤ ws.length ∧ bM 5 1 s.2.1 (l ++ leW (ws.take s.1)).length ((l ++ leW (ws.take s.1)).map (.int .u8)) s.2.2) (fun s => ws.length - s.1) (0, v, G) ?_ ?_ ?_ ?_
 ·exact ⟨av _, by rw [gi, show leW [] = [] from rfl, aw]; exact hV⟩
 ·exact .cons U (.cons U .nil)
 ·exact fun _ h => h
 rintro ⟨i, v0, G0⟩ y1 ⟨hi, hV0⟩
 dsimp only at hi hV0 ⊢
 obtain ⟨a0, c0, rfl⟩ := hV0.slice
 refine ZBn ?_
 refine KC (fun q0 z0 => ?_) (fun q0 z0 => ?_)
 ·refine ZBy ?_
  obtain ⟨x, hx⟩ : ∃ x, ws[i]? = some x := ⟨_, am I⟩
  have hxb := hw9 x (cw hx)
  have hll : (l ++ leW (ws.take i)).length = l.length + 2 * i := by rw [bQ, Iq, fZ]; omega
  refine ZBE ?_
  refine Bu ?_
  refine W (aX U U (bN (b := wb) (v := .int .u16 x) (.head _) (by rw [cg, df, hx]; rfl))) U ?_
  refine ZBn ?_
  refine RW (v := (.int .u64 x)) U U (Bv I I) (RX (cX (F := [(wb, J (ws.map (.int .u16)) 93)]) (A := G0) K_ U (dJ (Ij _ (l ++ leW (ws.take i)) G0 hV0 x 2 M I))) U ?_)
  rintro v1 _ ⟨G1, hV1, rfl⟩
  obtain ⟨a16, cx1, rfl⟩ := hV1.slice
  refine ZA7 ?_
  refine jF ?_
  exact ⟨(i + 1, _, G1), ⟨aR, hV1.as (by rw [Ep hx, aFx, ← eC]) (by show _ = (l ++ leW (ws.take (i + 1))).map Z; rw [Ep hx, aFx, ← eC])⟩, by show ws.length - (i + 1) < ws.length - i; omega, .cons U (.cons U .nil), bJ, fun _ h => h⟩
 refine ZAm ?_
 obtain rfl : i = ws.length := by omega
 refine ZBn ?_
 exact EV U (bj _ _) (by simpa only [dq] using hV0)
def snumber_fn (a : AC) (c : Nat) (l : AB) (hl : l.length ≤ 8) (hb : bE l) (w : AI) (hN : Ns w .u8 a l) : aG prog 79 [.slice a l.length c] w [] (V_ (.int .u64 (numS l l.length))) := by
 refine aT func79 ?_
 refine fJ ?_
 refine oS ?_
 refine uV (σ := Nat) [3, 4, 5, 8, 9, 10, 11, 12, 13, 14, 15, 16, 17, 18, 19, 20] (fun i => [(3, .int .u64 (numS l i)), (8, .int .i64 i)]) (fun i => i ≤ l.length) (fun i => l.length - i) 0 ?_ ?_ ?_
 ·exact av _
 ·exact .cons U (.cons U .nil)
 intro i y3 hi
 refine ZBn ?_
 refine KC (fun q0 z0 => ?_) (fun q0 z0 => ?_)
 ·refine ZBy ?_
  obtain ⟨b, o, rfl, hr⟩ := hN.row (i := i) I
  have hbi := hb.get i
  refine ZAm ?_
  refine K0 ?_
  refine aI ?_
  refine RW (v := (.int .u64 (l.getD i 0))) U U (Bv I I) (ZBE ?_)
  refine RW (v := (.int .i64 ((8 * i : Nat) : Int))) U U (aD _ ((bY I I).trans I)) (RW (v := (.int .u64 (shl .u64 (l.getD i 0) ((8 * i : Nat) : Int)))) (iM U U I) U U (RW (v := (.int .u64 (numS l (i + 1)))) (dM U U) U U (ZA7 ?_)))
  exact Jg
 refine ZAm ?_
 obtain rfl : i = l.length := by omega
 refine ZBn ?_
 exact E0 U ⟨U, U⟩
def aPZ (n : Int) (w : AI) : aG prog 89 [.int .i64 n, .bool false] w [] (V_ (.int .u8 0)) := by
 refine aT func89 ?_
 refine ZDG ?_
 refine jM ?_
 refine bA ?_
 exact E0 U ⟨U, U⟩
def Oj (k y e : Int) (w : AI) : aG prog 77 [.agg (cSt k y 0 false).toArray, .int .i64 e] w [] (fun v H => ∃ v9, v = .tuple #[v9, .int .i64 e] ∧ bM 5 1 v9 (qB k y).length ((qB k y).map (.int .u8)) H) := by
 refine aT func77 ?_
 refine ZAm ?_
 refine RX (eM (l := cSt k y 0 false) U U) U (ZBN fun b0 => ?_)
 refine ZBy ?_
 refine DR [2, 3, 4, 5, 6, 7, 8, 9, 10, 11, 14] (bW [0, 2, 6, 8, 10, 12, 14, 16, 18, 20, 28, 5, 23, 25, 27, 30, 32]) ?_
 refine ZBy ?_
 refine DW (v := (.int .u8 (y % 256))) U U U (yC _) (ZAm ?_)
 refine DW (v := (.int .u8 0)) U U U U (ZA7 ?_)
 refine DX U (cQ K_ U (fun w hw => Ij (.slice none 0 0) [] [] .nil k 4 M M w (St.refl w))) U (by intro _ _ _ hK x hx; obtain ⟨G8, hV8, rfl⟩ := hK; repeat (first | exact hx | exact iK _ hx | refine bD _ ?_ | refine .tail _ ?_)) ?_
 rintro v0 _ ⟨G0, hV0, rfl⟩
 refine DZ U (dG K_ U (aS (aPZ 0))) U jB (DX U (eQ U U U U U U) U aW ?_)
 rintro _ _ ⟨b1, rfl, rfl⟩
 refine DX U (mO (A := [(b1, _)]) (G := G0) (R := [(b0, _)]) (v := v0) (n := 4) (xs := (leB k 4).map (.int .u8)) (m := 3) (T := 5) (s := 1) (by_ := 1) (ys := [.int .u8 (y % 256), .int .u8 0, .int .u8 0]) U U U U hV0 (fun w hw => .row _ _ _ _ _ U (aH (b := b1) (.head _) w hw)) U M M) U aW ?_
 rintro v1 _ ⟨G1, hV1, _, rfl⟩
 obtain ⟨a19, c0, rfl⟩ := hV1.slice
 refine ZBy ?_
 exact iU (fun _ _ => eY U U) (cj _ _) ⟨_, U, hV1⟩
def bkH (lb bx : Nat) (T1 : Nat) (rec : Loop) (v9 : AH) (E R : aF) : aF := (lb, .loop rec) :: (bx, J [v9] T1) :: (R ++ E)
def aM7 (a : AC) (n c : Nat) (w : AI) : aG prog 100 [.slice a n c] w [] (fun v H => ∃ b, v = .func (.func 135) #[] #[P_ b] ∧ H = [(b, J [.slice a n c] 136)]) := by
 refine aT func100 ?_
 refine ZAm ?_
 refine RX (eM (l := [.slice a n c]) U U) U (ZBN fun b0 => ?_)
 refine ZBy ?_
 refine RW (v := (.func (.func 135) #[] #[P_ b0])) U U Fh (ZA7 ?_)
 exact EV U aJ ⟨_, U, U⟩
def aKU {σ : Type} (w : AI) (bs : AE) (lb bx lim j0 : Nat) (rec : Loop) (nn p q : Nat) (e0 : bB) (assign body : Code) (l : List Hs.Cll) (v9 : AH) (E : aF) (Hp : σ → aF) (J : σ → Prop) (cnt : σ → Nat) (s0 : σ)
  (hrec : zZ nn e0 [p, q] assign body rec) (hpq : [p, q].all (fun p => Nat.blt p nn) = true) (hV : bM 197 5 v9 l.length (aN Hs.cC l) E) (hlen : l.length < 1000000000) (hJ : J s0) (h0 : cnt s0 = 0)
  (hst : St w bs (bkH lb bx 136 rec v9 E (Hp s0)) w)
  (rt : ∀ s, J s → cnt s < l.length → cnt s < lim → uL ⟨prog, Tryz.f135.ntmps, w, bs, none, []⟩ nn lb rec [p, q] assign body [.int .i64 ((l.length : Int) - 1 - cnt s), .agg (Hs.cC (l.getD (l.length - 1 - cnt s) Hs.c0)).toArray] e0 (bkH lb bx 136 rec v9 E (Hp s)) (fun v H' => v = .bool true ∧ ∃ s', J s' ∧ cnt s' = cnt s + 1 ∧ ∀ w', St w bs H' w' → St w bs (bkH lb bx 136 rec v9 E (Hp s')) w') [j0])
  (rf : ∀ s, J s → cnt s < l.length → lim ≤ cnt s → uL ⟨prog, Tryz.f135.ntmps, w, bs, none, []⟩ nn lb rec [p, q] assign body [.int .i64 ((l.length : Int) - 1 - cnt s), .agg (Hs.cC (l.getD (l.length - 1 - cnt s) Hs.c0)).toArray] e0 (bkH lb bx 136 rec v9 E (Hp s)) (fun v H' => v = .bool false ∧ ∀ w', St w bs H' w' → St w bs (bkH lb bx 136 ({ rec with state := .done, pending := some (.exit j0) } : Loop) v9 E (Hp s)) w') [j0]) :
  aG prog 135 [.func (.yield lb) #[] #[], P_ bx] w bs (fun v H => v = .tuple #[] ∧ ∃ s rec', J s ∧ cnt s = min l.length lim ∧ rec'.state ≠ .busy ∧ (rec'.pending = none ∨ rec'.pending = some (.exit j0)) ∧ H = bkH lb bx 136 rec' v9 E (Hp s)) := by
 obtain ⟨a9, c9, rfl⟩ := hV.slice
 unfold bkH at hst
 refine cE func135 hst ?_
 refine bU ?_
 refine RY fY U (RW (v := (.int .i64 ((l.length : Int) - 1))) U U (aD _ (bY I I)) (bU ?_))
 refine dV (σ := σ) [3, 7, 8, 9, 10, 11, 12, 13, 14, 15, 16, 17, 18] (fun s => [(3, .int .i64 ((l.length : Int) - 1 - cnt s))]) (fun s => bkH lb bx 136 rec (.slice a9 l.length c9) E (Hp s)) (fun s => J s ∧ cnt s ≤ l.length ∧ cnt s ≤ lim) (fun s => l.length - cnt s) s0 ?_ ?_ ?_ ?_
 ·exact ⟨hJ, aR, aR⟩
 ·exact .cons aBl .nil
 ·exact fun _ h => h
 rintro s y1 ⟨hJs, hcs, hcl⟩
 unfold bkH
 refine dO ?_
 refine KC (fun h1 h1n => ?_) (fun h1 h1n => ?_)
 ·refine eK ?_
  obtain ⟨be, ce, sp9, he9, rfl, hz9, hce9, hm9⟩ := hV.full I
  cases he9
  rcases dt (cnt s) lim with hl9 | hl9
  ·refine cY ?_
   refine RY (fO (s := 5) (l.length - 1 - cnt s) U U U I I) U (W (bX U U U (fun w hw => (aH (b := be) (l := aN Hs.cC l ++ sp9) (.tail _ (.tail _ (bD _ (.head _)))) w hw).left.part Hs.cC_len (show l[l.length - 1 - cnt s]? = some (l.getD (l.length - 1 - cnt s) Hs.c0) by rw [fV, am I]; rfl) 0 5 (v := Hs.cC (l.getD (l.length - 1 - cnt s) Hs.c0)) U)) U ?_)
   refine Ig (lb := lb) (rec := rec) (ps := [p, q]) U U U U U hpq (.head _) hrec (rt s hJs I hl9) ?_
   rintro _ H' ⟨rfl, s', hJ', hc', hst'⟩
   refine dO ?_
   refine RW (v := (.int .i64 ((l.length : Int) - 1 - cnt s - 1))) U U (aD _ (bY I I)) (aU ?_)
   exact ⟨s', ⟨hJ', aR, aR⟩, aR, .cons (aD (Value.int .i64) (show (l.length : Int) - 1 - cnt s - 1 = (l.length : Int) - 1 - cnt s' by omega)) .nil, bJ, fun w' h => hst' w' h⟩
  refine cY ?_
  refine RY (fO (s := 5) (l.length - 1 - cnt s) U U U I I) U (W (bX U U U (fun w hw => (aH (b := be) (l := aN Hs.cC l ++ sp9) (.tail _ (.tail _ (bD _ (.head _)))) w hw).left.part Hs.cC_len (show l[l.length - 1 - cnt s]? = some (l.getD (l.length - 1 - cnt s) Hs.c0) by rw [fV, am I]; rfl) 0 5 (v := Hs.cC (l.getD (l.length - 1 - cnt s) Hs.c0)) U)) U ?_)
  refine Ig (lb := lb) (rec := rec) (ps := [p, q]) U U U U U hpq (.head _) hrec (rf s hJs I hl9) ?_
  rintro _ H' ⟨rfl, hst'⟩
  refine eK ?_
  exact lC (fun _ _ => nK) hst' ⟨U, s, _, hJs, aR, kW, .inr U, U⟩
 refine bG ?_
 exact EN aJ ⟨U, s, rec, hJs, aR, by rw [hrec.ready]; simp, .inl hrec.calm, U⟩
def aFJ (a : AC) (n c : Nat) (w : AI) : aG prog 102 [.slice a n c] w [] (fun v H => ∃ b, v = .func (.func 136) #[] #[P_ b] ∧ H = [(b, J [.slice a n c] 226)]) := by
 refine aT func102 ?_
 refine ZAm ?_
 refine RX (eM (l := [.slice a n c]) U U) U (ZBN fun b0 => ?_)
 refine ZBy ?_
 refine RW (v := (.func (.func 136) #[] #[P_ b0])) U U Fh (ZA7 ?_)
 exact EV U aJ ⟨_, U, U⟩
def aGv {σ : Type} (w : AI) (bs : AE) (lb bx lim j0 : Nat) (rec : Loop) (nn p q : Nat) (e0 : bB) (assign body : Code) (l : List Hs.Rcd) (v9 : AH) (E : aF) (Hp : σ → aF) (J : σ → Prop) (cnt : σ → Nat) (s0 : σ)
  (hrec : zZ nn e0 [p, q] assign body rec) (hpq : [p, q].all (fun p => Nat.blt p nn) = true) (hV : bM 138 9 v9 l.length (aN Hs.cR l) E) (hlen : l.length < 1000000000) (hJ : J s0) (h0 : cnt s0 = 0)
  (hst : St w bs (bkH lb bx 226 rec v9 E (Hp s0)) w)
  (rt : ∀ s, J s → cnt s < l.length → cnt s < lim → uL ⟨prog, Tryz.f136.ntmps, w, bs, none, []⟩ nn lb rec [p, q] assign body [.int .i64 ((l.length : Int) - 1 - cnt s), .agg (Hs.cR (l.getD (l.length - 1 - cnt s) Hs.r0)).toArray] e0 (bkH lb bx 226 rec v9 E (Hp s)) (fun v H' => v = .bool true ∧ ∃ s', J s' ∧ cnt s' = cnt s + 1 ∧ ∀ w', St w bs H' w' → St w bs (bkH lb bx 226 rec v9 E (Hp s')) w') [j0])
  (rf : ∀ s, J s → cnt s < l.length → lim ≤ cnt s → uL ⟨prog, Tryz.f136.ntmps, w, bs, none, []⟩ nn lb rec [p, q] assign body [.int .i64 ((l.length : Int) - 1 - cnt s), .agg (Hs.cR (l.getD (l.length - 1 - cnt s) Hs.r0)).toArray] e0 (bkH lb bx 226 rec v9 E (Hp s)) (fun v H' => v = .bool false ∧ ∀ w', St w bs H' w' → St w bs (bkH lb bx 226 ({ rec with state := .done, pending := some (.exit j0) } : Loop) v9 E (Hp s)) w') [j0]) :
  aG prog 136 [.func (.yield lb) #[] #[], P_ bx] w bs (fun v H => v = .tuple #[] ∧ ∃ s rec', J s ∧ cnt s = min l.length lim ∧ rec'.state ≠ .busy ∧ (rec'.pending = none ∨ rec'.pending = some (.exit j0)) ∧ H = bkH lb bx 226 rec' v9 E (Hp s)) := by
 obtain ⟨a9, c9, rfl⟩ := hV.slice
 unfold bkH at hst
 refine cE func136 hst ?_
 refine bU ?_
 refine RY fY U (RW (v := (.int .i64 ((l.length : Int) - 1))) U U (aD _ (bY I I)) (bU ?_))
 refine dV (σ := σ) [3, 7, 8, 9, 10, 11, 12, 13, 14, 15, 16, 17, 18] (fun s => [(3, .int .i64 ((l.length : Int) - 1 - cnt s))]) (fun s => bkH lb bx 226 rec (.slice a9 l.length c9) E (Hp s)) (fun s => J s ∧ cnt s ≤ l.length ∧ cnt s ≤ lim) (fun s => l.length - cnt s) s0 ?_ ?_ ?_ ?_
 ·exact ⟨hJ, aR, aR⟩
 ·exact .cons aBl .nil
 ·exact fun _ h => h
 rintro s y1 ⟨hJs, hcs, hcl⟩
 unfold bkH
 refine dO ?_
 refine KC (fun h1 h1n => ?_) (fun h1 h1n => ?_)
 ·refine eK ?_
  obtain ⟨be, ce, sp9, he9, rfl, hz9, hce9, hm9⟩ := hV.full I
  cases he9
  rcases dt (cnt s) lim with hl9 | hl9
  ·refine cY ?_
   refine RY (fO (s := 9) (l.length - 1 - cnt s) U U U I I) U (W (bX U U U (fun w hw => (aH (b := be) (l := aN Hs.cR l ++ sp9) (.tail _ (.tail _ (bD _ (.head _)))) w hw).left.part Hs.cR_len (show l[l.length - 1 - cnt s]? = some (l.getD (l.length - 1 - cnt s) Hs.r0) by rw [fV, am I]; rfl) 0 9 (v := Hs.cR (l.getD (l.length - 1 - cnt s) Hs.r0)) U)) U ?_)
   refine Ig (lb := lb) (rec := rec) (ps := [p, q]) U U U U U hpq (.head _) hrec (rt s hJs I hl9) ?_
   rintro _ H' ⟨rfl, s', hJ', hc', hst'⟩
   refine dO ?_
   refine RW (v := (.int .i64 ((l.length : Int) - 1 - cnt s - 1))) U U (aD _ (bY I I)) (aU ?_)
   exact ⟨s', ⟨hJ', aR, aR⟩, aR, .cons (aD (Value.int .i64) (show (l.length : Int) - 1 - cnt s - 1 = (l.length : Int) - 1 - cnt s' by omega)) .nil, bJ, fun w' h => hst' w' h⟩
  refine cY ?_
  refine RY (fO (s := 9) (l.length - 1 - cnt s) U U U I I) U (W (bX U U U (fun w hw => (aH (b := be) (l := aN Hs.cR l ++ sp9) (.tail _ (.tail _ (bD _ (.head _)))) w hw).left.part Hs.cR_len (show l[l.length - 1 - cnt s]? = some (l.getD (l.length - 1 - cnt s) Hs.r0) by rw [fV, am I]; rfl) 0 9 (v := Hs.cR (l.getD (l.length - 1 - cnt s) Hs.r0)) U)) U ?_)
  refine Ig (lb := lb) (rec := rec) (ps := [p, q]) U U U U U hpq (.head _) hrec (rf s hJs I hl9) ?_
  rintro _ H' ⟨rfl, hst'⟩
  refine eK ?_
  exact lC (fun _ _ => nK) hst' ⟨U, s, _, hJs, aR, kW, .inr U, U⟩
 refine bG ?_
 exact EN aJ ⟨U, s, rec, hJs, aR, by rw [hrec.ready]; simp, .inl hrec.calm, U⟩
def fX (b : Nat) : AA := [.slice none 0 0, .int .i64 0, P_ b, .slice none 0 0]
def sH (sb : Nat) (d : Db) (g : Gx) (k : Nat) : aF := (sb, J (fX d.b) 50) :: d.H g k
def lastB_succ {α : Type} (f : α → AB) (l : List α) (z : α) {i : Nat} (h : i < l.length) : lastB f l (i + 1) = lastB f l i ++ f (l.getD (l.length - 1 - i) z) := by
 unfold lastB
 have q0 : l.reverse[i]? = some (l.getD (l.length - 1 - i) z) := by
  rw [List.getElem?_reverse h, fV, am I]; rfl
 rw [fk, q0, List.flatMap_append]
 simp
def lastB_min {α : Type} (f : α → AB) (l : List α) (n : Nat) : lastB f l (min l.length n) = lastB f l n := by
 unfold lastB
 rw [List.take_eq_take_iff.2 (show min (min l.length n) l.reverse.length = min n l.reverse.length by rw [List.length_reverse]; omega)]
set_option maxHeartbeats 2000000 in
def aKZ (sb : Nat) (d : Db) (g : Gx) (hg : g.Ok) (k n : Nat) (hf : d.Fine g k n) (bv : AH) (w : AI) (hst : St w ((sH sb d g k).map (·.1)) (sH sb d g k) w) : aG prog 50 [P_ sb, bv] w ((sH sb d g k).map (·.1)) (fun v H => ∃ v9 G, v = .tuple #[v9, .int .i64 0] ∧ bM 5 1 v9 (zS (Hs.callsL (g.sts k))).length ((zS (Hs.callsL (g.sts k))).map (.int .u8)) G ∧ H = G ++ sH sb d g k) := by
 obtain ⟨hd, hk, hn, hdn⟩ := hf
 refine E9 func50 U U U hst ?_
 refine tS U ?_
 refine ZBy ?_
 refine tS U ?_
 refine aI ?_
 refine Xx ?_
 refine jM ?_
 refine ZA7 ?_
 refine tS U ?_
 refine ZCZ ?_
 rintro _ _ ⟨G0, ⟨b0, rfl, hH20⟩, rfl⟩
 refine RX (cQ K_ U (fun w hw => Hs.calls_fn b0 32 k (Hs.callsL (g.sts k)) d.ring aBh w (hH20.histW hw (fun x hx => iK _ hx)))) U ?_
 rintro v0 _ ⟨G1, hV0, rfl⟩
 have hcl := Hs.callsL_len (g.sts k)
 have hcok := hg.calls k
 generalize hcs : (Hs.callsL (g.sts k)) = cs at *
 obtain ⟨a21, c0, rfl⟩ := hV0.slice
 refine cZ (H' := G1 ++ sH sb d g k) (fun _ h => St.fl [G1, G0, sH sb d g k] [0, 2] U h) ?_
 refine lE fun b1 => ?_
 refine W (bH (l' := [.slice a21 cs.length c0]) 0) U ?_
 try simp only [ct, bq, aw, ak, bf]
 refine ZBE ?_
 refine tS U ?_
 refine ZAm ?_
 refine gZ ?_
 refine RW (v := (.int .u16 ((cs.length : Int) % 65536))) U U (Gy _) (Li ?_)
 rintro _ _ ⟨b2, rfl, rfl⟩
 refine RX (eO (F := []) (A := [(b2, J ([(cs.length : Int) % 65536].map (.int .u16)) 93)]) (G := (b1, J [(.slice a21 cs.length c0)] 136) :: (G1 ++ sH sb d g k)) K_ U (uG (swords_fn (.slice none 0 0) [] [] .nil [(cs.length : Int) % 65536] (by intro x hx; rw [List.mem_singleton.1 hx]; omega) b2 1 (by show 0 + 1 * 2 ≤ 100000; decide)))) U ?_
 rintro v1 _ ⟨G2, hV1, rfl⟩
 refine cZ (H' := G2 ++ ((b1, J [(.slice a21 cs.length c0)] 136) :: (G1 ++ sH sb d g k))) (fun _ h => h) ?_
 obtain ⟨a26, cx1, rfl⟩ := hV1.slice
 refine ZC2 ?_
 rintro _ _ ⟨b3, rfl, rfl⟩
 refine W (bH (l' := [.slice a26 ([] ++ leW [(cs.length : Int) % 65536]).length cx1]) 0) U ?_
 try simp only [ct, bq, aw, ak, bf]
 refine ZBE ?_
 refine I6 U ?_
 refine ZAm ?_
 refine RX (cQ K_ U (aS (aM7 _ _ _))) U ?_
 rintro _ _ ⟨G3, ⟨bx, rfl, rfl⟩, rfl⟩
 refine ZBE ?_
 refine L3 (A := []) U U U K_ ?_
 intro w9 D0 lb rec hD hlb hrec w2 hw2
 refine ⟨(bkH lb bx 136 rec (.slice a21 cs.length c0) G1 ((fun s : Nat × AH × aF => (b3, J [s.2.1] 22) :: (b1, J [(.slice a21 cs.length c0)] 136) :: s.2.2) (0, (.slice a26 ([] ++ leW [(cs.length : Int) % 65536]).length cx1), G2))), (D0, .deferred (some [])) :: sH sb d g k, _, _, fun w' h => (St.fl [[(lb, .loop rec)], [(D0, .deferred (some []))], [(bx, J [(.slice a21 cs.length c0)] 136)], [(b3, J [(.slice a26 ([] ++ leW [(cs.length : Int) % 65536]).length cx1)] 22)], G2, [(b1, J [(.slice a21 cs.length c0)] 136)], G1, sH sb d g k] [0, 2, 3, 5, 4, 6, 1, 7] U h).as Dz, fun _ hb => jS hb,
  aKU (σ := Nat × AH × aF) w2 _ lb bx 8 0 rec Tryz.f50.ntmps 29 30 _ _ _ cs (.slice a21 cs.length c0) G1 (fun s : Nat × AH × aF => (b3, J [s.2.1] 22) :: (b1, J [(.slice a21 cs.length c0)] 136) :: s.2.2) (fun s : Nat × AH × aF => s.1 ≤ cs.length ∧ s.1 ≤ 8 ∧ bM 5 1 s.2.1 (leW [(cs.length : Int) % 65536] ++ lastB callB cs s.1).length ((leW [(cs.length : Int) % 65536] ++ lastB callB cs s.1).map (.int .u8)) s.2.2) (fun s => s.1) (0, (.slice a26 ([] ++ leW [(cs.length : Int) % 65536]).length cx1), G2) hrec rfl hV0 I ⟨av _, av _, by have h9 := hV1; simpa [lastB] using h9⟩ rfl (St.lentV (G := (D0, .deferred (some [])) :: sH sb d g k) ((St.fl [[(lb, .loop rec)], [(D0, .deferred (some []))], [(bx, J [(.slice a21 cs.length c0)] 136)], [(b3, J [(.slice a26 ([] ++ leW [(cs.length : Int) % 65536]).length cx1)] 22)], G2, [(b1, J [(.slice a21 cs.length c0)] 136)], G1, sH sb d g k] [0, 2, 3, 5, 4, 6, 1, 7] rfl hw2).as Dz)) ?_ ?_, ?_⟩
 ·rintro ⟨i, vo, GO⟩ ⟨hi0, hi1, hVo⟩ hj hl
  dsimp only [bkH] at hi0 hi1 hVo hj hl ⊢
  obtain ⟨ao, co, rfl⟩ := hVo.slice
  generalize hx : cs.getD (cs.length - 1 - i) Hs.c0 = x
  unfold uL
  refine ZBn ?_
  refine ZC2 ?_
  rintro _ _ ⟨b4, rfl, rfl⟩
  refine W (bH (l' := Hs.cC x) 0) U ?_
  try simp only [ct, bq, aw, ak, bf]
  refine Ml ?_
  refine aI ?_
  refine gZ ?_
  refine RW (v := (.int .i64 ((cs.length : Int) - 8))) U U (aD _ (bY I I)) (qA ?_)
  refine ZA7 ?_
  have hol : (leW [(cs.length : Int) % 65536] ++ lastB callB cs i).length ≤ 1000 := by rw [bQ, Iq]; have := aCr cs i; simp only [az]; omega
  have hcx := hcok _ (cw (show cs[cs.length - 1 - i]? = some x by rw [← hx, fV, am I]; rfl))
  have hwx : ∀ y ∈ [x.at_, x.to, x.back], 0 ≤ y ∧ y < 65536 := by
   intro y hy
   simp only [eg, ec, or_false] at hy
   rcases hy with rfl | rfl | rfl
   ·exact hcx.1
   ·exact hcx.2.1
   exact hcx.2.2
  refine mZ [(lb, .loop (busy rec)), (b4, J (Hs.cC x) 197), (bx, J [(.slice a21 cs.length c0)] 136), (b3, J [(.slice ao (leW [(cs.length : Int) % 65536] ++ lastB callB cs i).length co)] 22), (b1, J [(.slice a21 cs.length c0)] 136)] [1, 2, 3, 4, 5, 6, 7, 8, 9, 10, 11, 12] (.step true 0 (.step true 1 (.step true 2 (.step true 3 (.step true 6 (.step true 7 (.step true 8 (.step true 9 (.step true 10 (.step true 11 (.fork 4 (.fork 5 (.step false 12 (.step false 13 (.step false 14 .done))) (.fork 12 (.step false 5 (.step false 13 (.step false 14 .done))) .stop)) (.fork 12 (.step false 4 (.step false 5 (.step false 13 (.step false 14 .done)))) .stop)))))))))))) U aO aO (fun x hx => iK _ hx) ?_
  refine ZA7 ?_
  refine DW (v := (.int .u8 (x.kind % 256))) U U U (yC _) (aI ?_)
  refine oD ?_ ?_
  ·refine Bg ?_
   rintro _ _ ⟨b5, rfl, rfl⟩
   refine oD ?_ ?_
   ·refine DX U (mO (A := [(b5, _)] ++ [(lb, .loop (busy rec)), (b4, J (Hs.cC x) 197), (bx, J [(.slice a21 cs.length c0)] 136), (b3, J [(.slice ao (leW [(cs.length : Int) % 65536] ++ lastB callB cs i).length co)] 22), (b1, J [(.slice a21 cs.length c0)] 136)]) (G := GO) (R := G1) (v := (.slice ao (leW [(cs.length : Int) % 65536] ++ lastB callB cs i).length co)) (n := (leW [(cs.length : Int) % 65536] ++ lastB callB cs i).length) (xs := (leW [(cs.length : Int) % 65536] ++ lastB callB cs i).map (.int .u8)) (m := 1) (T := 5) (s := 1) (by_ := 1) (ys := [.int .u8 (x.kind % 256)]) U U U U hVo (fun w hw => .row _ _ _ _ _ U (aH (b := b5) aE w hw)) U I I) U Wk ?_
    rintro v2 _ ⟨G4, hV2, _, rfl⟩
    obtain ⟨a41, c2, rfl⟩ := hV2.slice
    refine Bg ?_
    rintro _ _ ⟨b6, rfl, rfl⟩
    refine jC (H' := (b6, J ([x.at_, x.to, x.back].map (.int .u16)) 93) :: (G4 ++ ([(lb, .loop (busy rec)), (b4, J (Hs.cC x) 197), (bx, J [(.slice a21 cs.length c0)] 136), (b3, J [(.slice ao (leW [(cs.length : Int) % 65536] ++ lastB callB cs i).length co)] 22), (b1, J [(.slice a21 cs.length c0)] 136)] ++ G1))) (fun _ h => St.fl [[_], G4, [_], [(lb, .loop (busy rec)), (b4, J (Hs.cC x) 197), (bx, J [(.slice a21 cs.length c0)] 136), (b3, J [(.slice ao (leW [(cs.length : Int) % 65536] ++ lastB callB cs i).length co)] 22), (b1, J [(.slice a21 cs.length c0)] 136)], G1] [0, 1, 3, 4] U h) ?_
    refine Rz3 ?_
    rintro v3 _ ⟨G5, hV3, rfl⟩
    obtain ⟨a49, c3, rfl⟩ := hV3.slice
    refine J5 fun hout => ?_
    exact K7
   refine oD ?_ ?_
   ·refine Bg ?_
    rintro _ _ ⟨b6, rfl, rfl⟩
    refine DX U (mO (A := [(b6, _), (b5, _)] ++ [(lb, .loop (busy rec)), (b4, J (Hs.cC x) 197), (bx, J [(.slice a21 cs.length c0)] 136), (b3, J [(.slice ao (leW [(cs.length : Int) % 65536] ++ lastB callB cs i).length co)] 22), (b1, J [(.slice a21 cs.length c0)] 136)]) (G := GO) (R := G1) (v := (.slice ao (leW [(cs.length : Int) % 65536] ++ lastB callB cs i).length co)) (n := (leW [(cs.length : Int) % 65536] ++ lastB callB cs i).length) (xs := (leW [(cs.length : Int) % 65536] ++ lastB callB cs i).map (.int .u8)) (m := 1) (T := 5) (s := 1) (by_ := 1) (ys := [.int .u8 (x.kind % 256)]) U U U U hVo (fun w hw => .row _ _ _ _ _ U (aH (b := b5) aE w hw)) U I I) U Wk ?_
    rintro v2 _ ⟨G4, hV2, _, rfl⟩
    obtain ⟨a41, c2, rfl⟩ := hV2.slice
    refine jC (H' := (b6, J ([x.at_, x.to, x.back].map (.int .u16)) 93) :: (G4 ++ ([(lb, .loop (busy rec)), (b4, J (Hs.cC x) 197), (bx, J [(.slice a21 cs.length c0)] 136), (b3, J [(.slice ao (leW [(cs.length : Int) % 65536] ++ lastB callB cs i).length co)] 22), (b1, J [(.slice a21 cs.length c0)] 136)] ++ G1))) (fun _ h => St.fl [G4, [_], [_], [(lb, .loop (busy rec)), (b4, J (Hs.cC x) 197), (bx, J [(.slice a21 cs.length c0)] 136), (b3, J [(.slice ao (leW [(cs.length : Int) % 65536] ++ lastB callB cs i).length co)] 22), (b1, J [(.slice a21 cs.length c0)] 136)], G1] [1, 0, 3, 4] U h) ?_
    refine Rz3 ?_
    rintro v3 _ ⟨G5, hV3, rfl⟩
    obtain ⟨a49, c3, rfl⟩ := hV3.slice
    refine J5 fun hout => ?_
    exact K7
   exact yE
  refine oD ?_ ?_
  ·refine Bg ?_
   rintro _ _ ⟨b5, rfl, rfl⟩
   refine Bg ?_
   rintro _ _ ⟨b6, rfl, rfl⟩
   refine DX U (mO (A := [(b6, _), (b5, _)] ++ [(lb, .loop (busy rec)), (b4, J (Hs.cC x) 197), (bx, J [(.slice a21 cs.length c0)] 136), (b3, J [(.slice ao (leW [(cs.length : Int) % 65536] ++ lastB callB cs i).length co)] 22), (b1, J [(.slice a21 cs.length c0)] 136)]) (G := GO) (R := G1) (v := (.slice ao (leW [(cs.length : Int) % 65536] ++ lastB callB cs i).length co)) (n := (leW [(cs.length : Int) % 65536] ++ lastB callB cs i).length) (xs := (leW [(cs.length : Int) % 65536] ++ lastB callB cs i).map (.int .u8)) (m := 1) (T := 5) (s := 1) (by_ := 1) (ys := [.int .u8 (x.kind % 256)]) U U U U hVo (fun w hw => .row _ _ _ _ _ U (aH (b := b6) aE w hw)) U I I) U Wk ?_
   rintro v2 _ ⟨G4, hV2, _, rfl⟩
   obtain ⟨a41, c2, rfl⟩ := hV2.slice
   refine jC (H' := (b5, J ([x.at_, x.to, x.back].map (.int .u16)) 93) :: (G4 ++ ([(lb, .loop (busy rec)), (b4, J (Hs.cC x) 197), (bx, J [(.slice a21 cs.length c0)] 136), (b3, J [(.slice ao (leW [(cs.length : Int) % 65536] ++ lastB callB cs i).length co)] 22), (b1, J [(.slice a21 cs.length c0)] 136)] ++ G1))) (fun _ h => St.fl [G4, [_], [_], [(lb, .loop (busy rec)), (b4, J (Hs.cC x) 197), (bx, J [(.slice a21 cs.length c0)] 136), (b3, J [(.slice ao (leW [(cs.length : Int) % 65536] ++ lastB callB cs i).length co)] 22), (b1, J [(.slice a21 cs.length c0)] 136)], G1] [2, 0, 3, 4] U h) ?_
   refine DX U (eO (F := []) (A := (b5, J ([x.at_, x.to, x.back].map (.int .u16)) 93) :: G4) (G := [(lb, .loop (busy rec)), (b4, J (Hs.cC x) 197), (bx, J [(.slice a21 cs.length c0)] 136), (b3, J [(.slice ao (leW [(cs.length : Int) % 65536] ++ lastB callB cs i).length co)] 22), (b1, J [(.slice a21 cs.length c0)] 136)] ++ G1) K_ U (uG (swords_fn _ (leW [(cs.length : Int) % 65536] ++ lastB callB cs i ++ [x.kind % 256]) G4 (hV2.as Rz2 aAO) [x.at_, x.to, x.back] hwx b5 3 Rz1))) U aW ?_
   rintro v3 _ ⟨G5, hV3, rfl⟩
   obtain ⟨a49, c3, rfl⟩ := hV3.slice
   refine J5 fun hout => ?_
   exact K7
  exact yE
 ·rintro ⟨i, vo, GO⟩ ⟨hi0, hi1, hVo⟩ hj hl
  dsimp only [bkH] at hi0 hi1 hVo hj hl ⊢
  obtain ⟨ao, co, rfl⟩ := hVo.slice
  generalize hx : cs.getD (cs.length - 1 - i) Hs.c0 = x
  unfold uL
  refine ZBn ?_
  refine ZC2 ?_
  rintro _ _ ⟨b4, rfl, rfl⟩
  refine W (bH (l' := Hs.cC x) 0) U ?_
  try simp only [ct, bq, aw, ak, bf]
  refine Ml ?_
  refine aI ?_
  refine gZ ?_
  refine RW (v := (.int .i64 ((cs.length : Int) - 8))) U U (aD _ (bY I I)) (uQ ?_)
  refine ZA7 ?_
  exact ⟨_, fun _ h => h.sub (.cons_cons _ (.cons _ aJ)), by trivial, fun _ h => h⟩
 rintro _ _ ⟨rfl, ⟨i, vo, GO⟩, rec', ⟨hi0, hi1, hVo⟩, hcnt, hb', hp', rfl⟩
 dsimp only at hi0 hi1 hVo hcnt ⊢
 obtain ⟨ao, co, rfl⟩ := hVo.slice
 refine ⟨rec', (D0, .deferred (some [])) :: (b3, J [(.slice ao (leW [(cs.length : Int) % 65536] ++ lastB callB cs i).length co)] 22) :: (GO ++ sH sb d g k), fun _ h => St.fl [[(lb, .loop rec')], [(bx, J [(.slice a21 cs.length c0)] 136)], [(b3, J [(.slice ao (leW [(cs.length : Int) % 65536] ++ lastB callB cs i).length co)] 22)], [(b1, J [(.slice a21 cs.length c0)] 136)], GO, G1, [(D0, .deferred (some []))], sH sb d g k] [0, 6, 2, 4, 7] U (h.as Dz), hb', hp', ?_⟩
 refine Zr U ?_
 refine ZDG ?_
 exact ZDL
set_option maxHeartbeats 2000000 in
def aPW (sb : Nat) (d : Db) (g : Gx) (hg : g.Ok) (k n : Nat) (hf : d.Fine g k n) (bv : AH) (w : AI) (hst : St w ((sH sb d g k).map (·.1)) (sH sb d g k) w) : aG prog 51 [P_ sb, bv] w ((sH sb d g k).map (·.1)) (fun v H => ∃ v9 G, v = .tuple #[v9, .int .i64 0] ∧ bM 5 1 v9 (Ai ((Hs.lastL (g.sts k) 32).map Hs.recOf)).length ((Ai ((Hs.lastL (g.sts k) 32).map Hs.recOf)).map (.int .u8)) G ∧ H = G ++ sH sb d g k) := by
 obtain ⟨hd, hk, hn, hdn⟩ := hf
 refine E9 func51 U U U hst ?_
 refine tS U ?_
 refine ZBy ?_
 refine tS U ?_
 refine aI ?_
 refine Xx ?_
 refine jM ?_
 refine ZA7 ?_
 refine tS U ?_
 refine ZCZ ?_
 rintro _ _ ⟨G0, ⟨b0, rfl, hH20⟩, rfl⟩
 refine RX (cQ K_ U (fun w hw => Hs.records_fn b0 32 (Hs.callsL (g.sts k)) d.ring (g.sts k) M M (by rw [Gx.sts_len]; omega) hd.ring w (by rw [Gx.sts_len]; exact hH20.histW hw (fun x hx => iK _ hx)))) U ?_
 rintro v0 _ ⟨G1, hV0, rfl⟩
 have hcl : ((Hs.lastL (g.sts k) 32).map Hs.recOf).length ≤ 256 := by rw [eD, Hs.lastL_len, Gx.sts_len]; omega
 rw [show (Hs.lastL (g.sts k) 32).length = ((Hs.lastL (g.sts k) 32).map Hs.recOf).length by rw [eD]] at hV0
 have hcok := hg.recs k
 generalize hcs : ((Hs.lastL (g.sts k) 32).map Hs.recOf) = cs at *
 obtain ⟨a21, c0, rfl⟩ := hV0.slice
 refine cZ (H' := G1 ++ sH sb d g k) (fun _ h => St.fl [G1, G0, sH sb d g k] [0, 2] U h) ?_
 refine lE fun b1 => ?_
 refine W (bH (l' := [.slice a21 cs.length c0]) 0) U ?_
 try simp only [ct, bq, aw, ak, bf]
 refine ZBE ?_
 refine tS U ?_
 refine ZBE ?_
 refine ZC2 ?_
 rintro _ _ ⟨b2, rfl, rfl⟩
 refine ZBE ?_
 refine I6 U ?_
 refine ZAm ?_
 refine RX (cQ K_ U (aS (aFJ _ _ _))) U ?_
 rintro _ _ ⟨G2, ⟨bx, rfl, rfl⟩, rfl⟩
 refine ZBE ?_
 refine L3 (A := []) U U U K_ ?_
 intro w9 D0 lb rec hD hlb hrec w2 hw2
 refine ⟨(bkH lb bx 226 rec (.slice a21 cs.length c0) G1 ((fun s : Nat × AH × aF => (b2, J [s.2.1] 22) :: (b1, J [(.slice a21 cs.length c0)] 226) :: s.2.2) (0, (.slice none 0 0), []))), (D0, .deferred (some [])) :: sH sb d g k, _, _, fun w' h => (St.fl [[(lb, .loop rec)], [(D0, .deferred (some []))], [(bx, J [(.slice a21 cs.length c0)] 226)], [(b2, J [(.slice none 0 0)] 22)], [(b1, J [(.slice a21 cs.length c0)] 226)], G1, sH sb d g k] [0, 2, 3, 4, 5, 1, 6] U h).as Dz, fun _ hb => jS hb,
  aGv (σ := Nat × AH × aF) w2 _ lb bx 10 0 rec Tryz.f51.ntmps 24 25 _ _ _ cs (.slice a21 cs.length c0) G1 (fun s : Nat × AH × aF => (b2, J [s.2.1] 22) :: (b1, J [(.slice a21 cs.length c0)] 226) :: s.2.2) (fun s : Nat × AH × aF => s.1 ≤ cs.length ∧ s.1 ≤ 10 ∧ bM 5 1 s.2.1 (lastB recB cs s.1).length ((lastB recB cs s.1).map (.int .u8)) s.2.2) (fun s => s.1) (0, (.slice none 0 0), []) hrec rfl hV0 I ⟨av _, av _, .nil⟩ rfl (St.lentV (G := (D0, .deferred (some [])) :: sH sb d g k) ((St.fl [[(lb, .loop rec)], [(D0, .deferred (some []))], [(bx, J [(.slice a21 cs.length c0)] 226)], [(b2, J [(.slice none 0 0)] 22)], [(b1, J [(.slice a21 cs.length c0)] 226)], G1, sH sb d g k] [0, 2, 3, 4, 5, 1, 6] rfl hw2).as Dz)) ?_ ?_, ?_⟩
 ·rintro ⟨i, vo, GO⟩ ⟨hi0, hi1, hVo⟩ hj hl
  dsimp only [bkH] at hi0 hi1 hVo hj hl ⊢
  obtain ⟨ao, co, rfl⟩ := hVo.slice
  generalize hx : cs.getD (cs.length - 1 - i) Hs.r0 = x
  unfold uL
  refine ZBn ?_
  refine ZC2 ?_
  rintro _ _ ⟨b3, rfl, rfl⟩
  refine W (bH (l' := Hs.cR x) 0) U ?_
  try simp only [ct, bq, aw, ak, bf]
  refine Ml ?_
  refine aI ?_
  refine gZ ?_
  refine RW (v := (.int .i64 ((cs.length : Int) - 10))) U U (aD _ (bY I I)) (qA ?_)
  refine ZA7 ?_
  have hol : (lastB recB cs i).length ≤ 1000 := by have := aEA cs i; omega
  have hcx := hcok _ (cw (show cs[cs.length - 1 - i]? = some x by rw [← hx, fV, am I]; rfl))
  have hwx : ∀ y ∈ [x.at_], 0 ≤ y ∧ y < 65536 := fun y hy => by rw [List.mem_singleton.1 hy]; exact hcx
  refine mZ [(lb, .loop (busy rec)), (b3, J (Hs.cR x) 138), (bx, J [(.slice a21 cs.length c0)] 226), (b2, J [(.slice ao (lastB recB cs i).length co)] 22), (b1, J [(.slice a21 cs.length c0)] 226)] [1, 2, 3, 4, 5, 6] (.step true 0 (.step true 1 (.step true 2 (.step true 4 (.step true 5 (.fork 3 (.step false 6 (.step false 7 (.step false 8 .done))) (.fork 6 (.step false 3 (.step false 7 (.step false 8 .done))) .stop))))))) U aO aO (fun x hx => iK _ hx) ?_
  refine ZBn ?_
  refine oD ?_ ?_
  ·refine DX U (eO (F := [(lb, .loop (busy rec)), (b3, J (Hs.cR x) 138), (bx, J [(.slice a21 cs.length c0)] 226), (b2, J [(.slice ao (lastB recB cs i).length co)] 22), (b1, J [(.slice a21 cs.length c0)] 226)]) (A := GO) (G := G1) K_ U (uG (Ij _ (lastB recB cs i) GO hVo x.n 4 M I))) U X5 ?_
   rintro v1 _ ⟨G3, hV1, rfl⟩
   obtain ⟨a34, cx1, rfl⟩ := hV1.slice
   refine Bg ?_
   rintro _ _ ⟨b4, rfl, rfl⟩
   refine T4 ?_
   rintro v2 _ ⟨G4, hV2, rfl⟩
   obtain ⟨a49, c2, rfl⟩ := hV2.slice
   refine Q7 fun hout => ?_
   exact DZ U (bH (l' := [_]) 3) U aW T9
  refine oD ?_ ?_
  ·refine Bg ?_
   rintro _ _ ⟨b4, rfl, rfl⟩
   refine DX U (eO (F := [(b4, _)] ++ [(lb, .loop (busy rec)), (b3, J (Hs.cR x) 138), (bx, J [(.slice a21 cs.length c0)] 226), (b2, J [(.slice ao (lastB recB cs i).length co)] 22), (b1, J [(.slice a21 cs.length c0)] 226)]) (A := GO) (G := G1) K_ U (uG (Ij _ (lastB recB cs i) GO hVo x.n 4 M I))) U X5 ?_
   rintro v1 _ ⟨G3, hV1, rfl⟩
   obtain ⟨a34, cx1, rfl⟩ := hV1.slice
   refine T4 ?_
   rintro v2 _ ⟨G4, hV2, rfl⟩
   obtain ⟨a49, c2, rfl⟩ := hV2.slice
   refine Q7 fun hout => ?_
   exact DZ U (bH (l' := [_]) 3) U aW T9
  exact yE
 ·rintro ⟨i, vo, GO⟩ ⟨hi0, hi1, hVo⟩ hj hl
  dsimp only [bkH] at hi0 hi1 hVo hj hl ⊢
  obtain ⟨ao, co, rfl⟩ := hVo.slice
  generalize hx : cs.getD (cs.length - 1 - i) Hs.r0 = x
  unfold uL
  refine ZBn ?_
  refine ZC2 ?_
  rintro _ _ ⟨b3, rfl, rfl⟩
  refine W (bH (l' := Hs.cR x) 0) U ?_
  try simp only [ct, bq, aw, ak, bf]
  refine Ml ?_
  refine aI ?_
  refine gZ ?_
  refine RW (v := (.int .i64 ((cs.length : Int) - 10))) U U (aD _ (bY I I)) (uQ ?_)
  refine ZA7 ?_
  exact ⟨_, fun _ h => h.sub (.cons_cons _ (.cons _ aJ)), by trivial, fun _ h => h⟩
 rintro _ _ ⟨rfl, ⟨i, vo, GO⟩, rec', ⟨hi0, hi1, hVo⟩, hcnt, hb', hp', rfl⟩
 dsimp only at hi0 hi1 hVo hcnt ⊢
 obtain ⟨ao, co, rfl⟩ := hVo.slice
 refine ⟨rec', (D0, .deferred (some [])) :: (b2, J [(.slice ao (lastB recB cs i).length co)] 22) :: (GO ++ sH sb d g k), fun _ h => St.fl [[(lb, .loop rec')], [(bx, J [(.slice a21 cs.length c0)] 226)], [(b2, J [(.slice ao (lastB recB cs i).length co)] 22)], [(b1, J [(.slice a21 cs.length c0)] 226)], GO, G1, [(D0, .deferred (some []))], sH sb d g k] [0, 6, 2, 4, 7] U (h.as Dz), hb', hp', ?_⟩
 refine Zr U ?_
 refine ZDG ?_
 exact ZDL
def aL7 (x : Int) (w : AI) : aG prog 112 [.int .u64 x] w [] (V_ (.bool false)) := by
 refine aT func112 ?_
 refine bA ?_
 refine gO false U U U (bne_self_eq_false _) ?_
 exact fN
def aHV (x : Int) (w : AI) : aG prog 76 [.int .u64 x] w [] (V_ (.bool false)) := by
 refine aT func76 ?_
 refine bA ?_
 refine gO false U U U (bne_self_eq_false _) ?_
 exact fN
def aMN (x y : Int) (w : AI) : aG prog 75 [.int .u64 x, .int .u64 y] w [] (V_ (.bool (decide (x < y)))) := by
 refine aT func75 ?_
 refine ZDG ?_
 refine aP K_ (aS (aL7 _)) ?_
 refine lS ?_
 exact E0 U ⟨U, U⟩
def aI9 (a : AC) (c : Nat) (l : AB) (hs : l.Pairwise (· < ·)) (hl : l.length ≤ 1000000) (x : Int) (w : AI) (hN : Ns w .u64 a l) : aG prog 36 [.slice a l.length c, .int .u64 x] w [] (fun v H => ∃ (i : Nat) (f : Bool), v = .tuple #[.int .i64 i, .bool f] ∧ H = [] ∧ (f = false → x ∉ l)) := by
 refine aT func36 ?_
 refine bA ?_
 refine gZ ?_
 refine cL ?_
 refine dV (σ := Nat × Nat) [7, 8, 9, 13, 14, 15, 16, 17, 18, 19, 20, 21, 22, 23, 24, 25, 26, 27, 28, 29, 30] (fun s => [(7, .int .i64 s.1), (8, .int .i64 s.2)]) (fun _ => []) (fun s => s.1 ≤ s.2 ∧ s.2 ≤ l.length ∧ (∀ p, p < s.1 → l.getD p 0 < x) ∧ (∀ p, s.2 ≤ p → p < l.length → x ≤ l.getD p 0)) (fun s => s.2 - s.1) (0, l.length) ?_ ?_ ?_ ?_
 ·exact ⟨av _, bi _, fun p hp => aR, fun p h1 h2 => aR⟩
 ·exact .cons U (.cons U .nil)
 ·exact fun _ h => h
 rintro ⟨i, j⟩ y3 ⟨hi, hj, q0, q1⟩
 dsimp only at hi hj q0 q1 ⊢
 refine ZDG ?_
 refine KC (fun q2 z2 => ?_) (fun q2 z2 => ?_)
 ·refine aI ?_
  refine hY ?_
  refine RW (gN U U U) U aCB (Io ?_)
  refine RW (v := (.int .i64 ((((i + j) / 2) : Nat) : Int))) U U (aD _ ((bY I I).trans I)) (ZA7 ?_)
  obtain ⟨b, o, rfl, hr⟩ := hN.row (i := ((i + j) / 2)) I
  refine ZA7 ?_
  refine RY (eB ((i + j) / 2) U U U U I) U (W (aX U U (cB (hr _ _ (gJ (l := l) (j := ((i + j) / 2)) I)) aL)) U (ZBE ?_))
  refine aP K_ (aS (aMN _ x)) ?_
  refine ZBE ?_
  refine KC (fun q3 z3 => ?_) (fun q3 z3 => ?_)
  ·refine ZAm ?_
   refine hY ?_
   refine ZAm ?_
   exact ⟨(((i + j) / 2) + 1, j), ⟨by show ((i + j) / 2) + 1 ≤ j; omega, hj, aGk hs (h := ((i + j) / 2)) I (dr q3) U, q1⟩, by show j - (((i + j) / 2) + 1) < j - i; omega, .cons (by first | rfl | exact aD _ (eX I)) (.cons U .nil), bJ, fun _ h => h⟩
  refine ZBy ?_
  exact ⟨(i, ((i + j) / 2)), ⟨by show i ≤ ((i + j) / 2); omega, by show ((i + j) / 2) ≤ l.length; omega, q0, fun p hp hq => by
   have hp : (i + j) / 2 ≤ p := hp
   have q4 := dw q3
   rcases Nat.eq_or_lt_of_le hp with rfl | hp
   ·omega
   have q5 := (List.pairwise_iff_getElem.1 hs) ((i + j) / 2) p I hq hp
   have e1 : l.getD p 0 = l[p] := by simp [hq]
   have e2 : l.getD ((i + j) / 2) 0 = l[((i + j) / 2)] := by simp [show ((i + j) / 2) < l.length by omega]
   omega⟩, by show ((i + j) / 2) - i < j - i; omega, .cons rfl (.cons rfl .nil), bJ, fun _ h => h⟩
 refine ZAm ?_
 obtain rfl : i = j := by omega
 refine ZBn ?_
 refine KL (fun q3 z3 => ?_) (fun q3 z3 => ?_)
 ·obtain ⟨b, o, rfl, hr⟩ := hN.row (i := i) I
  refine ZAm ?_
  refine K0 ?_
  refine ZAm ?_
  refine KL (fun q4 z4 => ?_) (fun q4 z4 => ?_)
  ·refine lZ ?_
   exact aZ (fun _ _ => eY U U) ⟨_, _, U, U, fun h => by cases h⟩
  refine ZAm ?_
  refine K0 ?_
  refine aP K_ (aS (aHV _)) ?_
  refine cL ?_
  exact aZ (fun _ _ => eY U U) ⟨_, _, U, U, fun _ => aAT hs q0 (fun hi => ⟨by simpa using q4, q1 i (bi _) hi⟩)⟩
 refine Gv ?_
 exact aZ (fun _ _ => eY U U) ⟨_, _, U, U, fun _ => aAT hs q0 (fun hi => absurd hi I)⟩
def aMf (a : AC) (c : Nat) (l : AB) (hl : l.length ≤ 1000000) (hb : bE l) (w : AI) (hB : Ns w .u8 a l) : aG prog 106 [.slice a l.length c] w [] (V_ (.int .u64 (Gr l))) := by
 refine aT func106 ?_
 refine fJ ?_
 refine oS ?_
 refine dV (σ := Nat) [3, 5, 8, 9, 10, 11, 12, 13, 14, 15, 16, 17] (fun i => [(3, .int .u64 (Ca l i)), (8, .int .i64 i)]) (fun _ => []) (fun i => i ≤ l.length) (fun i => l.length - i) 0 ?_ ?_ ?_ ?_
 ·exact av _
 ·exact .cons U (.cons U .nil)
 ·exact fun _ h => h
 rintro i y3 hi
 refine ZBn ?_
 refine KC (fun q0 z0 => ?_) (fun q0 z0 => ?_)
 ·refine ZBy ?_
  obtain ⟨ba, oa, rfl, hra⟩ := hB.row (i := i) I
  have hby := hb.get i
  have hok := aNc l i
  refine ZBE ?_
  refine RY (eB (n := l.length) i U U U U I) U (W (aX U U (cB (hra _ _ (gJ (l := l) (j := i) I)) aL)) U (ZBn ?_))
  refine RW (v := (.int .u64 (l.getD i 0))) U U (Bv I I) (RW (Qc U U) U U (RW (v := (.int .u64 (Ca l (i + 1)))) U U (Mk _) (ZA7 ?_)))
  exact Jg
 refine ZAm ?_
 obtain rfl : i = l.length := by omega
 refine ZBn ?_
 exact E0 U ⟨U, U⟩
def aAm (a1 a2 : AC) (c1 c2 : Nat) (a b : AB) (hl : b.length ≤ 1000000) (hab : a.length = b.length) (w : AI) (hA : Ns w .u8 a1 a) (hB : Ns w .u8 a2 b) : aG prog 68 [.slice a1 a.length c1, .slice a2 b.length c2] w [] (V_ (.int .i64 (bS a b))) := by
 refine aT func68 ?_
 refine cL ?_
 refine dV (σ := Nat) [5, 6, 7, 8, 9, 10, 11, 12, 13, 14, 15, 16, 17, 18, 19, 20, 21, 22] (fun i => [(5, .int .i64 i)]) (fun _ => []) (fun i => i ≤ bS a b) (fun i => bS a b - i) 0 ?_ ?_ ?_ ?_
 ·exact av _
 ·exact .cons U .nil
 ·exact fun _ h => h
 rintro i y2 hi
 have hle := Dj a b
 refine ZAm ?_
 have hx9 : i < b.length → ∃ b1 o1 b2 o2, a1 = some ⟨b1, o1, none⟩ ∧ a2 = some ⟨b2, o2, none⟩ ∧ aK w b1 o1 (a.map Z) ∧ aK w b2 o2 (b.map Z) := fun h => by
  obtain ⟨b0, o1, e1, r1⟩ := hA.row (i := i) I
  obtain ⟨b1, o2, e2, r2⟩ := hB.row (i := i) h
  exact ⟨b0, o1, b1, o2, e1, e2, r1, r2⟩
 refine DR [9, 10, 11, 12] (bW [0, 2, 4, 6, 8, 10, 12, 14, 16, 18, 20, 22, 24, 26, 28]) ?_
 refine ZAm ?_
 refine DY U fY U (ZBE ?_)
 refine KE (fun q0 z0 => ?_) (fun q0 z0 => ?_)
 ·obtain ⟨b0, o1, b1, o2, rfl, rfl, hra, hrb⟩ := hx9 I
  refine ZAm ?_
  refine DY U (eB (n := a.length) i U U U U I) U (DL U U U (gD (hra _ _ (gJ (l := a) (j := i) I)) aL) U (ZAm ?_))
  refine DY U (eB (n := b.length) i U U U U I) U (DL U U U (gD (hrb _ _ (gJ (l := b) (j := i) I)) aL) U (ZA7 ?_))
  refine KC (fun q1 z1 => ?_) (fun q1 z1 => ?_)
  ·refine ZBy ?_
   refine jF ?_
   have hm9 := aBP hi I I oZ
   exact ⟨i + 1, aR, aR, .cons U .nil, bJ, fun _ h => h⟩
  refine ZDG ?_
  exact E0 U ⟨U, (aD (fun n : Nat => Value.int .i64 (n : Int)) (X9 hi I I oZ))⟩
 refine Bw ?_
 exact E0 U ⟨U, (aD (fun n : Nat => Value.int .i64 (n : Int)) I)⟩
def aAb (n0 : Nat) (hn : n0 ≤ 1000000) (xs0 : AB) (a0 : AC) (c0 : Nat) (G0 : aF) (hl : xs0.length ≤ 10000000) (hV0 : bM 5 1 (.slice a0 xs0.length c0) xs0.length (xs0.map (.int .u8)) G0) (w : AI) (hst : St w (G0.map (·.1)) G0 w) : aG prog 69 [.slice a0 xs0.length c0, .int .i64 n0] w (G0.map (·.1)) (fun v H => ∃ a c, v = .slice a (xs0 ++ putP n0).length c ∧ bM 5 1 v (xs0 ++ putP n0).length ((xs0 ++ putP n0).map (.int .u8)) H) := by
 refine cE func69 hst ?_
 refine aI ?_
 refine dV (σ := Nat × AB × AC × Nat × aF) [0, 1, 5, 6, 7, 8, 9, 10, 11, 12, 13, 14] (fun s => [(0, .slice s.2.2.1 s.2.1.length s.2.2.2.1), (1, .int .i64 s.1)]) (fun s => s.2.2.2.2) (fun s => bM 5 1 (.slice s.2.2.1 s.2.1.length s.2.2.2.1) s.2.1.length (s.2.1.map (.int .u8)) s.2.2.2.2 ∧ s.2.1 ++ putP s.1 = xs0 ++ putP n0 ∧ s.1 ≤ n0) (fun s => s.1) (n0, xs0, a0, c0, G0) ?_ ?_ ?_ ?_
 ·exact ⟨hV0, U, bi _⟩
 ·exact .cons U (.cons U .nil)
 ·exact fun _ h => h
 rintro ⟨n, xs, a, c, G⟩ y1 ⟨hV, he, hn9⟩
 dsimp only at hV he hn9 ⊢
 have hpl := aD List.length he
 rw [bQ, bQ] at hpl
 have hp0 := (wD n0).2
 refine aI ?_
 refine KC (fun q0 z0 => ?_) (fun q0 z0 => ?_)
 ·refine aI ?_
  refine RW (v := (.int .u8 ((n : Int) % 256))) U U (yC _) (RW (v := (.int .u8 ((n % 128 + 128 : Nat) : Int))) (dM U U) U (aD _ ((aKw I).trans I)) (RX (eQ (z := [.int .u8 0]) (l := [.int .u8 ((n % 128 + 128 : Nat) : Int)]) (ps := [(0, .int .u8 ((n % 128 + 128 : Nat) : Int))]) U U U U U U) U (ZBN fun b0 => ?_)))
  refine RX (vN (A := [(b0, _)]) (G := G) (v := .slice a xs.length c) (n := xs.length) (xs := xs.map (.int .u8)) (m := 1) (T := 5) (s := 1) (by_ := 1) (ys := [.int .u8 ((n % 128 + 128 : Nat) : Int)]) U U U U hV (fun w hw => .row _ _ _ _ _ U (aH (b := b0) (.head _) w hw)) U I I) U ?_
  rintro v0 _ ⟨Gx0, hW12, _, rfl⟩
  have hX12 : bM 5 1 v0 (xs ++ [((n % 128 + 128 : Nat) : Int)]).length ((xs ++ [((n % 128 + 128 : Nat) : Int)]).map (.int .u8)) Gx0 := hW12.as (by rw [bQ]; rfl) (by rw [bz]; rfl)
  obtain ⟨a12, cx0, rfl⟩ := hX12.slice
  refine ZBy ?_
  refine RW (v := (.int .i64 ((n / 128 : Nat) : Int))) (iV U U M) U ((qC 128 M M).trans (aD _ I)) (ZAm ?_)
  exact ⟨(n / 128, xs ++ [((n % 128 + 128 : Nat) : Int)], a12, cx0, Gx0), ⟨hX12, by rw [eC, ← he, Sq (n := n) I]; rfl, by show n / 128 ≤ n0; omega⟩, by show n / 128 < n; omega, .cons U (.cons U .nil), bJ, fun _ h => h.sub (cj _ _)⟩
 refine ZAm ?_
 have hlt : n < 128 := by omega
 refine ZA7 ?_
 refine RW (v := (.int .u8 (n : Int))) U U (Do I I) (RX (eQ (z := [.int .u8 0]) (l := [.int .u8 (n : Int)]) (ps := [(0, .int .u8 (n : Int))]) U U U U U U) U (ZBN fun b0 => ?_))
 refine RX (vN (A := [(b0, _)]) (G := G) (v := .slice a xs.length c) (n := xs.length) (xs := xs.map (.int .u8)) (m := 1) (T := 5) (s := 1) (by_ := 1) (ys := [.int .u8 (n : Int)]) U U U U hV (fun w hw => .row _ _ _ _ _ U (aH (b := b0) (.head _) w hw)) U I I) U ?_
 rintro v0 _ ⟨Gx0, hW19, _, rfl⟩
 have e9 : xs ++ [(n : Int)] = xs0 ++ putP n0 := by rw [← E5 hlt]; exact he
 have hX19 : bM 5 1 v0 (xs0 ++ putP n0).length ((xs0 ++ putP n0).map (.int .u8)) Gx0 := hW19.as (by rw [← e9, bQ]; rfl) (by rw [← e9, bz]; rfl)
 obtain ⟨a19, cx0, rfl⟩ := hX19.slice
 refine ZA7 ?_
 exact EV U (cj _ _) ⟨a19, cx0, U, hX19⟩
def aLZ (a1 a2 : AC) (c1 c2 : Nat) (a b : AB) (hl : b.length ≤ 1000000) (hab : a.length = b.length) (hc1 : a.length ≤ c1) (hc2 : b.length ≤ c2) (w : AI) (hA : Ns w .u8 a1 a) (hB : Ns w .u8 a2 b) : aG prog 70 [.slice a1 a.length c1, .slice a2 b.length c2] w [] (V_ (.int .i64 (oth a b))) := by
 refine aT func70 ?_
 refine cL ?_
 refine dV (σ := Nat) [5, 6, 7, 8, 9, 10, 11, 12, 13, 14, 15, 16, 17, 18, 19, 20, 21, 22, 23, 24, 25, 26, 27, 28, 29, 30, 31] (fun k => [(5, .int .i64 k)]) (fun _ => []) (fun k => k ≤ b.length ∧ k + oth (a.drop k) (b.drop k) = oth a b) (fun k => b.length - k) 0 ?_ ?_ ?_ ?_
 ·exact ⟨av _, cg _⟩
 ·exact .cons U .nil
 ·exact fun _ h => h
 rintro k y2 ⟨hk, he⟩
 refine ZBn ?_
 refine gZ ?_
 refine ZAm ?_
 refine KC (fun q0 z0 => ?_) (fun q0 z0 => ?_)
 ·refine ZA7 ?_
  obtain ⟨b0, o1, rfl, hra⟩ := hA.row (i := k) I
  obtain ⟨b1, o2, rfl, hrb⟩ := hB.row (i := k) I
  have hda : (a.drop k).length = a.length - k := dN
  have hdb : (b.drop k).length = b.length - k := dN
  have hln := Dj (a.drop k) (b.drop k)
  have hne : (b.drop k) ≠ [] := fun h => by rw [h] at hdb; simp only [ax] at hdb; omega
  refine DR [] (bW [0, 2, 4, 6, 8, 10, 13, 14]) ?_
  refine ZAm ?_
  refine DW (v := (.slice (some ⟨b0, o1 + k, none⟩) (a.drop k).length (c1 - k))) U (mB k a.length U U U U U U I I) U (by rw [sS I, hda]) (ZAm ?_)
  refine DW (v := (.slice (some ⟨b1, o2 + k, none⟩) (b.drop k).length (c2 - k))) U (mB k b.length U U U U U U I I) U (by rw [sS I, hdb]) (DZ U (dG K_ U (fun w hw => aAm (some ⟨b0, o1 + k, none⟩) (some ⟨b1, o2 + k, none⟩) (c1 - k) (c2 - k) (a.drop k) (b.drop k) I I w (Ns.of (aK.dropK (cG hra aL w hw) k)) (Ns.of (aK.dropK (cG hrb aL w hw) k)))) U aW (ZDG ?_))
  refine KL (fun q1 z1 => ?_) (fun q1 z1 => ?_)
  ·refine Fy ?_
   exact ZEE
  refine ZAm ?_
  refine RW (v := (.int .i64 ((k + bS (a.drop k) (b.drop k) : Nat) : Int))) U U (aD _ ((bY I I).trans I)) (ZBE ?_)
  refine oS ?_
  refine KC (fun q2 z2 => ?_) (fun q2 z2 => ?_)
  ·refine ZDG ?_
   exact ZEE
  refine ZBy ?_
  refine RW (v := (.int .i64 ((bS (a.drop k) (b.drop k) + 1 : Nat) : Int))) U U (aD _ (eX I)) (RW (v := (.int .i64 ((k + (bS (a.drop k) (b.drop k) + 1) : Nat) : Int))) U U (aD _ ((bY I I).trans I)) (ZAm ?_))
  have hns : ¬ (4 ≤ bS (a.drop k) (b.drop k) ∨ bS (a.drop k) (b.drop k) = (b.drop k).length) := by omega
  have hm9 := aAv hne hns
  rw [bw, bw] at hm9
  exact ⟨k + (bS (a.drop k) (b.drop k) + 1), ⟨aR, aR⟩, aR, .cons U .nil, bJ, fun _ h => h⟩
 refine ZDG ?_
 have hz : oth (a.drop k) (b.drop k) = 0 := by rw [show (b.drop k) = [] from gq I]; exact aPz _
 exact E0 U ⟨U, (aD (fun n : Nat => Value.int .i64 (n : Int)) I)⟩
def Dk {k : AM} {w : AI} {b off : Nat} {l : AB} (h : aK w b off (l.map (.int k))) {n c : Nat} (hc : l.length ≤ c) (hn : n ≤ l.length) : aK w b (cut1 off n c) ((l.drop n).map (.int k)) := by
 have q0 := h.cut1 (l := n) (k := l.length - n) (c := c) I
 rw [← ie, dm (by rw [eD, dN]; exact bi _)] at q0
 exact q0
def aAq (b1 o1 c1 b2 o2 c2 : Nat) (a b : AB) (hl : b.length ≤ 1000000) (hab : a.length = b.length) (hc1 : a.length ≤ c1) (hc2 : b.length ≤ c2) (w : AI) (hr1 : aK w b1 o1 (a.map (.int .u8))) (hr2 : aK w b2 o2 (b.map (.int .u8))) : aG prog 32 [.slice (some ⟨b1, o1, none⟩) a.length c1, .slice (some ⟨b2, o2, none⟩) b.length c2] w [] (fun v H => ∃ a6 c6, v = .tuple #[.slice a6 (dU a b).length c6, .int .i64 0] ∧ bM 5 1 (.slice a6 (dU a b).length c6) (dU a b).length ((dU a b).map (.int .u8)) H) := by
 refine aT func32 ?_
 refine ZBn ?_
 refine aNZ (σ := Nat × AB × AC × Nat × aF × Nat × Nat × Nat × Nat) 0 [0, 1, 4, 5, 6, 7, 8, 9, 10, 11, 12, 13, 14, 15, 16, 17, 18, 19, 20, 21, 22, 23, 24, 25, 26, 27, 28, 29, 30, 31, 32, 33, 34, 35, 36, 37, 38, 39, 40, 41, 42, 43, 44, 45] (fun s => [(0, .slice (some ⟨b1, s.2.2.2.2.2.1, none⟩) (a.drop s.1).length s.2.2.2.2.2.2.1), (1, .slice (some ⟨b2, s.2.2.2.2.2.2.2.1, none⟩) (b.drop s.1).length s.2.2.2.2.2.2.2.2), (6, .slice s.2.2.1 s.2.1.length s.2.2.2.1)]) (fun s => s.2.2.2.2.1) (fun s => s.1 ≤ b.length ∧ bM 5 1 (.slice s.2.2.1 s.2.1.length s.2.2.2.1) s.2.1.length (s.2.1.map (.int .u8)) s.2.2.2.2.1 ∧ s.2.1 ++ dU (a.drop s.1) (b.drop s.1) = dU a b ∧ aK w b1 s.2.2.2.2.2.1 ((a.drop s.1).map (.int .u8)) ∧ (a.drop s.1).length ≤ s.2.2.2.2.2.2.1 ∧ aK w b2 s.2.2.2.2.2.2.2.1 ((b.drop s.1).map (.int .u8)) ∧ (b.drop s.1).length ≤ s.2.2.2.2.2.2.2.2) (fun s => b.length - s.1) U (fun _ => U) (fun hp => ?_) ?_
 ·refine ZBy ?_
  refine gZ ?_
  refine ZBE ?_
  refine gZ ?_
  refine gO false U U U lA ?_
  refine bA ?_
  refine aMq ?_
  exact hp (0, [], none, 0, [], o1, c1, o2, c2) _ _ ⟨av _, .nil, U, hr1, hc1, hr2, hc2⟩ (.cons U (.cons U (.cons U .nil))) bJ (fun _ h => h)
 rintro ⟨j, xs, a6, c6, G, p1, q0, p2, q1⟩ y4 ⟨hj, hV, he, hr0, hq1, hrx1, hq2⟩
 dsimp only at hj hV he hr0 hq1 hrx1 hq2 ⊢
 obtain ⟨n9, hn9⟩ : ∃ n, n = bS (a.drop j) (b.drop j) := ⟨_, rfl⟩
 obtain ⟨k9, hk9⟩ : ∃ k, k = oth (a.drop (j + n9)) (b.drop (j + n9)) := ⟨_, rfl⟩
 have hpk := Ul a b
 have hxl := aD List.length he
 rw [bQ] at hxl
 have hda : (a.drop j).length = a.length - j := dN
 have hdb : (b.drop j).length = b.length - j := dN
 have hln := Dj (a.drop j) (b.drop j)
 rw [← hn9] at hln
 have hdn : (a.drop (j + n9)).length = a.length - (j + n9) := dN
 have hdm : (b.drop (j + n9)).length = b.length - (j + n9) := dN
 have hr5 : aK w b1 (cut1 p1 n9 q0) ((a.drop (j + n9)).map (.int .u8)) := by have h9 := Dk hr0 (n := n9) (c := q0) I I; rw [bw] at h9; exact h9
 have hr6 : aK w b2 (cut1 p2 n9 q1) ((b.drop (j + n9)).map (.int .u8)) := by have h9 := Dk hrx1 (n := n9) (c := q1) I I; rw [bw] at h9; exact h9
 have hpn := (wD n9).2
 have hko := Ms (a.drop (j + n9)) (b.drop (j + n9))
 rw [← hk9] at hko
 have hdk : (a.drop (j + n9 + k9)).length = a.length - (j + n9 + k9) := dN
 have hdl : (b.drop (j + n9 + k9)).length = b.length - (j + n9 + k9) := dN
 have hpo := (wD k9).2
 refine ZBy ?_
 refine RX (dG K_ U (fun w hw => aAm (some ⟨b1, p1, none⟩) (some ⟨b2, p2, none⟩) q0 q1 (a.drop j) (b.drop j) I I w (Ns.of (cG hr0 aL w hw)) (Ns.of (cG hrx1 aL w hw)))) U ?_
 rintro _ G ⟨rfl, rfl⟩
 rw [← hn9]
 refine aI ?_
 refine RX (gY K_ U (kD (aAb n9 I xs a6 c6 G (by first | omega | (rw [bQ]; omega)) hV))) U ?_
 rintro _ G0 ⟨a19, c0, rfl, hV0⟩
 refine ZA7 ?_
 refine Fu ?_
 refine ZAm ?_
 refine DW (v := (.slice (some ⟨b1, (cut1 p1 n9 q0), none⟩) (a.drop (j + n9)).length (q0 - n9))) U (mB n9 (a.drop j).length U U U U U U I I) U (by rw [hda, hdn, jn]) (ZAm ?_)
 refine DW (v := (.slice (some ⟨b2, (cut1 p2 n9 q1), none⟩) (b.drop (j + n9)).length (q1 - n9))) U (mB n9 (b.drop j).length U U U U U U I I) U (by rw [hdb, hdm, jn]) (ZDG ?_)
 refine gZ ?_
 refine ZAm ?_
 refine KC (fun q2 z2 => ?_) (fun q2 z2 => ?_)
 ·refine ZDG ?_
  have e9 : (xs ++ putP n9) = dU a b := by rw [← he, hn9, Oq (by rw [bw, ← hn9]; exact List.length_eq_zero_iff.1 I)]
  rw [e9] at hV0
  exact iU (fun _ _ => eY U U) aJ ⟨a19, c0, jO, hV0⟩
 refine ZAm ?_
 have hne : (b.drop (j + n9)) ≠ [] := fun h => by have h9 := aD List.length h; simp only [ax] at h9; omega
 have hop := Fp hne aBu
 rw [← hk9] at hop
 refine ZA7 ?_
 refine RX (dG K_ U (fun w hw => aLZ (some ⟨b1, (cut1 p1 n9 q0), none⟩) (some ⟨b2, (cut1 p2 n9 q1), none⟩) (q0 - n9) (q1 - n9) (a.drop (j + n9)) (b.drop (j + n9)) I I I I w (Ns.of (cG hr5 aL w hw)) (Ns.of (cG hr6 aL w hw)))) U ?_
 rintro _ G0 ⟨rfl, rfl⟩
 rw [← hk9]
 refine ZA7 ?_
 refine DR [] (bW [0, 2, 6, 8, 10, 5, 13, 14]) ?_
 refine ZBy ?_
 refine DY U (Qj k9 U U U U I) U (DX U (gY K_ U (kD (aAb k9 I (xs ++ putP n9) a19 c0 G0 (by first | omega | (rw [bQ]; omega)) hV0))) U aW ?_)
 rintro _ G1 ⟨a35, cx1, rfl, hV1⟩
 refine DX U (vN (A := []) (G := G1) (v := .slice a35 (xs ++ putP n9 ++ putP k9).length cx1) (n := (xs ++ putP n9 ++ putP k9).length) (xs := (xs ++ putP n9 ++ putP k9).map (.int .u8)) (m := k9) (T := 5) (s := 1) (by_ := 1) (ys := ((b.drop (j + n9)).take k9).map (.int .u8)) U U U U hV1 (fun w hw => .row _ _ _ _ _ Mp (aK.takeK (cG hr6 aL w hw) k9)) (kE _ _) (by simp only [bQ]; omega) (by simp only [bQ]; omega)) U aW ?_
 rintro v0 _ ⟨G2, hW39, _, rfl⟩
 have hX39 : bM 5 1 v0 ((xs ++ putP n9 ++ putP k9) ++ (b.drop (j + n9)).take k9).length (((xs ++ putP n9 ++ putP k9) ++ (b.drop (j + n9)).take k9).map (.int .u8)) G2 := hW39.as (by simp only [bQ, fZ]; omega) (by simp only [bz])
 obtain ⟨a39, cx2, rfl⟩ := hX39.slice
 rw [aw]
 refine ZA7 ?_
 refine Fu ?_
 refine ZAm ?_
 refine DW (v := (.slice (some ⟨b1, cut1 (cut1 p1 n9 q0) k9 (q0 - n9), none⟩) (a.drop (j + n9 + k9)).length ((q0 - n9) - k9))) U (mB k9 (a.drop (j + n9)).length U U U U U U I I) U (by rw [hdn, hdk, jn]) (ZAm ?_)
 refine DW (v := (.slice (some ⟨b2, cut1 (cut1 p2 n9 q1) k9 (q1 - n9), none⟩) (b.drop (j + n9 + k9)).length ((q1 - n9) - k9))) U (mB k9 (b.drop (j + n9)).length U U U U U U I I) U (by rw [hdm, hdl, jn]) (ZA7 ?_)
 refine aQ5 U ?_
 refine ⟨(j + n9 + k9, ((xs ++ putP n9 ++ putP k9) ++ (b.drop (j + n9)).take k9), a39, cx2, G2, cut1 (cut1 p1 n9 q0) k9 (q0 - n9), (q0 - n9) - k9, cut1 (cut1 p2 n9 q1) k9 (q1 - n9), (q1 - n9) - k9), ⟨by show j + n9 + k9 ≤ b.length; omega, hX39, ?_, ?_, by show (a.drop (j + n9 + k9)).length ≤ (q0 - n9) - k9; omega, ?_, by show (b.drop (j + n9 + k9)).length ≤ (q1 - n9) - k9; omega⟩, aEf, .cons U (.cons U (.cons U .nil)), bJ, fun _ h => h⟩
 ·rw [eC, eC, eC, ← he]
  have q3 := Qr (a := (a.drop j)) (b := (b.drop j)) (by rw [bw, ← hn9]; exact hne)
  rw [bw, bw, bw, bw, ← hn9, ← hk9] at q3
  rw [q3]
 ·have q3 := Dk hr5 (n := k9) (c := (q0 - n9)) I I; rw [bw] at q3; exact q3
 have q3 := Dk hr6 (n := k9) (c := (q1 - n9)) I I; rw [bw] at q3; exact q3
def aC8 : ∀ (i n : Nat), (i = 0 ∨ 128 ^ i ≤ n) → i < (putP n).length ∧ (putP n).getD i 0 = if n / 128 ^ i < 128 then ((n / 128 ^ i : Nat) : Int) else ((n / 128 ^ i % 128 + 128 : Nat) : Int)
 | 0, n, _ => by
  rw [Nat.pow_zero, Nat.div_one]
  by_cases h : n < 128
  ·rw [E5 h, ag h]; exact ⟨ii, rfl⟩
  ·rw [Sq h, ae h]; exact ⟨kW, rfl⟩
 | i + 1, n, h => by
  have hp : 0 < 128 ^ i := ir M
  have h1 : 128 ^ (i + 1) = 128 * 128 ^ i := by rw [jf, gk]
  have hn : 128 * 128 ^ i ≤ n := by rw [← h1]; rcases h with h | h; cases h; exact h
  have hb : 128 * 1 ≤ 128 * 128 ^ i := Nat.mul_le_mul_left 128 hp
  have hi : 128 ^ i ≤ n / 128 := (Nat.le_div_iff_mul_le M).2 (by rw [gk]; exact hn)
  have key := aC8 i (n / 128) (.inr hi)
  rw [Sq I, h1, ← Nat.div_div_eq_div_mul]
  exact ⟨by simpa using key.1, key.2⟩
def putP_tot : ∀ (i n : Nat), (i = 0 ∨ 128 ^ i ≤ n) → n / 128 ^ i < 128 → (putP n).length = i + 1
 | 0, n, _, h => by rw [Nat.pow_zero, Nat.div_one] at h; rw [E5 h]; rfl
 | i + 1, n, h, hd => by
  have hp : 0 < 128 ^ i := ir M
  have h1 : 128 ^ (i + 1) = 128 * 128 ^ i := by rw [jf, gk]
  have hn : 128 * 128 ^ i ≤ n := by rw [← h1]; rcases h with h | h; cases h; exact h
  have hb : 128 * 1 ≤ 128 * 128 ^ i := Nat.mul_le_mul_left 128 hp
  have hi : 128 ^ i ≤ n / 128 := (Nat.le_div_iff_mul_le M).2 (by rw [gk]; exact hn)
  rw [h1, ← Nat.div_div_eq_div_mul] at hd
  rw [Sq I, eF, putP_tot i (n / 128) (.inr hi) hd]
def aQW {n i : Nat} (hn : n < 268435456) (hi : i ≤ 3) (h : ¬ n / 128 ^ i < 128) : i + 1 ≤ 3 ∧ 128 ^ (i + 1) ≤ n := by
 rcases (show i = 0 ∨ i = 1 ∨ i = 2 ∨ i = 3 by omega) with rfl | rfl | rfl | rfl <;> simp only [Nat.reducePow, Nat.reduceAdd] at h ⊢ <;> omega
def aJp {n i : Nat} (h : i = 0 ∨ 128 ^ i ≤ n) (hi : 0 < i) : 1 ≤ n / 128 ^ i := by
 rcases h with h | h
 ·omega
 ·exact Nat.div_pos h (ir M)
def seven_shl {i y : Nat} (hi : i ≤ 3) (hy : y < 128) : shl .i64 (y : Int) ((7 * i : Nat) : Int) = ((y * 128 ^ i : Nat) : Int) := by
 rcases (show i = 0 ∨ i = 1 ∨ i = 2 ∨ i = 3 by omega) with rfl | rfl | rfl | rfl
 ·rw [zO 1 M, bY I I]; simp only [Nat.reducePow]; omega
 ·rw [zO 128 M, bY I I]; simp only [Nat.reducePow]; omega
 ·rw [zO 16384 M, bY I I]; simp only [Nat.reducePow]; omega
 ·rw [zO 2097152 M, bY I I]; simp only [Nat.reducePow]; omega
def seven_or {i n : Nat} (hi : i ≤ 3) : bL .i64 ((n % 128 ^ i : Nat) : Int) ((n / 128 ^ i % 128 * 128 ^ i : Nat) : Int) = ((n % 128 ^ (i + 1) : Nat) : Int) := by
 have hp : 0 < 128 ^ i := ir M
 have h1 : n % 128 ^ i < 128 ^ i := io _ hp
 have h2 : n / 128 ^ i % 128 < 128 := io _ M
 have h3 : 128 ^ i ≤ 2097152 := by rcases (show i = 0 ∨ i = 1 ∨ i = 2 ∨ i = 3 by omega) with rfl | rfl | rfl | rfl <;> decide
 have h4 : n / 128 ^ i % 128 * 128 ^ i ≤ 127 * 2097152 := ki I h3
 rw [F2 (k := .i64) I (show ((n % 128 ^ i : Nat) : Int) < (9223372036854775808 : Int) by omega) I (show ((n / 128 ^ i % 128 * 128 ^ i : Nat) : Int) < (9223372036854775808 : Int) by omega)]
 congr 1
 rw [db, db]
 have e : 128 ^ i = 2 ^ (7 * i) := by rw [Nat.pow_mul]
 rw [jf, Nat.mod_mul]
 rw [e] at h1 ⊢
 rw [kg, gk, ← f6 h1, il]
def sN (a b : AB) : AB :=
 if b.drop (bS a b) = [] then [] else
  putP (oth (a.drop (bS a b)) (b.drop (bS a b))) ++ ((b.drop (bS a b)).take (oth (a.drop (bS a b)) (b.drop (bS a b))) ++
   dU ((a.drop (bS a b)).drop (oth (a.drop (bS a b)) (b.drop (bS a b)))) ((b.drop (bS a b)).drop (oth (a.drop (bS a b)) (b.drop (bS a b)))))
def wH (a b : AB) : dU a b = putP (bS a b) ++ sN a b := by
 unfold sN
 split
 ·rename_i h; rw [Oq h, aw]
 ·rename_i h; exact Qr h
def over (a b : AB) (j : Nat) : AB := b.take j ++ a.drop j
def aHl {a b : AB} (h : a.length = b.length) {j : Nat} (hj : j ≤ b.length) : (over a b j).length = b.length := by
 unfold over; rw [bQ, fZ, dN]; omega
def W2 {a b : AB} (h : a.length = b.length) {j : Nat} : over a b (j + bS (a.drop j) (b.drop j)) = over a b j := by
 have hs := aEU (a := a.drop j) (b := b.drop j) (by rw [dN, dN, h])
 generalize bS (a.drop j) (b.drop j) = n at hs
 unfold over
 rw [iw, eC, ← hs, ← bw, dz]
def aLE {a b : AB} (h : a.length = b.length) : over a b b.length = b := by
 unfold over; rw [dq, gq I, aw]
def zX {A X Z vs : AA} {m : Nat} (hA : A.length = m) (hX : X.length = vs.length) : aV (A ++ (X ++ Z)) m vs = A ++ (vs ++ Z) := by
 subst hA
 unfold aV
 rw [ip, ← hX, show A ++ (X ++ Z) = (A ++ X) ++ Z from (eC _ _ _).symm, ← bQ, f4, eC]
def aN3 {a b : AB} (h : a.length = b.length) {m k : Nat} (hk : m + k ≤ b.length) (sp : AA) :
  aV ((over a b m).map (.int .u8) ++ sp) m (((b.drop m).take k).map (.int .u8)) = (over a b (m + k)).map (.int .u8) ++ sp := by
 have e1 : (over a b m).map Z ++ sp = (b.take m).map (.int .u8) ++ (((a.drop m).take k).map (.int .u8) ++ ((a.drop (m + k)).map (.int .u8) ++ sp)) := by
  unfold over
  rw [← eC (((a.drop m).take k).map _), ← bz, ← bw, dz, bz, eC]
 rw [e1, zX Mp (by rw [eD, eD, fZ, fZ, dN, dN]; omega)]
 unfold over
 rw [iw]
 simp only [bz, eC]
def aPd (d : Db) (g : Gx) (hg : g.Ok) (k n : Nat) (hd : d.Ok g k n) (hk : k < n) (w : AI) (hst : St w ((d.H g k).map (·.1)) (d.H g k) w) : aG prog 24 [P_ d.b] w ((d.H g k).map (·.1)) (fun v H => v = .tuple #[] ∧ H = d.H g k) := by
 obtain ⟨b, hb, lb, mp, fa, fc, fs, cap, asked, done, q, m, ring, GH, ms, GL, l, c, pv, wv, tab, D⟩ := d
 obtain ⟨hle, hq, hm, hh, hrg, hL, hpk, hfi, hpa, htm, hpl⟩ := hd
 dsimp only at hle hq hm hh hrg hL hpk hfi hpa htm hpl
 refine B1 fun hst hml => ?_
 obtain ⟨hm0, hm1, hm2⟩ := hL.more I
 refine cE func24 hst ?_
 refine ZEB ?_
 refine bA ?_
 refine uQ ?_
 refine aI ?_
 refine uQ ?_
 refine ZBy ?_
 exact EN aJ ⟨U, U⟩
def Q2 (d : Db) (g : Gx) (hg : g.Ok) (n : Nat) (hn : n < 1000000) (hd : d.Ok g n n) (w : AI) (hst : St w ((d.H g n).map (·.1)) (d.H g n) w) : aG prog 24 [P_ d.b] w ((d.H g n).map (·.1)) (fun v H => v = .tuple #[] ∧ ∃ e : Db, e.Ok g n (n + 1) ∧ d.To e ∧ e.done = d.done ∧ H = e.H g n) := by
 obtain ⟨b, hb, lb, mp, fa, fc, fs, cap, asked, done, q, m, ring, GH, ms, GL, l, c, pv, wv, tab, D⟩ := d
 obtain ⟨hle, hq, hm, hh, hrg, hL, hpk, hfi, hpa, htm, hpl⟩ := hd
 dsimp only at hle hq hm hh hrg hL hpk hfi hpa htm hpl
 have hst : St w _ ((b, J (cDb cap (pM q) (P_ hb) n (.slice (Q_ fa) (g.enc 0).length fc) lb mp pv wv asked done tab) 76) :: (mp, dL .u64 (l) (c)) :: (hM q m ++ (GH ++ (GL ++ D)))) w := hst
 have hml : ms.length ≤ 256 := by have := hL.len; have := (capT_ok cap).2; omega
 have hiv := hm.inv (hg.inv n)
 have hrl : m.ram.length ≤ 200000 := by rw [hiv.fr.ram]; have := Hj g.rom; omega
 have henc : fM m = g.enc n := hm.enc
 have hel := hg.enc_le n
 have hpp : 1 ≤ (dU (g.enc 0) (g.enc n)).length := by rw [wH, bQ]; have := (wD (bS (g.enc 0) (g.enc n))).1; omega
 have hpc := Ul (g.enc 0) (g.enc n)
 have hnx : Tm.Nxt n ((n - 1 : Nat) : Int) (n : Int) := ⟨fun h => aR, fun h => aR⟩
 refine cE func24 hst ?_
 refine ZEB ?_
 refine aI ?_
 refine rR (σ := Unit) [18, 19, 20, 21, 22, 23, 24, 25, 26] (fun _ => [(26, .bool false)]) (fun _ => (b, J (cDb cap (pM q) (P_ hb) n (.slice (Q_ fa) (g.enc 0).length fc) lb mp pv wv asked done tab) 76) :: (mp, dL .u64 (l) (c)) :: (hM q m ++ (GH ++ (GL ++ D)))) (fun _ => True) ?_ ?_
 ·rcases d9 n with hz | hz
  ·refine ZBE ?_
   have hz9 := (hL.zero hz).1
   subst hz9
   refine jM ?_
   refine bZ ?_
   exact ⟨(), trivial, .cons U .nil, bJ, fun _ h => h⟩
  refine ZBE ?_
  obtain ⟨hm0, hm1, hm2⟩ := hL.more hz
  refine uQ ?_
  refine aI ?_
  refine qA ?_
  refine ZAm ?_
  exact ⟨(), trivial, .cons U .nil, bJ, fun _ h => h⟩
 rintro _ y1 _
 refine pE false U U ?_
 refine ZAm ?_
 refine mZ [(b, J (cDb cap (pM q) (P_ hb) n (.slice (Q_ fa) (g.enc 0).length fc) lb mp pv wv asked done tab) 76)] [4, 5, 6, 7, 8] (.step true 0 (.step true 1 (.step true 2 (.step true 3 (.step true 4 (.step true 5 (.step true 6 (.step true 7 (.step false 8 (.step false 9 (.step true 10 (.step true 11 (.step true 12 (.step true 13 (.step true 14 .done))))))))))))))) U aO aO (fun x hx => by rw [List.mem_singleton.1 hx]; exact .head _) ?_
 refine bA ?_
 refine DX U (eO (F := [(b, J (cDb cap (pM q) (P_ hb) n (.slice (Q_ fa) (g.enc 0).length fc) lb mp pv wv asked done tab) 76), (mp, dL .u64 (l) (c))]) (A := hM q m) (G := GH ++ (GL ++ D)) K_ U (fun w h1 _ => (by have h9 := L9 q m hiv.wf hiv.rg hrl _ w h1; rw [henc] at h9; exact h9))) U (by intro _ _ _ hK x hx; obtain ⟨_, ⟨_, _, _, _, _, rfl⟩, rfl⟩ := hK; rw [List.mem_singleton.1 hx]; exact .head _) ?_
 rintro _ _ ⟨_, ⟨b0, c0, sp0, rfl, hc0, rfl⟩, rfl⟩
 refine DX U (cQ K_ U (fun w hw => aAq fa 0 fc b0 0 c0 (g.enc 0) (g.enc n) I (hg.enc_len n).symm hfi.2 hc0 w (aH (b := fa) (l := (g.enc 0).map Z ++ fs) (.tail _ (.tail _ (bD _ (bD _ (bD _ hfi.1))))) w hw).left (aH (b := b0) (l := (g.enc n).map Z ++ sp0) (.tail _ (.tail _ (.head _))) w hw).left)) U aW ?_
 rintro _ _ ⟨G0, ⟨a37, cx1, rfl, hV0⟩, rfl⟩
 obtain ⟨b1, c37', sp1, e37, rfl, _, hc1, _⟩ := hV0.full I
 cases e37
 refine tB ?_
 refine aI ?_
 refine kG (L' := (b, J (cDb cap (pM q) (P_ hb) n (.slice (Q_ fa) (g.enc 0).length fc) lb mp pv wv asked done tab) 76) :: (mp, dL .u64 (l) (c)) :: (GL ++ (hM q m ++ (GH ++ ((b1, J ((dU (g.enc 0) (g.enc n)).map Z ++ sp1) 5) :: (b0, J ((g.enc n).map Z ++ sp0) 5) :: D))))) (fun _ h => St.fl [[(b1, J ((dU (g.enc 0) (g.enc n)).map Z ++ sp1) 5)], [(b, J (cDb cap (pM q) (P_ hb) n (.slice (Q_ fa) (g.enc 0).length fc) lb mp pv wv asked done tab) 76), (mp, dL .u64 (l) (c))], [(b0, J ((g.enc n).map Z ++ sp0) 5)], hM q m, GH, GL, D] [1, 5, 3, 4, 0, 2, 6] U h) ?_
 refine DR [4, 5, 6, 7, 8] (bW [0, 2, 4, 6, 8, 10, 12, 14, 16, 19]) ?_
 refine bZ ?_
 refine DX U (eO (F := [(b, J (cDb cap (pM q) (P_ hb) n (.slice (Q_ fa) (g.enc 0).length fc) lb mp pv wv asked done tab) 76), (mp, dL .u64 (l) (c))]) (A := GL) (G := hM q m ++ (GH ++ ((b1, J ((dU (g.enc 0) (g.enc n)).map Z ++ sp1) 5) :: (b0, J ((g.enc n).map Z ++ sp0) 5) :: D))) K_ U (fun w _ h2 => Tm.add_at (capT_ok cap) hL I hnx I h2 (aO5 h2 (bD _ (bD _ (bD _ (.head _))))))) U aW ?_
 rintro _ _ ⟨_, ⟨rfl, mk, G', D', e1, e2, rfl, hL0⟩, rfl⟩
 refine ZAm ?_
 refine kG (L' := (b, J (cDb cap (pM q) (P_ hb) n (.slice (Q_ fa) (g.enc 0).length fc) lb mp pv wv asked done tab) 76) :: (mp, dL .u64 (l) (c)) :: (G' ++ (hM q m ++ (GH ++ (D' ++ ((b1, J ((dU (g.enc 0) (g.enc n)).map Z ++ sp1) 5) :: (b0, J ((g.enc n).map Z ++ sp0) 5) :: D)))))) (fun _ h => by rw [eC] at h; exact St.fl [[(b, J (cDb cap (pM q) (P_ hb) n (.slice (Q_ fa) (g.enc 0).length fc) lb mp pv wv asked done tab) 76), (mp, dL .u64 (l) (c))], G', D', hM q m, GH, ((b1, J ((dU (g.enc 0) (g.enc n)).map Z ++ sp1) 5) :: (b0, J ((g.enc n).map Z ++ sp0) 5) :: D)] [0, 1, 3, 4, 2, 5] rfl h) ?_
 refine mZ [(b, J (cDb cap (pM q) (P_ hb) n (.slice (Q_ fa) (g.enc 0).length fc) lb mp pv wv asked done tab) 76)] [4, 5, 6, 7, 8, 9, 10, 11, 12] (.step true 0 (.step true 1 (.step true 2 (.step true 3 (.step true 4 (.step true 5 (.step true 6 (.step true 7 (.step true 8 (.step true 9 (.step true 10 (.step true 11 (.step false 12 (.step false 13 .done)))))))))))))) U aO aO (fun x hx => by rw [List.mem_singleton.1 hx]; exact .head _) ?_
 refine fJ ?_
 refine DX U (cQ K_ U (fun w hw => Hs.copy_fn hb 32 n (Hs.callsL (g.sts n)) ring (by have := Hs.callsL_len (g.sts n); omega) w (hh.histW hw (fun x hx => .tail _ (.tail _ (bD _ (bD _ (iK _ hx)))))))) U (by intro _ _ _ hK x hx; obtain ⟨_, ⟨_, rfl, _⟩, rfl⟩ := hK; rw [List.mem_singleton.1 hx]; exact bD _ (.head _)) ?_
 rintro _ _ ⟨G1, ⟨b2, rfl, hH62⟩, rfl⟩
 refine jC (H' := (b, J (cDb cap (pM q) (P_ hb) n (.slice (Q_ fa) (g.enc 0).length fc) lb mp pv wv asked done tab) 76) :: (mp, dL .u64 (l) (c)) :: (G' ++ (hM q m ++ (GH ++ (G1 ++ (D' ++ ((b1, J ((dU (g.enc 0) (g.enc n)).map Z ++ sp1) 5) :: (b0, J ((g.enc n).map Z ++ sp0) 5) :: D))))))) (fun _ h => St.fl [G1, [(b, J (cDb cap (pM q) (P_ hb) n (.slice (Q_ fa) (g.enc 0).length fc) lb mp pv wv asked done tab) 76), (mp, dL .u64 (l) (c))], G', hM q m, GH, D' ++ ((b1, J ((dU (g.enc 0) (g.enc n)).map Z ++ sp1) 5) :: (b0, J ((g.enc n).map Z ++ sp0) 5) :: D)] [1, 2, 3, 4, 0, 5] U h) ?_
 obtain ⟨hfn, hpa2⟩ := (hpa.more (D' := (G1 ++ (D' ++ ((b1, J ((dU (g.enc 0) (g.enc n)).map Z ++ sp1) 5) :: (b0, J ((g.enc n).map Z ++ sp0) 5) :: D)))) (fun x hx => bD _ (bD _ (.tail _ (.tail _ hx))))).new ⟨b2, ring, G1, rfl, hH62, hrg, (fun x hx => iK _ hx)⟩ e1 (ms' := (Tm.addM (capT cap).toNat ms mk)) (fun x hx => (Tm.addM_sub _ _ _).subset hx)
 refine DZ U (aC2 1 U U U U U hfn) U aW ?_
 try simp only [ct, bq, aw, ak, bf]
 refine ZAm ?_
 obtain ⟨hn0, _, _⟩ := hL0.more I
 have hml2 : (Tm.addM (capT cap).toNat ms mk).length ≤ 256 := by have := hL0.len; have := (capT_ok cap).2; omega
 refine ZBn ?_
 refine RX (cQ K_ U (fun w hw => Tm.marks_fn lb (capT cap) (Tm.addM (capT cap).toNat ms mk) I w (hL0.line.lineW hw (fun x hx => .tail _ (.tail _ (iK _ hx)))))) U ?_
 rintro v0 _ ⟨G2, hV1, rfl⟩
 obtain ⟨b3, c2, sp2, e67, rfl, _, hc2, _⟩ := (hV1.as (Tm.times_len (Tm.addM (capT cap).toNat ms mk)).symm rfl).full (by rw [Tm.times_len]; omega)
 subst e67
 refine bA ?_
 refine RX (aQg (l := l ++ [((n : Int), P_ b2, c)]) (c := c + 1) U U (.tail _ (.tail _ (.head _)))) U ?_
 rintro _ _ ⟨r72, rfl, rfl⟩
 refine cZ (H' := (r72, oQ mp (c + 1) [] (c + 1)) :: (b, J (cDb cap (pM q) (P_ hb) n (.slice (Q_ fa) (g.enc 0).length fc) lb mp pv wv asked done tab) 76) :: (mp, dL .u64 (l ++ [((n : Int), P_ b2, c)]) (c + 1)) :: (G' ++ (hM q m ++ (GH ++ ((b3, J ((Tm.times (Tm.addM (capT cap).toNat ms mk)).map (Value.int .u64) ++ sp2) 38) :: (G1 ++ (D' ++ ((b1, J ((dU (g.enc 0) (g.enc n)).map Z ++ sp1) 5) :: (b0, J ((g.enc n).map Z ++ sp0) 5) :: D)))))))) (fun _ h => St.fl [[(r72, oQ mp (c + 1) [] (c + 1))], [(b3, J ((Tm.times (Tm.addM (capT cap).toNat ms mk)).map (Value.int .u64) ++ sp2) 38)], [(b, J (cDb cap (pM q) (P_ hb) n (.slice (Q_ fa) (g.enc 0).length fc) lb mp pv wv asked done tab) 76), (mp, dL .u64 (l ++ [((n : Int), P_ b2, c)]) (c + 1))], G', hM q m, GH, (G1 ++ (D' ++ ((b1, J ((dU (g.enc 0) (g.enc n)).map Z ++ sp1) 5) :: (b0, J ((g.enc n).map Z ++ sp0) 5) :: D)))] [0, 2, 3, 4, 5, 1, 6] U h) ?_
 refine ZAm ?_
 refine dV (σ := List hU × AE) [7, 8, 9, 73, 74, 75, 76, 77, 78, 79, 80, 81, 82, 83, 84, 85, 86, 87, 88, 89] (fun _ => []) (fun s => (r72, oQ mp (c + 1) s.2 (c + 1)) :: (b, J (cDb cap (pM q) (P_ hb) n (.slice (Q_ fa) (g.enc 0).length fc) lb mp pv wv asked done tab) 76) :: (mp, dL .u64 s.1 (c + 1)) :: (G' ++ (hM q m ++ (GH ++ ((b3, J ((Tm.times (Tm.addM (capT cap).toNat ms mk)).map (Value.int .u64) ++ sp2) 38) :: (G1 ++ (D' ++ ((b1, J ((dU (g.enc 0) (g.enc n)).map Z ++ sp1) 5) :: (b0, J ((g.enc n).map Z ++ sp0) 5) :: D)))))))) (fun s => rW g s.1 (c + 1) (Tm.addM (capT cap).toNat ms mk) (n + 1) (G1 ++ (D' ++ ((b1, J ((dU (g.enc 0) (g.enc n)).map Z ++ sp1) 5) :: (b0, J ((g.enc n).map Z ++ sp0) 5) :: D)))) (fun s => (pU s.1 s.2).length) (l ++ [((n : Int), P_ b2, c)], []) ?_ ?_ ?_ ?_
 ·exact hpa2
 ·exact .nil
 ·exact fun _ h => h
 rintro ⟨l9, seen⟩ y7 hp9
 dsimp only at hp9 ⊢
 refine ZBE ?_
 by_cases hle9 : pU l9 seen = []
 ·refine ZBE ?_
  refine W (aOu 0 U U (.tail _ (.tail _ (.head _))) hp9.old (bi _) hle9) U (jM ?_)
  refine ZBy ?_
  refine lC (H' := (b, J (cDb cap (pM q) (P_ hb) n (.slice (Q_ fa) (g.enc 0).length fc) lb mp pv wv asked done tab) 76) :: (mp, dL .u64 (l9) (c + 1)) :: (hM q m ++ (GH ++ (G' ++ ((b3, J ((Tm.times (Tm.addM (capT cap).toNat ms mk)).map (Value.int .u64) ++ sp2) 38) :: (G1 ++ (D' ++ ((b1, J ((dU (g.enc 0) (g.enc n)).map Z ++ sp1) 5) :: (b0, J ((g.enc n).map Z ++ sp0) 5) :: D)))))))) (fun _ _ => nK) (fun _ h => St.fl [[(r72, oQ mp (c + 1) seen (c + 1))], [(b, J (cDb cap (pM q) (P_ hb) n (.slice (Q_ fa) (g.enc 0).length fc) lb mp pv wv asked done tab) 76), (mp, dL .u64 (l9) (c + 1))], G', hM q m, GH, ((b3, J ((Tm.times (Tm.addM (capT cap).toNat ms mk)).map (Value.int .u64) ++ sp2) 38) :: (G1 ++ (D' ++ ((b1, J ((dU (g.enc 0) (g.enc n)).map Z ++ sp1) 5) :: (b0, J ((g.enc n).map Z ++ sp0) 5) :: D))))] [1, 3, 4, 2, 5] U h) ?_
  refine ⟨U, ⟨b, hb, lb, mp, fa, fc, fs, cap, asked, done, q, m, ring, GH, (Tm.addM (capT cap).toNat ms mk), G', l9, c + 1, pv, wv, tab, ((b3, J ((Tm.times (Tm.addM (capT cap).toNat ms mk)).map (Value.int .u64) ++ sp2) 38) :: (G1 ++ (D' ++ ((b1, J ((dU (g.enc 0) (g.enc n)).map Z ++ sp1) 5) :: (b0, J ((g.enc n).map Z ++ sp0) 5) :: D))))⟩, ⟨Nat.le_succ _, hq, hm, hh, hrg, Hm hL0 ?_, fun x hx => ?_, ⟨(.tail _ (bD _ (bD _ (.tail _ (.tail _ hfi.1))))), hfi.2⟩, ?_, ?_, ?_⟩, ⟨U, U, U, U, U, U, U, (fun x hx => .tail _ (bD _ (bD _ (.tail _ (.tail _ hx)))))⟩, U, U⟩
  ·exact fun x hx => .tail _ (bD _ ((List.mem_append.1 hx).elim (fun h => iK _ h) (fun h => bD _ (.tail _ (.tail _ h)))))
  ·rcases List.mem_append.1 ((Tm.addM_sub _ _ _).subset hx) with h9 | h9
   ·exact hpk x h9
   rw [List.mem_singleton.1 h9, e2, e1]; rfl
  ·exact hp9.more (fun x hx => .tail _ hx)
  ·show Tm.times (Tm.addM (capT cap).toNat ms mk) = Xo _ (n + 1)
   rw [aFY, e1, htm]; rfl
  obtain ⟨GP, q0, q1⟩ := hpl
  exact ⟨GP, q0, fun x hx => .tail _ (bD _ (bD _ (.tail _ (.tail _ (q1 x hx)))))⟩
 refine ZBE ?_
 refine RX (aN2 0 U U (.tail _ (.tail _ (.head _))) hp9.old (bi _) hle9) U ?_
 rintro _ _ ⟨y9, hy9, rfl, rfl⟩
 rw [ak]
 refine iX ?_
 refine ZDG ?_
 refine W (aGJ U (.head _) (.tail _ (.tail _ (.head _))) (aF0 hy9) hp9.nd) U (ZDG ?_)
 refine RX (cQ K_ U (fun w hw => aI9 (Q_ b3) c2 (Tm.times (Tm.addM (capT cap).toNat ms mk)) (aIy hL0.rise) (by rw [Tm.times_len]; omega) y9.1 w (Ns.of (aH (b := b3) (l := (Tm.times (Tm.addM (capT cap).toNat ms mk)).map (Value.int .u64) ++ sp2) (.tail _ (.tail _ (.tail _ (bD _ (bD _ (bD _ (.head _))))))) w hw).left))) U ?_
 rintro _ _ ⟨_, ⟨j9, f9, rfl, rfl, hf9⟩, rfl⟩
 rw [bq]
 refine iG ?_
 refine KC (fun q0 z0 => ?_) (fun q0 z0 => ?_)
 ·refine aI ?_
  refine W (aJz 2 U U U U U) U ?_
  try simp only [ct, bq, aw, ak, bf]
  refine ZBE ?_
  exact ⟨(oY y9.1 l9, seen ++ [y9.2.2]), hp9.drop (fun x hx he => hf9 (by simpa using q0) (List.mem_map.2 ⟨x, hx, he⟩)), Nat.lt_of_le_of_lt (aLF _ _ _) (aEp hy9), .nil, bJ, fun _ h => h⟩
 refine ZBE ?_
 exact ⟨(l9, seen ++ [y9.2.2]), hp9, aEp hy9, .nil, bJ, fun _ h => h⟩
def aD8 (d : Db) (g : Gx) (hg : g.Ok) (k n : Nat) (hd : d.Ok g k n) (hk : k < n) (hn : n < 1000000) (hdn0 : 0 ≤ d.done ∧ d.done < 1000000000000000) (w : AI) (hst : St w ((d.H g k).map (·.1)) (d.H g k) w) : aG prog 114 [P_ d.b] w ((d.H g k).map (·.1)) (fun v H => ∃ (e : Db) (va : AH) (GA : aF), e.Ok g (k + 1) (max n (k + 2)) ∧ d.To e ∧ e.done = d.done + 1 ∧ v = va ∧ bM 329 3 va (g.m (k + 1)).acc.length (aN cAc (g.m (k + 1)).acc) GA ∧ (∀ x ∈ GA, x ∈ e.D) ∧ H = e.H g (k + 1)) := by
 obtain ⟨b, hb, lb, mp, fa, fc, fs, cap, asked, done, q, m, ring, GH, ms, GL, l, c, pv, wv, tab, D⟩ := d
 obtain ⟨hle, hq, hm, hh, hrg, hL, hpk, hfi, hpa, htm, hpl⟩ := hd
 dsimp only at hle hq hm hh hrg hL hpk hfi hpa htm hpl
 refine B1 fun hst hml => ?_
 dsimp only at hdn0
 obtain ⟨GP, hP, hGP⟩ := hpl
 have hiv := hm.inv (hg.inv k)
 have hpcr := hiv.rg.pc
 have hse1 : (eT g.plan m).1 = (eT g.plan (g.m k)).1 := by rw [hm.step]
 have hse2 : (eT g.plan m).2 = (g.m (k + 1)) := by rw [hm.step]; rfl
 have hbk : (if 32768 ≤ m.cpu.r.pc then 0 else bankB m.cpu.r.pc m.bk) = (g.st k).bank := by
  show Ot m m.cpu.r.pc = _
  rw [hm.bank, hm.cpu]; rfl
 refine cE func114 hst ?_
 refine ZBn ?_
 refine DR [4, 5, 6, 7, 8, 9, 10] (bW [0, 2, 4, 6, 8, 10, 12, 14, 17, 18, 20, 23, 24]) ?_
 refine bA ?_
 refine DZ U (dG K_ U (fun w hw => aBp q.A q.va m hiv.wf.ln w (aH (b := q.A.mb) (l := cMm q.A q.va m) (.tail _ (.tail _ (iK _ (.tail _ (.head _))))) w hw))) U jB (ZBE ?_)
 refine DY U (B5 U U U U U) U (DZ U (dG K_ U (fun w hw => (by have h9 := aPI q.A q.va m hiv.wf w (aH (b := q.A.mb) (l := cMm q.A q.va m) (.tail _ (.tail _ (iK _ (.tail _ (.head _))))) w hw) m.cpu.r.pc hpcr; rw [hbk] at h9; exact h9))) U aW (bA ?_))
 refine RX (eO (F := [(b, J (cDb cap (pM q) (P_ hb) k (.slice (Q_ fa) (g.enc 0).length fc) lb mp pv wv asked done tab) 76), (mp, dL .u64 (l) (c))]) (A := hM q m) (G := (GH ++ (GL ++ D))) K_ U (fun w h1 h2 => (by have h9 := aNG q g.pa g.pc g.plan hq hg.chg hg.few m hiv _ w h1 (hP.els h2 (fun x hx => bD _ ((fun x hx => bD _ (bD _ (bD _ (hGP x hx)))) x hx))) (hP.offB h2 (fun x hx => bD _ (bD _ (bD _ (hGP x hx))))); rw [hse1, hse2] at h9; exact h9))) U ?_
 rintro _ _ ⟨_, ⟨oT, va, G0, hq2, rfl, hV, rfl⟩, rfl⟩
 obtain ⟨aa, ac, rfl⟩ := hV.slice
 refine ZA7 ?_
 refine nM fun b0 => ?_
 refine W (bH (l' := cDd (eT g.plan (g.m k)).1) 0) U (eP ?_)
 refine ZA7 ?_
 refine kG (L' := (b, J (cDb cap (pM q) (P_ hb) k (.slice (Q_ fa) (g.enc 0).length fc) lb mp pv wv asked done tab) 76) :: (mp, dL .u64 (l) (c)) :: (b0, J (cDd (eT g.plan (g.m k)).1) 281) :: (GH ++ (hM (⟨q.A, q.tb, oT, .slice aa (g.m (k + 1)).acc.length ac⟩ : MA) (g.m (k + 1)) ++ (GL ++ (G0 ++ D))))) (fun _ h => by rw [eC] at h; exact St.fl [[(b0, J (cDd (eT g.plan (g.m k)).1) 281)], [(b, J (cDb cap (pM q) (P_ hb) k (.slice (Q_ fa) (g.enc 0).length fc) lb mp pv wv asked done tab) 76), (mp, dL .u64 (l) (c))], G0, hM (⟨q.A, q.tb, oT, .slice aa (g.m (k + 1)).acc.length ac⟩ : MA) (g.m (k + 1)), GH, GL, D] [1, 0, 4, 3, 5, 2, 6] rfl h) ?_
 refine DR [4, 5, 6, 7, 8, 9, 10, 11, 12, 13, 14, 15, 16] (bW [0, 2, 4, 6, 8, 10, 12, 14, 16, 18, 20, 22, 24, 26, 29, 30, 32, 35]) ?_
 refine bZ ?_
 refine He ?_
 refine ZBy ?_
 refine DZ U (dG K_ U (fun w hw => aBp q.A (.slice aa (g.m (k + 1)).acc.length ac) (g.m (k + 1)) (hg.inv (k + 1)).wf.ln w (aH (b := q.A.mb) (l := cMm q.A (.slice aa (g.m (k + 1)).acc.length ac) (g.m (k + 1))) (.tail _ (.tail _ (.tail _ (bD _ (iK _ (.tail _ (.head _))))))) w hw))) U jB (ZBE ?_)
 refine DY U (B5 U U U U U) U (DX U (eO (F := [(b, J (cDb cap (pM q) (P_ hb) k (.slice (Q_ fa) (g.enc 0).length fc) lb mp pv wv asked done tab) 76), (mp, dL .u64 (l) (c)), (b0, J (cDd (eT g.plan (g.m k)).1) 281)]) (A := GH) (G := hM (⟨q.A, q.tb, oT, .slice aa (g.m (k + 1)).acc.length ac⟩ : MA) (g.m (k + 1)) ++ (GL ++ (G0 ++ D))) K_ U (fun w h1 _ => Hs.note_fn hb 32 k (Hs.callsL (g.sts k)) ring M M I (Hs.callsL_len _) GH w hh h1 (g.st k) (hg.st k))) U aW ?_)
 rintro _ _ ⟨GH2, ⟨rfl, hh2⟩, rfl⟩
 rw [← Hs.callsL_snoc, ← Gx.sts_snoc] at hh2
 refine ZDG ?_
 refine RW (v := (.int .u64 ((k + 1 : Nat) : Int))) U U (aD _ ((wB I I).trans I)) (ZAm ?_)
 refine W (bH (l' := cDb cap (pM q) (P_ hb) (k + 1) (.slice (Q_ fa) (g.enc 0).length fc) lb mp pv wv asked done tab) 0) U (eP ?_)
 refine aI ?_
 refine cZ (H' := (b, J (cDb cap (pM q) (P_ hb) (k + 1) (.slice (Q_ fa) (g.enc 0).length fc) lb mp pv wv asked done tab) 76) :: ((mp, dL .u64 (l) (c)) :: (b0, J (cDd (eT g.plan (g.m k)).1) 281) :: (GH2 ++ (hM (⟨q.A, q.tb, oT, .slice aa (g.m (k + 1)).acc.length ac⟩ : MA) (g.m (k + 1)) ++ (GL ++ (G0 ++ D)))))) (fun _ h => h) ?_
 refine RX (eO (F := []) (A := [(b, J (cDb cap (pM q) (P_ hb) (k + 1) (.slice (Q_ fa) (g.enc 0).length fc) lb mp pv wv asked done tab) 76)]) (G := ((mp, dL .u64 (l) (c)) :: (b0, J (cDd (eT g.plan (g.m k)).1) 281) :: (GH2 ++ (hM (⟨q.A, q.tb, oT, .slice aa (g.m (k + 1)).acc.length ac⟩ : MA) (g.m (k + 1)) ++ (GL ++ (G0 ++ D)))))) K_ U (uG (aIb b 10 _ _ done (done + 1) U (wB I I)))) U (ZBQ ?_)
 refine ZAm ?_
 refine kG (L' := (b, J (cDb cap (pM q) (P_ hb) (k + 1) (.slice (Q_ fa) (g.enc 0).length fc) lb mp pv wv asked (done + 1) tab) 76) :: (mp, dL .u64 (l) (c)) :: (hM (⟨q.A, q.tb, oT, .slice aa (g.m (k + 1)).acc.length ac⟩ : MA) (g.m (k + 1)) ++ (GH2 ++ (GL ++ ((b0, J (cDd (eT g.plan (g.m k)).1) 281) :: (G0 ++ D)))))) (fun _ h => St.fl [[(b, J (cDb cap (pM q) (P_ hb) (k + 1) (.slice (Q_ fa) (g.enc 0).length fc) lb mp pv wv asked (done + 1) tab) 76), (mp, dL .u64 (l) (c))], [(b0, J (cDd (eT g.plan (g.m k)).1) 281)], GH2, hM (⟨q.A, q.tb, oT, .slice aa (g.m (k + 1)).acc.length ac⟩ : MA) (g.m (k + 1)), GL, G0 ++ D] [0, 3, 2, 4, 1, 5] U h) ?_
 have hrg2 := hrg.step M M (g.st k)
 rw [Gx.sts_len, ← Gx.sts_snoc] at hrg2
 have hE0 : (⟨b, hb, lb, mp, fa, fc, fs, cap, asked, done + 1, (⟨q.A, q.tb, oT, .slice aa (g.m (k + 1)).acc.length ac⟩ : MA), (g.m (k + 1)), (ring.set (k % 32) (Hs.recOf (g.st k))), GH2, ms, GL, l, c, pv, wv, tab, ((b0, J (cDd (eT g.plan (g.m k)).1) 281) :: (G0 ++ D))⟩ : Db).Ok g (k + 1) n := ⟨aR, hq2, qU.refl _, hh2, hrg2, Hm hL (fun x hx => .tail _ (bD _ hx)), hpk, ⟨.tail _ (bD _ hfi.1), hfi.2⟩, hpa.more (fun x hx => .tail _ (bD _ hx)), htm, ⟨GP, hP, fun x hx => .tail _ (bD _ (hGP x hx))⟩⟩
 have hT0 : Db.To ⟨b, hb, lb, mp, fa, fc, fs, cap, asked, done, q, m, ring, GH, ms, GL, l, c, pv, wv, tab, D⟩ (⟨b, hb, lb, mp, fa, fc, fs, cap, asked, done + 1, (⟨q.A, q.tb, oT, .slice aa (g.m (k + 1)).acc.length ac⟩ : MA), (g.m (k + 1)), (ring.set (k % 32) (Hs.recOf (g.st k))), GH2, ms, GL, l, c, pv, wv, tab, ((b0, J (cDd (eT g.plan (g.m k)).1) 281) :: (G0 ++ D))⟩ : Db) := ⟨rfl, rfl, rfl, rfl, rfl, rfl, rfl, (fun x hx => .tail _ (bD _ hx))⟩
 rcases dt (k + 1) n with hlt | hge
 rotate_left
 obtain rfl : n = k + 1 := by omega
 rotate_left
 ·refine ZAm ?_
  refine W (gY K_ U (kD (aPd (⟨b, hb, lb, mp, fa, fc, fs, cap, asked, done + 1, (⟨q.A, q.tb, oT, .slice aa (g.m (k + 1)).acc.length ac⟩ : MA), (g.m (k + 1)), (ring.set (k % 32) (Hs.recOf (g.st k))), GH2, ms, GL, l, c, pv, wv, tab, ((b0, J (cDd (eT g.plan (g.m k)).1) 281) :: (G0 ++ D))⟩ : Db) g hg (k + 1) n hE0 hlt))) U (ZDG ?_)
  exact EV U aJ ⟨(⟨b, hb, lb, mp, fa, fc, fs, cap, asked, done + 1, (⟨q.A, q.tb, oT, .slice aa (g.m (k + 1)).acc.length ac⟩ : MA), (g.m (k + 1)), (ring.set (k % 32) (Hs.recOf (g.st k))), GH2, ms, GL, l, c, pv, wv, tab, ((b0, J (cDd (eT g.plan (g.m k)).1) 281) :: (G0 ++ D))⟩ : Db), _, G0, (by rw [kf I]; exact hE0), hT0, U, U, hV, fun x hx => .tail _ (iK _ hx), U⟩
 refine ZAm ?_
 refine RX (gY K_ U (kD (Q2 (⟨b, hb, lb, mp, fa, fc, fs, cap, asked, done + 1, (⟨q.A, q.tb, oT, .slice aa (g.m (k + 1)).acc.length ac⟩ : MA), (g.m (k + 1)), (ring.set (k % 32) (Hs.recOf (g.st k))), GH2, ms, GL, l, c, pv, wv, tab, ((b0, J (cDd (eT g.plan (g.m k)).1) 281) :: (G0 ++ D))⟩ : Db) g hg (k + 1) I hE0))) U ?_
 rintro _ _ ⟨rfl, e, hE, hT, hdn, rfl⟩
 refine ZDG ?_
 exact EV U aJ ⟨e, _, G0, (by rw [Nat.max_eq_right I]; exact hE), hT0.trans hT, hdn, U, hV, fun x hx => hT.D x (.tail _ (iK _ hx)), U⟩
def O3 (n : Nat) (hn : n < 268435456) (l : AB) (b o c : Nat) (hl : (putP n ++ l).length ≤ 100000000) (hc : (putP n ++ l).length ≤ c) (w : AI) (hr : aK w b o ((putP n ++ l).map (.int .u8))) : aG prog 219 [.slice (some ⟨b, o, none⟩) (putP n ++ l).length c] w [] (V_ (.tuple #[.int .i64 n, .slice (some ⟨b, cut1 o (putP n).length c, none⟩) l.length (c - (putP n).length), .int .i64 0])) := by
 refine aT func219 ?_
 refine Fy ?_
 refine dV (σ := Nat) [2, 3, 4, 5, 6, 7, 8, 9, 10, 11, 12, 13, 14, 15, 16, 17, 18, 19, 20, 21, 22, 23, 24, 25, 26, 27, 28, 29, 30, 31, 32, 33, 34, 35, 36, 37, 38, 39, 40, 41, 42, 43, 44, 45, 46] (fun i => [(5, .int .i64 ((n % 128 ^ i : Nat) : Int)), (8, .int .i64 i)]) (fun _ => []) (fun i => i ≤ 3 ∧ (i = 0 ∨ 128 ^ i ≤ n)) (fun i => 4 - i) 0 ?_ ?_ ?_ ?_
 ·exact ⟨iR, .inl U⟩
 ·exact .cons (aD (fun n : Nat => Value.int .i64 (n : Int)) (by rw [Nat.pow_zero, Nat.mod_one])) (.cons U .nil)
 ·exact fun _ h => h
 rintro i y3 ⟨hi, hi2⟩
 have hgs := aJp hi2
 have hy0 : (0 : Int) ≤ ((n / 128 ^ i : Nat) : Int) := im _
 refine ZAm ?_
 refine gO true U U U lA ?_
 refine lS ?_
 obtain ⟨hg1, hg2⟩ := aC8 i n hi2
 have hll : (putP n ++ l).length = (putP n).length + l.length := bQ
 have hgx : (putP n ++ l).getD i 0 = (putP n).getD i 0 := by rw [fV, dp hg1, ← fV]
 refine ZA7 ?_
 refine gZ ?_
 refine gO false U U U lA ?_
 refine ZBy ?_
 by_cases hy : (n / 128 ^ i) < 128
 ·refine ZBE ?_
  have hgv : (putP n ++ l).getD i 0 = (((n / 128 ^ i) : Nat) : Int) := by rw [hgx, hg2, ag hy]
  refine ZAm ?_
  refine RY (eB (n := (putP n ++ l).length) i U U U U I) U (W (aX U U (cB (v := .int .u8 (((n / 128 ^ i) : Nat) : Int)) (hr _ _ ((gJ (l := (putP n ++ l)) (j := i) I).trans (by rw [hgv]))) aL)) U (aI ?_))
  refine ZCt ?_
  refine ZBE ?_
  refine RW (v := (.int .i64 ((7 * i : Nat) : Int))) U U (aD _ ((bY I I).trans I)) (ZCj ?_)
  refine aI ?_
  refine uQ ?_
  refine ZBy ?_
  refine KL (fun q0 z0 => ?_) (fun q0 z0 => ?_)
  ·refine ZBE ?_
   refine tG ?_
   refine uQ ?_
   refine ZBy ?_
   refine Fu ?_
   refine ZA7 ?_
   refine ZCX ?_
   refine ZBn ?_
   have ht := putP_tot i n hi2 hy
   exact ZEJ
  refine bZ ?_
  refine uQ ?_
  refine ZBy ?_
  refine Fu ?_
  refine ZA7 ?_
  refine ZCX ?_
  refine ZBn ?_
  have ht := putP_tot i n hi2 hy
  exact ZEJ
 refine ZBE ?_
 have hgv : (putP n ++ l).getD i 0 = (((n / 128 ^ i) % 128 + 128 : Nat) : Int) := by rw [hgx, hg2, ae hy]
 refine ZAm ?_
 refine RY (eB (n := (putP n ++ l).length) i U U U U I) U (W (aX U U (cB (v := .int .u8 (((n / 128 ^ i) % 128 + 128 : Nat) : Int)) (hr _ _ ((gJ (l := (putP n ++ l)) (j := i) I).trans (by rw [hgv]))) aL)) U (aI ?_))
 refine ZCt ?_
 refine ZBE ?_
 refine RW (v := (.int .i64 ((7 * i : Nat) : Int))) U U (aD _ ((bY I I).trans I)) (ZCj ?_)
 refine aI ?_
 refine qA ?_
 refine jN ?_
 refine qA ?_
 refine ZBn ?_
 refine jF ?_
 obtain ⟨hm1, hm2⟩ := aQW hn hi hy
 exact ⟨i + 1, ⟨hm1, .inr hm2⟩, aR, .cons U (.cons U .nil), bJ, fun _ h => h⟩
def aK9 (b o c : Nat) (l : AB) (h1 : 1 ≤ l.length) (hl : l.length ≤ 10000000) (w : AI) (hr : aK w b o (l.map (.int .u8))) : aG prog 71 [.slice (some ⟨b, o, none⟩) l.length c] w [] (fun v H => ∃ b9 c9 sp9, v = .slice (Q_ b9) l.length c9 ∧ l.length ≤ c9 ∧ H = [(b9, J (l.map Z ++ sp9) 5)]) := by
 refine aT func71 ?_
 refine rB ?_
 refine ZBn ?_
 refine RX (Kd U) U (ZBN fun b0 => ?_)
 refine ZBE ?_
 refine RX (vN (A := []) (G := [(b0, J [] 5)]) (v := .slice (Q_ b0) 0 0) (n := 0) (xs := []) (m := l.length) (T := 5) (s := 1) (by_ := 1) (ys := l.map (.int .u8)) U U U U (.row b0 0 0 [] [] U U M (bi _)) (fun w hw => .row _ _ _ _ _ (by rw [eD, fq]) (cG hr aL w hw)) (kE _ _) I I) U ?_
 rintro v0 _ ⟨G0, hV0, _, rfl⟩
 obtain ⟨b1, c0, sp0, rfl, rfl, _, hc0, _⟩ := (hV0.as (n' := l.length) (xs' := l.map (.int .u8)) (cg _) rfl).full I
 refine ZA7 ?_
 exact EV U (cj _ _) ⟨b1, c0, sp0, U, hc0, U⟩
def aFW (b1 o1 c1 b2 o2 c2 : Nat) (a b : AB) (h1 : 1 ≤ b.length) (hl : b.length ≤ 1000000) (hab : a.length = b.length) (hc2 : (dU a b).length ≤ c2) (w : AI) (hr1 : aK w b1 o1 (a.map (.int .u8))) (hr2 : aK w b2 o2 ((dU a b).map (.int .u8))) : aG prog 184 [.slice (some ⟨b1, o1, none⟩) a.length c1, .slice (some ⟨b2, o2, none⟩) (dU a b).length c2] w [] (fun v H => ∃ b9 c9 sp9, v = .tuple #[.slice (Q_ b9) b.length c9, .int .i64 0] ∧ b.length ≤ c9 ∧ H = [(b9, J (b.map Z ++ sp9) 5)]) := by
 refine aT func184 ?_
 refine bA ?_
 refine RX (cQ K_ U (fun w hw => aK9 b1 o1 c1 a I I w (cG hr1 aL w hw))) U ?_
 rintro _ _ ⟨_, ⟨b9, c9, sp9, rfl, hc0, rfl⟩, rfl⟩
 rw [aw]
 refine bZ ?_
 refine dV (σ := Nat × Nat × Nat × Nat × Nat) [1, 4, 5, 7, 8, 9, 10, 14, 15, 16, 17, 18, 19, 20, 21, 22, 23, 24, 25, 26, 27, 28, 29, 30, 31, 32, 33, 34, 35, 36, 37, 38, 39, 40, 41, 42, 43, 44, 45, 46, 47, 48, 49, 50, 51, 52, 53, 54, 55, 56, 57, 58, 59, 60, 61, 62, 63, 64, 65, 66] (fun s => [(7, .slice (some ⟨b9, s.2.1, none⟩) (a.drop s.1).length s.2.2.1), (1, .slice (some ⟨b2, s.2.2.2.1, none⟩) (putP (bS (a.drop s.1) (b.drop s.1)) ++ sN (a.drop s.1) (b.drop s.1)).length s.2.2.2.2)]) (fun s => [(b9, J ((over a b s.1).map Z ++ sp9) 5)]) (fun s => s.1 ≤ b.length ∧ (s.1 < b.length → s.2.1 = s.1) ∧ (a.drop s.1).length ≤ s.2.2.1 ∧ (putP (bS (a.drop s.1) (b.drop s.1)) ++ sN (a.drop s.1) (b.drop s.1)).length ≤ s.2.2.2.2 ∧ aK w b2 s.2.2.2.1 ((putP (bS (a.drop s.1) (b.drop s.1)) ++ sN (a.drop s.1) (b.drop s.1)).map (.int .u8))) (fun s => b.length - s.1) (0, 0, c9, o2, c2) ?_ ?_ ?_ ?_
 ·exact ⟨av _, fun _ => U, hc0, by rw [← wH]; exact hc2, by rw [← wH]; exact hr2⟩
 ·exact .cons U (.cons (by rw [← wH]; rfl) .nil)
 ·exact fun _ h => h
 rintro ⟨j, pL, qL, pP, qP⟩ y3 ⟨hj, hpL, hqL, hqP, hrP⟩
 dsimp only at hj hpL hqL hqP hrP ⊢
 obtain ⟨n9, hn9⟩ : ∃ n, n = bS (a.drop j) (b.drop j) := ⟨_, rfl⟩
 obtain ⟨k9, hk9⟩ : ∃ k, k = oth (a.drop (j + n9)) (b.drop (j + n9)) := ⟨_, rfl⟩
 rw [← hn9] at hqP hrP ⊢
 have hda : (a.drop j).length = a.length - j := dN
 have hdb : (b.drop j).length = b.length - j := dN
 have hln := Dj (a.drop j) (b.drop j)
 rw [← hn9] at hln
 have hdn : (a.drop (j + n9)).length = a.length - (j + n9) := dN
 have hdm : (b.drop (j + n9)).length = b.length - (j + n9) := dN
 have hpk := Ul (a.drop j) (b.drop j)
 rw [wH, ← hn9] at hpk
 have hll : (putP n9 ++ sN (a.drop j) (b.drop j)).length = (putP n9).length + (sN (a.drop j) (b.drop j)).length := bQ
 have hrG : aK w b2 (cut1 pP (putP n9).length qP) ((sN (a.drop j) (b.drop j)).map (.int .u8)) := by have h9 := Dk hrP (n := (putP n9).length) (c := qP) hqP I; rw [f4] at h9; exact h9
 refine ZBy ?_
 refine aP K_ (fun w hw => O3 n9 I (sN (a.drop j) (b.drop j)) b2 pP qP Gn Gn w (cG hrP aL w hw)) ?_
 refine lS ?_
 refine gO false U U U aL ?_
 refine ZDG ?_
 refine gZ ?_
 refine qA ?_
 refine bA ?_
 refine RW (v := (.slice (some ⟨b9, (cut1 pL n9 qL), none⟩) (a.drop (j + n9)).length (qL - n9))) (mB n9 (a.drop j).length U U U U U U I I) U (by rw [hda, hdn, jn]) (bA ?_)
 refine gZ ?_
 refine ZAm ?_
 refine KC (fun h1 h1n => ?_) (fun h1 h1n => ?_)
 ·have z0 := r_f h1
  refine ZA7 ?_
  have hnil : (b.drop (j + n9)) = [] := List.length_eq_zero_iff.1 I
  have hpR : (sN (a.drop j) (b.drop j)).length = 0 := by unfold sN; rw [← hn9, ag (by rw [bw]; exact hnil)]; rfl
  refine ZAm ?_
  refine gZ ?_
  refine qA ?_
  refine cL ?_
  have hov : over a b j = b := by rw [← W2 hab, ← hn9, show j + n9 = b.length by have h9 := aD List.length hnil; simp only [ax] at h9; omega, aLE hab]
  exact iU (fun _ _ => eY U U) aJ ⟨b9, c9, sp9, by rw [hab], aR, by rw [hov]⟩
 have z0 := r_f h1
 refine ZAm ?_
 have hne : (b.drop (j + n9)) ≠ [] := fun h => by have h9 := aD List.length h; simp only [ax] at h9; omega
 have hR : sN (a.drop j) (b.drop j) = putP k9 ++ (((b.drop (j + n9)).take k9) ++ dU (a.drop (j + n9 + k9)) (b.drop (j + n9 + k9))) := by unfold sN; rw [← hn9, ae (by rw [bw]; exact hne)]; simp only [bw]; rw [← hk9]
 have hko := Ms (a.drop (j + n9)) (b.drop (j + n9))
 rw [← hk9] at hko
 have hop := Fp hne aBu
 rw [← hk9] at hop
 have hpo := wD k9
 have hRl : (sN (a.drop j) (b.drop j)).length = (putP k9).length + (((b.drop (j + n9)).take k9) ++ dU (a.drop (j + n9 + k9)) (b.drop (j + n9 + k9))).length := by rw [hR]; exact bQ
 have hLl : (((b.drop (j + n9)).take k9) ++ dU (a.drop (j + n9 + k9)) (b.drop (j + n9 + k9))).length = k9 + (dU (a.drop (j + n9 + k9)) (b.drop (j + n9 + k9))).length := by rw [bQ, fZ]; omega
 have hdk : (a.drop (j + n9 + k9)).length = a.length - (j + n9 + k9) := dN
 have hdl : (b.drop (j + n9 + k9)).length = b.length - (j + n9 + k9) := dN
 have hrR : aK w b2 (cut1 pP (putP n9).length qP) ((putP k9 ++ (((b.drop (j + n9)).take k9) ++ dU (a.drop (j + n9 + k9)) (b.drop (j + n9 + k9)))).map (.int .u8)) := by rw [← hR]; exact hrG
 have hrH : aK w b2 (cut1 (cut1 pP (putP n9).length qP) (putP k9).length (qP - (putP n9).length)) ((((b.drop (j + n9)).take k9) ++ dU (a.drop (j + n9 + k9)) (b.drop (j + n9 + k9))).map (.int .u8)) := by have h9 := Dk hrR (n := (putP k9).length) (c := (qP - (putP n9).length)) Gn Gn; rw [f4] at h9; exact h9
 have hcu : (cut1 pL n9 qL) = j + n9 := by rw [hpL I]; exact sS I
 refine ZAm ?_
 rw [hR]
 refine aP K_ (fun w hw => O3 k9 I (((b.drop (j + n9)).take k9) ++ dU (a.drop (j + n9 + k9)) (b.drop (j + n9 + k9))) b2 (cut1 pP (putP n9).length qP) (qP - (putP n9).length) Gn Gn w (cG hrR aL w hw)) ?_
 refine lS ?_
 refine gO false U U U aL ?_
 refine ZDG ?_
 refine gZ ?_
 refine qA ?_
 refine ZDG ?_
 refine gZ ?_
 refine qA ?_
 refine bZ ?_
 refine RY (Qj k9 U U U U I) U ?_
 have hrT : aK w b2 (cut1 (cut1 pP (putP n9).length qP) (putP k9).length (qP - (putP n9).length)) (((b.drop (j + n9)).take k9).map (.int .u8)) := by have h9 := aK.takeK hrH k9; rw [fy (by rw [fZ]; omega)] at h9; exact h9
 rw [hcu]
 refine cZ (H' := [(b9, J ((over a b (j + n9)).map Z ++ sp9) 5)]) (fun _ h => h.as (by rw [hn9, W2 hab])) ?_
 refine W (D1 (b := b9) (off := j + n9) (m := k9) (l := (over a b (j + n9)).map (.int .u8) ++ sp9) (ys := ((b.drop (j + n9)).take k9).map (.int .u8)) 0 U U U U U (fun w hw => .row _ _ _ _ _ Mp (cG hrT aL w hw)) (kE _ _) (by rw [bQ, eD, aHl hab I]; omega)) U (cZ (H' := [(b9, J ((over a b (j + n9 + k9)).map Z ++ sp9) 5)]) (fun _ h => h.as (by rw [ak, fv I, dm Mp, aN3 hab I])) ?_)
 refine ZBE ?_
 refine Fu ?_
 refine ZAm ?_
 refine DY U (mB k9 (a.drop (j + n9)).length U U U U U U I I) U (ZAm ?_)
 refine DY U (mB k9 (((b.drop (j + n9)).take k9) ++ dU (a.drop (j + n9 + k9)) (b.drop (j + n9 + k9))).length U U U U U U I I) U (ZA7 ?_)
 refine ⟨(j + n9 + k9, cut1 (j + n9) k9 (qL - n9), (qL - n9) - k9, cut1 (cut1 (cut1 pP (putP n9).length qP) (putP k9).length (qP - (putP n9).length)) k9 ((qP - (putP n9).length) - (putP k9).length), ((qP - (putP n9).length) - (putP k9).length) - k9), ⟨by show j + n9 + k9 ≤ b.length; omega, fun h => ?_, by show (a.drop (j + n9 + k9)).length ≤ (qL - n9) - k9; omega, ?_, ?_⟩, aEf, .cons ?_ (.cons ?_ .nil), bJ, fun _ h => h⟩
 ·show cut1 (j + n9) k9 (qL - n9) = j + n9 + k9
  have q0 : j + n9 + k9 < b.length := h
  exact sS I
 ·rw [← wH]; show (dU (a.drop (j + n9 + k9)) (b.drop (j + n9 + k9))).length ≤ ((qP - (putP n9).length) - (putP k9).length) - k9; omega
 ·rw [← wH]
  have q0 := Dk hrH (n := k9) (c := ((qP - (putP n9).length) - (putP k9).length)) I I
  rw [ez (by rw [fZ]; omega)] at q0
  exact q0
 ·exact aD (fun n => Value.slice _ n _) (by show _ = (a.drop (j + n9 + k9)).length; omega)
 rw [← wH]; exact aD (fun n => Value.slice _ n _) (by show _ = (dU (a.drop (j + n9 + k9)) (b.drop (j + n9 + k9))).length; omega)
def Xz (x : Int) : UInt8 := x.toNat.toUInt8
def aDK {l : AB} (h : bE l) : (l.map Xz).map (fun c => Value.int .u8 (c.toNat : Int)) = l.map (.int .u8) := by
 rw [jy]
 refine List.map_congr_left fun x hx => ?_
 have := h x hx
 show Value.int .u8 ((x.toNat.toUInt8.toNat : Nat) : Int) = .int .u8 x
 congr 1
 have e : x.toNat.toUInt8.toNat = x.toNat % 256 := rfl
 rw [e]; omega
def aHg (b1 o1 c1 b2 o2 c2 : Nat) (l : AB) (hb : bE l) (w : AI) (hr1 : aK w b1 o1 (l.map (.int .u8))) (hr2 : aK w b2 o2 (l.map (.int .u8))) : aG prog 185 [.slice (some ⟨b1, o1, none⟩) l.length c1, .slice (some ⟨b2, o2, none⟩) l.length c2] w [] (V_ (.bool true)) := by
 refine aT func185 ?_
 refine ZDG ?_
 refine W (aET (l := l.map Xz) U U U (eD _) (fun w hw => by rw [aDK hb]; exact cG hr1 aL w hw)) U (ZBE ?_)
 refine W (aET (l := l.map Xz) U U U (eD _) (fun w hw => by rw [aDK hb]; exact cG hr2 aL w hw)) U (RY (aO3 U U) U (ZA7 ?_))
 exact E0 U ⟨U, (aD Value.bool (beq_self_eq_true _))⟩
def aMU (b1 o1 c1 b2 o2 c2 : Nat) (a b : AB) (h1 : 1 ≤ b.length) (hl : b.length ≤ 1000000) (hab : a.length = b.length) (hc1 : a.length ≤ c1) (hc2 : (dU a b).length ≤ c2) (hb : bE b) (w : AI) (hr1 : aK w b1 o1 (a.map (.int .u8))) (hr2 : aK w b2 o2 ((dU a b).map (.int .u8))) : aG prog 148 [.slice (some ⟨b1, o1, none⟩) a.length c1, .slice (some ⟨b2, o2, none⟩) (dU a b).length c2] w [] (fun v H => ∃ b9 c9 sp9, v = .tuple #[.slice (Q_ b9) b.length c9, .int .i64 0] ∧ b.length ≤ c9 ∧ H = [(b9, J (b.map Z ++ sp9) 5)]) := by
 refine aT func148 ?_
 refine bZ ?_
 refine RX (cQ K_ U (fun w hw => aFW b1 o1 c1 b2 o2 c2 a b h1 hl hab hc2 w (cG hr1 aL w hw) (cG hr2 aL w hw))) U ?_
 rintro _ _ ⟨_, ⟨b9, c9, sp9, rfl, hc0, rfl⟩, rfl⟩
 rw [aw]
 refine cL ?_
 refine gO false U U U aL ?_
 refine bA ?_
 refine RX (cQ K_ U (fun w hw => aAq b1 o1 c1 b9 0 c9 a b hl hab hc1 hc0 w (cG hr1 aL w hw) (aH (b := b9) (.head _) w hw).left)) U ?_
 rintro _ _ ⟨G0, ⟨a22, c0, rfl, hV0⟩, rfl⟩
 have hpp : 1 ≤ (dU a b).length := by rw [wH, bQ]; have := (wD (bS a b)).1; omega
 obtain ⟨b0, c0, sp0, e22, rfl, _, hcx1, _⟩ := hV0.full I
 cases e22
 refine cL ?_
 refine W (dG K_ U (fun w hw => aHg b0 0 c0 b2 o2 c2 (dU a b) (P8 a hb) w (aH (b := b0) (.head _) w hw).left (cG hr2 aL w hw))) U (jM ?_)
 refine cL ?_
 exact iU (fun _ _ => eY U U) (.cons _ aJ) ⟨b9, c9, sp9, U, hc0, U⟩
def aI0 (d : Db) (g : Gx) (hg : g.Ok) (k n : Nat) (hd : d.Ok g k n) (hk : k < n) (hn : n < 1000000) (at_ : Nat) (w : AI) (hst : St w ((d.H g k).map (·.1)) (d.H g k) w) : aG prog 119 [P_ d.b, .int .u64 at_] w ((d.H g k).map (·.1)) (fun v H => v = .tuple #[] ∧ ∃ (e : Db) (j : Nat), e.Ok g j n ∧ d.To e ∧ e.done = d.done ∧ e.ms = d.ms ∧ (j : Int) = (Tm.befM d.ms at_).t ∧ j < n ∧ H = e.H g j) := by
 obtain ⟨b, hb, lb, mp, fa, fc, fs, cap, asked, done, q, m, ring, GH, ms, GL, l, c, pv, wv, tab, D⟩ := d
 obtain ⟨hle, hq, hm, hh, hrg, hL, hpk, hfi, hpa, htm, hpl⟩ := hd
 dsimp only at hle hq hm hh hrg hL hpk hfi hpa htm hpl
 refine B1 fun hst hml => ?_
 obtain ⟨hm0, hm1, hm2⟩ := hL.more I
 have hb0 : 0 ≤ Tm.bef ms (at_ : Int) := Tm.bef_nn hL.rise hm0 hm1 I
 have hbm := Tm.befM_mem (ms := ms) (x := (at_ : Int)) I
 obtain ⟨i9, e9, he9, hek, hfi9⟩ := aBE (i := 0) (hpa.all _ hbm)
 have hel9 := hpa.le e9 he9
 obtain ⟨j, hj⟩ : ∃ j : Nat, (Tm.befM ms (at_ : Int)).t = j := ⟨e9.1.toNat, by rw [← hek]; omega⟩
 have hbt := hj
 have hbl := hpk _ hbm
 rw [hj, show ((j : Nat) : Int).toNat = j from rfl] at hbl
 rw [hj] at hfi9 hek
 have hjn : j < n := by omega
 obtain ⟨pb, pr, GP2, hev, hph, hprg, hGP2⟩ := hpa.his e9 he9
 rw [hek, show ((j : Nat) : Int).toNat = j from rfl] at hph hprg
 rw [hev] at hfi9
 have hiv := hm.inv (hg.inv k)
 have hrl : m.ram.length ≤ 200000 := by rw [hiv.fr.ram]; have := Hj g.rom; omega
 have hel := hg.enc_le j
 have hpp : 1 ≤ (dU (g.enc 0) (g.enc j)).length := by rw [wH, bQ]; have := (wD (bS (g.enc 0) (g.enc j))).1; omega
 have hel0 := hg.enc_len j
 have hbk := L6 (hg.inv j) hiv
 have hbk2 : uN m (g.enc j) = ({ g.m j with acc := [] } : Mm) := hbk.2
 refine cE func119 hst ?_
 refine ZDG ?_
 refine RX (cQ K_ U (fun w hw => (by have h9 := Tm.Before_fn lb (capT cap) ms hL.rise I (at_ : Int) w (hL.line.lineW hw (fun x hx => .tail _ (.tail _ (bD _ (bD _ (iK _ hx)))))) (hL.dat.datW hw (fun x hx => .tail _ (.tail _ (bD _ (bD _ (bD _ (hx))))))); rw [hbt, hbl] at h9; exact h9))) U ?_
 rintro _ _ ⟨_, ⟨dv, rfl, hV0⟩, rfl⟩
 obtain ⟨b0, c0, sp0, e15, rfl, _, hc0, _⟩ := hV0.full I
 subst e15
 refine lZ ?_
 refine RX (cQ K_ U (fun w hw => aMU fa 0 fc b0 0 c0 (g.enc 0) (g.enc j) I I (hg.enc_len j).symm hfi.2 hc0 (hg.enc_byts j) w (aH (b := fa) (l := (g.enc 0).map Z ++ fs) (.tail _ (.tail _ (.tail _ (bD _ (bD _ (bD _ hfi.1)))))) w hw).left (aH (b := b0) (l := (dU (g.enc 0) (g.enc j)).map Z ++ sp0) (.head _) w hw).left)) U ?_
 rintro _ _ ⟨_, ⟨b1, cx1, sp1, rfl, hc1, rfl⟩, rfl⟩
 refine ZDG ?_
 refine kG (L' := (b, J (cDb cap (pM q) (P_ hb) k (.slice (Q_ fa) (g.enc 0).length fc) lb mp pv wv asked done tab) 76) :: (mp, dL .u64 (l) (c)) :: (hM q m ++ (GH ++ (GL ++ ((b1, J ((g.enc j).map Z ++ sp1) 5) :: (b0, J ((dU (g.enc 0) (g.enc j)).map Z ++ sp0) 5) :: D))))) (fun _ h => St.fl [[(b1, J ((g.enc j).map Z ++ sp1) 5)], [(b0, J ((dU (g.enc 0) (g.enc j)).map Z ++ sp0) 5)], [(b, J (cDb cap (pM q) (P_ hb) k (.slice (Q_ fa) (g.enc 0).length fc) lb mp pv wv asked done tab) 76), (mp, dL .u64 (l) (c))], hM q m, GH, GL, D] [2, 3, 4, 5, 0, 1, 6] U h) ?_
 refine aI ?_
 refine RX (eO (F := [(b, J (cDb cap (pM q) (P_ hb) k (.slice (Q_ fa) (g.enc 0).length fc) lb mp pv wv asked done tab) 76), (mp, dL .u64 (l) (c))]) (A := hM q m) (G := GH ++ (GL ++ ((b1, J ((g.enc j).map Z ++ sp1) 5) :: (b0, J ((dU (g.enc 0) (g.enc j)).map Z ++ sp0) 5) :: D))) K_ U (fun w h1 h2 => (by have h9 := aQn q hq m hiv.wf hiv.rg hrl (Q_ b1) cx1 (g.enc j) (hg.enc_byts j) I hc1 _ w h1 (Ns.of (aH (b := b1) (l := (g.enc j).map Z ++ sp1) (bD _ (bD _ (bD _ (bD _ (.head _))))) w h2).left) (fun p hp hb => by cases hp; exact St.notin h2 (x := (b1, J ((g.enc j).map Z ++ sp1) 5)) (bD _ (bD _ (bD _ (.head _)))) hb); rw [hbk2] at h9; exact h9))) U ?_
 rintro _ _ ⟨_, ⟨rfl, A', va', hq2, hmb, rfl⟩, rfl⟩
 refine bZ ?_
 refine W (aJm U U U hfi9 (.tail _ (.head _))) U (RX (cQ K_ U (fun w hw => Hs.copy_fn pb 32 j (Hs.callsL (g.sts j)) pr (by have := Hs.callsL_len (g.sts j); omega) w (hph.histW hw (fun x hx => bD _ (bD _ (bD _ (bD _ (.tail _ (.tail _ (hGP2 x hx)))))))))) U ?_)
 rintro _ _ ⟨G0, ⟨b2, rfl, hH42⟩, rfl⟩
 refine cZ (H' := (b, J (cDb cap (pM q) (P_ hb) k (.slice (Q_ fa) (g.enc 0).length fc) lb mp pv wv asked done tab) 76) :: (mp, dL .u64 (l) (c)) :: (G0 ++ (hM (⟨A', q.tb, q.oT, va'⟩ : MA) ({ g.m j with acc := [] } : Mm) ++ (GH ++ (GL ++ ((b1, J ((g.enc j).map Z ++ sp1) 5) :: (b0, J ((dU (g.enc 0) (g.enc j)).map Z ++ sp0) 5) :: D)))))) (fun _ h => St.fl [G0, [(b, J (cDb cap (pM q) (P_ hb) k (.slice (Q_ fa) (g.enc 0).length fc) lb mp pv wv asked done tab) 76), (mp, dL .u64 (l) (c))], hM (⟨A', q.tb, q.oT, va'⟩ : MA) ({ g.m j with acc := [] } : Mm), GH, GL, ((b1, J ((g.enc j).map Z ++ sp1) 5) :: (b0, J ((dU (g.enc 0) (g.enc j)).map Z ++ sp0) 5) :: D)] [1, 0, 2, 3, 4, 5] U h) ?_
 refine ZA7 ?_
 refine W (bH (l' := cDb cap (pM q) (P_ b2) k (.slice (Q_ fa) (g.enc 0).length fc) lb mp pv wv asked done tab) 0) U (kB ?_)
 refine W (bH (l' := cDb cap (pM q) (P_ b2) j (.slice (Q_ fa) (g.enc 0).length fc) lb mp pv wv asked done tab) 0) U (eP ?_)
 refine ZBE ?_
 have hpm : pM (⟨A', q.tb, q.oT, va'⟩ : MA) = pM q := by unfold pM; dsimp only; rw [hmb]
 refine lC (H' := (b, J (cDb cap (pM q) (P_ b2) j (.slice (Q_ fa) (g.enc 0).length fc) lb mp pv wv asked done tab) 76) :: (mp, dL .u64 (l) (c)) :: (hM (⟨A', q.tb, q.oT, va'⟩ : MA) ({ g.m j with acc := [] } : Mm) ++ (G0 ++ (GL ++ ((b1, J ((g.enc j).map Z ++ sp1) 5) :: (b0, J ((dU (g.enc 0) (g.enc j)).map Z ++ sp0) 5) :: (GH ++ D)))))) (fun _ _ => nK) (fun _ h => St.fl [[(b, J (cDb cap (pM q) (P_ b2) j (.slice (Q_ fa) (g.enc 0).length fc) lb mp pv wv asked done tab) 76), (mp, dL .u64 (l) (c))], G0, hM (⟨A', q.tb, q.oT, va'⟩ : MA) ({ g.m j with acc := [] } : Mm), GH, GL, [(b1, J ((g.enc j).map Z ++ sp1) 5), (b0, J ((dU (g.enc 0) (g.enc j)).map Z ++ sp0) 5)], D] [0, 2, 1, 4, 5, 3, 6] U h) ?_
 refine ⟨U, ⟨b, b2, lb, mp, fa, fc, fs, cap, asked, done, (⟨A', q.tb, q.oT, va'⟩ : MA), ({ g.m j with acc := [] } : Mm), pr, G0, ms, GL, l, c, pv, wv, tab, ((b1, J ((g.enc j).map Z ++ sp1) 5) :: (b0, J ((dU (g.enc 0) (g.enc j)).map Z ++ sp0) 5) :: (GH ++ D))⟩, j, ⟨aR, hq2, U, hH42, hprg, Hm hL (fun x hx => (.tail _ (.tail _ (bD _ (hx))))), hpk, ⟨(.tail _ (.tail _ (bD _ (hfi.1)))), hfi.2⟩, hpa.more (fun x hx => (.tail _ (.tail _ (bD _ (hx))))), htm, ?_⟩, ⟨U, U, U, hpm, U, U, U, fun x hx => (.tail _ (.tail _ (bD _ (hx))))⟩, U, U, hbt.symm, hjn, by unfold Db.H Db.cs; dsimp only; rw [hpm]⟩
 obtain ⟨GP, q0, q1⟩ := hpl
 exact ⟨GP, q0, fun x hx => (.tail _ (.tail _ (bD _ (q1 x hx))))⟩
def aLk (d : Db) (g : Gx) (hg : g.Ok) (k n : Nat) (hf : d.Fine g k n) (at_ : Nat) (hat : at_ < 900000) (w : AI) (hst : St w ((d.H g k).map (·.1)) (d.H g k) w) : aG prog 116 [P_ d.b, .int .u64 at_] w ((d.H g k).map (·.1)) (fun v H => v = .tuple #[] ∧ ∃ e, Lf g d e at_ (max n (at_ + 1)) (sY d.ms k at_) H) := by
 obtain ⟨hd, hk, hn, hdn⟩ := hf
 have hml : d.ms.length ≤ 256 := by have := hd.line.len; have := (capT_ok d.cap).2; omega
 obtain ⟨hm0, hm1, hm2⟩ := hd.line.more I
 refine cE func116 hst ?_
 refine rR (σ := Db × Nat) [4, 5, 6, 7, 8, 9, 10, 11, 12, 13, 14, 15, 16, 17, 18, 19, 20, 21, 22, 23, 24, 25, 26, 27, 28, 29, 30, 31, 32, 33] (fun _ => []) (fun s => s.1.H g s.2) (fun s => s.1.Ok g s.2 n ∧ d.To s.1 ∧ s.1.done = d.done ∧ s.2 < n ∧ s.2 ≤ at_ ∧ (at_ : Int) - s.2 = sY d.ms k at_) ?_ ?_
 ·refine ZBn ?_
  refine M7 ?_
  refine ZBE ?_
  refine RX (cQ K_ U (fun w hw => Tm.Before_fn d.lb (capT d.cap) d.ms hd.line.rise I (at_ : Int) w (hd.line.line.lineW hw (fun x hx => .tail _ (.tail _ (bD _ (bD _ (iK _ hx)))))) (hd.line.dat.datW hw (fun x hx => .tail _ (.tail _ (bD _ (bD _ (bD _ (hx))))))))) U ?_
  rintro _ _ ⟨G0, ⟨dv, rfl, hV0⟩, rfl⟩
  obtain ⟨a13, c0, rfl, _, _⟩ := hV0.slice
  refine cZ (H' := Db.H ({ d with D := G0 ++ d.D } : Db) g k) (fun _ h => St.fl [G0, [_, _], hM d.q d.m, d.GH, d.GL, d.D] [1, 2, 3, 4, 0, 5] U h) ?_
  have hD13 : Db.Ok ({ d with D := G0 ++ d.D } : Db) g k n := ⟨hd.le, hd.q, hd.m, hd.hist, hd.ring, Hm hd.line (fun x hx => bD _ hx), hd.pk, ⟨bD _ hd.first.1, hd.first.2⟩, hd.past.more (fun x hx => bD _ hx), hd.tms, (by obtain ⟨GP, h8, h9⟩ := hd.plan; exact ⟨GP, h8, fun x hx => bD _ (h9 x hx)⟩)⟩
  have hT13 : d.To ({ d with D := G0 ++ d.D } : Db) := ⟨rfl, rfl, rfl, rfl, rfl, rfl, rfl, fun x hx => bD _ hx⟩
  refine bA ?_
  refine rR (σ := Unit) [17, 18, 19, 20, 21, 22, 23, 24, 25, 26, 27, 28, 29, 30] (fun _ => [(30, .bool (decide ((at_ : Int) < (k : Int)) || decide ((k : Int) < (Tm.befM d.ms (at_ : Int)).t)))]) (fun _ => Db.H ({ d with D := G0 ++ d.D } : Db) g k) (fun _ => True) ?_ ?_
  ·refine ZBn ?_
   refine M7 ?_
   refine ZBE ?_
   refine KL (fun q0 z0 => ?_) (fun q0 z0 => ?_)
   ·refine bA ?_
    have q1 := dr q0
    exact ⟨(), trivial, .cons (by rw [ap q1]; rfl) .nil, bJ, fun _ h => h⟩
   refine ZBy ?_
   refine M7 ?_
   refine ZA7 ?_
   have q1 := dw q0
   exact ⟨(), trivial, .cons (by rw [cz q1]; rfl) .nil, bJ, fun _ h => h⟩
  rintro _ y1 _
  refine KC (fun q0 z0 => ?_) (fun q0 z0 => ?_)
  ·refine ZA7 ?_
   refine RX (gY K_ U (kD (aI0 ({ d with D := G0 ++ d.D } : Db) g hg k n hD13 hk I at_))) U ?_
   rintro _ _ ⟨rfl, e, j, he, hT, hdn2, hms2, hj, hjn, rfl⟩
   refine ZBE ?_
   have hb9 := Tm.befM_le hd.line.rise (x := (at_ : Int)) (Tm.bef_nn hd.line.rise hm0 hm1 I)
   have hj9 : (j : Int) = (Tm.befM d.ms (at_ : Int)).t := hj
   have q1 := q0
   rw [j8, al, al] at q1
   exact ⟨(e, j), ⟨he, hT13.trans hT, hdn2, hjn, by show j ≤ at_; omega, by show (at_ : Int) - j = sY d.ms k at_; unfold sY; rw [ag I, hj9]⟩, .nil, bJ, fun _ h => h⟩
  refine ZBE ?_
  have q1 := q0
  rw [Bool.or_eq_false_iff, ah, ah] at q1
  exact ⟨(({ d with D := G0 ++ d.D } : Db), k), ⟨hD13, hT13, U, hk, by show k ≤ at_; omega, by show (at_ : Int) - k = sY d.ms k at_; unfold sY; rw [ae I]⟩, .nil, bJ, fun _ h => h⟩
 rintro ⟨e1, j⟩ y2 ⟨he1, hT0, hdn1, hjn, hja, hjc⟩
 dsimp only at he1 hT0 hdn1 hjn hja hjc ⊢
 refine ZBE ?_
 refine dV (σ := Db × Nat) [34, 35, 36, 37, 38, 39, 40, 41] (fun _ => []) (fun s => s.1.H g s.2) (fun s => s.1.Ok g s.2 (max n (s.2 + 1)) ∧ d.To s.1 ∧ s.1.done = d.done + (s.2 - j) ∧ j ≤ s.2 ∧ s.2 ≤ at_) (fun s => at_ - s.2) (e1, j) ?_ ?_ ?_ ?_
 ·exact ⟨by rw [kf (by show j + 1 ≤ n; omega)]; exact he1, hT0, by rw [hdn1]; show d.done = d.done + ((j : Int) - j); omega, bi _, hja⟩
 ·exact .nil
 ·exact fun _ h => h
 rintro ⟨e, i⟩ y3 ⟨he, hT, hdn3, hji, hia⟩
 dsimp only at he hT hdn3 hji hia ⊢
 refine aI ?_
 refine W (aX (v := .int .u64 (i : Nat)) U U (by rw [← hT.b]; exact bN (b := e.b) (l := Db.cs e g i) (.head _) rfl)) U (ZA7 ?_)
 refine KC (fun q0 z0 => ?_) (fun q0 z0 => ?_)
 ·refine ZBy ?_
  refine RX (gY K_ U (fun w hw => (by have h9 := aD8 e g hg i (max n (i + 1)) he I I ⟨aR, aR⟩ w (St.lentA hw); rw [hT.b] at h9; exact h9))) U ?_
  rintro _ _ ⟨e2, va, GA, he2, hT1, hd2, rfl, hV, hGA, rfl⟩
  refine ZBE ?_
  exact ⟨(e2, i + 1), ⟨(show max (max n (i + 1)) (i + 2) = max n (i + 1 + 1) by omega) ▸ he2, hT.trans hT1, by show e2.done = d.done + (((i + 1 : Nat) : Int) - j); omega, by show j ≤ i + 1; omega, by show i + 1 ≤ at_; omega⟩, by show at_ - (i + 1) < at_ - i; omega, .nil, bJ, fun _ h => h⟩
 refine ZBE ?_
 obtain rfl : i = at_ := by omega
 exact EN aJ ⟨U, e, he, hT, by rw [hdn3, hjc], U⟩
def aML (d : Db) (g : Gx) (hg : g.Ok) (k n : Nat) (hf : d.Fine g k n) (N : Nat) (hN : N < 18446744073709551616) (w : AI) (hst : St w ((d.H g k).map (·.1)) (d.H g k) w) : aG prog 78 [P_ d.b, .int .u64 N] w ((d.H g k).map (·.1)) (fun v H => v = .tuple #[.agg (cSt ((k + (min N 5000) : Nat) : Int) 0 0 false).toArray, .int .i64 0] ∧ ∃ e, Lf g d e (k + (min N 5000)) (max n (k + (min N 5000) + 1)) (((min N 5000) : Nat) : Int) H) := by
 obtain ⟨hd, hk, hn, hdn⟩ := hf
 refine cE func78 hst ?_
 refine ZAm ?_
 refine nM fun b0 => ?_
 refine aI ?_
 refine aP K_ (fun w hw => Yb d.b d.q.A.mb w (bN (b := d.b) (l := Db.cs d g (k)) (.tail _ (.head _)) U w hw)) ?_
 refine bA ?_
 refine RW (v := (.int .u64 ((min N 5000 : Nat) : Int))) (vD U U) U (aD _ I) (ZA7 ?_)
 refine dV (σ := Db × Nat) [12, 13, 14, 15, 16] (fun s => [(12, .int .u64 s.2)]) (fun s => (b0, J (cSt 0 0 0 false) 202) :: s.1.H g (k + s.2)) (fun s => s.1.Ok g (k + s.2) (max n (k + s.2 + 1)) ∧ d.To s.1 ∧ s.1.done = d.done + s.2 ∧ s.2 ≤ min N 5000) (fun s => min N 5000 - s.2) (d, 0) ?_ ?_ ?_ ?_
 ·exact ⟨by rw [kf (by show k + 0 + 1 ≤ n; omega)]; exact hd, .refl d, by show d.done = d.done + 0; omega, av _⟩
 ·exact .cons U .nil
 ·exact fun _ h => h
 rintro ⟨e, i⟩ y4 ⟨he, hT, hdn3, hi⟩
 dsimp only at he hT hdn3 hi ⊢
 refine ZBn ?_
 refine KC (fun q0 z0 => ?_) (fun q0 z0 => ?_)
 ·refine ZBn ?_
  refine RX (cX (F := [(b0, J (cSt 0 0 0 false) 202)]) (A := Db.H e g (k + i)) K_ U (fun w hw => (by have h9 := aD8 e g hg (k + i) (max n (k + i + 1)) he I I ⟨aR, aR⟩ w (St.lentV hw); rw [hT.b] at h9; exact h9))) U ?_
  rintro _ _ ⟨_, ⟨e2, va, GA, he2, hT0, hd2, rfl, hV, hGA, rfl⟩, rfl⟩
  rw [ct, bq]
  refine ZAm ?_
  refine RW (v := (.int .u64 ((i + 1 : Nat) : Int))) U U (aD _ ((wB I I).trans I)) (ZAm ?_)
  exact ⟨(e2, i + 1), ⟨(show max (max n (k + i + 1)) (k + i + 2) = max n (k + (i + 1) + 1) by omega) ▸ he2, hT.trans hT0, by show e2.done = d.done + ((i + 1 : Nat) : Int); omega, by show i + 1 ≤ min N 5000; omega⟩, by show min N 5000 - (i + 1) < min N 5000 - i; omega, .cons U .nil, bJ, fun _ h => h⟩
 refine ZBy ?_
 refine W (dG K_ U (fun w hw => (by have h9 := Vm e.b ((k + i : Nat) : Int) 0 w (bN (b := e.b) (l := Db.cs e g (k + i)) (.tail _ (.head _)) rfl w hw); rw [hT.b] at h9; exact h9))) U (ZAm ?_)
 refine W (bH (l' := cSt ((k + i : Nat) : Int) 0 0 false) 0) U ?_
 rw [ak]
 refine ZA7 ?_
 obtain rfl : i = min N 5000 := by omega
 exact iU (fun w hw => gK U U U (aH (b := b0) (l := cSt ((k + min N 5000 : Nat) : Int) 0 0 false) (.head _) w hw) U) (.cons _ aJ) ⟨U, e, he, hT, hdn3, U⟩
def aMJ (d : Db) (g : Gx) (n : Nat) (hf : d.Fine g 0 n) (N : Nat) (h0 : 0 < N) (w : AI) (hst : St w ((d.H g 0).map (·.1)) (d.H g 0) w) : aG prog 80 [P_ d.b, .int .u64 N] w ((d.H g 0).map (·.1)) (fun v H => v = .tuple #[.agg (cSt ((0 : Nat) : Int) 4 0 false).toArray, .int .i64 0] ∧ H = d.H g 0) := by
 obtain ⟨hd, hk, hn, hdn⟩ := hf
 refine cE func80 hst ?_
 refine ZAm ?_
 refine nM fun b0 => ?_
 refine ZDG ?_
 refine aP K_ (fun w hw => Yb d.b d.q.A.mb w (bN (b := d.b) (l := Db.cs d g 0) (.tail _ (.head _)) U w hw)) ?_
 refine bZ ?_
 refine W (aX U U (bN (b := d.b) (l := Db.cs d g 0) (.tail _ (.head _)) tV)) U (iX ?_)
 refine ZAm ?_
 refine uQ ?_
 refine ZDG ?_
 refine aP K_ (fun w hw => Vm d.b ((0 : Nat) : Int) 4 w (bN (b := d.b) (l := Db.cs d g (0)) (.tail _ (.head _)) U w hw)) ?_
 refine ZAm ?_
 refine W (bH (l' := cSt ((0 : Nat) : Int) 4 0 false) 0) U ?_
 rw [ak]
 refine ZA7 ?_
 exact iU (fun w hw => gK U U U (aH (b := b0) (l := cSt ((0 : Nat) : Int) 4 0 false) (.head _) w hw) U) (.cons _ aJ) ⟨U, U⟩
def aJu (d : Db) (g : Gx) (hg : g.Ok) (k n : Nat) (hf : d.Fine g k n) (N : Nat) (h0 : 0 < k ∨ N = 0) (hN : N < 18446744073709551616) (w : AI) (hst : St w ((d.H g k).map (·.1)) (d.H g k) w) : aG prog 80 [P_ d.b, .int .u64 N] w ((d.H g k).map (·.1)) (fun v H => v = .tuple #[.agg (cSt (((k - min N k) : Nat) : Int) 0 0 false).toArray, .int .i64 0] ∧ ∃ e, Lf g d e (k - min N k) (max n ((k - min N k) + 1)) (sY d.ms k (k - min N k)) H) := by
 obtain ⟨hd, hk, hn, hdn⟩ := hf
 refine cE func80 hst ?_
 refine ZAm ?_
 refine nM fun b0 => ?_
 refine ZAm ?_
 refine rR (σ := Unit) [6, 7, 8, 9, 10, 11, 12, 13, 14, 15, 16, 17, 18, 19, 20] (fun _ => []) (fun _ => (b0, J (cSt 0 0 0 false) 202) :: d.H g k) (fun _ => True) ?_ ?_
 ·refine ZBy ?_
  refine aP K_ (fun w hw => Yb d.b d.q.A.mb w (bN (b := d.b) (l := Db.cs d g (k)) (.tail _ (.head _)) U w hw)) ?_
  refine ZBn ?_
  rcases d9 k with hz | hz
  ·refine ZBy ?_
   refine W (aX U U (bN (b := d.b) (l := Db.cs d g k) (.tail _ (.head _)) tV)) U (gO true U U U (beq_iff_eq.2 I) ?_)
   refine ZAm ?_
   refine qA ?_
   refine ZBn ?_
   exact ⟨(), trivial, .nil, bJ, fun _ h => h⟩
  refine ZBy ?_
  refine W (aX U U (bN (b := d.b) (l := Db.cs d g k) (.tail _ (.head _)) tV)) U (jL ?_)
  refine bA ?_
  exact ⟨(), trivial, .nil, bJ, fun _ h => h⟩
 rintro _ y0 _
 refine ZBE ?_
 refine DR [5, 6, 7, 8, 9, 10] (bW [0, 2, 4, 6, 8, 10, 12, 14, 16, 18, 20, 22, 25]) ?_
 refine ZBy ?_
 refine DL U U U (eN (b := d.b) (l := Db.cs d g k) (.tail _ (.head _)) tV) U (ZBy ?_)
 refine DL U U U (eN (b := d.b) (l := Db.cs d g k) (.tail _ (.head _)) tV) U (DW (v := (.int .u64 ((min N k : Nat) : Int))) U (vD U U) U (aD _ I) (DW (v := (.int .u64 (((k - min N k) : Nat) : Int))) U U U (aD _ ((wB I I).trans I)) (DX U (cX (F := [(b0, J (cSt 0 0 0 false) 202)]) (A := Db.H d g k) K_ U (dJ (aLk d g hg k n ⟨hd, hk, hn, hdn⟩ (k - min N k) I))) U aW ?_)))
 rintro _ _ ⟨_, ⟨rfl, e, he, hT, hde, rfl⟩, rfl⟩
 refine jC (H' := (b0, J (cSt 0 0 0 false) 202) :: e.H g (k - min N k)) (fun _ h => h) ?_
 refine ZBy ?_
 refine W (dG K_ U (fun w hw => (by have h9 := Vm e.b (((k - min N k) : Nat) : Int) 0 w (bN (b := e.b) (l := Db.cs e g ((k - min N k))) (.tail _ (.head _)) rfl w hw); rw [hT.b] at h9; exact h9))) U (ZAm ?_)
 refine W (bH (l' := cSt (((k - min N k) : Nat) : Int) 0 0 false) 0) U ?_
 rw [ak]
 refine ZA7 ?_
 exact iU (fun w hw => gK U U U (aH (b := b0) (l := cSt (((k - min N k) : Nat) : Int) 0 0 false) (.head _) w hw) U) (.cons _ aJ) ⟨U, e, he, hT, hde, U⟩
end Go.Proofs.YthigpmaadmneaaaGreatDoor
