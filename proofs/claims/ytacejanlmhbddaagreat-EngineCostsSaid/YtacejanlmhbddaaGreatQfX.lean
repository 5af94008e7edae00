/- Parts. -/
import Derived.Test.YtacejanlmhbddaaGreatQfQ
import Derived.Test.YtacejanlmhbddaaGreatQfR
set_option maxRecDepth 100000
set_option maxHeartbeats 1000000
set_option linter.all false
namespace Go.Proofs.YtacejanlmhbddaaGreat.Tm
open Go Go.VV
def times_get {ms : List Mark} {k : Nat} (hk : k < ms.length) : (times ms).getD k 0 = tm ms k := by simp [times, tm, hk]
def befM_tm {ms : List Mark} {x : Int} (h : 0 ≤ bef ms x) : (befM ms x).t = tm ms (bef ms x).toNat := by
 rw [← pN o_m]; rfl
end Go.Proofs.YtacejanlmhbddaaGreat.Tm
namespace Go.Proofs.YtacejanlmhbddaaGreat
open Go Go.VV Go.Proofs Go.RowKit Go.Proofs.Tryz
def aLM (b lb : Nat) (cap : Int) (ms : List Tm.Mark) (hl : ms.length < 1000000000) (w : AI) (h5 : w.cell? ⟨b, 5, none⟩ = some (P_ lb)) (hL : Tm.LineW w lb cap ms) : aB prog 18 [P_ b] w [] (fun v H => Vec 36 1 v ms.length ((Tm.times ms).map (.int .u64)) H) := by
 refine dR_ func18 ?_
 refine ZCZ ?_
 refine ZEf ?_
 refine RZ (aE rfl rfl (aV h5 y_r)) rfl (RX (bI K_ rfl (fun w hw => Tm.marks_fn lb cap ms hl w (hL.later0 hw))) rfl ?_)
 rintro v0 _ ⟨G0, hV0, rfl⟩
 obtain ⟨a9, c0, rfl⟩ := hV0.slice
 refine ZA1 ?_
 exact EV rfl y_cx hV0
def aJR (l : AB) (x : Int) : Int := l.getD ((l.filter fun y => decide (y ≤ x)).length - 1) 0
def okT (i : Nat) (l : AB) : Bool := (List.range (i + 1)).all fun j => decide ((j : Int) - aJR l j ≤ max 1 ((i : Int) - j))
def aJn : Nat → Nat → AB → Bool
 | 0, _, _ => true
 | f + 1, i, l => decide (((i : Int) :: tR i i l.reverse).length ≤ 24) && (okT i (aAq 24 l i) && aJn f (i + 1) (aAq 24 l i))
def aGP : aJn 150 0 [] = true := by kernel_rfl
def aBG : ∀ (f i : Nat), aJn f i (rB 24 i) = true → ∀ n, i ≤ n → n < i + f → ((n : Int) :: tR n n (rB 24 n).reverse).length ≤ 24 ∧ okT n (rB 24 (n + 1)) = true
 | 0, _, _, _, h1, h2 => absurd h2 o_m
 | f + 1, i, h, n, h1, h2 => by
  unfold aJn at h
  rw [aq, aq, decide_eq_true_eq] at h
  rcases Nat.eq_or_lt_of_le h1 with rfl | h3
  ·exact ⟨h.1, h.2.1⟩
  ·exact aBG f (i + 1) h.2.2 n h3 o_m
def aHY {cap : Nat} (hc : 24 ≤ cap) : ∀ n, n ≤ 150 → rB cap n = rB 24 n
 | 0, _ => rfl
 | n + 1, h => by
  show aAq cap (rB cap n) n = aAq 24 (rB 24 n) n
  rw [aHY hc n o_m]
  have hl := (aBG 150 0 aGP n o_m o_m).1
  unfold aAq
  rw [show ((n : Int) :: tR n n (rB 24 n).reverse).length - cap = 0 by omega, show ((n : Int) :: tR n n (rB 24 n).reverse).length - 24 = 0 by omega]
def aMX {cap : Nat} (hc : 24 ≤ cap) {n j : Nat} (hn : n < 150) (hj : j ≤ n) : (j : Int) - aJR (rB cap (n + 1)) j ≤ max 1 ((n : Int) - j) := by
 rw [aHY hc _ o_m]
 have h := (aBG 150 0 aGP n o_m o_m).2
 exact ct (List.all_eq_true.1 h j (List.mem_range.2 o_m))
def aSh {ms : List Tm.Mark} {x : Int} (h : 0 ≤ Tm.bef ms x) : (Tm.befM ms x).t = aJR (Tm.times ms) x := by
 rw [Tm.befM_tm h]
 have e1 : ((Tm.times ms).filter fun y => decide (y ≤ x)).length = Tm.cntLe ms x := by
  unfold Tm.times Tm.cntLe
  rw [List.filter_map, Lm_]
  rfl
 unfold aJR
 rw [e1, Tm.times_get (by have := (Tm.bef_lt (by omega : ¬ Tm.bef ms x < 0)).1; unfold Tm.bef at this h; omega)]
 unfold Tm.bef at h ⊢
 congr 1
 omega
def aI3 {d : Db} {g : Gx} {n k : Nat} (hd : d.Ok g n (n + 1)) (hn : n < 150) (hc : 24 ≤ d.cap) : jF d.ms n (n - min k n) ≤ max 1 ((min k n : Nat) : Int) := by
 obtain ⟨hm0, hm1, _⟩ := hd.line.more o_m
 have hb := Tm.bef_nn hd.line.rise hm0 hm1 (x := ((n - min k n : Nat) : Int)) o_m
 have hb1 := Tm.befM_le hd.line.rise hb
 have h1 := aSh hb
 rw [hd.tms] at h1
 have h2 := aMX (cap := (capT d.cap).toNat) (by unfold capT; omega) hn (j := n - min k n) o_m
 rw [← h1] at h2
 unfold jF
 split <;> omega
def aOd (d : Db) (g : Gx) (hg : g.Ok) (k n : Nat) (hf : d.Fine g k n) (N : Nat) (hN : N < 18446744073709551616) (w : AI) (hst : St w ((d.H g k).map (·.1)) (d.H g k) w) : aB prog 17 [P_ d.b, .int .u64 N] w ((d.H g k).map (·.1)) (fun v H => ∃ (y : Int) (e : Db), v = .tuple #[.agg (cSt ((k - min N k : Nat) : Int) y 0 false).toArray, .int .i64 0] ∧ aAG g d e (k - min N k) (max n (k - min N k + 1)) (jF d.ms k (k - min N k)) H) := by
 by_cases h : k = 0 ∧ 0 < N
 ·obtain ⟨rfl, q0⟩ := h
  have hlt := hf.lt
  rw [show 0 - min N 0 = 0 by omega, show max n (0 + 1) = n by omega]
  have hs := rD hf.ok o_m 0
  refine (aFg d g n hf N q0 w hst).mono fun v H hv => ⟨4, d, hv.1, hf.ok, .refl d, y_y, hv.2⟩
 exact (aB4 d g hg k n hf N o_m hN w hst).mono fun v H ⟨h1, e, h2⟩ => ⟨0, e, h1, h2⟩
set_option maxHeartbeats 2000000 in
def aNy (g : Gq) (x1 x2 cap : Int) (q1 : 0 ≤ x1 ∧ x1 < 256) (q2 : 0 ≤ x2 ∧ x2 < 256) (w : AI) (hg : g.Ok w) : aB prog 3 [.agg (cGq g).toArray, .int .u8 x1, .int .u8 x2, .int .i64 cap] w [] (V_ (.bool true)) := by
 obtain ⟨n, hn⟩ : ∃ n : Nat, (n : Int) = x1 % 150 := ⟨(x1 % 150).toNat, y_y⟩
 obtain ⟨k, hk⟩ : ∃ k : Nat, (k : Int) = x2 % 150 := ⟨(x2 % 150).toNat, y_y⟩
 have hn9 : n < 150 := by omega
 have hk9 : k < 150 := by omega
 have hmn : 0 + min n 5000 = n := by omega
 refine dR_ func3 ?_
 refine ZCT ?_
 refine ZAq fun b0 => ?_
 refine ZBb ?_
 refine RLv K_ (wQ_ lE) ?_
 refine ZAl ?_
 refine ZCI ?_
 refine ZA1 ?_
 refine KC (fun q0 z0 => ?_) (fun q0 z0 => ?_)
 ·refine ZAl ?_
  refine RLv K_ (wQ_ lE) ?_
  exact ZAR
 refine ZAl ?_
 refine ZFK fun hf9 hf8 => ?_
 refine ZAl ?_
 refine RX (bI K_ rfl (wQ_ (xG cap))) rfl ?_
 rintro _ _ ⟨G0, ⟨b1, tb, oT, rfl, hT0, rfl⟩, rfl⟩
 refine ZAl ?_
 refine jC (σ := Db × AC × Nat) [8, 27, 28, 29, 30, 31, 32, 33] (fun _ => []) (fun s => s.1.H (g.gx s.2.1 s.2.2) 0) (fun s => errH (romQ g) = 0 ∧ s.1.Ok (g.gx s.2.1 s.2.2) 0 1 ∧ s.1.b = b1 ∧ s.1.cap = cap ∧ s.1.asked = 0 ∧ s.1.done = 0 ∧ s.1.pv = .slice none 0 0 ∧ s.1.wv = .slice none 0 0) ?_ ?_
 ·refine ZBL ?_
  by_cases he9 : errH (romQ g) = 0
  ·refine ZDI ?_
   refine ZBp ?_
   refine ZAo ?_
   refine ZBR fun b2 => ?_
   rintro _ _ ⟨Gp, ⟨pa, pc, rfl, hP⟩, rfl⟩
   refine eX (H' := (b1, blk (cDz cap (P_ tb)) 108) :: (b2, blk ((romQ g).map U_) 5) :: (Gp ++ [(tb, oT)])) (fun _ h => St.fl [Gp, [(b2, blk ((romQ g).map U_) 5)], [(b1, blk (cDz cap (P_ tb)) 108)], [(tb, oT)], [_]] [2, 1, 0, 3] rfl h) ?_
   refine DX rfl (cB K_ rfl (fun w hw => uC (g.gx pa pc) (hg.gx he9 hf9 pa pc) b1 cap 0 0 _ _ _ _ _ _ _ _ _ b2 Gp [(tb, oT)] hP w (St.lentA hw))) rfl n_h ?_
   rintro _ _ ⟨rfl, e, hE, hb, hcap, hask, hdn, hpv, hwv, htab, hR, rfl⟩
   refine xO false rfl rfl rfl rfl rfl ?_
   exact ZE3
  refine ZDI ?_
  refine ZBp ?_
  refine ZAo ?_
  refine ZBR fun b2 => ?_
  rintro _ _ ⟨Gp, ⟨pa, pc, rfl, hP⟩, rfl⟩
  refine ZDN ?_
  refine DX rfl (bB (F := []) (A := [(b1, blk (cDz cap (P_ tb)) 108)]) (G := [(b2, blk ((romQ g).map U_) 5)]) K_ rfl (fun w q0 h2 => uY (romQ g) y_b5 (lA hg) he9 pa g.plan.length pc b1 cap 0 0 _ _ _ _ _ _ _ _ _ b2 [] w (aA (b := b2) (.tail _ (.head _)) w h2) (St.notin (A := [(b1, blk (cDz cap (P_ tb)) 108)]) h2 (x := (b2, blk ((romQ g).map U_) 5)) (.head _)) q0)) rfl n_h (ZAj ?_)
  exact ZEL
 rintro ⟨e, pa, pc⟩ y4 ⟨he9, hE, hb, hcap, hask, hdn, hpv, hwv⟩
 dsimp only at hE hb hcap hask hdn hpv hwv ⊢
 subst hb
 have hgx := hg.gx he9 hf9 pa pc
 generalize g.gx pa pc = gx at *
 have hF : e.Fine gx 0 1 := ⟨hE, y_eP, y_eP, y_dg⟩
 refine ZA1 ?_
 refine ZEO ?_
 refine RW (v := (.int .u64 (n : Int))) rfl rfl (cA_ _ ((Int.tmod_eq_emod_of_nonneg o_m).trans hn.symm)) (ZBL ?_)
 refine ZEO ?_
 refine RW (v := (.int .u64 (k : Int))) rfl rfl (cA_ _ ((Int.tmod_eq_emod_of_nonneg o_m).trans hk.symm)) (ZDH ?_)
 refine RX (cB K_ rfl (fun w hw => (by have h9 := aB3 e gx hgx 0 1 hF n o_m w (St.lentA hw); rw [hmn] at h9; exact h9))) rfl ?_
 rintro _ _ ⟨rfl, e1, hG⟩
 rw [show max 1 (n + 1) = n + 1 by omega] at hG
 have hF1 := hF.goes hG o_m o_m ⟨y_y, by rw [hdn]; omega⟩
 obtain ⟨hE1, hT1, hd1, rfl⟩ := hG
 have hd9 : e1.done = (n : Int) := by rw [hd1, hdn]; omega
 refine ZBr ?_
 refine RZ (bJ K_ rfl (fun w hw => (by have h9 := aDt e1.b e1.done w (aJ (b := e1.b) (l := Db.cs e1 gx (n)) (.head _) rfl w hw); rw [hT1.b, hd9] at h9; exact h9))) rfl (ZBn ?_)
 refine RX (cB K_ rfl (fun w hw => (by have h9 := aOd e1 gx hgx n (n + 1) hF1 k o_m w (St.lentA hw); rw [hT1.b] at h9; exact h9))) rfl ?_
 rintro _ _ ⟨y, e2, rfl, hG⟩
 have hs2 := rD hF1.ok o_m (n - min k n)
 rw [show max (n + 1) ((n - min k n) + 1) = n + 1 by omega] at hG
 obtain ⟨hE2, hT2, hd2, rfl⟩ := hG
 have hT3 := hT1.trans hT2
 have hml : e2.ms.length ≤ (capT cap).toNat := by have h9 := hE2.line.len; rwa [hT3.cap, hcap] at h9
 have hcp := capT_ok cap
 obtain ⟨hm0, hm1, _⟩ := hE2.line.more o_m
 generalize hC : jF e1.ms n (n - min k n) = C at *
 refine ZEI ?_
 rintro _ _ ⟨b2, rfl, rfl⟩
 refine RZ (xS_ (l' := cSt (((n - min k n) : Nat) : Int) y 0 false) 0) rfl (ZDF ?_)
 refine ZBb ?_
 refine RX (bI K_ rfl (fun w hw => (by have h9 := aLM e2.b e2.lb (capT e2.cap) e2.ms (by have := hE2.line.len; have := capT_ok e2.cap; omega) w (aJ (b := e2.b) (l := Db.cs e2 gx ((n - min k n))) (.tail _ (.head _)) rfl w hw) (hE2.line.line.lineW hw (fun x hx => .tail _ (.tail _ (.tail _ (mR_ _ (mR_ _ (mL_ _ hx))))))); rw [hT3.b] at h9; exact h9))) rfl ?_
 rintro v0 _ ⟨G1, hV0, rfl⟩
 obtain ⟨b3, c0, sp0, rfl, rfl, hz52, hcx0, _⟩ := hV0.full o_m
 refine ZBb ?_
 refine RZ (bJ K_ rfl (fun w hw => (by have h9 := aDt e2.b e2.done w (aJ (b := e2.b) (l := Db.cs e2 gx (n - min k n)) (mR_ _ (.tail _ (.head _))) rfl w hw); rw [hT3.b, hd2, hd9] at h9; exact h9))) rfl (ZBL ?_)
 refine RW (v := (.int .u64 C)) rfl rfl (cA_ _ ((eN o_m o_m).trans o_m)) (ZDH ?_)
 refine ZAz ?_
 refine ZAl ?_
 refine ZEy ?_
 refine RZ (aE rfl rfl (aJ (b := b2) (l := cSt (((n - min k n) : Nat) : Int) y 0 false) (mR_ _ (.head _)) y_cs)) rfl (ZA1 ?_)
 refine RW (v := (.int .u64 ((min k n : Nat) : Int))) (gH rfl rfl) rfl (cA_ _ o_m) (RW (v := (.int .u64 (((n - min k n) : Nat) : Int))) rfl rfl (cA_ _ ((eN o_m o_m).trans o_m)) (ZAz ?_))
 refine ZA1 ?_
 refine ZBE ?_
 refine ZAB ?_
 refine ZA1 ?_
 have hc0 : ((Tm.times e2.ms).map (Value.int .u64) ++ sp0)[0 + (0 : Int).toNat]? = some (.int .u64 0) := by
  rw [cx (by rw [Lm_, Tm.times_len]; exact hm0), cq]
  have qx1 := Tm.times_get (ms := e2.ms) hm0
  rw [hm1] at qx1
  rw [show (Tm.times e2.ms)[0 + (0 : Int).toNat]? = some ((Tm.times e2.ms).getD 0 0) by simp [Tm.times_len, hm0], qx1]; rfl
 refine RY (aP 0 rfl rfl rfl rfl o_m) rfl (RZ (aE rfl rfl (aJ (v := .int .u64 0) (b := b3) (l := (Tm.times e2.ms).map (Value.int .u64) ++ sp0) (.head _) hc0)) rfl (ZEy ?_))
 refine ZBE ?_
 refine ZBL ?_
 refine RY (gH rfl rfl) rfl (RY (kD rfl rfl) rfl (cY false rfl rfl rfl (bw (by unfold capT at hml hcp; omega)) ?_))
 refine ZEf ?_
 refine RZ (aE rfl rfl (aJ (b := b2) (l := cSt (((n - min k n) : Nat) : Int) y 0 false) (mR_ _ (.head _)) y_cs)) rfl (ZBD ?_)
 refine ZA1 ?_
 refine KL (fun qx1 qx1n => ?_) (fun qx1 qx1n => ?_)
 ·refine A_11 ?_
  exact E0 rfl ⟨rfl, rfl⟩
 refine ZA1 ?_
 refine RW (v := (.int .u64 ((min k n : Nat) : Int))) (gH rfl rfl) rfl (cA_ _ o_m) (RY (kD rfl rfl) rfl (cY true rfl rfl rfl (ah (by have h9 := aI3 hE1 (k := k) hn9 (by rw [hT1.cap, hcap]; have := c7 qx1; omega); rw [hC] at h9; omega)) ?_))
 refine ZBb ?_
 exact E0 rfl ⟨rfl, rfl⟩
end Go.Proofs.YtacejanlmhbddaaGreat
