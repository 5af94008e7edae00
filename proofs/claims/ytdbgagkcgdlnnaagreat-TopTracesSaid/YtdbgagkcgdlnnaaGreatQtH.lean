/- Parts. -/
import Derived.Test.YtdbgagkcgdlnnaaGreatQtG
set_option maxRecDepth 100000
set_option maxHeartbeats 1000000
set_option linter.all false
namespace Go.Proofs.YtdbgagkcgdlnnaaGreat
open Go Go.VV Go.Proofs Go.RowKit Go.Proofs.Tryz
def qS (b : Nat) (u : PU) (hu : u.Wf) (w : AI) (hr : Row w b 0 (cU u)) : aC prog 221 [P_ b] w [] (V_ (.bool (fX u))) := by
 refine dR_ func221 ?_
 refine A_9 ?_
 refine RY y_dC rfl (RZ (aH rfl rfl (bF (mL hr (oM hu (j := 0) y_b)) y_v)) rfl (ZBx ?_))
 exact E0 rfl ⟨rfl, cA_ _ (aN4 hu)⟩
def rU (b : Nat) (u : PU) (hu : u.Wf) (w : AI) (hr : Row w b 0 (cU u)) : aC prog 218 [P_ b] w [] (V_ (.int .i64 (modeU u))) := by
 refine dR_ func218 ?_
 refine A_12 ?_
 refine RLv K_ (fun w hw => qS b u hu w (aR hr y_v w hw)) ?_
 refine ZB6 ?_
 refine KC (fun q0 z0 => ?_) (fun q0 z0 => ?_)
 ·refine ZBx ?_
  exact E0 rfl ⟨rfl, cA_ _ y_b5⟩
 refine ZBx ?_
 refine RZ (aH rfl rfl (bF (mL hr (cU_line hu)) y_v)) rfl (ZBB ?_)
 refine KC (fun q1 z1 => ?_) (fun q1 z1 => ?_)
 ·refine ZBx ?_
  exact E0 rfl ⟨rfl, cA_ _ y_b5⟩
 refine ZBx ?_
 refine RZ (aH rfl rfl (bF (mL hr (cU_dot hu)) y_v)) rfl (ZBB ?_)
 refine KC (fun q2 z2 => ?_) (fun q2 z2 => ?_)
 ·refine ZBx ?_
  exact E0 rfl ⟨rfl, cA_ _ y_b5⟩
 refine ZBx ?_
 refine RZ (aH rfl rfl (bF (mL hr (cU_dot hu)) y_v)) rfl (ZBB ?_)
 refine KC (fun q3 z3 => ?_) (fun q3 z3 => ?_)
 ·refine ZBx ?_
  exact E0 rfl ⟨rfl, cA_ _ y_b5⟩
 refine ZB2 ?_
 exact E0 rfl ⟨rfl, cA_ _ y_b5⟩
def aD9 (b : Nat) (u : PU) (hu : u.Wf) (w : AI) (hr : Row w b 0 (cU u)) : aC prog 223 [P_ b] w [] (V_ (.bool (sX u))) := by
 have q0 : 0 ≤ u.R.getD 5 0 ∧ u.R.getD 5 0 < 256 := hu.look 5
 refine dR_ func223 ?_
 refine ZBx ?_
 refine DR [1, 7, 8, 9, 10, 11, 12] (pln [0, 3, 4, 6, 8, 10, 12, 14, 16, 18, 20, 22, 24, 26, 28, 30]) ?_
 refine ZBR ?_
 refine DZ rfl (aZ K_ rfl (fun w hw => qS b u hu w (aR hr y_v w hw))) rfl y_c (KE (fun q1 z1 => ?_) (fun q1 z1 => ?_))
 ·refine ZBB ?_
  refine DL rfl rfl rfl (fG (mL hr (cU_line hu)) y_v) rfl (ZBB ?_)
  refine DY rfl (by first | exact aM 5 rfl rfl rfl rfl y_b | exact aV 5 rfl rfl rfl rfl y_b | exact bT 5 rfl rfl rfl rfl y_b | exact bE 5 rfl rfl rfl rfl y_b) rfl (DL rfl rfl rfl (fG (mL hr (oM hu (j := 5) y_b)) y_v) rfl (DW (v := (.int .i64 (u.R.getD 5 0))) rfl rfl rfl (cA_ _ (aI o_m o_m)) (ZBx ?_)))
  exact E0 rfl ⟨rfl, cA_ _ (by unfold sX; simp_all)⟩
 refine A_15 ?_
 exact E0 rfl ⟨rfl, cA_ _ (by unfold sX; simp_all)⟩
def place_fn (b : Nat) (a : Int) (ha : 0 ≤ a ∧ a < 65536) (w : AI) : aC prog 217 [P_ b, .int .u16 a] w [] (V_ (placeV b a)) := by
 refine dR_ func217 ?_
 refine A_11 ?_
 refine KL (fun q0 z0 => ?_) (fun q0 z0 => ?_)
 ·refine ZBx ?_
  refine KC (fun q1 z1 => ?_) (fun q1 z1 => ?_)
  ·refine ZB6 ?_
   refine RW (v := (.int .u16 (a - 32768))) rfl rfl (cA_ _ (eV y_a y_a)) (ZAn ?_)
   refine RY (aM (a - 32768).toNat rfl rfl rfl y_a y_a) rfl (ZB6 ?_)
   exact aF (fun _ _ => bZ rfl rfl) ⟨rfl, by unfold placeV; rw [if_pos y_a]⟩
  refine ZB6 ?_
  refine KL (fun q2 z2 => ?_) (fun q2 z2 => ?_)
  ·refine ZBx ?_
   refine KC (fun q3 z3 => ?_) (fun q3 z3 => ?_)
   ·refine ZB6 ?_
    refine RW (v := (.int .u16 (a - 65024))) rfl rfl (cA_ _ (eV y_a y_a)) (ZAn ?_)
    refine RY (aM (a - 65024).toNat rfl rfl rfl y_a y_a) rfl (ZB6 ?_)
    exact aF (fun _ _ => bZ rfl rfl) ⟨rfl, by unfold placeV; rw [if_neg y_a, if_pos y_a]⟩
   refine ZDR ?_
   exact aF (fun _ _ => bZ rfl rfl) ⟨rfl, y_d5⟩
  refine A_13 ?_
  exact aF (fun _ _ => bZ rfl rfl) ⟨rfl, y_d5⟩
 refine A_10 ?_
 refine KL (fun q1 z1 => ?_) (fun q1 z1 => ?_)
 ·refine ZBx ?_
  refine KC (fun q2 z2 => ?_) (fun q2 z2 => ?_)
  ·refine ZB6 ?_
   refine RW (v := (.int .u16 (a - 65024))) rfl rfl (cA_ _ (eV y_a y_a)) (ZAn ?_)
   refine RY (aM (a - 65024).toNat rfl rfl rfl y_a y_a) rfl (ZB6 ?_)
   exact aF (fun _ _ => bZ rfl rfl) ⟨rfl, by unfold placeV; rw [if_neg y_a, if_pos y_a]⟩
  refine ZDR ?_
  exact aF (fun _ _ => bZ rfl rfl) ⟨rfl, y_d5⟩
 refine A_13 ?_
 exact aF (fun _ _ => bZ rfl rfl) ⟨rfl, y_d5⟩
def aCP (a : Int) (ha : 0 ≤ a ∧ a < 65536) (w : AI) : aC prog 220 [.int .u16 a] w [] (V_ (.int .i64 (numU a))) := by
 refine dR_ func220 ?_
 refine ZDR ?_
 refine RW (v := (.int .i64 (a))) rfl rfl (cA_ _ (aI o_m o_m)) (RW (v := (.int .i64 (a - 65344))) rfl rfl (cA_ _ (aI o_m o_m)) (ZDR ?_))
 refine KL (fun q0 z0 => ?_) (fun q0 z0 => ?_)
 ·refine A_14 ?_
  exact E0 rfl ⟨rfl, cA_ _ y_er⟩
 refine ZBB ?_
 refine KL (fun q1 z1 => ?_) (fun q1 z1 => ?_)
 ·refine A_10 ?_
  exact E0 rfl ⟨rfl, cA_ _ y_er⟩
 refine ZB6 ?_
 refine KC (fun q2 z2 => ?_) (fun q2 z2 => ?_)
 ·refine ZBx ?_
  exact E0 rfl ⟨rfl, cA_ _ y_er⟩
 refine ZDR ?_
 exact E0 rfl ⟨rfl, cA_ _ (by unfold numU; rw [if_neg y_a])⟩
def ask_fn (b : Nat) (u : PU) (hu : u.Wf) (w : AI) (hst : St w [b] [(b, blk (cU u) 204)] w) : aC prog 222 [P_ b] w [b] (fun v H => v = .int .u8 (askV u) ∧ H = [(b, blk (cU (askU u)) 204)]) := by
 have hmr := xI u
 refine dO_ func222 hst ?_
 refine A_9 ?_
 refine RZ (aH rfl rfl (aT m_m (cU_sig hu))) rfl (ZB6 ?_)
 refine RY (jW (l := [.int .u8 8, .int .u8 16, .int .u8 32, .int .u8 0]) rfl rfl rfl y_i) rfl (ZAt fun b0 => ?_)
 refine ZEH ?_
 refine ZB2 ?_
 refine RY y_dK rfl (RZ (aH rfl rfl (aT m_m (oM hu (j := 1) y_b))) rfl (ZB2 ?_))
 refine RLv K_ (fun w hw => qS b u hu w (aA m_m w hw)) ?_
 refine KL (fun q0 z0 => ?_) (fun q0 z0 => ?_)
 ·refine ZAn ?_
  refine RLv K_ (fun w hw => rU b u hu w (aA m_m w hw)) ?_
  refine RY (aM (modeU u).toNat rfl rfl rfl o_m o_m) rfl (RZ (aH rfl rfl (aT m_m (aSi u))) rfl (ZAn ?_))
  refine KL (fun q1 z1 => ?_) (fun q1 z1 => ?_)
  ·refine A_11 ?_
   refine RZ (aD (l' := cU (askU u)) 1 rfl rfl rfl rfl rfl rfl y_m (zZ hu (aSl q0 q1))) rfl (ZAC ?_)
   refine ZC0 ?_
   refine KL (fun q2 z2 => ?_) (fun q2 z2 => ?_)
   ·refine ZB6 ?_
    refine KC (fun q3 z3 => ?_) (fun q3 z3 => ?_)
    ·refine ZBx ?_
     exact EV rfl (ce _ _) ⟨cA_ _ y_N, rfl⟩
    exact ZDd
   exact ZCZ
  refine ZBB ?_
  refine KL (fun q2 z2 => ?_) (fun q2 z2 => ?_)
  ·refine ZBR ?_
   refine RLv K_ (fun w hw => aD9 b u hu w (aA m_m w hw)) ?_
   refine ZBx ?_
   refine RZ (aD (l' := cU (askU u)) 1 rfl rfl rfl rfl rfl rfl y_m (zZ hu (aSs q0 q1 q2))) rfl (ZAC ?_)
   refine ZC0 ?_
   refine KL (fun q3 z3 => ?_) (fun q3 z3 => ?_)
   ·refine ZB6 ?_
    refine KC (fun q4 z4 => ?_) (fun q4 z4 => ?_)
    ·refine ZBx ?_
     exact EV rfl (ce _ _) ⟨cA_ _ y_N, rfl⟩
    exact ZDd
   exact ZCZ
  refine ZDR ?_
  refine RZ (aD (l' := cU (askU u)) 1 rfl rfl rfl rfl rfl rfl y_m (zZ hu (aSn q0 q1 q2))) rfl (ZAC ?_)
  refine ZC0 ?_
  refine KL (fun q3 z3 => ?_) (fun q3 z3 => ?_)
  ·refine ZB6 ?_
   refine KC (fun q4 z4 => ?_) (fun q4 z4 => ?_)
   ·refine ZBx ?_
    exact EV rfl (ce _ _) ⟨cA_ _ y_c4, rfl⟩
   refine ZB2 ?_
   exact EV rfl (ce _ _) ⟨cA_ _ y_c4, rfl⟩
  exact ZCZ
 refine A_19 ?_
 refine RZ (aD (l' := cU (askU u)) 1 rfl rfl rfl rfl rfl rfl y_m (zZ hu (aSd q0))) rfl (ZAC ?_)
 refine ZC0 ?_
 refine KL (fun q1 z1 => ?_) (fun q1 z1 => ?_)
 ·refine ZB6 ?_
  refine KC (fun q2 z2 => ?_) (fun q2 z2 => ?_)
  ·refine ZBx ?_
   exact EV rfl (ce _ _) ⟨cA_ _ y_N, rfl⟩
  exact ZDd
 exact ZCZ
def yD (n fr mn : Int) (w : AI) :
  aC prog 271 [.int .i64 n, .int .i64 fr, .int .i64 mn] w [] (V_ (.bool (decide (fr ≤ n) && decide (n < IntKind.i64.wrap (fr + mn))))) := by
 refine dR_ func271 ?_
 refine A_9 ?_
 refine KL (fun h1 h1n => ?_) (fun h1 h1n => ?_)
 ·refine A_9 ?_
  exact E0 rfl ⟨rfl, by (simp_all; try omega)⟩
 refine A_9 ?_
 exact E0 rfl ⟨rfl, by (simp_all; try omega)⟩
def aDA (c b f s : Int) (hc : 0 ≤ c ∧ c < 256) (w : AI) :
  aC prog 272 [.agg #[.int .u8 c, .int .u8 b, .int .u8 f, .int .u8 s]] w [] (V_ (.int .i64 (hgt c))) := by
 refine dR_ func272 ?_
 refine A_2 ?_
 refine RX (dC rfl rfl) rfl ?_
 rintro _ _ ⟨b1, rfl, rfl⟩
 refine A_10 ?_
 refine KC (fun h1 h1n => ?_) (fun h1 h1n => ?_)
 ·refine A_5 ?_
  exact E0 rfl ⟨rfl, cA_ _ (aE7 hc (b := true) h1)⟩
 refine A_6 ?_
 exact E0 rfl ⟨rfl, cA_ _ (aE7 hc (b := false) h1)⟩
def aDY (a : AC) (cap : Nat) (l : AB) (n : Int) (hn : 0 ≤ n) (w : AI) (hB : Ns w .u8 a l) :
  aC prog 277 [.slice a l.length cap, .int .i64 n] w [] (V_ (.int .u8 (vAt l n))) := by
 refine dR_ func277 ?_
 refine A_9 ?_
 refine RY l_n rfl (RY (kL rfl rfl) rfl (A_2 ?_))
 refine KC (fun h1 h1n => ?_) (fun h1 h1n => ?_)
 ·refine A_5 ?_
  exact E0 rfl ⟨rfl, cA_ _ (aOU y_w)⟩
 refine A_2 ?_
 obtain ⟨b, off, rfl, hr⟩ := hB.row (i := n.toNat) y_w
 refine A_3 ?_
 refine RY (aV n.toNat rfl rfl rfl y_w y_w) rfl (RZ (aH rfl rfl (bF (hr.int y_w) y_v)) rfl (A_3 ?_))
 exact E0 rfl ⟨rfl, cA_ _ (aQe y_w)⟩
def mN (a : AC) (cap : Nat) (l : AB) (hl : aY l) (tile x y : Int) (w : AI) (hB : Ns w .u8 a l) :
  aC prog 278 [.slice a l.length cap, .int .i64 tile, .int .i64 x, .int .i64 y] w [] (V_ (.int .u8 (lJ l tile x y))) := by
 refine dR_ func278 ?_
 refine A_9 ?_
 refine KL (fun h1 h1n => ?_) (fun h1 h1n => ?_)
 ·refine A_10 ?_
  exact E0 rfl ⟨rfl, cA_ _ (aEt y_w)⟩
 refine A_4 ?_
 refine KC (fun h2 h2n => ?_) (fun h2 h2n => ?_)
 ·refine A_5 ?_
  exact E0 rfl ⟨rfl, cA_ _ (aEt y_w)⟩
 refine A_19 ?_
 refine DR [] (pln [0, 2, 6, 12, 14, 16, 20, 5, 8, 10, 19, 22, 24, 26, 28, 30]) ?_
 refine A_7 ?_
 refine DZ rfl (aZ K_ rfl (fun w hw => aDY _ _ l _ (aN5 y y_w) w (hB.later0 hw))) rfl n_h (DY rfl (dK rfl rfl (aQB x)) rfl (A_1 ?_))
 refine DZ rfl (aZ K_ rfl (fun w hw => aDY _ _ l _ (aLe y y_w) w (hB.later0 hw))) rfl n_h (DY rfl (dK rfl rfl (aQB x)) rfl (A_1 ?_))
 refine DY rfl (dJ rfl rfl y_b) rfl (A_4 ?_)
 exact E0 rfl ⟨rfl, cA_ _ (aLf hl _ _ y_w)⟩
def pL (p c : Int) (hp : 0 ≤ p ∧ p < 256) (hc : 0 ≤ c ∧ c < 256) (w : AI) :
  aC prog 276 [.int .u8 p, .int .u8 c] w [] (V_ (.int .u8 (shd p c))) := by
 refine dR_ func276 ?_
 refine A_15 ?_
 exact E0 rfl ⟨rfl, cA_ _ (aMq hp hc)⟩
def aIL (v : Vw) (hv : v.Ok) (b : Int) (hb : 0 ≤ b ∧ b < 256) (w : AI) :
  aC prog 279 [.agg (cV v).toArray, .int .u8 b] w [] (fun v' H => H = [] ∧ v' = .int .i64 (uO v.c b)) := by
 refine dR_ func279 ?_
 refine A_2 ?_
 refine RX (dC rfl rfl) rfl ?_
 rintro _ _ ⟨b2, rfl, rfl⟩
 refine A_10 ?_
 refine KC (fun h1 h1n => ?_) (fun h1 h1n => ?_)
 ·refine A_7 ?_
  exact E0 rfl ⟨rfl, cA_ _ (aNV hv.c hb h1)⟩
 refine A_10 ?_
 exact E0 rfl ⟨rfl, cA_ _ (aQ2 hv.c hb h1)⟩
def aGq (a : AC) (cap : Nat) (l : AB) (hl : aY l)(v : Vw) (hv : v.Ok) (n bit px py : Int) (hbit : (aG .u8 v.c bit != 0) = decide (dD v.c n = 1)) (hpx : 0 ≤ px ∧ px < 256) (hpy : 0 ≤ py ∧ py < 256) (w : AI) (hB : Ns w .u8 a l) :
  aC prog 270 [.agg (cV v).toArray, .slice a l.length cap, .int .u8 bit, .int .u8 px, .int .u8 py] w [] (fun v' H => H = [] ∧ v' = .int .u8 (tX l v.c n px py)) := by
 obtain ⟨hvc, hvx, hvy, hwx, hwy⟩ := id hv
 refine dR_ func270 ?_
 refine A_2 ?_
 refine RX (dC rfl rfl) rfl ?_
 rintro _ _ ⟨b5, rfl, rfl⟩
 refine A_15 ?_
 refine KC (fun h1 h1n => ?_) (fun h1 h1n => ?_)
 ·refine A_8 ?_
  refine RW (v := (.int .u8 (py / 8))) rfl rfl (cA_ _ (tT hpy)) (RW (v := (.int .i64 (py / 8))) rfl rfl (cA_ _ (aI o_m o_m)) (RW (v := (.int .i64 (32 * (py / 8)))) rfl rfl (cA_ _ (aI o_m o_m)) (RW (v := (.int .i64 (7168 + 32 * (py / 8)))) rfl rfl (cA_ _ (aI o_m o_m)) ?_)))
  refine A_1 ?_
  refine RW (v := (.int .u8 (px / 8))) rfl rfl (cA_ _ (tT hpx)) (RW (v := (.int .i64 (px / 8))) rfl rfl (cA_ _ (aI o_m o_m)) (RW (v := (.int .i64 (7168 + 32 * (py / 8) + px / 8))) rfl rfl (cA_ _ (aI o_m o_m)) (RZ (aZ K_ rfl (fun w hw => aDY _ _ l _ o_m w (hB.later0 hw))) rfl ?_)))
  refine A_5 ?_
  refine RZ (aL rfl rfl rfl y_h) rfl (A_1 ?_)
  refine RLv K_ (wQ_ (aIL v hv _ (wO hl _))) ?_
  refine A_1 ?_
  refine RW (v := (.int .i64 (px))) rfl rfl (cA_ _ (aI o_m o_m)) (A_1 ?_)
  refine RW (v := (.int .i64 (py))) rfl rfl (cA_ _ (aI o_m o_m)) (RLv K_ (fun w hw => mN _ _ l hl _ _ _ w (hB.later0 hw)) ?_)
  refine A_3 ?_
  exact E0 rfl ⟨rfl, cA_ _ (aJM (by have h9 := hbit.symm.trans h1; simpa using h9)).symm⟩
 refine A_6 ?_
 refine RW (v := (.int .u8 (py / 8))) rfl rfl (cA_ _ (tT hpy)) (RW (v := (.int .i64 (py / 8))) rfl rfl (cA_ _ (aI o_m o_m)) (RW (v := (.int .i64 (32 * (py / 8)))) rfl rfl (cA_ _ (aI o_m o_m)) (RW (v := (.int .i64 (6144 + 32 * (py / 8)))) rfl rfl (cA_ _ (aI o_m o_m)) ?_)))
 refine A_1 ?_
 refine RW (v := (.int .u8 (px / 8))) rfl rfl (cA_ _ (tT hpx)) (RW (v := (.int .i64 (px / 8))) rfl rfl (cA_ _ (aI o_m o_m)) (RW (v := (.int .i64 (6144 + 32 * (py / 8) + px / 8))) rfl rfl (cA_ _ (aI o_m o_m)) (RZ (aZ K_ rfl (fun w hw => aDY _ _ l _ o_m w (hB.later0 hw))) rfl ?_)))
 refine A_5 ?_
 refine RZ (aL rfl rfl rfl y_h) rfl (A_1 ?_)
 refine RLv K_ (wQ_ (aIL v hv _ (wO hl _))) ?_
 refine A_1 ?_
 refine RW (v := (.int .i64 (px))) rfl rfl (cA_ _ (aI o_m o_m)) (A_1 ?_)
 refine RW (v := (.int .i64 (py))) rfl rfl (cA_ _ (aI o_m o_m)) (RLv K_ (fun w hw => mN _ _ l hl _ _ _ w (hB.later0 hw)) ?_)
 refine A_3 ?_
 exact E0 rfl ⟨rfl, cA_ _ (aLA (by have h9 := hbit.symm.trans h1; simpa using h9)).symm⟩
def aRm (a : AC) (cap : Nat) (l : AB) (hl : aY l)(v : Vw) (hv : v.Ok)(x y : Int) (w : AI) (hB : Ns w .u8 a l) :
  aC prog 260 [.agg (cV v).toArray, .slice a l.length cap, .int .i64 x, .int .i64 y] w [] (fun v' H => H = [] ∧ v' = .int .u8 (aHf l v x y)) := by
 refine dR_ func260 ?_
 refine A_2 ?_
 refine RX (dC rfl rfl) rfl ?_
 rintro _ _ ⟨b4, rfl, rfl⟩
 refine A_4 ?_
 refine RZ (aL rfl rfl rfl y_h) rfl (A_2 ?_)
 refine RW (v := (.int .u8 (x % 256))) rfl rfl (cA_ _ (eX _)) (A_1 ?_)
 refine RW (v := (.int .u8 (y % 256))) rfl rfl (cA_ _ (eX _)) (RLv K_ (fun w hw => aGq _ _ l hl v hv 6 64 _ _ (aI2 hv.c) (aBK _) (aBK _) w (hB.later0 hw)) ?_)
 refine A_3 ?_
 exact E0 rfl ⟨rfl, rfl⟩
def aG5 (a : AC) (cap : Nat) (l : AB) (hl : aY l)(v : Vw) (hv : v.Ok)(x y : Int) (w : AI) (hB : Ns w .u8 a l) :
  aC prog 261 [.agg (cV v).toArray, .slice a l.length cap, .int .i64 x, .int .i64 y] w [] (fun v' H => H = [] ∧ v' = .int .u8 (aDM l v x y)) := by
 refine dR_ func261 ?_
 refine A_2 ?_
 refine RX (dC rfl rfl) rfl ?_
 rintro _ _ ⟨b4, rfl, rfl⟩
 refine A_4 ?_
 refine RZ (aL rfl rfl rfl y_h) rfl (A_2 ?_)
 refine RW (v := (.int .u8 (x % 256))) rfl rfl (cA_ _ (eX _)) (A_2 ?_)
 refine RW (v := (.int .u8 ((x + v.sx) % 256))) rfl rfl (cA_ _ (by rw [eX]; omega)) (A_1 ?_)
 refine RW (v := (.int .u8 (y % 256))) rfl rfl (cA_ _ (eX _)) (A_2 ?_)
 refine RW (v := (.int .u8 ((y + v.sy) % 256))) rfl rfl (cA_ _ (by rw [eX]; omega)) (RLv K_ (fun w hw => aGq _ _ l hl v hv 3 8 _ _ (aRA hv.c) (aBK _) (aBK _) w (hB.later0 hw)) ?_)
 refine A_3 ?_
 exact E0 rfl ⟨rfl, rfl⟩
def tline_fn (a : AC) (cap : Nat) (l : AB) (hl : aY l)(v : Vw) (hv : v.Ok) (line own : Int) (w : AI) (hB : Ns w .u8 a l) :
  aC prog 252 [.agg (cV v).toArray, .slice a l.length cap, .int .i64 line, .int .i64 own] w [] (fun v' H => H = [] ∧ v' = .tuple #[.agg ((uD l v line own).map (.int .u8)).toArray, .bool (jL v line)]) := by
 obtain ⟨hvc, hvx, hvy, hwx, hwy⟩ := id hv
 refine dR_ func252 ?_
 refine A_2 ?_
 refine RX (dC rfl rfl) rfl ?_
 rintro _ _ ⟨b4, rfl, rfl⟩
 refine RX (bY (l := List.replicate 160 (.int .u8 0)) y_i) rfl ?_
 rintro _ _ ⟨b8, rfl, rfl⟩
 refine A_4 ?_
 refine RX (bY (l := List.replicate 160 (.int .u8 0)) y_i) rfl ?_
 rintro _ _ ⟨b10, rfl, rfl⟩
 refine A_9 ?_
 refine KC (fun h1 h1n => ?_) (fun h1 h1n => ?_)
 ·refine A_2 ?_
  refine RZ (aL rfl rfl rfl (aA (.head _))) rfl (RZ (cQ (vs := List.replicate 160 (.int .u8 0)) (l := List.replicate 160 (.int .u8 0)) 1 rfl rfl rfl y_i y_i rfl y_v) rfl (A_3 ?_))
  exact aF (fun w hw => bC (l := List.replicate 160 (.int .u8 0)) rfl rfl y_i (aA (.tail _ (.head _)) w hw) rfl) ⟨rfl, by rw [aI8 (aE4 hv.c h1), aJF (aE4 hv.c h1), ie]⟩
 refine A_1 ?_
 refine zG [11, 19, 20, 21, 22, 23, 24, 25, 26, 27, 28, 29, 30, 31, 32, 33, 34] [(11, .bool (jL v line))] ?_ (fun y4 => ?_)
 ·refine A_5 ?_
  refine KL (fun h2 h2n => ?_) (fun h2 h2n => ?_)
  ·refine A_2 ?_
   refine RW (v := (.int .i64 (v.wy))) rfl rfl (cA_ _ (aI o_m o_m)) (A_3 ?_)
   refine KL (fun h3 h3n => ?_) (fun h3 h3n => ?_)
   ·refine A_6 ?_
    exact ⟨.cons (cA_ _ (aQQ hv h1 h2 h3)) .nil, a_g, fun _ h => h⟩
   refine A_6 ?_
   exact ⟨.cons (cA_ _ (aRK h3)) .nil, a_g, fun _ h => h⟩
  refine A_13 ?_
  exact ⟨.cons (cA_ _ (aRt hv h2)) .nil, a_g, fun _ h => h⟩
 refine A_2 ?_
 have h1on := aPB hv.c h1
 refine A_4 ?_
 refine bG (σ := Nat) [12, 13, 35, 36, 37, 38, 39, 40, 41, 42, 43, 44, 45, 46, 47, 48, 49, 50, 51, 52, 53, 54, 55, 56, 57, 58, 59, 60, 61, 62, 63] (fun k => [(35, .int .i64 k)]) (fun k => [(b10, blk (kU .u8 (lZ l v line own) 160 k) 200), (b8, blk (List.replicate 160 (.int .u8 0)) 200), (b4, blk (cV v) 358)]) (fun k => k ≤ 160) (fun k => 160 - k) 0 ?_ ?_ ?_ ?_
 ·show 0 ≤ 160; omega
 ·exact .cons rfl .nil
 ·exact fun w h => by rw [← aC2]; exact h
 intro k y hk
 refine A_5 ?_
 refine KC (fun h4 h4n => ?_) (fun h4 h4n => ?_)
 ·refine A_11 ?_
  refine RW (v := (.int .i64 ((k : Int) + 7))) rfl rfl (cA_ _ (aI o_m o_m)) (A_2 ?_)
  refine RW (v := (.int .i64 (v.wx))) rfl rfl (cA_ _ (aI o_m o_m)) (RW (v := (.int .i64 ((k : Int) + 7 - v.wx))) rfl rfl (cA_ _ (aI o_m o_m)) (A_6 ?_))
  refine KL (fun h5 h5n => ?_) (fun h5 h5n => ?_)
  ·refine A_4 ?_
   refine KC (fun h6 h6n => ?_) (fun h6 h6n => ?_)
   ·refine A_3 ?_
    refine RZ (aL rfl rfl rfl y_h) rfl (A_3 ?_)
    refine RLv K_ (fun w hw => aRm _ _ l hl v hv _ _ w (hB.later0 hw)) ?_
    refine RY (oE k rfl rfl rfl rfl y_a) rfl (RZ (cQ 0 rfl rfl rfl rfl rfl rfl y_dP) rfl ?_)
    rw [ap, wY (f := lZ l v line own) y_a _ (aOK h1on (by simpa using h5) (by simpa using h6))]
    refine A_3 ?_
    refine RW (v := (.int .i64 ((k + 1 : Nat) : Int))) rfl rfl (cA_ _ (bB o_m)) (A_2 ?_)
    exact ⟨k + 1, y_dB, y_dB, .cons rfl .nil, a_g, fun _ h => h⟩
   refine A_3 ?_
   refine RZ (aL rfl rfl rfl y_h) rfl (A_3 ?_)
   refine RLv K_ (fun w hw => aG5 _ _ l hl v hv _ _ w (hB.later0 hw)) ?_
   refine RY (oE k rfl rfl rfl rfl y_a) rfl (RZ (cQ 0 rfl rfl rfl rfl rfl rfl y_dP) rfl ?_)
   rw [ap, wY (f := lZ l v line own) y_a _ (aEn h1on (by intro h0; have h1 := h0.2; simp at h6; omega))]
   refine A_2 ?_
   refine RW (v := (.int .i64 ((k + 1 : Nat) : Int))) rfl rfl (cA_ _ (bB o_m)) (A_2 ?_)
   exact ⟨k + 1, y_dB, y_dB, .cons rfl .nil, a_g, fun _ h => h⟩
  refine A_8 ?_
  refine RZ (aL rfl rfl rfl y_h) rfl (A_3 ?_)
  refine RLv K_ (fun w hw => aG5 _ _ l hl v hv _ _ w (hB.later0 hw)) ?_
  refine RY (oE k rfl rfl rfl rfl y_a) rfl (RZ (cQ 0 rfl rfl rfl rfl rfl rfl y_dP) rfl ?_)
  rw [ap, wY (f := lZ l v line own) y_a _ (aEn h1on (by intro h0; rw [h0.1] at h5; cases h5))]
  refine A_2 ?_
  refine RW (v := (.int .i64 ((k + 1 : Nat) : Int))) rfl rfl (cA_ _ (bB o_m)) (A_2 ?_)
  exact ⟨k + 1, y_dB, y_dB, .cons rfl .nil, a_g, fun _ h => h⟩
 refine A_2 ?_
 obtain rfl : k = 160 := by (try simp only [decide_eq_true_eq, decide_eq_false_iff_not, beq_iff_eq, beq_eq_false_iff_ne, bne_iff_ne, bne_eq_false_iff_eq, ne_eq] at *); omega
 refine A_1 ?_
 refine RZ (aL rfl rfl y_bH (aA (.head _))) rfl (A_1 ?_)
 refine RZ (cQ (vs := (kU .u8 (lZ l v line own) 160 160)) (l := List.replicate 160 (.int .u8 0)) 1 rfl rfl rfl y_bH (aDy _ _ _ _) rfl y_cr) rfl ?_
 rw [xN y_cr]
 refine A_3 ?_
 exact aF (fun w hw => bC (l := (kU .u8 (lZ l v line own) 160 160)) rfl rfl y_bH (aA (.tail _ (.head _)) w hw) rfl) ⟨rfl, by rw [aHY]⟩
def aNr (a : AC) (cap : Nat) (l : AB) (hl : aY l) (n : Int) (hn : 0 ≤ n ∧ n < 40) (hcap : l.length ≤ cap) (w : AI) (hB : Ns w .u8 a l) :
  aC prog 263 [.slice a l.length cap, .int .i64 n] w [] (V_ (.agg #[.int .i64 n, .int .i64 (oB l n 0 - 16), .int .i64 (oB l n 1 - 8), .int .i64 (oB l n 2), .int .u8 (oB l n 3)])) := by
 refine dR_ func263 ?_
 refine A_2 ?_
 refine RX (bY rfl) rfl ?_
 rintro _ _ ⟨b4, rfl, rfl⟩
 refine A_3 ?_
 refine RX (bY rfl) rfl ?_
 rintro _ _ ⟨b5, rfl, rfl⟩
 refine A_6 ?_
 rw [aI (n := 4 * n) o_m o_m]
 refine A_6 ?_
 refine RY l_n rfl (A_2 ?_)
 refine KC (fun h1 h1n => ?_) (fun h1 h1n => ?_)
 ·obtain ⟨b, off, rfl, hr⟩ := hB.row (i := (4 * n).toNat) y_w
  refine DR [] (pln [0, 2, 4, 6, 9]) ?_
  refine DY rfl (fO 0 4 rfl rfl rfl rfl rfl rfl y_b y_b) rfl (A_2 ?_)
  refine DY rfl (gE (4 * n).toNat l.length rfl rfl rfl rfl (by show 4 * n = _; omega) rfl y_w hcap) rfl (DZ rfl (aJb (off := 0) (dl := 4) (m := l.length - (4 * n).toNat) 0 rfl rfl rfl rfl rfl (fun w hw => .row _ _ _ _ _ y_v ((aR hr y_v w hw).cut1 (k := l.length - (4 * n).toNat) (c := cap) y_w)) (aMF _ _ _ _) y_bS) rfl n_h ?_)
  simp only [ap, aMo hn y_w]
  refine A_4 ?_
  refine RY y_dC rfl (A_3 ?_)
  refine RY y_dK rfl (A_3 ?_)
  refine RY y_dJ rfl (A_2 ?_)
  refine RY y_dG rfl (A_1 ?_)
  refine RS ?_
  refine RZ s_t rfl (A_2 ?_)
  exact aF (fun w hw => aU rfl rfl rfl (aA m_m w hw)) ⟨rfl, aJe hl n⟩
 refine A_2 ?_
 rw [aHs hn y_w]
 refine A_2 ?_
 refine RY y_dC rfl (A_3 ?_)
 refine RY y_dK rfl (A_3 ?_)
 refine RY y_dJ rfl (A_2 ?_)
 refine RY y_dG rfl (A_1 ?_)
 refine RS ?_
 refine RZ s_t rfl (A_2 ?_)
 exact aF (fun w hw => aU rfl rfl rfl (aA m_m w hw)) ⟨rfl, aJe hl n⟩
def aO1 (c cb cf cs : Int) (hc : 0 ≤ c ∧ c < 256) (a : AC) (cap : Nat) (l : AB) (hl : aY l) (n y x0 tile how x line : Int)
  (hy : -16 ≤ y ∧ y ≤ 240) (hx : -8 ≤ x0 ∧ x0 ≤ 248) (ht : 0 ≤ tile ∧ tile < 256) (hh : 0 ≤ how ∧ how < 256) (w : AI) (hB : Ns w .u8 a l) :
  aC prog 275 [.agg #[.int .u8 c, .int .u8 cb, .int .u8 cf, .int .u8 cs], .slice a l.length cap, .agg #[.int .i64 n, .int .i64 y, .int .i64 x0, .int .i64 tile, .int .u8 how], .int .i64 x, .int .i64 line] w [] (V_ (.int .u8 (nK l c y x0 tile how x line))) := by
 refine dR_ func275 ?_
 refine A_2 ?_
 refine RX (dC rfl rfl) rfl ?_
 rintro _ _ ⟨b5, rfl, rfl⟩
 refine RX (dC rfl rfl) rfl ?_
 rintro _ _ ⟨b7, rfl, rfl⟩
 refine A_4 ?_
 refine RZ (aL rfl rfl rfl y_cl) rfl (RLv K_ (wQ_ (aDA c cb cf cs hc)) ?_)
 refine A_9 ?_
 refine RLv K_ (wQ_ (yD _ _ _)) ?_
 refine A_1 ?_
 refine KL (fun h1 h1n => ?_) (fun h1 h1n => ?_)
 ·refine A_13 ?_
  exact E0 rfl ⟨rfl, cA_ _ (aBZ hy hx y_w)⟩
 refine A_3 ?_
 refine RLv K_ (wQ_ (yD _ _ _)) ?_
 refine A_3 ?_
 refine KC (fun h2 h2n => ?_) (fun h2 h2n => ?_)
 ·refine A_5 ?_
  exact E0 rfl ⟨rfl, cA_ _ (aBZ hy hx y_w)⟩
 refine A_2 ?_
 refine DR [4, 5, 6, 7, 8] (pln [0, 2, 4, 6, 8, 10, 12, 14, 16, 18]) ?_
 refine A_19 ?_
 refine KC (fun h3 h3n => ?_) (fun h3 h3n => ?_)
 ·refine A_15 ?_
  refine KC (fun h4 h4n => ?_) (fun h4 h4n => ?_)
  ·refine A_17 ?_
   refine KC (fun h5 h5n => ?_) (fun h5 h5n => ?_)
   ·refine A_14 ?_
    refine RLv K_ (fun w hw => mN _ _ l hl _ _ _ w (hB.later0 hw)) ?_
    refine A_3 ?_
    exact E0 rfl ⟨rfl, cA_ _ (kO hy hx ht hh y_w y_w (bu := true) (bt := true) (bh := true) h3 h4 h5)⟩
   refine A_7 ?_
   refine RLv K_ (fun w hw => mN _ _ l hl _ _ _ w (hB.later0 hw)) ?_
   refine A_3 ?_
   exact E0 rfl ⟨rfl, cA_ _ (kO hy hx ht hh y_w y_w (bu := true) (bt := true) (bh := false) h3 h4 h5)⟩
  refine A_13 ?_
  refine KC (fun h6 h6n => ?_) (fun h6 h6n => ?_)
  ·refine A_14 ?_
   refine RLv K_ (fun w hw => mN _ _ l hl _ _ _ w (hB.later0 hw)) ?_
   refine A_3 ?_
   exact E0 rfl ⟨rfl, cA_ _ (kO hy hx ht hh y_w y_w (bu := true) (bt := false) (bh := true) h3 h4 h6)⟩
  refine A_7 ?_
  refine RLv K_ (fun w hw => mN _ _ l hl _ _ _ w (hB.later0 hw)) ?_
  refine A_3 ?_
  exact E0 rfl ⟨rfl, cA_ _ (kO hy hx ht hh y_w y_w (bu := true) (bt := false) (bh := false) h3 h4 h6)⟩
 refine A_9 ?_
 refine KC (fun h7 h7n => ?_) (fun h7 h7n => ?_)
 ·refine A_17 ?_
  refine KC (fun h8 h8n => ?_) (fun h8 h8n => ?_)
  ·refine A_14 ?_
   refine RLv K_ (fun w hw => mN _ _ l hl _ _ _ w (hB.later0 hw)) ?_
   refine A_3 ?_
   exact E0 rfl ⟨rfl, cA_ _ (kO hy hx ht hh y_w y_w (bu := false) (bt := true) (bh := true) h3 h7 h8)⟩
  refine A_7 ?_
  refine RLv K_ (fun w hw => mN _ _ l hl _ _ _ w (hB.later0 hw)) ?_
  refine A_3 ?_
  exact E0 rfl ⟨rfl, cA_ _ (kO hy hx ht hh y_w y_w (bu := false) (bt := true) (bh := false) h3 h7 h8)⟩
 refine A_13 ?_
 refine KC (fun h9 h9n => ?_) (fun h9 h9n => ?_)
 ·refine A_14 ?_
  refine RLv K_ (fun w hw => mN _ _ l hl _ _ _ w (hB.later0 hw)) ?_
  refine A_3 ?_
  exact E0 rfl ⟨rfl, cA_ _ (kO hy hx ht hh y_w y_w (bu := false) (bt := false) (bh := true) h3 h7 h9)⟩
 refine A_7 ?_
 refine RLv K_ (fun w hw => mN _ _ l hl _ _ _ w (hB.later0 hw)) ?_
 refine A_3 ?_
 exact E0 rfl ⟨rfl, cA_ _ (kO hy hx ht hh y_w y_w (bu := false) (bt := false) (bh := false) h3 h7 h9)⟩
def aPn (c cb cf cs : Int) (hc : 0 ≤ c ∧ c < 256) (a2 : AC) (cap2 : Nat) (oam : AB) (ho : aY oam) (line : Int) (hcap : oam.length ≤ cap2) (w : AI) (hO : Ns w .u8 a2 oam) :
  aC prog 262 [.agg #[.int .u8 c, .int .u8 cb, .int .u8 cf, .int .u8 cs], .slice a2 oam.length cap2, .int .i64 line] w [] (fun v H => Lst .i64 (nC oam c line) v H) := by
 refine dR_ func262 ?_
 refine A_2 ?_
 refine RX (dC rfl rfl) rfl ?_
 rintro _ _ ⟨b3, rfl, rfl⟩
 refine A_12 ?_
 refine bG (σ := Nat × AH × aB) [7, 8, 9, 10, 11, 12, 13, 14, 15, 16, 17, 18, 19, 20, 21, 22, 23, 24] (fun s => [(7, s.2.1), (9, .int .i64 s.1)]) (fun s => s.2.2 ++ [(b3, blk [.int .u8 c, .int .u8 cb, .int .u8 cf, .int .u8 cs] 360)]) (fun s => s.1 ≤ 40 ∧ Vec 3 1 s.2.1 (eR oam c line s.1).length ((eR oam c line s.1).map (.int .i64)) s.2.2) (fun s => 40 - s.1) (0, .slice none 0 0, []) ?_ ?_ ?_ ?_
 ·exact ⟨y_B, aLk oam c line⟩
 ·exact .cons rfl (.cons rfl .nil)
 ·exact fun _ h => h
 rintro ⟨k, v, G⟩ y ⟨hk, hV⟩
 have hlen := aIM oam c line k
 simp only at hk hV ⊢
 refine A_5 ?_
 refine KC (fun h1 h1n => ?_) (fun h1 h1n => ?_)
 ·refine A_9 ?_
  refine DR [3, 4] (pln [0, 2, 4, 10, 7, 8, 13, 15]) ?_
  refine A_3 ?_
  refine bU rfl rfl rfl rfl y_bC rfl rfl ?_
  refine DZ rfl (aZ K_ rfl (fun w hw => aNr _ _ oam ho k y_w hcap w (hO.later0 hw))) rfl y_c (DY rfl (wB rfl rfl rfl rfl rfl) rfl (DZ rfl (aZ K_ rfl (wQ_ (aDA c cb cf cs hc))) rfl n_h (DZ rfl (aZ K_ rfl (wQ_ (yD _ _ _))) rfl n_h ?_)))
  refine A_1 ?_
  refine KC (fun h2 h2n => ?_) (fun h2 h2n => ?_)
  ·refine A_1 ?_
   refine aHK (v := v) rfl rfl rfl ?_
   refine A_1 ?_
   refine RX (bX rfl rfl rfl rfl rfl rfl) rfl ?_
   rintro _ _ ⟨b22, rfl, rfl⟩
   refine RX (gD (A := [_]) (G := G) (R := [_]) (v := v) (m := 1) (by_ := 8) rfl rfl rfl rfl hV (fun w hw => .row _ _ _ _ _ rfl (aA (.head _) w hw)) rfl o_m o_m) rfl ?_
   rintro v23 _ ⟨G', hV', hnil, rfl⟩
   refine uA (v := v23) rfl rfl rfl ?_
   refine A_5 ?_
   exact ⟨(k + 1, v23, G'), ⟨y_ee, aPD (aGQ ho h2) hV'⟩, y_ee, .cons rfl (.cons (cA_ _ (bB o_m)) .nil), a_g, (fun _ h => h.sub y_H)⟩
  refine A_5 ?_
  exact ⟨(k + 1, v, G), ⟨y_ee, aQV (aGQ ho h2) hV⟩, y_ee, .cons rfl (.cons (cA_ _ (bB o_m)) .nil), a_g, (fun _ h => h.sub y_H)⟩
 refine A_2 ?_
 obtain rfl : k = 40 := by simp at *; omega
 generalize hm : (eR oam c line 40).length = m at hV
 generalize hx : (eR oam c line 40).map (Value.int .i64) = xs at hV
 clear hlen
 rcases hV with _ | ⟨b, n, cap, xs, sp, hn, hcc, hmx, hle⟩
 ·refine A_3 ?_
  refine RY l_n rfl (RY (kL rfl rfl) rfl (A_4 ?_))
  exact E0 rfl (aLh hm)
 refine A_3 ?_
 refine RY l_n rfl (RY (kL rfl rfl) rfl (RY (gE 0 (min m 10) rfl rfl rfl rfl rfl (by show min (m : Int) 10 = _; omega) o_m o_m) rfl (A_3 ?_)))
 exact EV rfl (cq _ _) (aLU hm hx hle)
def aEs (x : Int) (w : AI) : aC prog 274 [.int .i64 x] w [] (V_ (.bool false)) := by
 refine dR_ func274 ?_
 refine A_12 ?_
 exact E0 rfl ⟨rfl, (cA_ _ y_v)⟩
def aIk (x y : Int) (w : AI) : aC prog 266 [.int .i64 x, .int .i64 y] w [] (V_ (.int .i64 (cmpI x y))) := by
 refine dR_ func266 ?_
 refine ZDR ?_
 refine RLv K_ (wQ_ (aEs _)) ?_
 refine ZBx ?_
 refine RLv K_ (wQ_ (aEs _)) ?_
 refine A_23 ?_
 refine KC (fun q0 z0 => ?_) (fun q0 z0 => ?_)
 ·refine ZBx ?_
  exact E0 rfl ⟨rfl, (cA_ _ y_cn)⟩
 refine A_8 ?_
 refine KC (fun q1 z1 => ?_) (fun q1 z1 => ?_)
 ·refine ZBx ?_
  exact E0 rfl ⟨rfl, (cA_ _ y_cn)⟩
 refine ZB2 ?_
 exact E0 rfl ⟨rfl, (cA_ _ y_cn)⟩
def aMg (a b : Sp) (w : AI) : aC prog 265 [.agg (spc a).toArray, .agg (spc b).toArray] w [] (V_ (.int .i64 (cmpI a.x b.x))) := by
 refine dR_ func265 ?_
 refine ZAn ?_
 refine RX (dC rfl rfl) rfl (ZBz fun b0 => ?_)
 refine RX (dC rfl rfl) rfl ?_
 rintro _ _ ⟨b1, rfl, rfl⟩
 refine A_8 ?_
 refine RLv K_ (wQ_ (aIk _ _)) ?_
 exact ZAZ
def aRy (b n cap : Nat) (l : List Sp) (sp' : AA) (hn : l.length = n) (h10 : n ≤ 1000) (w : AI) (hb : w.heap[b]? = some (blk (aE spc l ++ sp') 371)) :
  aC prog 280 [.slice (Q_ b) n cap, .int .i64 0, .int .i64 n, .func (.func 265) #[] #[]] w [b] (fun v H => v = .tuple #[] ∧ H = [(b, blk (aE spc (eM l) ++ sp') 371)]) := by
 refine mH func280 rfl rfl rfl (St.lent1 hb) ?_
 refine A_7 ?_
 refine bG (σ := Nat) [8, 9, 12, 13, 14, 15, 16, 17, 18, 19, 20, 21, 22, 23, 24, 25, 26, 27, 28, 29, 30, 31, 32, 33, 34, 35, 36, 37, 38, 39, 40, 41, 42, 43, 44, 45, 46, 47, 48, 49, 50, 51, 52] (fun i => [(8, .int .i64 i)]) (fun i => [(b, blk (aE spc (eM (l.take i) ++ l.drop i) ++ sp') 371)]) (fun i => 1 ≤ i ∧ (i ≤ n ∨ i = 1)) (fun i => n - i) 1 ?_ ?_ ?_ ?_
 ·exact ⟨y_B, .inr rfl⟩
 ·exact .cons rfl .nil
 ·exact fun w h => by rw [aKv]; exact h
 rintro i y ⟨hi1, hi2⟩
 refine A_7 ?_
 refine KC (fun h1 h1n => ?_) (fun h1 h1n => ?_)
 ·refine A_4 ?_
  have hin : i < n := by simp at *; omega
  have hlt : i < l.length := by omega
  obtain ⟨e, R, hd, hR, hI⟩ : ∃ e R, l.drop i = e :: R ∧ R = l.drop (i + 1) ∧ eM (l.take (i + 1)) = iJ e (eM (l.take i)).reverse [] := ⟨l[i], l.drop (i + 1), ir hlt, rfl, aHi hlt⟩
  have hS : (eM (l.take i)).length = i := by rw [aC9, Lt_]; omega
  refine A_5 ?_
  refine bG (σ := List Sp × List Sp) [9, 18, 19, 20, 21, 22, 23, 24, 25, 26, 27, 28, 29, 30, 31, 32, 33, 34, 35, 36, 37, 38, 39, 40, 41, 42, 43, 44, 45, 46, 47, 48, 49, 50, 51, 52] (fun s => [(9, .int .i64 s.1.length)]) (fun s => [(b, blk (aE spc (s.1 ++ e :: (s.2 ++ R)) ++ sp') 371)]) (fun s => iJ e s.1.reverse s.2 = iJ e (eM (l.take i)).reverse [] ∧ s.1.length + s.2.length = i) (fun s => s.1.length) (eM (l.take i), []) ?_ ?_ ?_ ?_
  ·exact ⟨rfl, hS⟩
  ·exact .cons (cA_ (fun k : Nat => Value.int .i64 k) hS.symm) .nil
  ·exact fun w h => by rw [hd] at h; exact h
  rintro ⟨A, B⟩ y2 ⟨hI2, hAB⟩
  simp only at hI2 hAB ⊢
  refine A_2 ?_
  refine DR [9, 10, 11, 12, 13] (pln [0, 2, 4, 6, 8, 10, 12, 14, 16, 18, 20, 22, 24, 26, 29, 30, 32]) ?_
  refine A_3 ?_
  refine KE (fun h2 h2n => ?_) (fun h2 h2n => ?_)
  ·obtain ⟨A', x, rfl⟩ := aCG (l := A) y_w
   refine A_3 ?_
   refine DY rfl (bE (s := 5) (A' ++ [x]).length rfl rfl rfl rfl y_w) rfl (bU rfl rfl rfl rfl (fun w hS => Row.elem iW (dO (.head _) w hS)) rfl rfl ?_)
   refine A_2 ?_
   refine DW (v := (.int .i64 (A'.length : Int))) rfl rfl rfl (cA_ _ (wV y_w)) (DY rfl (bE (s := 5) A'.length rfl rfl rfl rfl y_w) rfl (bU rfl rfl rfl rfl (fun w hS => Row.elem2 iW (dO (.head _) w hS)) rfl rfl ?_))
   refine DZ rfl (aIN (A := []) (B := []) rfl K_ rfl (wQ_ (aMg e x))) rfl n_h (A_3 ?_)
   refine KC (fun h3 h3n => ?_) (fun h3 h3n => ?_)
   ·refine A_3 ?_
    refine DR [10, 11, 12, 13] (pln [0, 2, 4, 6, 8, 10, 12, 14, 16, 18, 20, 22, 24, 26, 28, 31, 32, 35]) ?_
    refine A_4 ?_
    refine DW (v := (.int .i64 (A'.length : Int))) rfl rfl rfl (cA_ _ (wV y_w)) (A_2 ?_)
    refine DW (v := (.int .i64 (A'.length : Int))) rfl rfl rfl (cA_ _ (wV y_w)) (DY rfl (bE (s := 5) A'.length rfl rfl rfl rfl y_w) rfl (bU rfl rfl rfl rfl (fun w hS => Row.elem2 iW (dO (.head _) w hS)) rfl rfl ?_))
    refine A_2 ?_
    refine DY rfl (bE (s := 5) (A' ++ [x]).length rfl rfl rfl rfl y_w) rfl (bU rfl rfl rfl rfl (fun w hS => Row.elem iW (dO (.head _) w hS)) rfl rfl ?_)
    refine DY rfl (bE (s := 5) (A' ++ [x]).length rfl rfl rfl rfl y_w) rfl (DZ rfl (cQ (vs := spc x) 0 rfl rfl rfl rfl rfl rfl (aDj iW _ _ _ _ _)) rfl n_h ?_)
    rw [ap, aHm iW]
    refine DY rfl (bE (s := 5) A'.length rfl rfl rfl rfl y_w) rfl (DZ rfl (cQ (vs := spc e) 0 rfl rfl rfl rfl rfl rfl (aDj iW _ _ _ _ _)) rfl n_h ?_)
    rw [ap, zD iW]
    refine A_3 ?_
    refine RW (v := (.int .i64 (A'.length : Int))) rfl rfl (cA_ _ (wV y_w)) (A_2 ?_)
    exact ⟨(A', x :: B), ⟨by rw [← aKF e x A' B (by have h0 := h3; rw [aGm] at h0; simpa using h0)]; exact hI2, y_ee⟩, y_eu, .cons rfl .nil, a_g, fun _ h => h⟩
   refine A_6 ?_
   exact ⟨i + 1, ⟨y_B, .inl o_m⟩, y_B, .cons (cA_ _ (bB o_m)) .nil, a_g, fun w h => by rw [aE9 (.inr ⟨A', x, rfl, by have h0 := h3; rw [aGm] at h0; simpa using h0⟩) hI2, ← hI, hR] at h; exact h⟩
  refine A_10 ?_
  refine aB7 rfl rfl rfl ?_
  refine A_10 ?_
  exact ⟨i + 1, ⟨y_B, .inl o_m⟩, y_B, .cons (cA_ _ (bB o_m)) .nil, a_g, fun w h => by rw [aE9 (.inl (ci y_w)) hI2, ← hI, hR] at h; exact h⟩
 refine A_1 ?_
 exact EN sR_ ⟨rfl, by rw [aJU y_w]⟩
def aKK (w : AI) :
  aC prog 280 [.slice none 0 0, .int .i64 0, .int .i64 0, .func (.func 265) #[] #[]] w [] (V_ (.tuple #[])) := by
 refine dR_ func280 ?_
 refine A_7 ?_
 refine qA (σ := Unit) [8, 9, 12, 13, 14, 15, 16, 17, 18, 19, 20, 21, 22, 23, 24, 25, 26, 27, 28, 29, 30, 31, 32, 33, 34, 35, 36, 37, 38, 39, 40, 41, 42, 43, 44, 45, 46, 47, 48, 49, 50, 51, 52] (fun _ => [(8, .int .i64 1)]) (fun _ => True) (fun _ => 0) () ?_ ?_ ?_
 ·trivial
 ·exact .cons rfl .nil
 rintro _ y _
 refine A_5 ?_
 refine dT false rfl rfl rfl y_b ?_
 refine A_3 ?_
 exact aF (fun _ _ => eL) ⟨rfl, rfl⟩
def aJ6 (b n cap : Nat) (l : List Sp) (sp' : AA) (hn : l.length = n) (h10 : n ≤ 10) (w : AI) (hb : w.heap[b]? = some (blk (aE spc l ++ sp') 371)) :
  aC prog 273 [.slice (Q_ b) n cap, .int .i64 n, .func (.func 265) #[] #[]] w [b] (fun v H => v = .tuple #[] ∧ H = [(b, blk (aE spc (eM l) ++ sp') 371)]) := by
 refine mH func273 rfl rfl rfl (St.lent1 hb) ?_
 refine A_12 ?_
 refine qA (σ := Unit) [7, 8, 11, 12, 13, 14, 15, 16, 17, 18, 19, 20, 21, 22] (fun _ => [(7, .int .i64 0), (8, .int .i64 20)]) (fun _ => True) (fun _ => 0) () ?_ ?_ ?_
 ·trivial
 ·exact .cons rfl (.cons rfl .nil)
 rintro _ y _
 refine A_5 ?_
 refine dT false rfl rfl rfl y_bS ?_
 refine A_9 ?_
 refine RX (dY (A := [_]) (G := []) [b] K_ rfl y_v (fun w hw => aRy b n cap l sp' hn o_m w (hw.own_blk (.head _)))) rfl ?_
 rintro _ _ ⟨_, ⟨rfl, rfl⟩, rfl⟩
 refine A_2 ?_
 refine qA (σ := Unit) [6, 7, 8, 9, 28, 29, 30, 31, 32, 33, 34, 35, 36, 37, 38, 39, 40, 41, 42, 43, 44, 45, 46, 47, 48, 49, 50, 51, 52, 53, 54, 55, 56, 57, 58, 59, 60, 61, 62] (fun _ => [(6, .int .i64 20)]) (fun _ => True) (fun _ => 0) () ?_ ?_ ?_
 ·trivial
 ·exact .cons rfl .nil
 rintro _ y _
 refine A_5 ?_
 refine dT false rfl rfl rfl y_bS ?_
 refine A_3 ?_
 exact EN sR_ ⟨rfl, rfl⟩
def aE6 (w : AI) :
  aC prog 273 [.slice none 0 0, .int .i64 0, .func (.func 265) #[] #[]] w [] (V_ (.tuple #[])) := by
 refine dR_ func273 ?_
 refine A_12 ?_
 refine qA (σ := Unit) [7, 8, 11, 12, 13, 14, 15, 16, 17, 18, 19, 20, 21, 22] (fun _ => [(7, .int .i64 0), (8, .int .i64 20)]) (fun _ => True) (fun _ => 0) () ?_ ?_ ?_
 ·trivial
 ·exact .cons rfl (.cons rfl .nil)
 rintro _ y _
 refine A_5 ?_
 refine dT false rfl rfl rfl y_b ?_
 refine A_9 ?_
 refine RLv K_ (wQ_ aKK) ?_
 refine A_2 ?_
 refine qA (σ := Unit) [6, 7, 8, 9, 28, 29, 30, 31, 32, 33, 34, 35, 36, 37, 38, 39, 40, 41, 42, 43, 44, 45, 46, 47, 48, 49, 50, 51, 52, 53, 54, 55, 56, 57, 58, 59, 60, 61, 62] (fun _ => [(6, .int .i64 20)]) (fun _ => True) (fun _ => 0) () ?_ ?_ ?_
 ·trivial
 ·exact .cons rfl .nil
 rintro _ y _
 refine A_5 ?_
 refine dT false rfl rfl rfl y_b ?_
 refine A_3 ?_
 exact aF (fun _ _ => eL) ⟨rfl, rfl⟩
def aHS (b n cap : Nat) (l : List Sp) (sp' : AA) (hn : l.length = n) (h10 : n ≤ 10) (w : AI) (hb : w.heap[b]? = some (blk (aE spc l ++ sp') 371)) :
  aC prog 264 [.slice (Q_ b) n cap, .func (.func 265) #[] #[]] w [b] (fun v H => v = .tuple #[] ∧ H = [(b, blk (aE spc (eM l) ++ sp') 371)]) := by
 refine mH func264 rfl rfl rfl (St.lent1 hb) ?_
 refine A_3 ?_
 refine RY l_n rfl (A_1 ?_)
 refine RX (dY (A := [_]) (G := []) [b] K_ rfl y_v (fun w hw => aJ6 b n cap l sp' hn h10 w (hw.own_blk (.head _)))) rfl ?_
 rintro _ _ ⟨_, ⟨rfl, rfl⟩, rfl⟩
 refine A_1 ?_
 exact EN sR_ ⟨rfl, rfl⟩
def aHy (w : AI) :
  aC prog 264 [.slice none 0 0, .func (.func 265) #[] #[]] w [] (V_ (.tuple #[])) := by
 refine dR_ func264 ?_
 refine A_3 ?_
 refine RY l_n rfl (A_1 ?_)
 refine RLv K_ (wQ_ aE6) ?_
 refine A_1 ?_
 exact aF (fun _ _ => eL) ⟨rfl, rfl⟩
def aPU {v : AH} {n : Nat} {l : List Sp} {G : aB} (hV : Vec 371 5 v n (aE spc l) G) (h10 : n ≤ 10) (w : AI) (hG : ∀ x ∈ G, w.heap[x.1]? = some x.2) :
  aC prog 264 [v, .func (.func 265) #[] #[]] w (G.map (·.1)) (fun u H => u = .tuple #[] ∧ Vec 371 5 v n (aE spc (eM l)) H) := by
 have hl := hV.len
 rw [bL iW] at hl
 generalize hx : aE spc l = xs at hV
 cases hV with
 | nil =>
  have : l = [] := ci o_m
  subst this
  exact (aHy w).mono fun u H ⟨h1, h2⟩ => by subst h1; exact ⟨h2, .nil⟩
 | row b _ cap _ sp h1 h2 h3 h4 =>
  subst hx
  refine (aHS b n cap l sp o_m h10 w (hG _ (.head _))).mono fun u H ⟨h5, h6⟩ => ?_
  subst h6
  have hi := aC9 l
  have h7 := bL iW (eM l)
  have h8 := bL iW l
  exact ⟨h5, .row b n cap _ sp (by rw [h7, hi]; omega) (by rw [La_, h7, hi] ; rw [La_, h8] at h2; omega) h3 h4⟩
def aJ0 (c cb cf cs : Int) (hc : 0 ≤ c ∧ c < 256) (hcb : 0 ≤ cb ∧ cb < 256) (hcf : 0 ≤ cf ∧ cf < 256) (hcs : 0 ≤ cs ∧ cs < 256) (a a2 : AC) (cap cap2 n : Nat) (l : AB) (hl : aY l) (L : List Sp) (hL : L.length = n) (hok : ∀ s ∈ L, sM s) (h1000 : n ≤ 1000) (x line below : Int) (hb : 0 ≤ below ∧ below < 256)
  (w : AI) (hB : Ns w .u8 a l) (hE : Els w spc a2 L) :
  aC prog 267 [.agg #[.int .u8 c, .int .u8 cb, .int .u8 cf, .int .u8 cs], .slice a l.length cap, .slice a2 n cap2, .int .i64 x, .int .i64 line, .int .u8 below] w [] (V_ (.int .u8 (pG l c cb cf cs x line below (L.find? (hit l c x line))))) := by
 refine dR_ func267 ?_
 refine A_2 ?_
 refine RX (dC rfl rfl) rfl ?_
 rintro _ _ ⟨b6, rfl, rfl⟩
 refine A_6 ?_
 refine RY l_n rfl (A_3 ?_)
 refine bG (σ := Nat) [12, 14, 15, 18, 19, 20, 21, 22, 23, 24, 25, 26, 27, 28, 29, 30, 31, 32, 33, 34, 35, 36, 37, 38, 39, 40, 41, 42, 43, 44, 45, 46, 47, 48, 49, 50, 51, 52, 53, 54, 55, 56, 57, 58] (fun k => [(18, .int .i64 k)]) (fun _ => [(b6, blk [.int .u8 c, .int .u8 cb, .int .u8 cf, .int .u8 cs] 360)]) (fun k => k ≤ n ∧ (L.take k).find? (hit l c x line) = none) (fun k => n - k) 0 ?_ ?_ ?_ ?_
 ·exact ⟨aj _, rfl⟩
 ·exact .cons rfl .nil
 ·exact fun _ h => h
 rintro k y ⟨hk, hk2⟩
 refine A_5 ?_
 refine KC (fun h1 h1n => ?_) (fun h1 h1n => ?_)
 ·refine A_4 ?_
  have hkn : k < n := by simp at *; omega
  obtain ⟨b, off, rfl, hr⟩ := hE.row (i := k) o_m
  obtain ⟨s, hs⟩ : ∃ s, L[k]? = some s := ⟨_, am o_m⟩
  have hso := hok s (ay hs)
  refine A_1 ?_
  refine RY (bE (s := 5) k rfl rfl rfl rfl hkn) rfl (RZ (aL rfl rfl rfl (aR (hr.nth' iW hs) y_v)) rfl (RX (bY rfl) rfl ?_))
  rintro _ _ ⟨b14, rfl, rfl⟩
  refine RZ s_t rfl (A_3 ?_)
  refine RZ (aL rfl rfl rfl y_cl) rfl (A_1 ?_)
  refine RZ (aL rfl rfl rfl y_h) rfl (A_2 ?_)
  refine RLv K_ (fun w hw => aO1 c cb cf cs hc _ _ l hl s.n s.y s.x s.t s.h x line hso.1 hso.2.1 hso.2.2.1 hso.2.2.2 w (hB.later0 hw)) ?_
  refine A_10 ?_
  refine KC (fun h2 h2n => ?_) (fun h2 h2n => ?_)
  ·refine A_5 ?_
   exact ⟨k + 1, ⟨y_B, aOu hk2 hs (by have h0 := h2; simp at h0; simp [hit, h0])⟩, y_B, .cons (cA_ _ (bB o_m)) .nil, a_g, (fun _ h => h.sub y_H)⟩
  refine A_6 ?_
  refine KL (fun h3 h3n => ?_) (fun h3 h3n => ?_)
  ·refine A_6 ?_
   refine KC (fun h4 h4n => ?_) (fun h4 h4n => ?_)
   ·refine A_5 ?_
    refine RLv K_ (wQ_ (pL cb _ hcb hb)) ?_
    refine A_3 ?_
    exact E0 rfl ⟨rfl, (cA_ _ (aI1 hs hso hb hk2 h2 h3 h4))⟩
   refine A_8 ?_
   refine KC (fun h5 h5n => ?_) (fun h5 h5n => ?_)
   ·refine A_5 ?_
    refine RLv K_ (wQ_ (pL cs _ hcs (uB _ _ _ _ _ _ _ _))) ?_
    refine A_3 ?_
    exact E0 rfl ⟨rfl, (cA_ _ (rP (b4 := true) hs hso hb hk2 h2 (.inr h4) h5))⟩
   refine A_6 ?_
   refine RLv K_ (wQ_ (pL cf _ hcf (uB _ _ _ _ _ _ _ _))) ?_
   refine A_3 ?_
   exact E0 rfl ⟨rfl, (cA_ _ (rP (b4 := false) hs hso hb hk2 h2 (.inr h4) h5))⟩
  refine A_15 ?_
  refine KC (fun h6 h6n => ?_) (fun h6 h6n => ?_)
  ·refine A_5 ?_
   refine RLv K_ (wQ_ (pL cs _ hcs (uB _ _ _ _ _ _ _ _))) ?_
   refine A_3 ?_
   exact E0 rfl ⟨rfl, (cA_ _ (rP (b4 := true) hs hso hb hk2 h2 (.inl h3) h6))⟩
  refine A_6 ?_
  refine RLv K_ (wQ_ (pL cf _ hcf (uB _ _ _ _ _ _ _ _))) ?_
  refine A_3 ?_
  exact E0 rfl ⟨rfl, (cA_ _ (rP (b4 := false) hs hso hb hk2 h2 (.inl h3) h6))⟩
 refine A_6 ?_
 refine RLv K_ (wQ_ (pL cb _ hcb hb)) ?_
 refine A_3 ?_
 exact E0 rfl ⟨rfl, (cA_ _ (aIv (k := k) y_w hk2))⟩
set_option maxHeartbeats 2000000 in
def line_fn (c cb cf cs : Int) (hc : 0 ≤ c ∧ c < 256) (hcb : 0 ≤ cb ∧ cb < 256) (hcf : 0 ≤ cf ∧ cf < 256) (hcs : 0 ≤ cs ∧ cs < 256) (a a2 : AC) (cap cap2 : Nat) (l oam : AB) (hl : aY l) (ho : aY oam) (hcap : oam.length ≤ cap2) (line : Int) (bl : AB) (hbl : bl.length = 160) (hbb : aY bl)
  (w : AI) (hB : Ns w .u8 a l) (hO : Ns w .u8 a2 oam) :
  aC prog 253 [.agg #[.int .u8 c, .int .u8 cb, .int .u8 cf, .int .u8 cs], .slice a l.length cap, .slice a2 oam.length cap2, .int .i64 line, .agg (bl.map (.int .u8)).toArray] w [] (V_ (.agg (aHA l oam c cb cf cs line bl).toArray)) := by
 refine dR_ func253 ?_
 refine A_2 ?_
 refine RX (dC rfl rfl) rfl ?_
 rintro _ _ ⟨b5, rfl, rfl⟩
 refine RX (dC (l := bl.map (.int .u8)) rfl rfl) rfl ?_
 rintro _ _ ⟨b9, rfl, rfl⟩
 refine RX (bY (l := List.replicate 160 (.int .u8 0)) y_i) rfl ?_
 rintro _ _ ⟨b10, rfl, rfl⟩
 refine A_5 ?_
 refine pJ (σ := AH × aB) [11, 13, 16, 17, 18, 19, 20, 21, 22, 23, 24, 25, 26, 27, 28, 29, 30, 31, 32, 33, 34, 35] (fun s => [(11, s.1)]) (fun s => s.2 ++ [(b10, blk (List.replicate 160 (.int .u8 0)) 200), (b9, blk (bl.map (.int .u8)) 200), (b5, blk [.int .u8 c, .int .u8 cb, .int .u8 cf, .int .u8 cs] 360)]) (fun s => Vec 371 5 s.1 (iY oam c line).length (aE spc (iY oam c line)) s.2) ?_ ?_
 ·refine A_7 ?_
  refine KC (fun h1 h1n => ?_) (fun h1 h1n => ?_)
  ·refine A_2 ?_
   refine RZ (aL rfl rfl rfl y_cl) rfl (A_2 ?_)
   refine RX (dE K_ rfl (fun w hw => aPn c cb cf cs hc _ _ oam ho line hcap w (hO.later0 hw))) rfl ?_
   rintro _ _ ⟨G23, ⟨a23, c23, rfl, hc23, hL23⟩, rfl⟩
   refine RY l_n rfl (A_3 ?_)
   refine bG (σ := Nat × AH × aB) [11, 13, 25, 26, 27, 28, 29, 30, 31, 32, 33, 34, 35] (fun s => [(11, s.2.1), (25, .int .i64 s.1)]) (fun s => s.2.2 ++ (G23 ++ [(b10, blk (List.replicate 160 (.int .u8 0)) 200), (b9, blk (bl.map (.int .u8)) 200), (b5, blk [.int .u8 c, .int .u8 cb, .int .u8 cf, .int .u8 cs] 360)])) (fun s => s.1 ≤ (nC oam c line).length ∧ Vec 371 5 s.2.1 s.1 (aE spc (((nC oam c line).take s.1).map (sp oam))) s.2.2) (fun s => (nC oam c line).length - s.1) (0, .slice none 0 0, []) ?_ ?_ ?_ ?_
   ·exact ⟨aj _, .nil⟩
   ·exact .cons rfl (.cons rfl .nil)
   ·exact fun _ h => h
   rintro ⟨k, v, G⟩ y ⟨hk, hV⟩
   simp only at hk hV ⊢
   have h10 := aEZ oam c line
   refine A_5 ?_
   refine KC (fun h2 h2n => ?_) (fun h2 h2n => ?_)
   ·refine A_4 ?_
    have hkn : k < (nC oam c line).length := by simp at *; omega
    obtain ⟨b, off, rfl, hr⟩ := hL23.row (i := k) hkn
    refine A_1 ?_
    refine RY (aV k rfl rfl rfl rfl hkn) rfl (RZ (aH rfl rfl (aMr hr (by intro x hx; simp [hx]) hkn)) rfl (A_3 ?_))
    refine aHK (v := v) rfl rfl rfl ?_
    refine A_2 ?_
    refine RLv K_ (fun w hw => aNr _ _ oam ho _ (aH5 _ (aM8 hkn)) hcap w (hO.later0 hw)) ?_
    refine RX (bX rfl rfl rfl rfl rfl rfl) rfl ?_
    rintro _ _ ⟨b33, rfl, rfl⟩
    refine RX (gD (A := [_]) (G := G) (R := _) (v := v) (m := 1) (by_ := 40) rfl rfl rfl rfl hV (fun w hw => .row _ _ _ _ _ rfl (aA (.head _) w hw)) rfl o_m o_m) rfl ?_
    rintro v34 _ ⟨G', hV', hnil, rfl⟩
    refine uA (v := v34) rfl rfl rfl ?_
    refine A_5 ?_
    exact ⟨(k + 1, v34, G'), ⟨y_B, by rw [aKX hkn]; exact hV'⟩, y_B, .cons rfl (.cons (cA_ _ (bB o_m)) .nil), a_g, (fun _ h => h.sub y_H)⟩
   refine A_1 ?_
   obtain rfl : k = (nC oam c line).length := by simp at *; omega
   exact ⟨(v, G), by rw [aJm hc h1, Lm_]; rw [di] at hV; exact hV, .cons rfl .nil, a_g, fun w h => h.sub (sR_.append (ed _ _))⟩
  refine A_1 ?_
  exact ⟨(.slice none 0 0, []), by rw [aMz hc h1]; exact .nil, .cons rfl .nil, a_g, fun w h => h⟩
 rintro ⟨v, G⟩ y2 hV
 simp only at hV ⊢
 obtain ⟨a11, c11, rfl⟩ := hV.slice
 refine A_3 ?_
 refine RX (dY (A := G) (G := _) (G.map (·.1)) K_ rfl (fun b h => eA h) (fun w hw => aPU hV (aCL oam c line) w (fun x hx => hw.holds x (by simp [hx])))) rfl ?_
 rintro _ _ ⟨G', ⟨rfl, hV'⟩, rfl⟩
 obtain ⟨a1', c1', he, hn11, hc11, hE⟩ := hV'.gives iW y_b
 cases he
 refine A_2 ?_
 refine eP (fun w h => h.perm au) ?_
 refine A_1 ?_
 refine RX (bY (l := List.replicate 160 (.int .u8 0)) y_i) rfl ?_
 rintro _ _ ⟨b14, rfl, rfl⟩
 refine A_7 ?_
 refine bG (σ := Nat) [15, 38, 39, 40, 41, 42, 43, 44, 45, 46, 47, 48, 49, 50, 51, 52] (fun k => [(38, .int .i64 k)]) (fun k => (b14, blk (kU .u8 (uC l oam c cb cf cs line bl) 160 k) 200) :: ([(b10, blk (List.replicate 160 (.int .u8 0)) 200), (b9, blk (bl.map (.int .u8)) 200), (b5, blk [.int .u8 c, .int .u8 cb, .int .u8 cf, .int .u8 cs] 360)] ++ G')) (fun k => k ≤ 160) (fun k => 160 - k) 0 ?_ ?_ ?_ ?_
 ·show 0 ≤ 160; omega
 ·exact .cons rfl .nil
 ·exact fun w h => by rw [← aC2]; exact h
 intro k y hk
 refine A_5 ?_
 refine KC (fun h3 h3n => ?_) (fun h3 h3n => ?_)
 ·refine A_8 ?_
  refine DR [2, 3, 4, 5, 6, 7, 8] (pln [0, 2, 4, 6, 8, 10, 12, 14, 16, 19, 20, 23]) ?_
  refine A_1 ?_
  refine bU rfl rfl rfl rfl y_bC rfl rfl ?_
  refine A_5 ?_
  refine DY rfl (oE k rfl rfl rfl rfl y_w) rfl (DL rfl rfl rfl (cZ (.tail _ (.tail _ (.head _))) (aGG y_w)) rfl (DZ rfl (aZ K_ rfl (fun w hw => aJ0 c cb cf cs hc hcb hcf hcs _ _ _ _ _ l hl (eM (iY oam c line)) hn11 (aL3 ho c line) (by have := aCL oam c line; omega) (k : Int) line _ (hbb.get k) w (hB.later0 hw) (hE.els hw (by intro x hx; simp [hx])))) rfl n_h (DY rfl (oE k rfl rfl rfl rfl y_w) rfl ?_)))
  refine DZ rfl (cQ 0 rfl rfl rfl rfl rfl rfl (by rw [xP y_w]; simp at *; omega)) rfl n_h ?_
  rw [ap, wY (f := uC l oam c cb cf cs line bl) y_w (pG l c cb cf cs (k : Int) line (bl.getD k 0) ((eM (iY oam c line)).find? (hit l c (k : Int) line))) rfl]
  refine A_5 ?_
  exact ⟨k + 1, y_ee, y_ee, .cons (cA_ _ (bB o_m)) .nil, a_g, fun _ h => h⟩
 refine A_2 ?_
 obtain rfl : k = 160 := by simp at *; omega
 refine A_1 ?_
 refine RZ (aL rfl rfl y_bH (aA (.head _))) rfl (RZ (cQ (vs := (kU .u8 (uC l oam c cb cf cs line bl) 160 160)) (l := List.replicate 160 (.int .u8 0)) 1 rfl rfl rfl y_bH (aDy _ _ _ _) rfl y_cr) rfl ?_)
 rw [xN y_cr]
 refine A_2 ?_
 exact aF (fun w hw => aU (l := (kU .u8 (uC l oam c cb cf cs line bl) 160 160)) rfl rfl y_bH (aA (.tail _ (.head _)) w hw)) ⟨rfl, by rw [aFD]; rfl⟩
set_option maxHeartbeats 2000000 in
def aNo (b : Nat) (u : PU) (hu : u.Wf) (w : AI) (hst : St w [b] [(b, blk (cU u) 204)] w) (hl : u.line < 144) (ho : u.own < 600) : aC prog 216 [P_ b] w [b] (fun v H => v = .tuple #[] ∧ H = [(b, blk (cU (jP u)) 204)]) := by
 have hlb := hu.line
 have hob := hu.own
 refine dO_ func216 hst ?_
 refine A_8 ?_
 refine DR [4, 5, 6, 7, 8, 9, 10, 11, 12, 13, 14, 15, 16, 17, 18, 19, 21] (pln [0, 2, 4, 6, 8, 10, 12, 14, 16, 18, 20, 22, 24, 26, 28, 30, 32, 34, 36, 38, 40, 43, 45]) ?_
 refine ZAn ?_
 refine DY rfl y_dC rfl (DL rfl rfl rfl (cZ m_m (oM hu (j := 0) y_b)) rfl (ZAn ?_))
 refine DY rfl y_dG rfl (DL rfl rfl rfl (cZ m_m (oM hu (j := 3) y_b)) rfl (ZAn ?_))
 refine DY rfl y_dJ rfl (DL rfl rfl rfl (cZ m_m (oM hu (j := 2) y_b)) rfl (ZAn ?_))
 refine DY rfl (by first | exact aM 11 rfl rfl rfl rfl y_b | exact aV 11 rfl rfl rfl rfl y_b | exact bT 11 rfl rfl rfl rfl y_b | exact bE 11 rfl rfl rfl rfl y_b) rfl (DL rfl rfl rfl (cZ m_m (oM hu (j := 11) y_b)) rfl (ZAn ?_))
 refine DY rfl (by first | exact aM 10 rfl rfl rfl rfl y_b | exact aV 10 rfl rfl rfl rfl y_b | exact bT 10 rfl rfl rfl rfl y_b | exact bE 10 rfl rfl rfl rfl y_b) rfl (DL rfl rfl rfl (cZ m_m (oM hu (j := 10) y_b)) rfl (ZDr ?_))
 refine DX rfl (bY rfl) rfl y_o (ZBz fun b0 => ?_)
 refine DZ rfl s_t rfl n_h (ZAn ?_)
 refine DR [4, 5, 6, 7, 8, 9, 10, 11, 12, 13, 14, 15, 17] (pln [0, 2, 4, 6, 8, 10, 12, 14, 16, 18, 20, 22, 24, 26, 28, 30, 32, 35, 37]) ?_
 refine ZAn ?_
 refine DY rfl y_dC rfl (DL rfl rfl rfl (cZ m_m (oM hu (j := 0) y_b)) rfl (ZAn ?_))
 refine DY rfl (by first | exact aM 7 rfl rfl rfl rfl y_b | exact aV 7 rfl rfl rfl rfl y_b | exact bT 7 rfl rfl rfl rfl y_b | exact bE 7 rfl rfl rfl rfl y_b) rfl (DL rfl rfl rfl (cZ m_m (oM hu (j := 7) y_b)) rfl (ZAn ?_))
 refine DY rfl (by first | exact aM 8 rfl rfl rfl rfl y_b | exact aV 8 rfl rfl rfl rfl y_b | exact bT 8 rfl rfl rfl rfl y_b | exact bE 8 rfl rfl rfl rfl y_b) rfl (DL rfl rfl rfl (cZ m_m (oM hu (j := 8) y_b)) rfl (ZAn ?_))
 refine DY rfl (by first | exact aM 9 rfl rfl rfl rfl y_b | exact aV 9 rfl rfl rfl rfl y_b | exact bT 9 rfl rfl rfl rfl y_b | exact bE 9 rfl rfl rfl rfl y_b) rfl (DL rfl rfl rfl (cZ m_m (oM hu (j := 9) y_b)) rfl (ZDr ?_))
 refine DX rfl (bY rfl) rfl y_o ?_
 rintro _ _ ⟨b1, rfl, rfl⟩
 refine DZ rfl s_t rfl n_h (ZAn ?_)
 refine DR [1, 2, 3, 4, 5, 6, 7, 8, 9, 10, 11, 12, 17] (.step true 0 (.step true 1 (.step true 2 (.step true 3 (.step true 4 (.step true 5 (.step true 6 (.step true 7 (.step true 8 (.step true 9 (.step true 10 (.step true 11 (.step true 12 (.fork 13 (.step true 14 (.step true 15 (.step true 16 (.step false 17 (.step false 18 (.step true 19 .done)))))) (.fork 17 (.step false 13 (.step true 14 (.step true 15 (.step true 16 (.step false 18 (.step true 19 .done)))))) .stop))))))))))))))) ?_
 refine bU rfl rfl rfl rfl y_bl rfl rfl ?_
 refine ZBW ?_
 refine ZBB ?_
 refine ZDg ?_
 refine ZBB ?_
 refine DL rfl rfl rfl (cZ m_m (aBV hu)) rfl (lC ?_ ?_)
 ·refine ZDx ?_
  refine ZAn ?_
  refine DX rfl (bY rfl) rfl y_o ?_
  rintro _ _ ⟨b2, rfl, rfl⟩
  refine DZ rfl s_t rfl n_h (ZDP ?_)
  refine ZB6 ?_
  refine ZDg ?_
  refine bU rfl rfl rfl rfl y_bC rfl rfl ?_
  refine ZBW ?_
  refine ZB1 ?_
  refine ZBB ?_
  refine ZDg ?_
  refine bU rfl rfl rfl rfl y_c7 rfl rfl ?_
  refine ZAn ?_
  refine ZBd ?_
  refine ZCQ ?_
  refine ZAC ?_
  refine ZBx ?_
  refine KC (fun q0 z0 => ?_) (fun q0 z0 => ?_)
  ·refine ZB6 ?_
   refine RZ (aH rfl rfl (aT m_m (aBV (hu.P_ (u.line.toNat * 160) (rowU_byts u) y_ea)))) rfl (RW (v := (.int .i64 (u.own + 1))) rfl rfl (cA_ _ (aI y_dV y_dV)) (ZAn ?_))
   refine RZ (aD (l' := cU { u with P := kR u.P (u.line.toNat * 160) (rowU u), own := u.own + 1 }) 3 rfl rfl rfl rfl rfl rfl y_bg (qF (hu.P_ (u.line.toNat * 160) (rowU_byts u) y_ea) _)) rfl (ZAC ?_)
   refine ZBR ?_
   exact EN (.cons _ (.cons _ (.cons _ sR_))) ⟨rfl, by rw [aDe q0]⟩
  refine ZBR ?_
  exact EN (.cons _ (.cons _ (.cons _ sR_))) ⟨rfl, by rw [aFE q0]⟩
 refine lC ?_ ?_
 ·refine DX rfl (bY rfl) rfl y_o ?_
  rintro _ _ ⟨b2, rfl, rfl⟩
  refine ZDx ?_
  refine ZAn ?_
  refine DZ rfl s_t rfl n_h (ZDP ?_)
  refine ZB6 ?_
  refine ZDg ?_
  refine bU rfl rfl rfl rfl y_bC rfl rfl ?_
  refine ZBW ?_
  refine ZB1 ?_
  refine ZBB ?_
  refine ZDg ?_
  refine bU rfl rfl rfl rfl y_c7 rfl rfl ?_
  refine ZAn ?_
  refine ZBd ?_
  refine ZCQ ?_
  refine ZAC ?_
  refine ZBx ?_
  refine KC (fun q0 z0 => ?_) (fun q0 z0 => ?_)
  ·refine ZB6 ?_
   refine RZ (aH rfl rfl (aT m_m (aBV (hu.P_ (u.line.toNat * 160) (rowU_byts u) y_ea)))) rfl (RW (v := (.int .i64 (u.own + 1))) rfl rfl (cA_ _ (aI y_dV y_dV)) (ZAn ?_))
   refine RZ (aD (l' := cU { u with P := kR u.P (u.line.toNat * 160) (rowU u), own := u.own + 1 }) 3 rfl rfl rfl rfl rfl rfl y_bg (qF (hu.P_ (u.line.toNat * 160) (rowU_byts u) y_ea) _)) rfl (ZAC ?_)
   refine ZBR ?_
   exact EN (.cons _ (.cons _ (.cons _ sR_))) ⟨rfl, by rw [aDe q0]⟩
  refine ZBR ?_
  exact EN (.cons _ (.cons _ (.cons _ sR_))) ⟨rfl, by rw [aFE q0]⟩
 exact vQ
def next_fn (b : Nat) (u : PU) (hu : u.Wf) (w : AI) (hst : St w [b] [(b, blk (cU u) 204)] w) (hl : u.line < 154) : aC prog 251 [P_ b] w [b] (fun v H => v = .int .u8 (tO u) ∧ H = [(b, blk (cU (kB u)) 204)]) := by
 have hlb := hu.line
 have hfb := hu.frames
 refine dO_ func251 hst ?_
 refine A_9 ?_
 refine RZ (aD (l' := cU { u with dot := 0 }) 0 rfl rfl rfl rfl rfl rfl y_m (sI hu _)) rfl (ZD5 ?_)
 refine RZ (aH rfl rfl (aT m_m (cU_line (hu.dot_ (x := 0) y_b)))) rfl (RW (v := (.int .i64 (u.line + 1))) rfl rfl (cA_ _ (aI y_dV y_dV)) (ZAn ?_))
 refine RZ (aD (l' := cU { u with dot := 0, line := u.line + 1 }) 0 rfl rfl rfl rfl rfl rfl (by rw [cU_len (hu.dot_ (x := 0) y_b)]; simp only [Lc_, ar]; (try simp only [decide_eq_true_eq, decide_eq_false_iff_not, beq_iff_eq, beq_eq_false_iff_ne, bne_iff_ne, bne_eq_false_iff_eq, ne_eq] at *); omega) (rB (hu.dot_ (x := 0) y_b) _)) rfl (ZAC ?_)
 refine ZDR ?_
 refine RZ (aH rfl rfl (aT m_m (cU_line ((hu.dot_ (x := 0) y_b).line_ (x := u.line + 1) o_m)))) rfl (ZDR ?_)
 refine KC (fun q0 z0 => ?_) (fun q0 z0 => ?_)
 ·refine ZB2 ?_
  refine RZ (aH rfl rfl (aT m_m (yG ((hu.dot_ (x := 0) y_b).line_ (x := u.line + 1) o_m)))) rfl (RW (v := (.int .i64 (u.frames + 1))) rfl rfl (cA_ _ (aI y_dV y_dV)) (RW (v := (.int .i64 ((u.frames + 1) % 65536))) rfl rfl (cA_ _ (Int.tmod_eq_emod_of_nonneg o_m)) (ZAn ?_)))
  refine RZ (aD (l' := cU { u with dot := 0, line := u.line + 1, frames := (u.frames + 1) % 65536 }) 0 rfl rfl rfl rfl rfl rfl y_dU (aF5 ((hu.dot_ (x := 0) y_b).line_ (x := u.line + 1) o_m) _)) rfl (ZD5 ?_)
  exact EV rfl sR_ ⟨cA_ _ (by unfold tO; rw [if_pos y_a]), by rw [aKk y_a, show u.line + 1 = 144 by (try simp only [decide_eq_true_eq, decide_eq_false_iff_not, beq_iff_eq, beq_eq_false_iff_ne, bne_iff_ne, bne_eq_false_iff_eq, ne_eq] at *); omega]⟩
 refine ZBx ?_
 refine KC (fun q1 z1 => ?_) (fun q1 z1 => ?_)
 ·refine ZBx ?_
  refine RZ (aD (l' := cU { u with dot := 0, line := 0 }) 0 rfl rfl rfl rfl rfl rfl y_dU (rB ((hu.dot_ (x := 0) y_b).line_ (x := u.line + 1) o_m) _)) rfl (ZBM ?_)
  refine RZ (aD (l' := cU { u with dot := 0, line := 0, own := 0 }) 0 rfl rfl rfl rfl rfl rfl (by rw [cU_len ((hu.dot_ (x := 0) y_b).line_ (x := 0) y_b)]; simp only [Lc_, ar]; (try simp only [decide_eq_true_eq, decide_eq_false_iff_not, beq_iff_eq, beq_eq_false_iff_ne, bne_iff_ne, bne_eq_false_iff_eq, ne_eq] at *); omega) (qF ((hu.dot_ (x := 0) y_b).line_ (x := 0) y_b) _)) rfl (ZD5 ?_)
  exact EV rfl sR_ ⟨cA_ _ (by unfold tO; rw [if_neg y_a]), by rw [aKh y_a]⟩
 refine ZB2 ?_
 exact EV rfl sR_ ⟨cA_ _ (by unfold tO; rw [if_neg y_a]), by rw [aJn y_a y_a]⟩
set_option maxHeartbeats 2000000 in
def tick_fn (b : Nat) (u : PU) (hok : u.Ok) (w : AI) (hst : St w [b] [(b, blk (cU u) 204)] w) : aC prog 238 [P_ b] w [b] (fun v H => v = .int .u8 (tickV u) ∧ H = [(b, blk (cU (tickU u)) 204)]) := by
 have hu := hok.wf
 have hd := hok.dot
 have hlb := hu.line
 have hl154 := hok.line
 have hdb := hu.dot
 have hws := hok.step
 refine dO_ func238 hst ?_
 refine A_11 ?_
 refine RLv K_ (fun w hw => qS b u hu w (aA m_m w hw)) ?_
 refine ZBB ?_
 refine KC (fun q0 z0 => ?_) (fun q0 z0 => ?_)
 ·refine ZBx ?_
  exact EV rfl sR_ ⟨cA_ _ (by unfold tickV; rw [if_neg y_cc]), by unfold tickU; rw [if_neg y_cc]⟩
 refine A_10 ?_
 refine RZ (aH rfl rfl (aT m_m (cU_dot hu))) rfl (RW (v := (.int .i64 (u.dot + 1))) rfl rfl (cA_ _ (aI o_m o_m)) (ZAn ?_))
 refine RZ (aD (l' := cU (oneU u)) 0 rfl rfl rfl rfl rfl rfl y_m (sI hu _)) rfl (ZAC ?_)
 refine A_8 ?_
 refine ZCh ?_
 refine ZBR ?_
 refine KL (fun q1 z1 => ?_) (fun q1 z1 => ?_)
 ·refine ZBB ?_
  refine RZ (aH rfl rfl (aT m_m (show (cU (oneU u))[8364]? = some (.int .i64 u.line) from cU_line (hu.one hd)))) rfl (ZB6 ?_)
  refine KC (fun q2 z2 => ?_) (fun q2 z2 => ?_)
  ·refine ZAn ?_
   refine RZ (dB K_ rfl (fun w hw => aNo b (oneU u) (hu.one hd) w (St.lentA hw) (show u.line < 144 by (try simp only [decide_eq_true_eq, decide_eq_false_iff_not, beq_iff_eq, beq_eq_false_iff_ne, bne_iff_ne, bne_eq_false_iff_eq, ne_eq] at *); omega) hok.own599)) rfl (ZBx ?_)
   have hs9 : stepU u = jP (oneU u) := rT y_a y_a
   refine ZAs ?_
   refine ZB6 ?_
   have hlit : fX u = true := by simp_all
   exact ZCt
  refine ZBx ?_
  refine ZCh ?_
  refine ZBB ?_
  refine KC (fun q3 z3 => ?_) (fun q3 z3 => ?_)
  ·refine ZCO ?_
   refine ZB2 ?_
   have hs9 : stepU u = kB (oneU u) := rA y_a
   refine ZAs ?_
   refine ZB6 ?_
   have hlit : fX u = true := by simp_all
   have hnv : tO (oneU u) = stepV u := by
    have q4 : u.dot = 113 := y_a
    unfold tO stepV oneU; simp [q4]
   exact EV rfl sR_ ⟨cA_ _ y_6, y_ce⟩
  refine ZBx ?_
  have hs9 : stepU u = oneU u := sT y_a y_a
  refine ZAs ?_
  refine ZB6 ?_
  have hlit : fX u = true := by simp_all
  exact ZCt
 refine A_14 ?_
 refine ZCh ?_
 refine ZBB ?_
 refine KC (fun q2 z2 => ?_) (fun q2 z2 => ?_)
 ·refine ZCO ?_
  refine ZB2 ?_
  have hs9 : stepU u = kB (oneU u) := rA y_a
  refine ZAs ?_
  refine ZB6 ?_
  have hlit : fX u = true := by simp_all
  have hnv : tO (oneU u) = stepV u := by
   have q3 : u.dot = 113 := y_a
   unfold tO stepV oneU; simp [q3]
  exact EV rfl sR_ ⟨cA_ _ y_6, y_ce⟩
 refine ZBx ?_
 have hs9 : stepU u = oneU u := sT y_a y_a
 refine ZAs ?_
 refine ZB6 ?_
 have hlit : fX u = true := by simp_all
 exact ZCt
def new_fn (w : AI) : aC prog 42 [] w [] (fun v H => ∃ b, v = P_ b ∧ H = [(b, blk (cU oK) 204)]) := by
 refine dR_ func42 ?_
 refine ZB2 ?_
 refine RY (eB (l := cU oK) (z := cU oK) (ps := []) rfl y_i rfl rfl) rfl (RX (dC (l := cU oK) rfl rfl) rfl (ZBz fun b0 => ?_))
 refine ZBB ?_
 exact EV rfl sR_ ⟨b0, rfl, rfl⟩
def peek_fn (b : Nat) (u : PU) (hu : u.Wf) (w : AI) (hr : Row w b 0 (cU u)) (a : Int) (ha : 0 ≤ a ∧ a < 65536) : aC prog 219 [P_ b, .int .u16 a] w [] (V_ (.int .u8 (kV u a))) := by
 have hlb := hu.line
 have hnr := tS a
 have hmr := xI u
 refine dR_ func219 ?_
 refine A_14 ?_
 rcases zP ha with ⟨j, hj, rfl⟩ | ⟨j, hj, rfl⟩ | hno
 ·refine ZBe ?_
  rw [aCv hj]
  refine A_9 ?_
  refine ZA1 ?_
  refine ZB2 ?_
  refine RZ (aH rfl rfl (bF (hr _ _ (aSJ hu hj)) y_v)) rfl (ZBB ?_)
  exact E0 rfl ⟨rfl, cA_ _ (aQH hj).symm⟩
 ·refine ZBe ?_
  rw [aCj hj]
  refine A_9 ?_
  refine ZA1 ?_
  refine ZB2 ?_
  refine RZ (aH rfl rfl (bF (mL hr (aSW hu hj)) y_v)) rfl (ZBB ?_)
  exact E0 rfl ⟨rfl, cA_ _ (aQF hj).symm⟩
 refine ZBe ?_
 rw [aAW hno]
 refine A_9 ?_
 refine ZAY ?_
 refine ZB2 ?_
 refine RLv K_ (wQ_ (aCP _ ha)) ?_
 refine A_13 ?_
 refine KC (fun q0 z0 => ?_) (fun q0 z0 => ?_)
 ·refine ZBx ?_
  exact E0 rfl ⟨rfl, cA_ _ (by rw [yC hno, if_pos y_a])⟩
 refine ZBx ?_
 refine KC (fun q1 z1 => ?_) (fun q1 z1 => ?_)
 ·refine ZBx ?_
  refine RZ (aH rfl rfl (bF (mL hr (cU_line hu)) y_v)) rfl (RW (v := (.int .u8 (u.line % 256))) rfl rfl (cA_ _ (eX _)) (ZBB ?_))
  exact E0 rfl ⟨rfl, cA_ _ (by rw [yC hno, if_neg y_a, if_pos y_a])⟩
 refine ZBx ?_
 refine KC (fun q2 z2 => ?_) (fun q2 z2 => ?_)
 ·refine ZBR ?_
  refine DR [7, 8, 9] (pln [0, 2, 4, 6, 8, 10, 12, 14, 17, 18, 20, 22]) ?_
  refine ZB6 ?_
  refine DY rfl (aM (numU a).toNat rfl rfl rfl y_a y_a) rfl (DL rfl rfl rfl (fG (mL hr (oM hu (j := (numU a).toNat) y_a)) y_v) rfl (ZAn ?_))
  refine DZ rfl (aZ K_ rfl (fun w hw => rU b u hu w (aR hr y_v w hw))) rfl y_c (DW (v := (.int .u8 (modeU u))) rfl rfl rfl (cA_ _ (oU o_m o_m)) (DW (v := (.int .u8 (wX u))) rfl rfl rfl (by have h9 : (numU a).toNat = 1 := y_a; rw [h9]; rfl) (ZB2 ?_)))
  refine RLv K_ (fun w hw => aD9 b u hu w (aR hr y_v w hw)) ?_
  refine ZBR ?_
  refine KC (fun q3 z3 => ?_) (fun q3 z3 => ?_)
  ·refine A_11 ?_
   exact E0 rfl ⟨rfl, cA_ _ (by rw [yC hno, if_neg y_a, if_neg y_a, if_pos y_a, if_pos q3]; try rfl)⟩
  refine ZDR ?_
  exact E0 rfl ⟨rfl, cA_ _ (by rw [yC hno, if_neg y_a, if_neg y_a, if_pos y_a, if_neg (by rw [q3]; decide)]; try rfl)⟩
 refine ZDR ?_
 refine RY (aM (numU a).toNat rfl rfl rfl y_a y_a) rfl (RZ (aH rfl rfl (bF (mL hr (oM hu (j := (numU a).toNat) y_a)) y_v)) rfl (ZBB ?_))
 exact E0 rfl ⟨rfl, cA_ _ (by rw [yC hno, if_neg y_a, if_neg y_a, if_neg y_a])⟩
def aPX (b : Nat) (u : PU) (hu : u.Wf) (w : AI) (hr : Row w b 0 (cU u)) (a : Int) (ha : 0 ≤ a ∧ a < 65536) : aC prog 214 [P_ b, .int .u16 a] w [] (V_ (.int .u8 (oX u a))) := by
 refine dR_ func214 ?_
 refine A_14 ?_
 rcases zP ha with ⟨j, hj, rfl⟩ | ⟨j, hj, rfl⟩ | hno
 ·refine ZBe ?_
  rw [aCv hj]
  refine A_9 ?_
  refine ZA1 ?_
  refine ZAn ?_
  refine RLv K_ (fun w hw => rU b u hu w (aR hr y_v w hw)) ?_
  refine ZB6 ?_
  refine KC (fun q0 z0 => ?_) (fun q0 z0 => ?_)
  ·refine ZBx ?_
   exact E0 rfl ⟨rfl, cA_ _ (by rw [aJ4 hj, if_pos y_a])⟩
  refine ZBx ?_
  refine ZDF ?_
  exact E0 rfl ⟨rfl, cA_ _ (by rw [aJ4 hj, if_neg y_a])⟩
 ·refine ZBe ?_
  rw [aCj hj]
  refine A_9 ?_
  refine ZA1 ?_
  refine ZAn ?_
  refine RLv K_ (fun w hw => rU b u hu w (aR hr y_v w hw)) ?_
  refine ZB6 ?_
  refine KC (fun q0 z0 => ?_) (fun q0 z0 => ?_)
  ·refine ZBx ?_
   exact E0 rfl ⟨rfl, cA_ _ (by rw [aKr hj, if_pos y_a])⟩
  refine ZBx ?_
  refine ZDF ?_
  exact E0 rfl ⟨rfl, cA_ _ (by rw [aKr hj, if_neg y_a])⟩
 refine ZBe ?_
 rw [aAW hno]
 refine A_9 ?_
 refine ZAY ?_
 refine A_13 ?_
 refine ZDF ?_
 exact E0 rfl ⟨rfl, cA_ _ (aPA hno).symm⟩
set_option maxHeartbeats 2000000 in
def aNn (b : Nat) (u : PU) (hu : u.Wf) (w : AI) (hst : St w [b] [(b, blk (cU u) 204)] w) (a x : Int) (ha : 0 ≤ a ∧ a < 65536) (hx : 0 ≤ x ∧ x < 256) : aC prog 215 [P_ b, .int .u16 a, .int .u8 x] w [b] (fun v H => v = .int .u8 (jB u a x) ∧ H = [(b, blk (cU (eS u a x)) 204)]) := by
 have hnr := tS a
 refine dO_ func215 hst ?_
 refine A_14 ?_
 rcases zP ha with ⟨j, hj, rfl⟩ | ⟨j, hj, rfl⟩ | hno
 ·refine ZBe ?_
  rw [aCv hj]
  refine A_9 ?_
  refine ZA1 ?_
  refine ZB2 ?_
  refine RLv K_ (fun w hw => rU b u hu w (aA m_m w hw)) ?_
  refine ZBB ?_
  refine KC (fun q0 z0 => ?_) (fun q0 z0 => ?_)
  ·refine ZB6 ?_
   refine RZ (aD (l' := cU { u with V := u.V.set j x }) 0 rfl rfl rfl rfl rfl rfl y_m (by rw [az]; exact aQn hu hj x)) rfl (ZD5 ?_)
   exact EV rfl sR_ ⟨cA_ _ (aQO _ hj).symm, by rw [aGc _ hj, if_pos y_a]⟩
  refine ZB2 ?_
  exact EV rfl sR_ ⟨cA_ _ (aQO _ hj).symm, by rw [aGc _ hj, if_neg y_a]⟩
 ·refine ZBe ?_
  rw [aCj hj]
  refine A_9 ?_
  refine ZA1 ?_
  refine ZB2 ?_
  refine RLv K_ (fun w hw => rU b u hu w (aA m_m w hw)) ?_
  refine ZBB ?_
  refine KC (fun q0 z0 => ?_) (fun q0 z0 => ?_)
  ·refine ZB6 ?_
   refine RZ (aD (l' := cU { u with O := u.O.set j x }) 0 rfl rfl rfl rfl rfl rfl y_m (aJD hu hj x)) rfl (ZD5 ?_)
   exact EV rfl sR_ ⟨cA_ _ (aQz _ hj).symm, by rw [aGL _ hj, if_pos y_a]⟩
  refine ZB2 ?_
  exact EV rfl sR_ ⟨cA_ _ (aQz _ hj).symm, by rw [aGL _ hj, if_neg y_a]⟩
 refine ZBe ?_
 rw [aAW hno]
 refine A_9 ?_
 refine ZAY ?_
 refine ZB2 ?_
 refine RLv K_ (wQ_ (aCP _ ha)) ?_
 refine ZBR ?_
 refine RLv K_ (fun w hw => qS b u hu w (aA m_m w hw)) ?_
 refine A_14 ?_
 refine KC (fun q0 z0 => ?_) (fun q0 z0 => ?_)
 ·refine ZBx ?_
  exact EV rfl sR_ ⟨cA_ _ (aSE _ hno y_a).symm, by rw [aNd _ hno y_a]⟩
 refine ZBx ?_
 refine KC (fun q1 z1 => ?_) (fun q1 z1 => ?_)
 ·refine ZDR ?_
  refine RY (aM (numU a).toNat rfl rfl rfl y_a y_a) rfl (RZ (aD (l' := cU { u with R := u.R.set 1 (aG .u8 x 120) }) 0 rfl rfl rfl rfl rfl rfl y_m (by rw [show (numU a).toNat = 1 by (try simp only [decide_eq_true_eq, decide_eq_false_iff_not, beq_iff_eq, beq_eq_false_iff_ne, bne_iff_ne, bne_eq_false_iff_eq, ne_eq] at *); omega]; exact aJT hu (j := 1) y_b _)) rfl (ZAC ?_))
  refine ZBx ?_
  refine KL (fun q2 z2 => ?_) (fun q2 z2 => ?_)
  ·refine ZBR ?_
   refine RLv K_ (fun w hw => qS b ({ u with R := u.R.set 1 (aG .u8 x 120) }) (hu.set1 hx) w (aA m_m w hw)) ?_
   refine ZBB ?_
   refine KC (fun q3 z3 => ?_) (fun q3 z3 => ?_)
   ·refine ZB2 ?_
    refine RZ (aD (l' := cU ({ ({ u with R := u.R.set 1 (aG .u8 x 120) } : PU) with line := 0 } : PU)) 0 rfl rfl rfl rfl rfl rfl (by rw [cU_len (hu.set1 hx)]; simp only [Lc_, ar]; (try simp only [decide_eq_true_eq, decide_eq_false_iff_not, beq_iff_eq, beq_eq_false_iff_ne, bne_iff_ne, bne_eq_false_iff_eq, ne_eq] at *); omega) (rB (hu.set1 hx) _)) rfl (ZBM ?_)
    refine RZ (aD (l' := cU ({ ({ u with R := u.R.set 1 (aG .u8 x 120) } : PU) with line := 0, dot := 0 } : PU)) 0 rfl rfl rfl rfl rfl rfl (by rw [cU_len ((hu.set1 hx).line_ (x := 0) y_b)]; simp only [Lc_, ar]; (try simp only [decide_eq_true_eq, decide_eq_false_iff_not, beq_iff_eq, beq_eq_false_iff_ne, bne_iff_ne, bne_eq_false_iff_eq, ne_eq] at *); omega) (sI ((hu.set1 hx).line_ (x := 0) y_b) _)) rfl (ZBM ?_)
    refine RZ (aD (l' := cU ({ ({ u with R := u.R.set 1 (aG .u8 x 120) } : PU) with line := 0, dot := 0, own := 0 } : PU)) 0 rfl rfl rfl rfl rfl rfl (by rw [cU_len (((hu.set1 hx).line_ (x := 0) y_b).dot_ (x := 0) y_b)]; simp only [Lc_, ar]; (try simp only [decide_eq_true_eq, decide_eq_false_iff_not, beq_iff_eq, beq_eq_false_iff_ne, bne_iff_ne, bne_eq_false_iff_eq, ne_eq] at *); omega) (qF (((hu.set1 hx).line_ (x := 0) y_b).dot_ (x := 0) y_b) _)) rfl (ZAC ?_)
    refine ZB6 ?_
    have hs9 : putU u (numU a) x = ({ ({ u with R := u.R.set 1 (aG .u8 x 120) } : PU) with line := 0, dot := 0, own := 0 } : PU) := by
     unfold putU; rw [set_1 y_a]; exact aAr y_cc y_cc
    exact ZCb
   refine ZB6 ?_
   exact ZDh
  refine A_10 ?_
  exact ZDh
 refine ZBx ?_
 refine KC (fun q2 z2 => ?_) (fun q2 z2 => ?_)
 ·refine ZBx ?_
  refine KL (fun q3 z3 => ?_) (fun q3 z3 => ?_)
  ·refine ZBR ?_
   refine RLv K_ (fun w hw => qS b (u) hu w (aA m_m w hw)) ?_
   refine ZBB ?_
   refine KC (fun q4 z4 => ?_) (fun q4 z4 => ?_)
   ·refine ZB2 ?_
    refine RZ (aD (l' := cU ({ (u : PU) with line := 0 } : PU)) 0 rfl rfl rfl rfl rfl rfl y_m (rB hu _)) rfl (ZBM ?_)
    refine RZ (aD (l' := cU ({ (u : PU) with line := 0, dot := 0 } : PU)) 0 rfl rfl rfl rfl rfl rfl (by rw [cU_len (hu.line_ (x := 0) y_b)]; simp only [Lc_, ar]; (try simp only [decide_eq_true_eq, decide_eq_false_iff_not, beq_iff_eq, beq_eq_false_iff_ne, bne_iff_ne, bne_eq_false_iff_eq, ne_eq] at *); omega) (sI (hu.line_ (x := 0) y_b) _)) rfl (ZBM ?_)
    refine RZ (aD (l' := cU ({ (u : PU) with line := 0, dot := 0, own := 0 } : PU)) 0 rfl rfl rfl rfl rfl rfl (by rw [cU_len ((hu.line_ (x := 0) y_b).dot_ (x := 0) y_b)]; simp only [Lc_, ar]; (try simp only [decide_eq_true_eq, decide_eq_false_iff_not, beq_iff_eq, beq_eq_false_iff_ne, bne_iff_ne, bne_eq_false_iff_eq, ne_eq] at *); omega) (qF ((hu.line_ (x := 0) y_b).dot_ (x := 0) y_b) _)) rfl (ZAC ?_)
    refine ZB6 ?_
    have hs9 : putU u (numU a) x = ({ (u : PU) with line := 0, dot := 0, own := 0 } : PU) := by
     unfold putU; rw [aBU y_a]; exact aAr y_cc y_cc
    exact ZCb
   refine ZB6 ?_
   have hs9 : putU u (numU a) x = u := by
    unfold putU; rw [aBU y_a]; exact off_no y_cc
   exact ZCb
  refine A_10 ?_
  have hs9 : putU u (numU a) x = u := by
   unfold putU; rw [aBU y_a]; exact off_no y_cc
  exact ZCb
 refine ZB2 ?_
 refine RY (aM (numU a).toNat rfl rfl rfl y_a y_a) rfl (RZ (aD (l' := cU { u with R := u.R.set (numU a).toNat x }) 0 rfl rfl rfl rfl rfl rfl y_m (aJT hu (j := (numU a).toNat) y_a x)) rfl (ZAC ?_))
 refine ZBx ?_
 refine KL (fun q3 z3 => ?_) (fun q3 z3 => ?_)
 ·refine ZBR ?_
  refine RLv K_ (fun w hw => qS b ({ u with R := u.R.set (numU a).toNat x }) (hu.setn hx y_a y_a) w (aA m_m w hw)) ?_
  refine ZBB ?_
  refine KC (fun q4 z4 => ?_) (fun q4 z4 => ?_)
  ·refine ZB2 ?_
   refine RZ (aD (l' := cU ({ ({ u with R := u.R.set (numU a).toNat x } : PU) with line := 0 } : PU)) 0 rfl rfl rfl rfl rfl rfl (by rw [cU_len (hu.setn hx y_a y_a)]; simp only [Lc_, ar]; (try simp only [decide_eq_true_eq, decide_eq_false_iff_not, beq_iff_eq, beq_eq_false_iff_ne, bne_iff_ne, bne_eq_false_iff_eq, ne_eq] at *); omega) (rB (hu.setn hx y_a y_a) _)) rfl (ZBM ?_)
   refine RZ (aD (l' := cU ({ ({ u with R := u.R.set (numU a).toNat x } : PU) with line := 0, dot := 0 } : PU)) 0 rfl rfl rfl rfl rfl rfl (by rw [cU_len ((hu.setn hx y_a y_a).line_ (x := 0) y_b)]; simp only [Lc_, ar]; (try simp only [decide_eq_true_eq, decide_eq_false_iff_not, beq_iff_eq, beq_eq_false_iff_ne, bne_iff_ne, bne_eq_false_iff_eq, ne_eq] at *); omega) (sI ((hu.setn hx y_a y_a).line_ (x := 0) y_b) _)) rfl (ZBM ?_)
   refine RZ (aD (l' := cU ({ ({ u with R := u.R.set (numU a).toNat x } : PU) with line := 0, dot := 0, own := 0 } : PU)) 0 rfl rfl rfl rfl rfl rfl (by rw [cU_len (((hu.setn hx y_a y_a).line_ (x := 0) y_b).dot_ (x := 0) y_b)]; simp only [Lc_, ar]; (try simp only [decide_eq_true_eq, decide_eq_false_iff_not, beq_iff_eq, beq_eq_false_iff_ne, bne_iff_ne, bne_eq_false_iff_eq, ne_eq] at *); omega) (qF (((hu.setn hx y_a y_a).line_ (x := 0) y_b).dot_ (x := 0) y_b) _)) rfl (ZAC ?_)
   refine ZB6 ?_
   have hs9 : putU u (numU a) x = ({ ({ u with R := u.R.set (numU a).toNat x } : PU) with line := 0, dot := 0, own := 0 } : PU) := by
    unfold putU; rw [set_n y_a y_a]; exact aAr y_cc y_cc
   exact ZCb
  refine ZB6 ?_
  exact ZDc
 refine A_10 ?_
 exact ZDc
def aJ3 (b : Nat) (u : PU) (hu : u.Wf) (w : AI) (hst : St w [b] [(b, blk (cU u) 204)] w) (n x : Int) (hx : 0 ≤ x ∧ x < 256) : aC prog 235 [P_ b, .int .i64 n, .int .u8 x] w [b] (fun v H => v = .tuple #[] ∧ H = [(b, blk (cU (kH u n x)) 204)]) := by
 refine dO_ func235 hst ?_
 refine A_8 ?_
 refine KL (fun q0 z0 => ?_) (fun q0 z0 => ?_)
 ·refine ZB6 ?_
  refine KC (fun q1 z1 => ?_) (fun q1 z1 => ?_)
  ·refine ZB2 ?_
   refine RY (aM n.toNat rfl rfl rfl y_a y_a) rfl (RZ (aD (l' := cU { u with O := u.O.set n.toNat x }) 0 rfl rfl rfl rfl rfl rfl y_m (aJD hu (j := n.toNat) y_a x)) rfl (ZAC ?_))
   refine ZBR ?_
   exact EN sR_ ⟨rfl, by unfold kH; rw [if_pos y_a]⟩
  refine ZBR ?_
  exact EN sR_ ⟨rfl, by unfold kH; rw [if_neg y_a]⟩
 refine ZB2 ?_
 exact EN sR_ ⟨rfl, by unfold kH; rw [if_neg y_a]⟩
def aOe (n : Nat) (hn : n ≤ 1000000) (w : AI) : aC prog 104 [.slice none 0 0, .int .i64 n] w [] (fun v H => Vec 5 1 v 0 [] H) := by
 refine dR_ func104 ?_
 refine A_8 ?_
 refine dT false rfl rfl rfl y_v ?_
 refine A_8 ?_
 refine RY (aCN rfl rfl) rfl (ZBR ?_)
 refine RY l_n rfl (RW (v := (.int .i64 0)) rfl rfl rfl (RW (v := (.int .i64 (n : Int))) rfl rfl (cA_ _ (by rw [Int.sub_zero]; exact aI o_m o_m)) (ZDR ?_)))
 refine KC (fun q0 z0 => ?_) (fun q0 z0 => ?_)
 ·refine ZBB ?_
  refine RY (aCN rfl rfl) rfl (RY (aCp 0 rfl rfl rfl rfl y_b) rfl (ZBR ?_))
  refine RX (aHE (n := n) (T := 5) (s := 1) (by_ := 1) rfl rfl rfl rfl rfl o_m hn y_b) rfl ?_
  rintro _ _ ⟨b0, cap, sp, rfl, rfl, hsp, hcap, hcm⟩
  refine ZBR ?_
  refine RY l_n rfl (RY (aCp 0 rfl rfl rfl rfl o_m) rfl (A_8 ?_))
  exact EV rfl sR_ (.row b0 0 cap [] sp rfl (by simpa using hsp) hcm (aj _))
 refine ZDR ?_
 exact E0 rfl .nil
def aIS (b : Nat) (S : List Sg) (w : AI) (hr : Row w b 0 (aE cSg S)) (hn : S.length ≤ 1000) (hs : ∀ s ∈ S, Ns w .u8 s.a s.l ∧ s.l.length ≤ s.c) (hl : (kI S).length ≤ 1000000) :
  aC prog 77 [.slice (Q_ b) S.length S.length] w [] (fun v H => Vec 5 1 v (kI S).length ((kI S).map (.int .u8)) H) := by
 refine dR_ func77 ?_
 refine A_12 ?_
 refine RY l_n rfl (A_3 ?_)
 refine qA (σ := Nat) [3, 5, 11, 12, 13, 14, 15, 16, 17, 18, 19, 20, 21, 22] (fun i => [(3, .int .i64 ((kI (S.take i)).length : Int)), (11, .int .i64 i)]) (fun i => i ≤ S.length) (fun i => S.length - i) 0 ?_ ?_ ?_
 ·exact aj _
 ·exact .cons rfl (.cons rfl .nil)
 intro i y3 hi
 have hc0 := aCa S i
 refine A_5 ?_
 refine KC (fun h1 h1n => ?_) (fun h1 h1n => ?_)
 ·refine A_4 ?_
  obtain ⟨s, hsi⟩ : ∃ s, S[i]? = some s := ⟨_, tE o_m⟩
  have hc1 := aC5 S i hsi
  have hc2 := aCa S (i + 1)
  have hc3 := cA_ List.length hc1
  rw [La_] at hc3
  refine A_1 ?_
  refine RY (aV i rfl rfl rfl rfl o_m) rfl (RZ (aH rfl rfl (fun w hw => y_d3)) rfl (A_6 ?_))
  refine RY (aDh (a := s.a) (c := s.c) rfl rfl) rfl (RW (v := (.int .i64 (((kI (S.take i)).length : Int) + (s.l.length : Int)))) rfl rfl (cA_ _ (aI o_m o_m)) (A_5 ?_))
  refine dT false rfl rfl rfl y_bS ?_
  refine A_4 ?_
  refine RW (v := (.int .i64 ((i + 1 : Nat) : Int))) rfl rfl (cA_ _ (bB o_m)) (A_2 ?_)
  exact ⟨i + 1, y_B, y_B, .cons (cA_ (Value.int .i64) (show (((kI (S.take i)).length : Int) + (s.l.length : Int)) = ((kI (S.take (i + 1))).length : Int) by omega)) (.cons rfl .nil), a_g, fun _ h => h⟩
 refine A_2 ?_
 obtain rfl : S.length = i := by omega
 rw [di]
 refine A_2 ?_
 refine RX (dE K_ rfl (wQ_ (aOe _ o_m))) rfl ?_
 rintro v24 _ ⟨G24, hV24, rfl⟩
 refine uA (v := v24) rfl rfl rfl ?_
 refine A_5 ?_
 refine RY l_n rfl (A_3 ?_)
 refine bG (σ := Nat × AH × aB) [6, 8, 27, 28, 29, 30, 31, 32, 33, 34] (fun s => [(6, s.2.1), (27, .int .i64 s.1)]) (fun s => s.2.2 ++ []) (fun s => s.1 ≤ S.length ∧ Vec 5 1 s.2.1 (kI (S.take s.1)).length ((kI (S.take s.1)).map (.int .u8)) s.2.2) (fun s => S.length - s.1) (0, v24, G24) ?_ ?_ ?_ ?_
 ·exact ⟨aj _, hV24⟩
 ·exact .cons rfl (.cons rfl .nil)
 ·exact fun _ h => h
 rintro ⟨i, v6, G6⟩ y11 ⟨hi, hV6⟩
 dsimp only at hi hV6 ⊢
 obtain ⟨a6, c6, rfl⟩ := hV6.slice
 have hle6 := hV6.cap_le.1
 refine A_5 ?_
 refine KC (fun h2 h2n => ?_) (fun h2 h2n => ?_)
 ·refine A_4 ?_
  obtain ⟨s, hsi⟩ : ∃ s, S[i]? = some s := ⟨_, tE o_m⟩
  obtain ⟨hsN, hsc⟩ := hs s (ay hsi)
  have hc1 := aC5 S i hsi
  have hc2 := aCa S (i + 1)
  have hc3 := cA_ List.length hc1
  rw [La_] at hc3
  rcases (show s.l.length = 0 ∨ 0 < s.l.length by omega) with hs0 | hs1
  ·refine A_1 ?_
   refine RY (aV i rfl rfl rfl rfl o_m) rfl (RZ (aH rfl rfl (fun w hw => y_d3)) rfl (A_5 ?_))
   refine RZ (aDu rfl rfl hs0 rfl rfl hle6) rfl (A_3 ?_)
   refine RW (v := (.int .i64 ((i + 1 : Nat) : Int))) rfl rfl (cA_ _ (bB o_m)) (A_2 ?_)
   exact ⟨(i + 1, _, G6), ⟨y_B, by rw [hc1, ci hs0, bq]; exact hV6⟩, y_B, .cons rfl (.cons rfl .nil), a_g, fun _ h => h⟩
  refine A_1 ?_
  refine RY (aV i rfl rfl rfl rfl o_m) rfl (RZ (aH rfl rfl (fun w hw => y_d3)) rfl (A_5 ?_))
  obtain ⟨bs9, os9, has9, hrs⟩ := hsN hs1
  rw [has9]
  refine RX (iS (A := []) (G := G6 ++ []) (n := (kI (S.take i)).length) (m := s.l.length) (T := 5) (s := 1) (by_ := 1) (ys := s.l.map (.int .u8)) rfl rfl rfl rfl (by rw [bq]; exact hV6) (fun w hw => .row _ _ _ _ _ y_v (aR hrs y_v w hw)) (jF _ _) o_m o_m) rfl ?_
  rintro v33 _ ⟨G33, hV33, _, rfl⟩
  obtain ⟨a33, c33, rfl⟩ := hV33.slice
  refine A_3 ?_
  refine RW (v := (.int .i64 ((i + 1 : Nat) : Int))) rfl rfl (cA_ _ (bB o_m)) (A_2 ?_)
  exact ⟨(i + 1, _, G33), ⟨y_B, hV33.as hc3.symm (by rw [hc1, aw])⟩, y_B, .cons rfl (.cons rfl .nil), a_g, fun _ h => h⟩
 refine A_2 ?_
 obtain rfl : S.length = i := by omega
 refine A_5 ?_
 exact EV rfl (cq _ _) (by have h9 := hV6; simp only [di] at h9 ⊢; exact h9)
def aPo (is : Bool) (w : AI) : aC prog 78 [.bool is] w [] (V_ (.int .u8 (dV is))) := by
 refine dR_ func78 ?_
 refine A_9 ?_
 refine KC (fun q0 z0 => ?_) (fun q0 z0 => ?_)
 ·refine ZBx ?_
  exact E0 rfl ⟨rfl, by subst q0; rfl⟩
 refine ZB2 ?_
 exact E0 rfl ⟨rfl, by subst q0; rfl⟩
def aQ0 (b : Nat) (u : PU) (hu : u.Wf) (w : AI) (hr : Row w b 0 (cU u)) : aC prog 45 [P_ b] w [] (fun v H => Vec 5 1 v (fU u).length ((fU u).map (.int .u8)) H) := by
 have hdb := hu.dot
 have hlb := hu.line
 have hob := hu.own
 have hfb := hu.frames
 refine dR_ func45 ?_
 refine A_17 ?_
 refine RZ (aL rfl rfl (by rw [Lm_, hu.lR]; rfl) (aR (aSR hu hr) y_v)) rfl (ZAt fun b0 => ?_)
 refine RZ (aD (l' := u.R.map (.int .u8)) 0 rfl rfl rfl (by rw [Lm_, hu.lR]; rfl) (jF _ _) rfl (by rw [Lm_, hu.lR]; simp) (xN (by rw [Lm_, hu.lR]; rfl))) rfl (ZB2 ?_)
 refine RZ (aH rfl rfl (bF (mL hr (cU_line hu)) y_v)) rfl (RW (dM rfl rfl rfl) rfl y_p (RY y_dI rfl (RZ (aD (l' := (r4 u).map (.int .u8)) 0 rfl rfl rfl rfl rfl rfl (by rw [Lm_, hu.lR]; simp) (jE .u8 (by rw [hu.lR]; decide) _)) rfl ?_)))
 refine ZAn ?_
 have hl83 := aDk hu b b0
 refine DR [] (pln [0, 2, 4, 6, 8, 10, 12, 14, 16, 18, 21, 23, 24]) ?_
 refine ZBW ?_
 refine ZB1 ?_
 refine DW (v := (.slice (Q_ b0) ((r4 u).take 6).length 12)) rfl (fO 0 6 rfl rfl rfl rfl rfl rfl y_b y_b) rfl (by rw [Lt_, r4_len hu]; rfl) (DW (v := (.slice (some ⟨b0, 7, none⟩) ((r4 u).drop 7).length 5)) rfl (fO 7 12 rfl rfl rfl rfl rfl rfl y_b y_b) rfl (by rw [Ld_, r4_len hu]; rfl) (DX rfl (bX rfl rfl rfl rfl rfl rfl) rfl n_h ?_))
 rintro _ _ ⟨b1, rfl, rfl⟩
 refine DX rfl (dE K_ (vs := [.slice (Q_ b1) 4 4]) rfl (fun w hw => aIS b1 (uE u b b0) w (aA m_m w hw) (by simp [uE]) (aMD hu (aR hr y_v w hw) (aA m_m w hw)) o_m)) rfl n_h ?_
 rintro v0 _ ⟨G0, hV0, rfl⟩
 obtain ⟨a29, c0, rfl⟩ := hV0.slice
 refine ZBB ?_
 refine DR [6, 7, 8, 9, 10, 11, 12, 13, 14, 15, 16, 17, 18, 19, 20, 21, 22, 23, 24, 25, 26] (pln [0, 2, 4, 6, 8, 10, 12, 14, 16, 18, 20, 22, 24, 26, 28, 30, 32, 34, 36, 38, 40, 42, 44, 46, 48, 50, 53, 55, 57, 58]) ?_
 refine ZB6 ?_
 refine DL rfl rfl rfl (fG (mL hr (cU_dot hu)) y_v) rfl (ZBN ?_)
 refine ZBB ?_
 refine DL rfl rfl rfl (fG (mL hr (aBV hu)) y_v) rfl (ZBN ?_)
 refine ZBB ?_
 refine DL rfl rfl rfl (fG (mL hr (yG hu)) y_v) rfl (ZBN ?_)
 refine ZBB ?_
 refine DL rfl rfl rfl (fG (mL hr (yG hu)) y_v) rfl (ZC4 ?_)
 refine ZBB ?_
 refine DL rfl rfl rfl (fG (mL hr (cU_sig hu)) y_v) rfl (DZ rfl (aZ K_ rfl (wQ_ (aPo u.sig))) rfl y_c (DX rfl (bX rfl rfl rfl rfl rfl rfl) rfl n_h ?_))
 rintro _ _ ⟨b2, rfl, rfl⟩
 refine gL (H' := [(b2, _)] ++ G0) (fun _ h => St.fl [[_], G0, [_], [_]] [0, 1] rfl h) ?_
 refine DX rfl (iS (A := [(b2, blk ((mD u).map (.int .u8)) 5)]) (G := G0) (n := (kI (uE u b b0)).length) (m := 5) (T := 5) (s := 1) (by_ := 1) (ys := (mD u).map (.int .u8)) rfl rfl rfl rfl hV0 (fun w hw => .row _ _ _ _ _ rfl (aA (.head _) w hw)) (jF _ _) o_m o_m) rfl n_h ?_
 rintro v1 _ ⟨G1, hV1, _, rfl⟩
 refine aRO (v := v1) rfl rfl rfl rfl ?_
 refine ZBB ?_
 have hV5 : Vec 5 1 v1 (nZ u).length ((nZ u).map (.int .u8)) G1 := hV1.as (by rw [zH hu, aDk hu]) (by rw [aDl]; simp [nZ])
 refine ZB6 ?_
 refine bG (σ := Nat × AH × aB) [4, 5, 59, 60, 61, 62, 63, 64, 65, 66, 67, 68, 69, 70] (fun s => [(4, s.2.1), (59, .int .i64 s.1)]) (fun s => s.2.2 ++ []) (fun s => s.1 ≤ 144 ∧ Vec 5 1 s.2.1 (nZ u ++ u.P.take (s.1 * 160)).length ((nZ u ++ u.P.take (s.1 * 160)).map (.int .u8)) s.2.2) (fun s => 144 - s.1) (0, v1, G1) ?_ ?_ ?_ ?_
 ·exact ⟨aj _, by simpa using hV5⟩
 ·exact .cons rfl (.cons rfl .nil)
 ·exact fun _ h => h.sub (sR_.append (List.nil_sublist _))
 rintro ⟨i, v2, G2⟩ y8 ⟨hi, hV2⟩
 dsimp only at hi hV2 ⊢
 obtain ⟨a4, cx1, rfl⟩ := hV2.slice
 have hl4 : (nZ u ++ u.P.take (i * 160)).length ≤ 31408 := by rw [La_, zH hu, Lt_, hu.lP]; omega
 refine ZBx ?_
 refine KC (fun q0 z0 => ?_) (fun q0 z0 => ?_)
 ·refine A_8 ?_
  have hi144 : i < 144 := by omega
  refine ZB2 ?_
  refine RY (bT (s := 160) i rfl rfl rfl rfl o_m) rfl (RW (v := (.slice (some ⟨b, 8369 + i * 160, none⟩) 160 160)) (fO 0 160 rfl rfl rfl rfl rfl rfl y_b y_b) rfl rfl (RX (iS (A := []) (G := G2 ++ []) (n := (nZ u ++ u.P.take (i * 160)).length) (m := 160) (T := 5) (s := 1) (by_ := 1) (ys := ((u.P.drop (i * 160)).take 160).map (.int .u8)) rfl rfl rfl rfl (by rw [bq]; exact hV2) (fun w hw => .row _ _ _ _ _ (by rw [Lm_, Lt_, Ld_, hu.lP]; omega) (aR (aSa hu hr o_m) y_v w hw)) (jF _ _) o_m o_m) rfl ?_))
  rintro v3 _ ⟨G3, hV3, _, rfl⟩
  refine uA (v := v3) rfl rfl rfl ?_
  refine ZAn ?_
  refine ZAD ?_
  exact ⟨(i + 1, _, G3), ⟨y_B, hV3.as (by rw [← aDz u.P i]; simp only [La_, Lt_, Ld_, hu.lP]; omega) (by rw [← aDz u.P i]; simp)⟩, y_B, .cons rfl (.cons rfl .nil), a_g, fun _ h => h⟩
 refine ZAn ?_
 obtain rfl : i = 144 := by omega
 refine ZBx ?_
 exact EV rfl (cq _ _) (hV2.as y_cO y_cO)
def aEc (w : AI) : aC prog 66 [] w [] (fun v H => ∃ b, v = .map (some b) ∧ H = [(b, dG .u8 sortE 19)]) := by
 refine dR_ func66 ?_
 refine ZB2 ?_
 refine RX (aCW .u8) rfl (ZBz fun b0 => ?_)
 refine RS ?_
 refine RZ (eE (l := gF (fZ.take 0) 0) (k := .u8) 0 rfl rfl rfl rfl rfl rfl) rfl (ZAo ?_)
 refine RZ (eE (l := gF (fZ.take 1) 0) (k := .u8) 0 rfl rfl rfl rfl rfl rfl) rfl (ZAo ?_)
 refine RZ (eE (l := gF (fZ.take 2) 0) (k := .u8) 0 rfl rfl rfl rfl rfl rfl) rfl (ZAo ?_)
 refine RZ (eE (l := gF (fZ.take 3) 0) (k := .u8) 0 rfl rfl rfl rfl rfl rfl) rfl (ZAo ?_)
 refine RZ (eE (l := gF (fZ.take 4) 0) (k := .u8) 0 rfl rfl rfl rfl rfl rfl) rfl (ZAo ?_)
 refine RZ (eE (l := gF (fZ.take 5) 0) (k := .u8) 0 rfl rfl rfl rfl rfl rfl) rfl (ZAo ?_)
 refine RZ (eE (l := gF (fZ.take 6) 0) (k := .u8) 0 rfl rfl rfl rfl rfl rfl) rfl (ZAo ?_)
 refine RZ (eE (l := gF (fZ.take 7) 0) (k := .u8) 0 rfl rfl rfl rfl rfl rfl) rfl (ZAo ?_)
 refine RZ (eE (l := gF (fZ.take 8) 0) (k := .u8) 0 rfl rfl rfl rfl rfl rfl) rfl (ZAo ?_)
 refine RZ (eE (l := gF (fZ.take 9) 0) (k := .u8) 0 rfl rfl rfl rfl rfl rfl) rfl (ZAo ?_)
 refine RZ (eE (l := gF (fZ.take 10) 0) (k := .u8) 0 rfl rfl rfl rfl rfl rfl) rfl (ZAo ?_)
 refine RZ (eE (l := gF (fZ.take 11) 0) (k := .u8) 0 rfl rfl rfl rfl rfl rfl) rfl (ZAo ?_)
 refine RZ (eE (l := gF (fZ.take 12) 0) (k := .u8) 0 rfl rfl rfl rfl rfl rfl) rfl (ZAo ?_)
 refine RZ (eE (l := gF (fZ.take 13) 0) (k := .u8) 0 rfl rfl rfl rfl rfl rfl) rfl (ZAo ?_)
 refine RZ (eE (l := gF (fZ.take 14) 0) (k := .u8) 0 rfl rfl rfl rfl rfl rfl) rfl (ZAo ?_)
 refine RZ (eE (l := gF (fZ.take 15) 0) (k := .u8) 0 rfl rfl rfl rfl rfl rfl) rfl (ZAo ?_)
 refine RZ (eE (l := gF (fZ.take 16) 0) (k := .u8) 0 rfl rfl rfl rfl rfl rfl) rfl (ZAo ?_)
 refine RZ (eE (l := gF (fZ.take 17) 0) (k := .u8) 0 rfl rfl rfl rfl rfl rfl) rfl (ZAo ?_)
 refine RZ (eE (l := gF (fZ.take 18) 0) (k := .u8) 0 rfl rfl rfl rfl rfl rfl) rfl ?_
 simp only [ap]
 refine ZB6 ?_
 exact EV rfl sR_ ⟨b0, rfl, rfl⟩
def aMX (a : AC) (c : Nat) (l : AB) (hl : l.length ≤ 100000000) (hb : aY l) (w : AI) (hB : Ns w .u8 a l) (hlc : 333 ≤ c) : aC prog 67 [.slice a l.length c] w [] (V_ (.int .u8 (if l.length < 336 then 0 else chkH l 25))) := by
 refine dR_ func67 ?_
 refine A_8 ?_
 refine ZEd ?_
 refine KC (fun q0 z0 => ?_) (fun q0 z0 => ?_)
 ·refine ZBx ?_
  exact E0 rfl ⟨rfl, y_dw⟩
 refine ZAn ?_
 obtain ⟨ba, oa, rfl, hra⟩ := hB.row (i := 0) o_m
 refine ZDR ?_
 have hlc9 := hlc
 have hcut : cut1 oa 308 c = oa + 308 := sA o_m
 refine RW (v := (.slice (some ⟨ba, cut1 oa 308 c, none⟩) 25 (c - 308))) (gE 308 333 rfl rfl rfl rfl rfl rfl y_b hlc) rfl rfl (ZCJ ?_)
 refine bG (σ := Nat) [3, 5, 12, 13, 14, 15, 16, 17, 18, 19, 20] (fun i => [(3, .int .u8 (chkH l i)), (12, .int .i64 i)]) (fun _ => []) (fun i => i ≤ 25) (fun i => 25 - i) 0 ?_ ?_ ?_ ?_
 ·exact aj _
 ·exact .cons rfl (.cons rfl .nil)
 ·exact fun _ h => h
 rintro i y5 hi
 refine ZBx ?_
 refine KC (fun q1 z1 => ?_) (fun q1 z1 => ?_)
 ·refine ZB6 ?_
  have hby := hb.get (308 + i)
  have hck := zW l i
  refine ZBR ?_
  refine RY (aV i rfl rfl rfl rfl (by show i < 333 - 308; omega)) rfl (RZ (aH rfl rfl (bF (by have h9 := hra (308 + i) _ (dL (j := 308 + i) o_m); rwa [← dg, ← hcut] at h9) y_v)) rfl (ZBx ?_))
  refine RW (v := (.int .u8 ((l.getD (308 + i) 0 + 1) % 256))) (jI rfl rfl) rfl (aBt _) (RW (v := (.int .u8 (chkH l (i + 1)))) (iB rfl rfl) rfl ((aBt _).trans (cA_ _ y_c8)) (ZBB ?_))
  exact ZCN
 refine ZDR ?_
 obtain rfl : i = 25 := by omega
 exact E0 rfl ⟨rfl, y_dx⟩
def sum_fn (a : AC) (c : Nat) (l : AB) (hl : l.length ≤ 100000000) (hb : aY l) (w : AI) (hB : Ns w .u8 a l) : aC prog 69 [.slice a l.length c] w [] (V_ (.int .u16 (if l.length < 336 then 0 else aG9 l))) := by
 refine dR_ func69 ?_
 refine A_8 ?_
 refine ZEd ?_
 refine KC (fun q0 z0 => ?_) (fun q0 z0 => ?_)
 ·refine ZBx ?_
  exact E0 rfl ⟨rfl, y_dw⟩
 refine ZAn ?_
 obtain ⟨ba, oa, rfl, hra⟩ := hB.row (i := 0) o_m
 refine ZDR ?_
 refine ZCJ ?_
 refine bG (σ := Nat) [3, 5, 11, 12, 13, 14, 15, 16, 17, 18, 19] (fun i => [(3, .int .u16 (yU l i)), (11, .int .i64 i)]) (fun _ => []) (fun i => i ≤ l.length) (fun i => l.length - i) 0 ?_ ?_ ?_ ?_
 ·exact aj _
 ·exact .cons rfl (.cons rfl .nil)
 ·exact fun _ h => h
 rintro i y5 hi
 refine ZBx ?_
 refine KC (fun q1 z1 => ?_) (fun q1 z1 => ?_)
 ·refine ZB6 ?_
  have hby := hb.get i
  have hck := aGK l i
  refine ZBR ?_
  refine ZBY ?_
  refine RZ (aH rfl rfl (bF (hra _ _ (dL (j := i) o_m)) y_v)) rfl (ZBx ?_)
  refine RW (v := (.int .u16 (l.getD i 0))) (dM rfl rfl rfl) rfl (zC hby.1 o_m) (RW (v := (.int .u16 (yU l (i + 1)))) (jI rfl rfl) rfl ((vV _).trans (cA_ _ rfl)) (ZBB ?_))
  exact ZCN
 refine ZAn ?_
 obtain rfl : i = l.length := by omega
 have hb4 := hb.get 334
 have hb5 := hb.get 335
 have hck := aGK l l.length
 refine DR [6, 7, 8, 9] (pln [0, 2, 4, 6, 8, 10, 12, 14, 16, 18, 20, 22]) ?_
 refine ZAn ?_
 refine DY rfl (aV 334 rfl rfl rfl rfl o_m) rfl (ZBm ?_)
 refine DW (v := (.int .u16 ((yU l l.length - l.getD 334 0) % 65536))) rfl (iB rfl rfl) rfl (vV _) (ZBR ?_)
 refine DY rfl (aV 335 rfl rfl rfl rfl o_m) rfl (ZBn ?_)
 refine DW (v := (.int .u16 (aG9 l))) rfl (iB rfl rfl) rfl ((vV _).trans (cA_ _ (by unfold aG9; omega))) (ZBB ?_)
 exact E0 rfl ⟨rfl, y_dx⟩
def take_snoc {l : AB} {i : Nat} (h : i < l.length) : l.take (i + 1) = l.take i ++ [l.getD i 0] := by
 rw [fk, am h, Gd_, am h]; rfl
def txV_app (a b : List UInt8) : txV a ++ txV b = txV (a ++ b) := by simp [txV]
def name_fn (b off c : Nat) (l : AB) (hl : l.length ≤ 1000000) (hb : aY l) (w : AI) (hr : Row w b off (l.map (.int .u8))) : aC prog 68 [.slice (some ⟨b, off, none⟩) l.length c] w [] (V_ (.string (bs (nameH l)))) := by
 refine dR_ func68 ?_
 refine ZB2 ?_
 refine ZAt fun b0 => ?_
 refine ZBx ?_
 refine ZCJ ?_
 refine bG (σ := Nat × AH × aB × AH) [5, 8, 9, 10, 11, 12, 13, 14, 15, 16, 17, 18, 19, 20, 21, 22] (fun s => [(8, .int .i64 s.1)]) (fun s => (b0, blk [s.2.2.2, s.2.1] 243) :: s.2.2.1) (fun s => s.1 ≤ l.length ∧ (∀ j, j < s.1 → l.getD j 0 ≠ 0) ∧ (s.2.2.2 = .pointer none ∨ s.2.2.2 = (P_ b0)) ∧ Vec 5 1 s.2.1 s.1 (txV ((l.take s.1).map chrH)) s.2.2.1 ∧ (s.1 = 0 → s.2.1 = .slice none 0 0 ∧ s.2.2.1 = [])) (fun s => l.length - s.1) (0, .slice none 0 0, [], .pointer none) ?_ ?_ ?_ ?_
 ·exact ⟨aj _, fun j hj => y_B, .inl rfl, .nil, fun _ => ⟨rfl, rfl⟩⟩
 ·exact .cons rfl .nil
 ·exact fun _ h => h
 rintro ⟨i, v0, G0, ad6⟩ y3 ⟨hi, hj, hA6, hV0, q0⟩
 dsimp only at hi hj hA6 hV0 q0 ⊢
 refine ZBx ?_
 refine KC (fun q1 z1 => ?_) (fun q1 z1 => ?_)
 ·refine ZB6 ?_
  have hc9 := hb.get i
  refine ZBR ?_
  refine ZBY ?_
  refine RZ (aH rfl rfl (bF (hr _ _ (dL (j := i) o_m)) y_v)) rfl (A_8 ?_)
  refine KC (fun q2 z2 => ?_) (fun q2 z2 => ?_)
  ·refine ZAn ?_
   have hTi : ((l.take i).map chrH).length = i := by rw [Lm_, Lt_]; omega
   refine ZBR ?_
   refine ZBw ?_
   refine ZBB ?_
   exact E0 rfl ⟨rfl, (by rw [aHb hj o_m z2])⟩
  refine ZB2 ?_
  refine KL (fun q3 z3 => ?_) (fun q3 z3 => ?_)
  ·refine A_10 ?_
   refine ZBv ?_
   refine ZDm fun va0 G1 hV1 => ?_
   refine ZAn ?_
   exact ZCo
  refine ZB6 ?_
  refine KC (fun q4 z4 => ?_) (fun q4 z4 => ?_)
  ·refine ZBx ?_
   refine ZBv ?_
   refine ZDm fun va0 G1 hV1 => ?_
   refine ZAn ?_
   exact ZCo
  refine ZBB ?_
  refine RX (aS (F := []) (A := (b0, blk [ad6, v0] 243) :: G0) (R := fun v H => v = .nilIface ∧ ∃ va' G', Vec 5 1 va' (i + 1) (txV ((l.take i).map chrH) ++ [.int .u8 (l.getD i 0)]) G' ∧ H = (b0, blk [(P_ b0), va'] 243) :: G') K_ rfl (fun w hw => bwrite_fn b0 ad6 v0 hA6 i o_m _ G0 hV0 (l.getD i 0) _ w (St.lentV (G := []) hw))) rfl (ZDm fun va0 G1 hV1 => ?_)
  refine ZAn ?_
  refine ZAD ?_
  exact ⟨(i + 1, va0, G1, (P_ b0)), ⟨y_B, fun j hj' => y_d1, .inr rfl, hV1.as (by rfl) (by rw [take_snoc o_m, aw, ← txV_app]; exact cA_ (fun z : Int => txV ((l.take i).map chrH) ++ [Value.int .u8 z]) ((aL0 hc9 o_m).symm)), fun h => absurd h (Nat.succ_ne_zero _)⟩, y_B, .cons rfl .nil, a_g, fun _ h => h⟩
 refine ZAn ?_
 have hTi : ((l.take i).map chrH).length = i := by rw [Lm_, Lt_]; omega
 refine ZBR ?_
 refine ZBw ?_
 refine ZBB ?_
 exact E0 rfl ⟨rfl, (by obtain rfl : i = l.length := o_m; rw [aKE hj, di])⟩
def qcheck_fn (a : AC) (c : Nat) (l : AB) (hl : l.length ≤ 100000000) (hb : aY l) (w : AI) (hB : Ns w .u8 a l) : aC prog 23 [.slice a l.length c] w [] (V_ (.int .u8 (if l.length < 336 then 0 else chkH l 25))) := by
 refine dR_ func23 ?_
 refine A_8 ?_
 refine ZEd ?_
 refine KC (fun q0 z0 => ?_) (fun q0 z0 => ?_)
 ·refine ZBx ?_
  exact E0 rfl ⟨rfl, y_dw⟩
 refine ZAn ?_
 obtain ⟨ba, oa, rfl, hra⟩ := hB.row (i := 0) o_m
 refine A_9 ?_
 refine bG (σ := Nat) [3, 4, 8, 9, 10, 11, 12, 13, 14, 15, 16, 17, 18, 19, 20, 21] (fun i => [(3, .int .i64 (chkH l i)), (4, .int .i64 ((308 + i : Nat) : Int))]) (fun _ => []) (fun i => i ≤ 25) (fun i => 25 - i) 0 ?_ ?_ ?_ ?_
 ·exact aj _
 ·exact .cons rfl (.cons rfl .nil)
 ·exact fun _ h => h
 rintro i y5 hi
 have hck9 := zW l i
 refine ZB2 ?_
 refine KC (fun q1 z1 => ?_) (fun q1 z1 => ?_)
 ·refine ZBB ?_
  have hby := hb.get (308 + i)
  have hck := zW l i
  refine ZB6 ?_
  refine RY (aV (308 + i) rfl rfl rfl rfl o_m) rfl (RZ (aH rfl rfl (bF (hra _ _ (dL (j := 308 + i) o_m)) y_v)) rfl (RW (v := (.int .i64 (l.getD (308 + i) 0))) rfl rfl (lL o_m o_m) (RW (v := (.int .i64 (chkH l i - l.getD (308 + i) 0))) rfl rfl (lL o_m o_m) ?_)))
  refine RW (v := (.int .i64 (chkH l i - l.getD (308 + i) 0 - 1))) rfl rfl (lL o_m o_m) (RW (v := (.int .i64 (chkH l i - l.getD (308 + i) 0 - 1 + 512))) rfl rfl (lL o_m o_m) (RW (v := (.int .i64 (chkH l (i + 1)))) (kE rfl rfl y_b) rfl (cA_ _ ((Int.tmod_eq_emod_of_nonneg o_m).trans y_c8)) (ZB6 ?_)))
  refine RW (v := (.int .i64 ((308 + (i + 1) : Nat) : Int))) rfl rfl (cA_ _ ((aI o_m o_m).trans o_m)) (ZAn ?_)
  exact ⟨i + 1, y_B, y_B, .cons rfl (.cons rfl .nil), a_g, fun _ h => h⟩
 refine ZB6 ?_
 refine RW (v := (.int .u8 (chkH l i))) rfl rfl (aDJ o_m o_m) (ZBB ?_)
 obtain rfl : i = 25 := by omega
 exact E0 rfl ⟨rfl, y_dx⟩
def aGr (kind b ram : Int) (hk : 0 ≤ kind ∧ kind < 256) (hb9 : 0 ≤ b ∧ b < 256) (hr9 : 0 ≤ ram ∧ ram < 256) (a : AC) (c : Nat) (prog : AB) (hl : prog.length ≤ 100000000) (hb : aY prog) (w : AI) (hB : Ns w .u8 a prog) : aC Tryz.prog 8 [.int .u8 kind, .int .u8 b, .int .u8 ram, .slice a prog.length c] w [] (fun v H => ∃ b11, v = .slice (Q_ b11) (romS b) (romS b) ∧ H = [(b11, blk ((madeI kind b ram prog).map U_) 5)]) := by
 have hrs := aPV b
 have hlZ := yN kind b ram prog
 have hbZ := aBk (b := b) hk hr9 hb
 refine dR_ func8 ?_
 refine A_14 ?_
 refine bG (σ := Nat) [9, 10, 14, 15, 16, 17, 18, 19, 20, 21, 22] (fun i => [(9, .int .i64 ((32768 * 2 ^ i : Nat) : Int)), (10, .int .i64 i)]) (fun _ => []) (fun i => i ≤ (b % 9).toNat) (fun i => (b % 9).toNat - i) 0 ?_ ?_ ?_ ?_
 ·exact aj _
 ·exact .cons rfl (.cons rfl .nil)
 ·exact fun _ h => h
 rintro i y3 hi
 have hpw : 2 ^ i ≤ 2 ^ 8 := ez y_b o_m
 refine ZBx ?_
 refine RW (v := (.int .i64 b)) rfl rfl (lL o_m o_m) (RW (v := (.int .i64 (b % 9))) (kE rfl rfl y_b) rfl (cA_ _ ((Int.tmod_eq_emod_of_nonneg o_m).trans o_m)) (ZAn ?_))
 refine KC (fun q0 z0 => ?_) (fun q0 z0 => ?_)
 ·refine ZBx ?_
  refine RW (v := (.int .i64 ((32768 * 2 ^ (i + 1) : Nat) : Int))) rfl rfl (cA_ _ ((aI o_m o_m).trans (by rw [Nat.pow_succ]; omega))) (ZB6 ?_)
  exact ZCN
 refine ZAn ?_
 obtain rfl : i = (b % 9).toNat := by omega
 refine ZAn ?_
 refine RX (aGF (n := romS b) (z := .int .u8 0) rfl rfl o_m rfl rfl rfl rfl) rfl ?_
 rintro _ _ ⟨b11, rfl, rfl⟩
 refine A_8 ?_
 refine bG (σ := Nat) [12, 13, 25, 26, 27, 28, 29, 30, 31, 32, 33, 34, 35, 36, 37, 38, 39, 40, 41, 42, 43, 44, 45, 46, 47] (fun i => [(12, .int .i64 i)]) (fun i => [(b11, blk (((madeP (List.replicate (romS b) 0) prog i)).map U_) 5)]) (fun i => i ≤ min prog.length 15000) (fun i => min prog.length 15000 - i) 0 ?_ ?_ ?_ ?_
 ·exact aj _
 ·exact .cons rfl .nil
 ·exact fun _ h => h.as (by simp only [madeP, ie])
 rintro i y8 hi
 refine ZBx ?_
 refine RY l_n rfl (ZBR ?_)
 refine KL (fun q1 z1 => ?_) (fun q1 z1 => ?_)
 ·refine ZB6 ?_
  refine KC (fun q2 z2 => ?_) (fun q2 z2 => ?_)
  ·refine ZB6 ?_
   obtain ⟨ba, oa, rfl, hra⟩ := hB.row (i := i) o_m
   refine ZAn ?_
   refine RW (v := (.int .i64 ((256 + i : Nat) : Int))) rfl rfl (lL o_m o_m) (A_8 ?_)
   refine KC (fun q3 z3 => ?_) (fun q3 z3 => ?_)
   ·refine ZAn ?_
    refine RW (v := (.int .i64 ((256 + i + 76 : Nat) : Int))) rfl rfl (lL o_m o_m) (ZDR ?_)
    refine ZEB ?_
    refine RY (aV (n := romS b) (256 + i + 76) rfl rfl rfl rfl o_m) rfl (ZCC ?_)
    refine ZBB ?_
    exact ZDe
   refine ZB2 ?_
   refine ZEB ?_
   refine RY (aV (n := romS b) (256 + i) rfl rfl rfl rfl o_m) rfl (ZCC ?_)
   refine ZBB ?_
   exact ZDe
  refine ZAn ?_
  obtain rfl : i = min prog.length 15000 := by omega
  refine ZB2 ?_
  refine RW (v := (.int .u8 (b % 9))) (kE rfl rfl y_b) rfl (cA_ _ (Int.tmod_eq_emod_of_nonneg o_m)) (ZBR ?_)
  refine ZBS ?_
  refine ZAB ?_
  refine ZBK ?_
  refine ZAB ?_
  refine ZBC ?_
  refine ZCR ?_
  refine eP (L' := [(b11, blk ((madeZ kind b ram prog).map U_) 5)]) (fun _ h => h) ?_
  refine ZBB ?_
  refine RLv K_ (fun w hw => y_bX) ?_
  refine ZCk ?_
  refine ZAB ?_
  refine ZDR ?_
  exact EV rfl sR_ ⟨b11, rfl, rfl⟩
 refine ZDR ?_
 obtain rfl : i = min prog.length 15000 := by omega
 refine ZB2 ?_
 refine RW (v := (.int .u8 (b % 9))) (kE rfl rfl y_b) rfl (cA_ _ (Int.tmod_eq_emod_of_nonneg o_m)) (ZBR ?_)
 refine ZBS ?_
 refine ZAB ?_
 refine ZBK ?_
 refine ZAB ?_
 refine ZBC ?_
 refine ZCR ?_
 refine eP (L' := [(b11, blk ((madeZ kind b ram prog).map U_) 5)]) (fun _ h => h) ?_
 refine ZBB ?_
 refine RLv K_ (fun w hw => y_bX) ?_
 refine ZCk ?_
 refine ZAB ?_
 refine ZDR ?_
 exact EV rfl sR_ ⟨b11, rfl, rfl⟩
def sig_fn (t : Tm) (h : t.Ok) (w : AI) : aC prog 193 [.agg (cTm t).toArray] w [] (V_ (.bool (wR t))) := by
 obtain ⟨cnt, tima, tma, tac, over⟩ := t
 obtain ⟨k1, k2, k3, k4⟩ := h
 dsimp only at k1 k2 k3 k4
 refine dR_ func193 ?_
 refine ZAn ?_
 refine ZAe fun b0 => ?_
 refine ZB6 ?_
 refine RY (jW (l := [.int .i64 9, .int .i64 3, .int .i64 5, .int .i64 7]) rfl rfl rfl y_i) rfl (ZAR fun b1 => ?_)
 refine ZAI ?_
 rcases (show tac % 4 = 0 ∨ tac % 4 = 1 ∨ tac % 4 = 2 ∨ tac % 4 = 3 by omega) with hq | hq | hq | hq
 ·refine ZEf ?_
  refine ZBR ?_
  refine KE (fun q0 z0 => ?_) (fun q0 z0 => ?_)
  ·refine ZB6 ?_
   refine DW (v := (.int .u8 0)) rfl (bA rfl rfl) rfl ((gR 2 4 y_b rfl o_m (show _ < (256 : Int) by omega) (show _ < (256 : Int) by decide)).trans (cA_ _ hq)) (DY rfl (aM 0 rfl rfl rfl rfl y_b) rfl (ZBR ?_))
   refine DW (v := (.int .u16 (cnt / 512))) rfl (dK rfl rfl y_b) rfl (iK 512 y_b y_b) (ZEe ?_)
   exact E0 rfl ⟨rfl, (cA_ Value.bool (aBO (t := ⟨cnt, tima, tma, tac, over⟩) 512 z0 (by rw [aBL (t := ⟨cnt, tima, tma, tac, over⟩) (n := 9) hq y_b]; rfl)))⟩
  exact ZBb
 ·refine ZEf ?_
  refine ZBR ?_
  refine KE (fun q0 z0 => ?_) (fun q0 z0 => ?_)
  ·refine ZB6 ?_
   refine DW (v := (.int .u8 1)) rfl (bA rfl rfl) rfl ((gR 2 4 y_b rfl o_m (show _ < (256 : Int) by omega) (show _ < (256 : Int) by decide)).trans (cA_ _ hq)) (DY rfl (aM 1 rfl rfl rfl rfl y_b) rfl (ZBR ?_))
   refine DW (v := (.int .u16 (cnt / 8))) rfl (dK rfl rfl y_b) rfl (iK 8 y_b y_b) (ZEe ?_)
   exact E0 rfl ⟨rfl, (cA_ Value.bool (aBO (t := ⟨cnt, tima, tma, tac, over⟩) 8 z0 (by rw [aBL (t := ⟨cnt, tima, tma, tac, over⟩) (n := 3) hq y_b]; rfl)))⟩
  exact ZBb
 ·refine ZEf ?_
  refine ZBR ?_
  refine KE (fun q0 z0 => ?_) (fun q0 z0 => ?_)
  ·refine ZB6 ?_
   refine DW (v := (.int .u8 2)) rfl (bA rfl rfl) rfl ((gR 2 4 y_b rfl o_m (show _ < (256 : Int) by omega) (show _ < (256 : Int) by decide)).trans (cA_ _ hq)) (DY rfl (aM 2 rfl rfl rfl rfl y_b) rfl (ZBR ?_))
   refine DW (v := (.int .u16 (cnt / 32))) rfl (dK rfl rfl y_b) rfl (iK 32 y_b y_b) (ZEe ?_)
   exact E0 rfl ⟨rfl, (cA_ Value.bool (aBO (t := ⟨cnt, tima, tma, tac, over⟩) 32 z0 (by rw [aBL (t := ⟨cnt, tima, tma, tac, over⟩) (n := 5) hq y_b]; rfl)))⟩
  exact ZBb
 refine ZEf ?_
 refine ZBR ?_
 refine KE (fun q0 z0 => ?_) (fun q0 z0 => ?_)
 ·refine ZB6 ?_
  refine DW (v := (.int .u8 3)) rfl (bA rfl rfl) rfl ((gR 2 4 y_b rfl o_m (show _ < (256 : Int) by omega) (show _ < (256 : Int) by decide)).trans (cA_ _ hq)) (DY rfl (aM 3 rfl rfl rfl rfl y_b) rfl (ZBR ?_))
  refine DW (v := (.int .u16 (cnt / 128))) rfl (dK rfl rfl y_b) rfl (iK 128 y_b y_b) (ZEe ?_)
  exact E0 rfl ⟨rfl, (cA_ Value.bool (aBO (t := ⟨cnt, tima, tma, tac, over⟩) 128 z0 (by rw [aBL (t := ⟨cnt, tima, tma, tac, over⟩) (n := 7) hq y_b]; rfl)))⟩
 exact ZBb
def aMu (b : Nat) (t : Tm) (h : t.Ok) (w : AI) (hst : St w [b] [(b, blk (cTm t) 111)] w) : aC prog 243 [P_ b] w [b] (fun v H => v = .tuple #[] ∧ H = [(b, blk (cTm (gK t)) 111)]) := by
 obtain ⟨cnt, tima, tma, tac, over⟩ := t
 obtain ⟨k1, k2, k3, k4⟩ := h
 dsimp only at k1 k2 k3 k4
 refine dO_ func243 hst ?_
 refine ZBx ?_
 refine RW (jI rfl rfl) rfl y_r (ZAn ?_)
 refine ZEH ?_
 exact ZDp
def aLP (b : Nat) (t : Tm) (h : t.Ok) (w : AI) (hst : St w [b] [(b, blk (cTm t) 111)] w) : aC prog 195 [P_ b] w [b] (fun v H => v = .tuple #[] ∧ H = [(b, blk (cTm (gG t)) 111)]) := by
 obtain ⟨cnt, tima, tma, tac, over⟩ := t
 obtain ⟨k1, k2, k3, k4⟩ := h
 dsimp only at k1 k2 k3 k4
 refine dO_ func195 hst ?_
 refine ZB6 ?_
 refine ZEH ?_
 exact ZDp
def aOD (b : Nat) (t : Tm) (h : t.Ok) (x : Int) (hx : 0 ≤ x ∧ x < 256) (xb : Nat) (w : AI) (hc : w.cell? ⟨xb, 0, none⟩ = some (.int .u8 x)) (hxb : xb ≠ b) (hst : St w [b] [(b, blk (cTm t) 111)] w) : aC prog 196 [P_ b, P_ xb] w [b] (fun v H => v = .tuple #[] ∧ H = [(b, blk (cTm (iP x t)) 111)]) := by
 obtain ⟨cnt, tima, tma, tac, over⟩ := t
 obtain ⟨k1, k2, k3, k4⟩ := h
 dsimp only at k1 k2 k3 k4
 refine dO_ func196 hst ?_
 refine ZAn ?_
 refine RZ (aH rfl rfl (bF hc (by simp [hxb]))) rfl (RW (bA rfl rfl) rfl y_dF (ZAn ?_))
 refine ZEH ?_
 exact ZDp
def aCM (t : Tm) (h : t.Ok) (w : AI) : aC prog 194 [.agg (cTm t).toArray, .func (.func 243) #[] #[]] w [] (V_ (.agg (cTm (chT (gK) t)).toArray)) := by
 obtain ⟨cnt, tima, tma, tac, over⟩ := t
 obtain ⟨k1, k2, k3, k4⟩ := h
 dsimp only at k1 k2 k3 k4
 refine dR_ func194 ?_
 refine ZAn ?_
 refine ZAe fun b0 => ?_
 refine ZAR fun b1 => ?_
 refine ZBB ?_
 refine ZDY ?_
 refine ZBx ?_
 refine RX (aAM (F := [(b1, _)]) (A := [(b0, blk [.int .u16 cnt, .int .u8 tima, .int .u8 tma, .int .u8 tac, .bool over] 111)]) (B := []) (C := []) (R := fun v H => v = .tuple #[] ∧ H = [(b0, blk (cTm (gK ⟨cnt, tima, tma, tac, over⟩)) 111)]) rfl K_ rfl ?_) rfl ?_
 ·exact fun w hw => aMu b0 ⟨cnt, tima, tma, tac, over⟩ ⟨k1, k2, k3, k4⟩ w (St.lentV hw)
 refine ZC6 ?_
 refine ZBx ?_
 refine KL (fun q0 z0 => ?_) (fun q0 z0 => ?_)
 ·refine ZAP ?_
  refine RLv K_ (wQ_ (sig_fn (gK ⟨cnt, tima, tma, tac, over⟩) (Tm.Ok.step (t := ⟨cnt, tima, tma, tac, over⟩) ⟨k1, k2, k3, k4⟩))) ?_
  refine ZBB ?_
  refine KC (fun q1 z1 => ?_) (fun q1 z1 => ?_)
  ·refine ZB6 ?_
   refine ZBt ?_
   refine ZAy ?_
   refine ZB6 ?_
   refine KL (fun q2 z2 => ?_) (fun q2 z2 => ?_)
   ·refine ZBx ?_
    refine ZAE ?_
    refine ZEL ?_
    have hov : over = true := q2
    subst hov
    have e1 : uV (gK ⟨cnt, tima, tma, tac, true⟩) = chT (gK) ⟨cnt, tima, tma, tac, true⟩ := pU (t := (gK ⟨cnt, tima, tma, tac, true⟩)) q0 y_bi
    exact aF (fun w hw => aU rfl rfl rfl (aA (b := b1) m_m w hw)) ⟨rfl, y_bL⟩
   refine ZBx ?_
   refine ZAE ?_
   refine ZEL ?_
   have hov : over = false := q2
   subst hov
   have e1 : uV (gK ⟨cnt, tima, tma, tac, false⟩) = chT (gK) ⟨cnt, tima, tma, tac, false⟩ := pU (t := (gK ⟨cnt, tima, tma, tac, false⟩)) q0 y_bi
   exact aF (fun w hw => aU rfl rfl rfl (aA (b := b1) m_m w hw)) ⟨rfl, y_bL⟩
  refine ZBB ?_
  refine ZEL ?_
  have e1 : (gK ⟨cnt, tima, tma, tac, over⟩) = chT (gK) ⟨cnt, tima, tma, tac, over⟩ := rW (t := (gK ⟨cnt, tima, tma, tac, over⟩)) (.inr y_bi)
  exact aF (fun w hw => aU rfl rfl rfl (aA (b := b1) m_m w hw)) ⟨rfl, y_bL⟩
 refine A_9 ?_
 refine ZEL ?_
 have e1 : (gK ⟨cnt, tima, tma, tac, over⟩) = chT (gK) ⟨cnt, tima, tma, tac, over⟩ := rW (t := (gK ⟨cnt, tima, tma, tac, over⟩)) (.inl q0)
 exact aF (fun w hw => aU rfl rfl rfl (aA (b := b1) m_m w hw)) ⟨rfl, y_bL⟩
def aJP (t : Tm) (h : t.Ok) (w : AI) : aC prog 194 [.agg (cTm t).toArray, .func (.func 195) #[] #[]] w [] (V_ (.agg (cTm (chT (gG) t)).toArray)) := by
 obtain ⟨cnt, tima, tma, tac, over⟩ := t
 obtain ⟨k1, k2, k3, k4⟩ := h
 dsimp only at k1 k2 k3 k4
 refine dR_ func194 ?_
 refine ZAn ?_
 refine ZAe fun b0 => ?_
 refine ZAR fun b1 => ?_
 refine ZBB ?_
 refine ZDY ?_
 refine ZBx ?_
 refine RX (aAM (F := [(b1, _)]) (A := [(b0, blk [.int .u16 cnt, .int .u8 tima, .int .u8 tma, .int .u8 tac, .bool over] 111)]) (B := []) (C := []) (R := fun v H => v = .tuple #[] ∧ H = [(b0, blk (cTm (gG ⟨cnt, tima, tma, tac, over⟩)) 111)]) rfl K_ rfl ?_) rfl ?_
 ·exact fun w hw => aLP b0 ⟨cnt, tima, tma, tac, over⟩ ⟨k1, k2, k3, k4⟩ w (St.lentV hw)
 refine ZC6 ?_
 refine ZBx ?_
 refine KL (fun q0 z0 => ?_) (fun q0 z0 => ?_)
 ·refine ZAP ?_
  refine RLv K_ (wQ_ (sig_fn (gG ⟨cnt, tima, tma, tac, over⟩) (Tm.Ok.zero (t := ⟨cnt, tima, tma, tac, over⟩) ⟨k1, k2, k3, k4⟩))) ?_
  refine ZBB ?_
  refine KC (fun q1 z1 => ?_) (fun q1 z1 => ?_)
  ·refine ZB6 ?_
   refine ZBt ?_
   refine ZAy ?_
   refine ZB6 ?_
   refine KL (fun q2 z2 => ?_) (fun q2 z2 => ?_)
   ·refine ZBx ?_
    refine ZAE ?_
    refine ZEL ?_
    have hov : over = true := q2
    subst hov
    have e1 : uV (gG ⟨cnt, tima, tma, tac, true⟩) = chT (gG) ⟨cnt, tima, tma, tac, true⟩ := pU (t := (gG ⟨cnt, tima, tma, tac, true⟩)) q0 y_bi
    exact aF (fun w hw => aU rfl rfl rfl (aA (b := b1) m_m w hw)) ⟨rfl, y_bL⟩
   refine ZBx ?_
   refine ZAE ?_
   refine ZEL ?_
   have hov : over = false := q2
   subst hov
   have e1 : uV (gG ⟨cnt, tima, tma, tac, false⟩) = chT (gG) ⟨cnt, tima, tma, tac, false⟩ := pU (t := (gG ⟨cnt, tima, tma, tac, false⟩)) q0 y_bi
   exact aF (fun w hw => aU rfl rfl rfl (aA (b := b1) m_m w hw)) ⟨rfl, y_bL⟩
  refine ZBB ?_
  refine ZEL ?_
  have e1 : (gG ⟨cnt, tima, tma, tac, over⟩) = chT (gG) ⟨cnt, tima, tma, tac, over⟩ := rW (t := (gG ⟨cnt, tima, tma, tac, over⟩)) (.inr y_bi)
  exact aF (fun w hw => aU rfl rfl rfl (aA (b := b1) m_m w hw)) ⟨rfl, y_bL⟩
 refine A_9 ?_
 refine ZEL ?_
 have e1 : (gG ⟨cnt, tima, tma, tac, over⟩) = chT (gG) ⟨cnt, tima, tma, tac, over⟩ := rW (t := (gG ⟨cnt, tima, tma, tac, over⟩)) (.inl q0)
 exact aF (fun w hw => aU rfl rfl rfl (aA (b := b1) m_m w hw)) ⟨rfl, y_bL⟩
def aM2 (t : Tm) (h : t.Ok) (x : Int) (hx : 0 ≤ x ∧ x < 256) (xb : Nat) (w : AI) (hr : Row w xb 0 [.int .u8 x]) : aC prog 194 [.agg (cTm t).toArray, .func (.func 196) #[] #[P_ xb]] w [] (V_ (.agg (cTm (chT (iP x) t)).toArray)) := by
 obtain ⟨cnt, tima, tma, tac, over⟩ := t
 obtain ⟨k1, k2, k3, k4⟩ := h
 dsimp only at k1 k2 k3 k4
 refine dR_ func194 ?_
 refine ZAn ?_
 refine ZAe fun b0 => ?_
 refine ZAR fun b1 => ?_
 refine ZBB ?_
 refine ZDY ?_
 refine ZBx ?_
 refine RX (aAM (F := [(b1, _)]) (A := [(b0, blk [.int .u16 cnt, .int .u8 tima, .int .u8 tma, .int .u8 tac, .bool over] 111)]) (B := []) (C := [P_ xb]) (R := fun v H => v = .tuple #[] ∧ H = [(b0, blk (cTm (iP x ⟨cnt, tima, tma, tac, over⟩)) 111)]) rfl K_ rfl ?_) rfl ?_
 ·exact fun w hw => aOD b0 ⟨cnt, tima, tma, tac, over⟩ ⟨k1, k2, k3, k4⟩ x hx xb w ((aR hr y_v w hw) 0 _ rfl) (hr.apart (Nat.succ_pos _) hw (.head _)) (St.lentV hw)
 refine ZC6 ?_
 refine ZBx ?_
 refine KL (fun q0 z0 => ?_) (fun q0 z0 => ?_)
 ·refine ZAP ?_
  refine RLv K_ (wQ_ (sig_fn (iP x ⟨cnt, tima, tma, tac, over⟩) (Tm.Ok.tac_ (t := ⟨cnt, tima, tma, tac, over⟩) ⟨k1, k2, k3, k4⟩ x))) ?_
  refine ZBB ?_
  refine KC (fun q1 z1 => ?_) (fun q1 z1 => ?_)
  ·refine ZB6 ?_
   refine ZBt ?_
   refine ZAy ?_
   refine ZB6 ?_
   refine KL (fun q2 z2 => ?_) (fun q2 z2 => ?_)
   ·refine ZBx ?_
    refine ZAE ?_
    refine ZEL ?_
    have hov : over = true := q2
    subst hov
    have e1 : uV (iP x ⟨cnt, tima, tma, tac, true⟩) = chT (iP x) ⟨cnt, tima, tma, tac, true⟩ := pU (t := (iP x ⟨cnt, tima, tma, tac, true⟩)) q0 y_bi
    exact aF (fun w hw => aU rfl rfl rfl (aA (b := b1) m_m w hw)) ⟨rfl, y_bL⟩
   refine ZBx ?_
   refine ZAE ?_
   refine ZEL ?_
   have hov : over = false := q2
   subst hov
   have e1 : uV (iP x ⟨cnt, tima, tma, tac, false⟩) = chT (iP x) ⟨cnt, tima, tma, tac, false⟩ := pU (t := (iP x ⟨cnt, tima, tma, tac, false⟩)) q0 y_bi
   exact aF (fun w hw => aU rfl rfl rfl (aA (b := b1) m_m w hw)) ⟨rfl, y_bL⟩
  refine ZBB ?_
  refine ZEL ?_
  have e1 : (iP x ⟨cnt, tima, tma, tac, over⟩) = chT (iP x) ⟨cnt, tima, tma, tac, over⟩ := rW (t := (iP x ⟨cnt, tima, tma, tac, over⟩)) (.inr y_bi)
  exact aF (fun w hw => aU rfl rfl rfl (aA (b := b1) m_m w hw)) ⟨rfl, y_bL⟩
 refine A_9 ?_
 refine ZEL ?_
 have e1 : (iP x ⟨cnt, tima, tma, tac, over⟩) = chT (iP x) ⟨cnt, tima, tma, tac, over⟩ := rW (t := (iP x ⟨cnt, tima, tma, tac, over⟩)) (.inl q0)
 exact aF (fun w hw => aU rfl rfl rfl (aA (b := b1) m_m w hw)) ⟨rfl, y_bL⟩
def aJL (t : Tm) (h : t.Ok) (w : AI) : aC prog 232 [.agg (cTm t).toArray] w [] (V_ (.tuple #[.agg (cTm (lU t)).toArray, .bool t.over])) := by
 obtain ⟨cnt, tima, tma, tac, over⟩ := t
 obtain ⟨k1, k2, k3, k4⟩ := h
 dsimp only at k1 k2 k3 k4
 refine dR_ func232 ?_
 refine ZAn ?_
 refine ZAe fun b0 => ?_
 refine ZAR fun b1 => ?_
 refine A_13 ?_
 refine KC (fun q0 z0 => ?_) (fun q0 z0 => ?_)
 ·refine ZB6 ?_
  refine ZEH ?_
  refine ZAz ?_
  refine ZAP ?_
  refine RLv K_ (wQ_ (aCM ⟨cnt, tma, tma, tac, false⟩ ⟨k1, k3, k3, k4⟩)) ?_
  refine ZAz ?_
  have hov : over = true := q0
  exact ZEK
 refine ZBB ?_
 refine ZAP ?_
 refine RLv K_ (wQ_ (aCM ⟨cnt, tima, tma, tac, over⟩ ⟨k1, k2, k3, k4⟩)) ?_
 refine ZAz ?_
 have hov : over = false := q0
 exact ZEK
def aI4 (t : Tm) (h : t.Ok) (n : Int) (w : AI) : aC prog 191 [.agg (cTm t).toArray, .int .i64 n] w [] (V_ (.int .u8 (readTm n t))) := by
 obtain ⟨cnt, tima, tma, tac, over⟩ := t
 obtain ⟨k1, k2, k3, k4⟩ := h
 dsimp only at k1 k2 k3 k4
 refine dR_ func191 ?_
 refine ZAn ?_
 refine ZAe fun b0 => ?_
 refine A_13 ?_
 refine KC (fun q0 z0 => ?_) (fun q0 z0 => ?_)
 ·refine ZB6 ?_
  refine RW (dK rfl rfl y_b) rfl (iK 256 y_b y_b) (RW (dM rfl rfl rfl) rfl y_p (ZBB ?_))
  exact E0 rfl ⟨rfl, y_Z⟩
 refine ZBx ?_
 refine KC (fun q1 z1 => ?_) (fun q1 z1 => ?_)
 ·refine ZDR ?_
  exact E0 rfl ⟨rfl, y_Z⟩
 refine ZBx ?_
 refine KC (fun q2 z2 => ?_) (fun q2 z2 => ?_)
 ·refine ZDR ?_
  exact E0 rfl ⟨rfl, y_Z⟩
 refine ZBx ?_
 refine KC (fun q3 z3 => ?_) (fun q3 z3 => ?_)
 ·refine ZB6 ?_
  refine RW (v := (.int .u8 (248 + tac % 8))) (cM rfl rfl) rfl (cA_ U_ (aJE k4)) ?_
  refine ZBB ?_
  exact E0 rfl ⟨rfl, y_Z⟩
 refine ZB2 ?_
 exact E0 rfl ⟨rfl, y_Z⟩
def aHj (t : Tm) (h : t.Ok) (n x : Int) (hx : 0 ≤ x ∧ x < 256) (w : AI) : aC prog 192 [.agg (cTm t).toArray, .int .i64 n, .int .u8 x] w [] (V_ (.agg (cTm (writeTm n x t)).toArray)) := by
 obtain ⟨cnt, tima, tma, tac, over⟩ := t
 obtain ⟨k1, k2, k3, k4⟩ := h
 dsimp only at k1 k2 k3 k4
 refine dR_ func192 ?_
 refine ZAn ?_
 refine ZAe fun b0 => ?_
 refine RX (dC (l := [.int .u8 x]) rfl rfl) rfl ?_
 rintro _ _ ⟨b1, rfl, rfl⟩
 refine ZDk ?_
 rintro _ _ ⟨b2, rfl, rfl⟩
 refine A_12 ?_
 refine KC (fun q0 z0 => ?_) (fun q0 z0 => ?_)
 ·refine ZAn ?_
  refine ZAP ?_
  refine RLv K_ (wQ_ (aJP ⟨cnt, tima, tma, tac, over⟩ ⟨k1, k2, k3, k4⟩)) ?_
  exact ZBG
 refine ZBx ?_
 refine KC (fun q1 z1 => ?_) (fun q1 z1 => ?_)
 ·refine ZBB ?_
  refine ZEH ?_
  refine ZAz ?_
  refine ZAP ?_
  exact ZBG
 refine ZBx ?_
 refine KC (fun q2 z2 => ?_) (fun q2 z2 => ?_)
 ·refine ZBB ?_
  refine ZAE ?_
  refine ZAP ?_
  exact ZBG
 refine ZBx ?_
 refine KC (fun q3 z3 => ?_) (fun q3 z3 => ?_)
 ·refine ZAn ?_
  refine ZAP ?_
  refine RW (v := (.func (.func 196) #[] #[P_ b1])) rfl rfl y_bA (RLv K_ (fun w hw => aM2 ⟨cnt, tima, tma, tac, over⟩ ⟨k1, k2, k3, k4⟩ x hx b1 w (aA (b := b1) (l := [.int .u8 x]) m_m w hw)) ?_)
  exact ZBG
 refine ZBB ?_
 refine ZAP ?_
 exact ZBG
def aKL (p : Pt) (h : p.Ok) (w : AI) : aC prog 233 [.agg (cPt p).toArray] w [] (V_ (.tuple #[.agg (cPt (tickPt p)).toArray, .bool (mT p)])) := by
 obtain ⟨data, control, last, bits, count, sent⟩ := p
 obtain ⟨k1, k2, k3, k4, k5, k6⟩ := h
 dsimp only at k1 k2 k3 k4 k5 k6
 refine dR_ func233 ?_
 refine ZAn ?_
 refine ZBH fun b0 => ?_
 refine ZAR fun b1 => ?_
 refine A_9 ?_
 refine KC (fun q0 z0 => ?_) (fun q0 z0 => ?_)
 ·refine ZAn ?_
  refine ZDG ?_
  refine ZAE ?_
  have e1 : mT ⟨data, control, last, bits, count, sent⟩ = false := by unfold mT; dsimp only; simp only [decide_eq_true_eq, decide_eq_false_iff_not]; omega
  exact aF (fun w hw => bC rfl rfl rfl (aA (b := b1) m_m w hw) rfl) ⟨rfl, y_4⟩
 refine ZB2 ?_
 refine ZAb ?_
 refine ZAy ?_
 refine ZDR ?_
 refine KC (fun q1 z1 => ?_) (fun q1 z1 => ?_)
 ·refine ZAn ?_
  refine ZDG ?_
  refine ZAE ?_
  have e1 : mT ⟨data, control, last, bits, count, sent⟩ = false := by unfold mT; dsimp only; simp only [decide_eq_true_eq, decide_eq_false_iff_not]; omega
  exact aF (fun w hw => bC rfl rfl rfl (aA (b := b1) m_m w hw) rfl) ⟨rfl, y_4⟩
 refine ZBx ?_
 refine RW (dJ rfl rfl y_b) rfl y_dY (RW (v := (.int .u8 (data % 128 * 2 + 1))) (cM rfl rfl) rfl (cA_ U_ (aLu k1)) ?_)
 refine ZAy ?_
 refine ZAy ?_
 refine ZB2 ?_
 refine ZBT ?_
 refine ZAy ?_
 refine ZDR ?_
 refine KC (fun q2 z2 => ?_) (fun q2 z2 => ?_)
 ·refine ZAn ?_
  refine ZDG ?_
  refine ZAE ?_
  have e1 : mT ⟨data, control, last, bits, count, sent⟩ = false := by unfold mT; dsimp only; simp only [decide_eq_true_eq, decide_eq_false_iff_not]; omega
  exact aF (fun w hw => bC rfl rfl rfl (aA (b := b1) m_m w hw) rfl) ⟨rfl, y_4⟩
 refine ZBx ?_
 refine RW (v := (.int .u8 (control % 128))) (sJ rfl rfl) rfl (cA_ U_ (aMC k2)) ?_
 refine ZAz ?_
 refine ZDG ?_
 refine ZAE ?_
 have e1 : mT ⟨data, control, last, bits, count, sent⟩ = true := by unfold mT; dsimp only; simp only [decide_eq_true_eq, decide_eq_false_iff_not]; omega
 exact aF (fun w hw => bC rfl rfl rfl (aA (b := b1) m_m w hw) rfl) ⟨rfl, y_4⟩
def aIg (p : Pt) (h : p.Ok) (w : AI) : aC prog 199 [.agg (cPt p).toArray] w [] (V_ (.agg (cPt (beginPt p)).toArray)) := by
 obtain ⟨data, control, last, bits, count, sent⟩ := p
 obtain ⟨k1, k2, k3, k4, k5, k6⟩ := h
 dsimp only at k1 k2 k3 k4 k5 k6
 refine dR_ func199 ?_
 refine ZAn ?_
 refine ZBH fun b0 => ?_
 refine ZAR fun b1 => ?_
 refine ZB2 ?_
 refine ZEH ?_
 refine ZAy ?_
 refine ZAy ?_
 refine ZBx ?_
 refine ZAb ?_
 refine ZBU ?_
 refine ZAz ?_
 refine ZDG ?_
 exact ZBk
def aHp (p : Pt) (h : p.Ok) (n x : Int) (hx : 0 ≤ x ∧ x < 256) (w : AI) : aC prog 198 [.agg (cPt p).toArray, .int .i64 n, .int .u8 x] w [] (V_ (.agg (cPt (writePt n x p)).toArray)) := by
 obtain ⟨data, control, last, bits, count, sent⟩ := p
 obtain ⟨k1, k2, k3, k4, k5, k6⟩ := h
 dsimp only at k1 k2 k3 k4 k5 k6
 have hb := aL5 hx
 refine dR_ func198 ?_
 refine ZAn ?_
 refine ZBH fun b0 => ?_
 refine ZAR fun b1 => ?_
 refine A_12 ?_
 refine KC (fun q0 z0 => ?_) (fun q0 z0 => ?_)
 ·refine ZBB ?_
  refine ZAE ?_
  refine ZDG ?_
  exact ZBl
 refine ZBx ?_
 refine KC (fun q1 z1 => ?_) (fun q1 z1 => ?_)
 ·refine ZBB ?_
  refine RW (v := (.int .u8 (x / 128 * 128 + x % 2))) (bA rfl rfl) rfl (cA_ U_ hb) ?_
  refine ZAy ?_
  refine ZAy ?_
  refine ZDR ?_
  refine KC (fun q2 z2 => ?_) (fun q2 z2 => ?_)
  ·refine ZAn ?_
   refine ZDG ?_
   refine RLv K_ (wQ_ (aIg ⟨data, x / 128 * 128 + x % 2, last, 0, count, sent⟩ ⟨k1, y_dV, k3, y_dV, k5, k6⟩)) ?_
   exact ZBl
  refine ZBB ?_
  refine ZDG ?_
  exact ZBl
 refine ZBB ?_
 refine ZDG ?_
 exact ZBl
def aJs (p : Pt) (h : p.Ok) (n : Int) (w : AI) : aC prog 197 [.agg (cPt p).toArray, .int .i64 n] w [] (V_ (.int .u8 (readPt n p))) := by
 obtain ⟨data, control, last, bits, count, sent⟩ := p
 obtain ⟨k1, k2, k3, k4, k5, k6⟩ := h
 dsimp only at k1 k2 k3 k4 k5 k6
 refine dR_ func197 ?_
 refine ZAn ?_
 refine ZBH fun b0 => ?_
 refine A_13 ?_
 refine KC (fun q0 z0 => ?_) (fun q0 z0 => ?_)
 ·refine ZDR ?_
  exact E0 rfl ⟨rfl, y_bw⟩
 refine ZBx ?_
 refine KC (fun q1 z1 => ?_) (fun q1 z1 => ?_)
 ·refine ZB6 ?_
  refine RW (v := (.int .u8 (control / 128 * 128 + 126 + control % 2))) (cM rfl rfl) rfl (cA_ U_ (aJo k2)) ?_
  refine ZBB ?_
  exact E0 rfl ⟨rfl, y_bw⟩
 refine ZB2 ?_
 exact E0 rfl ⟨rfl, y_bw⟩
def aDB (c : Cp) (h : c.Ok) (w : AI) : aC prog 200 [.agg (cCp c).toArray] w [] (V_ (.bool (pI c))) := by
 obtain ⟨page, left⟩ := c
 obtain ⟨k1, k2⟩ := h
 dsimp only at k1 k2
 refine dR_ func200 ?_
 refine ZCp ?_
 refine ZBz fun b0 => ?_
 refine A_10 ?_
 exact E0 rfl ⟨rfl, rfl⟩
def aKI (c : Cp) (h : c.Ok) (w : AI) : aC prog 244 [.agg (cCp c).toArray] w [] (V_ (.int .u16 (fromCp c))) := by
 obtain ⟨page, left⟩ := c
 obtain ⟨k1, k2⟩ := h
 dsimp only at k1 k2
 refine dR_ func244 ?_
 refine ZCp ?_
 refine ZBz fun b0 => ?_
 refine A_9 ?_
 refine KC (fun q0 z0 => ?_) (fun q0 z0 => ?_)
 ·refine ZB6 ?_
  refine RW (iB rfl rfl) rfl y_p (ZD3 ?_)
  refine RW (dJ rfl rfl y_b) rfl y_dO (ZBB ?_)
  exact E0 rfl ⟨rfl, y_cu⟩
 refine ZBx ?_
 refine ZD3 ?_
 refine RW (dJ rfl rfl y_b) rfl y_dO (ZBB ?_)
 exact E0 rfl ⟨rfl, y_cu⟩
def rO (c : Cp) (x : Int) (w : AI) : aC prog 201 [.agg (cCp c).toArray, .int .u8 x] w [] (V_ (.agg (cCp (sB x)).toArray)) := by
 refine dR_ func201 ?_
 refine ZAn ?_
 refine RX (dC (l := cCp c) rfl rfl) rfl (ZDl fun b0 b1 => ?_)
 refine ZB6 ?_
 refine RS ?_
 exact ZBk
def aDD (c : Cp) (h : c.Ok) (a : Int) (w : AI) : aC prog 240 [.agg (cCp c).toArray, .int .u16 a] w [] (V_ (.bool (letsCp c a))) := by
 obtain ⟨page, left⟩ := c
 obtain ⟨k1, k2⟩ := h
 dsimp only at k1 k2
 refine dR_ func240 ?_
 refine ZCp ?_
 refine ZBz fun b0 => ?_
 refine ZB6 ?_
 refine ZCw ?_
 refine RLv K_ (wQ_ (aDB ⟨page, left⟩ ⟨k1, k2⟩)) ?_
 rw [show pI ⟨page, left⟩ = decide (0 < left) from rfl]
 refine ZBR ?_
 refine KL (fun q0 z0 => ?_) (fun q0 z0 => ?_)
 ·refine ZB2 ?_
  exact E0 rfl ⟨rfl, (cA_ Value.bool (by unfold letsCp pI; simp_all))⟩
 refine ZB2 ?_
 exact E0 rfl ⟨rfl, (cA_ Value.bool (by unfold letsCp pI; simp_all))⟩
def aIU (c : Cp) (h : c.Ok) (w : AI) : aC prog 234 [.agg (cCp c).toArray] w [] (V_ (.tuple #[.agg (cCp (tickCp c)).toArray, .int .u16 (qK c), .int .i64 (xM c), .bool (pI c)])) := by
 obtain ⟨page, left⟩ := c
 obtain ⟨k1, k2⟩ := h
 dsimp only at k1 k2
 refine dR_ func234 ?_
 refine ZCp ?_
 refine ZDl fun b0 b1 => ?_
 refine ZDR ?_
 refine ZCw ?_
 refine RLv K_ (wQ_ (aDB ⟨page, left⟩ ⟨k1, k2⟩)) ?_
 rw [show pI ⟨page, left⟩ = decide (0 < left) from rfl]
 refine ZAn ?_
 refine KC (fun q0 z0 => ?_) (fun q0 z0 => ?_)
 ·refine ZAn ?_
  refine ZCw ?_
  refine ZEH ?_
  refine ZBx ?_
  have e0 : ¬ 0 < left := by simpa using q0
  exact aF (fun w hw => aB3 rfl rfl rfl (aA (b := b1) m_m w hw) rfl rfl rfl) ⟨rfl, by unfold tickCp qK xM; simp only [if_neg e0, cr e0]; rfl⟩
 refine ZBx ?_
 refine ZBT ?_
 refine ZB6 ?_
 refine ZCw ?_
 refine RLv K_ (wQ_ (aKI ⟨page, left⟩ ⟨k1, k2⟩)) ?_
 refine ZBR ?_
 refine ZD3 ?_
 refine RW (v := (.int .u16 ((fromCp ⟨page, left⟩ + (160 - left)) % 65536))) rfl rfl ((vV _).trans (cA_ _ o_m)) (ZB2 ?_)
 refine ZBT ?_
 refine ZAz ?_
 refine ZCw ?_
 refine ZAn ?_
 refine ZEH ?_
 refine ZBx ?_
 have e0 : 0 < left := by simpa using q0
 exact aF (fun w hw => aB3 rfl rfl rfl (aA (b := b1) m_m w hw) rfl rfl rfl) ⟨rfl, by unfold tickCp qK xM; simp only [if_pos e0, ah e0]; rfl⟩
end Go.Proofs.YtdbgagkcgdlnnaaGreat
