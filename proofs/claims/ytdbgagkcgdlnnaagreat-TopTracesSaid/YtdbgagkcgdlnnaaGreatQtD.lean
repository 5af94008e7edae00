/- Parts. -/
import Derived.Test.YtdbgagkcgdlnnaaGreatQtB
set_option maxRecDepth 100000
set_option maxHeartbeats 1000000
set_option linter.all false
namespace Go.VV
open Go Go.RowKit
abbrev T_ (q p : Prop) := Wr q → p
variable {p q : Prop} (k_ : q)
def sR_ {α : Type} {l : List α} : l.Sublist l := List.Sublist.refl _
def mR_ {α : Type} {a : α} (l : List α) {m : List α} (h : a ∈ m) : a ∈ l ++ m := et l h
def mL_ {α : Type} {a : α} {l : List α} (m : List α) (h : a ∈ l) : a ∈ l ++ m := fy m h
def xS_ {Γ : Ctx} {e : Env} {H : aB} {d : AD} {ty : AJ} {pos : String} {af : AG} {g : Option (Nat × Bool)} {t : AJ} {x y : AK} {b off : Nat} {v : AH} {vs l l' : AA} {T : AJ} (i : Nat)
  (hx : vnf (ev e x) = some (.pointer (some ⟨b, off, none⟩)) := by exact rfl) (hy : vnf (ev e y) = some v := by exact rfl) (hv : qT v = some vs := by exact rfl) (hn : fH Γ.P t = some vs.length := by exact rfl) (h1 : fE vs = true := by exact rfl)
  (hi : H[i]? = some (b, blk l T) := by exact rfl) (hl : off + vs.length ≤ l.length := by exact ag rfl) (hp : aP l off vs = l' := by exact rfl) : Op1 Γ ⟨d, .store t x y, ty, pos, af, g⟩ e H (fun u H' => u = undef ∧ H' = H.set i (b, blk l' T)) := aD i hx hy hv hn h1 hi hl hp
def dO_ {P : AL} {f : Nat} {fn : Func} {c : Code} {args : AA} {w : AI} {ms : AE} {R : AH → aB → Prop} {n : Nat} {H : aB} (hf : P.funcs[f]? = some fn) (hH : St w ms H w) (h : C ⟨P, n, w, ms, none, []⟩ c (aIl ⟨P, n, w, ms, none, []⟩ fn.results.toList R) (aCu args) H)
  (hb : fn.body = some c := by exact rfl) (hn : fn.ntmps = n := by exact rfl) (hl : Nat.ble args.length n = true := by exact rfl) : aC P f args w ms R := mH hf hb hn hl hH h
def dR_ {P : AL} {f : Nat} {fn : Func} {c : Code} {args : AA} {w : AI} {R : AH → aB → Prop} {n : Nat} (hf : P.funcs[f]? = some fn) (h : C ⟨P, n, w, [], none, []⟩ c (aIl ⟨P, n, w, [], none, []⟩ fn.results.toList R) (aCu args) [])
  (hb : fn.body = some c := by exact rfl) (hn : fn.ntmps = n := by exact rfl) (hl : Nat.ble args.length n = true := by exact rfl) : aC P f args w [] R := mH hf hb hn hl (St.refl w) h
abbrev P_ (b : Nat) : AH := .pointer (some ⟨b, 0, none⟩)
abbrev Q_ (b : Nat) : AC := some ⟨b, 0, none⟩
abbrev V_ (u : AH) : AH → aB → Prop := fun v H => H = [] ∧ v = u
abbrev U_ : Int → AH := Value.int .u8
def K_ (h : p := by kernel_rfl) : p := h
def La_ {α : Type} {a b : List α} : (a ++ b).length = a.length + b.length := d5
def Lm_ {α β : Type} {a : List α} (f : α → β) : (a.map f).length = a.length := i5 f
def Ld_ {α : Type} {i : Nat} {a : List α} : (a.drop i).length = a.length - i := fx
def Lt_ {α : Type} {i : Nat} {a : List α} : (a.take i).length = min i a.length := ej
def Lc_ {α : Type} {a : α} {l : List α} : (a :: l).length = l.length + 1 := gk
def As_ {α : Type} (a b c : List α) : a ++ b ++ c = a ++ (b ++ c) := bg a b c
def Gd_ {α : Type} {l : List α} {i : Nat} {a : α} : l.getD i a = l[i]?.getD a := co
def cA_ {α β : Type} {a b : α} (f : α → β) (h : a = b) : f a = f b := congrArg f h
def wQ_ {A B : AI → Prop} (h : ∀ w, B w) : ∀ w, A w → B w := fun w _ => h w
def wA_ {A B C : AI → Prop} (h : ∀ w, A w → C w) : ∀ w, A w → B w → C w := fun w a _ => h w a
def wL_ {w0 : AI} {ms : AE} {A F : aB} {B : AI → Prop} (h : ∀ w, St w (A.map (·.1)) A w → B w) : ∀ w, St w0 ms (A ++ F) w → B w := fun w hw => h w hw.lentV
def wV_ {w0 : AI} {ms : AE} {A : aB} {B : AI → Prop} (h : ∀ w, St w (A.map (·.1)) A w → B w) : ∀ w, St w0 ms A w → B w := fun w hw => h w hw.lentA
def y_a (h : p := by (try simp only [decide_eq_true_eq, decide_eq_false_iff_not, beq_iff_eq, beq_eq_false_iff_ne, bne_iff_ne, bne_eq_false_iff_eq, ne_eq] at *); omega) : p := h
def y_b (h : p := by decide) : p := h
def y_c (h : p := by intro _ _ _ hK x hx; obtain ⟨rfl, rfl⟩ := hK; repeat (first | exact hx | exact mL_ _ hx | refine mR_ _ ?_ | refine .tail _ ?_)) : p := h
def y_d (h : p := by first | exact lL o_m o_m | rfl) : p := h
def y_e (h : p := by first | (exfalso; omega) | (unfold atT atB_; dsimp only; (try simp only [Bool.true_eq_false, Bool.false_eq_true, true_or, or_true, false_or, or_false, if_true, if_false]); (repeat (first | rw [if_pos o_m] | rw [if_neg o_m])); first | done | rfl)) : p := h
def y_f (h : p := by (try simp only [La_, Lc_, ar]); omega) : p := h
def y_g (h : p := by first | (exfalso; omega) | (unfold bankB numB; dsimp only; (repeat (first | rw [if_pos (by first | omega | assumption)] | rw [if_neg (by first | omega | simp_all)])); exact Int.tmod_eq_emod_of_nonneg o_m)) : p := h
def y_h (h : p := by first | exact aA m_m | exact gH m_m _ 5 rfl) : p := h
def y_i (h : p := by kernel_rfl) : p := h
def y_j (h : p := by first | (exfalso; omega) | (unfold deviceM; (repeat (first | rw [if_pos o_m] | rw [if_neg o_m])); first | done | rfl)) : p := h
def y_k (h : p := by unfold pictured; rw [Bool.eq_iff_iff]; simp only [decide_eq_true_eq, bne_iff_ne, ne_eq, Bool.false_eq_true, eq_self_iff_true, true_iff, false_iff, iff_true, iff_false]; omega) : p := h
def y_l (h : p := by first | (exfalso; omega) | (unfold setDeviceM; (repeat (first | rw [if_pos o_m] | rw [if_neg o_m])))) : p := h
def y_m (h : p := by rw [cU_len hu]; simp only [Lc_, ar]; (try simp only [decide_eq_true_eq, decide_eq_false_iff_not, beq_iff_eq, beq_eq_false_iff_ne, bne_iff_ne, bne_eq_false_iff_eq, ne_eq] at *); omega) : p := h
def y_n (h : p := by rcases List.mem_cons.1 hx with rfl | hx; exact m_m; obtain rfl := List.mem_singleton.1 hx; exact m_m) : p := h
def y_o (h : p := by intro _ _ _ hK x hx; obtain ⟨_, rfl, rfl⟩ := hK; repeat (first | exact hx | exact mL_ _ hx | refine mR_ _ ?_ | refine .tail _ ?_)) : p := h
def y_p (h : p := by first | exact aDJ o_m o_m | exact aBt _) : p := h
def y_q (h : p := by first | exact aA m_m | exact gH m_m _ 8 rfl) : p := h
def y_r (h : p := by first | exact zC o_m o_m | exact vV _) : p := h
def y_s (h : p := by rw [e9]; first | done | rfl) : p := h
def y_t (h : p := by first | (exfalso; omega) | (unfold atT clockB; dsimp only; (try simp only [Bool.true_eq_false, Bool.false_eq_true, true_or, or_true, false_or, or_false, if_true, if_false]); (repeat (first | rw [if_pos o_m] | rw [if_neg o_m])); first | done | rfl)) : p := h
def y_u (h : p := by first | (rw [cBd_len hWL]; rfl) | (rw [cBd_len hWO]; rfl) | (rw [cBd_len hPK]; rfl) | (rw [cBd_len (hPK.beginW (k / 5)).ln]; rfl)) : p := h
def y_v (h : p := by simp) : p := h
def y_w (h : p := by simp at *; omega) : p := h
def y_x (h : p := by first | (simp [txt, hk]; done) | (simp_all [txt]; done)) : p := h
def y_y (h : p := by rw [cMm_len h.ln]; exact ag rfl) : p := h
def y_z (h : p := by first | (simp_all [aloneL]; done) | (simp [aloneL, *]; done)) : p := h
def y_A (h : p := by first | (simp [restL, hk]; done) | (simp_all [restL]; done)) : p := h
def y_B (h : p := by omega) : p := h
def y_C (h : p := by intro _ _ _ hK; obtain ⟨G, _, rfl⟩ := hK; exact fun x hx => by repeat (first | exact hx | refine mR_ _ ?_ | refine .tail _ ?_)) : p := h
def y_D (h : p := by dsimp only; omega) : p := h
def y_E (h : p := by first | omega | (unfold madeAt; split <;> omega)) : p := h
def y_F (h : p := by decide +kernel) : p := h
def y_G (h : p := by first | exact aA m_m | exact gH m_m _ 10 rfl) : p := h
def y_H (h : p := by first | exact List.Sublist.refl _ | exact sR_.append (ed _ _) | exact ed _ _ | exact ce _ _) : p := h
def y_I (h : p := by unfold tickB; rw [if_neg (by rw [show B.on = true by simpa using q0]; decide), if_neg o_m]) : p := h
def y_J (h : p := by intro _ _ _ hK x hx; obtain ⟨_, ⟨rfl, G1, rfl, hG1⟩, rfl⟩ := hK; repeat (first | exact hx | exact mL_ _ hx | refine mR_ _ ?_ | refine .tail _ ?_)) : p := h
def y_K (h : p := by first | (rintro ⟨h8, h9⟩; omega) | (rintro ⟨h8, h9⟩; rw [hon9] at h8; cases h8)) : p := h
def y_L (h : p := by show St _ _ ((b7, blk ((fet ((stepM [] ((gT p).m i)).2.acc.take (j + 1))).2.map U_) 50) :: (b6, blk (cDd (stepM [] ((gT p).m i)).1) 46) :: (Gt ++ ((G6 ++ hM (⟨q.A, q.tb, oT0, (.slice (Q_ b8) (stepM [] ((gT p).m i)).2.acc.length c2)⟩ : MA) (stepM [] ((gT p).m i)).2) ++ G5))) _; rw [hf9]; exact h) : p := h
def y_M (h : p := by unfold fiveB; dsimp only; (repeat (first | rw [if_pos o_m] | rw [if_neg o_m])); first | done | rfl) : p := h
def y_N (h : p := by unfold askV; have h9 : (askU u).sig = sigU u := rfl; simp_all) : p := h
def y_O (h : p := by simp only [List.length_set, madeP_n]) : p := h
def y_P (h : p := by rw [cBd_len hFN]; rfl) : p := h
def y_Q (h : p := by unfold writeCk; dsimp only; (repeat (first | rw [if_pos o_m] | rw [if_neg o_m])); first | done | rfl) : p := h
def y_R (h : p := by first | exact aQC o_m | rfl) : p := h
def y_S (h : p := by first | exact aA m_m | exact gH m_m _ 12 rfl) : p := h
def y_T (h : p := by rw [cBd_len hB]; simp only [Lc_, ar]; omega) : p := h
def y_U (h : p := by first | exact aA m_m | exact gH m_m _ 6 rfl) : p := h
def y_V (h : p := by rw [e1]; unfold writeB; dsimp only; (repeat (first | rw [if_pos o_m] | rw [if_neg o_m])); first | done | rfl) : p := h
def y_W (h : p := by rw [e1]; unfold threeB; dsimp only; (repeat (first | rw [if_pos o_m] | rw [if_neg o_m])); first | done | rfl) : p := h
def y_X (h : p := by rw [hE]; kernel_rfl) : p := h
def y_Y (h : p := by unfold writeTm; dsimp only; (repeat (first | rw [if_pos o_m] | rw [if_neg o_m])); first | done | rfl) : p := h
def y_Z (h : p := by unfold readTm; dsimp only; (repeat (first | rw [if_pos o_m] | rw [if_neg o_m])); first | done | rfl) : p := h
def y_0 (h : p := by rw [cBd_len hE]; simp only [Lc_, ar]; omega) : p := h
def y_1 (h : p := by first | exact aA m_m | exact gH m_m _ 2 rfl) : p := h
def y_2 (h : p := by rw [e9]; exact hG0) : p := h
def y_3 (h : p := by obtain rfl := List.mem_singleton.1 hx; exact .head _) : p := h
def y_4 (h : p := by rw [e1]; unfold tickPt shiftPt; dsimp only; (repeat (first | rw [if_pos o_m] | rw [if_neg o_m])); first | done | rfl) : p := h
def y_5 (h : p := by rw [e9]; exact hG1) : p := h
def y_6 (h : p := by unfold tickV; rw [if_pos hlit, ← bor_ask (stepV_one u) (askV_two _), ← hnv]; rfl) : p := h
def y_7 (h : p := by first | exact (xS_ (l' := cSrt ((sortH (l.getD 327 0)).getD (0, false, false))) 0) | exact (xS_ (l' := cSrt ((sortH (l.getD 327 0)).getD (0, false, false))) 1)) : p := h
def y_8 (h : p := by show _ = _ ++ [_, _, (A.rb, blk (List.map U_ (cycleM m).ram ++ A.rs) 5), (A.ob, blk (List.map U_ (cycleM m).rom ++ A.sp) 5)]; rw [cycleM_ram, cycleM_rom]; rfl) : p := h
def y_9 (h : p := by unfold writePt; dsimp only; (repeat (first | rw [if_pos o_m] | rw [if_neg o_m])); first | done | rfl) : p := h
def y_ba (h : p := by first | exact dO m_m | exact jX m_m _ 9 rfl) : p := h
def y_bb (h : p := by unfold oneB; dsimp only; (repeat (first | rw [if_pos o_m] | rw [if_neg o_m])); first | done | rfl) : p := h
def y_bc (h : p := by rw [cBd_len hPK]; simp only [Lc_, ar]; omega) : p := h
def y_bd (h : p := by rw [cBd_len hFN, cBd_len bdZ_wf]; decide) : p := h
def y_be (h : p := by intro _ _ _ hK; obtain ⟨_, rfl, rfl⟩ := hK; exact fun x hx => by repeat (first | exact hx | refine mR_ _ ?_ | refine .tail _ ?_)) : p := h
def y_bf (h : p := by show Vec _ 3 va' (((if letsCp (cycleM m).cp a = true then pokeM a x (cycleM m) else (cycleM m))).acc ++ [_]).length (aE cAc ((if letsCp (cycleM m).cp a = true then pokeM a x (cycleM m) else (cycleM m)).acc ++ [_])) Ga'; rw [e9]; exact hV'.as (by rw [La_]; rfl) rfl) : p := h
def y_bg (h : p := by rw [cU_len (hu.P_ (u.line.toNat * 160) (rowU_byts u) (by rw [rowU_len]; omega))]; simp only [Lc_, ar]; (try simp only [decide_eq_true_eq, decide_eq_false_iff_not, beq_iff_eq, beq_eq_false_iff_ne, bne_iff_ne, bne_eq_false_iff_eq, ne_eq] at *); omega) : p := h
def y_bh (h : p := by cases hp; exact St.apartT (G := [(rb, blk RL 5)]) hw2) : p := h
def y_bi (h : p := by simpa using q1) : p := h
def y_bj (h : p := by rw [cBd_len hB]; rfl) : p := h
def y_bk (h : p := by rw [cMm_len h.ln]; simp only [Lc_, ar]; omega) : p := h
def y_bl (h : p := by first | exact dO m_m | exact jX m_m _ 5 rfl) : p := h
def y_bm (h : p := by obtain rfl := List.mem_singleton.1 hx; exact m_m) : p := h
def y_bn (h : p := by unfold daaB daaC; simp_all [fg]; all_goals (repeat' split); all_goals omega) : p := h
def y_bo (h : p := by show _ = [(b, blk (cBd ((turnV levV B n).setV n (levV (turnV levV B n) n ((turnV levV B n).v n)))) 121)]; rw [show levV (turnV levV B n) n ((turnV levV B n).v n) = (turnV levV B n).v n from if_pos o_m, setV_same hX9 o_m]) : p := h
def y_bp (h : p := by show _ = [(b, blk (cBd ((turnV lenV B n).setV n (lenV (turnV lenV B n) n ((turnV lenV B n).v n)))) 121)]; rw [show lenV (turnV lenV B n) n ((turnV lenV B n).v n) = (turnV lenV B n).v n from if_pos o_m, setV_same hX9 o_m]) : p := h
def y_bq (h : p := by unfold writeBd; rw [if_neg o_m, if_neg o_m, if_neg (by first | (rintro ⟨h8, q7⟩; omega) | (rintro ⟨h8, q7⟩; rw [hon9] at h8; cases h8)), if_neg o_m, bj]; unfold voiceB; rw [if_neg o_m, if_neg o_m]) : p := h
def y_br (h : p := by rw [v_set hX9 o_m]; rfl) : p := h
def y_bs (h : p := by unfold daaL; simp_all [fg]; all_goals (repeat' split); all_goals omega) : p := h
def y_bt (h : p := by unfold daaC; simp_all [fg]; all_goals (repeat' split); all_goals omega) : p := h
def y_bu (h : p := by have h9 := (Row.nth' (cPtr_len pb) hrow hoi) 0 _ rfl; simpa using h9) : p := h
def y_bv (h : p := by show (stepM [] ((gT p).m i)).2.acc.length - (j + 1) < (stepM [] ((gT p).m i)).2.acc.length - j; omega) : p := h
def y_bw (h : p := by unfold readPt; dsimp only; (repeat (first | rw [if_pos o_m] | rw [if_neg o_m])); first | done | rfl) : p := h
def y_bx (h : p := by show _ = Value.int .i64 ((fet ((stepM [] ((gT p).m i)).2.acc.take (j + 1))).1 : Nat); rw [hf9]; rfl) : p := h
def y_by (h : p := by rw [cBd_len hPK]; rfl) : p := h
def y_bz (h : p := by unfold twoB; dsimp only; (repeat (first | rw [if_pos o_m] | rw [if_neg o_m])); first | done | rfl) : p := h
def y_bA (h : p := by simp only [cj, be, ct]; rfl) : p := h
def y_bB (h : p := by have h9 := hm _ _ (get_high h.ln (j := (a - 65408).toNat) o_m); rwa [← dg] at h9) : p := h
def y_bC (h : p := by first | exact dO m_m | exact jX m_m _ 4 rfl) : p := h
def y_bD (h : p := by first | exact dO m_m | exact jX m_m _ 2 rfl) : p := h
def y_bE (h : p := by first | exact dO m_m | exact jX m_m _ 1 rfl) : p := h
def y_bF (h : p := by show l.length - (i + 1) < l.length - i; omega) : p := h
def y_bG (h : p := by simp only [List.length_set]; (try simp only [decide_eq_true_eq, decide_eq_false_iff_not, beq_iff_eq, beq_eq_false_iff_ne, bne_iff_ne, bne_eq_false_iff_eq, ne_eq] at *); omega) : p := h
def y_bH (h : p := by rw [xP (ax _)]; rfl) : p := h
def y_bI (h : p := by rw [tabL_len hP hB, cO_len]; omega) : p := h
def y_bJ (h : p := by rw [aI o_m o_m]; (try simp only [decide_eq_true_eq, decide_eq_false_iff_not, beq_iff_eq, beq_eq_false_iff_ne, bne_iff_ne, bne_eq_false_iff_eq, ne_eq] at *); omega) : p := h
def y_bK (h : p := by rw [passes_snoc hoi, ← hZ, pass1_goes hfz]; exact hV1) : p := h
def y_bL (h : p := by rw [← e1]; rfl) : p := h
def y_bM (h : p := by rw [take_snoc o_m, aw, ← txV_app]; exact cA_ (fun z : Int => txV ((l.take i).map chrH) ++ [Value.int .u8 z]) ((by unfold chrH; rw [if_pos o_m]; rfl))) : p := h
def y_bN (h : p := by have := hK.small; (try simp only [decide_eq_true_eq, decide_eq_false_iff_not, beq_iff_eq, beq_eq_false_iff_ne, bne_iff_ne, bne_eq_false_iff_eq, ne_eq] at *); omega) : p := h
def y_bO (h : p := by unfold readB; rw [if_neg o_m, if_neg o_m, if_neg o_m]) : p := h
def y_bP (h : p := by rw [hq4 _ hx]; (try simp only [decide_eq_true_eq, decide_eq_false_iff_not, beq_iff_eq, beq_eq_false_iff_ne, bne_iff_ne, bne_eq_false_iff_eq, ne_eq] at *); omega) : p := h
def y_bQ (h : p := by unfold shiftPt; dsimp only; omega) : p := h
def y_bR (h : p := by rw [q1]; decide) : p := h
def y_bS (h : p := by simp; omega) : p := h
def y_bT (h : p := by rw [Bool.eq_iff_iff]; simp only [bne_iff_ne, decide_eq_true_eq, ne_eq]; omega) : p := h
def y_bU (h : p := by rw [cBd_len hWO]; rfl) : p := h
def y_bV (h : p := by first | exact h.sub (.cons_cons _ (.cons _ sR_)) | exact h.sub (.cons _ sR_)) : p := h
def y_bW (h : p := by cases hp; exact St.apartT (G := []) hw) : p := h
def y_bX (h : p := by have h9 := qcheck_fn (Q_ b11) (romS b) (madeZ kind b ram prog) o_m hbZ w (Ns.of (aA (b := b11) m_m w hw)); rw [hlZ, if_neg o_m] at h9; exact h9) : p := h
def y_bY (h : p := by rw [tailM_len h, aq]; omega) : p := h
def y_bZ (h : p := by rw [az]; exact cBd_r hB (j := k) o_m) : p := h
def y_b0 (h : p := by intro _ _ _ hK x hx; obtain ⟨G42, hV42, rfl⟩ := hK; repeat (first | exact hx | exact mL_ _ hx | refine mR_ _ ?_ | refine .tail _ ?_)) : p := h
def y_b1 (h : p := by rw [passes_snoc hoi, ← hZ]; rfl) : p := h
def y_b2 (h : p := by rw [Bool.eq_iff_iff]; simp; omega) : p := h
def y_b3 (h : p := by simp [Ck.held]) : p := h
def y_b4 (h : p := by rw [Bool.eq_iff_iff]; simp) : p := h
def y_b5 (h : p := by unfold modeU; simp_all <;> omega) : p := h
def y_b6 (h : p := by rw [cBd_len (hPK.beginW (k / 5)).ln]; rfl) : p := h
def y_b7 (h : p := by rw [cBd_len hWO, cBd_len bdZ_wf]; decide) : p := h
def y_b8 (h : p := by rw [cBd_len hPK, cBd_len bdZ_wf]; decide) : p := h
def y_b9 (h : p := by rw [cBd_len (show (if decide (x / 128 = 1) = true then onB B else offB B).Wf by split; exact hB.onW; exact hB.off)]; rfl) : p := h
def y_ca (h : p := by rw [cBd_len hB, cBd_len bdZ_wf]; decide) : p := h
def y_cb (h : p := by rcases List.mem_cons.1 hx with rfl | hx; exact .head _; obtain rfl := List.mem_singleton.1 hx; exact .tail _ (.head _)) : p := h
def y_cc (h : p := by simp_all) : p := h
def y_cd (h : p := by rw [hs9]) : p := h
def y_ce (h : p := by unfold tickU; rw [if_pos hlit]) : p := h
def y_cf (h : p := by show 0 ≤ (if everyB b = 0 then 8 else everyB b) ∧ (if everyB b = 0 then 8 else everyB b) < 65536; split <;> omega) : p := h
def y_cg (h : p := by rw [aI o_m o_m]; omega) : p := h
def y_ch (h : p := by rw [cBd_len hX1]; simp only [Lc_, ar]; omega) : p := h
def y_ci (h : p := by unfold whenL; simp_all) : p := h
def y_cj (h : p := by unfold secCk dayCk; simp only [e1, e2, e3, e4, ne_eq, not_true_eq_false, not_false_eq_true, if_true, if_false]; rfl) : p := h
def y_ck (h : p := by rw [di] at hV0; exact hV0) : p := h
def y_cl (h : p := by first | exact aA m_m | exact gH m_m _ 4 rfl) : p := h
def y_cm (h : p := by first | exact aA m_m | exact gH m_m _ 1 rfl) : p := h
def y_cn (h : p := by simp at *; unfold cmpI; split <;> (try split) <;> omega) : p := h
def y_co (h : p := by rw [h1]; decide) : p := h
def y_cp (h : p := by show _ = ((cycleM m).acc ++ [_]).length; rw [La_]; rfl) : p := h
def y_cq (h : p := by rw [Lm_, h.lR]; omega) : p := h
def y_cr (h : p := by rw [xP (ax _)]; simp) : p := h
def y_cs (h : p := by rw [setV_setV]) : p := h
def y_ct (h : p := by rw [beat_step]) : p := h
def y_cu (h : p := by unfold fromCp; dsimp only; (repeat (first | rw [if_pos o_m] | rw [if_neg o_m])); first | done | rfl) : p := h
def y_cv (h : p := by rw [e9]; rfl) : p := h
def y_cw (h : p := by unfold beginPt; dsimp only; omega) : p := h
def y_cx (h : p := by rw [← i4]; omega) : p := h
def y_cy (h : p := by rw [← hh8]) : p := h
def y_cz (h : p := by rw [cMm_len h.ln, cBd_len (h.bd.write (a - 65296) hx).ln]; exact ag rfl) : p := h
def y_cA (h : p := by show _ - (i + 1) < _ - i; omega) : p := h
def y_cB (h : p := by show N - (i + 1) < N - i; omega) : p := h
def y_cC (h : p := by rw [Lm_, h.lV]; omega) : p := h
def y_cD (h : p := by first | (rintro ⟨q7, h9⟩; omega) | (rintro ⟨q7, h9⟩; rw [hon9] at q7; cases q7)) : p := h
def y_cE (h : p := by simp only [newM0, ie]; rfl) : p := h
def y_cF (h : p := by rw [show readB n B = 255 from if_pos o_m]) : p := h
def y_cG (h : p := by unfold onV; rw [hon9]; rfl) : p := h
def y_cH (h : p := by show 1 ≤ (lg (K.idle m)).length; rw [hA.idle, La_]; exact Nat.le_add_left _ _) : p := h
def y_cI (h : p := by simp [flat4, h.lV]; omega) : p := h
def y_cJ (h : p := by rw [cMm_len q2.ln, cBd_len q2.bd.tick.ln]; exact ag rfl) : p := h
def y_cK (h : p := by rw [cMmR_eq (ca)]) : p := h
def y_cL (h : p := by unfold readB; rw [if_neg o_m, if_neg o_m, if_pos o_m, bj]) : p := h
def y_cM (h : p := by simp [h]) : p := h
def y_cN (h : p := by have := hK.small; omega) : p := h
def y_cO (h : p := by rw [show 144 * 160 = u.P.length by rw [hu.lP], di]; rfl) : p := h
def y_cP (h : p := by rw [midM_len]) : p := h
def y_cQ (h : p := by rw [flat4, hB.lV]; rfl) : p := h
def y_cR (h : p := by rw [cBd_len h.bd]; rfl) : p := h
def y_cS (h : p := by first | decide | omega) : p := h
def y_cT (h : p := by show i + 1 ≤ N; omega) : p := h
def y_cU (h : p := by rw [v_set hB hn]; rfl) : p := h
def y_cV (h : p := by rw [show letsCp (cycleM m).cp a = true by simpa using q0]; decide) : p := h
def y_cW (h : p := by rw [cBd_len hWL]; rfl) : p := h
def y_cX (h : p := by intro _ _ _ hK; obtain ⟨rfl, rfl⟩ := hK; exact fun x hx => hx) : p := h
def y_cY (h : p := by rw [foldQ_take hq, putQ]; exact h.sub (.cons_cons _ (.cons _ sR_))) : p := h
def y_cZ (h : p := by rw [(show isP o.kind = false from cr o_m)]; decide) : p := h
def y_c0 (h : p := by cases ht : s.taken <;> simp_all) : p := h
def y_c1 (h : p := by cases h) : p := h
def y_c2 (h : p := by show (b.vs.set n x).length = 4; rw [List.length_set]; exact h.lV) : p := h
def y_c3 (h : p := by rw [hC_len hr]; simp) : p := h
def y_c4 (h : p := by unfold askV; have q4 : (askU u).sig = sigU u := rfl; simp_all) : p := h
def y_c5 (h : p := by unfold readB; rw [if_neg o_m, if_pos o_m, bj]) : p := h
def y_c6 (h : p := by rw [cBd_len (hPK.beginW (k / 5)).ln, cBd_len bdZ_wf]; decide) : p := h
def y_c7 (h : p := by first | exact dO m_m | exact jX m_m _ 160 rfl) : p := h
def y_c8 (h : p := by show _ = (chkH l i - (l.getD (308 + i) 0 + 1)) % 256; omega) : p := h
def y_c9 (h : p := by rw [h.lR]; exact hj) : p := h
def y_da (h : p := by rw [Lm_, h.lV]) : p := h
def y_db (h : p := by rw [Lm_, h.lR]) : p := h
def y_dc (h : p := by rw [cBd_len hX9]; simp only [Lc_, ar]; omega) : p := h
def y_dd (h : p := by rw [cBd_len hX2]; simp only [Lc_, ar]; omega) : p := h
def y_de (h : p := by rw [cBd_len hW9]; simp only [Lc_, ar]; omega) : p := h
def y_df (h : p := by rw [cBd_len hC9]; simp only [Lc_, ar]; omega) : p := h
def y_dg (h : p := by first | (rw [cBd_len hN2]; rfl) | (rw [cBd_len hN3]; rfl)) : p := h
def y_dh (h : p := by rw [cBd_len hB.off.ln]; rfl) : p := h
def y_di (h : p := by rw [hB.lV]; omega) : p := h
def y_dj (h : p := by have h9 := hrx.at cChg_len hcx0 1 rfl; simpa using h9) : p := h
def y_dk (h : p := by have h9 := hrx.at cChg_len hcx0 0 rfl; simpa using h9) : p := h
def y_dl (h : p := by rw [cMm_len q4.ln]; exact ag rfl) : p := h
def y_dm (h : p := by rw [az]; exact putBd_r hB (j := k) o_m _) : p := h
def y_dn (h : p := by rw [Lm_, h.work]) : p := h
def y_do (h : p := by rw [La_]; simp only [aq]; omega) : p := h
def y_dp (h : p := by intro x hx; rw [List.mem_singleton.1 hx]; exact ho) : p := h
def y_dq (h : p := by rw [best_step hcx0, hb]; exact better_no (.inl o_m)) : p := h
def y_dr (h : p := by rw [hon9]) : p := h
def y_ds (h : p := by show (cycleM m).acc ++ _ = _; rw [cycleM_acc]; rfl) : p := h
def y_dt (h : p := by rw [cBd_len (h.bd.write (a - 65296) hx).ln]; rfl) : p := h
def y_du (h : p := by rw [f0]; exact aRG bv 0 5 _ c) : p := h
def y_dv (h : p := by simp [r4_len h]) : p := h
def y_dw (h : p := by rw [if_pos o_m]) : p := h
def y_dx (h : p := by rw [if_neg o_m]) : p := h
def y_dy (h : p := by rw [hu.lV]; rfl) : p := h
def y_dz (h : p := by rw [bq]; exact List.Sublist.refl _) : p := h
def y_dA (h : p := by first | exact qX o_m o_m | exact zX _) : p := h
def y_dB (h : p := by (try simp only [decide_eq_true_eq, decide_eq_false_iff_not, beq_iff_eq, beq_eq_false_iff_ne, bne_iff_ne, bne_eq_false_iff_eq, ne_eq] at *); omega) : p := h
def y_dC (h : p := by first | exact aM 0 rfl rfl rfl rfl y_b | exact aV 0 rfl rfl rfl rfl y_b | exact bT 0 rfl rfl rfl rfl y_b | exact bE 0 rfl rfl rfl rfl y_b) : p := h
def y_dD (h : p := by first | exact gR 4 16 y_b rfl o_m (show _ < (256 : Int) by omega) (show _ < (256 : Int) by decide) | rfl) : p := h
def y_dE (h : p := by first | (intro h; cases h; done) | (intro _ _ _ hK; obtain ⟨rfl, rfl⟩ := hK; exact (fun x hx => y_n))) : p := h
def y_dF (h : p := by first | exact gR 3 8 y_b rfl o_m (show _ < (256 : Int) by omega) (show _ < (256 : Int) by decide) | rfl) : p := h
def y_dG (h : p := by first | exact aM 3 rfl rfl rfl rfl y_b | exact aV 3 rfl rfl rfl rfl y_b | exact bT 3 rfl rfl rfl rfl y_b | exact bE 3 rfl rfl rfl rfl y_b) : p := h
def y_dH (h : p := by first | exact sS 16 y_b o_m (show _ < (256 : Int) by omega) | exact aCl 16 y_b | rfl) : p := h
def y_dI (h : p := by first | exact aM 4 rfl rfl rfl rfl y_b | exact aV 4 rfl rfl rfl rfl y_b | exact bT 4 rfl rfl rfl rfl y_b | exact bE 4 rfl rfl rfl rfl y_b) : p := h
def y_dJ (h : p := by first | exact aM 2 rfl rfl rfl rfl y_b | exact aV 2 rfl rfl rfl rfl y_b | exact bT 2 rfl rfl rfl rfl y_b | exact bE 2 rfl rfl rfl rfl y_b) : p := h
def y_dK (h : p := by first | exact aM 1 rfl rfl rfl rfl y_b | exact aV 1 rfl rfl rfl rfl y_b | exact bT 1 rfl rfl rfl rfl y_b | exact bE 1 rfl rfl rfl rfl y_b) : p := h
def y_dL (h : p := by first | exact sO 7 y_b o_m (show _ < (256 : Int) by omega) (show _ < (256 : Int) by decide) | rfl) : p := h
def y_dM (h : p := by first | exact gR 1 2 y_b rfl o_m (show _ < (256 : Int) by omega) (show _ < (256 : Int) by decide) | rfl) : p := h
def y_dN (h : p := by rw [aI y_a y_a]; (try simp only [decide_eq_true_eq, decide_eq_false_iff_not, beq_iff_eq, beq_eq_false_iff_ne, bne_iff_ne, bne_eq_false_iff_eq, ne_eq] at *); omega) : p := h
def y_dO (h : p := by first | exact sS 256 y_b o_m (show _ < (65536 : Int) by omega) | exact aLW 256 y_b | rfl) : p := h
def y_dP (h : p := by rw [xP y_a]; simp only [Lc_, ar]; (try simp only [decide_eq_true_eq, decide_eq_false_iff_not, beq_iff_eq, beq_eq_false_iff_ne, bne_iff_ne, bne_eq_false_iff_eq, ne_eq] at *); omega) : p := h
def y_dQ (h : p := by first | exact gR 1 2 y_b rfl o_m (show _ < (65536 : Int) by omega) (show _ < (65536 : Int) by decide) | rfl) : p := h
def y_dR (h : p := by first | exact sO 2 y_b o_m (show _ < (256 : Int) by omega) (show _ < (256 : Int) by decide) | rfl) : p := h
def y_dS (h : p := by first | exact sS 256 y_b o_m (show _ < (9223372036854775808 : Int) by omega) | rfl) : p := h
def y_dT (h : p := by rw [e9]; exact hG) : p := h
def y_dU (h : p := by rw [cU_len ((hu.dot_ (x := 0) y_b).line_ (x := u.line + 1) o_m)]; simp only [Lc_, ar]; (try simp only [decide_eq_true_eq, decide_eq_false_iff_not, beq_iff_eq, beq_eq_false_iff_ne, bne_iff_ne, bne_eq_false_iff_eq, ne_eq] at *); omega) : p := h
def y_dV (h : p := by dsimp only; omega) : p := h
def y_dW (h : p := by first | exact sO 6 y_b o_m (show _ < (256 : Int) by omega) (show _ < (256 : Int) by decide) | rfl) : p := h
def y_dX (h : p := by first | exact sO 4 y_b o_m (show _ < (256 : Int) by omega) (show _ < (256 : Int) by decide) | rfl) : p := h
def y_dY (h : p := by first | exact sS 2 y_b o_m (show _ < (256 : Int) by omega) | exact aCl 2 y_b | rfl) : p := h
def y_dZ (h : p := by have h9 := (rowM_cp (aR hm y_v w hw)) 0 _ rfl; exact h9) : p := h
def y_d0 (h : p := by rw [write_R _ hno y_a]) : p := h
def y_d1 (h : p := by rcases (show j < i ∨ j = i by omega) with h9 | rfl; exact hj j h9; exact z2) : p := h
def y_d2 (h : p := by have h9 := (aA2 hrx y_v w hw).at cChg_len hcx0 0 rfl; simpa using h9) : p := h
def y_d3 (h : p := by have h9 := (aR hr y_v w hw).at cSg_len hsi 0 rfl; simpa using h9) : p := h
def y_d4 (h : p := by unfold writeBd; rw [if_neg o_m, if_neg o_m, if_neg y_K, if_neg o_m, bj]; unfold voiceB; rw [if_neg o_m, if_neg o_m]) : p := h
def y_d5 (h : p := by unfold placeV; rw [if_neg y_a, if_neg y_a]) : p := h
def y_d6 (h : p := by unfold writeBd; rw [if_neg o_m, if_neg o_m, if_neg y_K, if_neg o_m, bj]; unfold voiceB; rw [if_pos o_m]) : p := h
def y_d7 (h : p := by first | exact gR 12 4096 y_b rfl o_m (show _ < (65536 : Int) by omega) (show _ < (65536 : Int) by decide) | rfl) : p := h
def y_d8 (h : p := by first | exact gR 6 64 y_b rfl o_m (show _ < (256 : Int) by omega) (show _ < (256 : Int) by decide) | rfl) : p := h
def y_d9 (h : p := by first | exact gR 5 32 y_b rfl o_m (show _ < (256 : Int) by omega) (show _ < (256 : Int) by decide) | rfl) : p := h
def y_ea (h : p := by rw [rowU_len]; omega) : p := h
def y_eb (h : p := by first | exact sO 3 y_b o_m (show _ < (256 : Int) by omega) (show _ < (256 : Int) by decide) | rfl) : p := h
def y_ec (h : p := by intro _ _ _ hK; obtain ⟨_, ⟨rfl, va', Ga', hV', rfl⟩, rfl⟩ := hK; exact (fun x hx => y_bm)) : p := h
def y_ed (h : p := by first | exact sS 128 y_b o_m (show _ < (256 : Int) by omega) | exact aCl 128 y_b | rfl) : p := h
def y_ee (h : p := by simp at *; omega) : p := h
def y_ef (h : p := by rw [e9, if_neg y_b]) : p := h
def y_eg (h : p := by first | exact sS 32 y_b o_m (show _ < (9223372036854775808 : Int) by omega) | rfl) : p := h
def y_eh (h : p := by unfold writeBd; rw [if_neg o_m, if_neg o_m, if_neg y_K, if_pos o_m, bj]) : p := h
def y_ei (h : p := by intro _ _ _ hK; obtain ⟨_, ⟨rfl, rfl⟩, rfl⟩ := hK; exact (fun x hx => y_bm)) : p := h
def y_ej (h : p := by unfold beginB; dsimp only; rw [if_neg y_b, if_neg (show ¬ byB B = 0 from z1)]) : p := h
def y_ek (h : p := by unfold beginB; dsimp only; rw [if_neg y_b, if_pos (show byB B = 0 from z1)]) : p := h
def y_el (h : p := by intro _ _ _ hK; obtain ⟨_, rfl, rfl⟩ := hK; exact (fun x hx => y_n)) : p := h
def y_em (h : p := by rw [tabL_len hP (by simp [tabB]), cO_len]; have := hq1 i y_a; omega) : p := h
def y_en (h : p := by dsimp only; have := hq1 i y_a; rw [aI y_cx y_cx]; simp) : p := h
def y_eo (h : p := by rw [di]) : p := h
def y_ep (h : p := by cases h) : p := h
def y_eq (h : p := by dsimp only; have := hq1 i y_a; rw [aI o_m o_m]; omega) : p := h
def y_er (h : p := by unfold numU; rw [if_pos y_a]) : p := h
def y_es (h : p := by rw [e9]) : p := h
def y_et (h : p := by decide) : p := h
def y_eu (h : p := by simp) : p := h
def iL {Γ : Ctx} {k : dS} {e : Env} {H : aB} {ops l : List Oper} (h : L1 Γ ops l k e H) : L1 Γ ops l k e H := h
def iD {Γ : Ctx} {k : dS} {e : Env} {H : aB} {ops : List Oper} {S : AI → Prop} {need : AE} {pl : hQ} (h : L2 Γ ops S need pl k e H) : L2 Γ ops S need pl k e H := h
def iC {Γ : Ctx} {k : dS} {e : Env} {H : aB} {c : Code} (h : C Γ c k e H) : C Γ c k e H := h
def G_A (h : T_ q p := by
 intro k_
 first
 | ((with_reducible refine iC ?_); first | refine aHI ?_ | refine aNa ?_ | refine aSj ?_ | refine aIQ ?_ | refine aPk ?_ | refine aRk rfl ?_ | refine aP6 rfl ?_ | refine aRl rfl ?_)
 | ((with_reducible refine iL ?_); first | refine aR6 ?_ | refine RLa ?_ | refine RLo ?_ | refine RLp ?_ | refine Rl ?_)
 | ((with_reducible refine iD ?_); first | refine aRQ ?_ | refine RDa ?_ | refine RDo ?_ | refine aKo rfl rfl rfl ?_ | refine RD ?_)
 exact k_.u) := h ⟨k_⟩
def A_1 (h : T_ q p := by intro k_; (iterate 1 refine G_A ?_); exact k_.u) := h ⟨k_⟩
def A_2 (h : T_ q p := by intro k_; (iterate 2 refine G_A ?_); exact k_.u) := h ⟨k_⟩
def A_3 (h : T_ q p := by intro k_; (iterate 3 refine G_A ?_); exact k_.u) := h ⟨k_⟩
def A_4 (h : T_ q p := by intro k_; (iterate 4 refine G_A ?_); exact k_.u) := h ⟨k_⟩
def A_5 (h : T_ q p := by intro k_; (iterate 5 refine G_A ?_); exact k_.u) := h ⟨k_⟩
def A_6 (h : T_ q p := by intro k_; (iterate 6 refine G_A ?_); exact k_.u) := h ⟨k_⟩
def A_7 (h : T_ q p := by intro k_; (iterate 7 refine G_A ?_); exact k_.u) := h ⟨k_⟩
def A_8 (h : T_ q p := by intro k_; (iterate 8 refine G_A ?_); exact k_.u) := h ⟨k_⟩
def A_9 (h : T_ q p := by intro k_; (iterate 9 refine G_A ?_); exact k_.u) := h ⟨k_⟩
def A_10 (h : T_ q p := by intro k_; (iterate 10 refine G_A ?_); exact k_.u) := h ⟨k_⟩
def A_11 (h : T_ q p := by intro k_; (iterate 11 refine G_A ?_); exact k_.u) := h ⟨k_⟩
def A_12 (h : T_ q p := by intro k_; (iterate 12 refine G_A ?_); exact k_.u) := h ⟨k_⟩
def A_13 (h : T_ q p := by intro k_; (iterate 13 refine G_A ?_); exact k_.u) := h ⟨k_⟩
def A_14 (h : T_ q p := by intro k_; (iterate 14 refine G_A ?_); exact k_.u) := h ⟨k_⟩
def A_15 (h : T_ q p := by intro k_; (iterate 15 refine G_A ?_); exact k_.u) := h ⟨k_⟩
def A_16 (h : T_ q p := by intro k_; (iterate 16 refine G_A ?_); exact k_.u) := h ⟨k_⟩
def A_17 (h : T_ q p := by intro k_; (iterate 17 refine G_A ?_); exact k_.u) := h ⟨k_⟩
def A_18 (h : T_ q p := by intro k_; (iterate 18 refine G_A ?_); exact k_.u) := h ⟨k_⟩
def A_19 (h : T_ q p := by intro k_; (iterate 19 refine G_A ?_); exact k_.u) := h ⟨k_⟩
def A_20 (h : T_ q p := by intro k_; (iterate 20 refine G_A ?_); exact k_.u) := h ⟨k_⟩
def A_21 (h : T_ q p := by intro k_; (iterate 21 refine G_A ?_); exact k_.u) := h ⟨k_⟩
def A_22 (h : T_ q p := by intro k_; (iterate 22 refine G_A ?_); exact k_.u) := h ⟨k_⟩
def A_23 (h : T_ q p := by intro k_; (iterate 23 refine G_A ?_); exact k_.u) := h ⟨k_⟩
def A_24 (h : T_ q p := by intro k_; (iterate 24 refine G_A ?_); exact k_.u) := h ⟨k_⟩
def A_25 (h : T_ q p := by intro k_; (iterate 25 refine G_A ?_); exact k_.u) := h ⟨k_⟩
def A_27 (h : T_ q p := by intro k_; (iterate 27 refine G_A ?_); exact k_.u) := h ⟨k_⟩
def A_28 (h : T_ q p := by intro k_; (iterate 28 refine G_A ?_); exact k_.u) := h ⟨k_⟩
def A_40 (h : T_ q p := by intro k_; (iterate 40 refine G_A ?_); exact k_.u) := h ⟨k_⟩
def A_51 (h : T_ q p := by intro k_; (iterate 51 refine G_A ?_); exact k_.u) := h ⟨k_⟩
def A_53 (h : T_ q p := by intro k_; (iterate 53 refine G_A ?_); exact k_.u) := h ⟨k_⟩
def ZAA (h : T_ q p := by
 intro k_
 refine dT false rfl rfl rfl (beq_eq_false_iff_ne.2 o_m) ?_
 exact k_.u) := h ⟨k_⟩
def ZAB (h : T_ q p := by
 intro k_
 simp only [cg, bw, bq, ap, cn]
 exact k_.u) := h ⟨k_⟩
def ZAC (h : T_ q p := by
 intro k_
 simp only [ap, cn]
 exact k_.u) := h ⟨k_⟩
def ZAD (h : T_ q p := by
 intro k_
 refine RW (v := (.int .i64 ((i + 1 : Nat) : Int))) rfl rfl (cA_ _ (bB o_m)) (ZAn ?_)
 exact k_.u) := h ⟨k_⟩
def ZAE (h : T_ q p := by
 intro k_
 refine ZEH ?_
 refine ZBB ?_
 exact k_.u) := h ⟨k_⟩
def ZAF (h : T_ q p := by
 intro k_
 refine ZC6 ?_
 refine ZB4 ?_
 exact k_.u) := h ⟨k_⟩
def ZAH (h : T_ q p := by
 intro k_
 refine aCw _ [11, 12, 22, 23, 34, 35, 46, 47] [0, 0, 3, 7, 15, 15, 15, 111, 255, 511, 1023, 15, 2063, 8191, 16383, 32767, 32767, 32767, 229375, 524287, 1048575, 2097151, 32767, 4227071, 16777215, 33554431, 67108863, 134217727, 134217727, 134217727, 939524095, 2147483647, 4294967295, 8589934591, 134217727, 17314086911, 68719476735, 137438953471, 274877906943, 549755813887, 549755813887, 549755813887, 3848290697215, 8796093022207, 17592186044415, 35184372088831, 549755813887, 70918499991551, 281474976710655, 562949953421311, 1125899906842623] (.step true 0 (.step true 1 (.step true 2 (.step true 3 (.step true 4 (.step true 5 (.step true 6 (.step true 7 (.step true 8 (.step true 9 (.step true 10 (.step true 11 (.step true 12 (.step true 13 (.step true 14 (.step true 15 (.step true 16 (.step true 17 (.step true 18 (.step true 19 (.step true 20 (.step true 21 (.step true 22 (.step true 23 (.step true 24 (.step true 25 (.step true 26 (.step true 27 (.step true 28 (.step true 29 (.step true 30 (.step true 31 (.step true 32 (.step true 33 (.step true 34 (.step true 35 (.step true 36 (.step true 37 (.step true 38 (.step true 39 (.step true 40 (.step true 41 (.step true 42 (.step true 43 (.step true 44 (.step true 45 (.step true 46 (.step true 47 (.step true 48 (.step true 49 (.step true 50 .done))))))))))))))))))))))))))))))))))))))))))))))))))) rfl y_i y_i y_i (fun _ h => h) ?_
 refine ZBB ?_
 exact k_.u) := h ⟨k_⟩
def ZAI (h : T_ q p := by
 intro k_
 refine ZEH ?_
 refine ZAn ?_
 exact k_.u) := h ⟨k_⟩
def ZAJ (h : T_ q p := by
 intro k_
 exact DW (v := (.int .i64 ((i - (N - 32) : Nat) : Int))) rfl rfl rfl (cA_ _ ((aI o_m o_m).trans o_m)) (DY rfl (bE (s := 9) (i - (N - 32)) rfl rfl rfl rfl o_m) rfl (k_.u))) := h ⟨k_⟩
def ZAK (h : T_ q p := by
 intro k_
 exact RZ (aL rfl rfl y_u (aA (b := b0) (l := cBd ((putB k x B).setV (k / 5) { ((putB k x B).v (k / 5)) with on := ((putB k x B).v (k / 5)).on && readyB (k / 5) (putB k x B) })) m_m)) rfl (RZ (aD (l' := cBd ((putB k x B).setV (k / 5) { ((putB k x B).v (k / 5)) with on := ((putB k x B).v (k / 5)).on && readyB (k / 5) (putB k x B) })) 0 rfl rfl rfl y_bU (ones_cBd _) rfl y_b7 (putZ hWO)) rfl (k_.u))) := h ⟨k_⟩
def ZAL (h : T_ q p := by
 intro k_
 exact RZ (aL rfl rfl y_P (aA (b := b0) (l := cBd ({ (beatB ({ B with div := 0 } : Bd)) with step := (B.step + 1) % 8 } : Bd)) m_m)) rfl (RZ (aD (l' := cBd ({ (beatB ({ B with div := 0 } : Bd)) with step := (B.step + 1) % 8 } : Bd)) 0 rfl rfl rfl y_P (ones_cBd _) rfl y_bd (putZ hFN)) rfl (k_.u))) := h ⟨k_⟩
def ZAN (h : T_ q p := by
 intro k_
 refine RX (dY (A := (b0, blk [.int .u64 (FK.at Z.1 oi)] 31) :: (lb, blk [v0, .bool r] 151) :: G0) (G := [(pb, blk Z.1 T)]) (R := fun v H => v = .tuple #[] ∧ ∃ va' Gl', LineB 5 r va' (goes r 1 (FK.at Z.1 oi) Z.2).2 Gl' ∧ H = (b0, blk [.int .u64 (goes r 1 (FK.at Z.1 oi) Z.2).1] 31) :: (lb, blk [va', .bool r] 151) :: Gl') (((b0, blk [.int .u64 (FK.at Z.1 oi)] 31) :: (lb, blk [v0, .bool r] 151) :: G0).map (·.1)) K_ rfl (fun _ hb => eA hb) (wL_ (number1L_fn r lb b0 1 y_b v0 (FK.at Z.1 oi) hx8 Z.2 G0 hV0 (fun L => ⟨hSz.byts, hSz.en, hSz.sz⟩) _))) rfl ?_
 rintro _ _ ⟨_, ⟨rfl, va0, G1, hV1, rfl⟩, rfl⟩
 revert va0 G1 hV1
 exact k_.u) := h ⟨k_⟩
def ZAO (h : T_ q p := by
 intro k_
 refine RX (dC (l := [.int .i64 kind, .int .i64 banks, .int .i64 ram, .bool on, .bool mode, .int .i64 low, .int .i64 high, .int .u8 last]) rfl rfl) rfl (ZBz fun b0 => ?_)
 revert b0
 exact k_.u) := h ⟨k_⟩
def ZAP (h : T_ q p := by
 intro k_
 exact RZ (aL rfl rfl rfl y_h) rfl (k_.u)) := h ⟨k_⟩
def ZAQ (h : T_ q p := by
 intro k_
 refine ZBR ?_
 exact RZ (aD (l' := cBd (((putB k x B).setV (k / 5) { ((putB k x B).v (k / 5)) with on := ((putB k x B).v (k / 5)).on && readyB (k / 5) (putB k x B) }))) 1 rfl rfl rfl rfl rfl rfl y_bc (putBd_v hPK (k := 0) (y := { ((putB k x B).v (k / 5)) with on := ((putB k x B).v (k / 5)).on && readyB (k / 5) (putB k x B) }) o_m y_b (by rfl))) rfl (k_.u)) := h ⟨k_⟩
def ZAR (h : T_ q p := by
 intro k_
 refine ZDk ?_
 rintro _ _ ⟨b1, rfl, rfl⟩
 revert b1
 exact k_.u) := h ⟨k_⟩
def ZAS (h : T_ q p := by
 intro k_
 refine dT true rfl rfl rfl (beq_iff_eq.2 hk) ?_
 exact k_.u) := h ⟨k_⟩
def ZAT (h : T_ q p := by
 intro k_
 refine dT false rfl rfl rfl (cr o_m) ?_
 exact k_.u) := h ⟨k_⟩
def ZAU (h : T_ q p := by
 intro k_
 exact RW (dM rfl rfl rfl) rfl y_d (k_.u)) := h ⟨k_⟩
def ZAV (h : p := by
 have e1 : heldB a x ⟨kind, banks, ram, on, mode, low, high, last⟩ = false := by unfold heldB; dsimp only; rw [Bool.eq_iff_iff]; simp only [decide_eq_true_eq, beq_iff_eq, Bool.false_eq_true, iff_false]; omega
 exact aF (fun w hw => bC rfl rfl rfl (aA (b := b1) m_m w hw) rfl) ⟨rfl, y_W⟩) : p := h
def ZAW (h : T_ q p := by
 intro k_
 refine ZBR ?_
 exact RX (cB (F := [(b0, blk (cCp (tickCp (cyc2 (cyc1 m)).cp)) 115)]) (A := [(A.mb, blk (cMm A acc (askM 1 (aG .u8 (tickV (cyc4 (cyc3 (cyc2 (cyc1 m)))).u) 1 != 0) { (cyc4 (cyc3 (cyc2 (cyc1 m)))) with u := tickU (cyc4 (cyc3 (cyc2 (cyc1 m)))).u })) 130)]) (G := [(A.ub, blk (cU (tickU (cyc4 (cyc3 (cyc2 (cyc1 m)))).u)) 204)]) (R := fun v H => v = .tuple #[] ∧ H = [(A.mb, blk (cMm A acc (askM 2 (aG .u8 (tickV (cyc4 (cyc3 (cyc2 (cyc1 m)))).u) 2 != 0) (askM 1 (aG .u8 (tickV (cyc4 (cyc3 (cyc2 (cyc1 m)))).u) 1 != 0) { (cyc4 (cyc3 (cyc2 (cyc1 m)))) with u := tickU (cyc4 (cyc3 (cyc2 (cyc1 m)))).u }))) 130)]) K_ rfl (fun w hw _ => ask_fnM A acc (askM 1 (aG .u8 (tickV (cyc4 (cyc3 (cyc2 (cyc1 m)))).u) 1 != 0) { (cyc4 (cyc3 (cyc2 (cyc1 m)))) with u := tickU (cyc4 (cyc3 (cyc2 (cyc1 m)))).u }) hA5b 2 (aG .u8 (tickV (cyc4 (cyc3 (cyc2 (cyc1 m)))).u) 2 != 0) w hw)) rfl (k_.u)) := h ⟨k_⟩
def ZAX (h : p := by
 refine ZAn ?_
 exact aF (fun w hw => aU rfl rfl y_P (aA (b := b1) (l := cBd ({ (beatB ({ B with div := 0 } : Bd)) with step := (B.step + 1) % 8 } : Bd)) m_m w hw)) ⟨rfl, y_I⟩) : p := h
def ZAY (h : T_ q p := by
 intro k_
 refine dT false rfl rfl rfl rfl ?_
 exact k_.u) := h ⟨k_⟩
def ZAZ (h : p := by
 refine ZBB ?_
 exact E0 rfl ⟨rfl, rfl⟩) : p := h
def ZAa (h : T_ q p := by
 intro k_
 exact RW (cM rfl rfl) rfl rfl (k_.u)) := h ⟨k_⟩
def ZAb (h : T_ q p := by
 intro k_
 exact RW (jI rfl rfl) rfl y_d (k_.u)) := h ⟨k_⟩
def ZAc (h : T_ q p := by
 intro k_
 exact RZ (aL rfl rfl rfl y_q) rfl (k_.u)) := h ⟨k_⟩
def ZAd (h : T_ q p := by
 intro k_
 refine RW (v := (.int .i64 ((n + 1 : Nat) : Int))) rfl rfl (cA_ _ (bB o_m)) (ZAn ?_)
 exact k_.u) := h ⟨k_⟩
def ZAe (h : T_ q p := by
 intro k_
 refine RX (dC (l := [.int .u16 cnt, .int .u8 tima, .int .u8 tma, .int .u8 tac, .bool over]) rfl rfl) rfl (ZBz fun b0 => ?_)
 revert b0
 exact k_.u) := h ⟨k_⟩
def ZAf (h : T_ q p := by
 intro k_
 refine ZBR ?_
 exact RX (cB (F := [(b0, blk (cCp (tickCp (cyc2 (cyc1 m)).cp)) 115)]) (A := [(A.mb, blk (cMm A acc { (cyc4 (cyc3 (cyc2 (cyc1 m)))) with u := tickU (cyc4 (cyc3 (cyc2 (cyc1 m)))).u }) 130)]) (G := [(A.ub, blk (cU (tickU (cyc4 (cyc3 (cyc2 (cyc1 m)))).u)) 204)]) (R := fun v H => v = .tuple #[] ∧ H = [(A.mb, blk (cMm A acc (askM 1 (aG .u8 (tickV (cyc4 (cyc3 (cyc2 (cyc1 m)))).u) 1 != 0) { (cyc4 (cyc3 (cyc2 (cyc1 m)))) with u := tickU (cyc4 (cyc3 (cyc2 (cyc1 m)))).u })) 130)]) K_ rfl (fun w hw _ => ask_fnM A acc { (cyc4 (cyc3 (cyc2 (cyc1 m)))) with u := tickU (cyc4 (cyc3 (cyc2 (cyc1 m)))).u } hA5 1 (aG .u8 (tickV (cyc4 (cyc3 (cyc2 (cyc1 m)))).u) 1 != 0) w hw)) rfl (k_.u)) := h ⟨k_⟩
def ZAg (h : T_ q p := by
 intro k_
 rintro _ _ ⟨_, ⟨rfl, G0, rfl, hG0⟩, rfl⟩
 revert G0 hG0
 exact k_.u) := h ⟨k_⟩
def ZAh (h : T_ q p := by
 intro k_
 refine ZBR ?_
 exact RZ (aD (l' := cBd (({ (beatB ({ B with div := 0 } : Bd)) with step := (B.step + 1) % 8 } : Bd))) 1 rfl rfl rfl rfl rfl rfl y_0 (putBd_step hE _)) rfl (k_.u)) := h ⟨k_⟩
def ZAi (h : p := by
 refine ZAD ?_
 exact ⟨(i + 1, va0, G1), ⟨y_B, y_bK⟩, y_B, .cons rfl .nil, a_g, fun _ h => (((h.sub (.cons_cons _ (.cons _ sR_))).perm (au (l₁ := [(pb, _)]) (l₂ := (lb, _) :: G1)))).as y_b1⟩) : p := h
def ZAj (h : p := by
 have e1 : latchB a x ⟨kind, banks, ram, on, mode, low, high, last⟩ = false := by unfold latchB; simp_all
 exact aF (fun w hw => bC rfl rfl rfl (aA (b := b1) m_m w hw) rfl) ⟨rfl, y_V⟩) : p := h
def ZAk (h : p := by
 refine ZAI ?_
 exact aF (fun w hw => aU rfl rfl rfl (aA (b := b1) m_m w hw)) ⟨rfl, y_M⟩) : p := h
def ZAl (h : T_ q p := by
 intro k_
 refine ZAn ?_
 exact RX (dC (l := [.int .u8 s, .int .u8 m, .int .u8 h, .int .i64 day, .int .i64 sub, .bool halt, .bool carry, .int .u8 d0, .int .u8 d1, .int .u8 d2, .int .u8 d3, .int .u8 d4]) rfl rfl) rfl (k_.u)) := h ⟨k_⟩
def ZAm (h : T_ q p := by
 intro k_
 have e7 : (if o.kind = 26 ∧ o.x ≠ 4 then idles K.toaSX 1 x else x) = x := if_neg o_m
 revert e7
 exact k_.u) := h ⟨k_⟩
def ZAn (h : T_ q p := by
 intro k_
 refine A_2 ?_
 exact k_.u) := h ⟨k_⟩
def ZAo (h : T_ q p := by
 intro k_
 simp only [ap]
 refine RS ?_
 exact k_.u) := h ⟨k_⟩
def ZAp (h : T_ q p := by
 intro k_
 exact RZ (aH rfl rfl (aT (v := P_ A.ub) m_m (get_mid (m := (cyc4 (cyc3 (cyc2 (cyc1 m))))) q3.ln (j := 14) rfl))) rfl (RX (cB (F := [(b0, blk (cCp (tickCp (cyc2 (cyc1 m)).cp)) 115), (A.mb, blk (cMm A acc (cyc4 (cyc3 (cyc2 (cyc1 m))))) 130)]) (A := [(A.ub, blk (cU (cyc4 (cyc3 (cyc2 (cyc1 m)))).u) 204)]) (G := []) (R := fun v H => v = .int .u8 (tickV (cyc4 (cyc3 (cyc2 (cyc1 m)))).u) ∧ H = [(A.ub, blk (cU (tickU (cyc4 (cyc3 (cyc2 (cyc1 m)))).u)) 204)]) K_ rfl (wA_ (tick_fn A.ub (cyc4 (cyc3 (cyc2 (cyc1 m)))).u q3.u))) rfl (k_.u))) := h ⟨k_⟩
def ZAs (h : T_ q p := by
 intro k_
 refine cE (H' := [(b, blk (cU (stepU u)) 204)]) (fun _ h => h.as y_cd) ?_
 exact RZ (dB K_ rfl (wV_ (ask_fn b (stepU u) hws))) rfl (k_.u)) := h ⟨k_⟩
def ZAt (h : T_ q p := by
 intro k_
 refine ZDk ?_
 refine ZBz fun b0 => ?_
 revert b0
 exact k_.u) := h ⟨k_⟩
def ZAw (h : p := by
 refine ZB6 ?_
 exact E0 rfl ⟨rfl, rfl⟩) : p := h
def ZAx (h : T_ q p := by
 intro k_
 refine RX (aS (F := [(b0, _)]) (A := (rb, _) :: _) K_ rfl (wL_ (ridle_fn K rb 1 y_b x h G hG))) rfl (ZAg fun G0 hG0 => ?_)
 revert G0 hG0
 exact k_.u) := h ⟨k_⟩
def ZAy (h : T_ q p := by
 intro k_
 refine ZBR ?_
 refine ZEH ?_
 exact k_.u) := h ⟨k_⟩
def ZAz (h : T_ q p := by
 intro k_
 refine ZBR ?_
 refine ZAE ?_
 exact k_.u) := h ⟨k_⟩
def ZA0 (h : T_ q p := by
 intro k_
 refine ZAA ?_
 refine ZB6 ?_
 exact k_.u) := h ⟨k_⟩
def ZA1 (h : T_ q p := by
 intro k_
 refine dT true rfl rfl rfl rfl ?_
 exact k_.u) := h ⟨k_⟩
def ZA2 (h : T_ q p := by
 intro k_
 refine ZBR ?_
 exact DX rfl (cB (F := (b0, _) :: Ga) (A := [(A.mb, blk (cMm A va m) 130), (A.ub, blk (cU m.u) 204)]) (G := [(A.rb, blk (List.map U_ m.ram ++ A.rs) 5), (A.ob, blk (List.map U_ m.rom ++ A.sp) 5)]) (R := fun v H => v = .int .u8 (seenM a (cycleM m)) ∧ H = [(A.mb, blk (cMm A va (cycleM m)) 130), (A.ub, blk (cU (cycleM m).u) 204)]) K_ rfl (fun w hw hw2 => seen_fn A va m h a ha w hw (Row.left (aA (b := A.rb) m_m w hw2)) (Row.left (aA (b := A.ob) m_m w hw2)) hd)) rfl y_ei (k_.u)) := h ⟨k_⟩
def ZA3 (h : T_ q p := by
 intro k_
 exact RZ (aL rfl rfl y_bj (aA (b := b0) (l := cBd B) m_m)) rfl (RZ (aD (l' := cBd B) 0 rfl rfl rfl y_bj (ones_cBd _) rfl y_ca (putZ hB)) rfl (k_.u))) := h ⟨k_⟩
def ZA4 (h : T_ q p := by
 intro k_
 refine RZ (aL rfl rfl rfl y_G) rfl (ZAE ?_)
 exact k_.u) := h ⟨k_⟩
def ZA5 (h : T_ q p := by
 intro k_
 refine cE (fun w hw => hw.perm (au (l₁ := (b0, _) :: (lb, _) :: G1) (l₂ := [(pb, _)]))) ?_
 refine ZAB ?_
 exact k_.u) := h ⟨k_⟩
def ZA6 (h : T_ q p := by
 intro k_
 refine ZBx ?_
 exact RX (cB (F := (b0, _) :: Ga) (A := [(A.mb, blk (cMm A va m) 130), (A.ub, blk (cU m.u) 204)]) (G := [(A.rb, blk (List.map U_ m.ram ++ A.rs) 5), (A.ob, blk (List.map U_ m.rom ++ A.sp) 5)]) (R := fun v H => v = .tuple #[] ∧ H = [(A.mb, blk (cMm A va (cycleM m)) 130), (A.ub, blk (cU (cycleM m).u) 204)]) K_ rfl (fun w hw hw2 => cycle_fn A va m h w hw (Row.left (aA (b := A.rb) m_m w hw2)) (Row.left (aA (b := A.ob) m_m w hw2)) hd)) rfl (k_.u)) := h ⟨k_⟩
def ZA7 (h : T_ q p := by
 intro k_
 exact RW (dK rfl rfl y_b) rfl (iK 256 y_b y_b) (RW (v := (.int .u8 (x / 256))) (dM rfl rfl rfl) rfl (cA_ _ ((eX _).trans o_m)) (k_.u))) := h ⟨k_⟩
def ZA8 (h : T_ q p := by
 intro k_
 have hVc : Vec 52 3 va (cycleM m).acc.length (aE cAc (cycleM m).acc) Ga := by rw [cycleM_acc]; exact hV
 have hrc : (cycleM m).acc.length + 1 ≤ 1000000 := by rw [cycleM_acc]; omega
 revert hVc hrc
 exact k_.u) := h ⟨k_⟩
def ZA9 (h : p := by
 refine A_17 ?_
 exact aF (fun _ _ => bZ rfl rfl) ⟨rfl, _, rfl⟩) : p := h
def ZBA (h : T_ q p := by
 intro k_
 refine ZAP ?_
 exact RX (aS (F := [(b0, _)]) (A := (rb, _) :: _) K_ rfl (wL_ (rbytes_fn K rb x (h.le o_m : RunOk K.toaSY (bn + 2) x) G hG o ho))) rfl (k_.u)) := h ⟨k_⟩
def ZBB (h : T_ q p := by
 intro k_
 refine A_3 ?_
 exact k_.u) := h ⟨k_⟩
def ZBC (h : T_ q p := by
 intro k_
 exact RY (aV (n := romS b) (329) rfl rfl rfl rfl o_m) rfl (RZ (aD (l' := (((((madeP (List.replicate (romS b) 0) prog (min prog.length 15000)).set 327 kind).set 328 (b % 9))).set (329) (ram)).map U_) 0 rfl rfl rfl rfl rfl rfl (len_byte (n := romS b) y_O o_m) (put_byte (l := (((madeP (List.replicate (romS b) 0) prog (min prog.length 15000)).set 327 kind).set 328 (b % 9))) (n := romS b) ram y_O y_E y_E)) rfl (k_.u))) := h ⟨k_⟩
def ZBD (h : T_ q p := by
 intro k_
 refine DR [4, 5, 6, 7, 8, 9, 10, 11, 12] (pln [0, 2, 4, 6, 8, 10, 12, 14, 16, 18, 20, 22, 24, 27]) ?_
 refine A_13 ?_
 exact k_.u) := h ⟨k_⟩
def ZBE (h : T_ q p := by
 intro k_
 refine DX rfl (aS (F := [(b0, _)]) (A := (rb, _) :: _) K_ rfl (wL_ (rget_fn K rb x h G hG o.y))) rfl y_J (ZAg fun G0 hG0 => ?_)
 revert G0 hG0
 exact k_.u) := h ⟨k_⟩
def ZBF (h : T_ q p := by
 intro k_
 refine ZEM ?_
 refine ZBR ?_
 exact k_.u) := h ⟨k_⟩
def ZBG (h : p := by
 refine ZAI ?_
 exact aF (fun w hw => aU rfl rfl rfl (aA (b := b2) m_m w hw)) ⟨rfl, y_Y⟩) : p := h
def ZBH (h : T_ q p := by
 intro k_
 refine RX (dC (l := [.int .u8 data, .int .u8 control, .int .u8 last, .int .i64 bits, .int .i64 count, .int .i64 sent]) rfl rfl) rfl (ZBz fun b0 => ?_)
 revert b0
 exact k_.u) := h ⟨k_⟩
def ZBI (h : p := by
 refine ZBR ?_
 exact EN sR_ ⟨rfl, y_l⟩) : p := h
def ZBJ (h : T_ q p := by
 intro k_
 exact RZ (aL rfl rfl rfl (fun w hw => rowM_bk (m := m) (acc := acc) (aA (b := A.mb) m_m w hw))) rfl (k_.u)) := h ⟨k_⟩
def ZBK (h : T_ q p := by
 intro k_
 exact RY (aV (n := romS b) (328) rfl rfl rfl rfl o_m) rfl (RZ (aD (l' := ((((madeP (List.replicate (romS b) 0) prog (min prog.length 15000)).set 327 kind)).set (328) ((b % 9))).map U_) 0 rfl rfl rfl rfl rfl rfl (len_byte (n := romS b) y_O o_m) (put_byte (l := ((madeP (List.replicate (romS b) 0) prog (min prog.length 15000)).set 327 kind)) (n := romS b) (b % 9) y_O y_E y_E)) rfl (k_.u))) := h ⟨k_⟩
def ZBL (h : p := by
 refine KC (fun q8 z8 => ?_) (fun q8 z8 => ?_)
 ·refine ZBB ?_
  refine RW (iB rfl rfl) rfl y_r (ZBB ?_)
  refine RY (aM (a - 65408).toNat rfl rfl rfl o_m o_m) rfl (RZ (aD (l' := cMm A acc { m with high := m.high.set (a - 65408).toNat x }) 0 rfl rfl rfl rfl rfl rfl y_bk (putM_high h.ln o_m _)) rfl (ZAC ?_))
  exact ZBI
 exact ZBI) : p := h
def ZBM (h : T_ q p := by
 intro k_
 refine ZAC ?_
 refine ZAn ?_
 exact k_.u) := h ⟨k_⟩
def ZBN (h : T_ q p := by
 intro k_
 exact DW rfl (dM rfl rfl rfl) rfl y_p (k_.u)) := h ⟨k_⟩
def ZBO (h : T_ q p := by
 intro k_
 refine eP (L' := [(b1, blk (cBd bdZ) 121), (b0, blk (cBd (beatB ({ B with div := 0 } : Bd))) 121)]) (fun w h => h.as y_cy) ?_
 refine ZAn ?_
 exact RZ (aH rfl rfl (aT (v := .int .i64 B.step) m_m ((cBd_step hE).trans y_ct))) rfl (k_.u)) := h ⟨k_⟩
def ZBP (h : T_ q p := by
 intro k_
 refine RX (dC (l := [P_ A.mb]) rfl rfl) rfl (ZBz fun b0 => ?_)
 revert b0
 exact k_.u) := h ⟨k_⟩
def ZBQ (h : T_ q p := by
 intro k_
 refine ZAA ?_
 refine ZBx ?_
 exact k_.u) := h ⟨k_⟩
def ZBR (h : T_ q p := by
 intro k_
 refine A_1 ?_
 exact k_.u) := h ⟨k_⟩
def ZBS (h : T_ q p := by
 intro k_
 exact RY (aV (n := romS b) (327) rfl rfl rfl rfl o_m) rfl (RZ (aD (l' := (((madeP (List.replicate (romS b) 0) prog (min prog.length 15000))).set (327) (kind)).map U_) 0 rfl rfl rfl rfl rfl rfl (len_byte (n := romS b) y_O o_m) (put_byte (l := (madeP (List.replicate (romS b) 0) prog (min prog.length 15000))) (n := romS b) kind y_O y_E y_E)) rfl (k_.u))) := h ⟨k_⟩
def ZBT (h : T_ q p := by
 intro k_
 exact RW (iB rfl rfl) rfl y_d (k_.u)) := h ⟨k_⟩
def ZBU (h : T_ q p := by
 intro k_
 exact RW (kE rfl rfl y_b) rfl y_R (k_.u)) := h ⟨k_⟩
def ZBV (h : T_ q p := by
 intro k_
 refine ZBF ?_
 exact RW (dJ rfl rfl y_b) rfl y_dH (k_.u)) := h ⟨k_⟩
def ZBW (h : T_ q p := by
 intro k_
 refine ZBB ?_
 exact DW (v := (.slice (Q_ b) u.V.length 8192)) rfl (fO 0 8192 rfl rfl rfl rfl rfl rfl y_b y_b) rfl y_dy (k_.u)) := h ⟨k_⟩
def ZBY (h : T_ q p := by
 intro k_
 exact RY (aV i rfl rfl rfl rfl o_m) rfl (k_.u)) := h ⟨k_⟩
def ZBZ (h : T_ q p := by
 intro k_
 rintro _ _ ⟨_, ⟨rfl, G1, rfl, hG1⟩, rfl⟩
 revert G1 hG1
 exact k_.u) := h ⟨k_⟩
def ZBa (h : T_ q p := by
 intro k_
 refine ZAm fun e7 => ?_
 have e8 : metJ o x = true := by unfold metJ; rw [(cr o_m : decide (23 ≤ o.kind ∧ o.kind ≤ 26) = false)]; rfl
 revert e7 e8
 exact k_.u) := h ⟨k_⟩
def ZBb (h : p := by
 refine A_14 ?_
 exact E0 rfl ⟨rfl, (cA_ Value.bool (sig_off (t := ⟨cnt, tima, tma, tac, over⟩) o_m))⟩) : p := h
def ZBc (h : p := by
 refine RW (v := _) (kE rfl rfl o_m) rfl (cA_ (Value.int .i64) (Int.tmod_eq_emod_of_nonneg o_m)) (ZB6 ?_)
 exact aF (fun _ _ => bZ rfl rfl) ⟨rfl, y_e⟩) : p := h
def ZBd (h : T_ q p := by
 intro k_
 refine DZ rfl (aZ K_ rfl (fun w hw => line_fn (u.r 0) (u.r 7) (u.r 8) (u.r 9) (hu.look 0) (hu.look 7) (hu.look 8) (hu.look 9) _ _ _ _ u.V u.O hu.bV hu.bO (by rw [hu.lO]; decide) u.line (belowU u) (tLine_len _ _ _ _) (tLine_byts _ _ _ _) w (Ns.of (rowV (aA m_m w hw))) (Ns.of (rowO hu (aA m_m w hw))))) rfl y_c ?_
 rw [rowU_vals]
 exact k_.u) := h ⟨k_⟩
def ZBe (h : T_ q p := by
 intro k_
 refine ZBB ?_
 refine RLv K_ (wQ_ (place_fn b _ ha)) ?_
 exact k_.u) := h ⟨k_⟩
def ZBf (h : T_ q p := by
 intro k_
 exact RW (bA rfl rfl) rfl y_dD (k_.u)) := h ⟨k_⟩
def ZBg (h : T_ q p := by
 intro k_
 refine c_u ?_
 exact DZ rfl (xS_ (l' := cDd ⟨1, 0, r.pc, (nextT K.toaSX (⟨(⟨r, ime, false, false, false⟩ : CS), m⟩ : Rn _)).1, (ordT K.toaSX (nextT K.toaSX (⟨(⟨r, ime, false, false, false⟩ : CS), m⟩ : Rn _)).1 r.pc (nextT K.toaSX (⟨(⟨r, ime, false, false, false⟩ : CS), m⟩ : Rn _)).2).1⟩) 1) rfl y_dE (k_.u)) := h ⟨k_⟩
def ZBh (h : T_ q p := by
 intro k_
 refine aSU rfl (aK rfl) rfl rfl ?_
 exact k_.u) := h ⟨k_⟩
def ZBi (h : p := by
 refine ZAI ?_
 exact aF (fun w hw => aU rfl rfl rfl (aA (b := b1) m_m w hw)) ⟨rfl, y_bb⟩) : p := h
def ZBj (h : T_ q p := by
 intro k_
 refine ZBB ?_
 exact DW rfl (dM rfl rfl rfl) rfl y_r (k_.u)) := h ⟨k_⟩
def ZBk (h : p := by
 refine ZAI ?_
 exact aF (fun w hw => aU rfl rfl rfl (aA (b := b1) m_m w hw)) ⟨rfl, rfl⟩) : p := h
def ZBl (h : p := by
 refine ZAI ?_
 exact aF (fun w hw => aU rfl rfl rfl (aA (b := b1) m_m w hw)) ⟨rfl, y_9⟩) : p := h
def ZBm (h : T_ q p := by
 intro k_
 exact DL rfl rfl rfl (fG (hra _ _ (dL (j := 334) o_m)) y_v) rfl (DW (v := (.int .u16 (l.getD 334 0))) rfl (dM rfl rfl rfl) rfl (zC hb4.1 o_m) (k_.u))) := h ⟨k_⟩
def ZBn (h : T_ q p := by
 intro k_
 exact DL rfl rfl rfl (fG (hra _ _ (dL (j := 335) o_m)) y_v) rfl (DW (v := (.int .u16 (l.getD 335 0))) rfl (dM rfl rfl rfl) rfl (zC hb5.1 o_m) (k_.u))) := h ⟨k_⟩
def ZBo (h : T_ q p := by
 intro k_
 exact RY (bT (s := 4) (k / 5) rfl rfl rfl o_m o_m) rfl (k_.u)) := h ⟨k_⟩
def ZBp (h : T_ q p := by
 intro k_
 refine RZ (aL rfl rfl y_cQ (fun w hw => row_vs hB (aA (b := b0) (l := cBd B) m_m w hw))) rfl (ZBB ?_)
 exact k_.u) := h ⟨k_⟩
def ZBq (h : T_ q p := by
 intro k_
 refine aSo (ks := [.int .i64, .int .i64, .int .i64, .int .i64, .int .u16]) rfl rfl rfl y_i y_i rfl rfl rfl rfl (b := false) (by simp [mK, veq, cO]) ?_
 refine ZBx ?_
 exact k_.u) := h ⟨k_⟩
def ZBr (h : T_ q p := by
 intro k_
 refine bU rfl rfl rfl rfl (jX (b := b6) (l' := cO (stepM [] ((gT p).m i)).1.op) m_m 3 5 rfl) rfl rfl ?_
 exact k_.u) := h ⟨k_⟩
def ZBs (h : T_ q p := by
 intro k_
 refine DZ rfl (xS_ (l' := cHd ⟨(nameH ((l.drop 308).take 15)), ((sortH (l.getD 327 0)).getD (0, false, false)).1, ((sortH (l.getD 327 0)).getD (0, false, false)).2.1, ((sortH (l.getD 327 0)).getD (0, false, false)).2.2, 2 * 2 ^ (l.getD 328 0).toNat, (sizesH.getD (l.getD 329 0).toNat 0), false⟩) 0) rfl n_h (ZAB ?_)
 exact k_.u) := h ⟨k_⟩
def ZBt (h : T_ q p := by
 intro k_
 exact RW (jI rfl rfl) rfl y_p (k_.u)) := h ⟨k_⟩
def ZBu (h : T_ q p := by
 intro k_
 exact RW (aAm rfl rfl) rfl y_d (k_.u)) := h ⟨k_⟩
def ZBv (h : T_ q p := by
 intro k_
 exact RX (aS (F := []) (A := (b0, blk [ad6, v0] 243) :: G0) (R := fun v H => v = .nilIface ∧ ∃ va' G', Vec 5 1 va' (i + 1) (txV ((l.take i).map chrH) ++ [.int .u8 63]) G' ∧ H = (b0, blk [(P_ b0), va'] 243) :: G') K_ rfl (fun w hw => bwrite_fn b0 ad6 v0 hA6 i o_m _ G0 hV0 63 _ w (St.lentV (G := []) hw))) rfl (k_.u)) := h ⟨k_⟩
def ZBw (h : T_ q p := by
 intro k_
 refine RX (aS (F := []) (A := (b0, blk [ad6, v0] 243) :: G0) (R := fun v H => H = [] ∧ v = .string (bs ((l.take i).map chrH))) K_ rfl (fun w hw => bstring_fn b0 ad6 v0 ((l.take i).map chrH) o_m G0 (hV0.as hTi.symm rfl) (fun h => q0 o_m) _ w (St.lentV (G := []) hw))) rfl (ZC6 ?_)
 exact k_.u) := h ⟨k_⟩
def ZBx (h : T_ q p := by
 intro k_
 refine A_5 ?_
 exact k_.u) := h ⟨k_⟩
def ZBy (h : T_ q p := by
 intro k_
 refine ZA0 ?_
 refine ZAA ?_
 exact k_.u) := h ⟨k_⟩
def ZBz (h : T_ q p := by
 intro k_
 rintro _ _ ⟨b0, rfl, rfl⟩
 revert b0
 exact k_.u) := h ⟨k_⟩
def ZB1 (h : T_ q p := by
 intro k_
 refine ZBB ?_
 exact DW (v := (.slice (some ⟨b, 8192, none⟩) u.O.length 160)) rfl (fO 0 160 rfl rfl rfl rfl rfl rfl y_b y_b) rfl (by rw [hu.lO]; rfl) (k_.u)) := h ⟨k_⟩
def ZB2 (h : T_ q p := by
 intro k_
 refine A_6 ?_
 exact k_.u) := h ⟨k_⟩
def ZB3 (h : T_ q p := by
 intro k_
 refine ZBR ?_
 exact RX (aS (F := [(b1, blk (cBd bdZ) 121)]) (A := [(b0, blk (cBd (halfB ({ B with div := 0 } : Bd))) 121)]) (R := fun v H => v = .tuple #[] ∧ H = [(b0, blk (cBd (slideB (halfB ({ B with div := 0 } : Bd)))) 121)]) K_ rfl (wL_ (slideB_fn b0 (halfB ({ B with div := 0 } : Bd)) hH))) rfl (k_.u)) := h ⟨k_⟩
def ZB4 (h : T_ q p := by
 intro k_
 simp only [cg, bw]
 exact k_.u) := h ⟨k_⟩
def ZB5 (h : p := by
 have e9 : errH l = 0 := by unfold errH; rw [if_neg o_m, if_neg y_bi]; rw [hs0]; dsimp only; rw [if_neg o_m, if_neg (by simpa using q5)]
 exact aF (fun w hw => bC rfl rfl rfl (aA (b := b0) (l := cHd (hdH l)) m_m w hw) rfl) ⟨rfl, by rw [e9, if_pos rfl]⟩) : p := h
def ZB6 (h : T_ q p := by
 intro k_
 refine A_4 ?_
 exact k_.u) := h ⟨k_⟩
def ZB7 (h : T_ q p := by
 intro k_
 refine ZAP ?_
 exact RX (aS (F := [(b0, _)]) (A := (rb, _) :: _) K_ rfl (wL_ (rwords_fn K rb x (h.le o_m : RunOk K.toaSY (bn + 3) x) G0 hG0 o ho))) rfl (k_.u)) := h ⟨k_⟩
def ZB8 (h : T_ q p := by
 intro k_
 have hWL : ((putB k x B).setV (k / 5) { ((putB k x B).v (k / 5)) with len := longest (k / 5) - x % longest (k / 5) }).Wf := hPK.setV _ ⟨y_dV, hv9.lev, hv9.wait⟩
 have hWO : ((putB k x B).setV (k / 5) { ((putB k x B).v (k / 5)) with on := ((putB k x B).v (k / 5)).on && readyB (k / 5) (putB k x B) }).Wf := hPK.setV _ ⟨hv9.len, hv9.lev, hv9.wait⟩
 revert hWL hWO
 exact k_.u) := h ⟨k_⟩
def ZB9 (h : p := by
 have hf9 : fet ((stepM [] ((gT p).m i)).2.acc.take (j + 1)) = (fet ((stepM [] ((gT p).m i)).2.acc.take j)) := (fet_next hx0).trans (by unfold fetS; rw [if_neg o_m])
 exact ⟨j + 1, by show j + 1 ≤ _; omega, y_bv, .cons y_bx (.cons rfl .nil), a_g, fun _ h => y_L⟩) : p := h
def ZCA (h : T_ q p := by
 intro k_
 refine gM [(b0, blk (cO o) 44)] [3, 4, 5, 6, 7, 8, 9, 10] (.step true 0 (.step true 1 (.step true 2 (.step true 3 (.step true 4 (.step true 5 (.step true 7 (.step true 8 (.step true 9 (.step false 6 (.step true 10 (.step false 11 .done)))))))))))) rfl y_i y_i (fun x hx => y_3) ?_
 refine A_8 ?_
 exact k_.u) := h ⟨k_⟩
def ZCB (h : T_ q p := by
 intro k_
 refine uY false rfl rfl rfl rfl (ge _) ?_
 exact k_.u) := h ⟨k_⟩
def ZCC (h : T_ q p := by
 intro k_
 refine RZ (aD (l' := (((madeP (List.replicate (romS b) 0) prog i)).set (madeAt i) ((prog.getD i 0))).map U_) 0 rfl rfl rfl rfl rfl rfl (len_byte (n := romS b) y_O o_m) (put_byte (l := (madeP (List.replicate (romS b) 0) prog i)) (n := romS b) (prog.getD i 0) y_O y_E y_E)) rfl (ZAB ?_)
 exact k_.u) := h ⟨k_⟩
def ZCD (h : p := by
 refine ZBB ?_
 exact E0 rfl ⟨rfl, y_j⟩) : p := h
def ZCE (h : T_ q p := by
 intro k_
 exact RZ (aL rfl rfl rfl (fun w hw => rowM_bk (aR hm y_v w hw))) rfl (k_.u)) := h ⟨k_⟩
def ZCF (h : T_ q p := by
 intro k_
 refine ZBD ?_
 exact DX rfl (fT (F := [(b0, _), (rb, _)]) (A := G) rfl K.mW K.cW rfl (fun w hw => K.dW h.m hG (St.lentV hw) o_m h.r.a)) rfl n_h (k_.u)) := h ⟨k_⟩
def ZCG (h : T_ q p := by
 intro k_
 refine DZ rfl (aZ K_ rfl (fun w hw => name_fn ba (oa + 308) (c - 308) ((l.drop 308).take 15) o_m (fun x hx => hb x (ef (du hx))) w (Row.takeK (Row.dropK (aR hra y_v w hw) 308) 15))) rfl y_c (ZDr ?_)
 exact k_.u) := h ⟨k_⟩
def ZCH (h : T_ q p := by
 intro k_
 refine ZC6 ?_
 simp only [cg, bw, bq]
 exact k_.u) := h ⟨k_⟩
def ZCI (h : p := by
 have e9 : effJ K.toaSX o x = goto o.n (push K.toaSX x.s.r.pc (idles K.toaSX 1 x)) := by unfold effJ; rw [e7, e8]; simp only [Bool.true_eq_false, if_false]; simp only [hk]; rfl
 exact EV rfl (.cons _ sR_) ⟨cA_ Value.bool e8.symm, G1, y_s, y_5⟩) : p := h
def ZCJ (h : T_ q p := by
 intro k_
 refine RY l_n rfl (ZBB ?_)
 exact k_.u) := h ⟨k_⟩
def ZCK (h : T_ q p := by
 intro k_
 refine ZBB ?_
 exact RY (dJ rfl rfl y_b) rfl (k_.u)) := h ⟨k_⟩
def ZCL (h : p := by
 refine ZBM ?_
 exact aF (fun w hw => aU rfl rfl y_bU (aA (b := b1) (l := cBd ((putB k x B).setV (k / 5) { ((putB k x B).v (k / 5)) with on := ((putB k x B).v (k / 5)).on && readyB (k / 5) (putB k x B) })) m_m w hw)) ⟨rfl, y_bq⟩) : p := h
def ZCM (h : p := by
 refine ZBM ?_
 exact aF (fun w hw => aU rfl rfl y_bU (aA (b := b1) (l := cBd ((putB k x B).setV (k / 5) { ((putB k x B).v (k / 5)) with on := ((putB k x B).v (k / 5)).on && readyB (k / 5) (putB k x B) })) m_m w hw)) ⟨rfl, y_d4⟩) : p := h
def ZCN (h : p := by
 refine ZAD ?_
 exact ⟨i + 1, y_B, y_B, .cons rfl (.cons rfl .nil), a_g, fun _ h => h⟩) : p := h
def ZCO (h : T_ q p := by
 intro k_
 refine ZAn ?_
 exact RZ (dB K_ rfl (fun w hw => next_fn b (oneU u) (hu.one hd) w (St.lentA hw) (show u.line < 154 by (try simp only [decide_eq_true_eq, decide_eq_false_iff_not, beq_iff_eq, beq_eq_false_iff_ne, bne_iff_ne, bne_eq_false_iff_eq, ne_eq] at *); omega))) rfl (k_.u)) := h ⟨k_⟩
def ZCP (h : p := by
 refine RZ (aL rfl rfl rfl y_S) rfl (ZAI ?_)
 exact aF (fun w hw => aU rfl rfl rfl (aA (b := b1) m_m w hw)) ⟨rfl, y_Q⟩) : p := h
def ZCQ (h : T_ q p := by
 intro k_
 exact DY rfl (bT (s := 160) u.line.toNat rfl rfl rfl o_m o_m) rfl (DZ rfl (aD (l' := cU { u with P := kR u.P (u.line.toNat * 160) (rowU u) }) 3 rfl rfl rfl rfl rfl rfl (by rw [cU_len hu, Lm_, rowU_len]; omega) (putU_P hu y_ea)) rfl n_h (k_.u))) := h ⟨k_⟩
def ZCR (h : T_ q p := by
 intro k_
 refine ZAB ?_
 refine ZAn ?_
 exact k_.u) := h ⟨k_⟩
def ZCS (h : T_ q p := by
 intro k_
 refine ZAn ?_
 exact RX (aS (F := [(b1, blk (cBd bdZ) 121)]) (A := [(b0, blk (cBd (putB k x B)) 121)]) (R := fun v H => v = .tuple #[] ∧ H = [(b0, blk (cBd (beginB (k / 5) (putB k x B))) 121)]) K_ rfl (wL_ (beginB_fn b0 (putB k x B) hPK (k / 5) o_m))) rfl (k_.u)) := h ⟨k_⟩
def ZCT (h : p := by
 obtain rfl : i = os.length := by omega
 exact EN sR_ ⟨rfl, _, G0, y_ck, y_eo⟩) : p := h
def ZCU (h : T_ q p := by
 intro k_
 refine RX (fT (F := [(b0, _), (rb, _)]) (A := G) rfl K.mR K.cR rfl (fun w hw => K.dR h.m hG (St.lentV hw) o_m)) rfl ?_
 rintro _ _ ⟨G0, ⟨rfl, hG0⟩, rfl⟩
 revert G0 hG0
 exact k_.u) := h ⟨k_⟩
def ZCV (h : p := by
 have e9 : errH l = 7 := by unfold errH; rw [if_neg o_m, if_neg y_bi]; rw [hs0]; dsimp only; rw [if_pos o_m]
 exact aF (fun w hw => bC rfl rfl rfl (aA (b := b0) (l := cHd zHd) m_m w hw) rfl) ⟨rfl, y_ef⟩) : p := h
def ZCW (h : p := by
 refine ZAD ?_
 exact ⟨(i + 1, oT0, _, G7), ⟨y_cT, hq2, hT3⟩, y_cB, .cons rfl .nil, a_g, fun _ h => h.sub (.cons _ (.cons _ (iz (ip (ed _ _) _) _)))⟩) : p := h
def ZCX (h : p := by
 refine ZAD ?_
 exact ⟨(i + 1, oT0, _, Gt), ⟨y_cT, hq2, hTt⟩, y_cB, .cons rfl .nil, a_g, fun _ h => h.sub (.cons _ (.cons _ (iz (ip (ed _ _) _) _)))⟩) : p := h
def ZCY (h : T_ q p := by
 intro k_
 exact DX rfl (aGF (n := (hdH rom).ram.toNat) (z := .int .u8 0) (vnf_int hram.1) (vnf_int hram.1) o_m rfl rfl rfl rfl) rfl y_be (k_.u)) := h ⟨k_⟩
def ZCZ (h : p := by
 refine A_11 ?_
 exact EV rfl (ce _ _) ⟨cA_ _ y_N, rfl⟩) : p := h
def ZCa (h : T_ q p := by
 intro k_
 refine ZAn ?_
 refine eP (L' := [(b0, blk (cCp (tickCp (cyc2 (cyc1 m)).cp)) 115), (A.mb, blk (cMm A acc (cyc5 (cyc4 (cyc3 (cyc2 (cyc1 m)))))) 130), (A.ub, blk (cU (cyc5 (cyc4 (cyc3 (cyc2 (cyc1 m))))).u) 204)]) (fun _ h => h.as (by rw [cyc5_u]; rfl)) ?_
 exact k_.u) := h ⟨k_⟩
def ZCb (h : p := by
 have hw9 : (putU u (numU a) x).Wf := (hu.set hx y_a).off _
 refine cE (H' := [(b, blk (cU (putU u (numU a) x)) 204)]) (fun _ h => h.as y_cd) ?_
 refine RZ (dB K_ rfl (wV_ (ask_fn b (putU u (numU a) x) hw9))) rfl (ZBB ?_)
 exact EV rfl sR_ ⟨cA_ _ (wv_R _ hno y_a).symm, y_d0⟩) : p := h
def ZCc (h : T_ q p := by
 intro k_
 refine ZAm fun e7 => ?_
 have e8 : metJ o x = true := by unfold metJ; rw [(ah o_m : decide (23 ≤ o.kind ∧ o.kind ≤ 26) = true)]; simpa using q0
 revert e7 e8
 exact k_.u) := h ⟨k_⟩
def ZCd (h : T_ q p := by
 intro k_
 refine c_u ?_
 refine ZB2 ?_
 exact k_.u) := h ⟨k_⟩
def ZCe (h : T_ q p := by
 intro k_
 refine ZDR ?_
 refine DR [5, 6, 7, 8] (pln [0, 2, 4, 6, 8, 10, 12, 14, 16, 18, 20, 22]) ?_
 exact k_.u) := h ⟨k_⟩
def ZCf (h : T_ q p := by
 intro k_
 exact RZ (aL rfl rfl y_u (aA (b := b0) (l := cBd (beginB (k / 5) (putB k x B))) m_m)) rfl (RZ (aD (l' := cBd (beginB (k / 5) (putB k x B))) 0 rfl rfl rfl y_b6 (ones_cBd _) rfl y_c6 (putZ (hPK.beginW (k / 5)).ln)) rfl (k_.u))) := h ⟨k_⟩
def ZCg (h : T_ q p := by
 intro k_
 refine gM [(b0, blk [P_ A.mb] 137)] [1, 2, 3, 4] (.step true 0 (.step true 1 (.step true 2 (.step true 3 (.step false 4 (.step false 5 (.step true 6 .done))))))) rfl y_i y_i (fun x hx => y_bm) ?_
 refine bU rfl rfl rfl rfl y_bE rfl rfl ?_
 exact k_.u) := h ⟨k_⟩
def ZCh (h : T_ q p := by
 intro k_
 exact RZ (aH rfl rfl (aT m_m (show (cU (oneU u))[8365]? = some (.int .i64 (u.dot + 1)) from cU_dot (hu.one hd)))) rfl (k_.u)) := h ⟨k_⟩
def ZCi (h : T_ q p := by
 intro k_
 refine ZBR ?_
 refine gM [(b0, blk (cO o) 44)] [3, 4, 5, 6, 7] (.step true 0 (.step true 1 (.step true 2 (.step true 3 (.step true 4 (.step true 5 (.step false 6 (.step true 7 (.step false 8 .done))))))))) rfl y_i y_i (fun x hx => y_3) ?_
 exact k_.u) := h ⟨k_⟩
def ZCj (h : p := by
 refine ZAI ?_
 exact aF (fun w hw => aU rfl rfl rfl (aA (b := b1) m_m w hw)) ⟨rfl, y_bz⟩) : p := h
def ZCk (h : T_ q p := by
 intro k_
 exact RY (aV (n := romS b) (333) rfl rfl rfl rfl o_m) rfl (RZ (aD (l' := (madeI kind b ram prog).map U_) 0 rfl rfl rfl rfl rfl rfl (len_byte hlZ o_m) (put_byte (l := madeZ kind b ram prog) _ hlZ o_m o_m)) rfl (k_.u))) := h ⟨k_⟩
def ZCl (h : T_ q p := by
 intro k_
 refine c_u ?_
 refine ZB6 ?_
 exact k_.u) := h ⟨k_⟩
def ZCm (h : p := by
 refine ZB6 ?_
 exact aF (fun _ _ => bZ rfl rfl) ⟨rfl, _, rfl⟩) : p := h
def ZCn (h : T_ q p := by
 intro k_
 refine RZ (aL rfl rfl rfl (fun w hw => rowM_ck (m := (cyc5 (cyc4 (cyc3 (cyc2 (cyc1 m)))))) (acc := acc) (aA (b := A.mb) m_m w hw))) rfl (RLv K_ (wQ_ (tickCk_fn (cyc5 (cyc4 (cyc3 (cyc2 (cyc1 m))))).ck q4.ck)) ?_)
 exact k_.u) := h ⟨k_⟩
def ZCo (h : p := by
 refine ZAD ?_
 exact ⟨(i + 1, va0, G1, (P_ b0)), ⟨y_B, fun j hj' => y_d1, .inr rfl, hV1.as (by rfl) y_bM, fun h => absurd h (Nat.succ_ne_zero _)⟩, y_B, .cons rfl .nil, a_g, fun _ h => h⟩) : p := h
def ZCp (h : T_ q p := by
 intro k_
 refine ZAn ?_
 exact RX (dC (l := [.int .u8 page, .int .i64 left]) rfl rfl) rfl (k_.u)) := h ⟨k_⟩
def ZCq (h : T_ q p := by
 intro k_
 refine RZ (aL rfl rfl (by rw [cBd_len q2.bd]; rfl) (fun w hw => rowM_bd (m := (cyc3 (cyc2 (cyc1 m)))) (acc := acc) (aA (b := A.mb) m_m w hw))) rfl (RLv K_ (wQ_ (tickB_fn (cyc3 (cyc2 (cyc1 m))).bd q2.bd)) ?_)
 exact k_.u) := h ⟨k_⟩
def ZCr (h : T_ q p := by
 intro k_
 have ho : turnO k a = (a % 2 == 1) := by unfold turnO; rw [hk]; rfl
 rw [x16 (x := a % 2) o_m, or_zc]
 revert ho
 exact k_.u) := h ⟨k_⟩
def ZCs (h : T_ q p := by
 intro k_
 have hst : St w _ ((b, blk (cDb cap (pM q) (P_ hb) k (.slice (Q_ fa) (g.enc 0).length fc) lb mp pv wv asked done tab) 79) :: (mp, dG .u64 (l) (c)) :: (hM q m ++ (GH ++ (GL ++ D)))) w := hst
 have hml : ms.length ≤ 256 := by have := hL.len; have := (capT_ok cap).2; omega
 revert hst hml
 exact k_.u) := h ⟨k_⟩
def ZCt (h : p := by
 have hnv : 0 = stepV u := by unfold stepV; rw [if_neg y_a]
 exact EV rfl sR_ ⟨cA_ _ y_6, y_ce⟩) : p := h
def ZCu (h : p := by
 refine ZB2 ?_
 exact EV rfl sR_ ⟨cA_ Value.bool (ah z0).symm, by rw [if_pos z0]; rfl⟩) : p := h
def ZCv (h : T_ q p := by
 intro k_
 refine RZ (aD (l' := cBd (putB k x B)) 0 rfl rfl rfl y_by (ones_cBd _) rfl y_b8 (putZ hPK)) rfl (ZBM ?_)
 exact k_.u) := h ⟨k_⟩
def ZCw (h : T_ q p := by
 intro k_
 exact RZ (aL rfl rfl rfl y_1) rfl (k_.u)) := h ⟨k_⟩
def ZCx (h : T_ q p := by
 intro k_
 refine ZAn ?_
 exact RX (dC (l := [.int .u8 sel, .int .u8 down]) rfl rfl) rfl (k_.u)) := h ⟨k_⟩
def ZCy (h : T_ q p := by
 intro k_
 refine gM [(b0, blk (cO o) 44)] [3, 4, 5, 6] (.step true 0 (.step true 1 (.step true 2 (.step true 3 (.step true 4 (.step true 5 (.step false 6 (.step false 7 .done)))))))) rfl y_i y_i (fun x hx => y_3) ?_
 refine ZB2 ?_
 exact k_.u) := h ⟨k_⟩
def ZCz (h : T_ q p := by
 intro k_
 exact DZ rfl (aZ K_ rfl (fun w hw => rpair_fn K rb x.s h.r w (aA (l := cN K x.s) m_m w hw) o.x)) rfl y_c (k_.u)) := h ⟨k_⟩
def ZC0 (h : T_ q p := by
 intro k_
 refine ZDR ?_
 exact RZ (aH rfl rfl (aT m_m (cU_sig hu.ask))) rfl (k_.u)) := h ⟨k_⟩
def ZC1 (h : T_ q p := by
 intro k_
 refine ZBR ?_
 exact RW (v := (.int .u8 (x % 256))) (dM rfl rfl rfl) rfl (cA_ _ ((eX _).trans o_m)) (k_.u)) := h ⟨k_⟩
def ZC2 (h : T_ q p := by
 intro k_
 refine ZBR ?_
 refine RLv K_ (wQ_ (flagA_fn 32 _)) ?_
 exact k_.u) := h ⟨k_⟩
def ZC3 (h : T_ q p := by
 intro k_
 exact RX (bX (z := [.int .u8 0]) (l := [.int .u8 24, .int .u8 78, .int .u8 0, .int .u8 0]) (ps := [(0, .int .u8 24), (1, .int .u8 78), (2, .int .u8 0), (3, .int .u8 0)]) rfl rfl rfl rfl rfl rfl) rfl (k_.u)) := h ⟨k_⟩
def ZC4 (h : T_ q p := by
 intro k_
 refine DW rfl (dK rfl rfl y_b) rfl (iK 256 y_b y_b) (ZBN ?_)
 exact k_.u) := h ⟨k_⟩
def ZC5 (h : T_ q p := by
 intro k_
 exact RZ (aL rfl rfl rfl (fun w hw => Row.left (Row.left (aA (l := cN K x.s) m_m w hw)))) rfl (k_.u)) := h ⟨k_⟩
def ZC6 (h : T_ q p := by
 intro k_
 rintro _ _ ⟨_, ⟨rfl, rfl⟩, rfl⟩
 exact k_.u) := h ⟨k_⟩
def ZC7 (h : p := by
 obtain rfl : i = 4 := by omega
 exact E0 rfl ⟨rfl, y_bO⟩) : p := h
def ZC8 (h : p := by
 refine A_11 ?_
 exact E0 rfl ⟨rfl, (cA_ Value.bool y_k)⟩) : p := h
def ZC9 (h : p := by
 refine KL (fun q3 z3 => ?_) (fun q3 z3 => ?_)
 ·refine ZBB ?_
  refine KL (fun q4 z4 => ?_) (fun q4 z4 => ?_)
  ·exact ZEX
  refine A_7 ?_
  exact E0 rfl ⟨rfl, (cA_ Value.bool y_k)⟩
 exact ZC8) : p := h
def ZDA (h : T_ q p := by
 intro k_
 refine ZBB ?_
 exact RZ (aD (l' := cMm A acc { (cyc5 (cyc4 (cyc3 (cyc2 (cyc1 m))))) with ck := tickCk (cyc5 (cyc4 (cyc3 (cyc2 (cyc1 m))))).ck }) 1 rfl rfl rfl rfl rfl rfl y_dl (putM_ck _)) rfl (k_.u)) := h ⟨k_⟩
def ZDB (h : p := by
 refine ZBM ?_
 exact aF (fun w hw => aU rfl rfl y_bj (aA (b := b1) (l := cBd B) m_m w hw)) ⟨rfl, by rw [show writeBd n x B = B from if_pos o_m]⟩) : p := h
def ZDC (h : T_ q p := by
 intro k_
 exact RY y_dC rfl (RZ (aH rfl rfl (bF (hr _ _ (cBd_r hB (j := 0) y_b)) y_v)) rfl (k_.u))) := h ⟨k_⟩
def ZDD (h : T_ q p := by
 intro k_
 refine ZAn ?_
 exact RZ (aH rfl rfl (aT (v := .bool false) m_m ((cBd_on hB).trans y_dr))) rfl (k_.u)) := h ⟨k_⟩
def ZDE (h : T_ q p := by
 intro k_
 refine c_u ?_
 refine ZAn ?_
 exact k_.u) := h ⟨k_⟩
def ZDF (h : T_ q p := by
 intro k_
 refine RZ (aZ K_ rfl (fun w hw => peek_fn b u hu w (aR hr y_v w hw) _ ha)) rfl (ZBB ?_)
 exact k_.u) := h ⟨k_⟩
def ZDG (h : T_ q p := by
 intro k_
 exact RZ (aL rfl rfl rfl y_U) rfl (k_.u)) := h ⟨k_⟩
def ZDH (h : T_ q p := by
 intro k_
 refine ZAn ?_
 exact RZ (aH rfl rfl (aT (v := .bool true) m_m ((cBd_on hB).trans y_dr))) rfl (k_.u)) := h ⟨k_⟩
def ZDI (h : T_ q p := by
 intro k_
 refine ZBB ?_
 exact RZ (aD (l' := cMm A acc (cyc4 (cyc3 (cyc2 (cyc1 m))))) 1 rfl rfl rfl (by rw [cBd_len q2.bd.tick.ln]; rfl) (ones_cBd _) rfl y_cJ (putM_bd q2.ln q2.bd.tick.ln)) rfl (k_.u)) := h ⟨k_⟩
def ZDJ (h : T_ q p := by
 intro k_
 refine ZAn ?_
 exact RX (dC (l := cR r) rfl rfl) rfl (k_.u)) := h ⟨k_⟩
def ZDK (h : T_ q p := by
 intro k_
 exact RW (dK rfl rfl y_b) rfl (iK 2 y_b y_b) (k_.u)) := h ⟨k_⟩
def ZDL (h : T_ q p := by
 intro k_
 refine ZAn ?_
 exact RX (dC (l := cO o) rfl rfl) rfl (k_.u)) := h ⟨k_⟩
def ZDM (h : T_ q p := by
 intro k_
 refine ZBY ?_
 exact RZ (aH rfl rfl (bF y_bu (hpn _ rfl))) rfl (k_.u)) := h ⟨k_⟩
def ZDN (h : T_ q p := by
 intro k_
 refine ZBx ?_
 exact RZ (aH rfl rfl (aT (v := .bool (cyc5 (cyc4 (cyc3 (cyc2 (cyc1 m))))).hd.clock) m_m (get_mid (m := (cyc5 (cyc4 (cyc3 (cyc2 (cyc1 m)))))) q4.ln (j := 8) rfl))) rfl (k_.u)) := h ⟨k_⟩
def ZDO (h : T_ q p := by
 intro k_
 refine ZAa ?_
 refine ZB6 ?_
 exact k_.u) := h ⟨k_⟩
def ZDP (h : T_ q p := by
 intro k_
 refine ZBB ?_
 refine DR [5, 6, 7, 8, 9, 10, 11, 12, 13, 14, 15, 16, 17, 18, 19, 20, 21] (pln [0, 2, 4, 6, 8, 10, 12, 14, 16, 18, 20, 22, 24, 26, 28, 30, 32, 34, 36, 40, 42, 39, 44, 47]) ?_
 exact k_.u) := h ⟨k_⟩
def ZDQ (h : p := by
 refine A_11 ?_
 exact ⟨.cons (cA_ Value.bool y_b4) .nil, a_g, fun _ h => h⟩) : p := h
def ZDR (h : T_ q p := by
 intro k_
 refine A_7 ?_
 exact k_.u) := h ⟨k_⟩
def ZDV (h : p := by
 refine ZAT ?_
 refine ZAn ?_
 refine ZAT ?_
 refine A_9 ?_
 exact RW (v := (.int .i64 (bankB a ⟨kind, banks, ram, on, mode, low, high, last⟩))) (kE rfl rfl o_m) rfl (cA_ (Value.int .i64) y_g) (ZAZ)) : p := h
def ZDW (h : T_ q p := by
 intro k_
 refine A_9 ?_
 exact RZ (xS_ (l' := cN K { (push K.toaSX x.s.r.pc (idles K.toaSX 1 x)).s with r := { (push K.toaSX x.s.r.pc (idles K.toaSX 1 x)).s.r with pc := o.n } }) 1) rfl (k_.u)) := h ⟨k_⟩
def ZDX (h : T_ q p := by
 intro k_
 refine RS ?_
 exact RZ (xS_ (l' := cHd zHd) 2) rfl (k_.u)) := h ⟨k_⟩
def ZDY (h : T_ q p := by
 intro k_
 refine ZAP ?_
 refine RLv K_ (wQ_ (sig_fn ⟨cnt, tima, tma, tac, over⟩ ⟨k1, k2, k3, k4⟩)) ?_
 exact k_.u) := h ⟨k_⟩
def ZDZ (h : T_ q p := by
 intro k_
 refine bU rfl rfl rfl rfl y_ba rfl rfl ?_
 exact k_.u) := h ⟨k_⟩
def ZDa (h : T_ q p := by
 intro k_
 refine RW (v := (.int .i64 ((j + 1 : Nat) : Int))) rfl rfl (cA_ _ (bB o_m)) (ZAn ?_)
 exact k_.u) := h ⟨k_⟩
def ZDb (h : T_ q p := by
 intro k_
 refine dT true rfl rfl rfl (ah o_m) ?_
 exact k_.u) := h ⟨k_⟩
def ZDc (h : p := by
 have hs9 : putU u (numU a) x = { u with R := u.R.set (numU a).toNat x } := by
  unfold putU; rw [set_n y_a y_a]; exact off_no y_cc
 exact ZCb) : p := h
def ZDd (h : p := by
 refine ZB2 ?_
 exact EV rfl (ce _ _) ⟨cA_ _ y_N, rfl⟩) : p := h
def ZDe (h : p := by
 refine ZAD ?_
 exact ⟨i + 1, y_B, y_B, .cons rfl .nil, a_g, fun _ h => h⟩) : p := h
def ZDf (h : T_ q p := by
 intro k_
 refine ZAC ?_
 refine ZBB ?_
 exact k_.u) := h ⟨k_⟩
def ZDg (h : T_ q p := by
 intro k_
 exact DL rfl rfl rfl (cZ m_m (cU_line hu)) rfl (k_.u)) := h ⟨k_⟩
def ZDh (h : p := by
 have hs9 : putU u (numU a) x = { u with R := u.R.set 1 (aG .u8 x 120) } := by
  unfold putU; rw [set_1 y_a]; exact off_no y_cc
 exact ZCb) : p := h
def ZDi (h : T_ q p := by
 intro k_
 refine ZAn ?_
 have hh8 : (halfB ({ B with div := 0 } : Bd)) = (beatB ({ B with div := 0 } : Bd)) := by unfold beatB; rw [if_neg (show ¬ (B.step = 2 ∨ B.step = 6) by omega), if_neg (show ¬ B.step = 7 by omega)]
 revert hh8
 exact k_.u) := h ⟨k_⟩
def ZDj (h : p := by
 have e9 : effJ K.toaSX o x = x := by unfold effJ; rw [e7, e8]; rfl
 exact EV rfl (.cons _ sR_) ⟨cA_ Value.bool e8.symm, G, y_s, y_dT⟩) : p := h
def ZDk (h : T_ q p := by
 intro k_
 exact RX (bY rfl) rfl (k_.u)) := h ⟨k_⟩
def ZDl (h : T_ q p := by
 intro k_
 refine ZBz fun b0 => ?_
 refine ZAR fun b1 => ?_
 revert b0 b1
 exact k_.u) := h ⟨k_⟩
def ZDm (h : T_ q p := by
 intro k_
 rintro _ _ ⟨_, ⟨rfl, va0, G1, hV1, rfl⟩, rfl⟩
 refine cE (fun _ h => h) (H' := (b0, blk [(P_ b0), va0] 243) :: G1) ?_
 revert va0 G1 hV1
 exact k_.u) := h ⟨k_⟩
def ZDn (h : p := by
 refine ZAE ?_
 exact aF (fun w hw => bC rfl rfl rfl (aA (b := b1) m_m w hw) rfl) ⟨rfl, _, by rw [setPR_no o_m]; rfl⟩) : p := h
def ZDo (h : T_ q p := by
 intro k_
 refine ZDR ?_
 exact RZ (aZ K_ rfl (fun w hw => Tm.last_fn lb (capT cap) ms o_m w (hL.line.lineW hw (fun x hx => .tail _ (.tail _ (mR_ _ (mR_ _ (mL_ _ hx)))))))) rfl (k_.u)) := h ⟨k_⟩
def ZDp (h : p := by
 refine ZBR ?_
 exact EN sR_ ⟨rfl, rfl⟩) : p := h
def ZDq (h : p := by
 have hz : oth (a.drop k) (b.drop k) = 0 := oth_stop o_m
 exact E0 rfl ⟨rfl, (cA_ (fun n : Nat => Value.int .i64 (n : Int)) o_m)⟩) : p := h
def ZDr (h : T_ q p := by
 intro k_
 exact DY rfl (eB rfl rfl rfl rfl) rfl (k_.u)) := h ⟨k_⟩
def ZDs (h : T_ q p := by
 intro k_
 refine ZAn ?_
 refine RLv K_ (wQ_ (opens_fn x hx)) ?_
 exact k_.u) := h ⟨k_⟩
def ZDt (h : T_ q p := by
 intro k_
 refine eP (L' := (b0, blk [.int .u64 (FK.at Z.1 oi)] 31) :: (lb, blk [v0, .bool r] 151) :: (G0 ++ [(pb, blk Z.1 T)])) (fun _ h => h.as (by rw [e8])) ?_
 refine ZAn ?_
 exact k_.u) := h ⟨k_⟩
def ZDu (h : T_ q p := by
 intro k_
 refine A_8 ?_
 refine ZBy ?_
 exact k_.u) := h ⟨k_⟩
def ZDv (h : p := by
 refine ZB6 ?_
 exact aF (fun _ _ => bZ rfl rfl) ⟨rfl, rfl⟩) : p := h
def ZDw (h : T_ q p := by
 intro k_
 refine A_10 ?_
 exact RX (aS (F := [(b0, _)]) (A := (rb, _) :: _) K_ rfl (wL_ (rpush_fn K rb (idles K.toaSX 1 x) (h.idleK 1) G0 hG0 x.s.r.pc h.r.pc))) rfl (k_.u)) := h ⟨k_⟩
def ZDx (h : T_ q p := by
 intro k_
 refine DZ rfl (aZ K_ rfl (fun w hw => tline_fn _ _ u.V hu.bV (viewU u) (viewU_ok hu) u.line u.own w (Ns.of (rowV (aA m_m w hw))))) rfl n_h (ZBh ?_)
 exact k_.u) := h ⟨k_⟩
def ZDy (h : T_ q p := by
 intro k_
 exact RW (bA rfl rfl) rfl y_dL (k_.u)) := h ⟨k_⟩
def ZDz (h : T_ q p := by
 intro k_
 refine DZ rfl (aZ K_ rfl (fun w hw => sum_fn (some ⟨ba, oa, none⟩) c l hl hb w (hB.later0 hw))) rfl y_c ?_
 rw [if_neg (show ¬ l.length < 336 by omega)]
 exact k_.u) := h ⟨k_⟩
def ZD0 (h : T_ q p := by
 intro k_
 refine ZAP ?_
 exact RX (aS (F := [(b0, _)]) (A := (rb, _) :: _) K_ rfl (wL_ (rplaces_fn K rb x (h.le o_m : RunOk K.toaSY (bn + 1) x) G1 hG1 o ho))) rfl (k_.u)) := h ⟨k_⟩
def ZD1 (h : T_ q p := by
 intro k_
 refine DZ rfl (aFB (k := .u8) (l := sortE) (c := 19) (b := b2) (z := .agg (cSrt (0, false, false)).toArray) rfl rfl rfl rfl m_m) rfl n_h ?_
 rw [sort_ask]
 exact k_.u) := h ⟨k_⟩
def ZD2 (h : T_ q p := by
 intro k_
 refine ZB6 ?_
 exact RW (v := (.int .i64 ((k / 5 : Nat) : Int))) rfl rfl ((aRw o_m (show _ < (9223372036854775808 : Int) by omega) y_b).trans (cA_ _ o_m)) (k_.u)) := h ⟨k_⟩
def ZD3 (h : T_ q p := by
 intro k_
 exact RW (dM rfl rfl rfl) rfl y_r (k_.u)) := h ⟨k_⟩
def ZD4 (h : T_ q p := by
 intro k_
 refine ZBj ?_
 exact DW rfl (dJ rfl rfl y_b) rfl y_dO (k_.u)) := h ⟨k_⟩
def ZD5 (h : T_ q p := by
 intro k_
 refine ZAC ?_
 refine ZB2 ?_
 exact k_.u) := h ⟨k_⟩
def ZD6 (h : T_ q p := by
 intro k_
 refine ZAz ?_
 refine ZAc ?_
 exact k_.u) := h ⟨k_⟩
def ZD7 (h : T_ q p := by
 intro k_
 refine ZBR ?_
 refine ZAU ?_
 exact k_.u) := h ⟨k_⟩
def ZD8 (h : T_ q p := by
 intro k_
 refine eP (L' := [(b1, blk (cBd bdZ) 121), (b0, blk (cBd (halfB ({ B with div := 0 } : Bd))) 121)]) (fun w h => h.as (by rw [← hh9])) ?_
 refine ZAn ?_
 exact k_.u) := h ⟨k_⟩
def ZD9 (h : T_ q p := by
 intro k_
 have ho : turnO k a = (a / 128 == 1) := by unfold turnO; rw [hk]; rfl
 rw [x16 (x := a / 128) o_m, or_zc]
 revert ho
 exact k_.u) := h ⟨k_⟩
def ZEA (h : T_ q p := by
 intro k_
 refine DR [] (pln [0, 2, 4, 6, 8, 10, 12, 14, 16, 18, 20, 22, 24, 26, 28, 30, 32, 34, 36, 38, 40, 42, 44, 46, 48, 50, 52, 54, 57, 59]) ?_
 refine A_28 ?_
 exact k_.u) := h ⟨k_⟩
def ZEB (h : T_ q p := by
 intro k_
 exact RY (aV (n := prog.length) (i) rfl rfl rfl rfl o_m) rfl (RZ (aH rfl rfl (bF (hra _ _ (dL (j := i) o_m)) y_v)) rfl (k_.u))) := h ⟨k_⟩
def ZEC (h : T_ q p := by
 intro k_
 refine ZBR ?_
 refine RLv K_ (wQ_ (atB_fn m.bk h.bk a ha)) ?_
 exact k_.u) := h ⟨k_⟩
def ZED (h : T_ q p := by
 intro k_
 refine RW (v := _) (bA rfl rfl) rfl rfl (ZBB ?_)
 exact k_.u) := h ⟨k_⟩
def ZEE (h : T_ q p := by
 intro k_
 refine ZAn ?_
 exact RX (dC (l := cBd B) rfl rfl) rfl (k_.u)) := h ⟨k_⟩
def ZEF (h : p := by
 refine ZBR ?_
 exact ⟨b3, trivial, .cons rfl .nil, a_g, fun _ h => h.sub (.cons_cons _ (.cons _ (.cons _ sR_)))⟩) : p := h
def ZEG (h : T_ q p := by
 intro k_
 refine ZBm ?_
 exact DW (v := (.int .u16 (l.getD 334 0 * 256))) rfl (dJ rfl rfl y_b) rfl (sS 256 rfl o_m (show _ < (65536 : Int) by omega)) (k_.u)) := h ⟨k_⟩
def ZEH (h : T_ q p := by
 intro k_
 exact RZ s_t rfl (k_.u)) := h ⟨k_⟩
def ZEI (h : p := by
 refine ZAE ?_
 exact aF (fun w hw => bC rfl rfl rfl (aA (b := b1) m_m w hw) rfl) ⟨rfl, rfl⟩) : p := h
def ZEJ (h : T_ q p := by
 intro k_
 exact RY (aM k rfl rfl rfl o_m o_m) rfl (RZ (aD (l' := cBd ((putB k x B))) 1 rfl rfl rfl rfl rfl rfl y_T (y_dm)) rfl (k_.u))) := h ⟨k_⟩
def ZEK (h : p := by
 subst hov
 exact aF (fun w hw => bC rfl rfl rfl (aA (b := b1) m_m w hw) rfl) ⟨rfl, rfl⟩) : p := h
def ZEL (h : T_ q p := by
 intro k_
 refine ZAP ?_
 refine ZAI ?_
 exact k_.u) := h ⟨k_⟩
def ZEM (h : T_ q p := by
 intro k_
 refine RLv K_ (wQ_ (zero_fn _)) ?_
 exact k_.u) := h ⟨k_⟩
def ZEN (h : T_ q p := by
 intro k_
 refine ZBQ ?_
 refine ZBQ ?_
 exact k_.u) := h ⟨k_⟩
def ZEO (h : T_ q p := by
 intro k_
 refine ZDR ?_
 refine ZAA ?_
 exact k_.u) := h ⟨k_⟩
def ZEP (h : T_ q p := by
 intro k_
 refine ZB2 ?_
 exact RZ (aD (l' := (pass1 r .bool Z oi).1) 0 rfl rfl rfl rfl rfl rfl hfz.lt (cA_ Prod.fst (pass1_goes hfz r)).symm) rfl (k_.u)) := h ⟨k_⟩
def ZEQ (h : p := by
 refine ZB2 ?_
 exact ZDV) : p := h
def ZER (h : p := by
 refine KC (fun q4 z4 => ?_) (fun q4 z4 => ?_)
 ·refine ZB6 ?_
  refine ZAb ?_
  refine ZDR ?_
  exact ZDV
 exact ZEQ) : p := h
def ZES (h : T_ q p := by
 intro k_
 exact RY (aV n.toNat rfl rfl rfl o_m o_m) rfl (RZ (aH rfl rfl (bF (hr _ _ (dL (j := n.toNat) o_m)) y_v)) rfl (k_.u))) := h ⟨k_⟩
def ZET (h : p := by
 refine ZAn ?_
 exact ⟨0 + 1, y_B, y_B, .cons rfl (.cons rfl .nil), a_g, fun _ h => h.sub (.cons _ sR_)⟩) : p := h
def ZEU (h : p := by
 refine ZAn ?_
 exact ⟨1 + 1, y_B, y_B, .cons rfl (.cons rfl .nil), a_g, fun _ h => h.sub (.cons _ sR_)⟩) : p := h
def ZEV (h : p := by
 refine ZAn ?_
 exact ⟨2 + 1, y_B, y_B, .cons rfl (.cons rfl .nil), a_g, fun _ h => h.sub (.cons _ sR_)⟩) : p := h
def ZEW (h : p := by
 refine ZAn ?_
 exact ⟨3 + 1, y_B, y_B, .cons rfl (.cons rfl .nil), a_g, fun _ h => h.sub (.cons _ sR_)⟩) : p := h
def ZEX (h : p := by
 refine ZDR ?_
 exact E0 rfl ⟨rfl, (cA_ Value.bool y_k)⟩) : p := h
def ZEY (h : T_ q p := by
 intro k_
 refine RLv K_ (wQ_ (clockB_fn m.bk h.bk)) ?_
 rw [hc9]
 exact k_.u) := h ⟨k_⟩
def ZEa (h : T_ q p := by
 intro k_
 refine ZBR ?_
 refine RLv K_ (fun w hw => readyB_fn b0 (putB k x B) hPK w (aA (b := b0) (l := cBd (putB k x B)) m_m w hw) (k / 5) o_m) ?_
 exact k_.u) := h ⟨k_⟩
def ZEb (h : T_ q p := by
 intro k_
 refine ZAn ?_
 have hh8 : slideB (halfB ({ B with div := 0 } : Bd)) = (beatB ({ B with div := 0 } : Bd)) := by unfold beatB; rw [if_pos (show B.step = 2 ∨ B.step = 6 by omega)]
 revert hh8
 exact k_.u) := h ⟨k_⟩
def ZEc (h : p := by
 refine RW (v := (.int .u8 (fg 6 (daaL a f) + 96))) (cM rfl rfl) rfl (cA_ _ (or_96 _)) (ZBx ?_)
 exact ⟨(), trivial, .cons (cA_ U_ y_bn) (.cons (cA_ U_ y_bt) (.nil)), a_g, fun _ h => h⟩) : p := h
def ZEd (h : T_ q p := by
 intro k_
 refine RY l_n rfl (ZAn ?_)
 exact k_.u) := h ⟨k_⟩
def ZEe (h : T_ q p := by
 intro k_
 refine DW rfl (bA rfl rfl) rfl y_dQ (ZBx ?_)
 exact k_.u) := h ⟨k_⟩
def ZEf (h : T_ q p := by
 intro k_
 refine DR [7, 8, 9, 10, 11] (pln [0, 2, 4, 6, 8, 10, 12, 14, 16, 18, 20, 22, 24, 26, 28, 30, 32]) ?_
 refine ZAn ?_
 exact DW rfl (bA rfl rfl) rfl y_dR (k_.u)) := h ⟨k_⟩
def ZEg (h : p := by
 refine ZB2 ?_
 exact E0 rfl ⟨rfl, y_j⟩) : p := h
def ZEh (h : p := by
 refine KC (fun q8 z8 => ?_) (fun q8 z8 => ?_)
 ·refine ZB6 ?_
  refine RW (iB rfl rfl) rfl y_r (ZAn ?_)
  exact RY (aM (a - 65408).toNat rfl rfl rfl o_m o_m) rfl (RZ (aH rfl rfl (bF y_bB y_v)) rfl ZCD)
 exact ZEg) : p := h
def ZEi (h : T_ q p := by
 intro k_
 refine c_u ?_
 refine ZBR ?_
 exact k_.u) := h ⟨k_⟩
def ZEj (h : T_ q p := by
 intro k_
 refine c_u ?_
 refine ZBB ?_
 exact k_.u) := h ⟨k_⟩
end Go.VV
