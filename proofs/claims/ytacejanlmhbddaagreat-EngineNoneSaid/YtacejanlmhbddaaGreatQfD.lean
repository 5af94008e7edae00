/- Parts. -/
import Derived.Test.YtacejanlmhbddaaGreatQfB
set_option maxRecDepth 100000
set_option maxHeartbeats 1000000
set_option linter.all false
namespace Go.VV
open Go Go.RowKit
abbrev T_ (q p : Prop) := Wr q → p
variable {p q : Prop} (k_ : q)
def sR_ {α : Type} {l : List α} : l.Sublist l := List.Sublist.refl _
def mR_ {α : Type} {a : α} (l : List α) {m : List α} (h : a ∈ m) : a ∈ l ++ m := fi l h
def mL_ {α : Type} {a : α} {l : List α} (m : List α) (h : a ∈ l) : a ∈ l ++ m := gj m h
def xS_ {Γ : Ctx} {e : Env} {H : aC} {d : AD} {ty : AJ} {pos : String} {af : AG} {g : Option (Nat × Bool)} {t : AJ} {x y : AK} {b off : Nat} {v : AH} {vs l l' : AA} {T : AJ} (i : Nat)
  (hx : vnf (ev e x) = some (.pointer (some ⟨b, off, none⟩)) := by exact rfl) (hy : vnf (ev e y) = some v := by exact rfl) (hv : sK v = some vs := by exact rfl) (hn : gG Γ.P t = some vs.length := by exact rfl) (h1 : eD vs = true := by exact rfl)
  (hi : H[i]? = some (b, blk l T) := by exact rfl) (hl : off + vs.length ≤ l.length := by exact ae rfl) (hp : aO l off vs = l' := by exact rfl) : Op1 Γ ⟨d, .store t x y, ty, pos, af, g⟩ e H (fun u H' => u = undef ∧ H' = H.set i (b, blk l' T)) := aD i hx hy hv hn h1 hi hl hp
def dO_ {P : AL} {f : Nat} {fn : Func} {c : Code} {args : AA} {w : AI} {ms : AE} {R : AH → aC → Prop} {n : Nat} {H : aC} (hf : P.funcs[f]? = some fn) (hH : St w ms H w) (h : C ⟨P, n, w, ms, none, []⟩ c (aIF ⟨P, n, w, ms, none, []⟩ fn.results.toList R) (aDH args) H)
  (hb : fn.body = some c := by exact rfl) (hn : fn.ntmps = n := by exact rfl) (hl : Nat.ble args.length n = true := by exact rfl) : aB P f args w ms R := mC hf hb hn hl hH h
def dR_ {P : AL} {f : Nat} {fn : Func} {c : Code} {args : AA} {w : AI} {R : AH → aC → Prop} {n : Nat} (hf : P.funcs[f]? = some fn) (h : C ⟨P, n, w, [], none, []⟩ c (aIF ⟨P, n, w, [], none, []⟩ fn.results.toList R) (aDH args) [])
  (hb : fn.body = some c := by exact rfl) (hn : fn.ntmps = n := by exact rfl) (hl : Nat.ble args.length n = true := by exact rfl) : aB P f args w [] R := mC hf hb hn hl (St.refl w) h
abbrev P_ (b : Nat) : AH := .pointer (some ⟨b, 0, none⟩)
abbrev Q_ (b : Nat) : AC := some ⟨b, 0, none⟩
abbrev V_ (u : AH) : AH → aC → Prop := fun v H => H = [] ∧ v = u
abbrev U_ : Int → AH := Value.int .u8
def K_ (h : p := by kernel_rfl) : p := h
def La_ {α : Type} {a b : List α} : (a ++ b).length = a.length + b.length := dw
def Lm_ {α β : Type} {a : List α} (f : α → β) : (a.map f).length = a.length := iu f
def Ld_ {α : Type} {i : Nat} {a : List α} : (a.drop i).length = a.length - i := gi
def Lt_ {α : Type} {i : Nat} {a : List α} : (a.take i).length = min i a.length := ej
def Lc_ {α : Type} {a : α} {l : List α} : (a :: l).length = l.length + 1 := ii
def As_ {α : Type} (a b c : List α) : a ++ b ++ c = a ++ (b ++ c) := cg a b c
def Gd_ {α : Type} {l : List α} {i : Nat} {a : α} : l.getD i a = l[i]?.getD a := cj
def cA_ {α β : Type} {a b : α} (f : α → β) (h : a = b) : f a = f b := congrArg f h
def wQ_ {A B : AI → Prop} (h : ∀ w, B w) : ∀ w, A w → B w := fun w _ => h w
def wA_ {A B C : AI → Prop} (h : ∀ w, A w → C w) : ∀ w, A w → B w → C w := fun w a _ => h w a
def wL_ {w0 : AI} {ms : AE} {A F : aC} {B : AI → Prop} (h : ∀ w, St w (A.map (·.1)) A w → B w) : ∀ w, St w0 ms (A ++ F) w → B w := fun w hw => h w hw.lentV
def wV_ {w0 : AI} {ms : AE} {A : aC} {B : AI → Prop} (h : ∀ w, St w (A.map (·.1)) A w → B w) : ∀ w, St w0 ms A w → B w := fun w hw => h w hw.lentA
def y_a (h : p := by (try simp only [decide_eq_true_eq, decide_eq_false_iff_not, beq_iff_eq, beq_eq_false_iff_ne, bne_iff_ne, bne_eq_false_iff_eq, ne_eq] at *); omega) : p := h
def y_b (h : p := by decide) : p := h
def y_c (h : p := by first | exact lU o_m o_m | rfl) : p := h
def y_d (h : p := by intro _ _ _ hK x hx; obtain ⟨rfl, rfl⟩ := hK; repeat (first | exact hx | exact mL_ _ hx | refine mR_ _ ?_ | refine .tail _ ?_)) : p := h
def y_e (h : p := by first | (exfalso; omega) | (unfold atT atB_; dsimp only; (try simp only [Bool.true_eq_false, Bool.false_eq_true, true_or, or_true, false_or, or_false, if_true, if_false]); (repeat (first | rw [if_pos o_m] | rw [if_neg o_m])); first | done | rfl)) : p := h
def y_f (h : p := by kernel_rfl) : p := h
def y_g (h : p := by first | (exfalso; omega) | (unfold bankB numB; dsimp only; (repeat (first | rw [if_pos (by first | omega | assumption)] | rw [if_neg (by first | omega | simp_all)])); exact Int.tmod_eq_emod_of_nonneg o_m)) : p := h
def y_h (h : p := by first | exact aA m_m | exact hU m_m _ 5 rfl) : p := h
def y_i (h : p := by first | (exfalso; omega) | (unfold deviceM; (repeat (first | rw [if_pos o_m] | rw [if_neg o_m])); first | done | rfl)) : p := h
def y_j (h : p := by unfold pictured; rw [Bool.eq_iff_iff]; simp only [decide_eq_true_eq, bne_iff_ne, ne_eq, Bool.false_eq_true, eq_self_iff_true, true_iff, false_iff, iff_true, iff_false]; omega) : p := h
def y_k (h : p := by first | (exfalso; omega) | (unfold setDeviceM; (repeat (first | rw [if_pos o_m] | rw [if_neg o_m])))) : p := h
def y_l (h : p := by rw [cU_len hu]; simp only [Lc_, au]; (try simp only [decide_eq_true_eq, decide_eq_false_iff_not, beq_iff_eq, beq_eq_false_iff_ne, bne_iff_ne, bne_eq_false_iff_eq, ne_eq] at *); omega) : p := h
def y_m (h : p := by rcases List.mem_cons.1 hx with rfl | hx; exact m_m; obtain rfl := List.mem_singleton.1 hx; exact m_m) : p := h
def y_n (h : p := by intro _ _ _ hK x hx; obtain ⟨_, rfl, rfl⟩ := hK; repeat (first | exact hx | exact mL_ _ hx | refine mR_ _ ?_ | refine .tail _ ?_)) : p := h
def y_o (h : p := by first | exact aEY o_m o_m | exact aCJ _) : p := h
def y_p (h : p := by first | exact aA m_m | exact hU m_m _ 8 rfl) : p := h
def y_q (h : p := by first | exact aAd o_m o_m | exact wW _) : p := h
def y_r (h : p := by simp) : p := h
def y_s (h : p := by repeat (first | exact hx | refine mR_ _ ?_ | refine .tail _ ?_)) : p := h
def y_t (h : p := by rw [e9]; first | done | rfl) : p := h
def y_u (h : p := by first | (exfalso; omega) | (unfold atT clockB; dsimp only; (try simp only [Bool.true_eq_false, Bool.false_eq_true, true_or, or_true, false_or, or_false, if_true, if_false]); (repeat (first | rw [if_pos o_m] | rw [if_neg o_m])); first | done | rfl)) : p := h
def y_v (h : p := by first | (rw [cBd_len hWL]; rfl) | (rw [cBd_len hWO]; rfl) | (rw [cBd_len hPK]; rfl) | (rw [cBd_len (hPK.beginW (k / 5)).ln]; rfl)) : p := h
def y_w (h : p := by rw [cMm_len h.ln]; exact ae rfl) : p := h
def y_x (h : p := by simp at *; omega) : p := h
def y_y (h : p := by omega) : p := h
def y_z (h : p := by decide +kernel) : p := h
def y_A (h : p := by first | omega | (unfold madeAt; split <;> omega)) : p := h
def y_B (h : p := by dsimp only; omega) : p := h
def y_C (h : p := by first | exact aA m_m | exact hU m_m _ 10 rfl) : p := h
def y_D (h : p := by first | exact List.Sublist.refl _ | exact sR_.append (gu _ _) | exact gu _ _ | exact bf _ _) : p := h
def y_E (h : p := by unfold tickB; rw [if_neg (by rw [show B.on = true by simpa using q0]; decide), if_neg o_m]) : p := h
def y_F (h : p := by intro _ _ _ hK x hx; obtain ⟨_, ⟨rfl, G1, rfl, hG1⟩, rfl⟩ := hK; repeat (first | exact hx | exact mL_ _ hx | refine mR_ _ ?_ | refine .tail _ ?_)) : p := h
def y_G (h : p := by first | (rintro ⟨h8, h9⟩; omega) | (rintro ⟨h8, h9⟩; rw [hon9] at h8; cases h8)) : p := h
def y_H (h : p := by unfold fiveB; dsimp only; (repeat (first | rw [if_pos o_m] | rw [if_neg o_m])); first | done | rfl) : p := h
def y_I (h : p := by unfold askV; have h9 : (askU u).sig = sigU u := rfl; simp_all) : p := h
def y_J (h : p := by simp only [ca, madeP_n]) : p := h
def y_K (h : p := by rw [cBd_len hFN]; rfl) : p := h
def y_L (h : p := by unfold writeCk; dsimp only; (repeat (first | rw [if_pos o_m] | rw [if_neg o_m])); first | done | rfl) : p := h
def y_M (h : p := by first | exact aSK o_m | rfl) : p := h
def y_N (h : p := by first | exact aA m_m | exact hU m_m _ 12 rfl) : p := h
def y_O (h : p := by rw [cBd_len hB]; simp only [Lc_, au]; omega) : p := h
def y_P (h : p := by first | exact aA m_m | exact hU m_m _ 6 rfl) : p := h
def y_Q (h : p := by rw [e1]; unfold writeB; dsimp only; (repeat (first | rw [if_pos o_m] | rw [if_neg o_m])); first | done | rfl) : p := h
def y_R (h : p := by rw [e1]; unfold threeB; dsimp only; (repeat (first | rw [if_pos o_m] | rw [if_neg o_m])); first | done | rfl) : p := h
def y_S (h : p := by rw [hE]; kernel_rfl) : p := h
def y_T (h : p := by unfold writeTm; dsimp only; (repeat (first | rw [if_pos o_m] | rw [if_neg o_m])); first | done | rfl) : p := h
def y_U (h : p := by unfold readTm; dsimp only; (repeat (first | rw [if_pos o_m] | rw [if_neg o_m])); first | done | rfl) : p := h
def y_V (h : p := by rw [cBd_len hE]; simp only [Lc_, au]; omega) : p := h
def y_W (h : p := by first | exact aA m_m | exact hU m_m _ 2 rfl) : p := h
def y_X (h : p := by rw [e9]; exact hG0) : p := h
def y_Y (h : p := by obtain rfl := List.mem_singleton.1 hx; exact .head _) : p := h
def y_Z (h : p := by rw [e1]; unfold tickPt shiftPt; dsimp only; (repeat (first | rw [if_pos o_m] | rw [if_neg o_m])); first | done | rfl) : p := h
def y_0 (h : p := by rw [e9]; exact hG1) : p := h
def y_1 (h : p := by unfold tickV; rw [if_pos hlit, ← bor_ask (stepV_one u) (askV_two _), ← hnv]; rfl) : p := h
def y_2 (h : p := by have h9 := histD_fn e2.b e2.hb 32 j (Hs.callsL (gx.sts j)) e2.ring (by have := Hs.callsL_len (gx.sts j); omega) w (aJ (b := e2.b) (l := Db.cs e2 gx j) (.tail _ (.tail _ (.tail _ (.head _)))) rfl w hw) (hE2.hist.histW hw (fun x hx => .tail _ (.tail _ (.tail _ (.tail _ (.tail _ (mR_ _ (mL_ _ hx)))))))); rw [hT2.b] at h9; exact h9) : p := h
def y_3 (h : p := by first | exact (xS_ (l' := cSrt ((sortH (l.getD 327 0)).getD (0, false, false))) 0) | exact (xS_ (l' := cSrt ((sortH (l.getD 327 0)).getD (0, false, false))) 1)) : p := h
def y_4 (h : p := by show _ = _ ++ [_, _, (A.rb, blk (List.map U_ (cycleM m).ram ++ A.rs) 5), (A.ob, blk (List.map U_ (cycleM m).rom ++ A.sp) 5)]; rw [cycleM_ram, cycleM_rom]; rfl) : p := h
def y_5 (h : p := by unfold writePt; dsimp only; (repeat (first | rw [if_pos o_m] | rw [if_neg o_m])); first | done | rfl) : p := h
def y_6 (h : p := by first | exact dV m_m | exact mE m_m _ 9 rfl) : p := h
def y_7 (h : p := by unfold oneB; dsimp only; (repeat (first | rw [if_pos o_m] | rw [if_neg o_m])); first | done | rfl) : p := h
def y_8 (h : p := by rw [cBd_len hPK]; simp only [Lc_, au]; omega) : p := h
def y_9 (h : p := by rw [cBd_len hFN, cBd_len bdZ_wf]; decide) : p := h
def y_ba (h : p := by first | exact aA m_m | exact hU m_m _ 4 rfl) : p := h
def y_bb (h : p := by first | exact xN o_m o_m | exact aBf _) : p := h
def y_bc (h : p := by simpa using q1) : p := h
def y_bd (h : p := by show Vec _ 3 va' (((if letsCp (cycleM m).cp a = true then pokeM a x (cycleM m) else (cycleM m))).acc ++ [_]).length (aF cAc ((if letsCp (cycleM m).cp a = true then pokeM a x (cycleM m) else (cycleM m)).acc ++ [_])) Ga'; rw [e9]; exact hV'.as (by rw [La_]; rfl) rfl) : p := h
def y_be (h : p := by simp; omega) : p := h
def y_bf (h : p := by rw [cU_len (hu.P_ (u.line.toNat * 160) (rowU_byts u) (by rw [rowU_len]; omega))]; simp only [Lc_, au]; (try simp only [decide_eq_true_eq, decide_eq_false_iff_not, beq_iff_eq, beq_eq_false_iff_ne, bne_iff_ne, bne_eq_false_iff_eq, ne_eq] at *); omega) : p := h
def y_bg (h : p := by cases hp; exact St.apartT (G := [(rb, blk RL 5)]) hw2) : p := h
def y_bh (h : p := by rw [cBd_len hB]; rfl) : p := h
def y_bi (h : p := by rw [cMm_len h.ln]; simp only [Lc_, au]; omega) : p := h
def y_bj (h : p := by first | exact dV m_m | exact mE m_m _ 5 rfl) : p := h
def y_bk (h : p := by obtain rfl := List.mem_singleton.1 hx; exact m_m) : p := h
def y_bl (h : p := by unfold daaB daaC; simp_all [fg]; all_goals (repeat' split); all_goals omega) : p := h
def y_bm (h : p := by show _ = [(b, blk (cBd ((turnV levV B n).setV n (levV (turnV levV B n) n ((turnV levV B n).v n)))) 147)]; rw [show levV (turnV levV B n) n ((turnV levV B n).v n) = (turnV levV B n).v n from if_pos o_m, setV_same hX9 o_m]) : p := h
def y_bn (h : p := by show _ = [(b, blk (cBd ((turnV lenV B n).setV n (lenV (turnV lenV B n) n ((turnV lenV B n).v n)))) 147)]; rw [show lenV (turnV lenV B n) n ((turnV lenV B n).v n) = (turnV lenV B n).v n from if_pos o_m, setV_same hX9 o_m]) : p := h
def y_bo (h : p := by have h9 := stepsM_fn e2.q.A e2.q.va e2.m hiv.wf.ln w (aA (b := e2.q.A.mb) (l := cMm e2.q.A e2.q.va e2.m) (.tail _ (.tail _ (.tail _ (.tail _ (.tail _ (mL_ _ (.tail _ (.head _)))))))) w hw); rw [hsj] at h9; exact h9) : p := h
def y_bp (h : p := by unfold writeBd; rw [if_neg o_m, if_neg o_m, if_neg (by first | (rintro ⟨h8, q7⟩; omega) | (rintro ⟨h8, q7⟩; rw [hon9] at h8; cases h8)), if_neg o_m, co]; unfold voiceB; rw [if_neg o_m, if_neg o_m]) : p := h
def y_bq (h : p := by rw [v_set hX9 o_m]; rfl) : p := h
def y_br (h : p := by unfold daaL; simp_all [fg]; all_goals (repeat' split); all_goals omega) : p := h
def y_bs (h : p := by unfold daaC; simp_all [fg]; all_goals (repeat' split); all_goals omega) : p := h
def y_bt (h : p := by have h9 := (Row.nth' (cPtr_len pb) hrow hoi) 0 _ rfl; simpa using h9) : p := h
def y_bu (h : p := by unfold readPt; dsimp only; (repeat (first | rw [if_pos o_m] | rw [if_neg o_m])); first | done | rfl) : p := h
def y_bv (h : p := by rw [cBd_len hPK]; rfl) : p := h
def y_bw (h : p := by rw [Lm_, h.lV]; omega) : p := h
def y_bx (h : p := by unfold twoB; dsimp only; (repeat (first | rw [if_pos o_m] | rw [if_neg o_m])); first | done | rfl) : p := h
def y_by (h : p := by simp only [cy, ce, cz]; rfl) : p := h
def y_bz (h : p := by have h9 := hm _ _ (get_high h.ln (j := (a - 65408).toNat) o_m); rwa [← dt] at h9) : p := h
def y_bA (h : p := by first | exact dV m_m | exact mE m_m _ 4 rfl) : p := h
def y_bB (h : p := by first | exact dV m_m | exact mE m_m _ 2 rfl) : p := h
def y_bC (h : p := by first | exact dV m_m | exact mE m_m _ 1 rfl) : p := h
def y_bD (h : p := by show l.length - (i + 1) < l.length - i; omega) : p := h
def y_bE (h : p := by simp only [ca]; (try simp only [decide_eq_true_eq, decide_eq_false_iff_not, beq_iff_eq, beq_eq_false_iff_ne, bne_iff_ne, bne_eq_false_iff_eq, ne_eq] at *); omega) : p := h
def y_bF (h : p := by rw [yG (av _)]; rfl) : p := h
def y_bG (h : p := by rw [tabL_len hP hB, cO_len]; omega) : p := h
def y_bH (h : p := by rw [aL o_m o_m]; (try simp only [decide_eq_true_eq, decide_eq_false_iff_not, beq_iff_eq, beq_eq_false_iff_ne, bne_iff_ne, bne_eq_false_iff_eq, ne_eq] at *); omega) : p := h
def y_bI (h : p := by rw [passes_snoc hoi, ← hZ, pass1_goes hfz]; exact hV1) : p := h
def y_bJ (h : p := by rw [← e1]; rfl) : p := h
def y_bK (h : p := by rw [take_snoc o_m, be, ← txV_app]; exact cA_ (fun z : Int => txV ((l.take i).map chrH) ++ [Value.int .u8 z]) ((by unfold chrH; rw [if_pos o_m]; rfl))) : p := h
def y_bL (h : p := by have := hK.small; (try simp only [decide_eq_true_eq, decide_eq_false_iff_not, beq_iff_eq, beq_eq_false_iff_ne, bne_iff_ne, bne_eq_false_iff_eq, ne_eq] at *); omega) : p := h
def y_bM (h : p := by unfold readB; rw [if_neg o_m, if_neg o_m, if_neg o_m]) : p := h
def y_bN (h : p := by rw [hq4 _ hx]; (try simp only [decide_eq_true_eq, decide_eq_false_iff_not, beq_iff_eq, beq_eq_false_iff_ne, bne_iff_ne, bne_eq_false_iff_eq, ne_eq] at *); omega) : p := h
def y_bO (h : p := by unfold shiftPt; dsimp only; omega) : p := h
def y_bP (h : p := by rw [q1]; decide) : p := h
def y_bQ (h : p := by rw [Bool.eq_iff_iff]; simp only [bne_iff_ne, decide_eq_true_eq, ne_eq]; omega) : p := h
def y_bR (h : p := by have h9 := mach_fn e2.b e2.q.A.mb w (aJ (b := e2.b) (l := Db.cs e2 gx j) (.tail _ (.tail _ (.tail _ (.head _)))) rfl w hw); rw [hT2.b] at h9; exact h9) : p := h
def y_bS (h : p := by rw [cBd_len hWO]; rfl) : p := h
def y_bT (h : p := by have h9 := dat_fn e2.b (j : Nat) w (aJ (b := e2.b) (l := Db.cs e2 gx j) (.tail _ (.tail _ (.tail _ (.head _)))) rfl w hw); rw [hT2.b] at h9; exact h9) : p := h
def y_bU (h : p := by first | exact h.sub (.cons_cons _ (.cons _ sR_)) | exact h.sub (.cons _ sR_)) : p := h
def y_bV (h : p := by cases hp; exact St.apartT (G := []) hw) : p := h
def y_bW (h : p := by have h9 := qcheck_fn (Q_ b11) (romS b) (madeZ kind b ram prog) o_m hbZ w (Ns.of (aA (b := b11) m_m w hw)); rw [hlZ, if_neg o_m] at h9; exact h9) : p := h
def y_bX (h : p := by rw [tailM_len h, ar]; omega) : p := h
def y_bY (h : p := by rw [bi]; exact cBd_r hB (j := k) o_m) : p := h
def y_bZ (h : p := by intro _ _ _ hK x hx; obtain ⟨G42, hV42, rfl⟩ := hK; repeat (first | exact hx | exact mL_ _ hx | refine mR_ _ ?_ | refine .tail _ ?_)) : p := h
def y_b0 (h : p := by rw [passes_snoc hoi, ← hZ]; rfl) : p := h
def y_b1 (h : p := by rw [Bool.eq_iff_iff]; simp; omega) : p := h
def y_b2 (h : p := by simp [Ck.held]) : p := h
def y_b3 (h : p := by rw [Bool.eq_iff_iff]; simp) : p := h
def y_b4 (h : p := by unfold modeU; simp_all <;> omega) : p := h
def y_b5 (h : p := by rw [romQ_len]; decide) : p := h
def y_b6 (h : p := by rw [Lm_, h.lR]; omega) : p := h
def y_b7 (h : p := by rw [cBd_len (hPK.beginW (k / 5)).ln]; rfl) : p := h
def y_b8 (h : p := by rw [cBd_len hWO, cBd_len bdZ_wf]; decide) : p := h
def y_b9 (h : p := by rw [cBd_len hPK, cBd_len bdZ_wf]; decide) : p := h
def y_ca (h : p := by simp [hab]) : p := h
def y_cb (h : p := by rw [cBd_len (show (if decide (x / 128 = 1) = true then onB B else offB B).Wf by split; exact hB.onW; exact hB.off)]; rfl) : p := h
def y_cc (h : p := by rw [cBd_len hB, cBd_len bdZ_wf]; decide) : p := h
def y_cd (h : p := by simp_all) : p := h
def y_ce (h : p := by rw [hs9]) : p := h
def y_cf (h : p := by unfold tickU; rw [if_pos hlit]) : p := h
def y_cg (h : p := by show 0 ≤ (if everyB b = 0 then 8 else everyB b) ∧ (if everyB b = 0 then 8 else everyB b) < 65536; split <;> omega) : p := h
def y_ch (h : p := by rw [cBd_len hX1]; simp only [Lc_, au]; omega) : p := h
def y_ci (h : p := by unfold secCk dayCk; simp only [e1, e2, e3, e4, ne_eq, not_true_eq_false, not_false_eq_true, if_true, if_false]; rfl) : p := h
def y_cj (h : p := by rw [db] at hV0; exact hV0) : p := h
def y_ck (h : p := by first | exact aA m_m | exact hU m_m _ 1 rfl) : p := h
def y_cl (h : p := by simp at *; unfold cmpI; split <;> (try split) <;> omega) : p := h
def y_cm (h : p := by show _ = ((cycleM m).acc ++ [_]).length; rw [La_]; rfl) : p := h
def y_cn (h : p := by rw [Lm_, h.lO]; omega) : p := h
def y_co (h : p := by rw [yG (av _)]; simp) : p := h
def y_cp (h : p := by have h9 := likeN_drop (a.drop j) (b.drop j); rw [ax, ax, ← hn9] at h9; exact h9) : p := h
def y_cq (h : p := by rw [setV_setV]) : p := h
def y_cr (h : p := by rw [beat_step]) : p := h
def y_cs (h : p := by rfl) : p := h
def y_ct (h : p := by unfold fromCp; dsimp only; (repeat (first | rw [if_pos o_m] | rw [if_neg o_m])); first | done | rfl) : p := h
def y_cu (h : p := by rw [e9]; rfl) : p := h
def y_cv (h : p := by unfold beginPt; dsimp only; omega) : p := h
def y_cw (h : p := by rw [← ju]; omega) : p := h
def y_cx (h : p := by rw [bg]; exact List.Sublist.refl _) : p := h
def y_cy (h : p := by simp [h.lR]; omega) : p := h
def y_cz (h : p := by rw [← hh8]) : p := h
def y_cA (h : p := by rw [cMm_len h.ln, cBd_len (h.bd.write (a - 65296) hx).ln]; exact ae rfl) : p := h
def y_cB (h : p := by show _ - (i + 1) < _ - i; omega) : p := h
def y_cC (h : p := by rw [Lm_, h.lR]) : p := h
def y_cD (h : p := by first | (rintro ⟨q7, h9⟩; omega) | (rintro ⟨q7, h9⟩; rw [hon9] at q7; cases q7)) : p := h
def y_cE (h : p := by cases h) : p := h
def y_cF (h : p := by rw [aL o_m o_m]; omega) : p := h
def y_cG (h : p := by simp only [newM0, i7]; rfl) : p := h
def y_cH (h : p := by rw [show readB n B = 255 from if_pos o_m]) : p := h
def y_cI (h : p := by simp only [ar]; omega) : p := h
def y_cJ (h : p := by unfold onV; rw [hon9]; rfl) : p := h
def y_cK (h : p := by simp [hl]) : p := h
def y_cL (h : p := by rw [h.lR]; exact hj) : p := h
def y_cM (h : p := by rw [La_]; omega) : p := h
def y_cN (h : p := by simp [flat4, h.lV]; omega) : p := h
def y_cO (h : p := by simp [h.lO, h.lR]; omega) : p := h
def y_cP (h : p := by rw [cMm_len q2.ln, cBd_len q2.bd.tick.ln]; exact ae rfl) : p := h
def y_cQ (h : p := by rw [Lm_, h.lV]) : p := h
def y_cR (h : p := by rw [Lm_, h.lO]) : p := h
def y_cS (h : p := by rw [cMmR_eq (bz)]) : p := h
def y_cT (h : p := by unfold readB; rw [if_neg o_m, if_neg o_m, if_pos o_m, co]) : p := h
def y_cU (h : p := by have := hK.small; omega) : p := h
def y_cV (h : p := by rw [show 144 * 160 = u.P.length by rw [hu.lP], db]; rfl) : p := h
def y_cW (h : p := by rw [midM_len]) : p := h
def y_cX (h : p := by rw [flat4, hB.lV]; rfl) : p := h
def y_cY (h : p := by rw [cBd_len h.bd]; rfl) : p := h
def y_cZ (h : p := by rw [v_set hB hn]; rfl) : p := h
def y_c0 (h : p := by rw [show letsCp (cycleM m).cp a = true by simpa using q0]; decide) : p := h
def y_c1 (h : p := by rw [cBd_len hWL]; rfl) : p := h
def y_c2 (h : p := by intro _ _ _ hK; obtain ⟨rfl, rfl⟩ := hK; exact fun x hx => hx) : p := h
def y_c3 (h : p := by rw [foldQ_take hq, putQ]; exact h.sub (.cons_cons _ (.cons _ sR_))) : p := h
def y_c4 (h : p := by rw [h1]; decide) : p := h
def y_c5 (h : p := by rw [(show isP o.kind = false from bw o_m)]; decide) : p := h
def y_c6 (h : p := by cases ht : s.taken <;> simp_all) : p := h
def y_c7 (h : p := by show (b.vs.set n x).length = 4; rw [ca]; exact h.lV) : p := h
def y_c8 (h : p := by rw [hC_len hr]; simp) : p := h
def y_c9 (h : p := by rw [Lm_, Lt_]; omega) : p := h
def y_da (h : p := by rw [jy (by show k + 0 + 1 ≤ n; omega)]; exact hd) : p := h
def y_db (h : p := by unfold askV; have q4 : (askU u).sig = sigU u := rfl; simp_all) : p := h
def y_dc (h : p := by unfold readB; rw [if_neg o_m, if_pos o_m, co]) : p := h
def y_dd (h : p := by simp only [La_, Lm_, Lt_, Ld_, ar]; omega) : p := h
def y_de (h : p := by rw [cBd_len (hPK.beginW (k / 5)).ln, cBd_len bdZ_wf]; decide) : p := h
def y_df (h : p := by first | exact dV m_m | exact mE m_m _ 160 rfl) : p := h
def y_dg (h : p := by rw [hdn]; decide) : p := h
def y_dh (h : p := by show _ = (chkH l i - (l.getD (308 + i) 0 + 1)) % 256; omega) : p := h
def y_di (h : p := by rw [Gx.sts_len]; exact hH97.histW hw (fun x hx => mL_ _ hx)) : p := h
def y_dj (h : p := by rw [← z8_all hl, nU_len (z8_ln hl (av _))]; rfl) : p := h
def y_dk (h : p := by rw [cBd_len hX9]; simp only [Lc_, au]; omega) : p := h
def y_dl (h : p := by rw [cBd_len hX2]; simp only [Lc_, au]; omega) : p := h
def y_dm (h : p := by rw [cBd_len hW9]; simp only [Lc_, au]; omega) : p := h
def y_dn (h : p := by rw [cBd_len hC9]; simp only [Lc_, au]; omega) : p := h
def y_do (h : p := by first | (rw [cBd_len hN2]; rfl) | (rw [cBd_len hN3]; rfl)) : p := h
def y_dp (h : p := by simp [h.lP]; omega) : p := h
def y_dq (h : p := by simp [h.lO]; omega) : p := h
def y_dr (h : p := by rw [cBd_len hB.off.ln]; rfl) : p := h
def y_ds (h : p := by rw [hll, putP_tot i n hi2 hy, f0]) : p := h
def y_dt (h : p := by rw [hB.lV]; omega) : p := h
def y_du (h : p := by have h9 := hrx.at cChg_len hcx0 1 rfl; simpa using h9) : p := h
def y_dv (h : p := by have h9 := hrx.at cChg_len hcx0 0 rfl; simpa using h9) : p := h
def y_dw (h : p := by rw [cMm_len q4.ln]; exact ae rfl) : p := h
def y_dx (h : p := by show e2.done = d.done + ((i + 1 : Nat) : Int); omega) : p := h
def y_dy (h : p := by rw [bi]; exact putBd_r hB (j := k) o_m _) : p := h
def y_dz (h : p := by rw [Lm_, h.work]) : p := h
def y_dA (h : p := by rw [La_]; simp only [ar]; omega) : p := h
def y_dB (h : p := by intro x hx; rw [List.mem_singleton.1 hx]; exact ho) : p := h
def y_dC (h : p := by show e2.done ≤ ((i + 1 : Nat) : Int) * 100; omega) : p := h
def y_dD (h : p := by show b.length - (j + n9 + k9) < b.length - j; omega) : p := h
def y_dE (h : p := by rw [best_step hcx0, hb]; exact better_no (.inl o_m)) : p := h
def y_dF (h : p := by rw [hon9]) : p := h
def y_dG (h : p := by rw [cBd_len (h.bd.write (a - 65296) hx).ln]; rfl) : p := h
def y_dH (h : p := by rw [gl]; exact aST bv 0 5 _ c) : p := h
def y_dI (h : p := by show min N 5000 - (i + 1) < min N 5000 - i; omega) : p := h
def y_dJ (h : p := by show (romQ g).length ≤ _; rw [romQ_len]; decide) : p := h
def y_dK (h : p := by simp [r4_len h]) : p := h
def y_dL (h : p := by rw [if_pos o_m]) : p := h
def y_dM (h : p := by rw [if_neg o_m]) : p := h
def y_dN (h : p := by rw [hu.lV]; rfl) : p := h
def y_dO (h : p := by rw [h4]; decide) : p := h
def y_dP (h : p := by (try simp only [decide_eq_true_eq, decide_eq_false_iff_not, beq_iff_eq, beq_eq_false_iff_ne, bne_iff_ne, bne_eq_false_iff_eq, ne_eq] at *); omega) : p := h
def y_dQ (h : p := by first | exact aQ 0 rfl rfl rfl rfl y_b | exact aP 0 rfl rfl rfl rfl y_b | exact bZ 0 rfl rfl rfl rfl y_b | exact bG 0 rfl rfl rfl rfl y_b) : p := h
def y_dR (h : p := by first | exact iG 4 16 y_b rfl o_m (show _ < (256 : Int) by omega) (show _ < (256 : Int) by decide) | rfl) : p := h
def y_dS (h : p := by first | exact aQ 4 rfl rfl rfl rfl y_b | exact aP 4 rfl rfl rfl rfl y_b | exact bZ 4 rfl rfl rfl rfl y_b | exact bG 4 rfl rfl rfl rfl y_b) : p := h
def y_dT (h : p := by first | (intro h; cases h; done) | (intro _ _ _ hK; obtain ⟨rfl, rfl⟩ := hK; exact (fun x hx => y_m))) : p := h
def y_dU (h : p := by first | exact iG 3 8 y_b rfl o_m (show _ < (256 : Int) by omega) (show _ < (256 : Int) by decide) | rfl) : p := h
def y_dV (h : p := by first | exact aQ 3 rfl rfl rfl rfl y_b | exact aP 3 rfl rfl rfl rfl y_b | exact bZ 3 rfl rfl rfl rfl y_b | exact bG 3 rfl rfl rfl rfl y_b) : p := h
def y_dW (h : p := by first | exact uN 16 y_b o_m (show _ < (256 : Int) by omega) | exact aDg 16 y_b | rfl) : p := h
def y_dX (h : p := by first | exact aQ 1 rfl rfl rfl rfl y_b | exact aP 1 rfl rfl rfl rfl y_b | exact bZ 1 rfl rfl rfl rfl y_b | exact bG 1 rfl rfl rfl rfl y_b) : p := h
def y_dY (h : p := by first | exact uP 7 y_b o_m (show _ < (256 : Int) by omega) (show _ < (256 : Int) by decide) | rfl) : p := h
def y_dZ (h : p := by first | exact iG 1 2 y_b rfl o_m (show _ < (256 : Int) by omega) (show _ < (256 : Int) by decide) | rfl) : p := h
def y_d0 (h : p := by first | exact aQ 2 rfl rfl rfl rfl y_b | exact aP 2 rfl rfl rfl rfl y_b | exact bZ 2 rfl rfl rfl rfl y_b | exact bG 2 rfl rfl rfl rfl y_b) : p := h
def y_d1 (h : p := by first | exact uN 256 y_b o_m (show _ < (65536 : Int) by omega) | exact aPk 256 y_b | rfl) : p := h
def y_d2 (h : p := by intro _ _ _ hK; obtain ⟨_, ⟨_, _, rfl, _⟩, rfl⟩ := hK; exact fun x hx => y_s) : p := h
def y_d3 (h : p := by intro _ _ _ hK; obtain ⟨_, ⟨_, rfl, _⟩, rfl⟩ := hK; exact fun x hx => y_s) : p := h
def y_d4 (h : p := by intro _ _ _ hK; obtain ⟨G, _, rfl⟩ := hK; exact fun x hx => y_s) : p := h
def y_d5 (h : p := by rw [yG y_a]; simp only [Lc_, au]; (try simp only [decide_eq_true_eq, decide_eq_false_iff_not, beq_iff_eq, beq_eq_false_iff_ne, bne_iff_ne, bne_eq_false_iff_eq, ne_eq] at *); omega) : p := h
def y_d6 (h : p := by first | exact uN 256 y_b o_m (show _ < (9223372036854775808 : Int) by omega) | rfl) : p := h
def y_d7 (h : p := by first | exact iG 1 2 y_b rfl o_m (show _ < (65536 : Int) by omega) (show _ < (65536 : Int) by decide) | rfl) : p := h
def y_d8 (h : p := by rw [aL y_a y_a]; (try simp only [decide_eq_true_eq, decide_eq_false_iff_not, beq_iff_eq, beq_eq_false_iff_ne, bne_iff_ne, bne_eq_false_iff_eq, ne_eq] at *); omega) : p := h
def y_d9 (h : p := by unfold Func.isWrapper; first | (rw [if_pos y_z]; kernel_rfl) | (rw [if_neg y_z]; exact ⟨rfl, rfl⟩)) : p := h
def y_ea (h : p := by first | exact uP 2 y_b o_m (show _ < (256 : Int) by omega) (show _ < (256 : Int) by decide) | rfl) : p := h
def y_eb (h : p := by rw [e9]; exact hG) : p := h
def y_ec (h : p := by rw [cU_len ((hu.dot_ (x := 0) y_b).line_ (x := u.line + 1) o_m)]; simp only [Lc_, au]; (try simp only [decide_eq_true_eq, decide_eq_false_iff_not, beq_iff_eq, beq_eq_false_iff_ne, bne_iff_ne, bne_eq_false_iff_eq, ne_eq] at *); omega) : p := h
def y_ed (h : p := by dsimp only; omega) : p := h
def y_ee (h : p := by rcases (show j < i ∨ j = i by omega) with h9 | rfl; exact hj j h9; exact z2) : p := h
def y_ef (h : p := by unfold joinedFacts; (iterate 31 refine and_i y_z ?_); decide +kernel) : p := h
def y_eg (h : p := by first | exact uP 6 y_b o_m (show _ < (256 : Int) by omega) (show _ < (256 : Int) by decide) | rfl) : p := h
def y_eh (h : p := by first | exact uP 4 y_b o_m (show _ < (256 : Int) by omega) (show _ < (256 : Int) by decide) | rfl) : p := h
def y_ei (h : p := by first | exact uN 2 y_b o_m (show _ < (256 : Int) by omega) | exact aDg 2 y_b | rfl) : p := h
def y_ej (h : p := by have h9 := (rowM_cp (aN hm y_r w hw)) 0 _ rfl; exact h9) : p := h
def y_ek (h : p := by rw [write_R _ hno y_a]) : p := h
def y_el (h : p := by have h9 := (aB1 hrx y_r w hw).at cChg_len hcx0 0 rfl; simpa using h9) : p := h
def y_em (h : p := by intro _ _ _ hK; obtain ⟨_, rfl, rfl⟩ := hK; exact fun x hx => y_s) : p := h
def y_en (h : p := by have h9 := (aN hr y_r w hw).at cSg_len hsi 0 rfl; simpa using h9) : p := h
def y_eo (h : p := by unfold writeBd; rw [if_neg o_m, if_neg o_m, if_neg y_G, if_neg o_m, co]; unfold voiceB; rw [if_neg o_m, if_neg o_m]) : p := h
def y_ep (h : p := by have h9 := forward_fn e g hg (k + i) (max n (k + i + 1)) he o_m o_m ⟨y_y, y_y⟩ w (St.lentV hw); rw [hT.b] at h9; exact h9) : p := h
def y_eq (h : p := by unfold placeV; rw [if_neg y_a, if_neg y_a]) : p := h
def y_er (h : p := by unfold writeBd; rw [if_neg o_m, if_neg o_m, if_neg y_G, if_neg o_m, co]; unfold voiceB; rw [if_pos o_m]) : p := h
def y_es (h : p := by first | exact iG 12 4096 y_b rfl o_m (show _ < (65536 : Int) by omega) (show _ < (65536 : Int) by decide) | rfl) : p := h
def y_et (h : p := by first | exact iG 6 64 y_b rfl o_m (show _ < (256 : Int) by omega) (show _ < (256 : Int) by decide) | rfl) : p := h
def y_eu (h : p := by first | exact iG 5 32 y_b rfl o_m (show _ < (256 : Int) by omega) (show _ < (256 : Int) by decide) | rfl) : p := h
def y_ev (h : p := by rw [rowU_len]; omega) : p := h
def y_ew (h : p := by first | exact uP 3 y_b o_m (show _ < (256 : Int) by omega) (show _ < (256 : Int) by decide) | rfl) : p := h
def y_ex (h : p := by intro _ _ _ hK; obtain ⟨_, ⟨rfl, va', Ga', hV', rfl⟩, rfl⟩ := hK; exact (fun x hx => y_bk)) : p := h
def y_ey (h : p := by first | exact uN 128 y_b o_m (show _ < (256 : Int) by omega) | exact aDg 128 y_b | rfl) : p := h
def y_ez (h : p := by rcases (show i = 0 ∨ i = 1 ∨ i = 2 ∨ i = 3 by omega) with rfl | rfl | rfl | rfl <;> rfl) : p := h
def y_eA (h : p := by simp at *; omega) : p := h
def y_eB (h : p := by rw [e9, if_neg y_b]) : p := h
def y_eC (h : p := by rw [iz, fx]; exact (Nat.div_lt_iff_lt_mul (ib y_b)).1 hy) : p := h
def y_eD (h : p := by first | exact uN 32 y_b o_m (show _ < (9223372036854775808 : Int) by omega) | rfl) : p := h
def y_eE (h : p := by unfold writeBd; rw [if_neg o_m, if_neg o_m, if_neg y_G, if_pos o_m, co]) : p := h
def y_eF (h : p := by intro _ _ _ hK; obtain ⟨_, ⟨rfl, rfl⟩, rfl⟩ := hK; exact (fun x hx => y_bk)) : p := h
def y_eG (h : p := by unfold beginB; dsimp only; rw [if_neg y_b, if_neg (show ¬ byB B = 0 from z1)]) : p := h
def y_eH (h : p := by unfold beginB; dsimp only; rw [if_neg y_b, if_pos (show byB B = 0 from z1)]) : p := h
def y_eI (h : p := by intro _ _ _ hK; obtain ⟨_, rfl, rfl⟩ := hK; exact (fun x hx => y_m)) : p := h
def y_eJ (h : p := by rw [tabL_len hP (by simp [tabB]), cO_len]; have := hq1 i y_a; omega) : p := h
def y_eK (h : p := by dsimp only; have := hq1 i y_a; rw [aL y_cw y_cw]; simp) : p := h
def y_eL (h : p := by rw [db]) : p := h
def y_eM (h : p := by dsimp only; have := hq1 i y_a; rw [aL o_m o_m]; omega) : p := h
def y_eN (h : p := by unfold numU; rw [if_pos y_a]) : p := h
def y_eO (h : p := by cases h) : p := h
def y_eP (h : p := by decide) : p := h
def y_eQ (h : p := by rw [e9]) : p := h
def y_eR (h : p := by simp) : p := h
def iL {Γ : Ctx} {k : eJ} {e : Env} {H : aC} {ops l : List Oper} (h : L1 Γ ops l k e H) : L1 Γ ops l k e H := h
def iD {Γ : Ctx} {k : eJ} {e : Env} {H : aC} {ops : List Oper} {S : AI → Prop} {need : AE} {pl : jT} (h : L2 Γ ops S need pl k e H) : L2 Γ ops S need pl k e H := h
def iC {Γ : Ctx} {k : eJ} {e : Env} {H : aC} {c : Code} (h : C Γ c k e H) : C Γ c k e H := h
def G_A (h : T_ q p := by
 intro k_
 first
 | ((with_reducible refine iC ?_); first | refine aJQ ?_ | refine aNj ?_ | refine aUP ?_ | refine aLR ?_ | refine aQR ?_ | refine aTQ rfl ?_ | refine aPV rfl ?_ | refine aTI rfl ?_)
 | ((with_reducible refine iL ?_); first | refine aT1 ?_ | refine RLa ?_ | refine RLo ?_ | refine RLp ?_ | refine Rl ?_)
 | ((with_reducible refine iD ?_); first | refine aT2 ?_ | refine RDa ?_ | refine RDo ?_ | refine aLp rfl rfl rfl ?_ | refine RD ?_)
 exact k_.u) := h ⟨k_⟩
def A_1 (h : T_ q p := by intro k_; (iterate 1 refine G_A ?_); exact k_.u) := h ⟨k_⟩
def A_2 (h : T_ q p := by intro k_; (iterate 2 refine G_A ?_); exact k_.u) := h ⟨k_⟩
def A_3 (h : T_ q p := by intro k_; (iterate 3 refine G_A ?_); exact k_.u) := h ⟨k_⟩
def A_4 (h : T_ q p := by intro k_; (iterate 4 refine G_A ?_); exact k_.u) := h ⟨k_⟩
def A_5 (h : T_ q p := by intro k_; (iterate 5 refine G_A ?_); exact k_.u) := h ⟨k_⟩
def A_6 (h : T_ q p := by intro k_; (iterate 6 refine G_A ?_); exact k_.u) := h ⟨k_⟩
def A_7 (h : T_ q p := by intro k_; (iterate 7 refine G_A ?_); exact k_.u) := h ⟨k_⟩
def A_8 (h : T_ q p := by intro k_; (iterate 8 refine G_A ?_); exact k_.u) := h ⟨k_⟩
def A_9 (h : T_ q p := by intro k_; (iterate 9 refine G_A ?_); exact k_.u) := h ⟨k_⟩
def A_10 (h : T_ q p := by intro k_; (iterate 10 refine G_A ?_); exact k_.u) := h ⟨k_⟩
def A_11 (h : T_ q p := by intro k_; (iterate 11 refine G_A ?_); exact k_.u) := h ⟨k_⟩
def A_12 (h : T_ q p := by intro k_; (iterate 12 refine G_A ?_); exact k_.u) := h ⟨k_⟩
def A_13 (h : T_ q p := by intro k_; (iterate 13 refine G_A ?_); exact k_.u) := h ⟨k_⟩
def A_14 (h : T_ q p := by intro k_; (iterate 14 refine G_A ?_); exact k_.u) := h ⟨k_⟩
def A_15 (h : T_ q p := by intro k_; (iterate 15 refine G_A ?_); exact k_.u) := h ⟨k_⟩
def A_16 (h : T_ q p := by intro k_; (iterate 16 refine G_A ?_); exact k_.u) := h ⟨k_⟩
def A_17 (h : T_ q p := by intro k_; (iterate 17 refine G_A ?_); exact k_.u) := h ⟨k_⟩
def A_18 (h : T_ q p := by intro k_; (iterate 18 refine G_A ?_); exact k_.u) := h ⟨k_⟩
def A_19 (h : T_ q p := by intro k_; (iterate 19 refine G_A ?_); exact k_.u) := h ⟨k_⟩
def A_20 (h : T_ q p := by intro k_; (iterate 20 refine G_A ?_); exact k_.u) := h ⟨k_⟩
def A_21 (h : T_ q p := by intro k_; (iterate 21 refine G_A ?_); exact k_.u) := h ⟨k_⟩
def A_22 (h : T_ q p := by intro k_; (iterate 22 refine G_A ?_); exact k_.u) := h ⟨k_⟩
def A_23 (h : T_ q p := by intro k_; (iterate 23 refine G_A ?_); exact k_.u) := h ⟨k_⟩
def A_24 (h : T_ q p := by intro k_; (iterate 24 refine G_A ?_); exact k_.u) := h ⟨k_⟩
def A_25 (h : T_ q p := by intro k_; (iterate 25 refine G_A ?_); exact k_.u) := h ⟨k_⟩
def A_27 (h : T_ q p := by intro k_; (iterate 27 refine G_A ?_); exact k_.u) := h ⟨k_⟩
def A_28 (h : T_ q p := by intro k_; (iterate 28 refine G_A ?_); exact k_.u) := h ⟨k_⟩
def A_30 (h : T_ q p := by intro k_; (iterate 30 refine G_A ?_); exact k_.u) := h ⟨k_⟩
def A_40 (h : T_ q p := by intro k_; (iterate 40 refine G_A ?_); exact k_.u) := h ⟨k_⟩
def A_53 (h : T_ q p := by intro k_; (iterate 53 refine G_A ?_); exact k_.u) := h ⟨k_⟩
def ZAA (h : T_ q p := by
 intro k_
 simp only [cr, ci, bg, ai, ay]
 exact k_.u) := h ⟨k_⟩
def ZAB (h : T_ q p := by
 intro k_
 refine cY false rfl rfl rfl (beq_eq_false_iff_ne.2 o_m) ?_
 exact k_.u) := h ⟨k_⟩
def ZAC (h : T_ q p := by
 intro k_
 simp only [ai, ay]
 exact k_.u) := h ⟨k_⟩
def ZAD (h : T_ q p := by
 intro k_
 refine RW (v := (.int .i64 ((i + 1 : Nat) : Int))) rfl rfl (cA_ _ (bC o_m)) (ZAl ?_)
 exact k_.u) := h ⟨k_⟩
def ZAE (h : T_ q p := by
 intro k_
 refine cY false rfl rfl rfl rfl ?_
 exact k_.u) := h ⟨k_⟩
def ZAF (h : T_ q p := by
 intro k_
 refine ZEn ?_
 refine ZA1 ?_
 exact k_.u) := h ⟨k_⟩
def ZAG (h : T_ q p := by
 intro k_
 refine ZAj ?_
 refine ZBt ?_
 exact k_.u) := h ⟨k_⟩
def ZAI (h : T_ q p := by
 intro k_
 exact RX (cG rfl) rfl (k_.u)) := h ⟨k_⟩
def ZAJ (h : T_ q p := by
 intro k_
 refine cY false rfl rfl rfl (bw o_m) ?_
 exact k_.u) := h ⟨k_⟩
def ZAK (h : T_ q p := by
 intro k_
 refine ZEn ?_
 refine ZAl ?_
 exact k_.u) := h ⟨k_⟩
def ZAL (h : T_ q p := by
 intro k_
 exact RZ (aK rfl rfl y_v (aA (b := b0) (l := cBd ((putB k x B).setV (k / 5) { ((putB k x B).v (k / 5)) with on := ((putB k x B).v (k / 5)).on && readyB (k / 5) (putB k x B) })) m_m)) rfl (RZ (aD (l' := cBd ((putB k x B).setV (k / 5) { ((putB k x B).v (k / 5)) with on := ((putB k x B).v (k / 5)).on && readyB (k / 5) (putB k x B) })) 0 rfl rfl rfl y_bS (ones_cBd _) rfl y_b8 (putZ hWO)) rfl (k_.u))) := h ⟨k_⟩
def ZAM (h : T_ q p := by
 intro k_
 exact RZ (aK rfl rfl y_K (aA (b := b0) (l := cBd ({ (beatB ({ B with div := 0 } : Bd)) with step := (B.step + 1) % 8 } : Bd)) m_m)) rfl (RZ (aD (l' := cBd ({ (beatB ({ B with div := 0 } : Bd)) with step := (B.step + 1) % 8 } : Bd)) 0 rfl rfl rfl y_K (ones_cBd _) rfl y_9 (putZ hFN)) rfl (k_.u))) := h ⟨k_⟩
def ZAO (h : T_ q p := by
 intro k_
 refine RX (eQ (A := (b0, blk [.int .u64 (FK.at Z.1 oi)] 36) :: (lb, blk [v0, .bool r] 123) :: G0) (G := [(pb, blk Z.1 T)]) (R := fun v H => v = .tuple #[] ∧ ∃ va' Gl', LineB 5 r va' (goes r 1 (FK.at Z.1 oi) Z.2).2 Gl' ∧ H = (b0, blk [.int .u64 (goes r 1 (FK.at Z.1 oi) Z.2).1] 36) :: (lb, blk [va', .bool r] 123) :: Gl') (((b0, blk [.int .u64 (FK.at Z.1 oi)] 36) :: (lb, blk [v0, .bool r] 123) :: G0).map (·.1)) K_ rfl (fun _ hb => eR hb) (wL_ (number1L_fn r lb b0 1 y_b v0 (FK.at Z.1 oi) hx8 Z.2 G0 hV0 (fun L => ⟨hSz.byts, hSz.en, hSz.sz⟩) _))) rfl ?_
 rintro _ _ ⟨_, ⟨rfl, va0, G1, hV1, rfl⟩, rfl⟩
 revert va0 G1 hV1
 exact k_.u) := h ⟨k_⟩
def ZAP (h : T_ q p := by
 intro k_
 refine RX (cM (l := [.int .i64 kind, .int .i64 banks, .int .i64 ram, .bool on, .bool mode, .int .i64 low, .int .i64 high, .int .u8 last]) rfl rfl) rfl (ZAq fun b0 => ?_)
 revert b0
 exact k_.u) := h ⟨k_⟩
def ZAQ (h : T_ q p := by
 intro k_
 refine cY true rfl rfl rfl rfl ?_
 exact k_.u) := h ⟨k_⟩
def ZAR (h : p := by
 refine ZA1 ?_
 exact E0 rfl ⟨rfl, rfl⟩) : p := h
def ZAS (h : T_ q p := by
 intro k_
 exact RZ (aK rfl rfl rfl y_h) rfl (k_.u)) := h ⟨k_⟩
def ZAT (h : T_ q p := by
 intro k_
 refine ZBL ?_
 exact RZ (aD (l' := cBd (((putB k x B).setV (k / 5) { ((putB k x B).v (k / 5)) with on := ((putB k x B).v (k / 5)).on && readyB (k / 5) (putB k x B) }))) 1 rfl rfl rfl rfl rfl rfl y_8 (putBd_v hPK (k := 0) (y := { ((putB k x B).v (k / 5)) with on := ((putB k x B).v (k / 5)).on && readyB (k / 5) (putB k x B) }) o_m y_b y_cs)) rfl (k_.u)) := h ⟨k_⟩
def ZAU (h : T_ q p := by
 intro k_
 refine cY true rfl rfl rfl (beq_iff_eq.2 hk) ?_
 exact k_.u) := h ⟨k_⟩
def ZAV (h : p := by
 have e1 : heldB a x ⟨kind, banks, ram, on, mode, low, high, last⟩ = false := by unfold heldB; dsimp only; rw [Bool.eq_iff_iff]; simp only [decide_eq_true_eq, beq_iff_eq, Bool.false_eq_true, iff_false]; omega
 exact aG (fun w hw => aY rfl rfl rfl (aA (b := b1) m_m w hw) rfl) ⟨rfl, y_R⟩) : p := h
def ZAW (h : T_ q p := by
 intro k_
 refine RZ (xS_ (l' := cSt 0 0 0 false) 0) rfl (ZDF ?_)
 exact k_.u) := h ⟨k_⟩
def ZAX (h : T_ q p := by
 intro k_
 exact RW (dN rfl rfl rfl) rfl y_c (k_.u)) := h ⟨k_⟩
def ZAY (h : T_ q p := by
 intro k_
 refine ZBL ?_
 exact RX (bB (F := [(b0, blk (cCp (tickCp (cyc2 (cyc1 m)).cp)) 141)]) (A := [(A.mb, blk (cMm A acc (askM 1 (aH .u8 (tickV (cyc4 (cyc3 (cyc2 (cyc1 m)))).u) 1 != 0) { (cyc4 (cyc3 (cyc2 (cyc1 m)))) with u := tickU (cyc4 (cyc3 (cyc2 (cyc1 m)))).u })) 156)]) (G := [(A.ub, blk (cU (tickU (cyc4 (cyc3 (cyc2 (cyc1 m)))).u)) 247)]) (R := fun v H => v = .tuple #[] ∧ H = [(A.mb, blk (cMm A acc (askM 2 (aH .u8 (tickV (cyc4 (cyc3 (cyc2 (cyc1 m)))).u) 2 != 0) (askM 1 (aH .u8 (tickV (cyc4 (cyc3 (cyc2 (cyc1 m)))).u) 1 != 0) { (cyc4 (cyc3 (cyc2 (cyc1 m)))) with u := tickU (cyc4 (cyc3 (cyc2 (cyc1 m)))).u }))) 156)]) K_ rfl (fun w hw _ => ask_fnM A acc (askM 1 (aH .u8 (tickV (cyc4 (cyc3 (cyc2 (cyc1 m)))).u) 1 != 0) { (cyc4 (cyc3 (cyc2 (cyc1 m)))) with u := tickU (cyc4 (cyc3 (cyc2 (cyc1 m)))).u }) hA5b 2 (aH .u8 (tickV (cyc4 (cyc3 (cyc2 (cyc1 m)))).u) 2 != 0) w hw)) rfl (k_.u)) := h ⟨k_⟩
def ZAZ (h : p := by
 refine ZAl ?_
 exact aG (fun w hw => aW rfl rfl y_K (aA (b := b1) (l := cBd ({ (beatB ({ B with div := 0 } : Bd)) with step := (B.step + 1) % 8 } : Bd)) m_m w hw)) ⟨rfl, y_E⟩) : p := h
def ZAa (h : T_ q p := by
 intro k_
 exact RW (jD rfl rfl) rfl y_c (k_.u)) := h ⟨k_⟩
def ZAb (h : T_ q p := by
 intro k_
 exact RW (cT rfl rfl) rfl rfl (k_.u)) := h ⟨k_⟩
def ZAc (h : T_ q p := by
 intro k_
 exact RZ (aK rfl rfl rfl y_p) rfl (k_.u)) := h ⟨k_⟩
def ZAd (h : T_ q p := by
 intro k_
 refine RW (v := (.int .i64 ((n + 1 : Nat) : Int))) rfl rfl (cA_ _ (bC o_m)) (ZAl ?_)
 exact k_.u) := h ⟨k_⟩
def ZAe (h : T_ q p := by
 intro k_
 refine RX (cM (l := [.int .u16 cnt, .int .u8 tima, .int .u8 tma, .int .u8 tac, .bool over]) rfl rfl) rfl (ZAq fun b0 => ?_)
 revert b0
 exact k_.u) := h ⟨k_⟩
def ZAf (h : T_ q p := by
 intro k_
 refine ZBL ?_
 exact RX (bB (F := [(b0, blk (cCp (tickCp (cyc2 (cyc1 m)).cp)) 141)]) (A := [(A.mb, blk (cMm A acc { (cyc4 (cyc3 (cyc2 (cyc1 m)))) with u := tickU (cyc4 (cyc3 (cyc2 (cyc1 m)))).u }) 156)]) (G := [(A.ub, blk (cU (tickU (cyc4 (cyc3 (cyc2 (cyc1 m)))).u)) 247)]) (R := fun v H => v = .tuple #[] ∧ H = [(A.mb, blk (cMm A acc (askM 1 (aH .u8 (tickV (cyc4 (cyc3 (cyc2 (cyc1 m)))).u) 1 != 0) { (cyc4 (cyc3 (cyc2 (cyc1 m)))) with u := tickU (cyc4 (cyc3 (cyc2 (cyc1 m)))).u })) 156)]) K_ rfl (fun w hw _ => ask_fnM A acc { (cyc4 (cyc3 (cyc2 (cyc1 m)))) with u := tickU (cyc4 (cyc3 (cyc2 (cyc1 m)))).u } hA5 1 (aH .u8 (tickV (cyc4 (cyc3 (cyc2 (cyc1 m)))).u) 1 != 0) w hw)) rfl (k_.u)) := h ⟨k_⟩
def ZAg (h : T_ q p := by
 intro k_
 rintro _ _ ⟨_, ⟨rfl, G0, rfl, hG0⟩, rfl⟩
 revert G0 hG0
 exact k_.u) := h ⟨k_⟩
def ZAh (h : T_ q p := by
 intro k_
 refine ZBL ?_
 exact RZ (aD (l' := cBd (({ (beatB ({ B with div := 0 } : Bd)) with step := (B.step + 1) % 8 } : Bd))) 1 rfl rfl rfl rfl rfl rfl y_V (putBd_step hE _)) rfl (k_.u)) := h ⟨k_⟩
def ZAi (h : p := by
 refine ZBr ?_
 exact E0 rfl ⟨rfl, rfl⟩) : p := h
def ZAj (h : T_ q p := by
 intro k_
 rintro _ _ ⟨_, ⟨rfl, rfl⟩, rfl⟩
 exact k_.u) := h ⟨k_⟩
def ZAk (h : p := by
 refine ZA1 ?_
 exact aG (fun w hw => aY rfl rfl rfl (aA (b := b0) (l := cSt 0 0 0 false) m_m w hw) rfl) ⟨rfl, rfl⟩) : p := h
def ZAl (h : T_ q p := by
 intro k_
 refine A_2 ?_
 exact k_.u) := h ⟨k_⟩
def ZAm (h : p := by
 refine ZAD ?_
 exact ⟨(i + 1, va0, G1), ⟨y_y, y_bI⟩, y_y, .cons rfl .nil, a_g, fun _ h => (((h.sub (.cons_cons _ (.cons _ sR_))).perm (aw (l₁ := [(pb, _)]) (l₂ := (lb, _) :: G1)))).as y_b0⟩) : p := h
def ZAn (h : p := by
 have e1 : latchB a x ⟨kind, banks, ram, on, mode, low, high, last⟩ = false := by unfold latchB; simp_all
 exact aG (fun w hw => aY rfl rfl rfl (aA (b := b1) m_m w hw) rfl) ⟨rfl, y_Q⟩) : p := h
def ZAo (h : T_ q p := by
 intro k_
 refine ZBp ?_
 exact DX rfl (bI K_ rfl (fun w hw => rom_fn g w (hg.later hw) o_m)) rfl y_d3 (k_.u)) := h ⟨k_⟩
def ZAp (h : p := by
 refine ZAK ?_
 exact aG (fun w hw => aW rfl rfl rfl (aA (b := b1) m_m w hw)) ⟨rfl, y_H⟩) : p := h
def ZAq (h : T_ q p := by
 intro k_
 rintro _ _ ⟨b0, rfl, rfl⟩
 revert b0
 exact k_.u) := h ⟨k_⟩
def ZAr (h : T_ q p := by
 intro k_
 refine ZAl ?_
 exact RX (cM (l := [.int .u8 s, .int .u8 m, .int .u8 h, .int .i64 day, .int .i64 sub, .bool halt, .bool carry, .int .u8 d0, .int .u8 d1, .int .u8 d2, .int .u8 d3, .int .u8 d4]) rfl rfl) rfl (k_.u)) := h ⟨k_⟩
def ZAs (h : T_ q p := by
 intro k_
 have e7 : (if o.kind = 26 ∧ o.x ≠ 4 then idles K.toaVg 1 x else x) = x := if_neg o_m
 revert e7
 exact k_.u) := h ⟨k_⟩
def ZAt (h : T_ q p := by
 intro k_
 simp only [ai]
 refine RS ?_
 exact k_.u) := h ⟨k_⟩
def ZAu (h : T_ q p := by
 intro k_
 refine ZAI ?_
 rintro _ _ ⟨b1, rfl, rfl⟩
 revert b1
 exact k_.u) := h ⟨k_⟩
def ZAv (h : T_ q p := by
 intro k_
 exact RZ (aE rfl rfl (aJ (v := P_ A.ub) m_m (get_mid (m := (cyc4 (cyc3 (cyc2 (cyc1 m))))) q3.ln (j := 14) rfl))) rfl (RX (bB (F := [(b0, blk (cCp (tickCp (cyc2 (cyc1 m)).cp)) 141), (A.mb, blk (cMm A acc (cyc4 (cyc3 (cyc2 (cyc1 m))))) 156)]) (A := [(A.ub, blk (cU (cyc4 (cyc3 (cyc2 (cyc1 m)))).u) 247)]) (G := []) (R := fun v H => v = .int .u8 (tickV (cyc4 (cyc3 (cyc2 (cyc1 m)))).u) ∧ H = [(A.ub, blk (cU (tickU (cyc4 (cyc3 (cyc2 (cyc1 m)))).u)) 247)]) K_ rfl (wA_ (tick_fn A.ub (cyc4 (cyc3 (cyc2 (cyc1 m)))).u q3.u))) rfl (k_.u))) := h ⟨k_⟩
def ZAy (h : T_ q p := by
 intro k_
 refine bF (H' := [(b, blk (cU (stepU u)) 247)]) (fun _ h => h.as y_ce) ?_
 exact RZ (cB K_ rfl (wV_ (ask_fn b (stepU u) hws))) rfl (k_.u)) := h ⟨k_⟩
def ZAz (h : T_ q p := by
 intro k_
 refine cY false rfl rfl rfl (bne_self_eq_false _) ?_
 exact k_.u) := h ⟨k_⟩
def ZA1 (h : T_ q p := by
 intro k_
 refine A_3 ?_
 exact k_.u) := h ⟨k_⟩
def ZA3 (h : T_ q p := by
 intro k_
 refine RX (aR (F := [(b0, _)]) (A := (rb, _) :: _) K_ rfl (wL_ (ridle_fn K rb 1 y_b x h G hG))) rfl (ZAg fun G0 hG0 => ?_)
 revert G0 hG0
 exact k_.u) := h ⟨k_⟩
def ZA4 (h : T_ q p := by
 intro k_
 refine ZBL ?_
 refine ZEn ?_
 exact k_.u) := h ⟨k_⟩
def ZA5 (h : T_ q p := by
 intro k_
 refine ZBL ?_
 refine ZAF ?_
 exact k_.u) := h ⟨k_⟩
def ZA6 (h : T_ q p := by
 intro k_
 refine ZAB ?_
 refine ZBr ?_
 exact k_.u) := h ⟨k_⟩
def ZA7 (h : T_ q p := by
 intro k_
 refine ZBL ?_
 exact DX rfl (bB (F := (b0, _) :: Ga) (A := [(A.mb, blk (cMm A va m) 156), (A.ub, blk (cU m.u) 247)]) (G := [(A.rb, blk (List.map U_ m.ram ++ A.rs) 5), (A.ob, blk (List.map U_ m.rom ++ A.sp) 5)]) (R := fun v H => v = .int .u8 (seenM a (cycleM m)) ∧ H = [(A.mb, blk (cMm A va (cycleM m)) 156), (A.ub, blk (cU (cycleM m).u) 247)]) K_ rfl (fun w hw hw2 => seen_fn A va m h a ha w hw (Row.left (aA (b := A.rb) m_m w hw2)) (Row.left (aA (b := A.ob) m_m w hw2)) hd)) rfl y_eF (k_.u)) := h ⟨k_⟩
def ZA8 (h : T_ q p := by
 intro k_
 exact RZ (aK rfl rfl y_bh (aA (b := b0) (l := cBd B) m_m)) rfl (RZ (aD (l' := cBd B) 0 rfl rfl rfl y_bh (ones_cBd _) rfl y_cc (putZ hB)) rfl (k_.u))) := h ⟨k_⟩
def ZA9 (h : T_ q p := by
 intro k_
 refine RZ (aK rfl rfl rfl y_C) rfl (ZAF ?_)
 exact k_.u) := h ⟨k_⟩
def ZBA (h : T_ q p := by
 intro k_
 refine bF (fun w hw => hw.perm (aw (l₁ := (b0, _) :: (lb, _) :: G1) (l₂ := [(pb, _)]))) ?_
 refine ZAA ?_
 exact k_.u) := h ⟨k_⟩
def ZBB (h : T_ q p := by
 intro k_
 refine ZBb ?_
 exact RX (bB (F := (b0, _) :: Ga) (A := [(A.mb, blk (cMm A va m) 156), (A.ub, blk (cU m.u) 247)]) (G := [(A.rb, blk (List.map U_ m.ram ++ A.rs) 5), (A.ob, blk (List.map U_ m.rom ++ A.sp) 5)]) (R := fun v H => v = .tuple #[] ∧ H = [(A.mb, blk (cMm A va (cycleM m)) 156), (A.ub, blk (cU (cycleM m).u) 247)]) K_ rfl (fun w hw hw2 => cycle_fn A va m h w hw (Row.left (aA (b := A.rb) m_m w hw2)) (Row.left (aA (b := A.ob) m_m w hw2)) hd)) rfl (k_.u)) := h ⟨k_⟩
def ZBC (h : T_ q p := by
 intro k_
 have hst : St w _ ((b, blk (cDb cap (pM q) (P_ hb) k (.slice (Q_ fa) (g.enc 0).length fc) lb mp pv wv asked done tab) 108) :: (mp, bL .u64 (l) (c)) :: (hM q m ++ (GH ++ (GL ++ D)))) w := hst
 have hml : ms.length ≤ 256 := by have := hL.len; have := (capT_ok cap).2; omega
 revert hst hml
 exact k_.u) := h ⟨k_⟩
def ZBD (h : T_ q p := by
 intro k_
 refine cY true rfl rfl rfl (ah o_m) ?_
 exact k_.u) := h ⟨k_⟩
def ZBE (h : T_ q p := by
 intro k_
 exact RY l_n rfl (k_.u)) := h ⟨k_⟩
def ZBF (h : T_ q p := by
 intro k_
 refine RLv K_ (fun w hw => ready_fn d.b d.q.A.mb w (aJ (b := d.b) (l := Db.cs d g (k)) (.tail _ (.head _)) rfl w hw)) ?_
 exact k_.u) := h ⟨k_⟩
def ZBG (h : T_ q p := by
 intro k_
 refine ZCu ?_
 refine bF (H' := (b2, blk (cDn cap f pv done (P_ tb)) 108) :: (b11, blk ((romQ g).map U_) 5) :: ((b10, blk ((badQ g).map U_) 5) :: (Gp ++ [(tb, oT), (b1, blk (cPn p) 58), (b0, blk (cGq g) 25)]))) (fun _ h => St.fl [[(b11, blk ((romQ g).map U_) 5)], [(b10, blk ((badQ g).map U_) 5)], [(b2, blk (cDn cap f pv done (P_ tb)) 108)], Gp ++ [(tb, oT), (b1, blk (cPn p) 58), (b0, blk (cGq g) 25)]] [2, 0, 1, 3] rfl h) ?_
 exact k_.u) := h ⟨k_⟩
def ZBH (h : T_ q p := by
 intro k_
 have hVc : Vec 298 3 va (cycleM m).acc.length (aF cAc (cycleM m).acc) Ga := by rw [cycleM_acc]; exact hV
 have hrc : (cycleM m).acc.length + 1 ≤ 1000000 := by rw [cycleM_acc]; omega
 revert hVc hrc
 exact k_.u) := h ⟨k_⟩
def ZBI (h : T_ q p := by
 intro k_
 exact RW (dU rfl rfl y_b) rfl (iY 256 y_b y_b) (RW (v := (.int .u8 (x / 256))) (dN rfl rfl rfl) rfl (cA_ _ ((fL _).trans o_m)) (k_.u))) := h ⟨k_⟩
def ZBJ (h : p := by
 refine A_17 ?_
 exact aG (fun _ _ => bX rfl rfl) ⟨rfl, _, rfl⟩) : p := h
def ZBK (h : T_ q p := by
 intro k_
 refine ZAS ?_
 exact RX (aR (F := [(b0, _)]) (A := (rb, _) :: _) K_ rfl (wL_ (rbytes_fn K rb x (h.le o_m : RunOk K.toaVh (bn + 2) x) G hG o ho))) rfl (k_.u)) := h ⟨k_⟩
def ZBL (h : T_ q p := by
 intro k_
 refine A_1 ?_
 exact k_.u) := h ⟨k_⟩
def ZBM (h : T_ q p := by
 intro k_
 exact RY (aP (n := romS b) (329) rfl rfl rfl rfl o_m) rfl (RZ (aD (l' := (((((madeP (List.replicate (romS b) 0) prog (min prog.length 15000)).set 327 kind).set 328 (b % 9))).set (329) (ram)).map U_) 0 rfl rfl rfl rfl rfl rfl (len_byte (n := romS b) y_J o_m) (put_byte (l := (((madeP (List.replicate (romS b) 0) prog (min prog.length 15000)).set 327 kind).set 328 (b % 9))) (n := romS b) ram y_J y_A y_A)) rfl (k_.u))) := h ⟨k_⟩
def ZBN (h : T_ q p := by
 intro k_
 refine DR [4, 5, 6, 7, 8, 9, 10, 11, 12] (pln [0, 2, 4, 6, 8, 10, 12, 14, 16, 18, 20, 22, 24, 27]) ?_
 refine A_13 ?_
 exact k_.u) := h ⟨k_⟩
def ZBO (h : T_ q p := by
 intro k_
 refine DX rfl (aR (F := [(b0, _)]) (A := (rb, _) :: _) K_ rfl (wL_ (rget_fn K rb x h G hG o.y))) rfl y_F (ZAg fun G0 hG0 => ?_)
 revert G0 hG0
 exact k_.u) := h ⟨k_⟩
def ZBP (h : p := by
 refine ZAK ?_
 exact aG (fun w hw => aW rfl rfl rfl (aA (b := b2) m_m w hw)) ⟨rfl, y_T⟩) : p := h
def ZBQ (h : T_ q p := by
 intro k_
 refine ZAl ?_
 exact RX (cM (l := [.int .u8 data, .int .u8 control, .int .u8 last, .int .i64 bits, .int .i64 count, .int .i64 sent]) rfl rfl) rfl (k_.u)) := h ⟨k_⟩
def ZBR (h : T_ q p := by
 intro k_
 rintro _ _ ⟨_, ⟨b2, rfl, rfl⟩, rfl⟩
 refine DX rfl (bI K_ rfl (fun w hw => plan_fn g w (hg.later hw) o_m)) rfl y_d2 ?_
 revert b2
 exact k_.u) := h ⟨k_⟩
def ZBS (h : T_ q p := by
 intro k_
 exact RZ (aK rfl rfl rfl (fun w hw => rowM_bk (m := m) (acc := acc) (aA (b := A.mb) m_m w hw))) rfl (k_.u)) := h ⟨k_⟩
def ZBT (h : T_ q p := by
 intro k_
 exact RY (aP (n := romS b) (328) rfl rfl rfl rfl o_m) rfl (RZ (aD (l' := ((((madeP (List.replicate (romS b) 0) prog (min prog.length 15000)).set 327 kind)).set (328) ((b % 9))).map U_) 0 rfl rfl rfl rfl rfl rfl (len_byte (n := romS b) y_J o_m) (put_byte (l := ((madeP (List.replicate (romS b) 0) prog (min prog.length 15000)).set 327 kind)) (n := romS b) (b % 9) y_J y_A y_A)) rfl (k_.u))) := h ⟨k_⟩
def ZBU (h : T_ q p := by
 intro k_
 refine ZAC ?_
 refine ZAl ?_
 exact k_.u) := h ⟨k_⟩
def ZBV (h : T_ q p := by
 intro k_
 exact DW rfl (dN rfl rfl rfl) rfl y_o (k_.u)) := h ⟨k_⟩
def ZBW (h : T_ q p := by
 intro k_
 refine eW (L' := [(b1, blk (cBd bdZ) 147), (b0, blk (cBd (beatB ({ B with div := 0 } : Bd))) 147)]) (fun w h => h.as y_cz) ?_
 refine ZAl ?_
 exact RZ (aE rfl rfl (aJ (v := .int .i64 B.step) m_m ((cBd_step hE).trans y_cr))) rfl (k_.u)) := h ⟨k_⟩
def ZBX (h : T_ q p := by
 intro k_
 exact RY (aP i rfl rfl rfl rfl o_m) rfl (k_.u)) := h ⟨k_⟩
def ZBY (h : T_ q p := by
 intro k_
 exact RW (jX rfl rfl y_b) rfl y_M (k_.u)) := h ⟨k_⟩
def ZBZ (h : T_ q p := by
 intro k_
 exact RZ (aK rfl rfl rfl (aA (b := b0) (l := cGq g) (.tail _ (.tail _ (mR_ _ (.tail _ (.tail _ (.head _)))))))) rfl (RX (bI K_ rfl (fun w hw => rom_fn g w (hg.later hw) o_m)) rfl (k_.u))) := h ⟨k_⟩
def ZBa (h : T_ q p := by
 intro k_
 refine ZEu ?_
 refine ZBL ?_
 exact k_.u) := h ⟨k_⟩
def ZBb (h : T_ q p := by
 intro k_
 refine A_5 ?_
 exact k_.u) := h ⟨k_⟩
def ZBc (h : p := by
 refine ZBL ?_
 exact EN sR_ ⟨rfl, y_k⟩) : p := h
def ZBd (h : p := by
 refine KC (fun q8 z8 => ?_) (fun q8 z8 => ?_)
 ·refine ZA1 ?_
  refine RW (iV rfl rfl) rfl y_q (ZA1 ?_)
  refine RY (aQ (a - 65408).toNat rfl rfl rfl o_m o_m) rfl (RZ (aD (l' := cMm A acc { m with high := m.high.set (a - 65408).toNat x }) 0 rfl rfl rfl rfl rfl rfl y_bi (putM_high h.ln o_m _)) rfl (ZAC ?_))
  exact ZBc
 exact ZBc) : p := h
def ZBe (h : p := by
 refine ZDH ?_
 exact E0 rfl ⟨rfl, rfl⟩) : p := h
def ZBf (h : T_ q p := by
 intro k_
 exact RY (aP (n := romS b) (327) rfl rfl rfl rfl o_m) rfl (RZ (aD (l' := (((madeP (List.replicate (romS b) 0) prog (min prog.length 15000))).set (327) (kind)).map U_) 0 rfl rfl rfl rfl rfl rfl (len_byte (n := romS b) y_J o_m) (put_byte (l := (madeP (List.replicate (romS b) 0) prog (min prog.length 15000))) (n := romS b) kind y_J y_A y_A)) rfl (k_.u))) := h ⟨k_⟩
def ZBg (h : T_ q p := by
 intro k_
 exact RW (iV rfl rfl) rfl y_c (k_.u)) := h ⟨k_⟩
def ZBh (h : T_ q p := by
 intro k_
 refine ZBa ?_
 exact RW (dO rfl rfl y_b) rfl y_dW (k_.u)) := h ⟨k_⟩
def ZBi (h : T_ q p := by
 intro k_
 refine ZA1 ?_
 exact DW (v := (.slice (Q_ b) u.V.length 8192)) rfl (eM 0 8192 rfl rfl rfl rfl rfl rfl y_b y_b) rfl y_dN (k_.u)) := h ⟨k_⟩
def ZBk (h : T_ q p := by
 intro k_
 rintro _ _ ⟨_, ⟨rfl, G1, rfl, hG1⟩, rfl⟩
 revert G1 hG1
 exact k_.u) := h ⟨k_⟩
def ZBl (h : T_ q p := by
 intro k_
 refine ZAs fun e7 => ?_
 have e8 : metJ o x = true := by unfold metJ; rw [(bw o_m : decide (23 ≤ o.kind ∧ o.kind ≤ 26) = false)]; rfl
 revert e7 e8
 exact k_.u) := h ⟨k_⟩
def ZBm (h : T_ q p := by
 intro k_
 refine ZBn ?_
 refine RLv K_ (fun w hw => readyM_fn b w (aV h1 y_r w hw)) ?_
 exact k_.u) := h ⟨k_⟩
def ZBn (h : T_ q p := by
 intro k_
 refine A_6 ?_
 exact k_.u) := h ⟨k_⟩
def ZBo (h : p := by
 refine A_14 ?_
 exact E0 rfl ⟨rfl, (cA_ Value.bool (sig_off (t := ⟨cnt, tima, tma, tac, over⟩) o_m))⟩) : p := h
def ZBp (h : T_ q p := by
 intro k_
 refine cL rfl rfl rfl rfl (dV (b := b0) (l := cGq g) m_m) rfl rfl ?_
 exact k_.u) := h ⟨k_⟩
def ZBq (h : p := by
 refine RW (v := _) (jX rfl rfl o_m) rfl (cA_ (Value.int .i64) (Int.tmod_eq_emod_of_nonneg o_m)) (ZBr ?_)
 exact aG (fun _ _ => bX rfl rfl) ⟨rfl, y_e⟩) : p := h
def ZBr (h : T_ q p := by
 intro k_
 refine A_4 ?_
 exact k_.u) := h ⟨k_⟩
def ZBs (h : T_ q p := by
 intro k_
 refine DZ rfl (bJ K_ rfl (fun w hw => line_fn (u.r 0) (u.r 7) (u.r 8) (u.r 9) (hu.look 0) (hu.look 7) (hu.look 8) (hu.look 9) _ _ _ _ u.V u.O hu.bV hu.bO (by rw [hu.lO]; decide) u.line (belowU u) (tLine_len _ _ _ _) (tLine_byts _ _ _ _) w (Ns.of (rowV (aA m_m w hw))) (Ns.of (rowO hu (aA m_m w hw))))) rfl y_d ?_
 rw [rowU_vals]
 exact k_.u) := h ⟨k_⟩
def ZBt (h : T_ q p := by
 intro k_
 simp only [cr, ci]
 exact k_.u) := h ⟨k_⟩
def ZBu (h : T_ q p := by
 intro k_
 refine ZA1 ?_
 refine RLv K_ (wQ_ (place_fn b _ ha)) ?_
 exact k_.u) := h ⟨k_⟩
def ZBv (h : T_ q p := by
 intro k_
 refine RX (cM (l := [P_ A.mb]) rfl rfl) rfl (ZAq fun b0 => ?_)
 revert b0
 exact k_.u) := h ⟨k_⟩
def ZBw (h : T_ q p := by
 intro k_
 exact RW (bE rfl rfl) rfl y_dR (k_.u)) := h ⟨k_⟩
def ZBx (h : T_ q p := by
 intro k_
 refine c_u ?_
 exact DZ rfl (xS_ (l' := cDd ⟨1, 0, r.pc, (nextT K.toaVg (⟨(⟨r, ime, false, false, false⟩ : CS), m⟩ : Rn _)).1, (ordT K.toaVg (nextT K.toaVg (⟨(⟨r, ime, false, false, false⟩ : CS), m⟩ : Rn _)).1 r.pc (nextT K.toaVg (⟨(⟨r, ime, false, false, false⟩ : CS), m⟩ : Rn _)).2).1⟩) 1) rfl y_dT (k_.u)) := h ⟨k_⟩
def ZBy (h : T_ q p := by
 intro k_
 refine aVd rfl (aM rfl) rfl rfl ?_
 exact k_.u) := h ⟨k_⟩
def ZBz (h : T_ q p := by
 intro k_
 refine ZA1 ?_
 exact DW rfl (dN rfl rfl rfl) rfl y_q (k_.u)) := h ⟨k_⟩
def ZB0 (h : p := by
 refine ZAK ?_
 exact aG (fun w hw => aW rfl rfl rfl (aA (b := b1) m_m w hw)) ⟨rfl, rfl⟩) : p := h
def ZB1 (h : p := by
 refine ZAK ?_
 exact aG (fun w hw => aW rfl rfl rfl (aA (b := b1) m_m w hw)) ⟨rfl, y_5⟩) : p := h
def ZB2 (h : p := by
 refine ZAK ?_
 exact aG (fun w hw => aW rfl rfl rfl (aA (b := b1) m_m w hw)) ⟨rfl, y_7⟩) : p := h
def ZB3 (h : T_ q p := by
 intro k_
 refine ZAA ?_
 refine ZAl ?_
 exact k_.u) := h ⟨k_⟩
def ZB4 (h : T_ q p := by
 intro k_
 exact DL rfl rfl rfl (eB (hra _ _ (cX (j := 334) o_m)) y_r) rfl (DW (v := (.int .u16 (l.getD 334 0))) rfl (dN rfl rfl rfl) rfl (aAd hb4.1 o_m) (k_.u))) := h ⟨k_⟩
def ZB5 (h : T_ q p := by
 intro k_
 exact DL rfl rfl rfl (eB (hra _ _ (cX (j := 335) o_m)) y_r) rfl (DW (v := (.int .u16 (l.getD 335 0))) rfl (dN rfl rfl rfl) rfl (aAd hb5.1 o_m) (k_.u))) := h ⟨k_⟩
def ZB6 (h : T_ q p := by
 intro k_
 exact RY (bZ (s := 4) (k / 5) rfl rfl rfl o_m o_m) rfl (k_.u)) := h ⟨k_⟩
def ZB7 (h : T_ q p := by
 intro k_
 refine RZ (aK rfl rfl y_cX (fun w hw => row_vs hB (aA (b := b0) (l := cBd B) m_m w hw))) rfl (ZA1 ?_)
 exact k_.u) := h ⟨k_⟩
def ZB8 (h : T_ q p := by
 intro k_
 refine DZ rfl (xS_ (l' := cHd ⟨(nameH ((l.drop 308).take 15)), ((sortH (l.getD 327 0)).getD (0, false, false)).1, ((sortH (l.getD 327 0)).getD (0, false, false)).2.1, ((sortH (l.getD 327 0)).getD (0, false, false)).2.2, 2 * 2 ^ (l.getD 328 0).toNat, (sizesH.getD (l.getD 329 0).toNat 0), false⟩) 0) rfl n_h (ZAA ?_)
 exact k_.u) := h ⟨k_⟩
def ZB9 (h : T_ q p := by
 intro k_
 exact RW (jD rfl rfl) rfl y_o (k_.u)) := h ⟨k_⟩
def ZCA (h : T_ q p := by
 intro k_
 exact RW (yR rfl rfl) rfl y_c (k_.u)) := h ⟨k_⟩
def ZCB (h : T_ q p := by
 intro k_
 exact RX (aR (F := []) (A := (b0, blk [ad6, v0] 333) :: G0) (R := fun v H => v = .nilIface ∧ ∃ va' G', Vec 5 1 va' (i + 1) (txV ((l.take i).map chrH) ++ [.int .u8 63]) G' ∧ H = (b0, blk [(P_ b0), va'] 333) :: G') K_ rfl (fun w hw => bwrite_fn b0 ad6 v0 hA6 i o_m _ G0 hV0 63 _ w (St.lentV (G := []) hw))) rfl (k_.u)) := h ⟨k_⟩
def ZCC (h : T_ q p := by
 intro k_
 refine ZA6 ?_
 refine ZAB ?_
 exact k_.u) := h ⟨k_⟩
def ZCE (h : T_ q p := by
 intro k_
 refine ZA1 ?_
 exact DW (v := (.slice (some ⟨b, 8192, none⟩) u.O.length 160)) rfl (eM 0 160 rfl rfl rfl rfl rfl rfl y_b y_b) rfl (by rw [hu.lO]; rfl) (k_.u)) := h ⟨k_⟩
def ZCF (h : T_ q p := by
 intro k_
 refine ZBL ?_
 exact RX (aR (F := [(b1, blk (cBd bdZ) 147)]) (A := [(b0, blk (cBd (halfB ({ B with div := 0 } : Bd))) 147)]) (R := fun v H => v = .tuple #[] ∧ H = [(b0, blk (cBd (slideB (halfB ({ B with div := 0 } : Bd)))) 147)]) K_ rfl (wL_ (slideB_fn b0 (halfB ({ B with div := 0 } : Bd)) hH))) rfl (k_.u)) := h ⟨k_⟩
def ZCG (h : T_ q p := by
 intro k_
 refine ZAB ?_
 refine ZBb ?_
 exact k_.u) := h ⟨k_⟩
def ZCH (h : p := by
 have e9 : errH l = 0 := by unfold errH; rw [if_neg o_m, if_neg y_bc]; rw [hs0]; dsimp only; rw [if_neg o_m, if_neg (by simpa using q5)]
 exact aG (fun w hw => aY rfl rfl rfl (aA (b := b0) (l := cHd (hdH l)) m_m w hw) rfl) ⟨rfl, by rw [e9, if_pos rfl]⟩) : p := h
def ZCI (h : T_ q p := by
 intro k_
 refine RZ (aK rfl rfl rfl (aA (b := b0) (l := cGq g) m_m)) rfl (RLv K_ (wQ_ (few_fn g)) ?_)
 exact k_.u) := h ⟨k_⟩
def ZCJ (h : T_ q p := by
 intro k_
 refine ZAS ?_
 exact RX (aR (F := [(b0, _)]) (A := (rb, _) :: _) K_ rfl (wL_ (rwords_fn K rb x (h.le o_m : RunOk K.toaVh (bn + 3) x) G0 hG0 o ho))) rfl (k_.u)) := h ⟨k_⟩
def ZCK (h : T_ q p := by
 intro k_
 have hWL : ((putB k x B).setV (k / 5) { ((putB k x B).v (k / 5)) with len := longest (k / 5) - x % longest (k / 5) }).Wf := hPK.setV _ ⟨y_ed, hv9.lev, hv9.wait⟩
 have hWO : ((putB k x B).setV (k / 5) { ((putB k x B).v (k / 5)) with on := ((putB k x B).v (k / 5)).on && readyB (k / 5) (putB k x B) }).Wf := hPK.setV _ ⟨hv9.len, hv9.lev, hv9.wait⟩
 revert hWL hWO
 exact k_.u) := h ⟨k_⟩
def ZCL (h : T_ q p := by
 intro k_
 refine iE [(b0, blk (cO o) 159)] [3, 4, 5, 6, 7, 8, 9, 10] (.step true 0 (.step true 1 (.step true 2 (.step true 3 (.step true 4 (.step true 5 (.step true 7 (.step true 8 (.step true 9 (.step false 6 (.step true 10 (.step false 11 .done)))))))))))) rfl y_f y_f (fun x hx => y_Y) ?_
 refine ZEf ?_
 exact k_.u) := h ⟨k_⟩
def ZCM (h : T_ q p := by
 intro k_
 refine RZ (aD (l' := (((madeP (List.replicate (romS b) 0) prog i)).set (madeAt i) ((prog.getD i 0))).map U_) 0 rfl rfl rfl rfl rfl rfl (len_byte (n := romS b) y_J o_m) (put_byte (l := (madeP (List.replicate (romS b) 0) prog i)) (n := romS b) (prog.getD i 0) y_J y_A y_A)) rfl (ZAA ?_)
 exact k_.u) := h ⟨k_⟩
def ZCN (h : T_ q p := by
 intro k_
 refine ZAI ?_
 refine ZAq fun b0 => ?_
 revert b0
 exact k_.u) := h ⟨k_⟩
def ZCO (h : T_ q p := by
 intro k_
 refine ZBL ?_
 exact RX (aR (F := []) (A := (b0, blk [ad6, v0] 333) :: G0) (R := fun v H => H = [] ∧ v = .string (bs ((l.take i).map chrH))) K_ rfl (fun w hw => bstring_fn b0 ad6 v0 ((l.take i).map chrH) o_m G0 (hV0.as hTi.symm rfl) (fun h => q0 o_m) _ w (St.lentV (G := []) hw))) rfl (k_.u)) := h ⟨k_⟩
def ZCP (h : p := by
 refine ZA1 ?_
 exact E0 rfl ⟨rfl, y_i⟩) : p := h
def ZCQ (h : T_ q p := by
 intro k_
 exact RZ (aK rfl rfl rfl (fun w hw => rowM_bk (aN hm y_r w hw))) rfl (k_.u)) := h ⟨k_⟩
def ZCR (h : T_ q p := by
 intro k_
 refine ZBN ?_
 exact DX rfl (gP (F := [(b0, _), (rb, _)]) (A := G) rfl K.mW K.cW rfl (fun w hw => K.dW h.m hG (St.lentV hw) o_m h.r.a)) rfl n_h (k_.u)) := h ⟨k_⟩
def ZCS (h : T_ q p := by
 intro k_
 refine DZ rfl (bJ K_ rfl (fun w hw => name_fn ba (oa + 308) (c - 308) ((l.drop 308).take 15) o_m (fun x hx => hb x (da (cu hx))) w (Row.takeK (Row.dropK (aN hra y_r w hw) 308) 15))) rfl y_d (ZED ?_)
 exact k_.u) := h ⟨k_⟩
def ZCT (h : T_ q p := by
 intro k_
 refine ZAl ?_
 exact RX (cM (l := cGq g) rfl rfl) rfl (k_.u)) := h ⟨k_⟩
def ZCU (h : p := by
 have e9 : effJ K.toaVg o x = goto o.n (push K.toaVg x.s.r.pc (idles K.toaVg 1 x)) := by unfold effJ; rw [e7, e8]; simp only [Bool.true_eq_false, if_false]; simp only [hk]; rfl
 exact EV rfl (.cons _ sR_) ⟨cA_ Value.bool e8.symm, G1, y_t, y_0⟩) : p := h
def ZCV (h : T_ q p := by
 intro k_
 refine ZA1 ?_
 exact RY (dO rfl rfl y_b) rfl (k_.u)) := h ⟨k_⟩
def ZCW (h : p := by
 refine ZBU ?_
 exact aG (fun w hw => aW rfl rfl y_bS (aA (b := b1) (l := cBd ((putB k x B).setV (k / 5) { ((putB k x B).v (k / 5)) with on := ((putB k x B).v (k / 5)).on && readyB (k / 5) (putB k x B) })) m_m w hw)) ⟨rfl, y_bp⟩) : p := h
def ZCX (h : p := by
 refine ZBU ?_
 exact aG (fun w hw => aW rfl rfl y_bS (aA (b := b1) (l := cBd ((putB k x B).setV (k / 5) { ((putB k x B).v (k / 5)) with on := ((putB k x B).v (k / 5)).on && readyB (k / 5) (putB k x B) })) m_m w hw)) ⟨rfl, y_eo⟩) : p := h
def ZCY (h : p := by
 refine ZAD ?_
 exact ⟨i + 1, y_y, y_y, .cons rfl (.cons rfl .nil), a_g, fun _ h => h⟩) : p := h
def ZCZ (h : T_ q p := by
 intro k_
 refine ZEf ?_
 refine ZAE ?_
 exact k_.u) := h ⟨k_⟩
def ZCa (h : T_ q p := by
 intro k_
 refine ZAl ?_
 exact RZ (cB K_ rfl (fun w hw => next_fn b (oneU u) (hu.one hd) w (St.lentA hw) (show u.line < 154 by (try simp only [decide_eq_true_eq, decide_eq_false_iff_not, beq_iff_eq, beq_eq_false_iff_ne, bne_iff_ne, bne_eq_false_iff_eq, ne_eq] at *); omega))) rfl (k_.u)) := h ⟨k_⟩
def ZCb (h : p := by
 refine RZ (aK rfl rfl rfl y_N) rfl (ZAK ?_)
 exact aG (fun w hw => aW rfl rfl rfl (aA (b := b1) m_m w hw)) ⟨rfl, y_L⟩) : p := h
def ZCc (h : T_ q p := by
 intro k_
 refine ZAq fun b0 => ?_
 refine ZAu fun b1 => ?_
 revert b0 b1
 exact k_.u) := h ⟨k_⟩
def ZCd (h : T_ q p := by
 intro k_
 exact DW (v := (.int .i64 ((i + 1 : Nat) : Int))) rfl rfl rfl (cA_ _ (bC o_m)) (DW (v := (.slice (some ⟨b, cut1 o (i + 1) c, none⟩) l.length (c - (i + 1)))) rfl (dT (i + 1) (putP n ++ l).length rfl rfl rfl rfl rfl rfl o_m o_m) rfl y_ds (k_.u))) := h ⟨k_⟩
def ZCe (h : T_ q p := by
 intro k_
 exact DY rfl (bZ (s := 160) u.line.toNat rfl rfl rfl o_m o_m) rfl (DZ rfl (aD (l' := cU { u with P := gK u.P (u.line.toNat * 160) (rowU u) }) 3 rfl rfl rfl rfl rfl rfl (by rw [cU_len hu, Lm_, rowU_len]; omega) (putU_P hu y_ev)) rfl n_h (k_.u))) := h ⟨k_⟩
def ZCf (h : T_ q p := by
 intro k_
 refine ZAl ?_
 exact RX (aR (F := [(b1, blk (cBd bdZ) 147)]) (A := [(b0, blk (cBd (putB k x B)) 147)]) (R := fun v H => v = .tuple #[] ∧ H = [(b0, blk (cBd (beginB (k / 5) (putB k x B))) 147)]) K_ rfl (wL_ (beginB_fn b0 (putB k x B) hPK (k / 5) o_m))) rfl (k_.u)) := h ⟨k_⟩
def ZCg (h : p := by
 obtain rfl : i = os.length := by omega
 exact EN sR_ ⟨rfl, _, G0, y_cj, y_eL⟩) : p := h
def ZCh (h : T_ q p := by
 intro k_
 refine RX (gP (F := [(b0, _), (rb, _)]) (A := G) rfl K.mR K.cR rfl (fun w hw => K.dR h.m hG (St.lentV hw) o_m)) rfl ?_
 rintro _ _ ⟨G0, ⟨rfl, hG0⟩, rfl⟩
 revert G0 hG0
 exact k_.u) := h ⟨k_⟩
def ZCi (h : p := by
 have e9 : errH l = 7 := by unfold errH; rw [if_neg o_m, if_neg y_bc]; rw [hs0]; dsimp only; rw [if_pos o_m]
 exact aG (fun w hw => aY rfl rfl rfl (aA (b := b0) (l := cHd zHd) m_m w hw) rfl) ⟨rfl, y_eB⟩) : p := h
def ZCj (h : T_ q p := by
 intro k_
 exact DX rfl (aHL (n := (hdH rom).ram.toNat) (z := .int .u8 0) (vnf_int hram.1) (vnf_int hram.1) o_m rfl rfl rfl rfl) rfl y_em (k_.u)) := h ⟨k_⟩
def ZCk (h : p := by
 refine A_11 ?_
 exact EV rfl (bf _ _) ⟨cA_ _ y_I, rfl⟩) : p := h
def ZCl (h : T_ q p := by
 intro k_
 refine ZAl ?_
 refine eW (L' := [(b0, blk (cCp (tickCp (cyc2 (cyc1 m)).cp)) 141), (A.mb, blk (cMm A acc (cyc5 (cyc4 (cyc3 (cyc2 (cyc1 m)))))) 156), (A.ub, blk (cU (cyc5 (cyc4 (cyc3 (cyc2 (cyc1 m))))).u) 247)]) (fun _ h => h.as (by rw [cyc5_u]; rfl)) ?_
 exact k_.u) := h ⟨k_⟩
def ZCm (h : T_ q p := by
 intro k_
 exact RW (v := (.int .i64 (((n / 128 ^ i) % 128 * 128 ^ i : Nat) : Int))) (dO rfl rfl o_m) rfl (cA_ _ (seven_shl hi (gz _ y_b))) (RW (v := (.int .i64 ((n % 128 ^ (i + 1) : Nat) : Int))) (cT rfl rfl) rfl (cA_ _ (seven_or hi)) (k_.u))) := h ⟨k_⟩
def ZCn (h : p := by
 have hw9 : (putU u (numU a) x).Wf := (hu.set hx y_a).off _
 refine bF (H' := [(b, blk (cU (putU u (numU a) x)) 247)]) (fun _ h => h.as y_ce) ?_
 refine RZ (cB K_ rfl (wV_ (ask_fn b (putU u (numU a) x) hw9))) rfl (ZA1 ?_)
 exact EV rfl sR_ ⟨cA_ _ (wv_R _ hno y_a).symm, y_ek⟩) : p := h
def ZCo (h : T_ q p := by
 intro k_
 refine ZAs fun e7 => ?_
 have e8 : metJ o x = true := by unfold metJ; rw [(ah o_m : decide (23 ≤ o.kind ∧ o.kind ≤ 26) = true)]; simpa using q0
 revert e7 e8
 exact k_.u) := h ⟨k_⟩
def ZCp (h : T_ q p := by
 intro k_
 refine c_u ?_
 refine ZBn ?_
 exact k_.u) := h ⟨k_⟩
def ZCq (h : T_ q p := by
 intro k_
 refine ZDH ?_
 refine DR [5, 6, 7, 8] (pln [0, 2, 4, 6, 8, 10, 12, 14, 16, 18, 20, 22]) ?_
 exact k_.u) := h ⟨k_⟩
def ZCr (h : T_ q p := by
 intro k_
 exact RZ (aK rfl rfl y_v (aA (b := b0) (l := cBd (beginB (k / 5) (putB k x B))) m_m)) rfl (RZ (aD (l' := cBd (beginB (k / 5) (putB k x B))) 0 rfl rfl rfl y_b7 (ones_cBd _) rfl y_de (putZ (hPK.beginW (k / 5)).ln)) rfl (k_.u))) := h ⟨k_⟩
def ZCs (h : T_ q p := by
 intro k_
 refine iE [(b0, blk [P_ A.mb] 268)] [1, 2, 3, 4] (.step true 0 (.step true 1 (.step true 2 (.step true 3 (.step false 4 (.step false 5 (.step true 6 .done))))))) rfl y_f y_f (fun x hx => y_bk) ?_
 refine cL rfl rfl rfl rfl y_bC rfl rfl ?_
 exact k_.u) := h ⟨k_⟩
def ZCt (h : T_ q p := by
 intro k_
 exact RZ (aE rfl rfl (aJ m_m (show (cU (oneU u))[8365]? = some (.int .i64 (u.dot + 1)) from cU_dot (hu.one hd)))) rfl (k_.u)) := h ⟨k_⟩
def ZCu (h : T_ q p := by
 intro k_
 rw [cr, ci]
 exact k_.u) := h ⟨k_⟩
def ZCv (h : T_ q p := by
 intro k_
 refine ZBL ?_
 refine iE [(b0, blk (cO o) 159)] [3, 4, 5, 6, 7] (.step true 0 (.step true 1 (.step true 2 (.step true 3 (.step true 4 (.step true 5 (.step false 6 (.step true 7 (.step false 8 .done))))))))) rfl y_f y_f (fun x hx => y_Y) ?_
 exact k_.u) := h ⟨k_⟩
def ZCw (h : T_ q p := by
 intro k_
 exact RW (v := (.int .u8 (((n / 128 ^ i) % 128 : Nat) : Int))) (jX rfl rfl y_b) rfl (cA_ _ ((Int.tmod_eq_emod_of_nonneg o_m).trans o_m)) (RW (v := (.int .i64 (((n / 128 ^ i) % 128 : Nat) : Int))) rfl rfl (lU o_m o_m) (k_.u))) := h ⟨k_⟩
def ZCx (h : p := by
 refine ZAK ?_
 exact aG (fun w hw => aW rfl rfl rfl (aA (b := b1) m_m w hw)) ⟨rfl, y_bx⟩) : p := h
def ZCy (h : T_ q p := by
 intro k_
 exact RY (aP (n := romS b) (333) rfl rfl rfl rfl o_m) rfl (RZ (aD (l' := (madeI kind b ram prog).map U_) 0 rfl rfl rfl rfl rfl rfl (len_byte hlZ o_m) (put_byte (l := madeZ kind b ram prog) _ hlZ o_m o_m)) rfl (k_.u))) := h ⟨k_⟩
def ZCz (h : T_ q p := by
 intro k_
 refine c_u ?_
 refine ZBr ?_
 exact k_.u) := h ⟨k_⟩
def ZC0 (h : p := by
 refine ZBr ?_
 exact aG (fun _ _ => bX rfl rfl) ⟨rfl, _, rfl⟩) : p := h
def ZC1 (h : T_ q p := by
 intro k_
 refine ZBE ?_
 refine ZA1 ?_
 exact k_.u) := h ⟨k_⟩
def ZC2 (h : p := by
 refine ZBL ?_
 exact EN sR_ ⟨rfl, rfl⟩) : p := h
def ZC3 (h : T_ q p := by
 intro k_
 refine RZ (aK rfl rfl rfl (fun w hw => rowM_ck (m := (cyc5 (cyc4 (cyc3 (cyc2 (cyc1 m)))))) (acc := acc) (aA (b := A.mb) m_m w hw))) rfl (RLv K_ (wQ_ (tickCk_fn (cyc5 (cyc4 (cyc3 (cyc2 (cyc1 m))))).ck q4.ck)) ?_)
 exact k_.u) := h ⟨k_⟩
def ZC4 (h : T_ q p := by
 intro k_
 refine ZAl ?_
 exact RX (cM (l := [.int .u8 page, .int .i64 left]) rfl rfl) rfl (k_.u)) := h ⟨k_⟩
def ZC5 (h : T_ q p := by
 intro k_
 refine RZ (aK rfl rfl (by rw [cBd_len q2.bd]; rfl) (fun w hw => rowM_bd (m := (cyc3 (cyc2 (cyc1 m)))) (acc := acc) (aA (b := A.mb) m_m w hw))) rfl (RLv K_ (wQ_ (tickB_fn (cyc3 (cyc2 (cyc1 m))).bd q2.bd)) ?_)
 exact k_.u) := h ⟨k_⟩
def ZC6 (h : T_ q p := by
 intro k_
 have ho : turnO k a = (a % 2 == 1) := by unfold turnO; rw [hk]; rfl
 rw [x16 (x := a % 2) o_m, or_zc]
 revert ho
 exact k_.u) := h ⟨k_⟩
def ZC7 (h : p := by
 have hnv : 0 = stepV u := by unfold stepV; rw [if_neg y_a]
 exact EV rfl sR_ ⟨cA_ _ y_1, y_cf⟩) : p := h
def ZC8 (h : p := by
 refine ZBn ?_
 exact EV rfl sR_ ⟨cA_ Value.bool (ah z0).symm, by rw [if_pos z0]; rfl⟩) : p := h
def ZC9 (h : p := by
 refine ZAD ?_
 exact ⟨(i + 1, va0, G1, (P_ b0)), ⟨y_y, fun j hj' => y_ee, .inr rfl, hV1.as y_cs y_bK, fun h => absurd h (Nat.succ_ne_zero _)⟩, y_y, .cons rfl .nil, a_g, fun _ h => h⟩) : p := h
def ZDA (h : T_ q p := by
 intro k_
 refine RZ (aD (l' := cBd (putB k x B)) 0 rfl rfl rfl y_bv (ones_cBd _) rfl y_b9 (putZ hPK)) rfl (ZBU ?_)
 exact k_.u) := h ⟨k_⟩
def ZDB (h : T_ q p := by
 intro k_
 refine bF (H' := (b3, blk (cSt j 0 0 false) 38) :: (b2, bL .u64 (l) (c)) :: e2.H gx j) (fun _ h => St.fl [G2, G1, [_], [(b3, blk (cSt j 0 0 false) 38), (b2, bL .u64 (l) (c))], e2.H gx j] [3, 4] rfl h) ?_
 refine ZBE ?_
 exact k_.u) := h ⟨k_⟩
def ZDC (h : T_ q p := by
 intro k_
 refine iE [(b0, blk (cO o) 159)] [3, 4, 5, 6] (.step true 0 (.step true 1 (.step true 2 (.step true 3 (.step true 4 (.step true 5 (.step false 6 (.step false 7 .done)))))))) rfl y_f y_f (fun x hx => y_Y) ?_
 refine ZBn ?_
 exact k_.u) := h ⟨k_⟩
def ZDD (h : T_ q p := by
 intro k_
 exact RZ (aK rfl rfl rfl y_W) rfl (k_.u)) := h ⟨k_⟩
def ZDE (h : T_ q p := by
 intro k_
 refine ZAl ?_
 exact RX (cM (l := [.int .u8 sel, .int .u8 down]) rfl rfl) rfl (k_.u)) := h ⟨k_⟩
def ZDF (h : T_ q p := by
 intro k_
 rw [ai]
 exact k_.u) := h ⟨k_⟩
def ZDG (h : T_ q p := by
 intro k_
 exact DZ rfl (bJ K_ rfl (fun w hw => rpair_fn K rb x.s h.r w (aA (l := cN K x.s) m_m w hw) o.x)) rfl y_d (k_.u)) := h ⟨k_⟩
def ZDH (h : T_ q p := by
 intro k_
 refine A_7 ?_
 exact k_.u) := h ⟨k_⟩
def ZDI (h : T_ q p := by
 intro k_
 refine DR [2, 3] (pln [0, 2, 6, 5, 9, 11, 12]) ?_
 refine ZBL ?_
 exact k_.u) := h ⟨k_⟩
def ZDJ (h : T_ q p := by
 intro k_
 refine ZBL ?_
 exact RW (v := (.int .u8 (x % 256))) (dN rfl rfl rfl) rfl (cA_ _ ((fL _).trans o_m)) (k_.u)) := h ⟨k_⟩
def ZDK (h : T_ q p := by
 intro k_
 refine ZBL ?_
 refine RLv K_ (wQ_ (flagA_fn 32 _)) ?_
 exact k_.u) := h ⟨k_⟩
def ZDL (h : T_ q p := by
 intro k_
 refine DW rfl (dU rfl rfl y_b) rfl (iY 256 y_b y_b) (ZBV ?_)
 exact k_.u) := h ⟨k_⟩
def ZDM (h : p := by
 refine ZA1 ?_
 exact fM (fun w hw => aY rfl rfl rfl (aA (b := b0) (l := cSt ((k : Nat) : Int) 5 0 false) (.head _) w hw) rfl) (.cons _ sR_) ⟨rfl, rfl⟩) : p := h
def ZDN (h : T_ q p := by
 intro k_
 refine eX (H' := (b1, blk (cDz cap (P_ tb)) 108) :: [(b2, blk ((romQ g).map U_) 5)]) (fun _ h => St.fl [Gp, [(b2, blk ((romQ g).map U_) 5)], [(b1, blk (cDz cap (P_ tb)) 108)], [_, _]] [2, 1] rfl h) ?_
 exact k_.u) := h ⟨k_⟩
def ZDO (h : T_ q p := by
 intro k_
 exact RZ (aK rfl rfl rfl (fun w hw => Row.left (Row.left (aA (l := cN K x.s) m_m w hw)))) rfl (k_.u)) := h ⟨k_⟩
def ZDP (h : T_ q p := by
 intro k_
 refine RW (v := (.int .u64 ((min N 5000 : Nat) : Int))) (gH rfl rfl) rfl (cA_ _ o_m) (ZA1 ?_)
 exact k_.u) := h ⟨k_⟩
def ZDQ (h : T_ q p := by
 intro k_
 refine ZDH ?_
 exact RZ (aE rfl rfl (aJ m_m (cU_sig hu.ask))) rfl (k_.u)) := h ⟨k_⟩
def ZDR (h : p := by
 obtain rfl : i = 4 := by omega
 exact E0 rfl ⟨rfl, y_bM⟩) : p := h
def ZDS (h : p := by
 refine A_11 ?_
 exact E0 rfl ⟨rfl, (cA_ Value.bool y_j)⟩) : p := h
def ZDT (h : p := by
 refine KL (fun q3 z3 => ?_) (fun q3 z3 => ?_)
 ·refine ZA1 ?_
  refine KL (fun q4 z4 => ?_) (fun q4 z4 => ?_)
  ·exact ZE8
  refine ZDH ?_
  exact E0 rfl ⟨rfl, (cA_ Value.bool y_j)⟩
 exact ZDS) : p := h
def ZDU (h : T_ q p := by
 intro k_
 refine ZA1 ?_
 exact RZ (aD (l' := cMm A acc { (cyc5 (cyc4 (cyc3 (cyc2 (cyc1 m))))) with ck := tickCk (cyc5 (cyc4 (cyc3 (cyc2 (cyc1 m))))).ck }) 1 rfl rfl rfl rfl rfl rfl y_dw (putM_ck _)) rfl (k_.u)) := h ⟨k_⟩
def ZDV (h : T_ q p := by
 intro k_
 refine ZAj ?_
 simp only [cr, ci, bg]
 exact k_.u) := h ⟨k_⟩
def ZDW (h : p := by
 refine ZBU ?_
 exact aG (fun w hw => aW rfl rfl y_bh (aA (b := b1) (l := cBd B) m_m w hw)) ⟨rfl, by rw [show writeBd n x B = B from if_pos o_m]⟩) : p := h
def ZDX (h : T_ q p := by
 intro k_
 refine ZAl ?_
 refine ZCN fun b0 => ?_
 revert b0
 exact k_.u) := h ⟨k_⟩
def ZDY (h : T_ q p := by
 intro k_
 refine DR [] (pln [0, 2, 4, 6, 8, 10, 12, 14]) ?_
 exact k_.u) := h ⟨k_⟩
def ZDZ (h : T_ q p := by
 intro k_
 exact RY y_dQ rfl (RZ (aE rfl rfl (aV (hr _ _ (cBd_r hB (j := 0) y_b)) y_r)) rfl (k_.u))) := h ⟨k_⟩
def ZDa (h : T_ q p := by
 intro k_
 refine ZAl ?_
 exact RZ (aE rfl rfl (aJ (v := .bool false) m_m ((cBd_on hB).trans y_dF))) rfl (k_.u)) := h ⟨k_⟩
def ZDb (h : T_ q p := by
 intro k_
 refine c_u ?_
 refine ZAl ?_
 exact k_.u) := h ⟨k_⟩
def ZDc (h : T_ q p := by
 intro k_
 refine RZ (bJ K_ rfl (fun w hw => peek_fn b u hu w (aN hr y_r w hw) _ ha)) rfl (ZA1 ?_)
 exact k_.u) := h ⟨k_⟩
def ZDd (h : T_ q p := by
 intro k_
 exact RZ (aK rfl rfl rfl y_P) rfl (k_.u)) := h ⟨k_⟩
def ZDe (h : T_ q p := by
 intro k_
 refine ZAl ?_
 exact RZ (aE rfl rfl (aJ (v := .bool true) m_m ((cBd_on hB).trans y_dF))) rfl (k_.u)) := h ⟨k_⟩
def ZDf (h : T_ q p := by
 intro k_
 refine ZA1 ?_
 exact RZ (aD (l' := cMm A acc (cyc4 (cyc3 (cyc2 (cyc1 m))))) 1 rfl rfl rfl (by rw [cBd_len q2.bd.tick.ln]; rfl) (ones_cBd _) rfl y_cP (putM_bd q2.ln q2.bd.tick.ln)) rfl (k_.u)) := h ⟨k_⟩
def ZDg (h : T_ q p := by
 intro k_
 refine ZAl ?_
 exact RX (cM (l := cR r) rfl rfl) rfl (k_.u)) := h ⟨k_⟩
def ZDh (h : T_ q p := by
 intro k_
 exact RW (dU rfl rfl y_b) rfl (iY 2 y_b y_b) (k_.u)) := h ⟨k_⟩
def ZDi (h : T_ q p := by
 intro k_
 refine ZAl ?_
 exact RX (cM (l := cO o) rfl rfl) rfl (k_.u)) := h ⟨k_⟩
def ZDj (h : T_ q p := by
 intro k_
 refine ZBX ?_
 exact RZ (aE rfl rfl (aV y_bt (hpn _ rfl))) rfl (k_.u)) := h ⟨k_⟩
def ZDk (h : T_ q p := by
 intro k_
 refine ZBb ?_
 exact RZ (aE rfl rfl (aJ (v := .bool (cyc5 (cyc4 (cyc3 (cyc2 (cyc1 m))))).hd.clock) m_m (get_mid (m := (cyc5 (cyc4 (cyc3 (cyc2 (cyc1 m)))))) q4.ln (j := 8) rfl))) rfl (k_.u)) := h ⟨k_⟩
def ZDl (h : T_ q p := by
 intro k_
 refine ZAb ?_
 refine ZBr ?_
 exact k_.u) := h ⟨k_⟩
def ZDm (h : T_ q p := by
 intro k_
 refine ZA1 ?_
 refine DR [5, 6, 7, 8, 9, 10, 11, 12, 13, 14, 15, 16, 17, 18, 19, 20, 21] (pln [0, 2, 4, 6, 8, 10, 12, 14, 16, 18, 20, 22, 24, 26, 28, 30, 32, 34, 36, 40, 42, 39, 44, 47]) ?_
 exact k_.u) := h ⟨k_⟩
def ZDn (h : p := by
 refine A_11 ?_
 exact ⟨.cons (cA_ Value.bool y_b3) .nil, a_g, fun _ h => h⟩) : p := h
def ZDo (h : T_ q p := by
 intro k_
 exact RW (v := (.int .u64 ((min j 32 : Nat) : Int))) (gH rfl rfl) rfl (cA_ _ o_m) (RW (v := (.int .i64 ((min j 32 : Nat) : Int))) rfl rfl (cA_ _ (aL o_m o_m)) (k_.u))) := h ⟨k_⟩
def ZDs (h : p := by
 refine ZAJ ?_
 refine ZAl ?_
 refine ZAJ ?_
 refine A_9 ?_
 exact RW (v := (.int .i64 (bankB a ⟨kind, banks, ram, on, mode, low, high, last⟩))) (jX rfl rfl o_m) rfl (cA_ (Value.int .i64) y_g) (ZAR)) : p := h
def ZDt (h : T_ q p := by
 intro k_
 refine A_9 ?_
 exact RZ (xS_ (l' := cN K { (push K.toaVg x.s.r.pc (idles K.toaVg 1 x)).s with r := { (push K.toaVg x.s.r.pc (idles K.toaVg 1 x)).s.r with pc := o.n } }) 1) rfl (k_.u)) := h ⟨k_⟩
def ZDu (h : T_ q p := by
 intro k_
 refine RS ?_
 exact RZ (xS_ (l' := cHd zHd) 2) rfl (k_.u)) := h ⟨k_⟩
def ZDv (h : T_ q p := by
 intro k_
 refine ZAS ?_
 refine RLv K_ (wQ_ (sig_fn ⟨cnt, tima, tma, tac, over⟩ ⟨k1, k2, k3, k4⟩)) ?_
 exact k_.u) := h ⟨k_⟩
def ZDw (h : T_ q p := by
 intro k_
 exact RZ (aE rfl rfl (aJ (b := d.b) (l := Db.cs d g k) (.tail _ (.head _)) y_cs)) rfl (k_.u)) := h ⟨k_⟩
def ZDx (h : T_ q p := by
 intro k_
 refine ZB3 ?_
 exact RZ (xS_ (l' := [.int .i64 cap, .pointer none, .pointer none, .int .u64 0, c4, .pointer none, .map none, pv, wv, .int .u32 asked, .int .u64 done, tab]) 0) rfl (k_.u)) := h ⟨k_⟩
def ZDy (h : p := by
 have hs9 : putU u (numU a) x = { u with R := u.R.set (numU a).toNat x } := by
  unfold putU; rw [set_n y_a y_a]; exact off_no y_cd
 exact ZCn) : p := h
def ZDz (h : p := by
 refine ZBn ?_
 exact EV rfl (bf _ _) ⟨cA_ _ y_I, rfl⟩) : p := h
def ZD0 (h : p := by
 refine ZAD ?_
 exact ⟨i + 1, y_y, y_y, .cons rfl .nil, a_g, fun _ h => h⟩) : p := h
def ZD1 (h : T_ q p := by
 intro k_
 refine ZAC ?_
 refine ZA1 ?_
 exact k_.u) := h ⟨k_⟩
def ZD2 (h : T_ q p := by
 intro k_
 refine cL rfl rfl rfl rfl y_6 rfl rfl ?_
 exact k_.u) := h ⟨k_⟩
def ZD3 (h : T_ q p := by
 intro k_
 exact DL rfl rfl rfl (cJ m_m (cU_line hu)) rfl (k_.u)) := h ⟨k_⟩
def ZD4 (h : p := by
 have hs9 : putU u (numU a) x = { u with R := u.R.set 1 (aH .u8 x 120) } := by
  unfold putU; rw [set_1 y_a]; exact off_no y_cd
 exact ZCn) : p := h
def ZD5 (h : T_ q p := by
 intro k_
 refine ZAl ?_
 have hh8 : (halfB ({ B with div := 0 } : Bd)) = (beatB ({ B with div := 0 } : Bd)) := by unfold beatB; rw [if_neg (show ¬ (B.step = 2 ∨ B.step = 6) by omega), if_neg (show ¬ B.step = 7 by omega)]
 revert hh8
 exact k_.u) := h ⟨k_⟩
def ZD6 (h : p := by
 have e9 : effJ K.toaVg o x = x := by unfold effJ; rw [e7, e8]; rfl
 exact EV rfl (.cons _ sR_) ⟨cA_ Value.bool e8.symm, G, y_t, y_eb⟩) : p := h
def ZD7 (h : T_ q p := by
 intro k_
 refine ZB3 ?_
 exact RZ (xS_ (l' := [.int .i64 cap, .pointer none, .pointer none, .int .u64 0, c4, .pointer none, c6, pv, wv, .int .u32 asked, .int .u64 done, tab]) 0) rfl (k_.u)) := h ⟨k_⟩
def ZD8 (h : T_ q p := by
 intro k_
 rintro _ _ ⟨_, ⟨rfl, va0, G1, hV1, rfl⟩, rfl⟩
 refine bF (fun _ h => h) (H' := (b0, blk [(P_ b0), va0] 333) :: G1) ?_
 revert va0 G1 hV1
 exact k_.u) := h ⟨k_⟩
def ZD9 (h : p := by
 refine ZAF ?_
 exact aG (fun w hw => aY rfl rfl rfl (aA (b := b1) m_m w hw) rfl) ⟨rfl, _, by rw [setPR_no o_m]; rfl⟩) : p := h
def ZEA (h : T_ q p := by
 intro k_
 refine ZDH ?_
 exact RZ (bJ K_ rfl (fun w hw => Tm.last_fn lb (capT cap) ms o_m w (hL.line.lineW hw (fun x hx => .tail _ (.tail _ (mR_ _ (mR_ _ (mL_ _ hx)))))))) rfl (k_.u)) := h ⟨k_⟩
def ZEB (h : p := by
 have hz : oth (a.drop k) (b.drop k) = 0 := oth_stop o_m
 exact E0 rfl ⟨rfl, (cA_ (fun n : Nat => Value.int .i64 (n : Int)) o_m)⟩) : p := h
def ZEC (h : p := by
 refine ZA1 ?_
 exact aG (fun w hw => aY rfl rfl rfl (aA (b := b1) (l := cSt 0 0 0 false) m_m w hw) rfl) ⟨rfl, rfl⟩) : p := h
def ZED (h : T_ q p := by
 intro k_
 exact DY rfl (eL rfl rfl rfl rfl) rfl (k_.u)) := h ⟨k_⟩
def ZEE (h : T_ q p := by
 intro k_
 refine ZAl ?_
 refine RLv K_ (wQ_ (opens_fn x hx)) ?_
 exact k_.u) := h ⟨k_⟩
def ZEF (h : T_ q p := by
 intro k_
 refine eW (L' := (b0, blk [.int .u64 (FK.at Z.1 oi)] 36) :: (lb, blk [v0, .bool r] 123) :: (G0 ++ [(pb, blk Z.1 T)])) (fun _ h => h.as (by rw [e8])) ?_
 refine ZAl ?_
 exact k_.u) := h ⟨k_⟩
def ZEG (h : p := by
 have hnm : n % 128 ^ (i + 1) = n := Nat.mod_eq_of_lt y_eC
 exact aG (fun _ _ => aHq rfl rfl rfl) ⟨rfl, by rw [hnm, ht]⟩) : p := h
def ZEH (h : T_ q p := by
 intro k_
 refine ZEf ?_
 refine ZCC ?_
 exact k_.u) := h ⟨k_⟩
def ZEI (h : T_ q p := by
 intro k_
 refine ZA1 ?_
 refine ZAI ?_
 exact k_.u) := h ⟨k_⟩
def ZEJ (h : p := by
 refine ZBr ?_
 exact aG (fun _ _ => bX rfl rfl) ⟨rfl, rfl⟩) : p := h
def ZEK (h : T_ q p := by
 intro k_
 refine A_10 ?_
 exact RX (aR (F := [(b0, _)]) (A := (rb, _) :: _) K_ rfl (wL_ (rpush_fn K rb (idles K.toaVg 1 x) (h.idleK 1) G0 hG0 x.s.r.pc h.r.pc))) rfl (k_.u)) := h ⟨k_⟩
def ZEL (h : p := by
 refine xO true rfl rfl rfl rfl (bne_iff_ne.2 he9) ?_
 exact ZBe) : p := h
def ZEM (h : T_ q p := by
 intro k_
 refine DZ rfl (bJ K_ rfl (fun w hw => tline_fn _ _ u.V hu.bV (viewU u) (viewU_ok hu) u.line u.own w (Ns.of (rowV (aA m_m w hw))))) rfl n_h (ZBy ?_)
 exact k_.u) := h ⟨k_⟩
def ZEN (h : T_ q p := by
 intro k_
 exact RW (bE rfl rfl) rfl y_dY (k_.u)) := h ⟨k_⟩
def ZEO (h : T_ q p := by
 intro k_
 exact RW (dN rfl rfl rfl) rfl y_bb (k_.u)) := h ⟨k_⟩
def ZEP (h : T_ q p := by
 intro k_
 refine ZB3 ?_
 exact RZ (xS_ (l' := [.int .i64 cap, .pointer none, .pointer none, .int .u64 0, c4, c5, c6, pv, wv, .int .u32 asked, .int .u64 done, tab]) 0) rfl (k_.u)) := h ⟨k_⟩
def ZEQ (h : T_ q p := by
 intro k_
 exact RZ (aE rfl rfl (aJ (b := d.b) (l := Db.cs d g k) (.head _) y_cs)) rfl (k_.u)) := h ⟨k_⟩
def ZER (h : T_ q p := by
 intro k_
 refine DZ rfl (bJ K_ rfl (fun w hw => sum_fn (some ⟨ba, oa, none⟩) c l hl hb w (hB.later0 hw))) rfl y_d ?_
 rw [if_neg (show ¬ l.length < 336 by omega)]
 exact k_.u) := h ⟨k_⟩
def ZES (h : T_ q p := by
 intro k_
 refine ZAS ?_
 exact RX (aR (F := [(b0, _)]) (A := (rb, _) :: _) K_ rfl (wL_ (rplaces_fn K rb x (h.le o_m : RunOk K.toaVh (bn + 1) x) G1 hG1 o ho))) rfl (k_.u)) := h ⟨k_⟩
def ZET (h : T_ q p := by
 intro k_
 refine DZ rfl (zW (k := .u8) (l := sortE) (c := 19) (b := b2) (z := .agg (cSrt (0, false, false)).toArray) rfl rfl rfl rfl m_m) rfl n_h ?_
 rw [sort_ask]
 exact k_.u) := h ⟨k_⟩
def ZEU (h : T_ q p := by
 intro k_
 exact RX (bI K_ rfl (fun w hw => Hs.records_fn b5 32 (Hs.callsL (gx.sts j)) e2.ring (gx.sts j) y_b y_b (by rw [Gx.sts_len]; omega) hE2.ring w y_di)) rfl (k_.u)) := h ⟨k_⟩
def ZEV (h : T_ q p := by
 intro k_
 refine ZBr ?_
 exact RW (v := (.int .i64 ((k / 5 : Nat) : Int))) rfl rfl ((aSy o_m (show _ < (9223372036854775808 : Int) by omega) y_b).trans (cA_ _ o_m)) (k_.u)) := h ⟨k_⟩
def ZEW (h : T_ q p := by
 intro k_
 exact RW (dN rfl rfl rfl) rfl y_q (k_.u)) := h ⟨k_⟩
def ZEX (h : T_ q p := by
 intro k_
 exact RZ (aE rfl rfl (aV (hm _ _ (get_mid h.ln (j := 15) rfl)) y_r)) rfl (k_.u)) := h ⟨k_⟩
def ZEY (h : T_ q p := by
 intro k_
 refine ZBz ?_
 exact DW rfl (dO rfl rfl y_b) rfl y_d1 (k_.u)) := h ⟨k_⟩
def ZEZ (h : T_ q p := by
 intro k_
 refine ZAC ?_
 refine ZBn ?_
 exact k_.u) := h ⟨k_⟩
def ZEa (h : T_ q p := by
 intro k_
 refine ZA5 ?_
 refine ZAc ?_
 exact k_.u) := h ⟨k_⟩
def ZEb (h : T_ q p := by
 intro k_
 refine ZBL ?_
 refine ZAX ?_
 exact k_.u) := h ⟨k_⟩
def ZEc (h : T_ q p := by
 intro k_
 refine eW (L' := [(b1, blk (cBd bdZ) 147), (b0, blk (cBd (halfB ({ B with div := 0 } : Bd))) 147)]) (fun w h => h.as (by rw [← hh9])) ?_
 refine ZAl ?_
 exact k_.u) := h ⟨k_⟩
def ZEd (h : T_ q p := by
 intro k_
 have ho : turnO k a = (a / 128 == 1) := by unfold turnO; rw [hk]; rfl
 rw [x16 (x := a / 128) o_m, or_zc]
 revert ho
 exact k_.u) := h ⟨k_⟩
def ZEe (h : T_ q p := by
 intro k_
 refine DR [] (pln [0, 2, 4, 6, 8, 10, 12, 14, 16, 18, 20, 22, 24, 26, 28, 30, 32, 34, 36, 38, 40, 42, 44, 46, 48, 50, 52, 54, 57, 59]) ?_
 refine A_28 ?_
 exact k_.u) := h ⟨k_⟩
def ZEf (h : T_ q p := by
 intro k_
 refine A_8 ?_
 exact k_.u) := h ⟨k_⟩
def ZEg (h : T_ q p := by
 intro k_
 exact RY (aP (n := prog.length) (i) rfl rfl rfl rfl o_m) rfl (RZ (aE rfl rfl (aV (hra _ _ (cX (j := i) o_m)) y_r)) rfl (k_.u))) := h ⟨k_⟩
def ZEh (h : T_ q p := by
 intro k_
 refine ZBL ?_
 refine RLv K_ (wQ_ (atB_fn m.bk h.bk a ha)) ?_
 exact k_.u) := h ⟨k_⟩
def ZEi (h : T_ q p := by
 intro k_
 refine ZB3 ?_
 exact RZ (xS_ (l' := [.int .i64 cap, .pointer none, .pointer none, c3, c4, c5, c6, pv, wv, .int .u32 asked, .int .u64 done, tab]) 0) rfl (k_.u)) := h ⟨k_⟩
def ZEj (h : T_ q p := by
 intro k_
 refine RW (v := _) (bE rfl rfl) rfl rfl (ZA1 ?_)
 exact k_.u) := h ⟨k_⟩
def ZEk (h : T_ q p := by
 intro k_
 refine ZAl ?_
 exact RX (cM (l := cBd B) rfl rfl) rfl (k_.u)) := h ⟨k_⟩
def ZEl (h : p := by
 refine ZBL ?_
 exact ⟨b3, trivial, .cons rfl .nil, a_g, fun _ h => h.sub (.cons_cons _ (.cons _ (.cons _ sR_)))⟩) : p := h
def ZEm (h : T_ q p := by
 intro k_
 refine ZB4 ?_
 exact DW (v := (.int .u16 (l.getD 334 0 * 256))) rfl (dO rfl rfl y_b) rfl (uN 256 rfl o_m (show _ < (65536 : Int) by omega)) (k_.u)) := h ⟨k_⟩
def ZEn (h : T_ q p := by
 intro k_
 exact RZ s_t rfl (k_.u)) := h ⟨k_⟩
def ZEo (h : p := by
 refine ZAF ?_
 exact aG (fun w hw => aY rfl rfl rfl (aA (b := b1) m_m w hw) rfl) ⟨rfl, rfl⟩) : p := h
def ZEp (h : T_ q p := by
 intro k_
 exact RY (aQ k rfl rfl rfl o_m o_m) rfl (RZ (aD (l' := cBd ((putB k x B))) 1 rfl rfl rfl rfl rfl rfl y_O (y_dy)) rfl (k_.u))) := h ⟨k_⟩
def ZEq (h : T_ q p := by
 intro k_
 refine A_15 ?_
 exact RZ (xS_ (l' := [.int .i64 cap, .pointer none, c2, c3, c4, c5, c6, pv, wv, .int .u32 asked, .int .u64 done, tab]) 0) rfl (k_.u)) := h ⟨k_⟩
def ZEr (h : T_ q p := by
 intro k_
 refine ZAl ?_
 exact RX (cM (l := [.int .i64 x, .int .u16 y]) rfl rfl) rfl (k_.u)) := h ⟨k_⟩
def ZEs (h : p := by
 subst hov
 exact aG (fun w hw => aY rfl rfl rfl (aA (b := b1) m_m w hw) rfl) ⟨rfl, rfl⟩) : p := h
def ZEt (h : T_ q p := by
 intro k_
 refine ZAS ?_
 refine ZAK ?_
 exact k_.u) := h ⟨k_⟩
def ZEu (h : T_ q p := by
 intro k_
 refine RLv K_ (wQ_ (zero_fn _)) ?_
 exact k_.u) := h ⟨k_⟩
def ZEv (h : T_ q p := by
 intro k_
 refine ZCG ?_
 refine ZCG ?_
 exact k_.u) := h ⟨k_⟩
def ZEw (h : T_ q p := by
 intro k_
 refine ZAB ?_
 refine ZDH ?_
 exact k_.u) := h ⟨k_⟩
def ZEx (h : T_ q p := by
 intro k_
 refine ZBn ?_
 exact RZ (aD (l' := (pass1 r .bool Z oi).1) 0 rfl rfl rfl rfl rfl rfl hfz.lt (cA_ Prod.fst (pass1_goes hfz r)).symm) rfl (k_.u)) := h ⟨k_⟩
def ZEy (h : T_ q p := by
 intro k_
 refine ZAE ?_
 refine ZA1 ?_
 exact k_.u) := h ⟨k_⟩
def ZEz (h : p := by
 refine ZBn ?_
 exact ZDs) : p := h
def ZE0 (h : p := by
 refine KC (fun q4 z4 => ?_) (fun q4 z4 => ?_)
 ·refine ZBr ?_
  refine ZAa ?_
  refine ZDH ?_
  exact ZDs
 exact ZEz) : p := h
def ZE1 (h : T_ q p := by
 intro k_
 exact RY (aP n.toNat rfl rfl rfl o_m o_m) rfl (RZ (aE rfl rfl (aV (hr _ _ (cX (j := n.toNat) o_m)) y_r)) rfl (k_.u))) := h ⟨k_⟩
def ZE2 (h : p := by
 refine ZAQ ?_
 exact ZBe) : p := h
def ZE3 (h : p := by
 refine ZA1 ?_
 exact ⟨(e, pa, pc), ⟨he9, hE, hb, hcap, hask, hdn, hpv, hwv⟩, .nil, a_g, fun _ h => h⟩) : p := h
def ZE4 (h : p := by
 refine ZAl ?_
 exact ⟨0 + 1, y_y, y_y, .cons rfl (.cons rfl .nil), a_g, fun _ h => h.sub (.cons _ sR_)⟩) : p := h
def ZE5 (h : p := by
 refine ZAl ?_
 exact ⟨1 + 1, y_y, y_y, .cons rfl (.cons rfl .nil), a_g, fun _ h => h.sub (.cons _ sR_)⟩) : p := h
def ZE6 (h : p := by
 refine ZAl ?_
 exact ⟨2 + 1, y_y, y_y, .cons rfl (.cons rfl .nil), a_g, fun _ h => h.sub (.cons _ sR_)⟩) : p := h
def ZE7 (h : p := by
 refine ZAl ?_
 exact ⟨3 + 1, y_y, y_y, .cons rfl (.cons rfl .nil), a_g, fun _ h => h.sub (.cons _ sR_)⟩) : p := h
def ZE8 (h : p := by
 refine ZDH ?_
 exact E0 rfl ⟨rfl, (cA_ Value.bool y_j)⟩) : p := h
def ZE9 (h : T_ q p := by
 intro k_
 refine RLv K_ (wQ_ (clockB_fn m.bk h.bk)) ?_
 rw [hc9]
 exact k_.u) := h ⟨k_⟩
def ZFB (h : T_ q p := by
 intro k_
 refine ZBL ?_
 refine RLv K_ (fun w hw => readyB_fn b0 (putB k x B) hPK w (aA (b := b0) (l := cBd (putB k x B)) m_m w hw) (k / 5) o_m) ?_
 exact k_.u) := h ⟨k_⟩
def ZFC (h : T_ q p := by
 intro k_
 refine ZAl ?_
 have hh8 : slideB (halfB ({ B with div := 0 } : Bd)) = (beatB ({ B with div := 0 } : Bd)) := by unfold beatB; rw [if_pos (show B.step = 2 ∨ B.step = 6 by omega)]
 revert hh8
 exact k_.u) := h ⟨k_⟩
def ZFD (h : p := by
 refine RW (v := (.int .u8 (fg 6 (daaL a f) + 96))) (cT rfl rfl) rfl (cA_ _ (or_96 _)) (ZBb ?_)
 exact ⟨(), trivial, .cons (cA_ U_ y_bl) (.cons (cA_ U_ y_bs) (.nil)), a_g, fun _ h => h⟩) : p := h
def ZFE (h : T_ q p := by
 intro k_
 refine DW rfl (bE rfl rfl) rfl y_d7 (ZBb ?_)
 exact k_.u) := h ⟨k_⟩
def ZFF (h : T_ q p := by
 intro k_
 refine DR [7, 8, 9, 10, 11] (pln [0, 2, 4, 6, 8, 10, 12, 14, 16, 18, 20, 22, 24, 26, 28, 30, 32]) ?_
 refine ZAl ?_
 exact DW rfl (bE rfl rfl) rfl y_ea (k_.u)) := h ⟨k_⟩
def ZFG (h : p := by
 refine ZBn ?_
 exact E0 rfl ⟨rfl, y_i⟩) : p := h
def ZFH (h : p := by
 refine KC (fun q8 z8 => ?_) (fun q8 z8 => ?_)
 ·refine ZBr ?_
  refine RW (iV rfl rfl) rfl y_q (ZAl ?_)
  exact RY (aQ (a - 65408).toNat rfl rfl rfl o_m o_m) rfl (RZ (aE rfl rfl (aV y_bz y_r)) rfl ZCP)
 exact ZFG) : p := h
def ZFI (h : T_ q p := by
 intro k_
 refine c_u ?_
 refine ZBL ?_
 exact k_.u) := h ⟨k_⟩
def ZFJ (h : T_ q p := by
 intro k_
 refine c_u ?_
 refine ZA1 ?_
 exact k_.u) := h ⟨k_⟩
def ZFK (h : T_ q p := by
 intro k_
 have hf9 : fewQ g = true := by simpa using q0
 have hf8 := ct hf9
 revert hf9 hf8
 exact k_.u) := h ⟨k_⟩
end Go.VV
