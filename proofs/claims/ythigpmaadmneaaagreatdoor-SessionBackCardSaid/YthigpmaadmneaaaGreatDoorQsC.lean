/- Parts. -/
import Derived.Test.YthigpmaadmneaaaGreatDoorQsB
set_option maxRecDepth 100000
set_option maxHeartbeats 1000000
set_option linter.all false
namespace Go.VV
open Go Go.RowKit
abbrev T_ (q p : Prop) := Wr q → p
variable {p q : Prop} (k_ : q)
def aJ {α : Type} {l : List α} : l.Sublist l := List.Sublist.refl _
def bD {α : Type} {a : α} (l : List α) {m : List α} (h : a ∈ m) : a ∈ l ++ m := f8 l h
def iK {α : Type} {a : α} {l : List α} (m : List α) (h : a ∈ l) : a ∈ l ++ m := g9 m h
def bH {Γ : dQ} {e : bB} {H : aF} {d : AD} {ty : AJ} {pos : String} {af : AG} {g : Option (Nat × Bool)} {t : AJ} {x y : AK} {b off : Nat} {v : AH} {vs l l' : AA} {T : AJ} (i : Nat)
  (hx : bC (ev e x) = some (.pointer (some ⟨b, off, none⟩)) := by exact rfl) (hy : bC (ev e y) = some v := by exact rfl) (hv : Ay v = some vs := by exact rfl) (hn : kU Γ.P t = some vs.length := by exact rfl) (h1 : fL vs = true := by exact rfl)
  (hi : H[i]? = some (b, J l T) := by exact rfl) (hl : off + vs.length ≤ l.length := by exact ai rfl) (hp : aV l off vs = l' := by exact rfl) : dZ Γ ⟨d, .store t x y, ty, pos, af, g⟩ e H (fun u H' => u = undef ∧ H' = H.set i (b, J l' T)) := bF i hx hy hv hn h1 hi hl hp
def cE {P : AL} {f : Nat} {fn : Func} {c : Code} {args : AA} {w : AI} {ms : AE} {R : AH → aF → Prop} {n : Nat} {H : aF} (hf : P.funcs[f]? = some fn) (hH : St w ms H w) (h : C ⟨P, n, w, ms, none, []⟩ c (Pb ⟨P, n, w, ms, none, []⟩ fn.results.toList R) (Eu args) H)
  (hb : fn.body = some c := by exact rfl) (hn : fn.ntmps = n := by exact rfl) (hl : Nat.ble args.length n = true := by exact rfl) : aG P f args w ms R := yI hf hb hn hl hH h
def aT {P : AL} {f : Nat} {fn : Func} {c : Code} {args : AA} {w : AI} {R : AH → aF → Prop} {n : Nat} (hf : P.funcs[f]? = some fn) (h : C ⟨P, n, w, [], none, []⟩ c (Pb ⟨P, n, w, [], none, []⟩ fn.results.toList R) (Eu args) [])
  (hb : fn.body = some c := by exact rfl) (hn : fn.ntmps = n := by exact rfl) (hl : Nat.ble args.length n = true := by exact rfl) : aG P f args w [] R := yI hf hb hn hl (St.refl w) h
abbrev P_ (b : Nat) : AH := .pointer (some ⟨b, 0, none⟩)
abbrev Q_ (b : Nat) : AC := some ⟨b, 0, none⟩
abbrev V_ (u : AH) : AH → aF → Prop := fun v H => H = [] ∧ v = u
abbrev Z : Int → AH := Value.int .u8
def K_ (h : p := by kernel_rfl) : p := h
def bQ {α : Type} {a b : List α} : (a ++ b).length = a.length + b.length := ei
def eD {α β : Type} {a : List α} (f : α → β) : (a.map f).length = a.length := jc f
def dN {α : Type} {i : Nat} {a : List α} : (a.drop i).length = a.length - i := gz
def fZ {α : Type} {i : Nat} {a : List α} : (a.take i).length = min i a.length := f0
def eF {α : Type} {a : α} {l : List α} : (a :: l).length = l.length + 1 := iz
def eC {α : Type} (a b c : List α) : a ++ b ++ c = a ++ (b ++ c) := de a b c
def fV {α : Type} {l : List α} {i : Nat} {a : α} : l.getD i a = l[i]?.getD a := dd
def aD {α β : Type} {a b : α} (f : α → β) (h : a = b) : f a = f b := congrArg f h
def aS {A B : AI → Prop} (h : ∀ w, B w) : ∀ w, A w → B w := fun w _ => h w
def uG {A B C : AI → Prop} (h : ∀ w, A w → C w) : ∀ w, A w → B w → C w := fun w a _ => h w a
def dJ {w0 : AI} {ms : AE} {A F : aF} {B : AI → Prop} (h : ∀ w, St w (A.map (·.1)) A w → B w) : ∀ w, St w0 ms (A ++ F) w → B w := fun w hw => h w hw.lentV
def kD {w0 : AI} {ms : AE} {A : aF} {B : AI → Prop} (h : ∀ w, St w (A.map (·.1)) A w → B w) : ∀ w, St w0 ms A w → B w := fun w hw => h w hw.lentA
def aM (h : p := by (try simp only [al, ah, ci, aq, cr, ar, ne_eq] at *); omega) : p := h
def M (h : p := by decide) : p := h
def mM (h : p := by first | exact tO I I | rfl) : p := h
def jB (h : p := by intro _ _ _ hK x hx; obtain ⟨rfl, rfl⟩ := hK; repeat (first | exact hx | exact iK _ hx | refine bD _ ?_ | refine .tail _ ?_)) : p := h
def yG (h : p := by first | (exfalso; omega) | (unfold atT atB_; dsimp only; (try simp only [eo, ep, true_or, or_true, false_or, or_false, if_true, if_false]); (repeat (first | rw [ag I] | rw [ae I])); first | done | rfl)) : p := h
def y_f (h : p := by first | (exfalso; omega) | (unfold bankB numB; dsimp only; (repeat (first | rw [ag (by first | omega | assumption)] | rw [ae (by first | omega | simp_all)])); exact cn I)) : p := h
def sK (h : p := by first | exact aH aE | exact uY aE _ 5 rfl) : p := h
def y_h (h : p := by first | (exfalso; omega) | (unfold deviceM; (repeat (first | rw [ag I] | rw [ae I])); first | done | rfl)) : p := h
def aO (h : p := by kernel_rfl) : p := h
def Eg (h : p := by unfold pictured; rw [fo]; simp only [al, cr, ne_eq, ep, eq_self_iff_true, true_iff, false_iff, iff_true, iff_false]; omega) : p := h
def y_k (h : p := by first | (exfalso; omega) | (unfold setDeviceM; (repeat (first | rw [ag I] | rw [ae I])))) : p := h
def tK (h : p := by rw [cU_len hu]; simp only [eF, ax]; (try simp only [al, ah, ci, aq, cr, ar, ne_eq] at *); omega) : p := h
def uA (h : p := by rcases List.mem_cons.1 hx with rfl | hx; exact aE; obtain rfl := List.mem_singleton.1 hx; exact aE) : p := h
def vQ (h : p := by first | exact Do I I | exact yC _) : p := h
def tM (h : p := by intro _ _ _ hK x hx; obtain ⟨_, rfl, rfl⟩ := hK; repeat (first | exact hx | exact iK _ hx | refine bD _ ?_ | refine .tail _ ?_)) : p := h
def aL (h : p := by simp) : p := h
def y_q (h : p := by first | exact aH aE | exact uY aE _ 8 rfl) : p := h
def qZ (h : p := by first | exact Ie I I | exact Gy _) : p := h
def fH (h : p := by rw [e9]; first | done | rfl) : p := h
def Gg (h : p := by first | (exfalso; omega) | (unfold atT clockB; dsimp only; (try simp only [eo, ep, true_or, or_true, false_or, or_false, if_true, if_false]); (repeat (first | rw [ag I] | rw [ae I])); first | done | rfl)) : p := h
def y_u (h : p := by first | (intro h; cases h; done) | (intro _ _ _ hK x hx; obtain ⟨_, rfl, rfl⟩ := hK; repeat (first | exact hx | exact iK _ hx | exact iK _ (bD _ hx) | refine bD _ ?_ | refine .tail _ ?_))) : p := h
def Hb (h : p := by first | (rw [cBd_len hWL]; rfl) | (rw [cBd_len hWO]; rfl) | (rw [cBd_len hPK]; rfl) | (rw [cBd_len (hPK.beginW (k / 5)).ln]; rfl)) : p := h
def mE (h : p := by rw [cMm_len h.ln]; exact ai rfl) : p := h
def aR (h : p := by omega) : p := h
def eL (h : p := by simp at *; omega) : p := h
def Us (h : p := by repeat (first | exact hx | refine bD _ ?_ | refine .tail _ ?_)) : p := h
def zG (h : p := by first | omega | (unfold madeAt; split <;> omega)) : p := h
def eU (h : p := by decide +kernel) : p := h
def fU (h : p := by dsimp only; omega) : p := h
def tZ (h : p := by repeat (first | exact hx | exact iK _ hx | refine bD _ ?_)) : p := h
def y_E (h : p := by first | exact aH aE | exact uY aE _ 10 rfl) : p := h
def Jx (h : p := by first | exact List.Sublist.refl _ | exact aJ.append (ew _ _) | exact ew _ _ | exact bj _ _) : p := h
def y_G (h : p := by unfold tickB; rw [ae (by rw [show B.on = true by simpa using q0]; decide), ae I]) : p := h
def y_H (h : p := by intro _ _ _ hK x hx; obtain ⟨_, ⟨rfl, G1, rfl, hG1⟩, rfl⟩ := hK; repeat (first | exact hx | exact iK _ hx | refine bD _ ?_ | refine .tail _ ?_)) : p := h
def Hi (h : p := by first | (rintro ⟨h8, h9⟩; omega) | (rintro ⟨h8, h9⟩; rw [hon9] at h8; cases h8)) : p := h
def y_J (h : p := by unfold fiveB; dsimp only; (repeat (first | rw [ag I] | rw [ae I])); first | done | rfl) : p := h
def Ju (h : p := by unfold askV; have h9 : (askU u).sig = sigU u := rfl; simp_all) : p := h
def yY (h : p := by simp only [cy, madeP_n]) : p := h
def Zl (h : p := by rw [cBd_len hFN]; rfl) : p := h
def y_N (h : p := by unfold writeCk; dsimp only; (repeat (first | rw [ag I] | rw [ae I])); first | done | rfl) : p := h
def y_O (h : p := by first | exact aQR I | rfl) : p := h
def Uf (h : p := by first | exact aH aE | exact uY aE _ 12 rfl) : p := h
def yV (h : p := by rw [cBd_len hB]; simp only [eF, ax]; omega) : p := h
def y_R (h : p := by first | exact aH aE | exact uY aE _ 6 rfl) : p := h
def Rc (h : p := by intro x hx; simp only [eg, ec, or_false] at hx; rcases hx with rfl | rfl <;> omega) : p := h
def y_T (h : p := by rw [e1]; unfold writeB; dsimp only; (repeat (first | rw [ag I] | rw [ae I])); first | done | rfl) : p := h
def y_U (h : p := by rw [e1]; unfold threeB; dsimp only; (repeat (first | rw [ag I] | rw [ae I])); first | done | rfl) : p := h
def lG (h : p := by rw [hE]; kernel_rfl) : p := h
def y_W (h : p := by unfold writeTm; dsimp only; (repeat (first | rw [ag I] | rw [ae I])); first | done | rfl) : p := h
def Hx (h : p := by unfold readTm; dsimp only; (repeat (first | rw [ag I] | rw [ae I])); first | done | rfl) : p := h
def y_Y (h : p := by rw [cBd_len hE]; simp only [eF, ax]; omega) : p := h
def y_Z (h : p := by first | exact aH aE | exact uY aE _ 2 rfl) : p := h
def kT (h : p := by rw [e9]; exact hG0) : p := h
def Kz (h : p := by obtain rfl := List.mem_singleton.1 hx; exact .head _) : p := h
def Qk (h : p := by rw [e1]; unfold tickPt shiftPt; dsimp only; (repeat (first | rw [ag I] | rw [ae I])); first | done | rfl) : p := h
def nC (h : p := by rw [e9]; exact hG1) : p := h
def Ya (h : p := by unfold tickV; rw [ag hlit, ← bor_ask (stepV_one u) (askV_two _), ← hnv]; rfl) : p := h
def yL (h : p := by rw [aw]; first | done | rfl) : p := h
def rP (h : p := by show 2 + 1 ≤ 3; decide) : p := h
def Xh (h : p := by first | exact (bH (l' := cSrt ((sortH (l.getD 327 0)).getD (0, false, false))) 0) | exact (bH (l' := cSrt ((sortH (l.getD 327 0)).getD (0, false, false))) 1)) : p := h
def Fh (h : p := by simp only [dj, cu, dk]; rfl) : p := h
def E8 (h : p := by show _ = _ ++ [_, _, (A.rb, J (List.map Z (cycleM m).ram ++ A.rs) 5), (A.ob, J (List.map Z (cycleM m).rom ++ A.sp) 5)]; rw [cycleM_ram, cycleM_rom]; rfl) : p := h
def aIY (h : p := by unfold writePt; dsimp only; (repeat (first | rw [ag I] | rw [ae I])); first | done | rfl) : p := h
def aOZ (h : p := by first | exact kN aE | exact Fg aE _ 9 rfl) : p := h
def aHZ (h : p := by unfold oneB; dsimp only; (repeat (first | rw [ag I] | rw [ae I])); first | done | rfl) : p := h
def Vj (h : p := by rw [cBd_len hPK]; simp only [eF, ax]; omega) : p := h
def aNL (h : p := by rw [cBd_len hFN, cBd_len bdZ_wf]; decide) : p := h
def tY (h : p := by show 0 + 1 ≤ 1; decide) : p := h
def oZ (h : p := by simpa using q1) : p := h
def aFb (h : p := by show bM _ 3 va' (((if letsCp (cycleM m).cp a = true then pokeM a x (cycleM m) else (cycleM m))).acc ++ [_]).length (aN cAc ((if letsCp (cycleM m).cp a = true then pokeM a x (cycleM m) else (cycleM m)).acc ++ [_])) Ga'; rw [e9]; exact hV'.as (by rw [bQ]; rfl) rfl) : p := h
def lA (h : p := by simp; omega) : p := h
def aEV (h : p := by rw [cU_len (hu.P_ (u.line.toNat * 160) (rowU_byts u) (by rw [rowU_len]; omega))]; simp only [eF, ax]; (try simp only [al, ah, ci, aq, cr, ar, ne_eq] at *); omega) : p := h
def Ff (h : p := by cases hp; exact St.apartT (G := [(rb, J RL 5)]) hw2) : p := h
def tQ (h : p := by show 0 ≤ 100; decide) : p := h
def Gw (h : p := by rw [cBd_len hB]; rfl) : p := h
def Wk (h : p := by first | (intro h; cases h; done) | (intro _ _ _ hK x hx; obtain ⟨_, _, _, rfl⟩ := hK; exact bD _ (iK _ (bD _ hx)))) : p := h
def Tj (h : p := by rw [cMm_len h.ln]; simp only [eF, ax]; omega) : p := h
def Le (h : p := by first | exact kN aE | exact Fg aE _ 5 rfl) : p := h
def M0 (h : p := by obtain rfl := List.mem_singleton.1 hx; exact aE) : p := h
def xI (h : p := by rw [eC]; first | done | rfl) : p := h
def Yz (h : p := by unfold daaB daaC; simp_all [fg]; all_goals (repeat' split); all_goals omega) : p := h
def S4 (h : p := by show _ = [(b, J (cBd ((turnV levV B n).setV n (levV (turnV levV B n) n ((turnV levV B n).v n)))) 127)]; rw [show levV (turnV levV B n) n ((turnV levV B n).v n) = (turnV levV B n).v n from ag I, setV_same hX9 I]) : p := h
def aEO (h : p := by show _ = [(b, J (cBd ((turnV lenV B n).setV n (lenV (turnV lenV B n) n ((turnV lenV B n).v n)))) 127)]; rw [show lenV (turnV lenV B n) n ((turnV lenV B n).v n) = (turnV lenV B n).v n from ag I, setV_same hX9 I]) : p := h
def aPV (h : p := by unfold writeBd; rw [ae I, ae I, ae (by first | (rintro ⟨h8, q7⟩; omega) | (rintro ⟨h8, q7⟩; rw [hon9] at h8; cases h8)), ae I, db]; unfold voiceB; rw [ae I, ae I]) : p := h
def wT (h : p := by rw [v_set hX9 I]; rfl) : p := h
def Py (h : p := by unfold daaL; simp_all [fg]; all_goals (repeat' split); all_goals omega) : p := h
def Xc (h : p := by unfold daaC; simp_all [fg]; all_goals (repeat' split); all_goals omega) : p := h
def aGC (h : p := by have h9 := (aK.nth' (cPtr_len pb) hrow hoi) 0 _ rfl; simpa using h9) : p := h
def D6 (h : p := by unfold readPt; dsimp only; (repeat (first | rw [ag I] | rw [ae I])); first | done | rfl) : p := h
def Cj (h : p := by rw [cBd_len hPK]; rfl) : p := h
def wP (h : p := by rw [eD, h.lV]; omega) : p := h
def aGa (h : p := by unfold twoB; dsimp only; (repeat (first | rw [ag I] | rw [ae I])); first | done | rfl) : p := h
def X5 (h : p := by first | (intro h; cases h; done) | (intro _ _ _ hK x hx; obtain ⟨_, _, rfl⟩ := hK; repeat (first | exact hx | exact iK _ hx | exact iK _ (bD _ hx) | refine bD _ ?_ | refine .tail _ ?_))) : p := h
def aAf (h : p := by have h9 := hm _ _ (get_high h.ln (j := (a - 65408).toNat) I); rwa [← eh] at h9) : p := h
def Na (h : p := by first | exact kN aE | exact Fg aE _ 4 rfl) : p := h
def Pf (h : p := by first | exact kN aE | exact Fg aE _ 2 rfl) : p := h
def E1 (h : p := by first | exact kN aE | exact Fg aE _ 1 rfl) : p := h
def Hl (h : p := by show l.length - (i + 1) < l.length - i; omega) : p := h
def aCs (h : p := by simp only [cy]; (try simp only [al, ah, ci, aq, cr, ar, ne_eq] at *); omega) : p := h
def Fc (h : p := by rw [Ur (bi _)]; rfl) : p := h
def Ei (h : p := by rw [tabL_len hP hB, cO_len]; omega) : p := h
def aFq (h : p := by rw [bY I I]; (try simp only [al, ah, ci, aq, cr, ar, ne_eq] at *); omega) : p := h
def aQm (h : p := by rw [passes_snoc hoi, ← hZ, pass1_goes hfz]; exact hV1) : p := h
def tL (h : p := by rw [← e1]; rfl) : p := h
def aQu (h : p := by rw [take_snoc I, bz, ← txV_app]; exact aD (fun z : Int => txV ((l.take i).map chrH) ++ [Value.int .u8 z]) ((by unfold chrH; rw [ag I]; rfl))) : p := h
def aC9 (h : p := by have := hK.small; (try simp only [al, ah, ci, aq, cr, ar, ne_eq] at *); omega) : p := h
def aKr (h : p := by unfold readB; rw [ae I, ae I, ae I]) : p := h
def aEz (h : p := by rw [hq4 _ hx]; (try simp only [al, ah, ci, aq, cr, ar, ne_eq] at *); omega) : p := h
def Hg (h : p := by unfold shiftPt; dsimp only; omega) : p := h
def uX (h : p := by rw [q1]; decide) : p := h
def Wv (h : p := by rw [fo]; simp only [cr, al, ne_eq]; omega) : p := h
def A0 (h : p := by rw [cBd_len hWO]; rfl) : p := h
def Wm (h : p := by first | exact h.sub (.cons_cons _ (.cons _ aJ)) | exact h.sub (.cons _ aJ)) : p := h
def It (h : p := by cases hp; exact St.apartT (G := []) hw) : p := h
def aCI (h : p := by have h9 := qcheck_fn (Q_ b11) (romS b) (madeZ kind b ram prog) I hbZ w (Ns.of (aH (b := b11) aE w hw)); rw [hlZ, ae I] at h9; exact h9) : p := h
def aCq (h : p := by rw [bQ (bs := [x.kind % 256])]; simp only [eF, ax]; omega) : p := h
def Qa (h : p := by rw [tailM_len h, az]; omega) : p := h
def Rz (h : p := by rw [cg]; exact cBd_r hB (j := k) I) : p := h
def Bz (h : p := by show 2 ≤ 100; decide) : p := h
def aB3 (h : p := by intro _ _ _ hK x hx; obtain ⟨G42, hV42, rfl⟩ := hK; repeat (first | exact hx | exact iK _ hx | refine bD _ ?_ | refine .tail _ ?_)) : p := h
def W8 (h : p := by rw [passes_snoc hoi, ← hZ]; rfl) : p := h
def Ht (h : p := by rw [fo]; simp; omega) : p := h
def vY (h : p := by simp [Ck.held]) : p := h
def Yn (h : p := by rw [fo]; simp) : p := h
def Jm (h : p := by unfold modeU; simp_all <;> omega) : p := h
def Ct (h : p := by rw [eD, h.lR]; omega) : p := h
def J7 (h : p := by rw [cBd_len (hPK.beginW (k / 5)).ln]; rfl) : p := h
def aGx (h : p := by rw [cBd_len hWO, cBd_len bdZ_wf]; decide) : p := h
def aMw (h : p := by rw [cBd_len hPK, cBd_len bdZ_wf]; decide) : p := h
def uI (h : p := by simp [hab]) : p := h
def aAl (h : p := by rw [cBd_len (show (if decide (x / 128 = 1) = true then onB B else offB B).Wf by split; exact hB.onW; exact hB.off)]; rfl) : p := h
def aB0 (h : p := by show i + 1 ≤ cs.length; omega) : p := h
def aLq (h : p := by rw [cBd_len hB, cBd_len bdZ_wf]; decide) : p := h
def tN (h : p := by simp_all) : p := h
def aA8 (h : p := by rw [hs9]) : p := h
def Vx (h : p := by unfold tickU; rw [ag hlit]) : p := h
def R3 (h : p := by show 0 ≤ (if everyB b = 0 then 8 else everyB b) ∧ (if everyB b = 0 then 8 else everyB b) < 65536; split <;> omega) : p := h
def L7 (h : p := by rw [cBd_len hX1]; simp only [eF, ax]; omega) : p := h
def R8 (h : p := by unfold secCk dayCk; simp only [e1, e2, e3, e4, ne_eq, not_true_eq_false, not_false_eq_true, if_true, if_false]; rfl) : p := h
def aPj (h : p := by rw [dq] at hV0; exact hV0) : p := h
def Vl (h : p := by first | exact aH aE | exact uY aE _ 4 rfl) : p := h
def Wq (h : p := by first | exact aH aE | exact uY aE _ 1 rfl) : p := h
def L8 (h : p := by simp at *; unfold cmpI; split <;> (try split) <;> omega) : p := h
def Vn (h : p := by show _ = ((cycleM m).acc ++ [_]).length; rw [bQ]; rfl) : p := h
def Gj (h : p := by rw [eD, h.lO]; omega) : p := h
def Rb (h : p := by rw [Ur (bi _)]; simp) : p := h
def aBu (h : p := by have h9 := likeN_drop (a.drop j) (b.drop j); rw [bw, bw, ← hn9] at h9; exact h9) : p := h
def Ah (h : p := by rw [setV_setV]) : p := h
def aMF (h : p := by rw [beat_step]) : p := h
def aAO (h : p := by rw [bz (l₂ := [x.kind % 256])]; rfl) : p := h
def aDM (h : p := by unfold fromCp; dsimp only; (repeat (first | rw [ag I] | rw [ae I])); first | done | rfl) : p := h
def wU (h : p := by rw [e9]; rfl) : p := h
def Tl (h : p := by unfold beginPt; dsimp only; omega) : p := h
def aBw (h : p := by rw [← ka]; omega) : p := h
def Gu (h : p := by simp [h.lR]; omega) : p := h
def aGD (h : p := by rw [← hh8]) : p := h
def O5 (h : p := by rw [cMm_len h.ln, cBd_len (h.bd.write (a - 65296) hx).ln]; exact ai rfl) : p := h
def Sn (h : p := by show _ - (i + 1) < _ - i; omega) : p := h
def Dz (h : p := by simp [VV.fl, bkH]) : p := h
def Co (h : p := by rw [eD, h.lR]) : p := h
def aBl (h : p := by show Value.int .i64 ((l.length : Int) - 1) = _; rw [h0]; exact aD (Value.int .i64) I) : p := h
def aBF (h : p := by first | (rintro ⟨q7, h9⟩; omega) | (rintro ⟨q7, h9⟩; rw [hon9] at q7; cases q7)) : p := h
def Oz (h : p := by rw [bY I I]; omega) : p := h
def A1 (h : p := by simp only [newM0, jo]; rfl) : p := h
def Oa (h : p := by show 2 ≤ 8; decide) : p := h
def N2 (h : p := by rw [show readB n B = 255 from ag I]) : p := h
def C9 (h : p := by simp only [az]; omega) : p := h
def Of (h : p := by unfold onV; rw [hon9]; rfl) : p := h
def xC (h : p := by simp [hl]) : p := h
def Kh (h : p := by rw [h.lR]; exact hj) : p := h
def Gn (h : p := by rw [bQ]; omega) : p := h
def Mb (h : p := by simp [flat4, h.lV]; omega) : p := h
def N8 (h : p := by rw [hcnt, lastB_min]; rfl) : p := h
def aBh (h : p := by have := Hs.callsL_len (g.sts k); omega) : p := h
def Oh (h : p := by simp [h.lO, h.lR]; omega) : p := h
def aHz (h : p := by rw [cMm_len q2.ln, cBd_len q2.bd.tick.ln]; exact ai rfl) : p := h
def Ea (h : p := by rw [eD, h.lV]) : p := h
def Gk (h : p := by rw [eD, h.lO]) : p := h
def J0 (h : p := by rw [cMmR_eq (cx)]) : p := h
def aAK (h : p := by rw [bQ (bs := [x.kind % 256])]; rfl) : p := h
def aCS (h : p := by unfold readB; rw [ae I, ae I, ag I, db]) : p := h
def Lx (h : p := by have := hK.small; omega) : p := h
def aAc (h : p := by rw [show 144 * 160 = u.P.length by rw [hu.lP], dq]; rfl) : p := h
def Eb (h : p := by rw [midM_len]) : p := h
def aKu (h : p := by rw [flat4, hB.lV]; rfl) : p := h
def Ox (h : p := by rw [cBd_len h.bd]; rfl) : p := h
def tV (h : p := by rfl) : p := h
def Se (h : p := by rw [v_set hB hn]; rfl) : p := h
def V4 (h : p := by rw [show letsCp (cycleM m).cp a = true by simpa using q0]; decide) : p := h
def Ui (h : p := by rw [cBd_len hWL]; rfl) : p := h
def aDq (h : p := by intro _ _ _ hK; obtain ⟨rfl, rfl⟩ := hK; exact fun x hx => hx) : p := h
def aCP (h : p := by rw [foldQ_take hq, putQ]; exact h.sub (.cons_cons _ (.cons _ aJ))) : p := h
def Lk (h : p := by rw [h1]; decide) : p := h
def aEk (h : p := by rw [(show isP o.kind = false from cz I)]; decide) : p := h
def Va (h : p := by cases ht : s.taken <;> simp_all) : p := h
def xR (h : p := by cases h) : p := h
def U5 (h : p := by show (b.vs.set n x).length = 4; rw [cy]; exact h.lV) : p := h
def Lu (h : p := by rw [hC_len hr]; simp) : p := h
def Mp (h : p := by rw [eD, fZ]; omega) : p := h
def aBm (h : p := by unfold askV; have q4 : (askU u).sig = sigU u := rfl; simp_all) : p := h
def aAA (h : p := by unfold readB; rw [ae I, ag I, db]) : p := h
def aEt (h : p := by simp only [bQ, eD, fZ, dN, az]; omega) : p := h
def aOo (h : p := by rw [cBd_len (hPK.beginW (k / 5)).ln, cBd_len bdZ_wf]; decide) : p := h
def aDd (h : p := by first | exact kN aE | exact Fg aE _ 160 rfl) : p := h
def aAU (h : p := by show _ = (chkH l i - (l.getD (308 + i) 0 + 1)) % 256; omega) : p := h
def aAj (h : p := by rw [← z8_all hl, nU_len (z8_ln hl (bi _))]; rfl) : p := h
def aKb (h : p := by rw [bQ, leB_len]; simp only [eF, ax]; omega) : p := h
def aFw (h : p := by rw [cBd_len hX9]; simp only [eF, ax]; omega) : p := h
def aFk (h : p := by rw [cBd_len hX2]; simp only [eF, ax]; omega) : p := h
def Y1 (h : p := by rw [cBd_len hW9]; simp only [eF, ax]; omega) : p := h
def aCH (h : p := by rw [cBd_len hC9]; simp only [eF, ax]; omega) : p := h
def aAH (h : p := by first | (rw [cBd_len hN2]; rfl) | (rw [cBd_len hN3]; rfl)) : p := h
def Rr (h : p := by simp [h.lP]; omega) : p := h
def Ry (h : p := by simp [h.lO]; omega) : p := h
def F0 (h : p := by rw [cBd_len hB.off.ln]; rfl) : p := h
def aIc (h : p := by rw [hll, putP_tot i n hi2 hy, gn]) : p := h
def Me (h : p := by rw [hB.lV]; omega) : p := h
def P2 (h : p := by have h9 := hrx.at cChg_len hcx0 1 rfl; simpa using h9) : p := h
def aEa (h : p := by have h9 := hrx.at cChg_len hcx0 0 rfl; simpa using h9) : p := h
def aO8 (h : p := by rw [cMm_len q4.ln]; exact ai rfl) : p := h
def aM6 (h : p := by rw [cg]; exact putBd_r hB (j := k) I _) : p := h
def No (h : p := by rw [eD, h.work]) : p := h
def aD1 (h : p := by rw [bQ]; simp only [az]; omega) : p := h
def aBi (h : p := by intro x hx; rw [List.mem_singleton.1 hx]; exact ho) : p := h
def aEf (h : p := by show b.length - (j + n9 + k9) < b.length - j; omega) : p := h
def aC3 (h : p := by rw [best_step hcx0, hb]; exact better_no (.inl I)) : p := h
def aFp (h : p := by rw [hon9]) : p := h
def aCg (h : p := by rw [cBd_len (h.bd.write (a - 65296) hx).ln]; rfl) : p := h
def aBf (h : p := by rw [ib]; exact aCw bv 0 5 _ c) : p := h
def Tz (h : p := by simp [r4_len h]) : p := h
def Qb (h : p := by rw [ag I]) : p := h
def Qt (h : p := by rw [ae I]) : p := h
def aP9 (h : p := by rw [hu.lV]; rfl) : p := h
def Up (h : p := by rw [h4]; decide) : p := h
def aCc (h : p := by rw [aw]; exact List.Sublist.refl _) : p := h
def aCB (h : p := by first | exact Bv I I | exact Mk _) : p := h
def gS (h : p := by (try simp only [al, ah, ci, aq, cr, ar, ne_eq] at *); omega) : p := h
def zA (h : p := by first | exact eG 0 rfl rfl rfl rfl M | exact eB 0 rfl rfl rfl rfl M | exact iP 0 rfl rfl rfl rfl M | exact fO 0 rfl rfl rfl rfl M) : p := h
def aI3 (h : p := by first | exact qF 4 16 M rfl I (show _ < (256 : Int) by omega) (show _ < (256 : Int) by decide) | rfl) : p := h
def Cm (h : p := by first | exact eG 4 rfl rfl rfl rfl M | exact eB 4 rfl rfl rfl rfl M | exact iP 4 rfl rfl rfl rfl M | exact fO 4 rfl rfl rfl rfl M) : p := h
def xZ (h : p := by first | (intro h; cases h; done) | (intro _ _ _ hK; obtain ⟨rfl, rfl⟩ := hK; exact (fun x hx => uA))) : p := h
def xV (h : p := by first | exact qF 3 8 M rfl I (show _ < (256 : Int) by omega) (show _ < (256 : Int) by decide) | rfl) : p := h
def Eo (h : p := by first | exact eG 3 rfl rfl rfl rfl M | exact eB 3 rfl rfl rfl rfl M | exact iP 3 rfl rfl rfl rfl M | exact fO 3 rfl rfl rfl rfl M) : p := h
def aFA (h : p := by first | exact Bb 16 M I (show _ < (256 : Int) by omega) | exact Xt 16 M | rfl) : p := h
def Ku (h : p := by first | exact eG 1 rfl rfl rfl rfl M | exact eB 1 rfl rfl rfl rfl M | exact iP 1 rfl rfl rfl rfl M | exact fO 1 rfl rfl rfl rfl M) : p := h
def aOb (h : p := by first | exact Bx 7 M I (show _ < (256 : Int) by omega) (show _ < (256 : Int) by decide) | rfl) : p := h
def Fk (h : p := by first | exact qF 1 2 M rfl I (show _ < (256 : Int) by omega) (show _ < (256 : Int) by decide) | rfl) : p := h
def Pi (h : p := by first | exact eG 2 rfl rfl rfl rfl M | exact eB 2 rfl rfl rfl rfl M | exact iP 2 rfl rfl rfl rfl M | exact fO 2 rfl rfl rfl rfl M) : p := h
def Wz (h : p := by first | exact Bb 256 M I (show _ < (65536 : Int) by omega) | exact aMK 256 M | rfl) : p := h
def Cw (h : p := by intro _ _ _ hK; obtain ⟨G, _, rfl⟩ := hK; exact fun x hx => Us) : p := h
def Xs (h : p := by rw [Ur aM]; simp only [eF, ax]; (try simp only [al, ah, ci, aq, cr, ar, ne_eq] at *); omega) : p := h
def Ld (h : p := by first | exact Bb 256 M I (show _ < (9223372036854775808 : Int) by omega) | rfl) : p := h
def aQe (h : p := by first | exact qF 1 2 M rfl I (show _ < (65536 : Int) by omega) (show _ < (65536 : Int) by decide) | rfl) : p := h
def Wj (h : p := by rw [bY aM aM]; (try simp only [al, ah, ci, aq, cr, ar, ne_eq] at *); omega) : p := h
def aHp (h : p := by first | exact Bx 2 M I (show _ < (256 : Int) by omega) (show _ < (256 : Int) by decide) | rfl) : p := h
def rO (h : p := by rw [e9]; exact hG) : p := h
def U2 (h : p := by rw [cU_len ((hu.dot_ (x := 0) M).line_ (x := u.line + 1) I)]; simp only [eF, ax]; (try simp only [al, ah, ci, aq, cr, ar, ne_eq] at *); omega) : p := h
def sV (h : p := by dsimp only; omega) : p := h
def Xl (h : p := by rcases (show j < i ∨ j = i by omega) with h9 | rfl; exact hj j h9; exact z2) : p := h
def A6 (h : p := by first | exact Bx 6 M I (show _ < (256 : Int) by omega) (show _ < (256 : Int) by decide) | rfl) : p := h
def F9 (h : p := by first | exact Bx 4 M I (show _ < (256 : Int) by omega) (show _ < (256 : Int) by decide) | rfl) : p := h
def Zu (h : p := by first | exact Bb 2 M I (show _ < (256 : Int) by omega) | exact Xt 2 M | rfl) : p := h
def Tn (h : p := by have h9 := (rowM_cp (cG hm aL w hw)) 0 _ rfl; exact h9) : p := h
def aCk (h : p := by have h9 := snumber_fn a c [(N : Int), 0] Oa Rc w (hB.later hnb hw); rw [show numS [(N : Int), 0] [(N : Int), 0].length = (N : Int) from numS_two I] at h9; exact h9) : p := h
def aIB (h : p := by rw [write_R _ hno aM]) : p := h
def Vg (h : p := by have h9 := (Yv hrx aL w hw).at cChg_len hcx0 0 rfl; simpa using h9) : p := h
def aIK (h : p := by intro _ _ _ hK; obtain ⟨_, rfl, rfl⟩ := hK; exact fun x hx => Us) : p := h
def Vr (h : p := by have h9 := (cG hr aL w hw).at cSg_len hsi 0 rfl; simpa using h9) : p := h
def aFV (h : p := by unfold writeBd; rw [ae I, ae I, ae Hi, ae I, db]; unfold voiceB; rw [ae I, ae I]) : p := h
def Ri (h : p := by unfold placeV; rw [ae aM, ae aM]) : p := h
def aCe (h : p := by unfold writeBd; rw [ae I, ae I, ae Hi, ae I, db]; unfold voiceB; rw [ag I]) : p := h
def aEW (h : p := by first | exact qF 12 4096 M rfl I (show _ < (65536 : Int) by omega) (show _ < (65536 : Int) by decide) | rfl) : p := h
def aEI (h : p := by first | exact qF 6 64 M rfl I (show _ < (256 : Int) by omega) (show _ < (256 : Int) by decide) | rfl) : p := h
def aFu (h : p := by first | exact qF 5 32 M rfl I (show _ < (256 : Int) by omega) (show _ < (256 : Int) by decide) | rfl) : p := h
def Jo (h : p := by rw [rowU_len]; omega) : p := h
def Y3 (h : p := by first | exact Bx 3 M I (show _ < (256 : Int) by omega) (show _ < (256 : Int) by decide) | rfl) : p := h
def R4 (h : p := by intro _ _ _ hK; obtain ⟨_, ⟨rfl, va', Ga', hV', rfl⟩, rfl⟩ := hK; exact (fun x hx => M0)) : p := h
def Y8 (h : p := by first | exact Bb 128 M I (show _ < (256 : Int) by omega) | exact Xt 128 M | rfl) : p := h
def aFs (h : p := by rcases (show i = 0 ∨ i = 1 ∨ i = 2 ∨ i = 3 by omega) with rfl | rfl | rfl | rfl <;> rfl) : p := h
def Bp (h : p := by simp at *; omega) : p := h
def La (h : p := by rw [e9, ae M]) : p := h
def aKx (h : p := by rw [jf, gk]; exact (Nat.div_lt_iff_lt_mul (ir M)).1 hy) : p := h
def aBe (h : p := by first | exact Bb 32 M I (show _ < (9223372036854775808 : Int) by omega) | rfl) : p := h
def W6 (h : p := by unfold writeBd; rw [ae I, ae I, ae Hi, ag I, db]) : p := h
def aCb (h : p := by intro _ _ _ hK; obtain ⟨_, ⟨_, _, rfl, _⟩, rfl⟩ := hK; exact fun x hx => Us) : p := h
def aKC (h : p := by intro _ _ _ hK; obtain ⟨_, ⟨rfl, rfl⟩, rfl⟩ := hK; exact (fun x hx => M0)) : p := h
def T3 (h : p := by intro _ _ _ hK; obtain ⟨_, ⟨_, rfl, _⟩, rfl⟩ := hK; exact fun x hx => Us) : p := h
def V5 (h : p := by unfold beginB; dsimp only; rw [ae M, ae (show ¬ byB B = 0 from z1)]) : p := h
def aDA (h : p := by unfold beginB; dsimp only; rw [ae M, ag (show byB B = 0 from z1)]) : p := h
def aAC (h : p := by intro _ _ _ hK; obtain ⟨_, rfl, rfl⟩ := hK; exact (fun x hx => uA)) : p := h
def aD5 (h : p := by rw [tabL_len hP (by simp [tabB]), cO_len]; have := hq1 i aM; omega) : p := h
def U0 (h : p := by dsimp only; have := hq1 i aM; rw [bY aBw aBw]; simp) : p := h
def aHQ (h : p := by rw [dq]) : p := h
def aBI (h : p := by dsimp only; have := hq1 i aM; rw [bY I I]; omega) : p := h
def A3 (h : p := by unfold numU; rw [ag aM]) : p := h
def jO (h : p := by rw [e9]) : p := h
def iR (h : p := by decide) : p := h
def kW (h : p := by simp) : p := h
def iL {Γ : dQ} {k : fT} {e : bB} {H : aF} {ops l : List Oper} (h : L1 Γ ops l k e H) : L1 Γ ops l k e H := h
def iD {Γ : dQ} {k : fT} {e : bB} {H : aF} {ops : List Oper} {S : AI → Prop} {need : AE} {pl : lH} (h : L2 Γ ops S need pl k e H) : L2 Γ ops S need pl k e H := h
def iC {Γ : dQ} {k : fT} {e : bB} {H : aF} {c : Code} (h : C Γ c k e H) : C Γ c k e H := h
def jE (h : T_ q p := by
 intro k_
 first
 | ((with_reducible refine iC ?_); first | refine N0 ?_ | refine aPP ?_ | refine aJf ?_ | refine aBs ?_ | refine aH3 ?_ | refine aPa rfl ?_ | refine aM8 rfl ?_ | refine aPS rfl ?_)
 | ((with_reducible refine iL ?_); first | refine aQF ?_ | refine R1 ?_ | refine RLo ?_ | refine RLp ?_ | refine Rl ?_)
 | ((with_reducible refine iD ?_); first | refine aJr ?_ | refine RDa ?_ | refine RDo ?_ | refine aAx rfl rfl rfl ?_ | refine RD ?_)
 exact k_.u) := h ⟨k_⟩
def bG (h : T_ q p := by intro k_; (iterate 1 refine jE ?_); exact k_.u) := h ⟨k_⟩
def aU (h : T_ q p := by intro k_; (iterate 2 refine jE ?_); exact k_.u) := h ⟨k_⟩
def bU (h : T_ q p := by intro k_; (iterate 3 refine jE ?_); exact k_.u) := h ⟨k_⟩
def eK (h : T_ q p := by intro k_; (iterate 4 refine jE ?_); exact k_.u) := h ⟨k_⟩
def cY (h : T_ q p := by intro k_; (iterate 5 refine jE ?_); exact k_.u) := h ⟨k_⟩
def dO (h : T_ q p := by intro k_; (iterate 6 refine jE ?_); exact k_.u) := h ⟨k_⟩
def gF (h : T_ q p := by intro k_; (iterate 7 refine jE ?_); exact k_.u) := h ⟨k_⟩
def bA (h : T_ q p := by intro k_; (iterate 8 refine jE ?_); exact k_.u) := h ⟨k_⟩
def bZ (h : T_ q p := by intro k_; (iterate 9 refine jE ?_); exact k_.u) := h ⟨k_⟩
def cL (h : T_ q p := by intro k_; (iterate 10 refine jE ?_); exact k_.u) := h ⟨k_⟩
def iG (h : T_ q p := by intro k_; (iterate 11 refine jE ?_); exact k_.u) := h ⟨k_⟩
def fJ (h : T_ q p := by intro k_; (iterate 12 refine jE ?_); exact k_.u) := h ⟨k_⟩
def lS (h : T_ q p := by intro k_; (iterate 13 refine jE ?_); exact k_.u) := h ⟨k_⟩
def jN (h : T_ q p := by intro k_; (iterate 14 refine jE ?_); exact k_.u) := h ⟨k_⟩
def lZ (h : T_ q p := by intro k_; (iterate 15 refine jE ?_); exact k_.u) := h ⟨k_⟩
def Fy (h : T_ q p := by intro k_; (iterate 16 refine jE ?_); exact k_.u) := h ⟨k_⟩
def xN (h : T_ q p := by intro k_; (iterate 17 refine jE ?_); exact k_.u) := h ⟨k_⟩
def sJ (h : T_ q p := by intro k_; (iterate 18 refine jE ?_); exact k_.u) := h ⟨k_⟩
def Bw (h : T_ q p := by intro k_; (iterate 19 refine jE ?_); exact k_.u) := h ⟨k_⟩
def aMo (h : T_ q p := by intro k_; (iterate 20 refine jE ?_); exact k_.u) := h ⟨k_⟩
def K5 (h : T_ q p := by intro k_; (iterate 21 refine jE ?_); exact k_.u) := h ⟨k_⟩
def Gv (h : T_ q p := by intro k_; (iterate 22 refine jE ?_); exact k_.u) := h ⟨k_⟩
def J6 (h : T_ q p := by intro k_; (iterate 23 refine jE ?_); exact k_.u) := h ⟨k_⟩
def Lm (h : T_ q p := by intro k_; (iterate 24 refine jE ?_); exact k_.u) := h ⟨k_⟩
def aBT (h : T_ q p := by intro k_; (iterate 25 refine jE ?_); exact k_.u) := h ⟨k_⟩
def Oy (h : T_ q p := by intro k_; (iterate 27 refine jE ?_); exact k_.u) := h ⟨k_⟩
def aNp (h : T_ q p := by intro k_; (iterate 28 refine jE ?_); exact k_.u) := h ⟨k_⟩
def aMO (h : T_ q p := by intro k_; (iterate 30 refine jE ?_); exact k_.u) := h ⟨k_⟩
def aGi (h : T_ q p := by intro k_; (iterate 40 refine jE ?_); exact k_.u) := h ⟨k_⟩
def aPi (h : T_ q p := by intro k_; (iterate 53 refine jE ?_); exact k_.u) := h ⟨k_⟩
def eP (h : T_ q p := by
 intro k_
 simp only [ct, bq, aw, ak, bf]
 exact k_.u) := h ⟨k_⟩
def jL (h : T_ q p := by
 intro k_
 refine gO false U U U (beq_eq_false_iff_ne.2 I) ?_
 exact k_.u) := h ⟨k_⟩
def dE (h : T_ q p := by
 intro k_
 simp only [ak, bf]
 exact k_.u) := h ⟨k_⟩
def jF (h : T_ q p := by
 intro k_
 refine RW (v := (.int .i64 ((i + 1 : Nat) : Int))) U U (aD _ (eX I)) (ZAm ?_)
 exact k_.u) := h ⟨k_⟩
def iJ (h : T_ q p := by
 intro k_
 refine ZEq ?_
 refine ZA7 ?_
 exact k_.u) := h ⟨k_⟩
def jT (h : T_ q p := by
 intro k_
 refine ZBQ ?_
 refine ZCE ?_
 exact k_.u) := h ⟨k_⟩
def qA (h : T_ q p := by
 intro k_
 refine gO false U U U (cz I) ?_
 exact k_.u) := h ⟨k_⟩
def J5 (h : T_ q p := by
 intro k_
 have hout : leW [(cs.length : Int) % 65536] ++ lastB callB cs i ++ [x.kind % 256] ++ leW [x.at_, x.to, x.back] = leW [(cs.length : Int) % 65536] ++ lastB callB cs (i + 1) := by rw [lastB_succ _ _ Hs.c0 I, hx]; simp [callB]
 refine jC (H' := [(lb, .loop (busy rec)), (b4, J (Hs.cC x) 197), (bx, J [(.slice a21 cs.length c0)] 136), (b3, J [(.slice ao (leW [(cs.length : Int) % 65536] ++ lastB callB cs i).length co)] 22), (b1, J [(.slice a21 cs.length c0)] 136)] ++ (G5 ++ G1)) (fun _ h => St.fl [G5, [(lb, .loop (busy rec)), (b4, J (Hs.cC x) 197), (bx, J [(.slice a21 cs.length c0)] 136), (b3, J [(.slice ao (leW [(cs.length : Int) % 65536] ++ lastB callB cs i).length co)] 22), (b1, J [(.slice a21 cs.length c0)] 136)], G1] [1, 0, 2] U h) ?_
 revert hout
 exact k_.u) := h ⟨k_⟩
def pT (h : T_ q p := by
 intro k_
 refine ZEq ?_
 refine ZAm ?_
 exact k_.u) := h ⟨k_⟩
def Ro (h : T_ q p := by
 intro k_
 exact W (bX U U Hb (aH (b := b0) (l := cBd ((putB k x B).setV (k / 5) { ((putB k x B).v (k / 5)) with on := ((putB k x B).v (k / 5)).on && readyB (k / 5) (putB k x B) })) aE)) U (W (bF (l' := cBd ((putB k x B).setV (k / 5) { ((putB k x B).v (k / 5)) with on := ((putB k x B).v (k / 5)).on && readyB (k / 5) (putB k x B) })) 0 U U U A0 (ones_cBd _) U aGx (putZ hWO)) U (k_.u))) := h ⟨k_⟩
def zD (h : T_ q p := by
 intro k_
 exact W (bX U U Zl (aH (b := b0) (l := cBd ({ (beatB ({ B with div := 0 } : Bd)) with step := (B.step + 1) % 8 } : Bd)) aE)) U (W (bF (l' := cBd ({ (beatB ({ B with div := 0 } : Bd)) with step := (B.step + 1) % 8 } : Bd)) 0 U U U Zl (ones_cBd _) U aNL (putZ hFN)) U (k_.u))) := h ⟨k_⟩
def Yx (h : T_ q p := by
 intro k_
 refine RX (kM (A := (b0, J [.int .u64 (FK.at Z.1 oi)] 38) :: (lb, J [v0, .bool r] 144) :: G0) (G := [(pb, J Z.1 T)]) (R := fun v H => v = .tuple #[] ∧ ∃ va' Gl', LineB 5 r va' (goes r 1 (FK.at Z.1 oi) Z.2).2 Gl' ∧ H = (b0, J [.int .u64 (goes r 1 (FK.at Z.1 oi) Z.2).1] 38) :: (lb, J [va', .bool r] 144) :: Gl') (((b0, J [.int .u64 (FK.at Z.1 oi)] 38) :: (lb, J [v0, .bool r] 144) :: G0).map (·.1)) K_ U (fun _ hb => jS hb) (dJ (number1L_fn r lb b0 1 M v0 (FK.at Z.1 oi) hx8 Z.2 G0 hV0 (fun L => ⟨hSz.byts, hSz.en, hSz.sz⟩) _))) U ?_
 rintro _ _ ⟨_, ⟨rfl, va0, G1, hV1, rfl⟩, rfl⟩
 revert va0 G1 hV1
 exact k_.u) := h ⟨k_⟩
def lE (h : T_ q p := by
 intro k_
 refine ZC2 ?_
 rintro _ _ ⟨b1, rfl, rfl⟩
 revert b1
 exact k_.u) := h ⟨k_⟩
def Ax (h : T_ q p := by
 intro k_
 refine RX (eM (l := [.int .i64 kind, .int .i64 banks, .int .i64 ram, .bool on, .bool mode, .int .i64 low, .int .i64 high, .int .u8 last]) U U) U (ZBN fun b0 => ?_)
 revert b0
 exact k_.u) := h ⟨k_⟩
def pH (h : T_ q p := by
 intro k_
 exact W (bX U U U sK) U (k_.u)) := h ⟨k_⟩
def jM (h : T_ q p := by
 intro k_
 refine gO false U U U U ?_
 exact k_.u) := h ⟨k_⟩
def fB (h : T_ q p := by
 intro k_
 exact RW (gN U U U) U mM (k_.u)) := h ⟨k_⟩
def Ou (h : T_ q p := by
 intro k_
 refine ZBE ?_
 exact W (bF (l' := cBd (((putB k x B).setV (k / 5) { ((putB k x B).v (k / 5)) with on := ((putB k x B).v (k / 5)).on && readyB (k / 5) (putB k x B) }))) 1 U U U U U U Vj (putBd_v hPK (k := 0) (y := { ((putB k x B).v (k / 5)) with on := ((putB k x B).v (k / 5)).on && readyB (k / 5) (putB k x B) }) I M tV)) U (k_.u)) := h ⟨k_⟩
def kA (h : T_ q p := by
 intro k_
 refine gO true U U U (beq_iff_eq.2 hk) ?_
 exact k_.u) := h ⟨k_⟩
def Qw (h : p := by
 have e1 : heldB a x ⟨kind, banks, ram, on, mode, low, high, last⟩ = false := by unfold heldB; dsimp only; rw [fo]; simp only [al, ci, ep, iff_false]; omega
 exact aZ (fun w hw => gK U U U (aH (b := b1) aE w hw) U) ⟨U, y_U⟩) : p := h
def T4 (h : T_ q p := by
 intro k_
 refine jC (H' := (b4, J ([x.at_].map (.int .u16)) 93) :: (G3 ++ ([(lb, .loop (busy rec)), (b3, J (Hs.cR x) 138), (bx, J [(.slice a21 cs.length c0)] 226), (b2, J [(.slice ao (lastB recB cs i).length co)] 22), (b1, J [(.slice a21 cs.length c0)] 226)] ++ G1))) (fun _ h => St.fl [[_], [(lb, .loop (busy rec)), (b3, J (Hs.cR x) 138), (bx, J [(.slice a21 cs.length c0)] 226), (b2, J [(.slice ao (lastB recB cs i).length co)] 22), (b1, J [(.slice a21 cs.length c0)] 226)], G3, G1] [0, 2, 1, 3] U h) ?_
 exact DX U (eO (F := []) (A := (b4, J ([x.at_].map (.int .u16)) 93) :: G3) (G := [(lb, .loop (busy rec)), (b3, J (Hs.cR x) 138), (bx, J [(.slice a21 cs.length c0)] 226), (b2, J [(.slice ao (lastB recB cs i).length co)] 22), (b1, J [(.slice a21 cs.length c0)] 226)] ++ G1) K_ U (uG (swords_fn _ (lastB recB cs i ++ leB x.n 4) G3 hV1 [x.at_] hwx b4 1 aKb))) U aW (k_.u)) := h ⟨k_⟩
def ZAX (h : T_ q p := by
 intro k_
 refine ZBE ?_
 exact RX (eO (F := [(b0, J (cCp (tickCp (cyc2 (cyc1 m)).cp)) 121)]) (A := [(A.mb, J (cMm A acc (askM 1 (aQ .u8 (tickV (cyc4 (cyc3 (cyc2 (cyc1 m)))).u) 1 != 0) { (cyc4 (cyc3 (cyc2 (cyc1 m)))) with u := tickU (cyc4 (cyc3 (cyc2 (cyc1 m)))).u })) 134)]) (G := [(A.ub, J (cU (tickU (cyc4 (cyc3 (cyc2 (cyc1 m)))).u)) 172)]) (R := fun v H => v = .tuple #[] ∧ H = [(A.mb, J (cMm A acc (askM 2 (aQ .u8 (tickV (cyc4 (cyc3 (cyc2 (cyc1 m)))).u) 2 != 0) (askM 1 (aQ .u8 (tickV (cyc4 (cyc3 (cyc2 (cyc1 m)))).u) 1 != 0) { (cyc4 (cyc3 (cyc2 (cyc1 m)))) with u := tickU (cyc4 (cyc3 (cyc2 (cyc1 m)))).u }))) 134)]) K_ U (fun w hw _ => ask_fnM A acc (askM 1 (aQ .u8 (tickV (cyc4 (cyc3 (cyc2 (cyc1 m)))).u) 1 != 0) { (cyc4 (cyc3 (cyc2 (cyc1 m)))) with u := tickU (cyc4 (cyc3 (cyc2 (cyc1 m)))).u }) hA5b 2 (aQ .u8 (tickV (cyc4 (cyc3 (cyc2 (cyc1 m)))).u) 2 != 0) w hw)) U (k_.u)) := h ⟨k_⟩
def fN (h : p := by
 refine ZA7 ?_
 exact E0 U ⟨U, U⟩) : p := h
def zN (h : p := by
 refine ZAm ?_
 exact aZ (fun w hw => eW U U Zl (aH (b := b1) (l := cBd ({ (beatB ({ B with div := 0 } : Bd)) with step := (B.step + 1) % 8 } : Bd)) aE w hw)) ⟨U, y_G⟩) : p := h
def oJ (h : T_ q p := by
 intro k_
 exact RW (dM U U) U U (k_.u)) := h ⟨k_⟩
def iX (h : T_ q p := by
 intro k_
 refine gO true U U U U ?_
 exact k_.u) := h ⟨k_⟩
def hY (h : T_ q p := by
 intro k_
 exact RW (nL U U) U mM (k_.u)) := h ⟨k_⟩
def uM (h : T_ q p := by
 intro k_
 exact W (bX U U U y_q) U (k_.u)) := h ⟨k_⟩
def xM (h : T_ q p := by
 intro k_
 refine RW (v := (.int .i64 ((n + 1 : Nat) : Int))) U U (aD _ (eX I)) (ZAm ?_)
 exact k_.u) := h ⟨k_⟩
def Ci (h : T_ q p := by
 intro k_
 refine RX (eM (l := [.int .u16 cnt, .int .u8 tima, .int .u8 tma, .int .u8 tac, .bool over]) U U) U (ZBN fun b0 => ?_)
 revert b0
 exact k_.u) := h ⟨k_⟩
def ZAg (h : T_ q p := by
 intro k_
 refine ZBE ?_
 exact RX (eO (F := [(b0, J (cCp (tickCp (cyc2 (cyc1 m)).cp)) 121)]) (A := [(A.mb, J (cMm A acc { (cyc4 (cyc3 (cyc2 (cyc1 m)))) with u := tickU (cyc4 (cyc3 (cyc2 (cyc1 m)))).u }) 134)]) (G := [(A.ub, J (cU (tickU (cyc4 (cyc3 (cyc2 (cyc1 m)))).u)) 172)]) (R := fun v H => v = .tuple #[] ∧ H = [(A.mb, J (cMm A acc (askM 1 (aQ .u8 (tickV (cyc4 (cyc3 (cyc2 (cyc1 m)))).u) 1 != 0) { (cyc4 (cyc3 (cyc2 (cyc1 m)))) with u := tickU (cyc4 (cyc3 (cyc2 (cyc1 m)))).u })) 134)]) K_ U (fun w hw _ => ask_fnM A acc { (cyc4 (cyc3 (cyc2 (cyc1 m)))) with u := tickU (cyc4 (cyc3 (cyc2 (cyc1 m)))).u } hA5 1 (aQ .u8 (tickV (cyc4 (cyc3 (cyc2 (cyc1 m)))).u) 1 != 0) w hw)) U (k_.u)) := h ⟨k_⟩
def jZ (h : T_ q p := by
 intro k_
 rintro _ _ ⟨_, ⟨rfl, G0, rfl, hG0⟩, rfl⟩
 revert G0 hG0
 exact k_.u) := h ⟨k_⟩
def Ba (h : T_ q p := by
 intro k_
 refine ZBE ?_
 exact W (bF (l' := cBd (({ (beatB ({ B with div := 0 } : Bd)) with step := (B.step + 1) % 8 } : Bd))) 1 U U U U U U y_Y (putBd_step hE _)) U (k_.u)) := h ⟨k_⟩
def nM (h : T_ q p := by
 intro k_
 refine ZC2 ?_
 refine ZBN fun b0 => ?_
 revert b0
 exact k_.u) := h ⟨k_⟩
def Mo (h : p := by
 refine jF ?_
 exact ⟨(i + 1, va0, G1), ⟨aR, aQm⟩, aR, .cons U .nil, bJ, fun _ h => (((h.sub (.cons_cons _ (.cons _ aJ))).perm (bg (l₁ := [(pb, _)]) (l₂ := (lb, _) :: G1)))).as W8⟩) : p := h
def Uc (h : p := by
 have e1 : latchB a x ⟨kind, banks, ram, on, mode, low, high, last⟩ = false := by unfold latchB; simp_all
 exact aZ (fun w hw => gK U U U (aH (b := b1) aE w hw) U) ⟨U, y_T⟩) : p := h
def ZAm (h : T_ q p := by
 intro k_
 refine aU ?_
 exact k_.u) := h ⟨k_⟩
def Dp (h : p := by
 refine pT ?_
 exact aZ (fun w hw => eW U U U (aH (b := b1) aE w hw)) ⟨U, y_J⟩) : p := h
def Ov (h : T_ q p := by
 intro k_
 refine RX (eM (l := [.int .u8 s, .int .u8 m, .int .u8 h, .int .i64 day, .int .i64 sub, .bool halt, .bool carry, .int .u8 d0, .int .u8 d1, .int .u8 d2, .int .u8 d3, .int .u8 d4]) U U) U (ZBN fun b0 => ?_)
 revert b0
 exact k_.u) := h ⟨k_⟩
def pI (h : p := by
 refine ZBy ?_
 exact E0 U ⟨U, U⟩) : p := h
def Cs (h : T_ q p := by
 intro k_
 have e7 : (if o.kind = 26 ∧ o.x ≠ 4 then idles K.toaQ7 1 x else x) = x := ae I
 revert e7
 exact k_.u) := h ⟨k_⟩
def nZ (h : T_ q p := by
 intro k_
 simp only [ak]
 refine RS ?_
 exact k_.u) := h ⟨k_⟩
def Q7 (h : T_ q p := by
 intro k_
 have hout : lastB recB cs i ++ leB x.n 4 ++ leW [x.at_] = lastB recB cs (i + 1) := by rw [lastB_succ _ _ Hs.r0 I, hx]; simp [recB]
 refine jC (H' := [(lb, .loop (busy rec)), (b3, J (Hs.cR x) 138), (bx, J [(.slice a21 cs.length c0)] 226), (b2, J [(.slice ao (lastB recB cs i).length co)] 22), (b1, J [(.slice a21 cs.length c0)] 226)] ++ (G4 ++ G1)) (fun _ h => St.fl [G4, [(lb, .loop (busy rec)), (b3, J (Hs.cR x) 138), (bx, J [(.slice a21 cs.length c0)] 226), (b2, J [(.slice ao (lastB recB cs i).length co)] 22), (b1, J [(.slice a21 cs.length c0)] 226)], G1] [1, 0, 2] U h) ?_
 revert hout
 exact k_.u) := h ⟨k_⟩
def ZAt (h : T_ q p := by
 intro k_
 exact W (aX U U (bN (v := P_ A.ub) aE (get_mid (m := (cyc4 (cyc3 (cyc2 (cyc1 m))))) q3.ln (j := 14) U))) U (RX (eO (F := [(b0, J (cCp (tickCp (cyc2 (cyc1 m)).cp)) 121), (A.mb, J (cMm A acc (cyc4 (cyc3 (cyc2 (cyc1 m))))) 134)]) (A := [(A.ub, J (cU (cyc4 (cyc3 (cyc2 (cyc1 m)))).u) 172)]) (G := []) (R := fun v H => v = .int .u8 (tickV (cyc4 (cyc3 (cyc2 (cyc1 m)))).u) ∧ H = [(A.ub, J (cU (tickU (cyc4 (cyc3 (cyc2 (cyc1 m)))).u)) 172)]) K_ U (uG (tick_fn A.ub (cyc4 (cyc3 (cyc2 (cyc1 m)))).u q3.u))) U (k_.u))) := h ⟨k_⟩
def Ki (h : T_ q p := by
 intro k_
 refine cZ (H' := [(b, J (cU (stepU u)) 172)]) (fun _ h => h.as aA8) ?_
 exact W (gY K_ U (kD (ask_fn b (stepU u) hws))) U (k_.u)) := h ⟨k_⟩
def Ed (h : T_ q p := by
 intro k_
 refine RX (cX (F := [(b0, _)]) (A := (rb, _) :: _) K_ U (dJ (ridle_fn K rb 1 M x h G hG))) U (jZ fun G0 hG0 => ?_)
 revert G0 hG0
 exact k_.u) := h ⟨k_⟩
def kS (h : T_ q p := by
 intro k_
 refine ZBE ?_
 refine ZEq ?_
 exact k_.u) := h ⟨k_⟩
def kL (h : T_ q p := by
 intro k_
 refine ZBE ?_
 refine iJ ?_
 exact k_.u) := h ⟨k_⟩
def yP (h : T_ q p := by
 intro k_
 refine jL ?_
 refine ZBy ?_
 exact k_.u) := h ⟨k_⟩
def R5 (h : T_ q p := by
 intro k_
 exact DX U (eO (F := []) (A := (b6, J ([x.at_, x.to, x.back].map (.int .u16)) 93) :: G4) (G := [(lb, .loop (busy rec)), (b4, J (Hs.cC x) 197), (bx, J [(.slice a21 cs.length c0)] 136), (b3, J [(.slice ao (leW [(cs.length : Int) % 65536] ++ lastB callB cs i).length co)] 22), (b1, J [(.slice a21 cs.length c0)] 136)] ++ G1) K_ U (uG (swords_fn _ (leW [(cs.length : Int) % 65536] ++ lastB callB cs i ++ [x.kind % 256]) G4 (hV2.as aAK aAO) [x.at_, x.to, x.back] hwx b6 3 aCq))) U aW (k_.u)) := h ⟨k_⟩
def X8 (h : T_ q p := by
 intro k_
 refine ZBE ?_
 exact DX U (eO (F := (b0, _) :: Ga) (A := [(A.mb, J (cMm A va m) 134), (A.ub, J (cU m.u) 172)]) (G := [(A.rb, J (List.map Z m.ram ++ A.rs) 5), (A.ob, J (List.map Z m.rom ++ A.sp) 5)]) (R := fun v H => v = .int .u8 (seenM a (cycleM m)) ∧ H = [(A.mb, J (cMm A va (cycleM m)) 134), (A.ub, J (cU (cycleM m).u) 172)]) K_ U (fun w hw hw2 => seen_fn A va m h a ha w hw (aK.left (aH (b := A.rb) aE w hw2)) (aK.left (aH (b := A.ob) aE w hw2)) hd)) U aKC (k_.u)) := h ⟨k_⟩
def Qq (h : T_ q p := by
 intro k_
 exact W (bX U U Gw (aH (b := b0) (l := cBd B) aE)) U (W (bF (l' := cBd B) 0 U U U Gw (ones_cBd _) U aLq (putZ hB)) U (k_.u))) := h ⟨k_⟩
def uK (h : T_ q p := by
 intro k_
 refine W (bX U U U y_E) U (iJ ?_)
 exact k_.u) := h ⟨k_⟩
def ZA7 (h : T_ q p := by
 intro k_
 refine bU ?_
 exact k_.u) := h ⟨k_⟩
def Kw (h : T_ q p := by
 intro k_
 refine cZ (fun w hw => hw.perm (bg (l₁ := (b0, _) :: (lb, _) :: G1) (l₂ := [(pb, _)]))) ?_
 refine eP ?_
 exact k_.u) := h ⟨k_⟩
def ZA9 (h : T_ q p := by
 intro k_
 refine ZBn ?_
 exact RX (eO (F := (b0, _) :: Ga) (A := [(A.mb, J (cMm A va m) 134), (A.ub, J (cU m.u) 172)]) (G := [(A.rb, J (List.map Z m.ram ++ A.rs) 5), (A.ob, J (List.map Z m.rom ++ A.sp) 5)]) (R := fun v H => v = .tuple #[] ∧ H = [(A.mb, J (cMm A va (cycleM m)) 134), (A.ub, J (cU (cycleM m).u) 172)]) K_ U (fun w hw hw2 => cycle_fn A va m h w hw (aK.left (aH (b := A.rb) aE w hw2)) (aK.left (aH (b := A.ob) aE w hw2)) hd)) U (k_.u)) := h ⟨k_⟩
def B1 (h : T_ q p := by
 intro k_
 have hst : St w _ ((b, J (cDb cap (pM q) (P_ hb) k (.slice (Q_ fa) (g.enc 0).length fc) lb mp pv wv asked done tab) 76) :: (mp, dL .u64 (l) (c)) :: (hM q m ++ (GH ++ (GL ++ D)))) w := hst
 have hml : ms.length ≤ 256 := by have := hL.len; have := (capT_ok cap).2; omega
 revert hst hml
 exact k_.u) := h ⟨k_⟩
def Mh (h : T_ q p := by
 intro k_
 have hVc : bM 329 3 va (cycleM m).acc.length (aN cAc (cycleM m).acc) Ga := by rw [cycleM_acc]; exact hV
 have hrc : (cycleM m).acc.length + 1 ≤ 1000000 := by rw [cycleM_acc]; omega
 revert hVc hrc
 exact k_.u) := h ⟨k_⟩
def Mg (h : T_ q p := by
 intro k_
 exact RW (iV U U M) U (qC 256 M M) (RW (v := (.int .u8 (x / 256))) (gN U U U) U (aD _ ((nQ _).trans I)) (k_.u))) := h ⟨k_⟩
def ZBE (h : T_ q p := by
 intro k_
 refine bG ?_
 exact k_.u) := h ⟨k_⟩
def Dh (h : p := by
 refine xN ?_
 exact aZ (fun _ _ => eY U U) ⟨U, _, U⟩) : p := h
def Uq (h : T_ q p := by
 intro k_
 refine pH ?_
 exact RX (cX (F := [(b0, _)]) (A := (rb, _) :: _) K_ U (dJ (rbytes_fn K rb x (h.le I : RunOk K.toaQ8 (bn + 2) x) G hG o ho))) U (k_.u)) := h ⟨k_⟩
def Bu (h : T_ q p := by
 intro k_
 exact RY (eB i U U U U I) U (k_.u)) := h ⟨k_⟩
def U3 (h : T_ q p := by
 intro k_
 exact RY (eB (n := romS b) (329) U U U U I) U (W (bF (l' := (((((madeP (List.replicate (romS b) 0) prog (min prog.length 15000)).set 327 kind).set 328 (b % 9))).set (329) (ram)).map Z) 0 U U U U U U (len_byte (n := romS b) yY I) (put_byte (l := (((madeP (List.replicate (romS b) 0) prog (min prog.length 15000)).set 327 kind).set 328 (b % 9))) (n := romS b) ram yY zG zG)) U (k_.u))) := h ⟨k_⟩
def C3 (h : T_ q p := by
 intro k_
 refine DR [4, 5, 6, 7, 8, 9, 10, 11, 12] (bW [0, 2, 4, 6, 8, 10, 12, 14, 16, 18, 20, 22, 24, 27]) ?_
 refine lS ?_
 exact k_.u) := h ⟨k_⟩
def Il (h : T_ q p := by
 intro k_
 refine DX U (cX (F := [(b0, _)]) (A := (rb, _) :: _) K_ U (dJ (rget_fn K rb x h G hG o.y))) U y_H (jZ fun G0 hG0 => ?_)
 revert G0 hG0
 exact k_.u) := h ⟨k_⟩
def uQ (h : T_ q p := by
 intro k_
 refine gO true U U U (ap I) ?_
 exact k_.u) := h ⟨k_⟩
def Hw (h : p := by
 refine pT ?_
 exact aZ (fun w hw => eW U U U (aH (b := b2) aE w hw)) ⟨U, y_W⟩) : p := h
def ZBN (h : T_ q p := by
 intro k_
 rintro _ _ ⟨b0, rfl, rfl⟩
 revert b0
 exact k_.u) := h ⟨k_⟩
def Ra (h : T_ q p := by
 intro k_
 refine ZAm ?_
 exact RX (eM (l := [.int .u8 data, .int .u8 control, .int .u8 last, .int .i64 bits, .int .i64 count, .int .i64 sent]) U U) U (k_.u)) := h ⟨k_⟩
def gZ (h : T_ q p := by
 intro k_
 exact RY fY U (k_.u)) := h ⟨k_⟩
def ZBQ (h : T_ q p := by
 intro k_
 rintro _ _ ⟨_, ⟨rfl, rfl⟩, rfl⟩
 exact k_.u) := h ⟨k_⟩
def Kx (h : T_ q p := by
 intro k_
 exact W (bX U U U (fun w hw => rowM_bk (m := m) (acc := acc) (aH (b := A.mb) aE w hw))) U (k_.u)) := h ⟨k_⟩
def Pg (h : T_ q p := by
 intro k_
 refine ZBy ?_
 exact RX (eQ (z := [.int .u8 0]) (l := ([18] : AB).map Z) (ps := [(0, .int .u8 (18))]) U U U U U U) U (k_.u)) := h ⟨k_⟩
def ZBT (h : T_ q p := by
 intro k_
 exact RY (eB (n := romS b) (328) U U U U I) U (W (bF (l' := ((((madeP (List.replicate (romS b) 0) prog (min prog.length 15000)).set 327 kind)).set (328) ((b % 9))).map Z) 0 U U U U U U (len_byte (n := romS b) yY I) (put_byte (l := ((madeP (List.replicate (romS b) 0) prog (min prog.length 15000)).set 327 kind)) (n := romS b) (b % 9) yY zG zG)) U (k_.u))) := h ⟨k_⟩
def iI (h : T_ q p := by
 intro k_
 refine dE ?_
 refine ZAm ?_
 exact k_.u) := h ⟨k_⟩
def vW (h : T_ q p := by
 intro k_
 exact DW U (gN U U U) U vQ (k_.u)) := h ⟨k_⟩
def zT (h : T_ q p := by
 intro k_
 refine kG (L' := [(b1, J (cBd bdZ) 127), (b0, J (cBd (beatB ({ B with div := 0 } : Bd))) 127)]) (fun w h => h.as aGD) ?_
 refine ZAm ?_
 exact W (aX U U (bN (v := .int .i64 B.step) aE ((cBd_step hE).trans aMF))) U (k_.u)) := h ⟨k_⟩
def Kq (h : T_ q p := by
 intro k_
 refine jL ?_
 refine ZBn ?_
 exact k_.u) := h ⟨k_⟩
def Nv (h : T_ q p := by
 intro k_
 refine ZEw ?_
 refine ZBE ?_
 exact k_.u) := h ⟨k_⟩
def lW (h : p := by
 refine ZBE ?_
 exact EN aJ ⟨U, y_k⟩) : p := h
def ZBa (h : p := by
 refine KC (fun q8 z8 => ?_) (fun q8 z8 => ?_)
 ·refine ZA7 ?_
  refine RW (nA U U) U qZ (ZA7 ?_)
  refine RY (eG (a - 65408).toNat U U U I I) U (W (bF (l' := cMm A acc { m with high := m.high.set (a - 65408).toNat x }) 0 U U U U U U Tj (putM_high h.ln I _)) U (dE ?_))
  exact lW
 exact lW) : p := h
def U9 (h : T_ q p := by
 intro k_
 exact RY (eB (n := romS b) (327) U U U U I) U (W (bF (l' := (((madeP (List.replicate (romS b) 0) prog (min prog.length 15000))).set (327) (kind)).map Z) 0 U U U U U U (len_byte (n := romS b) yY I) (put_byte (l := (madeP (List.replicate (romS b) 0) prog (min prog.length 15000))) (n := romS b) kind yY zG zG)) U (k_.u))) := h ⟨k_⟩
def nT (h : T_ q p := by
 intro k_
 exact RW (nA U U) U mM (k_.u)) := h ⟨k_⟩
def qD (h : T_ q p := by
 intro k_
 exact RW (tU U U M) U y_O (k_.u)) := h ⟨k_⟩
def xL (h : T_ q p := by
 intro k_
 refine Nv ?_
 exact RW (iM U U M) U aFA (k_.u)) := h ⟨k_⟩
def Rw (h : T_ q p := by
 intro k_
 refine ZA7 ?_
 exact DW (v := (.slice (Q_ b) u.V.length 8192)) U (pC 0 8192 U U U U U U M M) U aP9 (k_.u)) := h ⟨k_⟩
def tB (h : T_ q p := by
 intro k_
 refine aMS U (bT U) U U ?_
 exact k_.u) := h ⟨k_⟩
def Sb (h : T_ q p := by
 intro k_
 exact RX (eQ (z := [.int .u8 0]) (l := ([14] : AB).map Z) (ps := [(0, .int .u8 (14))]) U U U U U U) U (k_.u)) := h ⟨k_⟩
def Mw (h : T_ q p := by
 intro k_
 exact RX (eQ (z := [.int .u8 0]) (l := ([15] : AB).map Z) (ps := [(0, .int .u8 (15))]) U U U U U U) U (k_.u)) := h ⟨k_⟩
def nV (h : T_ q p := by
 intro k_
 rintro _ _ ⟨_, ⟨rfl, G1, rfl, hG1⟩, rfl⟩
 revert G1 hG1
 exact k_.u) := h ⟨k_⟩
def Tb (h : T_ q p := by
 intro k_
 refine Cs fun e7 => ?_
 have e8 : metJ o x = true := by unfold metJ; rw [(cz I : decide (23 ≤ o.kind ∧ o.kind ≤ 26) = false)]; rfl
 revert e7 e8
 exact k_.u) := h ⟨k_⟩
def Jg (h : p := by
 refine jF ?_
 exact ⟨i + 1, aR, aR, .cons U (.cons U .nil), bJ, fun _ h => h⟩) : p := h
def ZBn (h : T_ q p := by
 intro k_
 refine cY ?_
 exact k_.u) := h ⟨k_⟩
def aI (h : T_ q p := by
 intro k_
 refine dO ?_
 exact k_.u) := h ⟨k_⟩
def Qe (h : p := by
 refine jN ?_
 exact E0 U ⟨U, (aD Value.bool (sig_off (t := ⟨cnt, tima, tma, tac, over⟩) I))⟩) : p := h
def Ef (h : p := by
 refine RW (v := _) (tU U U I) U (aD (Value.int .i64) (cn I)) (ZBy ?_)
 exact aZ (fun _ _ => eY U U) ⟨U, yG⟩) : p := h
def ZBr (h : T_ q p := by
 intro k_
 refine DZ U (dG K_ U (fun w hw => line_fn (u.r 0) (u.r 7) (u.r 8) (u.r 9) (hu.look 0) (hu.look 7) (hu.look 8) (hu.look 9) _ _ _ _ u.V u.O hu.bV hu.bO (by rw [hu.lO]; decide) u.line (belowU u) (tLine_len _ _ _ _) (tLine_byts _ _ _ _) w (Ns.of (rowV (aH aE w hw))) (Ns.of (rowO hu (aH aE w hw))))) U jB ?_
 rw [rowU_vals]
 exact k_.u) := h ⟨k_⟩
def yA (h : T_ q p := by
 intro k_
 refine ZA7 ?_
 refine aP K_ (aS (place_fn b _ ha)) ?_
 exact k_.u) := h ⟨k_⟩
def Ak (h : T_ q p := by
 intro k_
 refine RX (eM (l := [P_ A.mb]) U U) U (ZBN fun b0 => ?_)
 revert b0
 exact k_.u) := h ⟨k_⟩
def sB (h : T_ q p := by
 intro k_
 exact RW (cM U U) U aI3 (k_.u)) := h ⟨k_⟩
def ZBv (h : T_ q p := by
 intro k_
 refine jQ ?_
 exact DZ U (bH (l' := cDd ⟨1, 0, r.pc, (nextT K.toaQ7 (⟨(⟨r, ime, false, false, false⟩ : CS), m⟩ : Rn _)).1, (ordT K.toaQ7 (nextT K.toaQ7 (⟨(⟨r, ime, false, false, false⟩ : CS), m⟩ : Rn _)).1 r.pc (nextT K.toaQ7 (⟨(⟨r, ime, false, false, false⟩ : CS), m⟩ : Rn _)).2).1⟩) 1) U xZ (k_.u)) := h ⟨k_⟩
def Nl (h : p := by
 refine pT ?_
 exact aZ (fun w hw => eW U U U (aH (b := b1) aE w hw)) ⟨U, aIY⟩) : p := h
def Lq (h : p := by
 refine pT ?_
 exact aZ (fun w hw => eW U U U (aH (b := b1) aE w hw)) ⟨U, aHZ⟩) : p := h
def ZBy (h : T_ q p := by
 intro k_
 refine eK ?_
 exact k_.u) := h ⟨k_⟩
def Iu (h : T_ q p := by
 intro k_
 refine ZA7 ?_
 exact DW U (gN U U U) U qZ (k_.u)) := h ⟨k_⟩
def Px (h : p := by
 refine pT ?_
 exact aZ (fun w hw => eW U U U (aH (b := b1) aE w hw)) ⟨U, U⟩) : p := h
def kB (h : T_ q p := by
 intro k_
 refine eP ?_
 refine ZAm ?_
 exact k_.u) := h ⟨k_⟩
def ZB2 (h : T_ q p := by
 intro k_
 exact DL U U U (gD (hra _ _ (gJ (j := 334) I)) aL) U (DW (v := (.int .u16 (l.getD 334 0))) U (gN U U U) U (Ie hb4.1 I) (k_.u))) := h ⟨k_⟩
def We (h : T_ q p := by
 intro k_
 exact DL U U U (gD (hra _ _ (gJ (j := 335) I)) aL) U (DW (v := (.int .u16 (l.getD 335 0))) U (gN U U U) U (Ie hb5.1 I) (k_.u))) := h ⟨k_⟩
def zL (h : T_ q p := by
 intro k_
 exact RY (iP (s := 4) (k / 5) U U U I I) U (k_.u)) := h ⟨k_⟩
def Te (h : T_ q p := by
 intro k_
 refine W (bX U U aKu (fun w hw => row_vs hB (aH (b := b0) (l := cBd B) aE w hw))) U (ZA7 ?_)
 exact k_.u) := h ⟨k_⟩
def ZB6 (h : T_ q p := by
 intro k_
 refine DZ U (bH (l' := cHd ⟨(nameH ((l.drop 308).take 15)), ((sortH (l.getD 327 0)).getD (0, false, false)).1, ((sortH (l.getD 327 0)).getD (0, false, false)).2.1, ((sortH (l.getD 327 0)).getD (0, false, false)).2.2, 2 * 2 ^ (l.getD 328 0).toNat, (sizesH.getD (l.getD 329 0).toNat 0), false⟩) 0) U aW (eP ?_)
 exact k_.u) := h ⟨k_⟩
def rS (h : T_ q p := by
 intro k_
 exact RW (nL U U) U vQ (k_.u)) := h ⟨k_⟩
def rU (h : T_ q p := by
 intro k_
 exact RW (Cu U U) U mM (k_.u)) := h ⟨k_⟩
def R9 (h : T_ q p := by
 intro k_
 exact RX (cX (F := []) (A := (b0, J [ad6, v0] 237) :: G0) (R := fun v H => v = .nilIface ∧ ∃ va' G', bM 5 1 va' (i + 1) (txV ((l.take i).map chrH) ++ [.int .u8 63]) G' ∧ H = (b0, J [(P_ b0), va'] 237) :: G') K_ U (fun w hw => bwrite_fn b0 ad6 v0 hA6 i I _ G0 hV0 63 _ w (St.lentV (G := []) hw))) U (k_.u)) := h ⟨k_⟩
def oU (h : T_ q p := by
 intro k_
 refine yP ?_
 refine jL ?_
 exact k_.u) := h ⟨k_⟩
def Zm (h : T_ q p := by
 intro k_
 refine ZA7 ?_
 exact DW (v := (.slice (some ⟨b, 8192, none⟩) u.O.length 160)) U (pC 0 160 U U U U U U M M) U (by rw [hu.lO]; rfl) (k_.u)) := h ⟨k_⟩
def Oo (h : T_ q p := by
 intro k_
 refine ZBE ?_
 exact RX (cX (F := [(b1, J (cBd bdZ) 127)]) (A := [(b0, J (cBd (halfB ({ B with div := 0 } : Bd))) 127)]) (R := fun v H => v = .tuple #[] ∧ H = [(b0, J (cBd (slideB (halfB ({ B with div := 0 } : Bd)))) 127)]) K_ U (dJ (slideB_fn b0 (halfB ({ B with div := 0 } : Bd)) hH))) U (k_.u)) := h ⟨k_⟩
def ZCE (h : T_ q p := by
 intro k_
 simp only [ct, bq]
 exact k_.u) := h ⟨k_⟩
def V9 (h : p := by
 have e9 : errH l = 0 := by unfold errH; rw [ae I, ae oZ]; rw [hs0]; dsimp only; rw [ae I, ae (by simpa using q5)]
 exact aZ (fun w hw => gK U U U (aH (b := b0) (l := cHd (hdH l)) aE w hw) U) ⟨U, by rw [e9, ag rfl]⟩) : p := h
def H8 (h : T_ q p := by
 intro k_
 refine pH ?_
 exact RX (cX (F := [(b0, _)]) (A := (rb, _) :: _) K_ U (dJ (rwords_fn K rb x (h.le I : RunOk K.toaQ8 (bn + 3) x) G0 hG0 o ho))) U (k_.u)) := h ⟨k_⟩
def ZCH (h : T_ q p := by
 intro k_
 have hWL : ((putB k x B).setV (k / 5) { ((putB k x B).v (k / 5)) with len := longest (k / 5) - x % longest (k / 5) }).Wf := hPK.setV _ ⟨sV, hv9.lev, hv9.wait⟩
 have hWO : ((putB k x B).setV (k / 5) { ((putB k x B).v (k / 5)) with on := ((putB k x B).v (k / 5)).on && readyB (k / 5) (putB k x B) }).Wf := hPK.setV _ ⟨hv9.len, hv9.lev, hv9.wait⟩
 revert hWL hWO
 exact k_.u) := h ⟨k_⟩
def ZCI (h : T_ q p := by
 intro k_
 refine mZ [(b0, J (cO o) 95)] [3, 4, 5, 6, 7, 8, 9, 10] (.step true 0 (.step true 1 (.step true 2 (.step true 3 (.step true 4 (.step true 5 (.step true 7 (.step true 8 (.step true 9 (.step false 6 (.step true 10 (.step false 11 .done)))))))))))) U aO aO (fun x hx => Kz) ?_
 refine bA ?_
 exact k_.u) := h ⟨k_⟩
def ZCJ (h : T_ q p := by
 intro k_
 refine W (bF (l' := (((madeP (List.replicate (romS b) 0) prog i)).set (madeAt i) ((prog.getD i 0))).map Z) 0 U U U U U U (len_byte (n := romS b) yY I) (put_byte (l := (madeP (List.replicate (romS b) 0) prog i)) (n := romS b) (prog.getD i 0) yY zG zG)) U (eP ?_)
 exact k_.u) := h ⟨k_⟩
def ZCK (h : T_ q p := by
 intro k_
 exact RW (v := (.int .u8 ((min a b : Nat) : Int))) U U (Do I I) (RX (eQ (z := [.int .u8 0]) (l := ([1, ((min a b : Nat) : Int), 0] : AB).map Z) (ps := [(0, .int .u8 (1)), (1, .int .u8 (((min a b : Nat) : Int))), (2, .int .u8 (0))]) U U U U U U) U (k_.u))) := h ⟨k_⟩
def ZCL (h : T_ q p := by
 intro k_
 refine ZBE ?_
 exact RX (cX (F := []) (A := (b0, J [ad6, v0] 237) :: G0) (R := fun v H => H = [] ∧ v = .string (bs ((l.take i).map chrH))) K_ U (fun w hw => bstring_fn b0 ad6 v0 ((l.take i).map chrH) I G0 (hV0.as hTi.symm U) (fun h => q0 I) _ w (St.lentV (G := []) hw))) U (k_.u)) := h ⟨k_⟩
def oC (h : p := by
 refine ZA7 ?_
 exact E0 U ⟨U, y_h⟩) : p := h
def Jc (h : T_ q p := by
 intro k_
 exact W (bX U U U (fun w hw => rowM_bk (cG hm aL w hw))) U (k_.u)) := h ⟨k_⟩
def E3 (h : T_ q p := by
 intro k_
 refine C3 ?_
 exact DX U (rI (F := [(b0, _), (rb, _)]) (A := G) U K.mW K.cW U (fun w hw => K.dW h.m hG (St.lentV hw) I h.r.a)) U aW (k_.u)) := h ⟨k_⟩
def T0 (h : T_ q p := by
 intro k_
 refine DZ U (dG K_ U (fun w hw => name_fn ba (oa + 308) (c - 308) ((l.drop 308).take 15) I (fun x hx => hb x (di (dh hx))) w (aK.takeK (aK.dropK (cG hra aL w hw) 308) 15))) U jB (ZEG ?_)
 exact k_.u) := h ⟨k_⟩
def ZCQ (h : p := by
 have e9 : effJ K.toaQ7 o x = goto o.n (push K.toaQ7 x.s.r.pc (idles K.toaQ7 1 x)) := by unfold effJ; rw [e7, e8]; simp only [eo, if_false]; simp only [hk]; rfl
 exact EV U (.cons _ aJ) ⟨aD Value.bool e8.symm, G1, fH, nC⟩) : p := h
def pV (h : T_ q p := by
 intro k_
 refine ZA7 ?_
 exact RY (iM U U M) U (k_.u)) := h ⟨k_⟩
def ZCS (h : p := by
 refine iI ?_
 exact aZ (fun w hw => eW U U A0 (aH (b := b1) (l := cBd ((putB k x B).setV (k / 5) { ((putB k x B).v (k / 5)) with on := ((putB k x B).v (k / 5)).on && readyB (k / 5) (putB k x B) })) aE w hw)) ⟨U, aPV⟩) : p := h
def ZCT (h : p := by
 refine iI ?_
 exact aZ (fun w hw => eW U U A0 (aH (b := b1) (l := cBd ((putB k x B).setV (k / 5) { ((putB k x B).v (k / 5)) with on := ((putB k x B).v (k / 5)).on && readyB (k / 5) (putB k x B) })) aE w hw)) ⟨U, aFV⟩) : p := h
def Y2 (h : T_ q p := by
 intro k_
 refine ZAm ?_
 exact W (gY K_ U (fun w hw => next_fn b (oneU u) (hu.one hd) w (St.lentA hw) (show u.line < 154 by (try simp only [al, ah, ci, aq, cr, ar, ne_eq] at *); omega))) U (k_.u)) := h ⟨k_⟩
def Bg (h : T_ q p := by
 intro k_
 exact DX U (eQ U U U U U U) U y_u (k_.u)) := h ⟨k_⟩
def Fj (h : p := by
 refine W (bX U U U Uf) U (pT ?_)
 exact aZ (fun w hw => eW U U U (aH (b := b1) aE w hw)) ⟨U, y_N⟩) : p := h
def ZCX (h : T_ q p := by
 intro k_
 exact DW (v := (.int .i64 ((i + 1 : Nat) : Int))) U U U (aD _ (eX I)) (DW (v := (.slice (some ⟨b, cut1 o (i + 1) c, none⟩) l.length (c - (i + 1)))) U (mB (i + 1) (putP n ++ l).length U U U U U U I I) U aIc (k_.u))) := h ⟨k_⟩
def ZCY (h : T_ q p := by
 intro k_
 exact DY U (iP (s := 160) u.line.toNat U U U I I) U (DZ U (bF (l' := cU { u with P := iO u.P (u.line.toNat * 160) (rowU u) }) 3 U U U U U U (by rw [cU_len hu, eD, rowU_len]; omega) (putU_P hu Jo)) U aW (k_.u))) := h ⟨k_⟩
def ZCZ (h : T_ q p := by
 intro k_
 refine ZBn ?_
 exact RX (cQ K_ U (fun w hw => histD_fn d.b d.hb 32 k (Hs.callsL (g.sts k)) d.ring aBh w (bN (b := d.b) (l := Db.cs d g k) (.tail _ (.head _)) U w hw) (hd.hist.histW hw (fun x hx => .tail _ (.tail _ (.tail _ (bD _ (iK _ hx)))))))) U (k_.u)) := h ⟨k_⟩
def ZCb (h : T_ q p := by
 intro k_
 refine ZAm ?_
 exact RX (cX (F := [(b1, J (cBd bdZ) 127)]) (A := [(b0, J (cBd (putB k x B)) 127)]) (R := fun v H => v = .tuple #[] ∧ H = [(b0, J (cBd (beginB (k / 5) (putB k x B))) 127)]) K_ U (dJ (beginB_fn b0 (putB k x B) hPK (k / 5) I))) U (k_.u)) := h ⟨k_⟩
def Oe (h : p := by
 obtain rfl : i = os.length := by omega
 exact EN aJ ⟨U, _, G0, aPj, aHQ⟩) : p := h
def Zp (h : T_ q p := by
 intro k_
 refine RX (rI (F := [(b0, _), (rb, _)]) (A := G) U K.mR K.cR U (fun w hw => K.dR h.m hG (St.lentV hw) I)) U ?_
 rintro _ _ ⟨G0, ⟨rfl, hG0⟩, rfl⟩
 revert G0 hG0
 exact k_.u) := h ⟨k_⟩
def ZCe (h : p := by
 have e9 : errH l = 7 := by unfold errH; rw [ae I, ae oZ]; rw [hs0]; dsimp only; rw [ag I]
 exact aZ (fun w hw => gK U U U (aH (b := b0) (l := cHd zHd) aE w hw) U) ⟨U, La⟩) : p := h
def Yl (h : T_ q p := by
 intro k_
 exact DX U (aAD (n := (hdH rom).ram.toNat) (z := .int .u8 0) (vnf_int hram.1) (vnf_int hram.1) I U U U U) U aIK (k_.u)) := h ⟨k_⟩
def Nt (h : p := by
 refine iG ?_
 exact EV U (bj _ _) ⟨aD _ Ju, U⟩) : p := h
def ZCi (h : T_ q p := by
 intro k_
 refine ZAm ?_
 refine kG (L' := [(b0, J (cCp (tickCp (cyc2 (cyc1 m)).cp)) 121), (A.mb, J (cMm A acc (cyc5 (cyc4 (cyc3 (cyc2 (cyc1 m)))))) 134), (A.ub, J (cU (cyc5 (cyc4 (cyc3 (cyc2 (cyc1 m))))).u) 172)]) (fun _ h => h.as (by rw [cyc5_u]; rfl)) ?_
 exact k_.u) := h ⟨k_⟩
def ZCj (h : T_ q p := by
 intro k_
 exact RW (v := (.int .i64 (((n / 128 ^ i) % 128 * 128 ^ i : Nat) : Int))) (iM U U I) U (aD _ (seven_shl hi (io _ M))) (RW (v := (.int .i64 ((n % 128 ^ (i + 1) : Nat) : Int))) (dM U U) U (aD _ (seven_or hi)) (k_.u))) := h ⟨k_⟩
def Bf (h : p := by
 have hw9 : (putU u (numU a) x).Wf := (hu.set hx aM).off _
 refine cZ (H' := [(b, J (cU (putU u (numU a) x)) 172)]) (fun _ h => h.as aA8) ?_
 refine W (gY K_ U (kD (ask_fn b (putU u (numU a) x) hw9))) U (ZA7 ?_)
 exact EV U aJ ⟨aD _ (wv_R _ hno aM).symm, aIB⟩) : p := h
def Xe (h : T_ q p := by
 intro k_
 refine Cs fun e7 => ?_
 have e8 : metJ o x = true := by unfold metJ; rw [(ap I : decide (23 ≤ o.kind ∧ o.kind ≤ 26) = true)]; simpa using q0
 revert e7 e8
 exact k_.u) := h ⟨k_⟩
def oH (h : T_ q p := by
 intro k_
 refine jQ ?_
 refine aI ?_
 exact k_.u) := h ⟨k_⟩
def Pv (h : T_ q p := by
 intro k_
 refine ZDG ?_
 refine DR [5, 6, 7, 8] (bW [0, 2, 4, 6, 8, 10, 12, 14, 16, 18, 20, 22]) ?_
 exact k_.u) := h ⟨k_⟩
def ZCo (h : T_ q p := by
 intro k_
 exact W (bX U U Hb (aH (b := b0) (l := cBd (beginB (k / 5) (putB k x B))) aE)) U (W (bF (l' := cBd (beginB (k / 5) (putB k x B))) 0 U U U J7 (ones_cBd _) U aOo (putZ (hPK.beginW (k / 5)).ln)) U (k_.u))) := h ⟨k_⟩
def ZCp (h : T_ q p := by
 intro k_
 refine mZ [(b0, J [P_ A.mb] 318)] [1, 2, 3, 4] (.step true 0 (.step true 1 (.step true 2 (.step true 3 (.step false 4 (.step false 5 (.step true 6 .done))))))) U aO aO (fun x hx => M0) ?_
 refine gL U U U U E1 U U ?_
 exact k_.u) := h ⟨k_⟩
def Xu (h : T_ q p := by
 intro k_
 exact W (aX U U (bN aE (show (cU (oneU u))[8365]? = some (.int .i64 (u.dot + 1)) from cU_dot (hu.one hd)))) U (k_.u)) := h ⟨k_⟩
def Nw (h : T_ q p := by
 intro k_
 refine aI ?_
 refine DR [4, 5] (bW [0, 2, 4, 6, 8, 11, 13, 14, 16, 19, 20, 22, 24, 26]) ?_
 exact k_.u) := h ⟨k_⟩
def ZCs (h : T_ q p := by
 intro k_
 refine ZBE ?_
 refine mZ [(b0, J (cO o) 95)] [3, 4, 5, 6, 7] (.step true 0 (.step true 1 (.step true 2 (.step true 3 (.step true 4 (.step true 5 (.step false 6 (.step true 7 (.step false 8 .done))))))))) U aO aO (fun x hx => Kz) ?_
 exact k_.u) := h ⟨k_⟩
def ZCt (h : T_ q p := by
 intro k_
 exact RW (v := (.int .u8 (((n / 128 ^ i) % 128 : Nat) : Int))) (tU U U M) U (aD _ ((cn I).trans I)) (RW (v := (.int .i64 (((n / 128 ^ i) % 128 : Nat) : Int))) U U (tO I I) (k_.u))) := h ⟨k_⟩
def B9 (h : p := by
 refine pT ?_
 exact aZ (fun w hw => eW U U U (aH (b := b1) aE w hw)) ⟨U, aGa⟩) : p := h
def Y6 (h : T_ q p := by
 intro k_
 exact RY (eB (n := romS b) (333) U U U U I) U (W (bF (l' := (madeI kind b ram prog).map Z) 0 U U U U U U (len_byte hlZ I) (put_byte (l := madeZ kind b ram prog) _ hlZ I I)) U (k_.u))) := h ⟨k_⟩
def ZCw (h : T_ q p := by
 intro k_
 exact RW (v := (.int .u8 (a : Int))) U U (Do I I) (RX (eQ (z := [.int .u8 0]) (l := ([1, a, 0] : AB).map Z) (ps := [(0, .int .u8 (1)), (1, .int .u8 (a)), (2, .int .u8 (0))]) U U U U U U) U (k_.u))) := h ⟨k_⟩
def ZCx (h : T_ q p := by
 intro k_
 exact RW (v := (.int .u8 (b : Int))) U U (Do I I) (RX (eQ (z := [.int .u8 0]) (l := ([2, b, 0] : AB).map Z) (ps := [(0, .int .u8 (2)), (1, .int .u8 (b)), (2, .int .u8 (0))]) U U U U U U) U (k_.u))) := h ⟨k_⟩
def pA (h : T_ q p := by
 intro k_
 refine jQ ?_
 refine ZBy ?_
 exact k_.u) := h ⟨k_⟩
def Sk (h : p := by
 refine ZBy ?_
 exact aZ (fun _ _ => eY U U) ⟨U, _, U⟩) : p := h
def ZC0 (h : T_ q p := by
 intro k_
 refine W (bX U U U (fun w hw => rowM_ck (m := (cyc5 (cyc4 (cyc3 (cyc2 (cyc1 m)))))) (acc := acc) (aH (b := A.mb) aE w hw))) U (aP K_ (aS (tickCk_fn (cyc5 (cyc4 (cyc3 (cyc2 (cyc1 m))))).ck q4.ck)) ?_)
 exact k_.u) := h ⟨k_⟩
def Xx (h : T_ q p := by
 intro k_
 refine aP K_ (fun w hw => mach_fn d.b d.q.A.mb w (bN (b := d.b) (l := Db.cs d g k) (.tail _ (.head _)) U w hw)) ?_
 exact k_.u) := h ⟨k_⟩
def ZC2 (h : T_ q p := by
 intro k_
 exact RX (gG U) U (k_.u)) := h ⟨k_⟩
def Nh (h : T_ q p := by
 intro k_
 refine ZAm ?_
 exact RX (eM (l := [.int .u8 page, .int .i64 left]) U U) U (k_.u)) := h ⟨k_⟩
def ZC4 (h : T_ q p := by
 intro k_
 refine W (bX U U (by rw [cBd_len q2.bd]; rfl) (fun w hw => rowM_bd (m := (cyc3 (cyc2 (cyc1 m)))) (acc := acc) (aH (b := A.mb) aE w hw))) U (aP K_ (aS (tickB_fn (cyc3 (cyc2 (cyc1 m))).bd q2.bd)) ?_)
 exact k_.u) := h ⟨k_⟩
def Qu (h : T_ q p := by
 intro k_
 have ho : turnO k a = (a % 2 == 1) := by unfold turnO; rw [hk]; rfl
 rw [x16 (x := a % 2) I, or_zc]
 revert ho
 exact k_.u) := h ⟨k_⟩
def Vp (h : p := by
 have hnv : 0 = stepV u := by unfold stepV; rw [ae aM]
 exact EV U aJ ⟨aD _ Ya, Vx⟩) : p := h
def Zs (h : p := by
 refine aI ?_
 exact EV U aJ ⟨aD Value.bool (ap z0).symm, by rw [ag z0]; rfl⟩) : p := h
def ZC8 (h : p := by
 refine jF ?_
 exact ⟨(i + 1, va0, G1, (P_ b0)), ⟨aR, fun j hj' => Xl, .inr U, hV1.as tV aQu, fun h => absurd h (Nat.succ_ne_zero _)⟩, aR, .cons U .nil, bJ, fun _ h => h⟩) : p := h
def Tq (h : T_ q p := by
 intro k_
 refine W (bF (l' := cBd (putB k x B)) 0 U U U Cj (ones_cBd _) U aMw (putZ hPK)) U (iI ?_)
 exact k_.u) := h ⟨k_⟩
def yW (h : T_ q p := by
 intro k_
 exact W (bX U U U y_Z) U (k_.u)) := h ⟨k_⟩
def Sf (h : T_ q p := by
 intro k_
 refine ZAm ?_
 exact RX (eM (l := [.int .u8 sel, .int .u8 down]) U U) U (k_.u)) := h ⟨k_⟩
def Z8 (h : T_ q p := by
 intro k_
 refine mZ [(b0, J (cO o) 95)] [3, 4, 5, 6] (.step true 0 (.step true 1 (.step true 2 (.step true 3 (.step true 4 (.step true 5 (.step false 6 (.step false 7 .done)))))))) U aO aO (fun x hx => Kz) ?_
 refine aI ?_
 exact k_.u) := h ⟨k_⟩
def I1 (h : T_ q p := by
 intro k_
 exact DZ U (dG K_ U (fun w hw => rpair_fn K rb x.s h.r w (aH (l := cN K x.s) aE w hw) o.x)) U jB (k_.u)) := h ⟨k_⟩
def Wg (h : T_ q p := by
 intro k_
 refine W (aX U U (cB h2 aL)) U (aP K_ (fun w hw => machM_fn b w (cB h1 aL w hw)) ?_)
 exact k_.u) := h ⟨k_⟩
def I5 (h : p := by
 refine bA ?_
 exact aZ (fun _ _ => eY U U) ⟨_, [], [], U, .nil, U, U⟩) : p := h
def ZDG (h : T_ q p := by
 intro k_
 refine gF ?_
 exact k_.u) := h ⟨k_⟩
def Lv (h : T_ q p := by
 intro k_
 refine gL U U U U (kN (b := b0) (l := cGs g) aE) U U ?_
 exact k_.u) := h ⟨k_⟩
def rB (h : T_ q p := by
 intro k_
 refine bA ?_
 refine jM ?_
 exact k_.u) := h ⟨k_⟩
def J9 (h : T_ q p := by
 intro k_
 refine ZBE ?_
 exact RW (v := (.int .u8 (x % 256))) (gN U U U) U (aD _ ((nQ _).trans I)) (k_.u)) := h ⟨k_⟩
def Fw (h : T_ q p := by
 intro k_
 refine ZBE ?_
 refine aP K_ (aS (flagA_fn 32 _)) ?_
 exact k_.u) := h ⟨k_⟩
def ZDL (h : p := by
 subst hcs
 exact ⟨_, fun _ h => St.fl [[_], [_], [_], GO, sH sb d g k] [1, 3, 4] U h, iU (fun _ _ => eY U U) aJ ⟨_, _, U, hVo.as N8 N8, U⟩⟩) : p := h
def Ph (h : T_ q p := by
 intro k_
 refine DW U (iV U U M) U (qC 256 M M) (vW ?_)
 exact k_.u) := h ⟨k_⟩
def Zx (h : T_ q p := by
 intro k_
 exact W (bX U U U (fun w hw => aK.left (aK.left (aH (l := cN K x.s) aE w hw)))) U (k_.u)) := h ⟨k_⟩
def My (h : T_ q p := by
 intro k_
 refine ZDG ?_
 exact W (aX U U (bN aE (cU_sig hu.ask))) U (k_.u)) := h ⟨k_⟩
def Om (h : p := by
 obtain rfl : i = 4 := by omega
 exact E0 U ⟨U, aKr⟩) : p := h
def F7 (h : p := by
 refine iG ?_
 exact E0 U ⟨U, (aD Value.bool Eg)⟩) : p := h
def ZDR (h : p := by
 refine KL (fun q3 z3 => ?_) (fun q3 z3 => ?_)
 ·refine ZA7 ?_
  refine KL (fun q4 z4 => ?_) (fun q4 z4 => ?_)
  ·exact ZE7
  refine ZDG ?_
  exact E0 U ⟨U, (aD Value.bool Eg)⟩
 exact F7) : p := h
def U4 (h : T_ q p := by
 intro k_
 refine ZA7 ?_
 exact W (bF (l' := cMm A acc { (cyc5 (cyc4 (cyc3 (cyc2 (cyc1 m))))) with ck := tickCk (cyc5 (cyc4 (cyc3 (cyc2 (cyc1 m))))).ck }) 1 U U U U U U aO8 (putM_ck _)) U (k_.u)) := h ⟨k_⟩
def Pj (h : T_ q p := by
 intro k_
 refine ZBQ ?_
 simp only [ct, bq, aw]
 exact k_.u) := h ⟨k_⟩
def oS (h : T_ q p := by
 intro k_
 refine gZ ?_
 refine ZA7 ?_
 exact k_.u) := h ⟨k_⟩
def nD (h : T_ q p := by
 intro k_
 refine ZBE ?_
 refine fB ?_
 exact k_.u) := h ⟨k_⟩
def ZDW (h : p := by
 refine iI ?_
 exact aZ (fun w hw => eW U U Gw (aH (b := b1) (l := cBd B) aE w hw)) ⟨U, by rw [show writeBd n x B = B from ag I]⟩) : p := h
def Fu (h : T_ q p := by
 intro k_
 refine DR [] (bW [0, 2, 4, 6, 8, 10, 12, 14]) ?_
 exact k_.u) := h ⟨k_⟩
def Ml (h : T_ q p := by
 intro k_
 refine ZBE ?_
 refine ⟨_, fun _ h => h.perm (List.Perm.swap _ _ _), ?_⟩
 exact k_.u) := h ⟨k_⟩
def K6 (h : T_ q p := by
 intro k_
 exact RY zA U (W (aX U U (cB (hr _ _ (cBd_r hB (j := 0) M)) aL)) U (k_.u))) := h ⟨k_⟩
def Yr (h : T_ q p := by
 intro k_
 refine ZAm ?_
 exact W (aX U U (bN (v := .bool false) aE ((cBd_on hB).trans aFp))) U (k_.u)) := h ⟨k_⟩
def rT (h : T_ q p := by
 intro k_
 refine jQ ?_
 refine ZAm ?_
 exact k_.u) := h ⟨k_⟩
def F6 (h : T_ q p := by
 intro k_
 refine W (dG K_ U (fun w hw => peek_fn b u hu w (cG hr aL w hw) _ ha)) U (ZA7 ?_)
 exact k_.u) := h ⟨k_⟩
def xU (h : T_ q p := by
 intro k_
 exact W (bX U U U y_R) U (k_.u)) := h ⟨k_⟩
def Zh (h : T_ q p := by
 intro k_
 refine ZAm ?_
 exact W (aX U U (bN (v := .bool true) aE ((cBd_on hB).trans aFp))) U (k_.u)) := h ⟨k_⟩
def ZDf (h : T_ q p := by
 intro k_
 refine ZA7 ?_
 exact W (bF (l' := cMm A acc (cyc4 (cyc3 (cyc2 (cyc1 m))))) 1 U U U (by rw [cBd_len q2.bd.tick.ln]; rfl) (ones_cBd _) U aHz (putM_bd q2.ln q2.bd.tick.ln)) U (k_.u)) := h ⟨k_⟩
def Ka (h : T_ q p := by
 intro k_
 refine ZAm ?_
 exact RX (eM (l := cR r) U U) U (k_.u)) := h ⟨k_⟩
def Io (h : T_ q p := by
 intro k_
 exact RW (iV U U M) U (qC 2 M M) (k_.u)) := h ⟨k_⟩
def Jz (h : T_ q p := by
 intro k_
 refine ZAm ?_
 exact RX (eM (l := cO o) U U) U (k_.u)) := h ⟨k_⟩
def Qy (h : T_ q p := by
 intro k_
 refine Bu ?_
 exact W (aX U U (cB aGC (hpn _ U))) U (k_.u)) := h ⟨k_⟩
def S6 (h : T_ q p := by
 intro k_
 refine ZBn ?_
 exact W (aX U U (bN (v := .bool (cyc5 (cyc4 (cyc3 (cyc2 (cyc1 m))))).hd.clock) aE (get_mid (m := (cyc5 (cyc4 (cyc3 (cyc2 (cyc1 m)))))) q4.ln (j := 8) U))) U (k_.u)) := h ⟨k_⟩
def pF (h : T_ q p := by
 intro k_
 refine oJ ?_
 refine ZBy ?_
 exact k_.u) := h ⟨k_⟩
def Y4 (h : T_ q p := by
 intro k_
 refine ZA7 ?_
 refine DR [5, 6, 7, 8, 9, 10, 11, 12, 13, 14, 15, 16, 17, 18, 19, 20, 21] (bW [0, 2, 4, 6, 8, 10, 12, 14, 16, 18, 20, 22, 24, 26, 28, 30, 32, 34, 36, 40, 42, 39, 44, 47]) ?_
 exact k_.u) := h ⟨k_⟩
def Pa (h : p := by
 refine iG ?_
 exact ⟨.cons (aD Value.bool Yn) .nil, bJ, fun _ h => h⟩) : p := h
def K0 (h : T_ q p := by
 intro k_
 refine Bu ?_
 exact W (aX U U (cB (hr _ _ (gJ (l := l) (j := i) I)) aL)) U (k_.u)) := h ⟨k_⟩
def Bh (h : p := by
 refine qA ?_
 refine ZAm ?_
 refine qA ?_
 refine bZ ?_
 exact RW (v := (.int .i64 (bankB a ⟨kind, banks, ram, on, mode, low, high, last⟩))) (tU U U I) U (aD (Value.int .i64) y_f) (fN)) : p := h
def ZDt (h : T_ q p := by
 intro k_
 refine bZ ?_
 exact W (bH (l' := cN K { (push K.toaQ7 x.s.r.pc (idles K.toaQ7 1 x)).s with r := { (push K.toaQ7 x.s.r.pc (idles K.toaQ7 1 x)).s.r with pc := o.n } }) 1) U (k_.u)) := h ⟨k_⟩
def Ia (h : T_ q p := by
 intro k_
 refine RS ?_
 exact W (bH (l' := cHd zHd) 2) U (k_.u)) := h ⟨k_⟩
def Vd (h : T_ q p := by
 intro k_
 refine pH ?_
 refine aP K_ (aS (sig_fn ⟨cnt, tima, tma, tac, over⟩ ⟨k1, k2, k3, k4⟩)) ?_
 exact k_.u) := h ⟨k_⟩
def He (h : T_ q p := by
 intro k_
 refine gL U U U U aOZ U U ?_
 exact k_.u) := h ⟨k_⟩
def Q0 (h : T_ q p := by
 intro k_
 refine kB ?_
 exact W (bH (l' := [.int .i64 cap, .pointer none, .pointer none, .int .u64 0, c4, .pointer none, .map none, pv, wv, .int .u32 asked, .int .u64 done, tab]) 0) U (k_.u)) := h ⟨k_⟩
def ZDy (h : p := by
 have hs9 : putU u (numU a) x = { u with R := u.R.set (numU a).toNat x } := by
  unfold putU; rw [set_n aM aM]; exact off_no tN
 exact Bf) : p := h
def Vb (h : p := by
 refine aI ?_
 exact EV U (bj _ _) ⟨aD _ Ju, U⟩) : p := h
def I2 (h : p := by
 refine jF ?_
 exact ⟨i + 1, aR, aR, .cons U .nil, bJ, fun _ h => h⟩) : p := h
def mY (h : T_ q p := by
 intro k_
 refine dE ?_
 refine ZA7 ?_
 exact k_.u) := h ⟨k_⟩
def Jw (h : T_ q p := by
 intro k_
 exact DL U U U (eN aE (cU_line hu)) U (k_.u)) := h ⟨k_⟩
def ZD3 (h : p := by
 have hs9 : putU u (numU a) x = { u with R := u.R.set 1 (aQ .u8 x 120) } := by
  unfold putU; rw [set_1 aM]; exact off_no tN
 exact Bf) : p := h
def ZD4 (h : p := by
 refine aI ?_
 exact iU (fun _ _ => eY U U) (cj _ _) ⟨_, G0, [], U, hV0, U, by rw [aw]⟩) : p := h
def ZD5 (h : T_ q p := by
 intro k_
 refine ZAm ?_
 have hh8 : (halfB ({ B with div := 0 } : Bd)) = (beatB ({ B with div := 0 } : Bd)) := by unfold beatB; rw [ae (show ¬ (B.step = 2 ∨ B.step = 6) by omega), ae (show ¬ B.step = 7 by omega)]
 revert hh8
 exact k_.u) := h ⟨k_⟩
def Rx (h : p := by
 have e9 : effJ K.toaQ7 o x = x := by unfold effJ; rw [e7, e8]; rfl
 exact EV U (.cons _ aJ) ⟨aD Value.bool e8.symm, G, fH, rO⟩) : p := h
def vP (h : T_ q p := by
 intro k_
 refine ZBN fun b0 => ?_
 refine lE fun b1 => ?_
 revert b0 b1
 exact k_.u) := h ⟨k_⟩
def ZD8 (h : T_ q p := by
 intro k_
 refine kB ?_
 exact W (bH (l' := [.int .i64 cap, .pointer none, .pointer none, .int .u64 0, c4, .pointer none, c6, pv, wv, .int .u32 asked, .int .u64 done, tab]) 0) U (k_.u)) := h ⟨k_⟩
def K3 (h : T_ q p := by
 intro k_
 rintro _ _ ⟨_, ⟨rfl, va0, G1, hV1, rfl⟩, rfl⟩
 refine cZ (fun _ h => h) (H' := (b0, J [(P_ b0), va0] 237) :: G1) ?_
 revert va0 G1 hV1
 exact k_.u) := h ⟨k_⟩
def ZEA (h : p := by
 refine iJ ?_
 exact aZ (fun w hw => gK U U U (aH (b := b1) aE w hw) U) ⟨U, _, by rw [setPR_no I]; rfl⟩) : p := h
def ZEB (h : T_ q p := by
 intro k_
 refine ZDG ?_
 exact W (dG K_ U (fun w hw => Tm.last_fn lb (capT cap) ms I w (hL.line.lineW hw (fun x hx => .tail _ (.tail _ (bD _ (bD _ (iK _ hx)))))))) U (k_.u)) := h ⟨k_⟩
def ZEC (h : T_ q p := by
 intro k_
 refine jC (H' := (b1, J ((romQ g.q).map Z) 5) :: (Gp ++ [(b0, J (cGs g) 25)])) (fun _ h => St.fl [Gp, [(b1, J ((romQ g.q).map Z) 5)], [_]] [1, 0, 2] U h) ?_
 exact k_.u) := h ⟨k_⟩
def Km (h : p := by
 refine ZBE ?_
 exact EN aJ ⟨U, U⟩) : p := h
def ZEE (h : p := by
 have hz : oth (a.drop k) (b.drop k) = 0 := oth_stop I
 exact E0 U ⟨U, (aD (fun n : Nat => Value.int .i64 (n : Int)) I)⟩) : p := h
def ZEF (h : p := by
 refine ZA7 ?_
 exact aZ (fun w hw => gK U U U (aH (b := b0) (l := cSt 0 0 0 false) aE w hw) U) ⟨U, U⟩) : p := h
def ZEG (h : T_ q p := by
 intro k_
 exact DY U (rV U U U U) U (k_.u)) := h ⟨k_⟩
def Lh (h : T_ q p := by
 intro k_
 refine ZAm ?_
 refine aP K_ (aS (opens_fn x hx)) ?_
 exact k_.u) := h ⟨k_⟩
def ZEI (h : T_ q p := by
 intro k_
 refine kG (L' := (b0, J [.int .u64 (FK.at Z.1 oi)] 38) :: (lb, J [v0, .bool r] 144) :: (G0 ++ [(pb, J Z.1 T)])) (fun _ h => h.as (by rw [e8])) ?_
 refine ZAm ?_
 exact k_.u) := h ⟨k_⟩
def ZEJ (h : p := by
 have hnm : n % 128 ^ (i + 1) = n := Nat.mod_eq_of_lt aKx
 exact aZ (fun _ _ => aBt U U U) ⟨U, by rw [hnm, ht]⟩) : p := h
def uC (h : T_ q p := by
 intro k_
 refine bA ?_
 refine oU ?_
 exact k_.u) := h ⟨k_⟩
def A5 (h : p := by
 refine ZBy ?_
 exact aZ (fun _ _ => eY U U) ⟨U, U⟩) : p := h
def U7 (h : T_ q p := by
 intro k_
 refine cL ?_
 exact RX (cX (F := [(b0, _)]) (A := (rb, _) :: _) K_ U (dJ (rpush_fn K rb (idles K.toaQ7 1 x) (h.idleK 1) G0 hG0 x.s.r.pc h.r.pc))) U (k_.u)) := h ⟨k_⟩
def ZEN (h : T_ q p := by
 intro k_
 refine DZ U (dG K_ U (fun w hw => tline_fn _ _ u.V hu.bV (viewU u) (viewU_ok hu) u.line u.own w (Ns.of (rowV (aH aE w hw))))) U aW (tB ?_)
 exact k_.u) := h ⟨k_⟩
def Dm (h : T_ q p := by
 intro k_
 exact RW (cM U U) U aOb (k_.u)) := h ⟨k_⟩
def M7 (h : T_ q p := by
 intro k_
 exact W (aX U U (bN (b := d.b) (l := Db.cs d g k) (.head _) tV)) U (k_.u)) := h ⟨k_⟩
def ZEQ (h : T_ q p := by
 intro k_
 refine kB ?_
 exact W (bH (l' := [.int .i64 cap, .pointer none, .pointer none, .int .u64 0, c4, c5, c6, pv, wv, .int .u32 asked, .int .u64 done, tab]) 0) U (k_.u)) := h ⟨k_⟩
def ZER (h : T_ q p := by
 intro k_
 refine DZ U (dG K_ U (fun w hw => sum_fn (some ⟨ba, oa, none⟩) c l hl hb w (hB.later0 hw))) U jB ?_
 rw [ae (show ¬ l.length < 336 by omega)]
 exact k_.u) := h ⟨k_⟩
def ZES (h : T_ q p := by
 intro k_
 refine pH ?_
 exact RX (cX (F := [(b0, _)]) (A := (rb, _) :: _) K_ U (dJ (rplaces_fn K rb x (h.le I : RunOk K.toaQ8 (bn + 1) x) G1 hG1 o ho))) U (k_.u)) := h ⟨k_⟩
def ZET (h : T_ q p := by
 intro k_
 refine DZ U (aAM (k := .u8) (l := sortE) (c := 19) (b := b2) (z := .agg (cSrt (0, false, false)).toArray) U U U U aE) U aW ?_
 rw [sort_ask]
 exact k_.u) := h ⟨k_⟩
def ZEU (h : T_ q p := by
 intro k_
 refine ZBy ?_
 exact RW (v := (.int .i64 ((k / 5 : Nat) : Int))) U U ((aKO I (show _ < (9223372036854775808 : Int) by omega) M).trans (aD _ I)) (k_.u)) := h ⟨k_⟩
def El (h : T_ q p := by
 intro k_
 exact RW (gN U U U) U qZ (k_.u)) := h ⟨k_⟩
def Zj (h : T_ q p := by
 intro k_
 exact W (aX U U (cB (hm _ _ (get_mid h.ln (j := 15) U)) aL)) U (k_.u)) := h ⟨k_⟩
def Sr (h : T_ q p := by
 intro k_
 refine Iu ?_
 exact DW U (iM U U M) U Wz (k_.u)) := h ⟨k_⟩
def Li (h : T_ q p := by
 intro k_
 exact RX (eQ U U U U U U) U (k_.u)) := h ⟨k_⟩
def rQ (h : T_ q p := by
 intro k_
 refine dE ?_
 refine aI ?_
 exact k_.u) := h ⟨k_⟩
def sG (h : T_ q p := by
 intro k_
 refine kL ?_
 refine uM ?_
 exact k_.u) := h ⟨k_⟩
def ZEb (h : T_ q p := by
 intro k_
 refine kG (L' := [(b1, J (cBd bdZ) 127), (b0, J (cBd (halfB ({ B with div := 0 } : Bd))) 127)]) (fun w h => h.as (by rw [← hh9])) ?_
 refine ZAm ?_
 exact k_.u) := h ⟨k_⟩
def I0 (h : T_ q p := by
 intro k_
 have ho : turnO k a = (a / 128 == 1) := by unfold turnO; rw [hk]; rfl
 rw [x16 (x := a / 128) I, or_zc]
 revert ho
 exact k_.u) := h ⟨k_⟩
def T9 (h : p := by
 try simp only [ct, bq, aw, ak, bf]
 refine ZBE ?_
 exact ⟨_, fun _ h => h.sub (.cons_cons _ (.cons _ aJ)), by trivial, ⟨i + 1, _, G4⟩, ⟨aB0, by show i + 1 ≤ 10; omega, hV2.as (aD List.length hout) (aD (List.map Z) hout)⟩, U, fun _ h => h⟩) : p := h
def Z4 (h : T_ q p := by
 intro k_
 refine DR [] (bW [0, 2, 4, 6, 8, 10, 12, 14, 16, 18, 20, 22, 24, 26, 28, 30, 32, 34, 36, 38, 40, 42, 44, 46, 48, 50, 52, 54, 57, 59]) ?_
 refine aNp ?_
 exact k_.u) := h ⟨k_⟩
def X2 (h : T_ q p := by
 intro k_
 exact RY (eB (n := prog.length) (i) U U U U I) U (W (aX U U (cB (hra _ _ (gJ (j := i) I)) aL)) U (k_.u))) := h ⟨k_⟩
def Ut (h : T_ q p := by
 intro k_
 refine ZBE ?_
 refine aP K_ (aS (atB_fn m.bk h.bk a ha)) ?_
 exact k_.u) := h ⟨k_⟩
def X7 (h : T_ q p := by
 intro k_
 refine kB ?_
 exact W (bH (l' := [.int .i64 cap, .pointer none, .pointer none, c3, c4, c5, c6, pv, wv, .int .u32 asked, .int .u64 done, tab]) 0) U (k_.u)) := h ⟨k_⟩
def Nm (h : T_ q p := by
 intro k_
 refine RW (v := _) (cM U U) U U (ZA7 ?_)
 exact k_.u) := h ⟨k_⟩
def Pw (h : T_ q p := by
 intro k_
 refine ZAm ?_
 exact RX (eM (l := cBd B) U U) U (k_.u)) := h ⟨k_⟩
def ZEk (h : p := by
 refine ZBE ?_
 exact ⟨b3, trivial, .cons U .nil, bJ, fun _ h => h.sub (.cons_cons _ (.cons _ (.cons _ aJ)))⟩) : p := h
def ZEl (h : T_ q p := by
 intro k_
 refine ZB2 ?_
 exact DW (v := (.int .u16 (l.getD 334 0 * 256))) U (iM U U M) U (Bb 256 U I (show _ < (65536 : Int) by omega)) (k_.u)) := h ⟨k_⟩
def R0 (h : p := by
 refine aI ?_
 exact iU (fun _ _ => eY U U) aJ ⟨_, G0, _, U, hV0, ⟨e, he, hT, hde, U⟩, U⟩) : p := h
def Md (h : T_ q p := by
 intro k_
 refine ZAm ?_
 exact RX (eM (l := cGs g) U U) U (k_.u)) := h ⟨k_⟩
def N4 (h : p := by
 refine ZA7 ?_
 exact EV U (du _) ⟨U, U⟩) : p := h
def ZEp (h : T_ q p := by
 intro k_
 exact RX (eQ (z := [.int .u8 0]) (l := ([0, 5] : AB).map Z) (ps := [(0, .int .u8 (0)), (1, .int .u8 (5))]) U U U U U U) U (k_.u)) := h ⟨k_⟩
def ZEq (h : T_ q p := by
 intro k_
 exact W iB U (k_.u)) := h ⟨k_⟩
def ZEr (h : p := by
 refine iJ ?_
 exact aZ (fun w hw => gK U U U (aH (b := b1) aE w hw) U) ⟨U, U⟩) : p := h
def Q4 (h : T_ q p := by
 intro k_
 exact RY (eG k U U U I I) U (W (bF (l' := cBd ((putB k x B))) 1 U U U U U U yV (aM6)) U (k_.u))) := h ⟨k_⟩
def ZEt (h : T_ q p := by
 intro k_
 refine lZ ?_
 exact W (bH (l' := [.int .i64 cap, .pointer none, c2, c3, c4, c5, c6, pv, wv, .int .u32 asked, .int .u64 done, tab]) 0) U (k_.u)) := h ⟨k_⟩
def ZEu (h : p := by
 subst hov
 exact aZ (fun w hw => gK U U U (aH (b := b1) aE w hw) U) ⟨U, U⟩) : p := h
def tE (h : T_ q p := by
 intro k_
 refine pH ?_
 refine pT ?_
 exact k_.u) := h ⟨k_⟩
def ZEw (h : T_ q p := by
 intro k_
 refine aP K_ (aS (zero_fn _)) ?_
 exact k_.u) := h ⟨k_⟩
def sT (h : T_ q p := by
 intro k_
 refine Kq ?_
 refine Kq ?_
 exact k_.u) := h ⟨k_⟩
def tG (h : T_ q p := by
 intro k_
 refine jL ?_
 refine ZDG ?_
 exact k_.u) := h ⟨k_⟩
def ZEz (h : T_ q p := by
 intro k_
 refine aI ?_
 exact W (bF (l' := (pass1 r .bool Z oi).1) 0 U U U U U U hfz.lt (aD Prod.fst (pass1_goes hfz r)).symm) U (k_.u)) := h ⟨k_⟩
def Bo (h : p := by
 refine aI ?_
 exact Bh) : p := h
def ZE1 (h : p := by
 refine KC (fun q4 z4 => ?_) (fun q4 z4 => ?_)
 ·refine ZBy ?_
  refine hY ?_
  refine ZDG ?_
  exact Bh
 exact Bo) : p := h
def ZE2 (h : T_ q p := by
 intro k_
 exact RY (eB n.toNat U U U I I) U (W (aX U U (cB (hr _ _ (gJ (j := n.toNat) I)) aL)) U (k_.u))) := h ⟨k_⟩
def Ql (h : p := by
 refine ZAm ?_
 exact ⟨0 + 1, aR, aR, .cons U (.cons U .nil), bJ, fun _ h => h.sub (.cons _ aJ)⟩) : p := h
def Rq (h : p := by
 refine ZAm ?_
 exact ⟨1 + 1, aR, aR, .cons U (.cons U .nil), bJ, fun _ h => h.sub (.cons _ aJ)⟩) : p := h
def Tx (h : p := by
 refine ZAm ?_
 exact ⟨2 + 1, aR, aR, .cons U (.cons U .nil), bJ, fun _ h => h.sub (.cons _ aJ)⟩) : p := h
def Rj (h : p := by
 refine ZAm ?_
 exact ⟨3 + 1, aR, aR, .cons U (.cons U .nil), bJ, fun _ h => h.sub (.cons _ aJ)⟩) : p := h
def ZE7 (h : p := by
 refine ZDG ?_
 exact E0 U ⟨U, (aD Value.bool Eg)⟩) : p := h
def Mu (h : T_ q p := by
 intro k_
 refine aP K_ (aS (clockB_fn m.bk h.bk)) ?_
 rw [hc9]
 exact k_.u) := h ⟨k_⟩
def K7 (h : p := by
 refine DZ U (bH (l' := [_]) 3) U aW ?_
 try simp only [ct, bq, aw, ak, bf]
 refine ZBE ?_
 exact ⟨_, fun _ h => h.sub (.cons_cons _ (.cons _ aJ)), by trivial, ⟨i + 1, _, G5⟩, ⟨aB0, by show i + 1 ≤ 8; omega, hV3.as (aD List.length hout) (aD (List.map Z) hout)⟩, U, fun _ h => h⟩) : p := h
def ZFB (h : T_ q p := by
 intro k_
 refine ZBE ?_
 refine aP K_ (fun w hw => readyB_fn b0 (putB k x B) hPK w (aH (b := b0) (l := cBd (putB k x B)) aE w hw) (k / 5) I) ?_
 exact k_.u) := h ⟨k_⟩
def Nn (h : T_ q p := by
 intro k_
 refine ZAm ?_
 have hh8 : slideB (halfB ({ B with div := 0 } : Bd)) = (beatB ({ B with div := 0 } : Bd)) := by unfold beatB; rw [ag (show B.step = 2 ∨ B.step = 6 by omega)]
 revert hh8
 exact k_.u) := h ⟨k_⟩
def T7 (h : p := by
 refine RW (v := (.int .u8 (fg 6 (daaL a f) + 96))) (dM U U) U (aD _ (or_96 _)) (ZBn ?_)
 exact ⟨(), trivial, .cons (aD Z Yz) (.cons (aD Z Xc) (.nil)), bJ, fun _ h => h⟩) : p := h
def Mr (h : T_ q p := by
 intro k_
 refine DW U (cM U U) U aQe (ZBn ?_)
 exact k_.u) := h ⟨k_⟩
def Sw (h : T_ q p := by
 intro k_
 refine DR [7, 8, 9, 10, 11] (bW [0, 2, 4, 6, 8, 10, 12, 14, 16, 18, 20, 22, 24, 26, 28, 30, 32]) ?_
 refine ZAm ?_
 exact DW U (cM U U) U aHp (k_.u)) := h ⟨k_⟩
def J2 (h : p := by
 refine aI ?_
 exact E0 U ⟨U, y_h⟩) : p := h
def ZFH (h : p := by
 refine KC (fun q8 z8 => ?_) (fun q8 z8 => ?_)
 ·refine ZBy ?_
  refine RW (nA U U) U qZ (ZAm ?_)
  exact RY (eG (a - 65408).toNat U U U I I) U (W (aX U U (cB aAf aL)) U oC)
 exact J2) : p := h
def wN (h : T_ q p := by
 intro k_
 refine jQ ?_
 refine ZBE ?_
 exact k_.u) := h ⟨k_⟩
def wJ (h : T_ q p := by
 intro k_
 refine jQ ?_
 refine ZA7 ?_
 exact k_.u) := h ⟨k_⟩
end Go.VV
