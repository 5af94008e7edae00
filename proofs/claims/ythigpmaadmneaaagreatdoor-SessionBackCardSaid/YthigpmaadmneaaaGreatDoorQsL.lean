/- Parts. -/
import Derived.Test.YthigpmaadmneaaaGreatDoorQsK
set_option maxRecDepth 100000
set_option maxHeartbeats 1000000
set_option linter.all false
namespace Go.Proofs.YthigpmaadmneaaaGreatDoor
open Go Go.VV Go.Proofs Go.RowKit Go.Proofs.Tryz
def tD (T : AB) (e : Int) (Post : aF → Prop) (v : AH) (H : aF) : Prop := ∃ vt G A', v = .tuple #[vt, .int .i64 e] ∧ bM 5 1 vt (T).length ((T).map (.int .u8)) G ∧ Post A' ∧ H = G ++ A'
def sW {T : Nat} {a : AC} {c : Nat} {l : AB} {G : aF} (h : bM T 1 (.slice a l.length c) l.length (l.map Z) G) {w0 w : AI} {ms : AE} {H : aF} (hw : St w0 ms H w) (hs : ∀ x ∈ G, x ∈ H) : Ns w .u8 a l := fun h0 => by
 obtain ⟨b, cap, sp, q0, rfl, _⟩ := h.full I
 cases q0
 exact ⟨b, 0, U, (aH (hs _ (.head _)) w hw).left⟩
def aEZ {Γ : dQ} {e : bB} {d : AD} {ty : AJ} {pos : String} {af : AG} {gd : Option (Nat × Bool)} {t : AJ} {x y : AK} {T by_ n : Nat} {v : AH} {xs : AA} {G R : aF} {ts : Array AJ} {kk : AM} {pa : AC} {pc : Nat} {p : AB}
  (hx : ev e x = v) (hy : ev e y = .slice pa p.length pc) (hts : ts = #[t, t]) (hp : wV Γ.P t = some (T, 1, by_)) (hv : bM T 1 v n xs G) (h0 : n ≠ 0)
  (hs : ∀ w, St Γ.w0 Γ.ms (G ++ R) w → Ns w kk pa p) (hn : n + p.length ≤ 1000000) (hb : by_ ≤ 1000) :
  dZ Γ ⟨d, .call ⟨.builtin .append, #[x, y], ts⟩, ty, pos, af, gd⟩ e (G ++ R) (fun v' H' => ∃ G', bM T 1 v' (p.length + n) (xs ++ p.map (.int kk)) G' ∧ H' = G' ++ R) := by
 intro w hw
 rcases d9 p.length with hz | hz
 ·obtain rfl := List.length_eq_zero_iff.1 hz
  obtain ⟨b, cap, sp, rfl, h1, h2, h3, h4⟩ := hv.full h0
  refine tX (D3 (n := n) (n2 := 0) (by rw [hx]; rfl) (by rw [hy]; rfl) U hts hp h3 w hw) ?_
  rintro v' w' ⟨H', hw', ⟨rfl, rfl⟩⟩
  exact ⟨_, hw', ⟨G, hv.as (cg _).symm (aw _).symm, U⟩⟩
 obtain ⟨b, off, rfl, hr⟩ := hs w hw hz
 have key := mO (Γ := Γ) (e := e) (d := d) (ty := ty) (pos := pos) (af := af) (g := gd) (A := []) (G := G) (R := R) (m := p.length) (ys := p.map (.int kk)) hx hy hts hp hv (fun w2 hw2 => by
  obtain ⟨b2, off2, h9, hr2⟩ := hs w2 hw2 hz
  cases h9
  exact .row _ _ _ _ _ (by rw [eD, fq]) hr2) (kE _ _) I (by have := ki hn hb; omega)
 refine tX (key w hw) ?_
 rintro v' w' ⟨H', hw', ⟨G', hV, _, rfl⟩⟩
 exact ⟨_, hw', ⟨G', hV.as (il _ _) U, U⟩⟩
def aB6 (sb : Nat) (d : Db) (g : Gx) (hg : g.Ok) (k n : Nat) (hf : d.Fine g k n) (bv : AH) (w : AI) (hst : St w ((sH sb d g k).map (·.1)) (sH sb d g k) w) : aG prog 54 [P_ sb, bv] w ((sH sb d g k).map (·.1)) (tD (leB (Gr (g.enc k)) 8) 0 (fun A' => A' = sH sb d g k)) := by
 obtain ⟨hd, hk, hn, hdn⟩ := hf
 have hiv := hd.m.inv (hg.inv k)
 have hrl : d.m.ram.length ≤ 200000 := by rw [hiv.fr.ram]; have := Hj g.rom; omega
 have henc : fM d.m = g.enc k := hd.m.enc
 refine cE func54 hst ?_
 refine iG ?_
 refine Xx ?_
 refine aI ?_
 refine jM ?_
 refine aI ?_
 refine RX (eO (F := [(sb, J (fX d.b) 50), (d.b, J (Db.cs d g k) 76), (d.mp, dL .u64 d.l d.c)]) (A := hM d.q d.m) (G := d.GH ++ (d.GL ++ d.D)) K_ U (fun w h1 _ => (by have h9 := L9 d.q d.m hiv.wf hiv.rg hrl _ w h1; rw [henc] at h9; exact h9))) U ?_
 rintro _ _ ⟨_, ⟨b0, c0, sp0, rfl, hc0, rfl⟩, rfl⟩
 refine cZ (H' := (b0, J ((g.enc k).map Z ++ sp0) 5) :: sH sb d g k) (fun _ h => St.fl [[(sb, J (fX d.b) 50), (d.b, J (Db.cs d g k) 76), (d.mp, dL .u64 d.l d.c)], [(b0, J ((g.enc k).map Z ++ sp0) 5)], hM d.q d.m, d.GH ++ (d.GL ++ d.D)] [1, 0, 2, 3] U h) ?_
 refine W (dG K_ U (fun w hw => aMf (Q_ b0) c0 (g.enc k) (by have := (hg.enc_le k).2; omega) (hg.enc_byts k) w (Ns.of (aH (b := b0) (l := (g.enc k).map Z ++ sp0) (.head _) w hw).left))) U (RX (cQ K_ U (fun w hw => Ij (.slice none 0 0) [] [] .nil (Gr (g.enc k)) 8 M M w (St.refl w))) U ?_)
 rintro v0 _ ⟨G0, hV0, rfl⟩
 obtain ⟨a17, cx1, rfl⟩ := hV0.slice
 refine ZBy ?_
 exact iU (fun _ _ => eY U U) (fi (bj _ _) _) ⟨_, G0, _, U, hV0, U, U⟩
def aBc (sb : Nat) (d : Db) (g : Gx) (hg : g.Ok) (k n : Nat) (hf : d.Fine g k n) (bv : AH) (w : AI) (hst : St w ((sH sb d g k).map (·.1)) (sH sb d g k) w) : aG prog 50 [P_ sb, bv] w ((sH sb d g k).map (·.1)) (tD (zS (Hs.callsL (g.sts k))) 0 (fun A' => A' = sH sb d g k)) :=
 (aKZ sb d g hg k n hf bv w hst).mono fun _ _ ⟨v9, G, h1, h2, h3⟩ => ⟨v9, G, _, h1, h2, rfl, h3⟩
def aBy (sb : Nat) (d : Db) (g : Gx) (hg : g.Ok) (k n : Nat) (hf : d.Fine g k n) (bv : AH) (w : AI) (hst : St w ((sH sb d g k).map (·.1)) (sH sb d g k) w) : aG prog 51 [P_ sb, bv] w ((sH sb d g k).map (·.1)) (tD (Ai ((Hs.lastL (g.sts k) 32).map Hs.recOf)) 0 (fun A' => A' = sH sb d g k)) :=
 (aPW sb d g hg k n hf bv w hst).mono fun _ _ ⟨v9, G, h1, h2, h3⟩ => ⟨v9, G, _, h1, h2, rfl, h3⟩
def yB (k N : Nat) : Int := if k = 0 ∧ 0 < N then 4 else 0
def aF2 (d : Db) (g : Gx) (hg : g.Ok) (k n : Nat) (hf : d.Fine g k n) (N : Nat) (hN : N < 18446744073709551616) (w : AI) (hst : St w ((d.H g k).map (·.1)) (d.H g k) w) : aG prog 80 [P_ d.b, .int .u64 N] w ((d.H g k).map (·.1)) (fun v H => ∃ (e : Db), v = .tuple #[.agg (cSt ((k - min N k : Nat) : Int) (yB k N) 0 false).toArray, .int .i64 0] ∧ Lf g d e (k - min N k) (max n (k - min N k + 1)) (sY d.ms k (k - min N k)) H) := by
 by_cases h : k = 0 ∧ 0 < N
 ·obtain ⟨rfl, q0⟩ := h
  have hlt := hf.lt
  rw [show 0 - min N 0 = 0 by omega, show max n (0 + 1) = n by omega]
  have hs := aAi hf.ok I 0
  refine (aMJ d g n hf N q0 w hst).mono fun v H hv => ⟨d, by rw [show yB 0 N = 4 from ag ⟨rfl, q0⟩]; exact hv.1, hf.ok, .refl d, aR, hv.2⟩
 exact (aJu d g hg k n hf N I hN w hst).mono fun v H ⟨h1, e, h2⟩ => ⟨e, by rw [show yB k N = 0 from ae h]; exact h1, h2⟩
def aLN (d : Db) (g : Gx) (hg : g.Ok) (k n : Nat) (hf : d.Fine g k n) (N : Nat) (hN : N ≤ 5000) (w : AI) (hst : St w ((d.H g k).map (·.1)) (d.H g k) w) : aG prog 78 [P_ d.b, .int .u64 N] w ((d.H g k).map (·.1)) (fun v H => ∃ (e : Db), v = .tuple #[.agg (cSt ((k + N : Nat) : Int) 0 0 false).toArray, .int .i64 0] ∧ Lf g d e (k + N) (max n (k + N + 1)) N H) := by
 have q0 := aML d g hg k n hf N I w hst
 rw [show min N 5000 = N by omega] at q0
 exact q0.mono fun v H ⟨h1, e, h2⟩ => ⟨e, h1, h2⟩
def Ez (sb : Nat) (d : Db) (g : Gx) (j n : Nat) (c : Int) (A' : aF) : Prop := ∃ e, e.Ok g j n ∧ d.To e ∧ e.done = d.done + c ∧ A' = sH sb e g j
def Zy (sb : Nat) (d : Db) (g : Gx) (hg : g.Ok) (k n : Nat) (hf : d.Fine g k n) (N : Nat) (hN : N < 256) (a : AC) (c : Nat) (w : AI) (hB : Ns w .u8 a [(N : Int), 0]) (hnb : ∀ p, a = some p → p.block ∉ ((sH sb d g k).map (·.1))) (hst : St w ((sH sb d g k).map (·.1)) (sH sb d g k) w) : aG prog 37 [P_ sb, .slice a 2 c] w ((sH sb d g k).map (·.1)) (tD (qB (((k + N) : Nat) : Int) 0) 0 (Ez sb d g (k + N) (max n ((k + N) + 1)) (N : Int))) := by
 refine cE func37 hst ?_
 refine Nw ?_
 refine ZBn ?_
 refine DZ U (dG K_ U (fun w hw => aCk)) U jB (DX U (cX (F := [(sb, J (fX d.b) 50)]) (A := d.H g k) K_ U (dJ (aLN d g hg k n hf N I))) U aW ?_)
 rintro _ _ ⟨_, ⟨e, rfl, he, hT, hde, rfl⟩, rfl⟩
 refine jC (H' := sH sb e g (k + N)) (fun _ h => h.as (by unfold sH fX; rw [hT.b]; rfl)) ?_
 refine ZAm ?_
 refine DX U (cQ K_ U (aS (Oj (((k + N) : Nat) : Int) 0 0))) U aW ?_
 rintro _ _ ⟨G0, ⟨v0, rfl, hV0⟩, rfl⟩
 obtain ⟨a15, c0, rfl⟩ := hV0.slice
 exact R0
def aNr (sb : Nat) (d : Db) (g : Gx) (hg : g.Ok) (k n : Nat) (hf : d.Fine g k n) (N : Nat) (hN : N < 256) (a : AC) (c : Nat) (w : AI) (hB : Ns w .u8 a [(N : Int), 0]) (hnb : ∀ p, a = some p → p.block ∉ ((sH sb d g k).map (·.1))) (hst : St w ((sH sb d g k).map (·.1)) (sH sb d g k) w) : aG prog 38 [P_ sb, .slice a 2 c] w ((sH sb d g k).map (·.1)) (tD (qB (((k - min N k) : Nat) : Int) (yB k N)) 0 (Ez sb d g (k - min N k) (max n ((k - min N k) + 1)) (sY d.ms k (k - min N k)))) := by
 refine cE func38 hst ?_
 refine Nw ?_
 refine ZBn ?_
 refine DZ U (dG K_ U (fun w hw => aCk)) U jB (DX U (cX (F := [(sb, J (fX d.b) 50)]) (A := d.H g k) K_ U (dJ (aF2 d g hg k n hf N I))) U aW ?_)
 rintro _ _ ⟨_, ⟨e, rfl, he, hT, hde, rfl⟩, rfl⟩
 refine jC (H' := sH sb e g (k - min N k)) (fun _ h => h.as (by unfold sH fX; rw [hT.b]; rfl)) ?_
 refine ZAm ?_
 refine DX U (cQ K_ U (aS (Oj (((k - min N k) : Nat) : Int) (yB k N) 0))) U aW ?_
 rintro _ _ ⟨G0, ⟨v0, rfl, hV0⟩, rfl⟩
 obtain ⟨a15, c0, rfl⟩ := hV0.slice
 exact R0
def aGp (b : Nat) (N : Int) (w : AI) (h1 : w.cell? ⟨b, 1, none⟩ = some (.pointer none)) : aG prog 78 [P_ b, .int .u64 N] w [] (V_ (.tuple #[.agg (cSt 0 0 0 false).toArray, .int .i64 14])) := by
 refine aT func78 ?_
 refine ZAm ?_
 refine nM fun b0 => ?_
 refine aI ?_
 refine aP K_ (fun w hw => aBQ b w (cB h1 aL w hw)) ?_
 refine ZBn ?_
 refine RS ?_
 refine W (bH (l' := cSt 0 0 0 false) 0) U ?_
 rw [ak]
 exact ZEF
def aLd (b : Nat) (N : Int) (w : AI) (h1 : w.cell? ⟨b, 1, none⟩ = some (.pointer none)) : aG prog 80 [P_ b, .int .u64 N] w [] (V_ (.tuple #[.agg (cSt 0 0 0 false).toArray, .int .i64 14])) := by
 refine aT func80 ?_
 refine ZAm ?_
 refine nM fun b0 => ?_
 refine ZDG ?_
 refine aP K_ (fun w hw => aBQ b w (cB h1 aL w hw)) ?_
 refine aI ?_
 refine RS ?_
 refine W (bH (l' := cSt 0 0 0 false) 0) U ?_
 rw [ak]
 exact ZEF
def aAn (sb b : Nat) (bv : AH) (w : AI) (h2 : w.cell? ⟨sb, 2, none⟩ = some (P_ b)) (h1 : w.cell? ⟨b, 1, none⟩ = some (.pointer none))  : aG prog 54 [P_ sb, bv] w [] (tD [] 14 (fun A' => A' = [])) := by
 refine aT func54 ?_
 refine cL ?_
 refine Wg ?_
 refine aI ?_
 refine iX ?_
 exact I5
def aA6 (sb b : Nat) (bv : AH) (w : AI) (h2 : w.cell? ⟨sb, 2, none⟩ = some (P_ b)) (h1 : w.cell? ⟨b, 1, none⟩ = some (.pointer none))  : aG prog 50 [P_ sb, bv] w [] (tD [] 14 (fun A' => A' = [])) := by
 refine aT func50 ?_
 refine iG ?_
 refine Wg ?_
 refine iX ?_
 exact I5
def N6 (sb b : Nat) (bv : AH) (w : AI) (h2 : w.cell? ⟨sb, 2, none⟩ = some (P_ b)) (h1 : w.cell? ⟨b, 1, none⟩ = some (.pointer none))  : aG prog 51 [P_ sb, bv] w [] (tD [] 14 (fun A' => A' = [])) := by
 refine aT func51 ?_
 refine iG ?_
 refine Wg ?_
 refine iX ?_
 exact I5
def aAg (sb b : Nat) (l : AB) (hl : l.length ≤ 8) (hby : bE l) (a : AC) (c : Nat) (w : AI) (hB : Ns w .u8 a l) (h2 : w.cell? ⟨sb, 2, none⟩ = some (P_ b)) (h1 : w.cell? ⟨b, 1, none⟩ = some (.pointer none))  : aG prog 37 [P_ sb, .slice a l.length c] w [] (tD (qB 0 0) 14 (fun A' => A' = [])) := by
 refine aT func37 ?_
 refine Nw ?_
 refine ZA7 ?_
 refine DL U U U (fun w ⟨_, h9, _⟩ => cB (ms := []) h2 aL w h9) U (ZBE ?_)
 refine DZ U (dG K_ U (fun w hw => snumber_fn a c l hl hby w (hB.later0 hw))) U jB (DZ U (dG K_ U (fun w hw => aGp b _ w (cB h1 aL w hw))) U aW (ZAm ?_))
 refine DX U (cQ K_ U (aS (Oj 0 0 14))) U aW ?_
 rintro _ _ ⟨G0, ⟨v0, rfl, hV0⟩, rfl⟩
 obtain ⟨a15, c0, rfl⟩ := hV0.slice
 exact ZD4
def aOq (sb b : Nat) (l : AB) (hl : l.length ≤ 8) (hby : bE l) (a : AC) (c : Nat) (w : AI) (hB : Ns w .u8 a l) (h2 : w.cell? ⟨sb, 2, none⟩ = some (P_ b)) (h1 : w.cell? ⟨b, 1, none⟩ = some (.pointer none))  : aG prog 38 [P_ sb, .slice a l.length c] w [] (tD (qB 0 0) 14 (fun A' => A' = [])) := by
 refine aT func38 ?_
 refine Nw ?_
 refine ZA7 ?_
 refine DL U U U (fun w ⟨_, h9, _⟩ => cB (ms := []) h2 aL w h9) U (ZBE ?_)
 refine DZ U (dG K_ U (fun w hw => snumber_fn a c l hl hby w (hB.later0 hw))) U jB (DZ U (dG K_ U (fun w hw => aLd b _ w (cB h1 aL w hw))) U aW (ZAm ?_))
 refine DX U (cQ K_ U (aS (Oj 0 0 14))) U aW ?_
 rintro _ _ ⟨G0, ⟨v0, rfl, hV0⟩, rfl⟩
 obtain ⟨a15, c0, rfl⟩ := hV0.slice
 exact ZD4
def aB1 : List (List AH) := [[.int .i64 2, .bool false, .func (.func 37) #[] #[]], [.int .i64 2, .bool false, .func (.func 38) #[] #[]], [.int .i64 2, .bool false, .func (.func 39) #[] #[]], [.int .i64 0, .bool false, .func (.func 40) #[] #[]], [.int .i64 4, .bool false, .func (.func 41) #[] #[]], [.int .i64 2, .bool false, .func (.func 42) #[] #[]], [.int .i64 2, .bool false, .func (.func 43) #[] #[]], [.int .i64 0, .bool false, .func (.func 44) #[] #[]], [.int .i64 3, .bool false, .func (.func 45) #[] #[]], [.int .i64 4, .bool false, .func (.func 46) #[] #[]], [.int .i64 1, .bool false, .func (.func 47) #[] #[]], [.int .i64 5, .bool true, .func (.func 48) #[] #[]], [.int .i64 1, .bool false, .func (.func 49) #[] #[]], [.int .i64 0, .bool false, .func (.func 50) #[] #[]], [.int .i64 0, .bool false, .func (.func 51) #[] #[]], [.int .i64 4, .bool true, .func (.func 52) #[] #[]], [.int .i64 4, .bool false, .func (.func 53) #[] #[]], [.int .i64 0, .bool false, .func (.func 54) #[] #[]]]
def Ko : AA := aB1.flatten
def onA {w w1 w2 : AI} {A H2 : aF} (h1 : St w (A.map (·.1)) A w1) (h2 : St w1 (A.map (·.1)) H2 w2) : St w (A.map (·.1)) H2 w2 := by
 have q0 : St w (A.map (·.1)) (A ++ []) w1 := by rw [aw]; exact h1
 have q1 := q0.call (ms2 := A.map (·.1)) (fun b hb => jS hb) h2
 rwa [aw] at q1
set_option maxHeartbeats 2000000 in
def aNC (w : AI) : aG prog 25 [] w [] (fun v H => ∃ b, v = .slice (Q_ b) 18 18 ∧ H = [(b, J Ko 85)]) := by
 refine aT func25 ?_
 refine aI ?_
 refine RS ?_
 refine RS ?_
 refine RS ?_
 refine RS ?_
 refine RS ?_
 refine RS ?_
 refine RS ?_
 refine RS ?_
 refine RS ?_
 refine RS ?_
 refine RS ?_
 refine RS ?_
 refine RS ?_
 refine RS ?_
 refine RS ?_
 refine RS ?_
 refine RS ?_
 refine RS ?_
 refine RX (eQ (z := [.int .i64 0, .bool false, Value.nilFunc]) (l := Ko) (ps := [(0, .agg #[.int .i64 2, .bool false, .func (.func 37) #[] #[]]), (1, .agg #[.int .i64 2, .bool false, .func (.func 38) #[] #[]]), (2, .agg #[.int .i64 2, .bool false, .func (.func 39) #[] #[]]), (3, .agg #[.int .i64 0, .bool false, .func (.func 40) #[] #[]]), (4, .agg #[.int .i64 4, .bool false, .func (.func 41) #[] #[]]), (5, .agg #[.int .i64 2, .bool false, .func (.func 42) #[] #[]]), (6, .agg #[.int .i64 2, .bool false, .func (.func 43) #[] #[]]), (7, .agg #[.int .i64 0, .bool false, .func (.func 44) #[] #[]]), (8, .agg #[.int .i64 3, .bool false, .func (.func 45) #[] #[]]), (9, .agg #[.int .i64 4, .bool false, .func (.func 46) #[] #[]]), (10, .agg #[.int .i64 1, .bool false, .func (.func 47) #[] #[]]), (11, .agg #[.int .i64 5, .bool true, .func (.func 48) #[] #[]]), (12, .agg #[.int .i64 1, .bool false, .func (.func 49) #[] #[]]), (13, .agg #[.int .i64 0, .bool false, .func (.func 50) #[] #[]]), (14, .agg #[.int .i64 0, .bool false, .func (.func 51) #[] #[]]), (15, .agg #[.int .i64 4, .bool true, .func (.func 52) #[] #[]]), (16, .agg #[.int .i64 4, .bool false, .func (.func 53) #[] #[]]), (17, .agg #[.int .i64 0, .bool false, .func (.func 54) #[] #[]])]) U U U U aO aO) U (ZBN fun b0 => ?_)
 refine ZA7 ?_
 exact EV U aJ ⟨b0, U, U⟩
def aNq (bs : Nat) (A : aF) (K : Nat) (hK : 1 ≤ K ∧ K ≤ 18) (a : AC) (l : AB) (c : Nat) (hlen : l.length ≤ 100) (f : Nat) (hk : VV.spine ((Ko.drop ((K - 1) * 3)).take 3) = some [.int .i64 (l.length : Int), .bool false, .func (.func f) #[] #[]]) (hcl : gR prog f = true) (T : AB) (e : Int) (Post : aF → Prop) (w : AI) (hcmd : ∀ w' H', St w (A.map (·.1)) (A ++ H') w' → aG prog f [P_ bs, .slice a l.length c] w' (A.map (·.1)) (tD T e Post)) (hst : St w (A.map (·.1)) A w) : aG prog 16 [P_ bs, .int .u8 K, .slice a l.length c] w (A.map (·.1)) (tD T e Post) := by
 refine cE func16 hst ?_
 refine ZDG ?_
 refine RX (cQ K_ U (aS aNC)) U ?_
 rintro _ _ ⟨G0, ⟨b0, rfl, rfl⟩, rfl⟩
 refine aI ?_
 refine qA ?_
 refine ZAm ?_
 refine RW (v := (.int .i64 (K : Int))) U U (aD _ (bY I I)) (ZBE ?_)
 refine gZ ?_
 refine qA ?_
 refine bA ?_
 refine RW (v := (.int .u8 ((K - 1 : Nat) : Int))) U U (aD _ (by rw [show IntKind.u8.wrap ((K : Int) - 1) = ((K : Int) - 1) % 256 from rfl]; omega)) (RY (fO (s := 3) (K - 1) U U U U I) U (W (bX U U U (fun w hw => (aH (b := b0) (l := Ko) aE w hw).seg ((K - 1) * 3) 3 hk)) U (lE fun b1 => ?_)))
 refine W (bH (l' := [.int .i64 (l.length : Int), .bool false, .func (.func f) #[] #[]]) 0) U ?_
 rw [ak]
 refine ZBn ?_
 refine gZ ?_
 refine ZAm ?_
 refine qA ?_
 refine ZA7 ?_
 refine iX ?_
 refine ZAm ?_
 refine gZ ?_
 refine ZAm ?_
 refine qA ?_
 refine iG ?_
 refine RX (Qi (F := [(b1, _), (b0, _)]) (A := A) (B := []) (C := []) (vs := [P_ bs, .slice a l.length c]) (f := f) U hcl U (fun w hw => hcmd w _ hw)) U ?_
 rintro _ _ ⟨_, ⟨vt, G, A', rfl, hV, hP, rfl⟩, rfl⟩
 obtain ⟨a46, c0, rfl⟩ := hV.slice
 refine aI ?_
 exact iU (fun _ _ => eY U U) (ew _ _) ⟨_, G, A', U, hV, hP, U⟩
def nS (bs : Nat) (A : aF) (K : Nat) (hK : 1 ≤ K ∧ K ≤ 18) (bb : Nat) (l : AB) (c : Nat) (hlen : l.length ≤ 100) (hc : l.length + 1 ≤ c) (f : Nat) (hk : VV.spine ((Ko.drop ((K - 1) * 3)).take 3) = some [.int .i64 (l.length : Int), .bool false, .func (.func f) #[] #[]]) (hcl : gR prog f = true) (T : AB) (e : Int) (Post : aF → Prop) (hT : T.length ≤ 100000) (w : AI) (hB : aK w bb 0 (((K : Int) :: l).map (.int .u8))) (hbb : bb ∉ A.map (·.1)) (hcmd : ∀ w' H', St w (A.map (·.1)) (A ++ H') w' → aG prog f [P_ bs, .slice (some ⟨bb, cut1 0 1 c, none⟩) l.length (c - 1)] w' (A.map (·.1)) (tD T e Post)) (hst : St w (A.map (·.1)) A w) : aG prog 9 [P_ bs, .slice (Q_ bb) (l.length + 1) c] w (A.map (·.1)) (fun v H => ∃ G A', bM 5 1 v (([(K : Int), e % 256] ++ (if e = 0 then T else []))).length ((([(K : Int), e % 256] ++ (if e = 0 then T else []))).map (.int .u8)) G ∧ Post A' ∧ H = G ++ A') := by
 refine cE func9 hst ?_
 refine bZ ?_
 refine jM ?_
 refine aI ?_
 refine RW (v := (.int .i64 ((l.length : Int) + 1))) fY U (aD _ I) (Kq ?_)
 refine DR [4, 5] (bW [0, 2, 4, 6, 8, 10, 13, 14, 16, 18, 20, 22]) ?_
 refine ZAm ?_
 refine DY U (eB 0 U U U U I) U (DL U U U (gD (hB 0 _ U) hbb) U (ZBE ?_))
 refine DY U (mB 1 (l.length + 1) U U U U U U I hc) U (DX U (gY K_ U (fun w1 hw => aNq bs A K hK (some ⟨bb, cut1 0 1 c, none⟩) l (c - 1) hlen f hk hcl T e Post w1 (fun w2 H2 h2 => hcmd w2 H2 (onA hw h2)) (St.lentA hw))) U aW ?_)
 rintro _ _ ⟨vt, G, A', rfl, hV, hP, rfl⟩
 obtain ⟨a22, c0, rfl⟩ := hV.slice
 refine tB ?_
 refine ZDG ?_
 rcases Decidable.em (e = 0) with he0 | he0
 ·refine ZAm ?_
  refine gO false U U U (by rw [he0]; rfl) ?_
  refine aI ?_
  refine RY (eB 0 U U U U I) U (W (aX U U (cB (hB 0 _ U) hbb)) U (ZBE ?_))
  refine RW (v := (.int .u8 (e % 256))) U U (yC _) (Li ?_)
  refine ZBN fun b0 => ?_
  refine ZBE ?_
  refine RX (aEZ (kk := .u8) (T := 5) (by_ := 1) (n := 2) (G := [(b0, _)]) (R := G ++ A') (xs := [.int .u8 (K : Int), .int .u8 (e % 256)]) (p := T) (pa := a22) (pc := c0) U U U U (bM.row b0 2 2 _ [] U U M (bi _)) M (fun w hw => sW hV hw (fun x hx => bD _ (iK _ hx))) (by first | omega | simp) M) U ?_
  rintro v0 _ ⟨G0, hV0, rfl⟩
  obtain ⟨a34, cx1, rfl⟩ := hV0.slice
  refine ZA7 ?_
  exact EV U (fi (ew _ _) _) ⟨G0, A', hV0.as (by rw [ag he0]; simp) (by rw [ag he0]; simp), hP, U⟩
 refine ZAm ?_
 refine gO true U U U (bne_iff_ne.2 he0) ?_
 refine bA ?_
 refine RY (eB 0 U U U U I) U (W (aX U U (cB (hB 0 _ U) hbb)) U (ZBE ?_))
 refine RW (v := (.int .u8 (e % 256))) U U (yC _) (Li ?_)
 refine ZBN fun b0 => ?_
 refine ZBE ?_
 refine RX (aEZ (kk := .u8) (T := 5) (by_ := 1) (n := 2) (G := [(b0, _)]) (R := G ++ A') (xs := [.int .u8 (K : Int), .int .u8 (e % 256)]) (p := ([] : AB)) (pa := none) (pc := 0) U U U U (bM.row b0 2 2 _ [] U U M (bi _)) M (fun w hw => Ns.nil _ _ _) (by first | omega | simp) M) U ?_
 rintro v0 _ ⟨G0, hV0, rfl⟩
 obtain ⟨a34, cx1, rfl⟩ := hV0.slice
 refine ZA7 ?_
 exact EV U (fi (ew _ _) _) ⟨G0, A', hV0.as (by rw [ae he0]; simp) (by rw [ae he0]; simp), hP, U⟩
def aOz (ob : Nat) (rom : AB) (hl : rom.length ≤ 100000000) (hb : bE rom) (he : errH rom = 0) (pa : AC) (n pc : Nat) (ms : AE) (w : AI) (hst : St w ms [(ob, J (rom.map Z) 5)] w) :
  aG prog 20 [.slice (Q_ ob) rom.length rom.length, .slice pa n pc] w ms (fun v H => ∃ q : MA, q.A.ob = ob ∧ q.Ok pa n pc ∧ v = .tuple #[pM q, .int .i64 0] ∧ H = hM q (kY rom)) := by
 refine aG.frame (F := []) (G := [(ob, J (rom.map Z) 5)]) hst (fun b hb => by cases hb) (aEu ob rom.length rom hl hb (bi _) pa n pc w (aH (.head _) w hst)) ?_
 rintro v H w' (⟨h1, _⟩ | ⟨_, mb, ub, rb, tb, oT, hT, rfl, rfl⟩) hw
 ·exact absurd he h1
 have hn := hw.nodup
 simp only [ct, bq, cu, dk, i5, eg, ec, or_false, not_or] at hn
 refine ⟨_, St.perm_ix 5 [3, 0, 2, 1, 4] M U (L' := hM ⟨pK mb ub rb tb ob rom.length [] (.slice pa n pc) (hdH rom).ram.toNat, tb, oT, .slice none 0 0⟩ (kY rom)) (by simp only [hM, pK, aw]; rfl) hw, ⟨pK mb ub rb tb ob rom.length [] (.slice pa n pc) (hdH rom).ram.toNat, tb, oT, .slice none 0 0⟩, U, ⟨⟨?_, ?_⟩, hT, U, U, _, _, _, U⟩, U, U⟩
 ·show rb ∉ [mb, ub]
  simp only [eg, ec, or_false, not_or]
  exact ⟨fun h => hn.1.1 h.symm, fun h => hn.2.1.1 h⟩
 ·show ob ∉ [mb, ub]
  simp only [eg, ec, or_false, not_or]
  exact ⟨fun h => hn.1.2.2.2 h.symm, fun h => hn.2.2.1.2 h.symm⟩
def aGd (ob : Nat) (rom : AB) (hl : rom.length ≤ 100000000) (hb : bE rom) (he : errH rom ≠ 0) (pa : AC) (n pc : Nat) (w : AI) (hr : aK w ob 0 (rom.map Z)) :
  aG prog 20 [.slice (Q_ ob) rom.length rom.length, .slice pa n pc] w [] (fun v H => H = [] ∧ v = .tuple #[.pointer none, .int .i64 (errH rom)]) :=
 (aEu ob rom.length rom hl hb (bi _) pa n pc w hr).mono fun v H h => by
  rcases h with ⟨_, h1, h2⟩ | ⟨h1, _⟩
  ·exact ⟨h2, h1⟩
  ·exact absurd h1 he
def aG9 (g : Gx) (hg : g.Ok) (b : Nat) (cap asked done : Int) (c1 c2 c3 c4 c5 c6 pv wv tab : AH) (ob : Nat) (GP R : aF) (hP : xA 54 g.plan g.pa g.pc GP) (w : AI) (hst : St w (((b, J [.int .i64 cap, c1, c2, c3, c4, c5, c6, pv, wv, .int .u32 asked, .int .u64 done, tab] 76) :: (ob, J (g.rom.map Z) 5) :: (GP ++ R)).map (·.1)) ((b, J [.int .i64 cap, c1, c2, c3, c4, c5, c6, pv, wv, .int .u32 asked, .int .u64 done, tab] 76) :: (ob, J (g.rom.map Z) 5) :: (GP ++ R)) w) : aG prog 15 [P_ b, .slice (Q_ ob) g.rom.length g.rom.length, .slice g.pa g.plan.length g.pc] w (((b, J [.int .i64 cap, c1, c2, c3, c4, c5, c6, pv, wv, .int .u32 asked, .int .u64 done, tab] 76) :: (ob, J (g.rom.map Z) 5) :: (GP ++ R)).map (·.1)) (fun v H => v = .int .i64 0 ∧ ∃ e : Db, e.Ok g 0 1 ∧ e.b = b ∧ e.cap = cap ∧ e.asked = asked ∧ e.done = done ∧ e.pv = pv ∧ e.wv = wv ∧ e.tab = tab ∧ (∀ x ∈ R, x ∈ e.D) ∧ H = e.H g 0) := by
 have hiv := hg.inv 0
 have hrl : (kY g.rom).ram.length ≤ 200000 := by have := Hj g.rom; omega
 refine cE func15 hst ?_
 refine rB ?_
 refine ZDG ?_
 refine RX (eO (F := [(b, J [.int .i64 cap, c1, c2, c3, c4, c5, c6, pv, wv, .int .u32 asked, .int .u64 done, tab] 76)]) (A := [(ob, J (g.rom.map Z) 5)]) (G := GP ++ R) K_ U (fun w h1 _ => aOz ob g.rom hg.len hg.byts hg.err g.pa g.plan.length g.pc _ w h1)) U ?_
 rintro _ _ ⟨_, ⟨q, hob, hq, rfl, rfl⟩, rfl⟩
 rw [ct, bq]
 refine ZEt ?_
 refine X7 ?_
 refine ZEQ ?_
 refine ZD8 ?_
 refine Q0 ?_
 refine eP ?_
 refine ZBn ?_
 refine jM ?_
 refine bA ?_
 refine RX (cQ K_ U (aS (Hs.new_fn 32))) U ?_
 rintro _ _ ⟨G0, ⟨b0, rfl, hH38⟩, rfl⟩
 refine cZ (H' := (b, J [.int .i64 cap, .pointer none, .pointer none, .int .u64 0, c4, .pointer none, .map none, pv, wv, .int .u32 asked, .int .u64 done, tab] 76) :: (hM q (kY g.rom) ++ (G0 ++ (GP ++ R)))) (fun _ h => St.fl [G0, [(b, J [.int .i64 cap, .pointer none, .pointer none, .int .u64 0, c4, .pointer none, .map none, pv, wv, .int .u32 asked, .int .u64 done, tab] 76)], hM q (kY g.rom), GP ++ R] [1, 2, 0, 3] U h) ?_
 refine ZAm ?_
 refine W (bH (l' := [.int .i64 cap, (pM q), .pointer none, .int .u64 0, c4, .pointer none, .map none, pv, wv, .int .u32 asked, .int .u64 done, tab]) 0) U (kB ?_)
 refine W (bH (l' := [.int .i64 cap, (pM q), P_ b0, .int .u64 0, c4, .pointer none, .map none, pv, wv, .int .u32 asked, .int .u64 done, tab]) 0) U (eP ?_)
 refine ZBn ?_
 refine RX (eO (F := [(b, J [.int .i64 cap, (pM q), P_ b0, .int .u64 0, c4, .pointer none, .map none, pv, wv, .int .u32 asked, .int .u64 done, tab] 76)]) (A := hM q (kY g.rom)) (G := G0 ++ (GP ++ R)) K_ U (uG (L9 q (kY g.rom) hiv.wf hiv.rg hrl _))) U ?_
 rintro _ _ ⟨_, ⟨b1, c0, sp0, rfl, hc0, rfl⟩, rfl⟩
 refine cZ (H' := (b, J [.int .i64 cap, (pM q), P_ b0, .int .u64 0, c4, .pointer none, .map none, pv, wv, .int .u32 asked, .int .u64 done, tab] 76) :: (hM q (kY g.rom) ++ (G0 ++ ((b1, J ((g.enc 0).map Z ++ sp0) 5) :: (GP ++ R))))) (fun _ h => St.fl [[(b, J [.int .i64 cap, (pM q), P_ b0, .int .u64 0, c4, .pointer none, .map none, pv, wv, .int .u32 asked, .int .u64 done, tab] 76)], [(b1, J ((g.enc 0).map Z ++ sp0) 5)], hM q (kY g.rom), G0, GP ++ R] [0, 2, 3, 1, 4] U h) ?_
 refine ZAm ?_
 refine W (bH (l' := [.int .i64 cap, (pM q), P_ b0, .int .u64 0, (.slice (Q_ b1) (g.enc 0).length c0), .pointer none, .map none, pv, wv, .int .u32 asked, .int .u64 done, tab]) 0) U (eP ?_)
 refine bZ ?_
 refine RX (cQ K_ U (aS (Tm.new_fn cap))) U ?_
 rintro _ _ ⟨_, ⟨b2, rfl, rfl⟩, rfl⟩
 rw [ct, bq]
 refine RX (aBL .u64) U ?_
 rintro _ _ ⟨b3, rfl, rfl⟩
 refine cZ (H' := (b, J [.int .i64 cap, (pM q), P_ b0, .int .u64 0, (.slice (Q_ b1) (g.enc 0).length c0), .pointer none, .map none, pv, wv, .int .u32 asked, .int .u64 done, tab] 76) :: (b3, dL .u64 [] 0) :: (hM q (kY g.rom) ++ (G0 ++ ((b2, J [.slice none 0 0, .int .i64 (capT cap)] 148) :: (b1, J ((g.enc 0).map Z ++ sp0) 5) :: (GP ++ R))))) (fun _ h => St.fl [[(b3, _)], [(b2, J [.slice none 0 0, .int .i64 (capT cap)] 148)], [(b, J [.int .i64 cap, (pM q), P_ b0, .int .u64 0, (.slice (Q_ b1) (g.enc 0).length c0), .pointer none, .map none, pv, wv, .int .u32 asked, .int .u64 done, tab] 76)], hM q (kY g.rom), G0, (b1, J ((g.enc 0).map Z ++ sp0) 5) :: (GP ++ R)] [2, 0, 3, 4, 1, 5] U h) ?_
 refine ZAm ?_
 refine W (bH (l' := [.int .i64 cap, (pM q), P_ b0, .int .u64 0, (.slice (Q_ b1) (g.enc 0).length c0), P_ b2, .map none, pv, wv, .int .u32 asked, .int .u64 done, tab]) 0) U (kB ?_)
 refine W (bH (l' := [.int .i64 cap, (pM q), P_ b0, .int .u64 0, (.slice (Q_ b1) (g.enc 0).length c0), P_ b2, .map (some b3), pv, wv, .int .u32 asked, .int .u64 done, tab]) 0) U (kB ?_)
 have hE0 : (⟨b, b0, b2, b3, b1, c0, sp0, cap, asked, done, q, (kY g.rom), List.replicate 32 Hs.r0, G0, [], [(b2, J [.slice none 0 0, .int .i64 (capT cap)] 148)], [], 0, pv, wv, tab, (b1, J ((g.enc 0).map Z ++ sp0) 5) :: (GP ++ R)⟩ : Db).Ok g 0 0 := ⟨bi _, hq, qU.refl _, hH38, Hs.RingOk.start 32 (by rw [cx]), Hm (Tm.LJ.start b2 (capT cap)) (fun _ h => xR), (fun _ h => xR), ⟨.head _, hc0⟩, rW.start g _, rfl, GP, hP, fun x hx => .tail _ (iK _ hx)⟩
 refine ZAm ?_
 refine RX (gY K_ U (kD (Q2 (⟨b, b0, b2, b3, b1, c0, sp0, cap, asked, done, q, (kY g.rom), List.replicate 32 Hs.r0, G0, [], [(b2, J [.slice none 0 0, .int .i64 (capT cap)] 148)], [], 0, pv, wv, tab, (b1, J ((g.enc 0).map Z ++ sp0) 5) :: (GP ++ R)⟩ : Db) g hg 0 M hE0))) U ?_
 rintro _ _ ⟨rfl, e, hE, hT, hdn, rfl⟩
 refine aI ?_
 exact EV U aJ ⟨U, e, hE, hT.b, hT.cap, hT.asked, hdn, hT.pv, hT.wv, hT.tab, fun x hx => hT.D x (.tail _ (bD _ hx)), U⟩
def aF8 (rom : AB) (hl : rom.length ≤ 100000000) (hb : bE rom) (he : errH rom ≠ 0) (pa : AC) (n pc : Nat) (b : Nat) (cap asked done : Int) (c1 c2 c3 c4 c5 c6 pv wv tab : AH) (ob : Nat) (R : aF) (w : AI) (hr : aK w ob 0 (rom.map Z)) (hob : ob ∉ ((b, J [.int .i64 cap, c1, c2, c3, c4, c5, c6, pv, wv, .int .u32 asked, .int .u64 done, tab] 76) :: R).map (·.1)) (hst : St w (((b, J [.int .i64 cap, c1, c2, c3, c4, c5, c6, pv, wv, .int .u32 asked, .int .u64 done, tab] 76) :: R).map (·.1)) ((b, J [.int .i64 cap, c1, c2, c3, c4, c5, c6, pv, wv, .int .u32 asked, .int .u64 done, tab] 76) :: R) w) : aG prog 15 [P_ b, .slice (Q_ ob) rom.length rom.length, .slice pa n pc] w (((b, J [.int .i64 cap, c1, c2, c3, c4, c5, c6, pv, wv, .int .u32 asked, .int .u64 done, tab] 76) :: R).map (·.1)) (fun v H => v = .int .i64 (errH rom) ∧ H = (b, J [.int .i64 cap, .pointer none, .pointer none, .int .u64 0, c4, .pointer none, .map none, pv, wv, .int .u32 asked, .int .u64 done, tab] 76) :: R) := by
 refine cE func15 hst ?_
 refine rB ?_
 refine ZDG ?_
 refine aP K_ (fun w hw => aGd ob rom hl hb he pa n pc w (cG hr hob w hw)) ?_
 refine ZEt ?_
 refine X7 ?_
 refine ZEQ ?_
 refine ZD8 ?_
 refine Q0 ?_
 refine eP ?_
 refine ZBn ?_
 refine gO true U U U (bne_iff_ne.2 he) ?_
 refine bA ?_
 exact EV U aJ ⟨U, U⟩
structure Gs where
 q : Gq
 bad : Bool
def cGs (g : Gs) : AA := Vh g.q ++ [.bool g.bad]
def aNf {w : AI} (cs : AA) (h : pG w [.int .u8, .ints .u8, .rows [.int .u64, .int .u8], .bool] cs) : ∃ g, cs = cGs g ∧ g.q.Ok w := by
 match cs, h with
 | [a, c, d, e], h =>
  obtain ⟨q0, q1, q2, ⟨b, rfl⟩, _⟩ := h
  obtain ⟨g, q3, q4⟩ := aQv [a, c, d] ⟨q0, q1, q2, trivial⟩
  exact ⟨⟨g, b⟩, by show _ = Vh g ++ [.bool b]; rw [← q3]; rfl, q4⟩
def Cn {K : Int} {l : AB} {bb c : Nat} {w w' : AI} {ms : AE} {H : aF} (hB : aK w bb 0 ((K :: l).map Z)) (hbb : bb ∉ ms) (hc : l.length + 1 ≤ c) (hw : St w ms H w') : Ns w' .u8 (some ⟨bb, cut1 0 1 c, none⟩) l := by
 have q0 := (cG hB hbb w' hw).cut1 (l := 1) (k := l.length) (c := c) I
 have q1 : (((K :: l).map Z).drop 1).take l.length = l.map Z := by
  rw [cu, List.drop_one, List.tail_cons, dm (by rw [eD]; exact bi _)]
 rw [q1] at q0; exact Ns.of q0
def zH (a1 a2 : AC) (c1 c2 : Nat) (l : AB) (hl : l.length ≤ 1000000) (w : AI) (hA : Ns w .u8 a1 l) (hB : Ns w .u8 a2 l) :
  aG prog 10 [.slice a1 l.length c1, .slice a2 l.length c2] w [] (V_ (.bool true)) := by
 refine aT func10 ?_
 refine bA ?_
 refine RY fY U (bG ?_)
 refine RY fY U (gO false U U U aL ?_)
 refine gF ?_
 refine RY fY U (bU ?_)
 refine uV (σ := Nat) [4, 5, 13, 14, 15, 16, 17, 18, 19, 20, 21, 22, 23, 24, 25] (fun i => [(13, .int .i64 i)]) (fun i => i ≤ l.length) (fun i => l.length - i) 0 ?_ ?_ ?_
 ·exact av _
 ·exact .cons U .nil
 rintro i y2 hi
 refine cY ?_
 refine KC (fun h1 h1n => ?_) (fun h1 h1n => ?_)
 ·refine bZ ?_
  obtain ⟨b1, o1, rfl, r1⟩ := hA.row (i := i) I
  obtain ⟨b2, o2, rfl, r2⟩ := hB.row (i := i) I
  refine DR [4, 5, 6, 7] (bW [0, 2, 4, 6, 8, 10, 12, 14, 16]) ?_
  refine aU ?_
  refine DY U (eB i U U U U I) U (DL U U U (gD (r1.int I) aL) U (aU ?_))
  refine DY U (eB i U U U U I) U (DL U U U (gD (r2.int I) aL) U (Vz false U U U U aL ?_))
  refine eK ?_
  refine RW (v := (.int .i64 ((i + 1 : Nat) : Int))) U U (aD _ (eX I)) (aU ?_)
  exact ⟨i + 1, aR, aR, .cons U .nil, bJ, fun _ h => h⟩
 refine dO ?_
 exact E0 U ⟨U, U⟩
def aKB (g : Gs) (w : AI) : aG prog 5 [.agg (cGs g).toArray, .slice none 0 0] w [] (V_ (.bool (Gz g.q))) := by
 refine aT func5 ?_
 refine Md ?_
 refine ZBN fun b0 => ?_
 refine cL ?_
 refine oS ?_
 refine dV (σ := Unit) [4, 5, 6, 9, 10, 11, 12, 13, 14, 15, 16, 17, 18, 19, 20, 21, 22, 23, 24, 25, 26, 27, 28, 29, 30, 31, 32, 33, 34, 35, 36, 37, 38, 39, 40, 41, 42] (fun _ => [(9, .int .i64 0), (5, .int .u64 0)]) (fun _ => [(b0, J (cGs g) 25)]) (fun _ => True) (fun _ => 0) () ?_ ?_ ?_ ?_
 ·exact trivial
 ·exact .cons U (.cons U .nil)
 ·exact fun _ h => h
 rintro _ y2 _
 refine ZAm ?_
 refine jM ?_
 refine bA ?_
 refine gZ ?_
 refine ZBE ?_
 refine KL (fun q0 z0 => ?_) (fun q0 z0 => ?_)
 ·refine ZAm ?_
  refine gZ ?_
  refine ZAm ?_
  refine KL (fun q1 z1 => ?_) (fun q1 z1 => ?_)
  ·refine ZBE ?_
   refine gZ ?_
   refine iX ?_
   refine ZA7 ?_
   refine iX ?_
   refine ZBy ?_
   exact E0 U ⟨U, (aD Value.bool (by unfold Gz; have h8 := dr q0; have h9 := dr q1; exact (ap I).symm))⟩
  refine iG ?_
  exact E0 U ⟨U, (aD Value.bool (by unfold Gz; have h9 := dw q1; exact (cz (fun h => aR)).symm))⟩
 refine xN ?_
 exact E0 U ⟨U, (aD Value.bool (by unfold Gz; have h9 := dw q0; exact (cz (fun h => aR)).symm))⟩
def aAF (g : Gs) (w : AI) (hg : g.q.Ok w) (hb : g.bad = false) (hp : g.q.prog.length ≤ 100000000) : aG prog 7 [.agg (cGs g).toArray] w [] (fun v H => ∃ b, v = .slice (Q_ b) (romQ g.q).length (romQ g.q).length ∧ H = [(b, J ((romQ g.q).map Z) 5)]) := by
 refine aT func7 ?_
 refine Md ?_
 refine ZBN fun b0 => ?_
 refine bA ?_
 refine RX (cQ K_ U (fun w hw => aCv g.q.kind 0 2 hg.kind M M g.q.pa g.q.pc g.q.prog hp hg.prog w (hg.np.later0 hw))) U ?_
 rintro _ _ ⟨G0, ⟨b1, rfl, rfl⟩, rfl⟩
 refine aI ?_
 refine W (aX U U (bN (v := .bool false) (b := b0) (l := cGs g) aE (by rw [← hb]; rfl))) U (ZBE ?_)
 refine pE false U U ?_
 refine ZDG ?_
 exact EV U (cj _ _) ⟨b1, by rw [Xp], U⟩
def aDO (g : Gs) (w : AI) (hg : g.q.Ok w) (hp : g.q.plan.length ≤ 1000000) : aG prog 8 [.agg (cGs g).toArray] w [] (fun v H => ∃ pa pc, v = .slice pa g.q.plan.length pc ∧ xA 54 g.q.plan pa pc H) := by
 refine aT func8 ?_
 refine Md ?_
 refine ZBN fun b0 => ?_
 refine iG ?_
 refine oS ?_
 refine dV (σ := Nat × AH × aF) [3, 4, 8, 9, 10, 11, 12, 13, 14, 15, 16, 17, 18, 19] (fun s => [(3, s.2.1), (8, .int .i64 s.1)]) (fun s => s.2.2 ++ [(b0, J (cGs g) 25)]) (fun s => s.1 ≤ g.q.plan.length ∧ bM 54 2 s.2.1 s.1 (aN pX (g.q.plan.take s.1)) s.2.2) (fun s => g.q.plan.length - s.1) (0, .slice none 0 0, []) ?_ ?_ ?_ ?_
 ·exact ⟨av _, .nil⟩
 ·exact .cons U (.cons U .nil)
 ·exact fun _ h => h
 rintro ⟨i, v0, G0⟩ y3 ⟨hi, hV0⟩
 dsimp only at hi hV0 ⊢
 obtain ⟨a3, c0, rfl⟩ := hV0.slice
 refine ZBn ?_
 refine KC (fun q0 z0 => ?_) (fun q0 z0 => ?_)
 ·refine ZBy ?_
  obtain ⟨bx, ox, hqa, hrx⟩ := hg.nq.row (i := i) I
  obtain ⟨c, hc0⟩ : ∃ c, g.q.plan[i]? = some c := ⟨_, am I⟩
  refine ZDG ?_
  refine W (aX U U (bN (v := .slice (some ⟨bx, ox, none⟩) g.q.plan.length g.q.qc) (b := b0) (l := cGs g) (bD _ (.head _)) (by rw [← hqa]; rfl))) U (ZBE ?_)
  refine RY (fO (s := 2) i U U U U I) U (W (bX U U U (fun w hw => (cG hrx aL w hw).nth' cChg_len hc0)) U (RX (eQ (z := [.int .u64 0, .int .u8 0]) (l := pX c) (ps := [(0, .agg (pX c).toArray)]) U U U U U U) U ?_))
  rintro _ _ ⟨b1, rfl, rfl⟩
  refine RX (mO (A := [(b1, _)]) (G := G0) (R := [(b0, J (cGs g) 25)]) (v := .slice a3 i c0) (n := i) (xs := aN pX (g.q.plan.take i)) (m := 1) (T := 54) (s := 2) (by_ := 16) (ys := pX c) U U U U hV0 (fun w hw => .row _ _ _ _ _ U (aH (b := b1) (.head _) w hw)) U I I) U ?_
  rintro v1 _ ⟨G1, hV1, _, rfl⟩
  obtain ⟨a18, cx1, rfl⟩ := hV1.slice
  refine ZA7 ?_
  refine jF ?_
  exact ⟨(i + 1, _, G1), ⟨aR, hV1.as U (by show _ = aN pX (g.q.plan.take (i + 1)); rw [Ep hc0, wS])⟩, by show g.q.plan.length - (i + 1) < g.q.plan.length - i; omega, .cons U (.cons U .nil), bJ, fun _ h => h.sub (fi (.cons _ aJ) _)⟩
 refine ZAm ?_
 obtain rfl : i = g.q.plan.length := by omega
 rw [dq] at hV0
 refine ZBn ?_
 exact EV U (cj _ _) ⟨_, _, U, hV0, hg.plan, hp⟩
def aDT (gx : Gx) (hgx : gx.Ok) (cap : Int) (ob : Nat) (GP : aF) (hP : xA 54 gx.plan gx.pa gx.pc GP) (w : AI) (hst : St w (((ob, J ((gx.rom).map Z) 5) :: GP).map (·.1)) ((ob, J ((gx.rom).map Z) 5) :: GP) w) : aG prog 6 [.slice (Q_ ob) gx.rom.length gx.rom.length, .slice gx.pa gx.plan.length gx.pc, .int .i64 cap] w (((ob, J ((gx.rom).map Z) 5) :: GP).map (·.1)) (fun v H => ∃ sb e, v = P_ sb ∧ e.Fine gx 0 1 ∧ e.done = 0 ∧ H = sH sb e gx 0) := by
 refine cE func6 hst ?_
 refine ZDG ?_
 refine RX (cQ K_ U (aS (S5 cap))) U ?_
 rintro _ _ ⟨G0, ⟨b0, tb, oT, rfl, hT0, rfl⟩, rfl⟩
 refine RS ?_
 refine RX (eM (l := fX b0) U U) U ?_
 rintro _ _ ⟨b1, rfl, rfl⟩
 refine cL ?_
 refine cZ (H' := (b1, J (fX b0) 50) :: ((b0, J (Bl cap (P_ tb)) 76) :: (ob, J ((gx.rom).map Z) 5) :: (GP ++ [(tb, oT)]))) (fun _ h => St.fl [[(b1, J (fX b0) 50)], [(b0, J (Bl cap (P_ tb)) 76)], [(tb, oT)], [(ob, J ((gx.rom).map Z) 5)], GP] [0, 1, 3, 4, 2] U h) ?_
 refine RX (cX (F := [(b1, J (fX b0) 50)]) (A := (b0, J (Bl cap (P_ tb)) 76) :: (ob, J ((gx.rom).map Z) 5) :: (GP ++ [(tb, oT)])) K_ U (fun w hw => aG9 gx hgx b0 cap 0 0 _ _ _ _ _ _ _ _ _ ob GP [(tb, oT)] hP w (St.lentV hw))) U ?_
 rintro _ _ ⟨_, ⟨rfl, e, hE, hb, hcap, hask, hdn, hpv, hwv, htab, hR, rfl⟩, rfl⟩
 refine cZ (H' := sH b1 e gx 0) (fun _ h => h.as (by unfold sH; rw [hb]; rfl)) ?_
 refine ZDG ?_
 exact EV U aJ ⟨b1, e, U, ⟨hE, iR, iR, by rw [hdn]; decide⟩, hdn, U⟩
def aNo (rom : AB) (hl : rom.length ≤ 100000000) (hb : bE rom) (he : errH rom ≠ 0) (pa : AC) (n pc : Nat) (cap : Int) (ob : Nat) (w : AI) (hst : St w [ob] [(ob, J ((rom).map Z) 5)] w) : aG prog 6 [.slice (Q_ ob) rom.length rom.length, .slice pa n pc, .int .i64 cap] w [ob] (fun v H => ∃ sb b cs, v = P_ sb ∧ cs[1]? = some (.pointer none) ∧ H = [(sb, J (fX b) 50), (b, J cs 76)]) := by
 refine cE func6 hst ?_
 refine ZDG ?_
 refine RX (cQ K_ U (aS (S5 cap))) U ?_
 rintro _ _ ⟨G0, ⟨b0, tb, oT, rfl, hT0, rfl⟩, rfl⟩
 refine RS ?_
 refine RX (eM (l := fX b0) U U) U ?_
 rintro _ _ ⟨b1, rfl, rfl⟩
 refine cL ?_
 refine RX (eO (F := [(b1, J (fX b0) 50)]) (A := [(b0, J (Bl cap (P_ tb)) 76)]) (G := [(tb, oT), (ob, J ((rom).map Z) 5)]) K_ U (fun w h1 h2 => aF8 rom hl hb he pa n pc b0 cap 0 0 _ _ _ _ _ _ _ _ _ ob [] w (aH (b := ob) (.tail _ (.tail _ (.tail _ (.head _)))) w h2) (St.notin (A := [(b0, J (Bl cap (P_ tb)) 76)]) h2 (x := (ob, J ((rom).map Z) 5)) (.tail _ (.tail _ (.head _)))) h1)) U (ZBQ ?_)
 refine ZDG ?_
 exact EV U (.cons_cons _ (.cons_cons _ (du _))) ⟨b1, b0, _, U, U, U⟩
def aHc (sb : Nat) (d : Db) (g : Gx) (k : Nat) {w0 : AI} {bs : AE} {H9 : aF} (w : AI) (hst : St w0 bs H9 w) (hs : ∀ x ∈ sH sb d g k, x ∈ H9) : aG prog 12 [P_ sb] w [] (V_ (.int .u64 k)) := by
 have q1 := bN (b := sb) (l := fX d.b) (off := 2) (hs _ (.head _)) rfl w hst
 have q3 := bN (b := d.b) (l := Db.cs d g k) (off := 3) (hs _ (.tail _ (.head _))) rfl w hst
 refine aT func12 ?_
 refine rB ?_
 refine bA ?_
 refine W (aX U U (cB q1 aL)) U (aP K_ (fun w hw => aG8 d.b (k : Nat) w (cB q3 aL w hw)) ?_)
 exact fN
def K1 : gR prog 37 = true := by kernel_rfl
def K2 : gR prog 38 = true := by kernel_rfl
def Ls : gR prog 50 = true := by kernel_rfl
def Nb : gR prog 51 = true := by kernel_rfl
def Lt : gR prog 54 = true := by kernel_rfl
def aN1 (w : AI) : aG prog 11 [.int .u8 0, .int .u8 0, .int .u8 0, .slice none 0 0] w [] (fun v H => ∃ b, v = .slice (Q_ b) Af.length Af.length ∧ H = [(b, J (Af.map Z) 5)]) :=
 (aCv 0 0 0 M M M none 0 [] M (fun _ h => by cases h) w (Ns.nil _ _ _)).mono fun _ _ ⟨b, h1, h2⟩ => ⟨b, by rw [h1, aDS], h2⟩
def aP3 : xA 54 rN.plan rN.pa rN.pc [] := ⟨.nil, fun _ h => xR, iR⟩
def aQN (sb : Nat) (w : AI) : aG prog 9 [P_ sb, .slice none 0 0] w [] (fun v H => ∃ b, v = .slice (Q_ b) 2 2 ∧ H = [(b, J (([0, 5] : AB).map Z) 5)]) := by
 refine aT func9 ?_
 refine bZ ?_
 refine jM ?_
 refine aI ?_
 refine gZ ?_
 refine iX ?_
 refine ZBn ?_
 refine ZEp ?_
 refine ZBN fun b0 => ?_
 refine ZA7 ?_
 exact EV U aJ ⟨b0, U, U⟩
def Zn (w : AI) : aG prog 4 [] w [] (V_ (.bool true)) := by
 refine aT func4 ?_
 refine aI ?_
 refine RX (cQ K_ U (aS aN1)) U ?_
 rintro _ _ ⟨G0, ⟨b0, rfl, rfl⟩, rfl⟩
 refine RX (gY K_ U (kD (aDT rN S1 9 b0 [] aP3))) U ?_
 rintro _ _ ⟨sb, e, rfl, hF, hdn, rfl⟩
 refine aI ?_
 refine jM ?_
 refine aI ?_
 refine cZ (H' := sH sb e rN 0 ++ []) (fun _ h => h.as (aw _).symm) ?_
 refine RX (eQ (z := [.int .u8 0]) (l := ([1, 3, 0] : AB).map Z) (ps := [(0, .int .u8 (1)), (1, .int .u8 (3)), (2, .int .u8 (0))]) U U U U U U) U ?_
 rintro _ _ ⟨b1, rfl, rfl⟩
 refine RX (eO (F := [(b1, J (([1, 3, 0] : AB).map Z) 5)]) (A := sH sb e rN 0) (G := []) K_ U (fun w1 h1 h2 => nS sb (sH sb e rN 0) 1 M b1 ([3, 0] : AB) 3 Bz rP 37 U K1 (qB ((0 + 3 : Nat) : Int) 0) 0 (Ez sb e rN (0 + 3) (max 1 (0 + 3 + 1)) ((3 : Nat) : Int)) (by unfold qB; rw [bQ, leB_len]; decide) w1 (aH (b := b1) (bD _ (.head _)) w1 h2) (St.notin (A := sH sb e rN 0) h2 (x := (b1, J (([1, 3, 0] : AB).map Z) 5)) (.head _)) (fun w2 H2 h3 => Zy sb e rN S1 0 1 hF 3 M _ _ w2 (Cn (aH (b := b1) (bD _ (.head _)) w1 h2) (St.notin (A := sH sb e rN 0) h2 (x := _) (.head _)) rP h3) (by rintro _ ⟨rfl⟩; exact St.notin (A := sH sb e rN 0) h2 (x := _) (.head _)) (St.lentV h3)) h1)) U ?_
 rintro v0 _ ⟨_, ⟨G1, _, hV0, ⟨e1, hE1, hT0, hd1, rfl⟩, rfl⟩, rfl⟩
 obtain ⟨b2, c0, sp0, rfl, rfl, _⟩ := hV0.full M
 refine cZ (H' := (b2, _) :: sH sb e1 rN 3) (fun _ h => h.sub (.cons _ (.cons_cons _ (cj _ _)))) ?_
 refine RX (eQ (z := [.int .u8 0]) (l := ([1, 0, 3, 0, 0, 0, 0, 0, 0] : AB).map Z) (ps := [(0, .int .u8 (1)), (1, .int .u8 (0)), (2, .int .u8 (3)), (3, .int .u8 (0)), (4, .int .u8 (0)), (5, .int .u8 (0)), (6, .int .u8 (0)), (7, .int .u8 (0)), (8, .int .u8 (0))]) U U U U U U) U ?_
 rintro _ _ ⟨b3, rfl, rfl⟩
 refine W (dG K_ U (fun w hw => zH (Q_ b2) (Q_ b3) c0 9 [1, 0, 3, 0, 0, 0, 0, 0, 0] M w (Ns.of (aH (b := b2) (.tail _ (.head _)) w hw).left) (Ns.of (aH (b := b3) (.head _) w hw)))) U (iX ?_)
 refine ZBE ?_
 refine aP K_ (fun w hw => aHc sb e1 rN 3 w hw (fun x hx => .tail _ (.tail _ hx))) ?_
 refine iX ?_
 refine ZA7 ?_
 refine RX (cQ K_ U (aS (aQN sb))) U ?_
 rintro _ _ ⟨_, ⟨b4, rfl, rfl⟩, rfl⟩
 refine ZEp ?_
 rintro _ _ ⟨b5, rfl, rfl⟩
 exact W (dG K_ U (fun w hw => zH (Q_ b4) (Q_ b5) 2 2 [0, 5] M w (Ns.of (aH (b := b4) (.tail _ (.head _)) w hw)) (Ns.of (aH (b := b5) (.head _) w hw)))) U pI
def Dw {K e : Int} {T : AB} (h : T.length ≤ 100000) (c : Prop) [Decidable c] : ([K, e % 256] ++ (if c then T else [])).length ≤ 1000000 := by
 rw [bQ]
 split <;> simp only [eF, ax] <;> omega
def Fe (k y : Int) : (qB k y).length ≤ 100000 := by unfold qB; rw [bQ, leB_len]; show 4 + 3 ≤ 100000; decide
def C6 (n : Int) : (leB n 8).length ≤ 100000 := by rw [leB_len]; decide
def Yh (l : List Hs.Cll) : (zS l).length ≤ 100000 := by
 have q0 := aCr l 8
 unfold zS
 rw [bQ, Iq]; simp only [eF, ax]; omega
def I8 (l : List Hs.Rcd) : (Ai l).length ≤ 100000 := by have h9 := aEA l 10; unfold Ai; omega
set_option maxHeartbeats 4000000 in
def aHS (g : Gs) (x1 x2 cap : Int) (q1 : 0 ≤ x1 ∧ x1 < 256) (q2 : 0 ≤ x2 ∧ x2 < 256) (w : AI) (hg : g.q.Ok w) : aG prog 3 [.agg (cGs g).toArray, .int .u8 x1, .int .u8 x2, .int .i64 cap] w [] (V_ (.bool true)) := by
 obtain ⟨a, ha⟩ : ∃ a : Nat, (a : Int) = x1 % 80 := ⟨(x1 % 80).toNat, aR⟩
 obtain ⟨b, hb⟩ : ∃ b : Nat, (b : Int) = x2 % 80 := ⟨(x2 % 80).toNat, aR⟩
 have ha9 : a < 80 := by omega
 have hb9 : b < 80 := by omega
 have hsum : a - min b a + min a b = a := by omega
 refine aT func3 ?_
 refine Md ?_
 refine ZBN fun b0 => ?_
 refine ZBn ?_
 refine aP K_ (aS Zn) ?_
 refine ZAm ?_
 refine W (bX U U U (aH (b := b0) (l := cGs g) aE)) U (aP K_ (aS (aKB g)) ?_)
 refine ZAm ?_
 refine KL (fun q0 z0 => ?_) (fun q0 z0 => ?_)
 ·refine ZDG ?_
  refine aP K_ (aS Zn) ?_
  exact N4
 refine ZBE ?_
 refine W (aX U U (bN (v := .bool g.bad) (b := b0) (l := cGs g) aE U)) U (ZAm ?_)
 refine KC (fun qx1 qx1n => ?_) (fun qx1 qx1n => ?_)
 ·refine ZAm ?_
  refine aP K_ (aS Zn) ?_
  exact N4
 refine ZAm ?_
 have hbad : g.bad = false := by simpa using qx1
 have hf9 : Gz g.q = true := by simpa using q0
 have hf8 := dr hf9
 by_cases he9 : errH (romQ g.q) = 0
 ·refine DR [1, 2, 4] (bW [0, 4, 8, 3, 7, 11, 12]) ?_
  refine Lv ?_
  refine Lv ?_
  refine ZBE ?_
  refine DX U (cQ K_ U (fun w hw => aAF g w (hg.later hw) hbad I)) U T3 ?_
  rintro _ _ ⟨_, ⟨b1, rfl, rfl⟩, rfl⟩
  refine DX U (cQ K_ U (fun w hw => aDO g w (hg.later hw) I)) U aCb ?_
  rintro _ _ ⟨Gp, ⟨pa, pc, rfl, hP⟩, rfl⟩
  refine ZEC ?_
  refine DX U (eO (F := []) (A := (b1, J ((romQ g.q).map Z) 5) :: Gp) (G := [(b0, J (cGs g) 25)]) K_ U (fun w q0 _ => aDT (g.q.gx pa pc) (hg.gx he9 hf9 pa pc) cap b1 Gp hP w q0)) U aW ?_
  rintro _ _ ⟨_, ⟨sb, e, rfl, hF, hdn, rfl⟩, rfl⟩
  refine ZBy ?_
  have hgx := hg.gx he9 hf9 pa pc
  refine cZ (H' := sH sb e (g.q.gx pa pc) 0 ++ ([])) (fun _ h => h.sub (fi (du _) _)) ?_
  generalize g.q.gx pa pc = gx at *
  refine nD ?_
  refine RW (v := (.int .i64 (a : Int))) U U (aD _ ((cn I).trans ha.symm)) (nD ?_)
  refine RW (v := (.int .i64 (b : Int))) U U (aD _ ((cn I).trans hb.symm)) (ZDG ?_)
  refine ZCw ?_
  rintro _ _ ⟨b2, rfl, rfl⟩
  refine RX (eO (F := [(b2, J (([1, a, 0] : AB).map Z) 5)]) (A := sH sb e gx 0) (G := []) K_ U (fun w1 q0 qx1 => nS sb (sH sb e gx 0) 1 M b2 ([a, 0] : AB) 3 Bz rP 37 U K1 (qB ((a : Nat) : Int) 0) 0 (Ez sb e gx a (max 1 (a + 1)) ((a : Nat) : Int)) (Fe _ _) w1 (aH (b := b2) (bD _ (.head _)) w1 qx1) (St.notin (A := sH sb e gx 0) qx1 (x := _) (.head _)) (fun w2 H2 h3 => (by have h9 := Zy sb e gx hgx 0 1 hF a I (some ⟨b2, cut1 0 1 3, none⟩) (3 - 1) w2 (Cn (aH (b := b2) (bD _ (.head _)) w1 qx1) (St.notin (A := sH sb e gx 0) qx1 (x := _) (.head _)) rP h3) (by rintro _ ⟨rfl⟩; exact St.notin (A := sH sb e gx 0) qx1 (x := _) (.head _)) (St.lentV h3); rw [cg] at h9; exact h9)) q0)) U ?_
  rintro v0 _ ⟨_, ⟨G0, _, hV0, ⟨e1, hE1, hT0, hd1, rfl⟩, rfl⟩, rfl⟩
  obtain ⟨a43, c0, rfl⟩ := hV0.slice
  have hF1 : e1.Fine gx a (max 1 (a + 1)) := ⟨hE1, aR, aR, aR⟩
  refine cZ (H' := sH sb e1 gx a ++ ([])) (fun _ h => St.fl [[_], G0, sH sb e1 gx a, []] [2, 3] U (h.as xI)) ?_
  refine Pg ?_
  rintro _ _ ⟨b3, rfl, rfl⟩
  refine RX (eO (F := [(b3, J (([18] : AB).map Z) 5)]) (A := sH sb e1 gx a) (G := []) K_ U (fun w1 q0 qx1 => nS sb (sH sb e1 gx a) 18 M b3 ([] : AB) 1 tQ tY 54 U Lt (leB (Gr (gx.enc a)) 8) 0 (fun A' => A' = sH sb e1 gx a) (C6 _) w1 (aH (b := b3) (bD _ (.head _)) w1 qx1) (St.notin (A := sH sb e1 gx a) qx1 (x := _) (.head _)) (fun w2 H2 h3 => aB6 sb e1 gx hgx a (max 1 (a + 1)) hF1 _ w2 (St.lentV h3)) q0)) U ?_
  rintro v1 _ ⟨_, ⟨G1, _, hV1, rfl, rfl⟩, rfl⟩
  obtain ⟨a46, cx1, rfl⟩ := hV1.slice
  refine cZ (H' := sH sb e1 gx a ++ (G1 ++ ([]))) (fun _ h => St.fl [[_], G1, sH sb e1 gx a, []] [2, 1, 3] U (h.as xI)) ?_
  refine ZBn ?_
  refine Sb ?_
  rintro _ _ ⟨b4, rfl, rfl⟩
  refine RX (eO (F := [(b4, J (([14] : AB).map Z) 5)]) (A := sH sb e1 gx a) (G := G1 ++ ([])) K_ U (fun w1 q0 qx1 => nS sb (sH sb e1 gx a) 14 M b4 ([] : AB) 1 tQ tY 50 U Ls (zS (Hs.callsL (gx.sts a))) 0 (fun A' => A' = sH sb e1 gx a) (Yh _) w1 (aH (b := b4) (bD _ (.head _)) w1 qx1) (St.notin (A := sH sb e1 gx a) qx1 (x := _) (.head _)) (fun w2 H2 h3 => aBc sb e1 gx hgx a (max 1 (a + 1)) hF1 _ w2 (St.lentV h3)) q0)) U ?_
  rintro v2 _ ⟨_, ⟨G2, _, hV2, rfl, rfl⟩, rfl⟩
  obtain ⟨a49, c2, rfl⟩ := hV2.slice
  refine cZ (H' := sH sb e1 gx a ++ (G2 ++ (G1 ++ ([])))) (fun _ h => St.fl [[_], G2, sH sb e1 gx a, G1 ++ ([])] [2, 1, 3] U (h.as xI)) ?_
  refine ZBE ?_
  refine Mw ?_
  rintro _ _ ⟨b5, rfl, rfl⟩
  refine RX (eO (F := [(b5, J (([15] : AB).map Z) 5)]) (A := sH sb e1 gx a) (G := G2 ++ (G1 ++ ([]))) K_ U (fun w1 q0 qx1 => nS sb (sH sb e1 gx a) 15 M b5 ([] : AB) 1 tQ tY 51 U Nb (Ai ((Hs.lastL (gx.sts a) 32).map Hs.recOf)) 0 (fun A' => A' = sH sb e1 gx a) (I8 _) w1 (aH (b := b5) (bD _ (.head _)) w1 qx1) (St.notin (A := sH sb e1 gx a) qx1 (x := _) (.head _)) (fun w2 H2 h3 => aBy sb e1 gx hgx a (max 1 (a + 1)) hF1 _ w2 (St.lentV h3)) q0)) U ?_
  rintro v3 _ ⟨_, ⟨G3, _, hV3, rfl, rfl⟩, rfl⟩
  obtain ⟨a52, c3, rfl⟩ := hV3.slice
  refine cZ (H' := sH sb e1 gx a ++ (G3 ++ (G2 ++ (G1 ++ ([]))))) (fun _ h => St.fl [[_], G3, sH sb e1 gx a, G2 ++ (G1 ++ ([]))] [2, 1, 3] U (h.as xI)) ?_
  refine ZDG ?_
  refine ZCx ?_
  rintro _ _ ⟨b6, rfl, rfl⟩
  refine RX (eO (F := [(b6, J (([2, b, 0] : AB).map Z) 5)]) (A := sH sb e1 gx a) (G := G3 ++ (G2 ++ (G1 ++ ([])))) K_ U (fun w1 q0 qx1 => nS sb (sH sb e1 gx a) 2 M b6 ([b, 0] : AB) 3 Bz rP 38 U K2 (qB (((a - min b a) : Nat) : Int) (yB a b)) 0 (Ez sb e1 gx (a - min b a) (max (max 1 (a + 1)) ((a - min b a) + 1)) (sY e1.ms a (a - min b a))) (Fe _ _) w1 (aH (b := b6) (bD _ (.head _)) w1 qx1) (St.notin (A := sH sb e1 gx a) qx1 (x := _) (.head _)) (fun w2 H2 h3 => aNr sb e1 gx hgx a (max 1 (a + 1)) hF1 b I (some ⟨b6, cut1 0 1 3, none⟩) (3 - 1) w2 (Cn (aH (b := b6) (bD _ (.head _)) w1 qx1) (St.notin (A := sH sb e1 gx a) qx1 (x := _) (.head _)) rP h3) (by rintro _ ⟨rfl⟩; exact St.notin (A := sH sb e1 gx a) qx1 (x := _) (.head _)) (St.lentV h3)) q0)) U ?_
  rintro v4 _ ⟨_, ⟨G4, _, hV4, ⟨e2, hE2, hT1, hd2, rfl⟩, rfl⟩, rfl⟩
  obtain ⟨a57, c4, rfl⟩ := hV4.slice
  have hs2 := aAi hF1.ok I (a - min b a)
  have hF2 : e2.Fine gx (a - min b a) (max (max 1 (a + 1)) ((a - min b a) + 1)) := ⟨hE2, aR, aR, aR⟩
  refine cZ (H' := sH sb e2 gx (a - min b a) ++ (G3 ++ (G2 ++ (G1 ++ ([]))))) (fun _ h => St.fl [[_], G4, sH sb e2 gx (a - min b a), G3 ++ (G2 ++ (G1 ++ ([])))] [2, 3] U (h.as xI)) ?_
  refine aI ?_
  refine RW (v := (.int .i64 ((min a b : Nat) : Int))) (vD U U) U (aD _ I) (ZCK ?_)
  rintro _ _ ⟨b7, rfl, rfl⟩
  refine RX (eO (F := [(b7, J (([1, ((min a b : Nat) : Int), 0] : AB).map Z) 5)]) (A := sH sb e2 gx (a - min b a)) (G := G3 ++ (G2 ++ (G1 ++ ([])))) K_ U (fun w1 q0 qx1 => nS sb (sH sb e2 gx (a - min b a)) 1 M b7 ([((min a b : Nat) : Int), 0] : AB) 3 Bz rP 37 U K1 (qB ((a : Nat) : Int) 0) 0 (Ez sb e2 gx a (max (max (max 1 (a + 1)) ((a - min b a) + 1)) (a + 1)) ((min a b : Nat) : Int)) (Fe _ _) w1 (aH (b := b7) (bD _ (.head _)) w1 qx1) (St.notin (A := sH sb e2 gx (a - min b a)) qx1 (x := _) (.head _)) (fun w2 H2 h3 => (by have h9 := Zy sb e2 gx hgx (a - min b a) (max (max 1 (a + 1)) ((a - min b a) + 1)) hF2 (min a b) I (some ⟨b7, cut1 0 1 3, none⟩) (3 - 1) w2 (Cn (aH (b := b7) (bD _ (.head _)) w1 qx1) (St.notin (A := sH sb e2 gx (a - min b a)) qx1 (x := _) (.head _)) rP h3) (by rintro _ ⟨rfl⟩; exact St.notin (A := sH sb e2 gx (a - min b a)) qx1 (x := _) (.head _)) (St.lentV h3); rw [hsum] at h9; exact h9)) q0)) U ?_
  rintro v5 _ ⟨_, ⟨G5, _, hV5, ⟨e3, hE3, hT2, hd3, rfl⟩, rfl⟩, rfl⟩
  obtain ⟨a64, c5, rfl⟩ := hV5.slice
  have hF3 : e3.Fine gx a (max (max (max 1 (a + 1)) ((a - min b a) + 1)) (a + 1)) := ⟨hE3, aR, aR, aR⟩
  refine cZ (H' := sH sb e3 gx a ++ (G3 ++ (G2 ++ (G1 ++ ([]))))) (fun _ h => St.fl [[_], G5, sH sb e3 gx a, G3 ++ (G2 ++ (G1 ++ ([])))] [2, 3] U (h.as xI)) ?_
  refine Pg ?_
  rintro _ _ ⟨b8, rfl, rfl⟩
  refine RX (eO (F := [(b8, J (([18] : AB).map Z) 5)]) (A := sH sb e3 gx a) (G := G3 ++ (G2 ++ (G1 ++ ([])))) K_ U (fun w1 q0 qx1 => nS sb (sH sb e3 gx a) 18 M b8 ([] : AB) 1 tQ tY 54 U Lt (leB (Gr (gx.enc a)) 8) 0 (fun A' => A' = sH sb e3 gx a) (C6 _) w1 (aH (b := b8) (bD _ (.head _)) w1 qx1) (St.notin (A := sH sb e3 gx a) qx1 (x := _) (.head _)) (fun w2 H2 h3 => aB6 sb e3 gx hgx a (max (max (max 1 (a + 1)) ((a - min b a) + 1)) (a + 1)) hF3 _ w2 (St.lentV h3)) q0)) U ?_
  rintro v6 _ ⟨_, ⟨G6, _, hV6, rfl, rfl⟩, rfl⟩
  obtain ⟨a67, c6, rfl⟩ := hV6.slice
  refine cZ (H' := sH sb e3 gx a ++ (G6 ++ (G3 ++ (G2 ++ (G1 ++ ([])))))) (fun _ h => St.fl [[_], G6, sH sb e3 gx a, G3 ++ (G2 ++ (G1 ++ ([])))] [2, 1, 3] U (h.as xI)) ?_
  refine ZBE ?_
  refine W (dG K_ U (fun w hw => zH a67 a46 c6 cx1 ([((18 : Nat) : Int), 0 % 256] ++ (if (0 : Int) = 0 then (leB (Gr (gx.enc a)) 8) else [])) (Dw (by exact C6 _) _) w (sW hV6 hw (fun x hx => bD _ tZ)) (sW hV1 hw (fun x hx => bD _ tZ)))) U (ZAm ?_)
  refine Sb ?_
  rintro _ _ ⟨b9, rfl, rfl⟩
  refine RX (eO (F := [(b9, J (([14] : AB).map Z) 5)]) (A := sH sb e3 gx a) (G := G6 ++ (G3 ++ (G2 ++ (G1 ++ ([]))))) K_ U (fun w1 q0 qx1 => nS sb (sH sb e3 gx a) 14 M b9 ([] : AB) 1 tQ tY 50 U Ls (zS (Hs.callsL (gx.sts a))) 0 (fun A' => A' = sH sb e3 gx a) (Yh _) w1 (aH (b := b9) (bD _ (.head _)) w1 qx1) (St.notin (A := sH sb e3 gx a) qx1 (x := _) (.head _)) (fun w2 H2 h3 => aBc sb e3 gx hgx a (max (max (max 1 (a + 1)) ((a - min b a) + 1)) (a + 1)) hF3 _ w2 (St.lentV h3)) q0)) U ?_
  rintro v7 _ ⟨_, ⟨G7, _, hV7, rfl, rfl⟩, rfl⟩
  obtain ⟨a73, c7, rfl⟩ := hV7.slice
  refine cZ (H' := sH sb e3 gx a ++ (G7 ++ (G6 ++ (G3 ++ (G2 ++ (G1 ++ ([]))))))) (fun _ h => St.fl [[_], G7, sH sb e3 gx a, G6 ++ (G3 ++ (G2 ++ (G1 ++ ([]))))] [2, 1, 3] U (h.as xI)) ?_
  refine ZBE ?_
  refine W (dG K_ U (fun w hw => zH a73 a49 c7 c2 ([((14 : Nat) : Int), 0 % 256] ++ (if (0 : Int) = 0 then (zS (Hs.callsL (gx.sts a))) else [])) (Dw (by exact Yh _) _) w (sW hV7 hw (fun x hx => bD _ tZ)) (sW hV2 hw (fun x hx => bD _ tZ)))) U (ZA7 ?_)
  refine Mw ?_
  rintro _ _ ⟨b10, rfl, rfl⟩
  refine RX (eO (F := [(b10, J (([15] : AB).map Z) 5)]) (A := sH sb e3 gx a) (G := G7 ++ (G6 ++ (G3 ++ (G2 ++ (G1 ++ ([])))))) K_ U (fun w1 q0 qx1 => nS sb (sH sb e3 gx a) 15 M b10 ([] : AB) 1 tQ tY 51 U Nb (Ai ((Hs.lastL (gx.sts a) 32).map Hs.recOf)) 0 (fun A' => A' = sH sb e3 gx a) (I8 _) w1 (aH (b := b10) (bD _ (.head _)) w1 qx1) (St.notin (A := sH sb e3 gx a) qx1 (x := _) (.head _)) (fun w2 H2 h3 => aBy sb e3 gx hgx a (max (max (max 1 (a + 1)) ((a - min b a) + 1)) (a + 1)) hF3 _ w2 (St.lentV h3)) q0)) U ?_
  rintro v8 _ ⟨_, ⟨G8, _, hV8, rfl, rfl⟩, rfl⟩
  obtain ⟨a80, c8, rfl⟩ := hV8.slice
  refine cZ (H' := sH sb e3 gx a ++ (G8 ++ (G7 ++ (G6 ++ (G3 ++ (G2 ++ (G1 ++ ([])))))))) (fun _ h => St.fl [[_], G8, sH sb e3 gx a, G7 ++ (G6 ++ (G3 ++ (G2 ++ (G1 ++ ([])))))] [2, 1, 3] U (h.as xI)) ?_
  refine ZBE ?_
  refine W (dG K_ U (fun w hw => zH a80 a52 c8 c3 ([((15 : Nat) : Int), 0 % 256] ++ (if (0 : Int) = 0 then (Ai ((Hs.lastL (gx.sts a) 32).map Hs.recOf)) else [])) (Dw (by exact I8 _) _) w (sW hV8 hw (fun x hx => bD _ tZ)) (sW hV3 hw (fun x hx => bD _ tZ)))) U (ZBy ?_)
  exact EV U (du _) ⟨U, U⟩
 refine DR [1, 2, 4] (bW [0, 4, 8, 3, 7, 11, 12]) ?_
 refine Lv ?_
 refine Lv ?_
 refine ZBE ?_
 refine DX U (cQ K_ U (fun w hw => aAF g w (hg.later hw) hbad I)) U T3 ?_
 rintro _ _ ⟨_, ⟨b1, rfl, rfl⟩, rfl⟩
 refine DX U (cQ K_ U (fun w hw => aDO g w (hg.later hw) I)) U aCb ?_
 rintro _ _ ⟨Gp, ⟨pa, pc, rfl, hP⟩, rfl⟩
 refine ZEC ?_
 refine DX U (eO (F := []) (A := [(b1, J ((romQ g.q).map Z) 5)]) (G := Gp ++ [(b0, J (cGs g) 25)]) K_ U (fun w q0 _ => aNo (romQ g.q) (by rw [Xp]; decide) (aBC hg) he9 pa g.q.plan.length pc cap b1 w q0)) U aW ?_
 rintro _ _ ⟨_, ⟨sb, b2, cs, rfl, hcs, rfl⟩, rfl⟩
 refine ZBy ?_
 refine cZ (H' := [(sb, J (fX b2) 50), (b2, J cs 76)] ++ ([])) (fun _ h => h.sub (fi (du _) _)) ?_
 refine nD ?_
 refine RW (v := (.int .i64 (a : Int))) U U (aD _ ((cn I).trans ha.symm)) (nD ?_)
 refine RW (v := (.int .i64 (b : Int))) U U (aD _ ((cn I).trans hb.symm)) (ZDG ?_)
 refine ZCw ?_
 rintro _ _ ⟨b3, rfl, rfl⟩
 refine RX (cQ K_ U (fun w1 hw => nS sb ([]) 1 M b3 ([a, 0] : AB) 3 Bz rP 37 U K1 (qB 0 0) 14 (fun A' => A' = []) (by exact Fe _ _) w1 (aH (b := b3) (.head _) w1 hw) aL (fun w2 H2 h3 => aAg sb b2 ([a, 0] : AB) Oa Rc _ _ w2 (Cn (aH (b := b3) (.head _) w1 hw) aL rP h3) (cB (bN (b := sb) (l := fX b2) (off := 2) (.tail _ (.head _)) U w1 hw) aL w2 h3) (cB (bN (b := b2) (l := cs) (off := 1) (.tail _ (.tail _ (.head _))) hcs w1 hw) aL w2 h3)) (St.refl w1))) U ?_
 rintro v0 _ ⟨_, ⟨G0, _, hV0, rfl, rfl⟩, rfl⟩
 obtain ⟨a43, c0, rfl⟩ := hV0.slice
 refine cZ (H' := [(sb, J (fX b2) 50), (b2, J cs 76)] ++ ([])) (fun _ h => St.fl [G0, [_], [(sb, J (fX b2) 50), (b2, J cs 76)], []] [2, 3] U (h.as yL)) ?_
 refine Pg ?_
 rintro _ _ ⟨b4, rfl, rfl⟩
 refine RX (cQ K_ U (fun w1 hw => nS sb ([]) 18 M b4 ([] : AB) 1 tQ tY 54 U Lt [] 14 (fun A' => A' = []) M w1 (aH (b := b4) (.head _) w1 hw) aL (fun w2 H2 h3 => aAn sb b2 _ w2 (cB (bN (b := sb) (l := fX b2) (off := 2) (.tail _ (.head _)) U w1 hw) aL w2 h3) (cB (bN (b := b2) (l := cs) (off := 1) (.tail _ (.tail _ (.head _))) hcs w1 hw) aL w2 h3)) (St.refl w1))) U ?_
 rintro v1 _ ⟨_, ⟨G1, _, hV1, rfl, rfl⟩, rfl⟩
 obtain ⟨a46, cx1, rfl⟩ := hV1.slice
 refine cZ (H' := [(sb, J (fX b2) 50), (b2, J cs 76)] ++ (G1 ++ ([]))) (fun _ h => St.fl [G1, [_], [(sb, J (fX b2) 50), (b2, J cs 76)], []] [2, 0, 3] U (h.as yL)) ?_
 refine ZBn ?_
 refine Sb ?_
 rintro _ _ ⟨b5, rfl, rfl⟩
 refine RX (cQ K_ U (fun w1 hw => nS sb ([]) 14 M b5 ([] : AB) 1 tQ tY 50 U Ls [] 14 (fun A' => A' = []) M w1 (aH (b := b5) (.head _) w1 hw) aL (fun w2 H2 h3 => aA6 sb b2 _ w2 (cB (bN (b := sb) (l := fX b2) (off := 2) (.tail _ (.head _)) U w1 hw) aL w2 h3) (cB (bN (b := b2) (l := cs) (off := 1) (.tail _ (.tail _ (.head _))) hcs w1 hw) aL w2 h3)) (St.refl w1))) U ?_
 rintro v2 _ ⟨_, ⟨G2, _, hV2, rfl, rfl⟩, rfl⟩
 obtain ⟨a49, c2, rfl⟩ := hV2.slice
 refine cZ (H' := [(sb, J (fX b2) 50), (b2, J cs 76)] ++ (G2 ++ (G1 ++ ([])))) (fun _ h => St.fl [G2, [_], [(sb, J (fX b2) 50), (b2, J cs 76)], G1 ++ ([])] [2, 0, 3] U (h.as yL)) ?_
 refine ZBE ?_
 refine Mw ?_
 rintro _ _ ⟨b6, rfl, rfl⟩
 refine RX (cQ K_ U (fun w1 hw => nS sb ([]) 15 M b6 ([] : AB) 1 tQ tY 51 U Nb [] 14 (fun A' => A' = []) M w1 (aH (b := b6) (.head _) w1 hw) aL (fun w2 H2 h3 => N6 sb b2 _ w2 (cB (bN (b := sb) (l := fX b2) (off := 2) (.tail _ (.head _)) U w1 hw) aL w2 h3) (cB (bN (b := b2) (l := cs) (off := 1) (.tail _ (.tail _ (.head _))) hcs w1 hw) aL w2 h3)) (St.refl w1))) U ?_
 rintro v3 _ ⟨_, ⟨G3, _, hV3, rfl, rfl⟩, rfl⟩
 obtain ⟨a52, c3, rfl⟩ := hV3.slice
 refine cZ (H' := [(sb, J (fX b2) 50), (b2, J cs 76)] ++ (G3 ++ (G2 ++ (G1 ++ ([]))))) (fun _ h => St.fl [G3, [_], [(sb, J (fX b2) 50), (b2, J cs 76)], G2 ++ (G1 ++ ([]))] [2, 0, 3] U (h.as yL)) ?_
 refine ZDG ?_
 refine ZCx ?_
 rintro _ _ ⟨b7, rfl, rfl⟩
 refine RX (cQ K_ U (fun w1 hw => nS sb ([]) 2 M b7 ([b, 0] : AB) 3 Bz rP 38 U K2 (qB 0 0) 14 (fun A' => A' = []) (by exact Fe _ _) w1 (aH (b := b7) (.head _) w1 hw) aL (fun w2 H2 h3 => aOq sb b2 ([b, 0] : AB) Oa Rc _ _ w2 (Cn (aH (b := b7) (.head _) w1 hw) aL rP h3) (cB (bN (b := sb) (l := fX b2) (off := 2) (.tail _ (.head _)) U w1 hw) aL w2 h3) (cB (bN (b := b2) (l := cs) (off := 1) (.tail _ (.tail _ (.head _))) hcs w1 hw) aL w2 h3)) (St.refl w1))) U ?_
 rintro v4 _ ⟨_, ⟨G4, _, hV4, rfl, rfl⟩, rfl⟩
 obtain ⟨a57, c4, rfl⟩ := hV4.slice
 refine cZ (H' := [(sb, J (fX b2) 50), (b2, J cs 76)] ++ (G3 ++ (G2 ++ (G1 ++ ([]))))) (fun _ h => St.fl [G4, [_], [(sb, J (fX b2) 50), (b2, J cs 76)], G3 ++ (G2 ++ (G1 ++ ([])))] [2, 3] U (h.as yL)) ?_
 refine aI ?_
 refine RW (v := (.int .i64 ((min a b : Nat) : Int))) (vD U U) U (aD _ I) (ZCK ?_)
 rintro _ _ ⟨b8, rfl, rfl⟩
 refine RX (cQ K_ U (fun w1 hw => nS sb ([]) 1 M b8 ([((min a b : Nat) : Int), 0] : AB) 3 Bz rP 37 U K1 (qB 0 0) 14 (fun A' => A' = []) (by exact Fe _ _) w1 (aH (b := b8) (.head _) w1 hw) aL (fun w2 H2 h3 => aAg sb b2 ([((min a b : Nat) : Int), 0] : AB) Oa Rc _ _ w2 (Cn (aH (b := b8) (.head _) w1 hw) aL rP h3) (cB (bN (b := sb) (l := fX b2) (off := 2) (.tail _ (.head _)) U w1 hw) aL w2 h3) (cB (bN (b := b2) (l := cs) (off := 1) (.tail _ (.tail _ (.head _))) hcs w1 hw) aL w2 h3)) (St.refl w1))) U ?_
 rintro v5 _ ⟨_, ⟨G5, _, hV5, rfl, rfl⟩, rfl⟩
 obtain ⟨a64, c5, rfl⟩ := hV5.slice
 refine cZ (H' := [(sb, J (fX b2) 50), (b2, J cs 76)] ++ (G3 ++ (G2 ++ (G1 ++ ([]))))) (fun _ h => St.fl [G5, [_], [(sb, J (fX b2) 50), (b2, J cs 76)], G3 ++ (G2 ++ (G1 ++ ([])))] [2, 3] U (h.as yL)) ?_
 refine Pg ?_
 rintro _ _ ⟨b9, rfl, rfl⟩
 refine RX (cQ K_ U (fun w1 hw => nS sb ([]) 18 M b9 ([] : AB) 1 tQ tY 54 U Lt [] 14 (fun A' => A' = []) M w1 (aH (b := b9) (.head _) w1 hw) aL (fun w2 H2 h3 => aAn sb b2 _ w2 (cB (bN (b := sb) (l := fX b2) (off := 2) (.tail _ (.head _)) U w1 hw) aL w2 h3) (cB (bN (b := b2) (l := cs) (off := 1) (.tail _ (.tail _ (.head _))) hcs w1 hw) aL w2 h3)) (St.refl w1))) U ?_
 rintro v6 _ ⟨_, ⟨G6, _, hV6, rfl, rfl⟩, rfl⟩
 obtain ⟨a67, c6, rfl⟩ := hV6.slice
 refine cZ (H' := [(sb, J (fX b2) 50), (b2, J cs 76)] ++ (G6 ++ (G3 ++ (G2 ++ (G1 ++ ([])))))) (fun _ h => St.fl [G6, [_], [(sb, J (fX b2) 50), (b2, J cs 76)], G3 ++ (G2 ++ (G1 ++ ([])))] [2, 0, 3] U (h.as yL)) ?_
 refine ZBE ?_
 refine W (dG K_ U (fun w hw => zH a67 a46 c6 cx1 ([((18 : Nat) : Int), 14 % 256] ++ (if (14 : Int) = 0 then ([] : AB) else [])) (Dw M _) w (sW hV6 hw (fun x hx => bD _ tZ)) (sW hV1 hw (fun x hx => bD _ tZ)))) U (ZAm ?_)
 refine Sb ?_
 rintro _ _ ⟨b10, rfl, rfl⟩
 refine RX (cQ K_ U (fun w1 hw => nS sb ([]) 14 M b10 ([] : AB) 1 tQ tY 50 U Ls [] 14 (fun A' => A' = []) M w1 (aH (b := b10) (.head _) w1 hw) aL (fun w2 H2 h3 => aA6 sb b2 _ w2 (cB (bN (b := sb) (l := fX b2) (off := 2) (.tail _ (.head _)) U w1 hw) aL w2 h3) (cB (bN (b := b2) (l := cs) (off := 1) (.tail _ (.tail _ (.head _))) hcs w1 hw) aL w2 h3)) (St.refl w1))) U ?_
 rintro v7 _ ⟨_, ⟨G7, _, hV7, rfl, rfl⟩, rfl⟩
 obtain ⟨a73, c7, rfl⟩ := hV7.slice
 refine cZ (H' := [(sb, J (fX b2) 50), (b2, J cs 76)] ++ (G7 ++ (G6 ++ (G3 ++ (G2 ++ (G1 ++ ([]))))))) (fun _ h => St.fl [G7, [_], [(sb, J (fX b2) 50), (b2, J cs 76)], G6 ++ (G3 ++ (G2 ++ (G1 ++ ([]))))] [2, 0, 3] U (h.as yL)) ?_
 refine ZBE ?_
 refine W (dG K_ U (fun w hw => zH a73 a49 c7 c2 ([((14 : Nat) : Int), 14 % 256] ++ (if (14 : Int) = 0 then ([] : AB) else [])) (Dw M _) w (sW hV7 hw (fun x hx => bD _ tZ)) (sW hV2 hw (fun x hx => bD _ tZ)))) U (ZA7 ?_)
 refine Mw ?_
 rintro _ _ ⟨b11, rfl, rfl⟩
 refine RX (cQ K_ U (fun w1 hw => nS sb ([]) 15 M b11 ([] : AB) 1 tQ tY 51 U Nb [] 14 (fun A' => A' = []) M w1 (aH (b := b11) (.head _) w1 hw) aL (fun w2 H2 h3 => N6 sb b2 _ w2 (cB (bN (b := sb) (l := fX b2) (off := 2) (.tail _ (.head _)) U w1 hw) aL w2 h3) (cB (bN (b := b2) (l := cs) (off := 1) (.tail _ (.tail _ (.head _))) hcs w1 hw) aL w2 h3)) (St.refl w1))) U ?_
 rintro v8 _ ⟨_, ⟨G8, _, hV8, rfl, rfl⟩, rfl⟩
 obtain ⟨a80, c8, rfl⟩ := hV8.slice
 refine cZ (H' := [(sb, J (fX b2) 50), (b2, J cs 76)] ++ (G8 ++ (G7 ++ (G6 ++ (G3 ++ (G2 ++ (G1 ++ ([])))))))) (fun _ h => St.fl [G8, [_], [(sb, J (fX b2) 50), (b2, J cs 76)], G7 ++ (G6 ++ (G3 ++ (G2 ++ (G1 ++ ([])))))] [2, 0, 3] U (h.as yL)) ?_
 refine ZBE ?_
 refine W (dG K_ U (fun w hw => zH a80 a52 c8 c3 ([((15 : Nat) : Int), 14 % 256] ++ (if (14 : Int) = 0 then ([] : AB) else [])) (Dw M _) w (sW hV8 hw (fun x hx => bD _ tZ)) (sW hV3 hw (fun x hx => bD _ tZ)))) U (ZBy ?_)
 exact EV U (du _) ⟨U, U⟩
end Go.Proofs.YthigpmaadmneaaaGreatDoor
