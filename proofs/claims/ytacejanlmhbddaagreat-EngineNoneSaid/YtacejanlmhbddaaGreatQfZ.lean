/- Parts. -/
import Derived.Test.YtacejanlmhbddaaGreatQfN
import Derived.Test.YtacejanlmhbddaaGreatQfS
set_option maxRecDepth 100000
set_option maxHeartbeats 1000000
set_option linter.all false
namespace Go.VV
open Go Go.ChangeShapes Go.WideShapes Go.ChangeAt Go.RowKit
section
variable {H : Type} {enc : AJ × AH → H} {P : AL} {W : AI}
def aTb {x : Int} (h : (Lit.int .u16 x).wf = true) : 0 ≤ x ∧ x < 65536 := by
 simp only [Lit.wf, aq, decide_eq_true_eq] at h
 have h1 : IntKind.u16.min = 0 := by decide
 have h2 : IntKind.u16.max = 65535 := by decide
 omega
end
section
variable {H : Type} {enc : AJ × AH → H} {P : AL} {W : AI} {base : Nat} {spare : Nat → Bool} {held : Bool}
def aO6 {α : Type} {r : Reach} {b0 : Nat} {t : AJ} {fs : Array Field} {ks : List CK} {c : α → AA} {p : α → Prop} {v : AH} {d : DataW H} {q : List MemPlace} (ht : P.underlying t = some (.struct fs)) (hk : nN P 9 t = some ks)
  (hp : ∀ cs, Cks ks cs → ∃ x, cs = c x ∧ p x) (hv : Value.okWide P W r b0 t v) (h : DataW.Trod enc P W base spare held t v d q) :
  ∃ x : α, v = .agg (c x).toArray ∧ p x := by
 obtain ⟨⟨cs⟩, rfl, _⟩ := okWide_struct ht hv
 obtain ⟨fuel, hf⟩ := h
 have h1 := aBE 9 hk hf
 simp only [Value.cells] at h1
 obtain ⟨x, hx, hpx⟩ := hp _ h1
 exact ⟨x, by rw [← hx], hpx⟩
end
end Go.VV
namespace Go.VV
open Go
end Go.VV
namespace Go.VV
open Go Go.RowKit
end Go.VV
namespace Go.VV
open Go
def aSk {k : AM} {ks : List CK} {cs : AA} (h : Cks (.int k :: ks) cs) : ∃ n vs, cs = .int k n :: vs ∧ (Lit.int k n).wf = true ∧ Cks ks vs := by
 cases cs with
 | nil => exact h.elim
 | cons v vs => obtain ⟨⟨n, rfl, hn⟩, h2⟩ := h; exact ⟨n, vs, rfl, hn, h2⟩
def aUW {cs : AA} (h : Cks [] cs) : cs = [] := by
 cases cs with
 | nil => rfl
 | cons v vs => exact h.elim
end Go.VV
namespace Go.Proofs.YtacejanlmhbddaaGreat.Hs
open Go Go.VV Go.Proofs Go.Proofs.Tryz
def copy0_fn (w : AI) : aB prog 56 [.pointer none] w [] (V_ (.pointer none)) := by
 refine dR_ func56 ?_
 refine A_16 ?_
 exact E0 rfl ⟨rfl, rfl⟩
end Go.Proofs.YtacejanlmhbddaaGreat.Hs
namespace Go.Proofs.YtacejanlmhbddaaGreat
open Go Go.VV Go.Proofs Go.RowKit Go.Proofs.Tryz
def readyM_fn (b : Nat) (w : AI) (h1 : w.cell? ⟨b, 1, none⟩ = some (.pointer none)) : aB prog 47 [P_ b] w [] (V_ (.bool false)) := by
 refine dR_ func47 ?_
 refine ZDH ?_
 refine ZAQ ?_
 refine ZBr ?_
 refine RZ (aE rfl rfl (aV h1 y_r)) rfl (ZAE ?_)
 exact ZAi
def aKN (w : AI) : aB prog 47 [.pointer none] w [] (V_ (.bool false)) := by
 refine dR_ func47 ?_
 refine ZDH ?_
 refine ZAE ?_
 refine A_10 ?_
 exact E0 rfl ⟨rfl, rfl⟩
def aRe (w : AI) : aB prog 23 [.pointer none] w [] (V_ (.int .u64 0)) := by
 refine dR_ func23 ?_
 refine ZEf ?_
 exact ZE2
def aOW (w : AI) : aB prog 21 [.pointer none] w [] (V_ (.pointer none)) := by
 refine dR_ func21 ?_
 refine ZEf ?_
 exact ZE2
def aNC (b : Nat) (w : AI) (h1 : w.cell? ⟨b, 1, none⟩ = some (.pointer none)) : aB prog 21 [P_ b] w [] (V_ (.pointer none)) := by
 refine dR_ func21 ?_
 refine ZCZ ?_
 refine ZEf ?_
 exact RZ (aE rfl rfl (aV h1 y_r)) rfl ZAR
def aOv (w : AI) : aB prog 16 [.pointer none] w [] (V_ (.int .u64 0)) := by
 refine dR_ func16 ?_
 refine ZEf ?_
 exact ZE2
def aJU (w : AI) : aB prog 18 [.pointer none] w [] (V_ (.slice none 0 0)) := by
 refine dR_ func18 ?_
 refine ZEf ?_
 exact ZE2
def aOr (w : AI) : aB prog 25 [.pointer none] w [] (V_ (.pointer none)) := by
 refine dR_ func25 ?_
 refine ZEf ?_
 exact ZE2
def aM3 (b : Nat) (w : AI) (h2 : w.cell? ⟨b, 2, none⟩ = some (.pointer none)) : aB prog 25 [P_ b] w [] (V_ (.pointer none)) := by
 refine dR_ func25 ?_
 refine ZCZ ?_
 refine ZEf ?_
 refine RZ (aE rfl rfl (aV h2 y_r)) rfl (RLv K_ (wQ_ Hs.copy0_fn) ?_)
 exact ZAR
def aOK (w : AI) : aB prog 27 [.pointer none] w [] (V_ (.tuple #[])) := by
 refine dR_ func27 ?_
 refine ZA1 ?_
 refine ZEy ?_
 exact aG (fun _ _ => eT) ⟨rfl, rfl⟩
def aNr (r p : AH) (w : AI) : aB prog 12 [.pointer none, r, p] w [] (V_ (.int .i64 14)) := by
 refine dR_ func12 ?_
 refine ZEf ?_
 exact ZE2
def aPI {b c n : Nat} : Value.slice (some ⟨b, iA 0 0 2 c, none⟩) (n - 0) (c - 0) = .slice (Q_ b) n c := by simp [iA]
def cDn (cap : Int) (f pv : AH) (done : Int) (tab : AH) : AA := [.int .i64 cap, .pointer none, .pointer none, .int .u64 0, f, .pointer none, .map none, pv, .slice none 0 0, .int .u32 0, .int .u64 done, tab]
def aJ0 (b : Nat) (N : Int) (w : AI) (h1 : w.cell? ⟨b, 1, none⟩ = some (.pointer none)) : aB prog 15 [P_ b, .int .u64 N] w [] (V_ (.tuple #[.agg (cSt 0 0 0 false).toArray, .int .i64 14])) := by
 refine dR_ func15 ?_
 refine ZDX fun b0 => ?_
 refine ZBm ?_
 refine ZBb ?_
 refine RS ?_
 refine ZAW ?_
 exact ZAk
def aIU (N : Int) (w : AI)  : aB prog 15 [.pointer none, .int .u64 N] w [] (V_ (.tuple #[.agg (cSt 0 0 0 false).toArray, .int .i64 14])) := by
 refine dR_ func15 ?_
 refine ZDX fun b0 => ?_
 refine ZBn ?_
 refine RLv K_ (wQ_ aKN) ?_
 refine ZBb ?_
 refine RS ?_
 refine ZAW ?_
 exact ZAk
def aKR (b : Nat) (N : Int) (w : AI) (h1 : w.cell? ⟨b, 1, none⟩ = some (.pointer none)) : aB prog 17 [P_ b, .int .u64 N] w [] (V_ (.tuple #[.agg (cSt 0 0 0 false).toArray, .int .i64 14])) := by
 refine dR_ func17 ?_
 refine ZDX fun b0 => ?_
 refine ZDH ?_
 refine RLv K_ (fun w hw => readyM_fn b w (aV h1 y_r w hw)) ?_
 refine ZBn ?_
 refine RS ?_
 refine ZAW ?_
 exact ZAk
def aMn (b : Nat) (N : Int) (w : AI) (h1 : w.cell? ⟨b, 1, none⟩ = some (.pointer none)) : aB prog 19 [P_ b, .int .u64 N] w [] (V_ (.tuple #[.agg (cSt 0 0 0 false).toArray, .int .i64 14])) := by
 refine dR_ func19 ?_
 refine ZDX fun b0 => ?_
 refine ZBm ?_
 refine ZBb ?_
 refine RS ?_
 refine ZAW ?_
 exact ZAk
def aET (b : Nat) (N : Int) (w : AI) (h1 : w.cell? ⟨b, 1, none⟩ = some (.pointer none)) : aB prog 28 [P_ b, .int .u64 N] w [] (V_ (.tuple #[.agg (cSt 0 0 0 false).toArray, .int .i64 14])) := by
 refine dR_ func28 ?_
 refine ZDX fun b0 => ?_
 refine ZBm ?_
 refine ZBb ?_
 refine RS ?_
 refine ZAW ?_
 exact ZAk
def aFt (b : Nat) (w : AI) (h1 : w.cell? ⟨b, 1, none⟩ = some (.pointer none)) : aB prog 29 [P_ b] w [] (V_ (.tuple #[.agg (cSt 0 0 0 false).toArray, .int .i64 14])) := by
 refine dR_ func29 ?_
 refine ZDX fun b0 => ?_
 refine ZBm ?_
 refine ZBb ?_
 refine RS ?_
 refine ZAW ?_
 exact ZAk
def aMx (b : Nat) (N : Int) (w : AI) (h1 : w.cell? ⟨b, 1, none⟩ = some (.pointer none)) : aB prog 33 [P_ b, .int .u64 N] w [] (V_ (.tuple #[.agg (cSt 0 0 0 false).toArray, .int .i64 14])) := by
 refine dR_ func33 ?_
 refine ZAl ?_
 refine RX (cM rfl rfl) rfl (ZCc fun b0 b1 => ?_)
 refine ZBm ?_
 refine ZBb ?_
 refine RS ?_
 refine ZAW ?_
 exact ZEC
def aO8 (b : Nat) (N : Int) (w : AI) (h1 : w.cell? ⟨b, 1, none⟩ = some (.pointer none)) : aB prog 34 [P_ b, .int .u64 N] w [] (V_ (.tuple #[.agg (cSt 0 0 0 false).toArray, .int .i64 14])) := by
 refine dR_ func34 ?_
 refine ZAl ?_
 refine RX (cM rfl rfl) rfl (ZCc fun b0 b1 => ?_)
 refine ZBm ?_
 refine ZBb ?_
 refine RS ?_
 refine ZAW ?_
 exact ZEC
def aPT (b : Nat) (cap : Int) (tab : AH) (x y : Int) (hx : x < 512) (w : AI) (hst : St w [b] [(b, blk (cDz cap tab) 108)] w) : aB prog 30 [P_ b, .agg #[.int .i64 x, .int .u16 y]] w [b] (fun v H => v = .int .i64 0 ∧ ∃ bp cp sp, ([.int .i64 x, .int .u16 y] ++ sp : AA).length = cp * 2 ∧ 1 ≤ cp ∧ cp ≤ maxLen ∧ H = [(b, blk (cDn cap (.slice none 0 0) (.slice (Q_ bp) 1 cp) 0 tab) 108), (bp, blk ([.int .i64 x, .int .u16 y] ++ sp) 67)]) := by
 refine dO_ func30 hst ?_
 refine ZEr ?_
 refine ZAq fun b0 => ?_
 refine ZDH ?_
 refine ZAE ?_
 refine ZDH ?_
 refine ZAJ ?_
 refine ZEf ?_
 refine RZ (aE rfl rfl (aJ (b := b) (l := cDz cap tab) m_m y_cs)) rfl (ZBE ?_)
 refine ZAE ?_
 refine ZBb ?_
 refine DR [5, 6] (pln [0, 2, 4, 6, 8, 10, 13, 15, 16, 18, 21]) ?_
 refine ZBr ?_
 refine DL rfl rfl rfl (cJ (b := b) (l := cDz cap tab) m_m y_cs) rfl (cL rfl rfl rfl rfl (dV (b := b0) (l := [.int .i64 x, .int .u16 y]) m_m) rfl rfl ?_)
 refine DX rfl (dX (z := [.int .i64 0, .int .u16 0]) (l := [.int .i64 x, .int .u16 y]) (ps := [(0, .agg #[.int .i64 x, .int .u16 y])]) rfl rfl rfl rfl rfl rfl) rfl y_n ?_
 rintro _ _ ⟨b1, rfl, rfl⟩
 refine DX rfl (gD (A := [(b1, _)]) (G := []) (R := [(b0, _), (b, _)]) (v := .slice none 0 0) (n := 0) (xs := []) (m := 1) (T := 67) (s := 2) (by_ := 16) (ys := [.int .i64 x, .int .u16 y]) rfl rfl rfl rfl .nil (fun w hw => .row _ _ _ _ _ rfl (aA (b := b1) (.head _) w hw)) rfl o_m o_m) rfl n_h ?_
 rintro v0 _ ⟨G0, hV0, _, rfl⟩
 obtain ⟨bp, cp, sp, rfl, rfl, hz26, hc0, hm26⟩ := hV0.full o_m
 refine ZAl ?_
 refine DZ rfl (xS_ (l' := cDn cap (.slice none 0 0) (.slice (Q_ bp) 1 cp) 0 tab) 3) rfl n_h (ZBn ?_)
 refine eY (H' := [(b, blk (cDn cap (.slice none 0 0) (.slice (Q_ bp) 1 cp) 0 tab) 108), (bp, blk ([.int .i64 x, .int .u16 y] ++ sp) 67)]) (fun _ _ => sR rfl) (fun _ h => St.fl [[(bp, blk ([.int .i64 x, .int .u16 y] ++ sp) 67)], [(b1, _)], [(b0, _)], [(b, _)]] [3, 0] rfl h) ⟨rfl, bp, cp, sp, hz26, y_y, hm26, rfl⟩
def aNI (b : Nat) (x y : Int) (hx : 512 ≤ x) (w : AI) : aB prog 30 [P_ b, .agg #[.int .i64 x, .int .u16 y]] w [] (V_ (.int .i64 1)) := by
 refine dR_ func30 ?_
 refine ZEr ?_
 refine ZAq fun b0 => ?_
 refine ZDH ?_
 refine ZAE ?_
 refine ZDH ?_
 refine ZBD ?_
 refine ZEf ?_
 exact E0 rfl ⟨rfl, rfl⟩
def aNG (x y : Int) (w : AI) : aB prog 30 [.pointer none, .agg #[.int .i64 x, .int .u16 y]] w [] (V_ (.int .i64 14)) := by
 refine dR_ func30 ?_
 refine ZEr ?_
 refine ZAq fun b0 => ?_
 refine ZDH ?_
 refine ZAQ ?_
 refine ZEf ?_
 exact E0 rfl ⟨rfl, rfl⟩
def aPR (bp cp : Nat) (x y : Int) (sp : AA) (hz : ([.int .i64 x, .int .u16 y] ++ sp : AA).length = cp * 2) (hc : 1 ≤ cp) (w : AI) (hb : w.heap[bp]? = some (blk ([.int .i64 x, .int .u16 y] ++ sp) 67)) : aB prog 69 [.slice (Q_ bp) 1 cp, .int .i64 0, .int .i64 1] w [bp] (fun v H => v = .slice (Q_ bp) 0 cp ∧ ∃ l, H = [(bp, blk l 67)]) := by
 refine mC func69 rfl rfl rfl (St.lent1 hb) ?_
 refine A_10 ?_
 refine ZBE ?_
 refine RY (zK (s := 2) 0 1 1 rfl rfl rfl rfl rfl rfl rfl rfl o_m o_m hc) rfl (ZBn ?_)
 refine ZAE ?_
 refine ZBn ?_
 refine ZC1 ?_
 refine DR [] (pln [0, 2, 4, 6, 8, 10, 13, 14]) ?_
 refine ZAl ?_
 refine DW (v := (.slice (Q_ bp) 0 cp)) rfl (gQ (s := 2) 0 0 rfl rfl rfl rfl rfl rfl o_m o_m) rfl aPI (ZAl ?_)
 refine DY rfl (gQ (s := 2) 1 1 rfl rfl rfl rfl rfl rfl o_m hc) rfl (DZ rfl (aAD (n := 0) (m := 0) (T := 67) (s := 2) (by_ := 16) (ys := []) 0 rfl rfl rfl rfl rfl (fun w hw => .row _ _ _ _ _ rfl (Row.nil _ _ _)) rfl o_m y_r) rfl n_h (ZBn ?_))
 refine ZBE ?_
 refine ZBL ?_
 refine RW (v := (.slice (Q_ bp) 1 cp)) (gQ (s := 2) 0 1 rfl rfl rfl rfl rfl rfl o_m hc) rfl aPI (RZ (aDB (s := 2) (z := [.int .i64 0, .int .u16 0]) 0 rfl rfl rfl rfl rfl rfl rfl o_m (by have h9 := hz; simp only [aO, La_, Lt_, Ld_, Lc_, au] at *; omega)) rfl (ZDH ?_))
 exact EV rfl sR_ ⟨rfl, _, rfl⟩
def aNp (b bp cp : Nat) (cap done x y : Int) (f tab : AH) (sp : AA) (hz : ([.int .i64 x, .int .u16 y] ++ sp : AA).length = cp * 2) (hc : 1 ≤ cp) (w : AI) (hst : St w [b, bp] [(b, blk (cDn cap f (.slice (Q_ bp) 1 cp) done tab) 108), (bp, blk ([.int .i64 x, .int .u16 y] ++ sp) 67)] w) : aB prog 35 [P_ b, .int .i64 0] w [b, bp] (fun v H => v = .int .i64 0) := by
 refine dO_ func35 hst ?_
 refine A_9 ?_
 refine ZAE ?_
 refine ZBn ?_
 refine ZAE ?_
 refine ZBb ?_
 refine RZ (aE rfl rfl (aJ (b := b) (l := cDn cap f (.slice (Q_ bp) 1 cp) done tab) m_m y_cs)) rfl (ZBE ?_)
 refine ZAE ?_
 refine A_11 ?_
 refine RZ (aE rfl rfl (aJ (b := b) (l := cDn cap f (.slice (Q_ bp) 1 cp) done tab) m_m y_cs)) rfl (ZAl ?_)
 refine ZAa ?_
 refine RX (bB (F := [(b, blk (cDn cap f (.slice (Q_ bp) 1 cp) done tab) 108)]) (A := [(bp, blk ([.int .i64 x, .int .u16 y] ++ sp) 67)]) (G := []) K_ rfl (fun w h1 _ => aPR bp cp x y sp hz hc w (h1.own_blk (.head _)))) rfl ?_
 rintro _ _ ⟨_, ⟨rfl, l9, rfl⟩, rfl⟩
 refine ZAl ?_
 refine RZ (xS_ (l' := cDn cap f (.slice (Q_ bp) 0 cp) done tab) 0) rfl (ZBn ?_)
 exact EV rfl sR_ rfl
def aOf (b : Nat) (w : AI) (h7 : w.cell? ⟨b, 7, none⟩ = some (.slice none 0 0)) : aB prog 35 [P_ b, .int .i64 0] w [] (V_ (.int .i64 7)) := by
 refine dR_ func35 ?_
 refine A_9 ?_
 refine ZAE ?_
 refine ZBn ?_
 refine ZAE ?_
 refine ZBb ?_
 refine RZ (aE rfl rfl (aV h7 y_r)) rfl (ZBE ?_)
 refine ZAQ ?_
 refine A_9 ?_
 exact E0 rfl ⟨rfl, rfl⟩
def aBL (l : AB) (x : Int) : ∀ n, n ≤ 25 → chkH (l.set 333 x) n = chkH l n
 | 0, _ => rfl
 | n + 1, h => by
  unfold chkH
  rw [aBL l x n o_m]
  have : (l.set 333 x).getD (308 + n) 0 = l.getD (308 + n) 0 := by simp [Gd_, fk, show ¬ 333 = 308 + n by omega]
  rw [this]
def aPi (g : Gq) : (romQ g).getD 333 0 = chkH (romQ g) 25 := by
 have h : (madeZ g.kind 0 2 g.prog).length = romS 0 := aA0 _ _ _ _
 have hs := aDn 0
 have q0 : (romQ g).getD 333 0 = chkH (madeZ g.kind 0 2 g.prog) 25 := by
  unfold romQ madeI
  simp [Gd_, fk, h, show 333 < romS 0 by omega]
 rw [q0]
 exact (aBL _ _ 25 y_b).symm
def badQ (g : Gq) : AB := (romQ g).set 333 (((romQ g).getD 333 0 + 1) % 256)
def aFh (g : Gq) : (badQ g).length = romS 0 := by unfold badQ; rw [ca, romQ_len]
def aK4 (g : Gq) : (badQ g).length = (romQ g).length := by unfold badQ; exact ca ..
def aKz {g : Gq} {w : AI} (h : g.Ok w) : aT (badQ g) := pQ (lA h) o_m _
def aF5 {g : Gq} {w : AI} (h : g.Ok w) : errH (badQ g) = 4 := by
 have hs := aDn 0
 have hl := aFh g
 have hb := (lA h).get 333
 have hc := aPi g
 have e1 : (badQ g).getD 333 0 = ((romQ g).getD 333 0 + 1) % 256 := by
  unfold badQ
  simp [Gd_, fk, romQ_len, show 333 < romS 0 by omega]
 have e2 : chkH (badQ g) 25 = chkH (romQ g) 25 := aBL _ _ 25 y_b
 unfold errH
 rw [if_neg o_m, if_pos (by rw [e1, e2]; omega)]
structure Pn where
 x : Int
 y : Int
def cPn (p : Pn) : AA := [.int .i64 p.x, .int .u16 p.y]
def aTf (cs : AA) (h : Cks [.int .i64, .int .u16] cs) : ∃ p, cs = cPn p ∧ True := by
 obtain ⟨x, _, rfl, _, q0⟩ := aSk h
 obtain ⟨y, _, rfl, _, q1⟩ := aSk q0
 obtain rfl := aUW q1
 exact ⟨⟨x, y⟩, rfl, trivial⟩
def gqx (g : Gq) : Gx := ⟨romQ g, [], none, 0⟩
def aLh {g : Gq} {w : AI} (hg : g.Ok w) (he : errH (romQ g) = 0) : (gqx g).Ok := ⟨y_dJ, lA hg, he, fun _ h => y_cE, al _⟩
def aJs (w : AI) : aB prog 52 [.pointer none] w [] (V_ (.slice none 0 0)) := by
 refine dR_ func52 ?_
 refine ZEf ?_
 exact ZE2
def aKZ (b : Nat) (w : AI) (h5 : w.cell? ⟨b, 5, none⟩ = some (.pointer none)) : aB prog 18 [P_ b] w [] (V_ (.slice none 0 0)) := by
 refine dR_ func18 ?_
 refine ZCZ ?_
 refine ZEf ?_
 refine RZ (aE rfl rfl (aV h5 y_r)) rfl (RLv K_ (wQ_ aJs) ?_)
 exact ZAR
set_option maxHeartbeats 2000000 in
def aRI (g : Gq) (cap n : Int) (p : Pn) (hn : 0 ≤ n ∧ n < 65536) (w : AI) (hg : g.Ok w) : aB prog 7 [.agg (cGq g).toArray, .int .i64 cap, .int .u16 n, .agg (cPn p).toArray] w [] (V_ (.bool true)) := by
 refine dR_ func7 ?_
 refine ZCT ?_
 refine ZAq fun b0 => ?_
 refine RX (cM (l := cPn p) rfl rfl) rfl ?_
 rintro _ _ ⟨b1, rfl, rfl⟩
 refine ZBb ?_
 refine RLv K_ (wQ_ lE) ?_
 refine ZAl ?_
 refine ZCI ?_
 refine ZA1 ?_
 refine KC (fun q0 z0 => ?_) (fun q0 z0 => ?_)
 ·refine ZAl ?_
  refine RLv K_ (wQ_ lE) ?_
  exact ZAR
 refine ZAl ?_
 refine ZFK fun hf9 hf8 => ?_
 refine ZAl ?_
 refine RX (bI K_ rfl (wQ_ (xG cap))) rfl ?_
 rintro _ _ ⟨G0, ⟨b2, tb, oT, rfl, hT0, rfl⟩, rfl⟩
 refine ZAl ?_
 refine jC (σ := AH × aC) [10, 37, 38, 39, 40] (fun _ => [(10, .bool (decide (p.x < 512)))]) (fun s => (b2, blk (cDn cap (.slice none 0 0) s.1 0 (P_ tb)) 108) :: (s.2 ++ [(tb, oT), (b1, blk (cPn p) 58), (b0, blk (cGq g) 25)])) (fun s => (p.x < 512 ∧ ∃ bp cp sp, (cPn p ++ sp : AA).length = cp * 2 ∧ 1 ≤ cp ∧ s.1 = .slice (Q_ bp) 1 cp ∧ s.2 = [(bp, blk (cPn p ++ sp) 67)]) ∨ (512 ≤ p.x ∧ s.1 = .slice none 0 0 ∧ s.2 = [])) ?_ ?_
 ·by_cases hx9 : p.x < 512
  ·refine ZAl ?_
   refine RZ (aK rfl rfl rfl (aA (b := b1) (l := cPn p) m_m)) rfl (RX (bB (F := []) (A := [(b2, blk (cDz cap (P_ tb)) 108)]) (G := [(tb, oT), (b1, blk (cPn p) 58), (b0, blk (cGq g) 25)]) K_ rfl (fun w q0 _ => aPT b2 cap (P_ tb) p.x p.y hx9 w q0)) rfl ?_)
   rintro _ _ ⟨_, ⟨rfl, bp, cp, sp, hz, hc, hm, rfl⟩, rfl⟩
   refine ZBt ?_
   refine ZAQ ?_
   refine ZAl ?_
   exact ⟨(.slice (Q_ bp) 1 cp, [(bp, blk (cPn p ++ sp) 67)]), .inl ⟨hx9, bp, cp, sp, hz, hc, rfl, rfl⟩, .cons (cA_ Value.bool (ah hx9).symm) .nil, a_g, fun _ h => h⟩
  refine ZAl ?_
  refine RZ (aK rfl rfl rfl (aA (b := b1) (l := cPn p) m_m)) rfl (RLv K_ (wQ_ (aNI b2 p.x p.y o_m)) ?_)
  refine ZAE ?_
  refine ZAl ?_
  exact ⟨(.slice none 0 0, []), .inr ⟨y_y, rfl, rfl⟩, .cons (cA_ Value.bool (bw hx9).symm) .nil, a_g, fun _ h => h⟩
 rintro ⟨pv, Gp⟩ y4 hJ
 dsimp only at hJ ⊢
 refine ZBn ?_
 refine bD (σ := AH × Int × Nat) [8, 11, 12, 13, 14, 15, 16, 17, 18, 19, 20, 21, 22, 23, 24, 25, 26, 41, 42, 43, 44, 45, 46, 47, 48, 49, 50, 51, 52, 53, 54, 55, 56, 57, 58, 59, 60, 61, 62, 63, 64, 65, 66, 67, 68, 69, 70, 71, 72, 73, 74, 75, 76, 77, 78, 79, 80, 81, 82, 83, 84, 85, 86, 87, 88, 89, 90, 91, 92, 93, 94, 95, 96, 97, 98, 99, 100, 101, 102, 103, 104, 105, 106, 107, 108, 109, 110, 111, 112, 113, 114, 115, 116, 117, 118, 119, 120, 121, 122, 123, 124, 125, 126, 127, 128, 129, 130, 131, 132, 133, 134, 135, 136, 137, 138, 139, 140, 141, 142, 143, 144, 145, 146, 147, 148, 149, 150, 151, 152, 153, 154, 155, 156, 157, 158, 159, 160, 161, 162, 163, 164, 165, 166, 167, 168, 169, 170, 171, 172, 173, 174, 175, 176, 177, 178, 179, 180, 181, 182, 183, 184, 185, 186, 187, 188, 189, 190, 191, 192, 193, 194, 195, 196, 197, 198, 199] (fun s => [(41, .int .i64 s.2.2)]) (fun s => (b2, blk (cDn cap s.1 pv s.2.1 (P_ tb)) 108) :: (Gp ++ [(tb, oT), (b1, blk (cPn p) 58), (b0, blk (cGq g) 25)])) (fun s => 0 ≤ s.2.1 ∧ s.2.1 ≤ s.2.2 * 2 ∧ s.2.2 ≤ 3) (fun s => 3 - s.2.2) (.slice none 0 0, 0, 0) ?_ ?_ ?_ ?_
 ·exact ⟨gp _, y_eP, y_eP⟩
 ·exact .cons rfl .nil
 ·exact fun _ h => h
 rintro ⟨f, done, i⟩ y6 ⟨hd0, hd1, hi⟩
 dsimp only at hd0 hd1 hi ⊢
 have hrm : ((romQ g).map U_)[0 + (333 : Int).toNat]? = some (.int .u8 ((romQ g).getD 333 0)) := by
  have q1 := cX (k := .u8) (l := romQ g) (j := 333) y_b5
  exact q1
 refine ZBb ?_
 refine KC (fun q1 z1 => ?_) (fun q1 z1 => ?_)
 ·refine ZBn ?_
  refine RLv K_ (fun w hw => aJ0 b2 1 w (aJ (b := b2) (l := cDn cap f pv done (P_ tb)) (off := 1) m_m rfl w hw)) ?_
  refine ZEI ?_
  rintro _ _ ⟨b3, rfl, rfl⟩
  refine ZAW ?_
  refine ZBn ?_
  refine ZEO ?_
  refine RLv K_ (fun w hw => aKR b2 _ w (aJ (b := b2) (l := cDn cap f pv done (P_ tb)) (off := 1) m_m rfl w hw)) ?_
  refine ZEI ?_
  rintro _ _ ⟨b4, rfl, rfl⟩
  refine ZAW ?_
  refine ZBb ?_
  refine RLv K_ (fun w hw => aMn b2 _ w (aJ (b := b2) (l := cDn cap f pv done (P_ tb)) (off := 1) m_m rfl w hw)) ?_
  refine ZEI ?_
  rintro _ _ ⟨b5, rfl, rfl⟩
  refine ZAW ?_
  refine ZBn ?_
  refine ZEO ?_
  refine RLv K_ (fun w hw => aET b2 _ w (aJ (b := b2) (l := cDn cap f pv done (P_ tb)) (off := 1) m_m rfl w hw)) ?_
  refine ZEI ?_
  rintro _ _ ⟨b6, rfl, rfl⟩
  refine ZAW ?_
  refine ZBb ?_
  refine RLv K_ (fun w hw => aFt b2 w (aJ (b := b2) (l := cDn cap f pv done (P_ tb)) (off := 1) m_m rfl w hw)) ?_
  refine ZEI ?_
  rintro _ _ ⟨b7, rfl, rfl⟩
  refine ZAW ?_
  refine ZBb ?_
  refine RLv K_ (fun w hw => aMx b2 _ w (aJ (b := b2) (l := cDn cap f pv done (P_ tb)) (off := 1) m_m rfl w hw)) ?_
  refine ZEI ?_
  rintro _ _ ⟨b8, rfl, rfl⟩
  refine ZAW ?_
  refine ZBb ?_
  refine RLv K_ (fun w hw => aO8 b2 _ w (aJ (b := b2) (l := cDn cap f pv done (P_ tb)) (off := 1) m_m rfl w hw)) ?_
  refine ZEI ?_
  rintro _ _ ⟨b9, rfl, rfl⟩
  refine ZAW ?_
  refine ZBn ?_
  refine ZEy ?_
  refine ZAE ?_
  refine ZBr ?_
  refine ZAE ?_
  refine ZBr ?_
  refine ZAE ?_
  refine ZBr ?_
  refine ZAE ?_
  refine ZBr ?_
  refine ZAE ?_
  refine ZBr ?_
  refine ZEy ?_
  refine RLv K_ (fun w hw => dat_fn b2 0 w (aJ (b := b2) (l := cDn cap f pv done (P_ tb)) (off := 3) m_m rfl w hw)) ?_
  refine ZEy ?_
  refine RLv K_ (fun w hw => aNC b2 w (aJ (b := b2) (l := cDn cap f pv done (P_ tb)) (off := 1) m_m rfl w hw)) ?_
  refine ZEy ?_
  refine RLv K_ (fun w hw => aM3 b2 w (aJ (b := b2) (l := cDn cap f pv done (P_ tb)) (off := 2) m_m rfl w hw)) ?_
  refine ZEy ?_
  refine RLv K_ (fun w hw => aKZ b2 w (aJ (b := b2) (l := cDn cap f pv done (P_ tb)) (off := 5) m_m rfl w hw)) ?_
  refine ZBE ?_
  refine ZAE ?_
  refine ZBb ?_
  refine eW (L' := (b2, blk (cDn cap f pv done (P_ tb)) 108) :: (Gp ++ [(tb, oT), (b1, blk (cPn p) 58), (b0, blk (cGq g) 25)])) (fun _ h => St.fl [[(b9, blk (cSt 0 0 0 false) 38), (b8, blk (cSt 0 0 0 false) 38), (b7, blk (cSt 0 0 0 false) 38), (b6, blk (cSt 0 0 0 false) 38), (b5, blk (cSt 0 0 0 false) 38), (b4, blk (cSt 0 0 0 false) 38), (b3, blk (cSt 0 0 0 false) 38)], [(b2, blk (cDn cap f pv done (P_ tb)) 108)], Gp, [(tb, oT), (b1, blk (cPn p) 58), (b0, blk (cGq g) 25)]] [1, 2, 3] rfl h) ?_
  refine ZBL ?_
  refine RZ (aK rfl rfl rfl (aA (b := b0) (l := cGq g) (.tail _ (mR_ _ (.tail _ (.tail _ (.head _))))))) rfl (RX (bI K_ rfl (fun w hw => rom_fn g w (hg.later hw) o_m)) rfl ?_)
  rintro _ _ ⟨_, ⟨b10, rfl, rfl⟩, rfl⟩
  refine ZCu ?_
  refine ZBb ?_
  refine RY (aP 333 rfl rfl rfl rfl y_b5) rfl (RZ (aE rfl rfl (aJ (v := .int .u8 ((romQ g).getD 333 0)) (b := b10) (l := (romQ g).map U_) (.head _) hrm)) rfl (RW (v := (.int .u8 (((romQ g).getD 333 0 + 1) % 256))) rfl rfl (cA_ _ (fL _)) (RY (aP 333 rfl rfl rfl rfl y_b5) rfl ?_)))
  refine RZ (aD (l' := (badQ g).map U_) 0 rfl rfl rfl rfl rfl rfl (len_byte (romQ_len g) y_b) (put_byte _ (romQ_len g) y_b rfl)) rfl (ZDF ?_)
  refine ZBL ?_
  refine jC (σ := AH × AH × AH × AH × AH × AH × Int) [142, 143, 144, 145, 146, 147, 148] (fun _ => []) (fun s => (b2, blk [.int .i64 cap, s.1, s.2.1, s.2.2.1, s.2.2.2.1, s.2.2.2.2.1, s.2.2.2.2.2.1, pv, .slice none 0 0, .int .u32 0, .int .u64 s.2.2.2.2.2.2, P_ tb] 108) :: ((b10, blk ((badQ g).map U_) 5) :: (Gp ++ [(tb, oT), (b1, blk (cPn p) 58), (b0, blk (cGq g) 25)]))) (fun s => 0 ≤ s.2.2.2.2.2.2 ∧ s.2.2.2.2.2.2 ≤ done + 2) ?_ ?_
  ·refine ZBL ?_
   by_cases he9 : errH (romQ g) = 0
   ·refine ZAl ?_
    refine ZBZ ?_
    rintro _ _ ⟨_, ⟨b11, rfl, rfl⟩, rfl⟩
    refine ZBG ?_
    refine RX (bB (F := []) (A := [(b2, blk (cDn cap f pv done (P_ tb)) 108), (b11, blk ((romQ g).map U_) 5)]) (G := ((b10, blk ((badQ g).map U_) 5) :: (Gp ++ [(tb, oT), (b1, blk (cPn p) 58), (b0, blk (cGq g) 25)]))) K_ rfl (fun w q0 _ => uC (gqx g) (aLh hg he9) b2 cap 0 done _ _ _ _ _ _ _ _ _ b11 [] [] ⟨.nil, fun _ h => y_cE, al _⟩ w q0)) rfl ?_
    rintro _ _ ⟨_, ⟨rfl, e, hE, hb, hcap, hask, hdn, hpv, hwv, htab, hR, rfl⟩, rfl⟩
    have hF : e.Fine (gqx g) 0 1 := ⟨hE, y_eP, y_eP, by rw [hdn]; omega⟩
    refine ZAQ ?_
    refine ZBr ?_
    refine RX (bB (F := []) (A := Db.H e (gqx g) 0) (G := (b10, blk ((badQ g).map U_) 5) :: (Gp ++ [(tb, oT), (b1, blk (cPn p) 58), (b0, blk (cGq g) 25)])) K_ rfl (fun w q0 _ => (by have h9 := aB3 e (gqx g) (aLh hg he9) 0 1 hF 2 y_b w q0; rw [hb] at h9; exact h9))) rfl ?_
    rintro _ _ ⟨_, ⟨rfl, e2, hG⟩, rfl⟩
    obtain ⟨hE2, hT1, hd2, rfl⟩ := hG
    refine ZBL ?_
    have hdd : ((e2.b, blk (Db.cs e2 (gqx g) 2) 108) : Nat × Obj) = (b2, blk [.int .i64 cap, (pM e2.q), (P_ e2.hb), (.int .u64 (2 : Nat)), (.slice (Q_ e2.fa) ((gqx g).enc 0).length e2.fc), (P_ e2.lb), (.map (some e2.mp)), pv, .slice none 0 0, .int .u32 0, .int .u64 (done + 2), P_ tb] 108) := by
     unfold Db.cs cDb
     rw [hT1.b, hT1.cap, hT1.pv, hT1.wv, hT1.asked, hT1.tab, hb, hcap, hpv, hwv, hask, htab, show e2.done = done + 2 by rw [hd2, hdn]; rfl]
    exact ⟨(_, _, _, _, _, _, done + 2), ⟨by show 0 ≤ done + 2; omega, by show done + 2 ≤ done + 2; omega⟩, .nil, a_g, fun _ h => St.fl [[_], ((e2.mp, bL .u64 e2.l e2.c) :: (hM e2.q e2.m ++ (e2.GH ++ (e2.GL ++ e2.D)))), [(b10, blk ((badQ g).map U_) 5)], Gp ++ [(tb, oT), (b1, blk (cPn p) 58), (b0, blk (cGq g) 25)]] [0, 2, 3] rfl (by rw [← hdd]; exact h)⟩
   refine ZAl ?_
   refine ZBZ ?_
   rintro _ _ ⟨_, ⟨b11, rfl, rfl⟩, rfl⟩
   refine ZBG ?_
   refine RX (bB (F := []) (A := [(b2, blk (cDn cap f pv done (P_ tb)) 108)]) (G := (b11, blk ((romQ g).map U_) 5) :: ((b10, blk ((badQ g).map U_) 5) :: (Gp ++ [(tb, oT), (b1, blk (cPn p) 58), (b0, blk (cGq g) 25)]))) K_ rfl (fun w q0 q1 => uY (romQ g) y_b5 (lA hg) he9 none 0 0 b2 cap 0 done _ _ _ _ _ _ _ _ _ b11 [] w (aA (b := b11) (.tail _ (.head _)) w q1) (St.notin (A := [(b2, blk (cDn cap f pv done (P_ tb)) 108)]) q1 (x := (b11, blk ((romQ g).map U_) 5)) (.head _)) q0)) rfl (ZAj ?_)
   refine cY false rfl rfl rfl (beq_eq_false_iff_ne.2 he9) ?_
   refine ZA1 ?_
   exact ⟨(_, _, _, _, _, _, done), ⟨hd0, by show done ≤ done + 2; omega⟩, .nil, a_g, fun _ h => St.fl [[_], [(b11, blk ((romQ g).map U_) 5)], [(b10, blk ((badQ g).map U_) 5)], Gp ++ [(tb, oT), (b1, blk (cPn p) 58), (b0, blk (cGq g) 25)]] [0, 2, 3] rfl h⟩
  rintro ⟨c0, cx1, c2, c3, c4, c5, dn⟩ y18 ⟨hd3, hd4⟩
  dsimp only at hd3 hd4 ⊢
  refine ZBb ?_
  refine RX (bB (F := []) (A := [(b2, blk [.int .i64 cap, c0, cx1, c2, c3, c4, c5, pv, .slice none 0 0, .int .u32 0, .int .u64 dn, P_ tb] 108)]) (G := ((b10, blk ((badQ g).map U_) 5) :: (Gp ++ [(tb, oT), (b1, blk (cPn p) 58), (b0, blk (cGq g) 25)]))) K_ rfl (fun w q0 q1 => (by have h9 := uY (badQ g) (by rw [aFh]; decide) (aKz hg) (by rw [aF5 hg]; decide) none 0 0 b2 cap 0 dn c0 cx1 c2 c3 c4 c5 pv (.slice none 0 0) (P_ tb) b10 [] w (aA (b := b10) (.tail _ (.head _)) w q1) (St.notin (A := [(b2, blk [.int .i64 cap, c0, cx1, c2, c3, c4, c5, pv, .slice none 0 0, .int .u32 0, .int .u64 dn, P_ tb] 108)]) q1 (x := (b10, blk ((badQ g).map U_) 5)) (.head _)) q0; rw [aF5 hg, aK4] at h9; exact h9))) rfl (ZAj ?_)
  refine bF (H' := (b2, blk (cDn cap c3 pv dn (P_ tb)) 108) :: ((b10, blk ((badQ g).map U_) 5) :: (Gp ++ [(tb, oT), (b1, blk (cPn p) 58), (b0, blk (cGq g) 25)]))) (fun _ h => h) ?_
  refine ZAE ?_
  refine A_10 ?_
  refine RLv K_ (wQ_ aOK) ?_
  refine ZBr ?_
  refine RLv K_ (wQ_ (aIU 1)) ?_
  refine ZCZ ?_
  refine ZAl ?_
  refine ZBZ ?_
  rintro _ _ ⟨_, ⟨b11, rfl, rfl⟩, rfl⟩
  refine ZCu ?_
  refine RLv K_ (wQ_ (aNr _ _)) ?_
  refine ZEy ?_
  refine RLv K_ (wQ_ aRe) ?_
  refine ZBL ?_
  refine RLv K_ (wQ_ aOv) ?_
  refine RW (v := (.int .u64 0)) rfl rfl rfl (ZEy ?_)
  refine RS ?_
  refine RLv K_ (wQ_ (aNG 0 0)) ?_
  refine ZEy ?_
  refine RLv K_ (wQ_ aOW) ?_
  refine ZEy ?_
  refine RLv K_ (wQ_ aOr) ?_
  refine ZEy ?_
  refine RLv K_ (wQ_ aJU) ?_
  refine ZBE ?_
  refine ZAE ?_
  refine ZBb ?_
  refine ZAD ?_
  exact ⟨(c3, dn, i + 1), ⟨hd3, by show dn ≤ ((i + 1 : Nat) : Int) * 2; omega, by show i + 1 ≤ 3; omega⟩, by show 3 - (i + 1) < 3 - i; omega, .cons rfl .nil, a_g, fun _ h => h.sub (.cons _ (.cons_cons _ (.cons _ sR_)))⟩
 refine ZAl ?_
 rcases hJ with ⟨hx8, bp, cp, sp, hz, hc, hpe, hGe⟩ | ⟨hx8, hpe, hGe⟩ <;> (try dsimp only at hpe hGe) <;> subst hpe hGe
 ·refine ZA1 ?_
  refine RZ (aE rfl rfl (aJ (b := b1) (l := cPn p) m_m y_cs)) rfl (ZBL ?_)
  refine cY true (kZ rfl rfl rfl) rfl rfl (by rw [ah hx8, ah (by omega : p.x ≤ 511)]; rfl) ?_
  refine ZAl ?_
  refine RX (bB (F := []) (A := [(b2, blk (cDn cap f (.slice (Q_ bp) 1 cp) done (P_ tb)) 108), (bp, blk (cPn p ++ sp) 67)]) (G := [(tb, oT), (b1, blk (cPn p) 58), (b0, blk (cGq g) 25)]) K_ rfl (fun w q0 _ => (aNp b2 bp cp cap done p.x p.y f (P_ tb) sp hz hc w q0))) rfl ?_
  rintro _ H9 ⟨_, rfl, rfl⟩
  refine ZAQ ?_
  refine ZBL ?_
  refine cY true (kZ rfl rfl rfl) rfl rfl (by rw [ah hx8]; rfl) ?_
  exact ZAi
 refine ZA1 ?_
 refine RZ (aE rfl rfl (aJ (b := b1) (l := cPn p) m_m y_cs)) rfl (ZBL ?_)
 refine cY true (kZ rfl rfl rfl) rfl rfl (by rw [bw (by omega : ¬ p.x < 512), bw (by omega : ¬ p.x ≤ 511)]; rfl) ?_
 refine ZAl ?_
 refine RLv K_ (fun w hw => aOf b2 w (aJ (b := b2) (l := cDn cap f (.slice none 0 0) done (P_ tb)) (off := 7) (.head _) rfl w hw)) ?_
 refine ZAE ?_
 refine ZBL ?_
 refine cY true (kZ rfl rfl rfl) rfl rfl (by rw [bw (by omega : ¬ p.x < 512)]; rfl) ?_
 exact ZAi
end Go.Proofs.YtacejanlmhbddaaGreat
