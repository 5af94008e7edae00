/- Parts. -/
import Derived.Test.YtacejanlmhbddaaGreatQfP
import Derived.Test.YtacejanlmhbddaaGreatQfQ
import Derived.Test.YtacejanlmhbddaaGreatQfS
set_option maxRecDepth 100000
set_option maxHeartbeats 1000000
set_option linter.all false
namespace Go.VV
open Go Go.ChangeShapes Go.WideShapes Go.ChangeAt Go.RowKit
section
variable {H : Type} {enc : AJ × AH → H} {P : AL} {W : AI}
def aM2 {r : Reach} {b0 : Nat} {t e : AJ} {k : AM} {v : AH} {d : DataW H} {p : List MemPlace} (ht : P.underlying t = some (.slice e)) (he : P.underlying e = some (.int k)) (hc : P.cellsOf e = 1)
  (hv : Value.okWide P W r b0 t v) (h : DataW.Trod enc P W 0 (fun _ => true) true t v d p) :
  ∃ (a : AC) (c : Nat) (l : AB), v = .slice a l.length c ∧ l.length ≤ c ∧ l.length ≤ maxLen ∧ (∀ x ∈ l, (Lit.int k x).wf = true) ∧ Ns W k a l := by
 obtain ⟨a, len, cap, rfl⟩ := okWide_slice ht hv
 obtain ⟨fuel, hf⟩ := h
 rcases open_ints ht he hc hf with ⟨hcs, _⟩ | ⟨x, l, c, zs, hcs, _, hl, hm, hz, _, hcell, hwz⟩
 ·simp [Value.cells] at hcs
  obtain ⟨rfl, rfl, rfl⟩ := hcs
  exact ⟨none, 0, [], rfl, av _, al _, by simp, Ns.nil _ _ _⟩
 ·simp [Value.cells] at hcs
  obtain ⟨rfl, rfl, rfl⟩ := hcs
  have hz' : zs.length = cap := by simpa using hz
  have hlen : (zs.take len).length = len := by rw [ej]; omega
  refine ⟨some x, cap, zs.take len, by rw [hlen], by omega, by omega, fun y hy => hwz y (cu hy), fun h0 => ?_⟩
  obtain ⟨b, off, spot⟩ := x
  have h1 := hcell 0 (by omega)
  have hspot : spot = none := by simpa [Addr.add] using World.cell?_spot h1
  subst hspot
  refine ⟨b, off, rfl, fun j v hv => ?_⟩
  rw [cq] at hv
  rw [d8] at hv
  split at hv
  ·have hj : j < zs.length := by omega
   have := hcell j hj
   have hadd : (⟨b, off, none⟩ : Addr).add j = ⟨b, off + j, none⟩ := by unfold Addr.add; split <;> simp_all
   rw [hadd] at this
   rw [ak hj] at hv
   simp only [gr, Option.some.injEq] at hv
   subst hv
   simpa [cj, hj] using this
  ·cases hv
end
end Go.VV
namespace Go.Proofs.YtacejanlmhbddaaGreat
open Go Go.VV Go.Proofs Go.RowKit Go.Proofs.Tryz
def stepsM_fn (A : Ad) (acc : AH) (m : Mm) (h : MLn m) (w : AI) (hm : Row w A.mb 0 (cMm A acc m)) : aB prog 24 [P_ A.mb] w [] (V_ (.int .u64 m.steps)) := by
 refine dR_ func24 ?_
 refine ZCZ ?_
 refine A_9 ?_
 exact RZ (aE rfl rfl (aV (hm _ _ (get_mid h (j := 2) rfl)) y_r)) rfl ZAR
def aNg (l : AB) (i : Nat) : 0 ≤ zL l i ∧ zL l i < 18446744073709551616 := by cases i with
 | zero => exact ⟨(by decide : (0 : Int) ≤ 14695981039346656037), (by decide : (14695981039346656037 : Int) < 18446744073709551616)⟩
 | succ i => unfold zL; omega
end Go.Proofs.YtacejanlmhbddaaGreat
namespace Go.Proofs.YtacejanlmhbddaaGreat.Hs
open Go Go.VV
def kC (l : List Stp) (keep : Nat) : List Stp := l.drop (l.length - keep)
def lastL_len (l : List Stp) (keep : Nat) : (kC l keep).length = min l.length keep := by unfold kC; rw [Ld_]; omega
end Go.Proofs.YtacejanlmhbddaaGreat.Hs
namespace Go.Proofs.YtacejanlmhbddaaGreat.Hs
open Go Go.VV Go.Proofs Go.Proofs.Tryz
def aPe {l : List Stp} {k j : Nat} {s : Stp} (h : (kC l k)[j]? = some s) : l[l.length - k + j]? = some s := by
 unfold kC at h; rw [dp] at h; exact h
def records_fn (b keep : Nat) (cs : List Cll) (ring : List Rcd) (l : List Stp) (hk1 : 1 ≤ keep) (hk2 : keep ≤ 32) (hl : l.length < 1000000000) (hR : RingOk keep ring l) (w : AI) (hW : HistW w b keep l.length cs ring) :
  aB prog 26 [P_ b] w [] (fun v H => Vec 161 9 v (kC l keep).length (aF cR ((kC l keep).map recOf)) H) := by
 obtain ⟨⟨a, c, q0, qc, qz, hS, hA⟩, q1, q2, q3, q4⟩ := hW
 have hll := lastL_len l keep
 refine dR_ func26 ?_
 refine A_18 ?_
 refine DR [4, 5, 6, 7] (pln [0, 2, 4, 6, 8, 10, 12, 14, 16, 18, 20]) ?_
 refine A_3 ?_
 refine DL rfl rfl rfl (eB q2 y_r) rfl (A_3 ?_)
 refine DL rfl rfl rfl (eB q1 y_r) rfl (DW (v := (.int .i64 ((l.length : Int) - keep))) rfl rfl rfl (cA_ _ (aL o_m o_m)) (DW (v := (.int .i64 ((l.length - keep + 0 : Nat) : Int))) rfl (kD rfl rfl) rfl (cA_ _ o_m) (A_3 ?_)))
 refine bD (σ := Nat × AH × aC) [3, 4, 17, 18, 19, 20, 21, 22, 23, 24, 25, 26, 27, 28, 29, 30, 31, 32, 33, 34, 35, 36, 37, 38] (fun s => [(3, s.2.1), (4, .int .i64 ((l.length - keep + s.1 : Nat) : Int))]) (fun s => s.2.2 ++ []) (fun s => s.1 ≤ (kC l keep).length ∧ Vec 161 9 s.2.1 s.1 (aF cR (((kC l keep).map recOf).take s.1)) s.2.2) (fun s => (kC l keep).length - s.1) (0, .slice none 0 0, []) ?_ ?_ ?_ ?_
 ·exact ⟨al _, .nil⟩
 ·exact .cons rfl (.cons rfl .nil)
 ·exact fun _ h => h
 rintro ⟨j, v, G⟩ y5 ⟨hj, hV⟩
 dsimp only at hj hV ⊢
 obtain ⟨a3, c3, rfl⟩ := hV.slice
 refine A_7 ?_
 refine RZ (aE rfl rfl (aV q2 y_r)) rfl (A_2 ?_)
 refine KC (fun h1 h1n => ?_) (fun h1 h1n => ?_)
 ·refine A_3 ?_
  obtain ⟨s, hg⟩ : ∃ s, (kC l keep)[j]? = some s := ⟨_, zN (by rw [hll]; (try simp only [decide_eq_true_eq, decide_eq_false_iff_not, beq_iff_eq, beq_eq_false_iff_ne, bne_iff_ne, bne_eq_false_iff_eq, ne_eq] at *); omega)⟩
  have hg2 := aPe hg
  obtain ⟨hi9, hg3⟩ := List.getElem?_eq_some_iff.1 hg2
  have hrg := hR.2 _ hi9 o_m
  rw [hg3] at hrg
  have hm9 : (l.length - keep + j) % keep < 32 := dq (gz _ o_m) hk2
  refine eW (L' := G) (fun _ h => h.as y_r) ?_
  refine DR [8, 9] (pln [0, 2, 4, 6, 8, 10, 12, 14, 16, 18, 20, 22, 25, 27, 28]) ?_
  refine A_6 ?_
  refine DL rfl rfl rfl (eB q1 y_r) rfl (DW (v := (.int .i64 (((l.length - keep + j) % keep : Nat) : Int))) rfl (jX rfl rfl o_m) rfl (cA_ _ aDp) (A_2 ?_))
  refine DY rfl (bZ (s := 9) ((l.length - keep + j) % keep) rfl rfl rfl rfl hm9) rfl (cL rfl rfl rfl rfl (aB1 (q4 _ _ hrg) y_r) rfl rfl ?_)
  refine DX rfl (dX (z := cR r0) (l := cR (recOf s)) (ps := [(0, .agg (cR (recOf s)).toArray)]) rfl rfl rfl rfl rfl y_f) rfl n_h ?_
  rintro _ _ ⟨b37, rfl, rfl⟩
  refine DX rfl (jG (A := [(b37, _)]) (G := G) (v := (.slice a3 j c3)) (n := j) (xs := (aF cR (((kC l keep).map recOf).take j))) (m := 1) (T := 161) (s := 9) (by_ := 72) (ys := cR (recOf s)) rfl rfl rfl rfl hV (fun w hw => .row _ _ _ _ _ rfl (aA (.head _) w hw)) rfl o_m o_m) rfl n_h ?_
  rintro v38 _ ⟨G38, hV38, hn38, rfl⟩
  have hV9 : Vec 161 9 v38 (j + 1) (aF cR (((kC l keep).map recOf).take (j + 1))) G38 := hV38.as rfl (by rw [zJ (show ((kC l keep).map recOf)[j]? = some (recOf s) by rw [cq, hg]; rfl), jI])
  obtain ⟨a9, c9, rfl⟩ := hV9.slice
  refine A_4 ?_
  refine RW (v := (.int .i64 ((l.length - keep + (j + 1) : Nat) : Int))) rfl rfl (cA_ _ y_cF) (A_2 ?_)
  exact ⟨(j + 1, _, G38), ⟨by rw [hll]; (try simp only [decide_eq_true_eq, decide_eq_false_iff_not, beq_iff_eq, beq_eq_false_iff_ne, bne_iff_ne, bne_eq_false_iff_eq, ne_eq] at *); omega, hV9⟩, by dsimp only; rw [hll]; (try simp only [decide_eq_true_eq, decide_eq_false_iff_not, beq_iff_eq, beq_eq_false_iff_ne, bne_iff_ne, bne_eq_false_iff_eq, ne_eq] at *); omega, .cons rfl (.cons rfl .nil), a_g, fun _ h => h.sub (sR_.append (List.nil_sublist _))⟩
 refine A_7 ?_
 obtain rfl : j = (kC l keep).length := by rw [hll]; (try simp only [decide_eq_true_eq, decide_eq_false_iff_not, beq_iff_eq, beq_eq_false_iff_ne, bne_iff_ne, bne_eq_false_iff_eq, ne_eq] at *); omega
 have ht9 : ((kC l keep).map recOf).take (kC l keep).length = (kC l keep).map recOf := c8 y_r
 rw [ht9] at hV
 exact EV rfl (cn _ _) hV
end Go.Proofs.YtacejanlmhbddaaGreat.Hs
namespace Go.Proofs.YtacejanlmhbddaaGreat
open Go Go.VV Go.Proofs Go.RowKit Go.Proofs.Tryz
def histD_fn (b hb keep noted : Nat) (cs : List Hs.Cll) (ring : List Hs.Rcd) (hl : cs.length < 1000000000) (w : AI) (h2 : w.cell? ⟨b, 2, none⟩ = some (P_ hb)) (hW : Hs.HistW w hb keep noted cs ring) : aB prog 25 [P_ b] w [] (fun v H => ∃ b2, v = P_ b2 ∧ Hs.HistH b2 keep noted cs ring H) := by
 refine dR_ func25 ?_
 refine ZCZ ?_
 refine ZEf ?_
 refine RZ (aE rfl rfl (aV h2 y_r)) rfl (RX (bI K_ rfl (fun w hw => Hs.copy_fn hb keep noted cs ring hl w (hW.later0 hw))) rfl ?_)
 rintro _ _ ⟨G0, ⟨b0, rfl, hH9⟩, rfl⟩
 refine ZA1 ?_
 exact EV rfl y_cx ⟨b0, rfl, hH9⟩
def aQs (a : AC) (c : Nat) (l : AB) (hl : l.length ≤ 1000000) (hb : aT l) (w : AI) (hB : Ns w .u8 a l) : aB prog 20 [.slice a l.length c] w [] (V_ (.int .u64 (aFX l))) := by
 refine dR_ func20 ?_
 refine A_12 ?_
 refine ZC1 ?_
 refine bD (σ := Nat) [3, 5, 8, 9, 10, 11, 12, 13, 14, 15, 16, 17] (fun i => [(3, .int .u64 (zL l i)), (8, .int .i64 i)]) (fun _ => []) (fun i => i ≤ l.length) (fun i => l.length - i) 0 ?_ ?_ ?_ ?_
 ·exact al _
 ·exact .cons rfl (.cons rfl .nil)
 ·exact fun _ h => h
 rintro i y3 hi
 refine ZBb ?_
 refine KC (fun q0 z0 => ?_) (fun q0 z0 => ?_)
 ·refine ZBr ?_
  obtain ⟨ba, oa, rfl, hra⟩ := hB.row (i := i) o_m
  have hby := hb.get i
  have hok := aNg l i
  refine ZBL ?_
  refine RY (aP (n := l.length) i rfl rfl rfl rfl o_m) rfl (RZ (aE rfl rfl (aV (hra _ _ (cX (l := l) (j := i) o_m)) y_r)) rfl (ZBb ?_))
  refine RW (v := (.int .u64 (l.getD i 0))) rfl rfl (xN o_m o_m) (RW (aEZ rfl rfl) rfl rfl (RW (v := (.int .u64 (zL l (i + 1)))) rfl rfl (aBf _) (ZA1 ?_)))
  exact ZCY
 refine ZAl ?_
 obtain rfl : i = l.length := by omega
 refine ZBb ?_
 exact E0 rfl ⟨rfl, rfl⟩
end Go.Proofs.YtacejanlmhbddaaGreat
namespace Go.VV
open Go Go.RowKit
def aAH {a : Int} {v : AH} : ∀ {l : List Ent} {i j : Nat}, eV a l i = some (j, v) → i ≤ j ∧ ∃ n, l[j - i]? = some (a, v, n)
 | [], _, _, h => by cases h
 | e :: l, i, j, h => by
  unfold eV at h
  split at h
  ·rename_i h1
   cases h
   exact ⟨av _, e.2.2, by rw [iy, h1]; rfl⟩
  ·obtain ⟨h1, n, h2⟩ := aAH h
   exact ⟨by omega, n, by rw [show j - i = (j - (i + 1)) + 1 by omega]; exact h2⟩
def aHj (k : AM) {a : Int} {v : AH} {n j : Nat} {l : List Ent} (h : l[j]? = some (a, v, n)) : ((l.map (ent k)).toArray.modify j fun e => { e with key := .int k a, val := v }) = (l.map (ent k)).toArray := by
 apply Array.ext
 ·simp
 ·intro i h1 h2
  rw [Array.getElem_modify]
  split
  ·rename_i hij
   subst hij
   have h3 : l[j]'(by simpa using h2) = (a, v, n) := (List.getElem?_eq_some_iff.1 h).2
   simp [ent, h3]
  ·rfl
section
variable {Γ : Ctx} {e : Env} {H : aC} {d : AD} {ty : AJ} {pos : String} {af : AG} {g : Option (Nat × Bool)}
def aL5 {t kt el : AJ} {m x y : AK} {b c j : Nat} {k : AM} {a : Int} {v : AH} {l : List Ent} (i : Nat) (hu : uW Γ.P t = some (kt, el, k)) (hm : vnf (ev e m) = some (.map (some b))) (hx : vnf (ev e x) = some (.int k a)) (hy : vnf (ev e y) = some v)
  (hi : H[i]? = some (b, bL k l c)) (hf : eV a l 0 = some (j, v)) : Op1 Γ ⟨d, .mapUpdate t m x y, ty, pos, af, g⟩ e H (fun u H' => u = undef ∧ H' = H) := by
 intro w hw
 obtain ⟨h1, h2⟩ := pS hu
 have hm := aM hm
 have hx := aM hx
 have hy := aM hy
 have hb : w.heap[b]? = some (bL k l c) := hw.holds (b, _) (bq hi)
 obtain ⟨_, n, hn⟩ := aAH hf
 rw [ji] at hn
 have hS := hw.setObj (o' := bL k l c) hi
 have hset : H.set i (b, bL k l c) = H := by
  obtain ⟨h3, h4⟩ := List.getElem?_eq_some_iff.1 hi
  rw [← h4, List.set_getElem_self]
 rw [hset] at hS
 refine yK (w' := { w with heap := w.heap.setIfInBounds b (bL k l c) }) ?_ ⟨_, hS, rfl, rfl⟩
 have hkey : (((l.map (ent k)).toArray[j]?).map (·.key)).getD (.int k a) = .int k a := by simp [hn, ent]
 have key : (Instr.mapUpdate t (.map (some b)) (.int k a) v).run Γ.P w = .ok () { w with heap := w.heap.setIfInBounds b (bL k l c) } := by
  unfold Instr.mapUpdate
  simp only [am, run_underlying h1, aj, qY hb, nK h2, d5, nU h2, hf]
  rw [hkey, show (Instr.keyThatStays (.int k a) (.int k a)).run Γ.P w = .ok (.int k a) w by simp [Instr.keyThatStays, Instr.sameBits], aj, aHj k hn]
  exact tJ hb _
 simp only [execOp, hm, hx, hy, am, key, aj, az]
def aL7 {t kt el : AJ} {m x : AK} {b c : Nat} {k : AM} {a : Int} {z : AH} {l : List Ent} (hu : uW Γ.P t = some (kt, el, k)) (hm : vnf (ev e m) = some (.map (some b))) (hx : vnf (ev e x) = some (.int k a)) (hz : aAX Γ.P el = some z)
  (hf : eV a l 0 = none) (hi : (b, bL k l c) ∈ H) : Op1 Γ ⟨d, .lookup t m x true, ty, pos, af, g⟩ e H (fun u H' => u = .tuple #[z, .bool false] ∧ H' = H) := by
 have h := zW (d := d) (ty := ty) (pos := pos) (af := af) (g := g) hu hm hx hz hi
 rwa [hf] at h
def aLv {t kt el : AJ} {m x : AK} {b c j : Nat} {k : AM} {a : Int} {z v : AH} {l : List Ent} (hu : uW Γ.P t = some (kt, el, k)) (hm : vnf (ev e m) = some (.map (some b))) (hx : vnf (ev e x) = some (.int k a)) (hz : aAX Γ.P el = some z)
  (hf : eV a l 0 = some (j, v)) (hi : (b, bL k l c) ∈ H) : Op1 Γ ⟨d, .lookup t m x true, ty, pos, af, g⟩ e H (fun u H' => u = .tuple #[v, .bool true] ∧ H' = H) := by
 have h := zW (d := d) (ty := ty) (pos := pos) (af := af) (g := g) hu hm hx hz hi
 rwa [hf] at h
end
end Go.VV
namespace Go.Proofs.YtacejanlmhbddaaGreat
open Go Go.VV Go.Proofs Go.RowKit Go.Proofs.Tryz
def aR0 (d : Db) (g : Gx) (hg : g.Ok) (k n : Nat) (hf : d.Fine g k n) (N : Nat) (hN : N < 18446744073709551616) (w : AI) (hst : St w ((d.H g k).map (·.1)) (d.H g k) w) : aB prog 19 [P_ d.b, .int .u64 N] w ((d.H g k).map (·.1)) (fun v H => v = .tuple #[.agg (cSt (((min N (n - 1 + 5000)) : Nat) : Int) 0 0 false).toArray, .int .i64 0] ∧ ∃ e, aAG g d e (min N (n - 1 + 5000)) (max n ((min N (n - 1 + 5000)) + 1)) (jF d.ms k (min N (n - 1 + 5000))) H) := by
 obtain ⟨hd, hk, hn, hdn⟩ := hf
 have hml : d.ms.length ≤ 256 := by have := hd.line.len; have := (capT_ok d.cap).2; omega
 obtain ⟨hm0, hm1, hm2⟩ := hd.line.more o_m
 refine dO_ func19 hst ?_
 refine ZDX fun b0 => ?_
 refine ZBn ?_
 refine ZBF ?_
 refine A_9 ?_
 refine ZDw ?_
 refine RZ (bJ K_ rfl (fun w hw => (by have h9 := Tm.last_fn d.lb (capT d.cap) d.ms o_m w (hd.line.line.lineW hw (fun x hx => .tail _ (.tail _ (.tail _ (mR_ _ (mR_ _ (mL_ _ hx))))))); rw [hm2] at h9; exact h9))) rfl (A_11 ?_)
 refine RW (v := (.int .u64 ((n - 1 + 5000 : Nat) : Int))) rfl rfl (cA_ _ ((eN o_m o_m).trans o_m)) (RW (v := (.int .u64 (((min N (n - 1 + 5000)) : Nat) : Int))) (gH rfl rfl) rfl (cA_ _ o_m) (RX (aR (F := [(b0, blk (cSt 0 0 0 false) 38)]) (A := Db.H d g k) K_ rfl (wL_ (aH2 d g hg k n ⟨hd, hk, hn, hdn⟩ (min N (n - 1 + 5000)) o_m))) rfl ?_))
 rintro _ _ ⟨_, ⟨rfl, e, he, hT, hde, rfl⟩, rfl⟩
 refine bF (H' := (b0, blk (cSt 0 0 0 false) 38) :: e.H g (min N (n - 1 + 5000))) (fun _ h => h) ?_
 refine ZBr ?_
 refine RZ (bJ K_ rfl (fun w hw => (by have h9 := rI e.b (((min N (n - 1 + 5000)) : Nat) : Int) 0 w (aJ (b := e.b) (l := Db.cs e g ((min N (n - 1 + 5000)))) (.tail _ (.head _)) rfl w hw); rw [hT.b] at h9; exact h9))) rfl (ZAl ?_)
 refine RZ (xS_ (l' := cSt (((min N (n - 1 + 5000)) : Nat) : Int) 0 0 false) 0) rfl (ZDF ?_)
 refine ZA1 ?_
 exact fM (fun w hw => aY rfl rfl rfl (aA (b := b0) (l := cSt (((min N (n - 1 + 5000)) : Nat) : Int) 0 0 false) (.head _) w hw) rfl) (.cons _ sR_) ⟨rfl, e, he, hT, hde, rfl⟩
def aKM {a : Int} {v : AH} {l : List Ent} {j : Nat} (h : eV a l 0 = some (j, v)) : ∃ n, (a, v, n) ∈ l := by
 obtain ⟨_, n, q0⟩ := aAH h
 exact ⟨n, bq q0⟩
set_option maxHeartbeats 2000000 in
def aM0 (g : Gq) (cap : Int) (ap : AC) (cp : Nat) (lp : AB) (hby : aT lp) (hlc : lp.length ≤ maxLen) (w : AI) (hg : g.Ok w) (hN : Ns w .u8 ap lp) : aB prog 4 [.agg (cGq g).toArray, .int .i64 cap, .slice ap lp.length cp] w [] (V_ (.bool true)) := by
 refine dR_ func4 ?_
 refine ZCT ?_
 refine ZAq fun b0 => ?_
 refine ZBb ?_
 refine RLv K_ (wQ_ lE) ?_
 refine ZAl ?_
 refine ZCI ?_
 refine ZAl ?_
 refine KL (fun q0 z0 => ?_) (fun q0 z0 => ?_)
 ·refine ZEf ?_
  refine RLv K_ (wQ_ lE) ?_
  exact ZAR
 refine ZBL ?_
 refine ZC1 ?_
 refine KC (fun q1 z1 => ?_) (fun q1 z1 => ?_)
 ·refine ZAl ?_
  refine RLv K_ (wQ_ lE) ?_
  exact ZAR
 refine ZAl ?_
 refine ZFK fun hf9 hf8 => ?_
 have hl9 : lp.length ≤ 12 := by have h8 := c7 q1; omega
 refine ZAl ?_
 refine RX (bI K_ rfl (wQ_ (xG cap))) rfl ?_
 rintro _ _ ⟨G0, ⟨b1, tb, oT, rfl, hT0, rfl⟩, rfl⟩
 refine ZAl ?_
 refine jC (σ := Db × AC × Nat) [6, 31, 32, 33, 34, 35, 36, 37] (fun _ => []) (fun s => s.1.H (g.gx s.2.1 s.2.2) 0) (fun s => errH (romQ g) = 0 ∧ s.1.Ok (g.gx s.2.1 s.2.2) 0 1 ∧ s.1.b = b1 ∧ s.1.cap = cap ∧ s.1.asked = 0 ∧ s.1.done = 0 ∧ s.1.pv = .slice none 0 0 ∧ s.1.wv = .slice none 0 0) ?_ ?_
 ·refine ZBL ?_
  by_cases he9 : errH (romQ g) = 0
  ·refine ZDI ?_
   refine ZBp ?_
   refine ZAo ?_
   refine ZBR fun b2 => ?_
   rintro _ _ ⟨Gp, ⟨pa, pc, rfl, hP⟩, rfl⟩
   refine eX (H' := (b1, blk (cDz cap (P_ tb)) 108) :: (b2, blk ((romQ g).map U_) 5) :: (Gp ++ [(tb, oT)])) (fun _ h => St.fl [Gp, [(b2, blk ((romQ g).map U_) 5)], [(b1, blk (cDz cap (P_ tb)) 108)], [(tb, oT)], [_]] [2, 1, 0, 3] rfl h) ?_
   refine DX rfl (cB K_ rfl (fun w hw => uC (g.gx pa pc) (hg.gx he9 hf9 pa pc) b1 cap 0 0 _ _ _ _ _ _ _ _ _ b2 Gp [(tb, oT)] hP w (St.lentA hw))) rfl n_h ?_
   rintro _ _ ⟨rfl, e, hE, hb, hcap, hask, hdn, hpv, hwv, htab, hR, rfl⟩
   refine xO false rfl rfl rfl rfl rfl ?_
   exact ZE3
  refine ZDI ?_
  refine ZBp ?_
  refine ZAo ?_
  refine ZBR fun b2 => ?_
  rintro _ _ ⟨Gp, ⟨pa, pc, rfl, hP⟩, rfl⟩
  refine ZDN ?_
  refine DX rfl (bB (F := []) (A := [(b1, blk (cDz cap (P_ tb)) 108)]) (G := [(b2, blk ((romQ g).map U_) 5)]) K_ rfl (fun w q0 q1 => uY (romQ g) y_b5 (lA hg) he9 pa g.plan.length pc b1 cap 0 0 _ _ _ _ _ _ _ _ _ b2 [] w (aA (b := b2) (.tail _ (.head _)) w q1) (St.notin (A := [(b1, blk (cDz cap (P_ tb)) 108)]) q1 (x := (b2, blk ((romQ g).map U_) 5)) (.head _)) q0)) rfl n_h (ZAj ?_)
  exact ZEL
 rintro ⟨e, pa, pc⟩ y4 ⟨he9, hE, hb, hcap, hask, hdn, hpv, hwv⟩
 dsimp only at hE hb hcap hask hdn hpv hwv ⊢
 subst hb
 have hgx := hg.gx he9 hf9 pa pc
 generalize g.gx pa pc = gx at *
 have hF : e.Fine gx 0 1 := ⟨hE, y_eP, y_eP, y_dg⟩
 refine ZAl ?_
 refine RX (aAf .u64) rfl ?_
 rintro _ _ ⟨b2, rfl, rfl⟩
 refine ZBn ?_
 refine ZC1 ?_
 refine bD (σ := Db × Nat × Nat × List Ent × Nat × Nat) [6, 9, 10, 11, 12, 13, 14, 15, 41, 42, 43, 44, 45, 46, 47, 48, 49, 50, 51, 52, 53, 54, 55, 56, 57, 58, 59, 60, 61, 62, 63, 64, 65, 66, 67, 68, 69, 70, 71, 72, 73, 74, 75, 76, 77, 78, 79, 80, 81, 82, 83, 84, 85, 86, 87, 88, 89, 90, 91, 92, 93, 94, 95, 96, 97, 98, 99, 100, 101, 102, 103, 104, 105, 106, 107, 108] (fun s => [(41, .int .i64 s.2.2.2.2.2)]) (fun s => (b2, bL .u64 s.2.2.2.1 s.2.2.2.2.1) :: s.1.H gx s.2.1) (fun s => s.1.Fine gx s.2.1 s.2.2.1 ∧ e.To s.1 ∧ aC8 gx s.2.2.2.1 ∧ s.2.2.1 ≤ 100 ∧ s.1.done ≤ s.2.2.2.2.2 * 100 ∧ s.2.2.2.2.2 ≤ lp.length) (fun s => lp.length - s.2.2.2.2.2) (e, 0, 1, [], 0, 0) ?_ ?_ ?_ ?_
 ·exact ⟨hF, .refl e, (fun _ h => y_cE), (by decide : 1 ≤ 100), by show e.done ≤ ((0 : Nat) : Int) * 100; rw [hdn]; decide, al _⟩
 ·exact .cons rfl .nil
 ·exact fun _ h => h
 rintro ⟨d, k, n, l, c, i⟩ y8 ⟨hf, hT, hSe, hn9, hdd, hi⟩
 dsimp only at hf hT hSe hn9 hdd hi ⊢
 refine ZBb ?_
 refine KC (fun q2 z2 => ?_) (fun q2 z2 => ?_)
 ·refine ZBr ?_
  obtain ⟨bx, ox, rfl, hrx⟩ := hN.row (i := i) o_m
  have hx9 := hby.get i
  obtain ⟨j, hj⟩ : ∃ j : Nat, (j : Int) = lp.getD i 0 % 100 := ⟨(lp.getD i 0 % 100).toNat, y_y⟩
  have hj9 : j < 100 := by omega
  have hmj : min j (n - 1 + 5000) = j := by omega
  refine ZEf ?_
  refine ZBX ?_
  refine RZ (aE rfl rfl (aV (hrx _ _ (cX (l := lp) (j := i) o_m)) y_r)) rfl (RW (v := (.int .u8 (j : Int))) rfl rfl (cA_ _ ((Int.tmod_eq_emod_of_nonneg o_m).trans hj.symm)) (RW (v := (.int .u64 (j : Int))) rfl rfl (xN o_m o_m) (ZBn ?_)))
  refine RX (aR (F := [(b2, bL .u64 (l) (c))]) (A := Db.H d gx k) K_ rfl (fun w hw => (by have h9 := aR0 d gx hgx k n hf j o_m w (St.lentV hw); rw [hmj, hT.b] at h9; exact h9))) rfl ?_
  rintro _ _ ⟨_, ⟨rfl, e2, hG⟩, rfl⟩
  have hs2 := rD hf.ok (by have := hf.lt; omega) j
  have hF2 := hf.goes hG o_m o_m o_m
  obtain ⟨hE2, hT1, hd2, rfl⟩ := hG
  have hT2 := hT.trans hT1
  refine bF (H' := (b2, bL .u64 (l) (c)) :: Db.H e2 gx j) (fun _ h => h) ?_
  refine ZEI ?_
  rintro _ _ ⟨b3, rfl, rfl⟩
  refine RZ (xS_ (l' := cSt j 0 0 false) 0) rfl (ZDF ?_)
  refine ZA1 ?_
  have hiv := hE2.m.inv (hgx.inv j)
  have hrl : e2.m.ram.length ≤ 200000 := by rw [hiv.fr.ram]; have := tY gx.rom; omega
  have henc : eK e2.m = gx.enc j := hE2.m.enc
  have hsj : e2.m.steps = ((j : Nat) : Int) := hE2.m.steps.trans (hgx.steps j o_m)
  refine ZAl ?_
  refine RZ (bJ K_ rfl (fun w hw => (by have h9 := mach_fn e2.b e2.q.A.mb w (aJ (b := e2.b) (l := Db.cs e2 gx j) (.tail _ (.tail _ (.head _))) rfl w hw); rw [hT2.b] at h9; exact h9))) rfl (RX (bB (F := [(b3, blk (cSt j 0 0 false) 38), (b2, bL .u64 (l) (c)), (e2.b, blk (Db.cs e2 gx j) 108), (e2.mp, bL .u64 e2.l e2.c)]) (A := hM e2.q e2.m) (G := e2.GH ++ (e2.GL ++ e2.D)) K_ rfl (fun w q0 _ => (by have h9 := aDv e2.q e2.m hiv.wf hiv.rg hrl _ w q0; rw [henc] at h9; exact h9))) rfl ?_)
  rintro _ _ ⟨_, ⟨b4, c0, sp0, rfl, hc0, rfl⟩, rfl⟩
  refine bF (H' := (b4, blk ((gx.enc j).map U_ ++ sp0) 5) :: (b3, blk (cSt j 0 0 false) 38) :: (b2, bL .u64 (l) (c)) :: e2.H gx j) (fun _ h => St.fl [[(b3, blk (cSt j 0 0 false) 38), (b2, bL .u64 (l) (c))], [(e2.b, blk (Db.cs e2 gx j) 108), (e2.mp, bL .u64 e2.l e2.c)], [(b4, blk ((gx.enc j).map U_ ++ sp0) 5)], hM e2.q e2.m, e2.GH ++ (e2.GL ++ e2.D)] [2, 0, 1, 3, 4] rfl h) ?_
  refine RZ (bJ K_ rfl (fun w hw => aQs (Q_ b4) c0 (gx.enc j) (by have := (hgx.enc_le j).2; omega) (hgx.enc_byts j) w (Ns.of (aA (b := b4) (l := (gx.enc j).map U_ ++ sp0) (.head _) w hw).left))) rfl (ZA1 ?_)
  rcases hfi : eV (j : Int) l 0 with _ | ⟨p9, v9⟩
  rotate_left
  obtain ⟨n9, hm9⟩ := aKM hfi
  obtain rfl : v9 = .int .u64 (aFX (gx.enc j)) := (hSe _ hm9).2
  rotate_left
  ·refine ZA1 ?_
   refine RZ (aL7 (z := .int .u64 0) (l := l) (c := c) rfl rfl rfl rfl hfi (.tail _ (.tail _ (.head _)))) rfl (A_10 ?_)
   refine ZAE ?_
   refine ZBr ?_
   refine ZAz ?_
   refine ZA1 ?_
   refine RZ (bJ K_ rfl (fun w hw => y_bT)) rfl (ZBL ?_)
   refine ZAz ?_
   refine ZA1 ?_
   refine RZ (bJ K_ rfl (fun w hw => y_bR)) rfl (RZ (bJ K_ rfl (fun w hw => y_bo)) rfl (ZBL ?_))
   refine ZAz ?_
   refine ZA1 ?_
   refine ZAE ?_
   refine ZDH ?_
   refine RX (bI K_ rfl (fun w hw => y_2)) rfl ?_
   rintro _ _ ⟨G1, ⟨b5, rfl, hH97⟩, rfl⟩
   refine ZEU ?_
   rintro v0 _ ⟨G2, hV0, rfl⟩
   rw [Hs.lastL_len, Gx.sts_len] at hV0
   obtain ⟨a98, cx1, rfl⟩ := hV0.slice
   refine ZDB ?_
   refine ZBL ?_
   refine ZDo ?_
   refine ZAz ?_
   refine ZEf ?_
   refine RZ (aB9 (l := l) (c := c) 1 rfl rfl rfl rfl rfl hfi) rfl ?_
   try simp only [cr, ci, bg, ai, ay]
   refine ZAl ?_
   refine ZAD ?_
   exact ⟨(e2, j, max n (j + 1), l ++ [((j : Int), .int .u64 (aFX (gx.enc j)), c)], c + 1, i + 1), ⟨hF2, hT2, hSe.new j c, by show max n (j + 1) ≤ 100; omega, y_dC, by show i + 1 ≤ lp.length; omega⟩, by show lp.length - (i + 1) < lp.length - i; omega, .cons rfl .nil, a_g, fun _ h => h.sub (.cons _ sR_)⟩
  refine ZA1 ?_
  refine RZ (aLv (z := .int .u64 0) (l := l) (c := c) rfl rfl rfl rfl hfi (.tail _ (.tail _ (.head _)))) rfl (A_10 ?_)
  refine ZAE ?_
  refine ZBr ?_
  refine ZAz ?_
  refine ZA1 ?_
  refine RZ (bJ K_ rfl (fun w hw => y_bT)) rfl (ZBL ?_)
  refine ZAz ?_
  refine ZA1 ?_
  refine RZ (bJ K_ rfl (fun w hw => y_bR)) rfl (RZ (bJ K_ rfl (fun w hw => y_bo)) rfl (ZBL ?_))
  refine ZAz ?_
  refine ZA1 ?_
  refine ZAQ ?_
  refine ZAl ?_
  refine ZAz ?_
  refine ZBr ?_
  refine RX (bI K_ rfl (fun w hw => y_2)) rfl ?_
  rintro _ _ ⟨G1, ⟨b5, rfl, hH97⟩, rfl⟩
  refine ZEU ?_
  rintro v0 _ ⟨G2, hV0, rfl⟩
  rw [Hs.lastL_len, Gx.sts_len] at hV0
  obtain ⟨a98, cx1, rfl⟩ := hV0.slice
  refine ZDB ?_
  refine ZBL ?_
  refine ZDo ?_
  refine ZAz ?_
  refine ZEf ?_
  refine RZ (aL5 (l := l) (c := c) 1 rfl rfl rfl rfl rfl hfi) rfl ?_
  try simp only [cr, ci, bg, ai, ay]
  refine ZAl ?_
  refine ZAD ?_
  exact ⟨(e2, j, max n (j + 1), l, c, i + 1), ⟨hF2, hT2, hSe, by show max n (j + 1) ≤ 100; omega, y_dC, by show i + 1 ≤ lp.length; omega⟩, by show lp.length - (i + 1) < lp.length - i; omega, .cons rfl .nil, a_g, fun _ h => h.sub (.cons _ sR_)⟩
 refine ZBn ?_
 exact E0 rfl ⟨rfl, rfl⟩
end Go.Proofs.YtacejanlmhbddaaGreat
