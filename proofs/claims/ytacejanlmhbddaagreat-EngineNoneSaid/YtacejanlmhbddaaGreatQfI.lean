/- Parts. -/
import Derived.Test.YtacejanlmhbddaaGreatQfH
set_option maxRecDepth 100000
set_option maxHeartbeats 1000000
set_option linter.all false
namespace Go.Proofs.YtacejanlmhbddaaGreat
open Go Go.VV Go.Proofs Go.RowKit Go.Proofs.Tryz
def aGO (w : AI) : aB prog 130 [] w [] (fun v H => ∃ b, v = .map (some b) ∧ H = [(b, bL .u8 sortE 19)]) := by
 refine dR_ func130 ?_
 refine ZBn ?_
 refine RX (aAf .u8) rfl (ZAq fun b0 => ?_)
 refine RS ?_
 refine RZ (eZ (l := gY (gT.take 0) 0) (k := .u8) 0 rfl rfl rfl rfl rfl rfl) rfl (ZAt ?_)
 refine RZ (eZ (l := gY (gT.take 1) 0) (k := .u8) 0 rfl rfl rfl rfl rfl rfl) rfl (ZAt ?_)
 refine RZ (eZ (l := gY (gT.take 2) 0) (k := .u8) 0 rfl rfl rfl rfl rfl rfl) rfl (ZAt ?_)
 refine RZ (eZ (l := gY (gT.take 3) 0) (k := .u8) 0 rfl rfl rfl rfl rfl rfl) rfl (ZAt ?_)
 refine RZ (eZ (l := gY (gT.take 4) 0) (k := .u8) 0 rfl rfl rfl rfl rfl rfl) rfl (ZAt ?_)
 refine RZ (eZ (l := gY (gT.take 5) 0) (k := .u8) 0 rfl rfl rfl rfl rfl rfl) rfl (ZAt ?_)
 refine RZ (eZ (l := gY (gT.take 6) 0) (k := .u8) 0 rfl rfl rfl rfl rfl rfl) rfl (ZAt ?_)
 refine RZ (eZ (l := gY (gT.take 7) 0) (k := .u8) 0 rfl rfl rfl rfl rfl rfl) rfl (ZAt ?_)
 refine RZ (eZ (l := gY (gT.take 8) 0) (k := .u8) 0 rfl rfl rfl rfl rfl rfl) rfl (ZAt ?_)
 refine RZ (eZ (l := gY (gT.take 9) 0) (k := .u8) 0 rfl rfl rfl rfl rfl rfl) rfl (ZAt ?_)
 refine RZ (eZ (l := gY (gT.take 10) 0) (k := .u8) 0 rfl rfl rfl rfl rfl rfl) rfl (ZAt ?_)
 refine RZ (eZ (l := gY (gT.take 11) 0) (k := .u8) 0 rfl rfl rfl rfl rfl rfl) rfl (ZAt ?_)
 refine RZ (eZ (l := gY (gT.take 12) 0) (k := .u8) 0 rfl rfl rfl rfl rfl rfl) rfl (ZAt ?_)
 refine RZ (eZ (l := gY (gT.take 13) 0) (k := .u8) 0 rfl rfl rfl rfl rfl rfl) rfl (ZAt ?_)
 refine RZ (eZ (l := gY (gT.take 14) 0) (k := .u8) 0 rfl rfl rfl rfl rfl rfl) rfl (ZAt ?_)
 refine RZ (eZ (l := gY (gT.take 15) 0) (k := .u8) 0 rfl rfl rfl rfl rfl rfl) rfl (ZAt ?_)
 refine RZ (eZ (l := gY (gT.take 16) 0) (k := .u8) 0 rfl rfl rfl rfl rfl rfl) rfl (ZAt ?_)
 refine RZ (eZ (l := gY (gT.take 17) 0) (k := .u8) 0 rfl rfl rfl rfl rfl rfl) rfl (ZAt ?_)
 refine RZ (eZ (l := gY (gT.take 18) 0) (k := .u8) 0 rfl rfl rfl rfl rfl rfl) rfl ?_
 simp only [ai]
 refine ZBr ?_
 exact EV rfl sR_ ⟨b0, rfl, rfl⟩
def aPf (a : AC) (c : Nat) (l : AB) (hl : l.length ≤ 100000000) (hb : aT l) (w : AI) (hB : Ns w .u8 a l) (hlc : 333 ≤ c) : aB prog 131 [.slice a l.length c] w [] (V_ (.int .u8 (if l.length < 336 then 0 else chkH l 25))) := by
 refine dR_ func131 ?_
 refine ZEf ?_
 refine ZBE ?_
 refine ZAl ?_
 refine KC (fun q0 z0 => ?_) (fun q0 z0 => ?_)
 ·refine ZBb ?_
  exact E0 rfl ⟨rfl, y_dL⟩
 refine ZAl ?_
 obtain ⟨ba, oa, rfl, hra⟩ := hB.row (i := 0) o_m
 refine ZDH ?_
 have hlc9 := hlc
 have hcut : cut1 oa 308 c = oa + 308 := jK o_m
 refine RW (v := (.slice (some ⟨ba, cut1 oa 308 c, none⟩) 25 (c - 308))) (dT 308 333 rfl rfl rfl rfl rfl rfl y_b hlc) rfl rfl (ZC1 ?_)
 refine bD (σ := Nat) [3, 5, 12, 13, 14, 15, 16, 17, 18, 19, 20] (fun i => [(3, .int .u8 (chkH l i)), (12, .int .i64 i)]) (fun _ => []) (fun i => i ≤ 25) (fun i => 25 - i) 0 ?_ ?_ ?_ ?_
 ·exact al _
 ·exact .cons rfl (.cons rfl .nil)
 ·exact fun _ h => h
 rintro i y5 hi
 refine ZBb ?_
 refine KC (fun q1 z1 => ?_) (fun q1 z1 => ?_)
 ·refine ZBr ?_
  have hby := hb.get (308 + i)
  have hck := aBl l i
  refine ZBL ?_
  refine RY (aP i rfl rfl rfl rfl (by show i < 333 - 308; omega)) rfl (RZ (aE rfl rfl (aV (by have h9 := hra (308 + i) _ (cX (j := 308 + i) o_m); rwa [← dt, ← hcut] at h9) y_r)) rfl (ZBb ?_))
  refine RW (v := (.int .u8 ((l.getD (308 + i) 0 + 1) % 256))) (jD rfl rfl) rfl (aCJ _) (RW (v := (.int .u8 (chkH l (i + 1)))) (iV rfl rfl) rfl ((aCJ _).trans (cA_ _ y_dh)) (ZA1 ?_))
  exact ZCY
 refine ZDH ?_
 obtain rfl : i = 25 := by omega
 exact E0 rfl ⟨rfl, y_dM⟩
def sum_fn (a : AC) (c : Nat) (l : AB) (hl : l.length ≤ 100000000) (hb : aT l) (w : AI) (hB : Ns w .u8 a l) : aB prog 133 [.slice a l.length c] w [] (V_ (.int .u16 (if l.length < 336 then 0 else aJS l))) := by
 refine dR_ func133 ?_
 refine ZEf ?_
 refine ZBE ?_
 refine ZAl ?_
 refine KC (fun q0 z0 => ?_) (fun q0 z0 => ?_)
 ·refine ZBb ?_
  exact E0 rfl ⟨rfl, y_dL⟩
 refine ZAl ?_
 obtain ⟨ba, oa, rfl, hra⟩ := hB.row (i := 0) o_m
 refine ZDH ?_
 refine ZC1 ?_
 refine bD (σ := Nat) [3, 5, 11, 12, 13, 14, 15, 16, 17, 18, 19] (fun i => [(3, .int .u16 (aAN l i)), (11, .int .i64 i)]) (fun _ => []) (fun i => i ≤ l.length) (fun i => l.length - i) 0 ?_ ?_ ?_ ?_
 ·exact al _
 ·exact .cons rfl (.cons rfl .nil)
 ·exact fun _ h => h
 rintro i y5 hi
 refine ZBb ?_
 refine KC (fun q1 z1 => ?_) (fun q1 z1 => ?_)
 ·refine ZBr ?_
  have hby := hb.get i
  have hck := aHx l i
  refine ZBL ?_
  refine ZBX ?_
  refine RZ (aE rfl rfl (aV (hra _ _ (cX (j := i) o_m)) y_r)) rfl (ZBb ?_)
  refine RW (v := (.int .u16 (l.getD i 0))) (dN rfl rfl rfl) rfl (aAd hby.1 o_m) (RW (v := (.int .u16 (aAN l (i + 1)))) (jD rfl rfl) rfl ((wW _).trans (cA_ _ rfl)) (ZA1 ?_))
  exact ZCY
 refine ZAl ?_
 obtain rfl : i = l.length := by omega
 have hb4 := hb.get 334
 have hb5 := hb.get 335
 have hck := aHx l l.length
 refine DR [6, 7, 8, 9] (pln [0, 2, 4, 6, 8, 10, 12, 14, 16, 18, 20, 22]) ?_
 refine ZAl ?_
 refine DY rfl (aP 334 rfl rfl rfl rfl o_m) rfl (ZB4 ?_)
 refine DW (v := (.int .u16 ((aAN l l.length - l.getD 334 0) % 65536))) rfl (iV rfl rfl) rfl (wW _) (ZBL ?_)
 refine DY rfl (aP 335 rfl rfl rfl rfl o_m) rfl (ZB5 ?_)
 refine DW (v := (.int .u16 (aJS l))) rfl (iV rfl rfl) rfl ((wW _).trans (cA_ _ (by unfold aJS; omega))) (ZA1 ?_)
 exact E0 rfl ⟨rfl, y_dM⟩
def take_snoc {l : AB} {i : Nat} (h : i < l.length) : l.take (i + 1) = l.take i ++ [l.getD i 0] := by
 rw [eu, ak h, Gd_, ak h]; rfl
def txV_app (a b : List UInt8) : txV a ++ txV b = txV (a ++ b) := by simp [txV]
def name_fn (b off c : Nat) (l : AB) (hl : l.length ≤ 1000000) (hb : aT l) (w : AI) (hr : Row w b off (l.map (.int .u8))) : aB prog 132 [.slice (some ⟨b, off, none⟩) l.length c] w [] (V_ (.string (bs (nameH l)))) := by
 refine dR_ func132 ?_
 refine ZBn ?_
 refine ZCN fun b0 => ?_
 refine ZBb ?_
 refine ZC1 ?_
 refine bD (σ := Nat × AH × aC × AH) [5, 8, 9, 10, 11, 12, 13, 14, 15, 16, 17, 18, 19, 20, 21, 22] (fun s => [(8, .int .i64 s.1)]) (fun s => (b0, blk [s.2.2.2, s.2.1] 333) :: s.2.2.1) (fun s => s.1 ≤ l.length ∧ (∀ j, j < s.1 → l.getD j 0 ≠ 0) ∧ (s.2.2.2 = .pointer none ∨ s.2.2.2 = (P_ b0)) ∧ Vec 5 1 s.2.1 s.1 (txV ((l.take s.1).map chrH)) s.2.2.1 ∧ (s.1 = 0 → s.2.1 = .slice none 0 0 ∧ s.2.2.1 = [])) (fun s => l.length - s.1) (0, .slice none 0 0, [], .pointer none) ?_ ?_ ?_ ?_
 ·exact ⟨al _, fun j hj => y_y, .inl rfl, .nil, fun _ => ⟨rfl, rfl⟩⟩
 ·exact .cons rfl .nil
 ·exact fun _ h => h
 rintro ⟨i, v0, G0, ad6⟩ y3 ⟨hi, hj, hA6, hV0, q0⟩
 dsimp only at hi hj hA6 hV0 q0 ⊢
 refine ZBb ?_
 refine KC (fun q1 z1 => ?_) (fun q1 z1 => ?_)
 ·refine ZBr ?_
  have hc9 := hb.get i
  refine ZBL ?_
  refine ZBX ?_
  refine RZ (aE rfl rfl (aV (hr _ _ (cX (j := i) o_m)) y_r)) rfl (ZEf ?_)
  refine KC (fun q2 z2 => ?_) (fun q2 z2 => ?_)
  ·refine ZAl ?_
   have hTi : ((l.take i).map chrH).length = i := by rw [Lm_, Lt_]; omega
   refine ZCO ?_
   refine ZAj ?_
   refine ZA1 ?_
   exact E0 rfl ⟨rfl, (by rw [aJb hj o_m z2])⟩
  refine ZBn ?_
  refine KL (fun q3 z3 => ?_) (fun q3 z3 => ?_)
  ·refine A_10 ?_
   refine ZCB ?_
   refine ZD8 fun va0 G1 hV1 => ?_
   refine ZAl ?_
   exact ZC9
  refine ZBr ?_
  refine KC (fun q4 z4 => ?_) (fun q4 z4 => ?_)
  ·refine ZBb ?_
   refine ZCB ?_
   refine ZD8 fun va0 G1 hV1 => ?_
   refine ZAl ?_
   exact ZC9
  refine ZA1 ?_
  refine RX (aR (F := []) (A := (b0, blk [ad6, v0] 333) :: G0) (R := fun v H => v = .nilIface ∧ ∃ va' G', Vec 5 1 va' (i + 1) (txV ((l.take i).map chrH) ++ [.int .u8 (l.getD i 0)]) G' ∧ H = (b0, blk [(P_ b0), va'] 333) :: G') K_ rfl (fun w hw => bwrite_fn b0 ad6 v0 hA6 i o_m _ G0 hV0 (l.getD i 0) _ w (St.lentV (G := []) hw))) rfl (ZD8 fun va0 G1 hV1 => ?_)
  refine ZAl ?_
  refine ZAD ?_
  exact ⟨(i + 1, va0, G1, (P_ b0)), ⟨y_y, fun j hj' => y_ee, .inr rfl, hV1.as y_cs (by rw [take_snoc o_m, be, ← txV_app]; exact cA_ (fun z : Int => txV ((l.take i).map chrH) ++ [Value.int .u8 z]) ((aNv hc9 o_m).symm)), fun h => absurd h (Nat.succ_ne_zero _)⟩, y_y, .cons rfl .nil, a_g, fun _ h => h⟩
 refine ZAl ?_
 have hTi : ((l.take i).map chrH).length = i := by rw [Lm_, Lt_]; omega
 refine ZCO ?_
 refine ZAj ?_
 refine ZA1 ?_
 exact E0 rfl ⟨rfl, (by obtain rfl : i = l.length := o_m; rw [aLq hj, db])⟩
def qcheck_fn (a : AC) (c : Nat) (l : AB) (hl : l.length ≤ 100000000) (hb : aT l) (w : AI) (hB : Ns w .u8 a l) : aB prog 86 [.slice a l.length c] w [] (V_ (.int .u8 (if l.length < 336 then 0 else chkH l 25))) := by
 refine dR_ func86 ?_
 refine ZEf ?_
 refine ZBE ?_
 refine ZAl ?_
 refine KC (fun q0 z0 => ?_) (fun q0 z0 => ?_)
 ·refine ZBb ?_
  exact E0 rfl ⟨rfl, y_dL⟩
 refine ZAl ?_
 obtain ⟨ba, oa, rfl, hra⟩ := hB.row (i := 0) o_m
 refine A_9 ?_
 refine bD (σ := Nat) [3, 4, 8, 9, 10, 11, 12, 13, 14, 15, 16, 17, 18, 19, 20, 21] (fun i => [(3, .int .i64 (chkH l i)), (4, .int .i64 ((308 + i : Nat) : Int))]) (fun _ => []) (fun i => i ≤ 25) (fun i => 25 - i) 0 ?_ ?_ ?_ ?_
 ·exact al _
 ·exact .cons rfl (.cons rfl .nil)
 ·exact fun _ h => h
 rintro i y5 hi
 have hck9 := aBl l i
 refine ZBn ?_
 refine KC (fun q1 z1 => ?_) (fun q1 z1 => ?_)
 ·refine ZA1 ?_
  have hby := hb.get (308 + i)
  have hck := aBl l i
  refine ZBr ?_
  refine RY (aP (308 + i) rfl rfl rfl rfl o_m) rfl (RZ (aE rfl rfl (aV (hra _ _ (cX (j := 308 + i) o_m)) y_r)) rfl (RW (v := (.int .i64 (l.getD (308 + i) 0))) rfl rfl (lU o_m o_m) (RW (v := (.int .i64 (chkH l i - l.getD (308 + i) 0))) rfl rfl (lU o_m o_m) ?_)))
  refine RW (v := (.int .i64 (chkH l i - l.getD (308 + i) 0 - 1))) rfl rfl (lU o_m o_m) (RW (v := (.int .i64 (chkH l i - l.getD (308 + i) 0 - 1 + 512))) rfl rfl (lU o_m o_m) (RW (v := (.int .i64 (chkH l (i + 1)))) (jX rfl rfl y_b) rfl (cA_ _ ((Int.tmod_eq_emod_of_nonneg o_m).trans y_dh)) (ZBr ?_)))
  refine RW (v := (.int .i64 ((308 + (i + 1) : Nat) : Int))) rfl rfl (cA_ _ ((aL o_m o_m).trans o_m)) (ZAl ?_)
  exact ⟨i + 1, y_y, y_y, .cons rfl (.cons rfl .nil), a_g, fun _ h => h⟩
 refine ZBr ?_
 refine RW (v := (.int .u8 (chkH l i))) rfl rfl (aEY o_m o_m) (ZA1 ?_)
 obtain rfl : i = 25 := by omega
 exact E0 rfl ⟨rfl, y_dM⟩
def aHV (kind b ram : Int) (hk : 0 ≤ kind ∧ kind < 256) (hb9 : 0 ≤ b ∧ b < 256) (hr9 : 0 ≤ ram ∧ ram < 256) (a : AC) (c : Nat) (prog : AB) (hl : prog.length ≤ 100000000) (hb : aT prog) (w : AI) (hB : Ns w .u8 a prog) : aB Tryz.prog 41 [.int .u8 kind, .int .u8 b, .int .u8 ram, .slice a prog.length c] w [] (fun v H => ∃ b11, v = .slice (Q_ b11) (romS b) (romS b) ∧ H = [(b11, blk ((madeI kind b ram prog).map U_) 5)]) := by
 have hrs := aDn b
 have hlZ := aA0 kind b ram prog
 have hbZ := aCE (b := b) hk hr9 hb
 refine dR_ func41 ?_
 refine A_14 ?_
 refine bD (σ := Nat) [9, 10, 14, 15, 16, 17, 18, 19, 20, 21, 22] (fun i => [(9, .int .i64 ((32768 * 2 ^ i : Nat) : Int)), (10, .int .i64 i)]) (fun _ => []) (fun i => i ≤ (b % 9).toNat) (fun i => (b % 9).toNat - i) 0 ?_ ?_ ?_ ?_
 ·exact al _
 ·exact .cons rfl (.cons rfl .nil)
 ·exact fun _ h => h
 rintro i y3 hi
 have hpw : 2 ^ i ≤ 2 ^ 8 := fq y_b o_m
 refine ZBb ?_
 refine RW (v := (.int .i64 b)) rfl rfl (lU o_m o_m) (RW (v := (.int .i64 (b % 9))) (jX rfl rfl y_b) rfl (cA_ _ ((Int.tmod_eq_emod_of_nonneg o_m).trans o_m)) (ZAl ?_))
 refine KC (fun q0 z0 => ?_) (fun q0 z0 => ?_)
 ·refine ZBb ?_
  refine RW (v := (.int .i64 ((32768 * 2 ^ (i + 1) : Nat) : Int))) rfl rfl (cA_ _ ((aL o_m o_m).trans (by rw [iz]; omega))) (ZBr ?_)
  exact ZCY
 refine ZAl ?_
 obtain rfl : i = (b % 9).toNat := by omega
 refine ZAl ?_
 refine RX (aHL (n := romS b) (z := .int .u8 0) rfl rfl o_m rfl rfl rfl rfl) rfl ?_
 rintro _ _ ⟨b11, rfl, rfl⟩
 refine ZEf ?_
 refine bD (σ := Nat) [12, 13, 25, 26, 27, 28, 29, 30, 31, 32, 33, 34, 35, 36, 37, 38, 39, 40, 41, 42, 43, 44, 45, 46, 47] (fun i => [(12, .int .i64 i)]) (fun i => [(b11, blk (((madeP (List.replicate (romS b) 0) prog i)).map U_) 5)]) (fun i => i ≤ min prog.length 15000) (fun i => min prog.length 15000 - i) 0 ?_ ?_ ?_ ?_
 ·exact al _
 ·exact .cons rfl .nil
 ·exact fun _ h => h.as (by simp only [madeP, i7])
 rintro i y8 hi
 refine ZBb ?_
 refine ZBE ?_
 refine ZBL ?_
 refine KL (fun q1 z1 => ?_) (fun q1 z1 => ?_)
 ·refine ZBr ?_
  refine KC (fun q2 z2 => ?_) (fun q2 z2 => ?_)
  ·refine ZBr ?_
   obtain ⟨ba, oa, rfl, hra⟩ := hB.row (i := i) o_m
   refine ZAl ?_
   refine RW (v := (.int .i64 ((256 + i : Nat) : Int))) rfl rfl (lU o_m o_m) (ZEf ?_)
   refine KC (fun q3 z3 => ?_) (fun q3 z3 => ?_)
   ·refine ZAl ?_
    refine RW (v := (.int .i64 ((256 + i + 76 : Nat) : Int))) rfl rfl (lU o_m o_m) (ZDH ?_)
    refine ZEg ?_
    refine RY (aP (n := romS b) (256 + i + 76) rfl rfl rfl rfl o_m) rfl (ZCM ?_)
    refine ZA1 ?_
    exact ZD0
   refine ZBn ?_
   refine ZEg ?_
   refine RY (aP (n := romS b) (256 + i) rfl rfl rfl rfl o_m) rfl (ZCM ?_)
   refine ZA1 ?_
   exact ZD0
  refine ZAl ?_
  obtain rfl : i = min prog.length 15000 := by omega
  refine ZBn ?_
  refine RW (v := (.int .u8 (b % 9))) (jX rfl rfl y_b) rfl (cA_ _ (Int.tmod_eq_emod_of_nonneg o_m)) (ZBL ?_)
  refine ZBf ?_
  refine ZAA ?_
  refine ZBT ?_
  refine ZAA ?_
  refine ZBM ?_
  refine ZB3 ?_
  refine eW (L' := [(b11, blk ((madeZ kind b ram prog).map U_) 5)]) (fun _ h => h) ?_
  refine ZA1 ?_
  refine RLv K_ (fun w hw => y_bW) ?_
  refine ZCy ?_
  refine ZAA ?_
  refine ZDH ?_
  exact EV rfl sR_ ⟨b11, rfl, rfl⟩
 refine ZDH ?_
 obtain rfl : i = min prog.length 15000 := by omega
 refine ZBn ?_
 refine RW (v := (.int .u8 (b % 9))) (jX rfl rfl y_b) rfl (cA_ _ (Int.tmod_eq_emod_of_nonneg o_m)) (ZBL ?_)
 refine ZBf ?_
 refine ZAA ?_
 refine ZBT ?_
 refine ZAA ?_
 refine ZBM ?_
 refine ZB3 ?_
 refine eW (L' := [(b11, blk ((madeZ kind b ram prog).map U_) 5)]) (fun _ h => h) ?_
 refine ZA1 ?_
 refine RLv K_ (fun w hw => y_bW) ?_
 refine ZCy ?_
 refine ZAA ?_
 refine ZDH ?_
 exact EV rfl sR_ ⟨b11, rfl, rfl⟩
def sig_fn (t : Tm) (h : t.Ok) (w : AI) : aB prog 288 [.agg (cTm t).toArray] w [] (V_ (.bool (yC t))) := by
 obtain ⟨cnt, tima, tma, tac, over⟩ := t
 obtain ⟨k1, k2, k3, k4⟩ := h
 dsimp only at k1 k2 k3 k4
 refine dR_ func288 ?_
 refine ZAl ?_
 refine ZAe fun b0 => ?_
 refine ZBr ?_
 refine RY (lZ (l := [.int .i64 9, .int .i64 3, .int .i64 5, .int .i64 7]) rfl rfl rfl y_f) rfl (ZAu fun b1 => ?_)
 refine ZAK ?_
 rcases (show tac % 4 = 0 ∨ tac % 4 = 1 ∨ tac % 4 = 2 ∨ tac % 4 = 3 by omega) with hq | hq | hq | hq
 ·refine ZFF ?_
  refine ZBL ?_
  refine KE (fun q0 z0 => ?_) (fun q0 z0 => ?_)
  ·refine ZBr ?_
   refine DW (v := (.int .u8 0)) rfl (bE rfl rfl) rfl ((iG 2 4 y_b rfl o_m (show _ < (256 : Int) by omega) (show _ < (256 : Int) by decide)).trans (cA_ _ hq)) (DY rfl (aQ 0 rfl rfl rfl rfl y_b) rfl (ZBL ?_))
   refine DW (v := (.int .u16 (cnt / 512))) rfl (dU rfl rfl y_b) rfl (iY 512 y_b y_b) (ZFE ?_)
   exact E0 rfl ⟨rfl, (cA_ Value.bool (aCM (t := ⟨cnt, tima, tma, tac, over⟩) 512 z0 (by rw [aCw (t := ⟨cnt, tima, tma, tac, over⟩) (n := 9) hq y_b]; rfl)))⟩
  exact ZBo
 ·refine ZFF ?_
  refine ZBL ?_
  refine KE (fun q0 z0 => ?_) (fun q0 z0 => ?_)
  ·refine ZBr ?_
   refine DW (v := (.int .u8 1)) rfl (bE rfl rfl) rfl ((iG 2 4 y_b rfl o_m (show _ < (256 : Int) by omega) (show _ < (256 : Int) by decide)).trans (cA_ _ hq)) (DY rfl (aQ 1 rfl rfl rfl rfl y_b) rfl (ZBL ?_))
   refine DW (v := (.int .u16 (cnt / 8))) rfl (dU rfl rfl y_b) rfl (iY 8 y_b y_b) (ZFE ?_)
   exact E0 rfl ⟨rfl, (cA_ Value.bool (aCM (t := ⟨cnt, tima, tma, tac, over⟩) 8 z0 (by rw [aCw (t := ⟨cnt, tima, tma, tac, over⟩) (n := 3) hq y_b]; rfl)))⟩
  exact ZBo
 ·refine ZFF ?_
  refine ZBL ?_
  refine KE (fun q0 z0 => ?_) (fun q0 z0 => ?_)
  ·refine ZBr ?_
   refine DW (v := (.int .u8 2)) rfl (bE rfl rfl) rfl ((iG 2 4 y_b rfl o_m (show _ < (256 : Int) by omega) (show _ < (256 : Int) by decide)).trans (cA_ _ hq)) (DY rfl (aQ 2 rfl rfl rfl rfl y_b) rfl (ZBL ?_))
   refine DW (v := (.int .u16 (cnt / 32))) rfl (dU rfl rfl y_b) rfl (iY 32 y_b y_b) (ZFE ?_)
   exact E0 rfl ⟨rfl, (cA_ Value.bool (aCM (t := ⟨cnt, tima, tma, tac, over⟩) 32 z0 (by rw [aCw (t := ⟨cnt, tima, tma, tac, over⟩) (n := 5) hq y_b]; rfl)))⟩
  exact ZBo
 refine ZFF ?_
 refine ZBL ?_
 refine KE (fun q0 z0 => ?_) (fun q0 z0 => ?_)
 ·refine ZBr ?_
  refine DW (v := (.int .u8 3)) rfl (bE rfl rfl) rfl ((iG 2 4 y_b rfl o_m (show _ < (256 : Int) by omega) (show _ < (256 : Int) by decide)).trans (cA_ _ hq)) (DY rfl (aQ 3 rfl rfl rfl rfl y_b) rfl (ZBL ?_))
  refine DW (v := (.int .u16 (cnt / 128))) rfl (dU rfl rfl y_b) rfl (iY 128 y_b y_b) (ZFE ?_)
  exact E0 rfl ⟨rfl, (cA_ Value.bool (aCM (t := ⟨cnt, tima, tma, tac, over⟩) 128 z0 (by rw [aCw (t := ⟨cnt, tima, tma, tac, over⟩) (n := 7) hq y_b]; rfl)))⟩
 exact ZBo
def aNi (b : Nat) (t : Tm) (h : t.Ok) (w : AI) (hst : St w [b] [(b, blk (cTm t) 135)] w) : aB prog 330 [P_ b] w [b] (fun v H => v = .tuple #[] ∧ H = [(b, blk (cTm (gV t)) 135)]) := by
 obtain ⟨cnt, tima, tma, tac, over⟩ := t
 obtain ⟨k1, k2, k3, k4⟩ := h
 dsimp only at k1 k2 k3 k4
 refine dO_ func330 hst ?_
 refine ZBb ?_
 refine RW (jD rfl rfl) rfl y_q (ZAl ?_)
 refine ZEn ?_
 exact ZC2
def aOi (b : Nat) (t : Tm) (h : t.Ok) (w : AI) (hst : St w [b] [(b, blk (cTm t) 135)] w) : aB prog 290 [P_ b] w [b] (fun v H => v = .tuple #[] ∧ H = [(b, blk (cTm (gZ t)) 135)]) := by
 obtain ⟨cnt, tima, tma, tac, over⟩ := t
 obtain ⟨k1, k2, k3, k4⟩ := h
 dsimp only at k1 k2 k3 k4
 refine dO_ func290 hst ?_
 refine ZBr ?_
 refine ZEn ?_
 exact ZC2
def aQS (b : Nat) (t : Tm) (h : t.Ok) (x : Int) (hx : 0 ≤ x ∧ x < 256) (xb : Nat) (w : AI) (hc : w.cell? ⟨xb, 0, none⟩ = some (.int .u8 x)) (hxb : xb ≠ b) (hst : St w [b] [(b, blk (cTm t) 135)] w) : aB prog 291 [P_ b, P_ xb] w [b] (fun v H => v = .tuple #[] ∧ H = [(b, blk (cTm (jB x t)) 135)]) := by
 obtain ⟨cnt, tima, tma, tac, over⟩ := t
 obtain ⟨k1, k2, k3, k4⟩ := h
 dsimp only at k1 k2 k3 k4
 refine dO_ func291 hst ?_
 refine ZAl ?_
 refine RZ (aE rfl rfl (aV hc (by simp [hxb]))) rfl (RW (bE rfl rfl) rfl y_dU (ZAl ?_))
 refine ZEn ?_
 exact ZC2
def aEl (t : Tm) (h : t.Ok) (w : AI) : aB prog 289 [.agg (cTm t).toArray, .func (.func 330) #[] #[]] w [] (V_ (.agg (cTm (chT (gV) t)).toArray)) := by
 obtain ⟨cnt, tima, tma, tac, over⟩ := t
 obtain ⟨k1, k2, k3, k4⟩ := h
 dsimp only at k1 k2 k3 k4
 refine dR_ func289 ?_
 refine ZAl ?_
 refine ZAe fun b0 => ?_
 refine ZAu fun b1 => ?_
 refine ZA1 ?_
 refine ZDv ?_
 refine ZBb ?_
 refine RX (aBR (F := [(b1, _)]) (A := [(b0, blk [.int .u16 cnt, .int .u8 tima, .int .u8 tma, .int .u8 tac, .bool over] 135)]) (B := []) (C := []) (R := fun v H => v = .tuple #[] ∧ H = [(b0, blk (cTm (gV ⟨cnt, tima, tma, tac, over⟩)) 135)]) rfl K_ rfl ?_) rfl ?_
 ·exact fun w hw => aNi b0 ⟨cnt, tima, tma, tac, over⟩ ⟨k1, k2, k3, k4⟩ w (St.lentV hw)
 refine ZAj ?_
 refine ZBb ?_
 refine KL (fun q0 z0 => ?_) (fun q0 z0 => ?_)
 ·refine ZAS ?_
  refine RLv K_ (wQ_ (sig_fn (gV ⟨cnt, tima, tma, tac, over⟩) (Tm.Ok.step (t := ⟨cnt, tima, tma, tac, over⟩) ⟨k1, k2, k3, k4⟩))) ?_
  refine ZA1 ?_
  refine KC (fun q1 z1 => ?_) (fun q1 z1 => ?_)
  ·refine ZBr ?_
   refine ZB9 ?_
   refine ZA4 ?_
   refine ZBr ?_
   refine KL (fun q2 z2 => ?_) (fun q2 z2 => ?_)
   ·refine ZBb ?_
    refine ZAF ?_
    refine ZEt ?_
    have hov : over = true := q2
    subst hov
    have e1 : wE (gV ⟨cnt, tima, tma, tac, true⟩) = chT (gV) ⟨cnt, tima, tma, tac, true⟩ := rH (t := (gV ⟨cnt, tima, tma, tac, true⟩)) q0 y_bc
    exact aG (fun w hw => aW rfl rfl rfl (aA (b := b1) m_m w hw)) ⟨rfl, y_bJ⟩
   refine ZBb ?_
   refine ZAF ?_
   refine ZEt ?_
   have hov : over = false := q2
   subst hov
   have e1 : wE (gV ⟨cnt, tima, tma, tac, false⟩) = chT (gV) ⟨cnt, tima, tma, tac, false⟩ := rH (t := (gV ⟨cnt, tima, tma, tac, false⟩)) q0 y_bc
   exact aG (fun w hw => aW rfl rfl rfl (aA (b := b1) m_m w hw)) ⟨rfl, y_bJ⟩
  refine ZA1 ?_
  refine ZEt ?_
  have e1 : (gV ⟨cnt, tima, tma, tac, over⟩) = chT (gV) ⟨cnt, tima, tma, tac, over⟩ := tO (t := (gV ⟨cnt, tima, tma, tac, over⟩)) (.inr y_bc)
  exact aG (fun w hw => aW rfl rfl rfl (aA (b := b1) m_m w hw)) ⟨rfl, y_bJ⟩
 refine A_9 ?_
 refine ZEt ?_
 have e1 : (gV ⟨cnt, tima, tma, tac, over⟩) = chT (gV) ⟨cnt, tima, tma, tac, over⟩ := tO (t := (gV ⟨cnt, tima, tma, tac, over⟩)) (.inl q0)
 exact aG (fun w hw => aW rfl rfl rfl (aA (b := b1) m_m w hw)) ⟨rfl, y_bJ⟩
def aL6 (t : Tm) (h : t.Ok) (w : AI) : aB prog 289 [.agg (cTm t).toArray, .func (.func 290) #[] #[]] w [] (V_ (.agg (cTm (chT (gZ) t)).toArray)) := by
 obtain ⟨cnt, tima, tma, tac, over⟩ := t
 obtain ⟨k1, k2, k3, k4⟩ := h
 dsimp only at k1 k2 k3 k4
 refine dR_ func289 ?_
 refine ZAl ?_
 refine ZAe fun b0 => ?_
 refine ZAu fun b1 => ?_
 refine ZA1 ?_
 refine ZDv ?_
 refine ZBb ?_
 refine RX (aBR (F := [(b1, _)]) (A := [(b0, blk [.int .u16 cnt, .int .u8 tima, .int .u8 tma, .int .u8 tac, .bool over] 135)]) (B := []) (C := []) (R := fun v H => v = .tuple #[] ∧ H = [(b0, blk (cTm (gZ ⟨cnt, tima, tma, tac, over⟩)) 135)]) rfl K_ rfl ?_) rfl ?_
 ·exact fun w hw => aOi b0 ⟨cnt, tima, tma, tac, over⟩ ⟨k1, k2, k3, k4⟩ w (St.lentV hw)
 refine ZAj ?_
 refine ZBb ?_
 refine KL (fun q0 z0 => ?_) (fun q0 z0 => ?_)
 ·refine ZAS ?_
  refine RLv K_ (wQ_ (sig_fn (gZ ⟨cnt, tima, tma, tac, over⟩) (Tm.Ok.zero (t := ⟨cnt, tima, tma, tac, over⟩) ⟨k1, k2, k3, k4⟩))) ?_
  refine ZA1 ?_
  refine KC (fun q1 z1 => ?_) (fun q1 z1 => ?_)
  ·refine ZBr ?_
   refine ZB9 ?_
   refine ZA4 ?_
   refine ZBr ?_
   refine KL (fun q2 z2 => ?_) (fun q2 z2 => ?_)
   ·refine ZBb ?_
    refine ZAF ?_
    refine ZEt ?_
    have hov : over = true := q2
    subst hov
    have e1 : wE (gZ ⟨cnt, tima, tma, tac, true⟩) = chT (gZ) ⟨cnt, tima, tma, tac, true⟩ := rH (t := (gZ ⟨cnt, tima, tma, tac, true⟩)) q0 y_bc
    exact aG (fun w hw => aW rfl rfl rfl (aA (b := b1) m_m w hw)) ⟨rfl, y_bJ⟩
   refine ZBb ?_
   refine ZAF ?_
   refine ZEt ?_
   have hov : over = false := q2
   subst hov
   have e1 : wE (gZ ⟨cnt, tima, tma, tac, false⟩) = chT (gZ) ⟨cnt, tima, tma, tac, false⟩ := rH (t := (gZ ⟨cnt, tima, tma, tac, false⟩)) q0 y_bc
   exact aG (fun w hw => aW rfl rfl rfl (aA (b := b1) m_m w hw)) ⟨rfl, y_bJ⟩
  refine ZA1 ?_
  refine ZEt ?_
  have e1 : (gZ ⟨cnt, tima, tma, tac, over⟩) = chT (gZ) ⟨cnt, tima, tma, tac, over⟩ := tO (t := (gZ ⟨cnt, tima, tma, tac, over⟩)) (.inr y_bc)
  exact aG (fun w hw => aW rfl rfl rfl (aA (b := b1) m_m w hw)) ⟨rfl, y_bJ⟩
 refine A_9 ?_
 refine ZEt ?_
 have e1 : (gZ ⟨cnt, tima, tma, tac, over⟩) = chT (gZ) ⟨cnt, tima, tma, tac, over⟩ := tO (t := (gZ ⟨cnt, tima, tma, tac, over⟩)) (.inl q0)
 exact aG (fun w hw => aW rfl rfl rfl (aA (b := b1) m_m w hw)) ⟨rfl, y_bJ⟩
def aOh (t : Tm) (h : t.Ok) (x : Int) (hx : 0 ≤ x ∧ x < 256) (xb : Nat) (w : AI) (hr : Row w xb 0 [.int .u8 x]) : aB prog 289 [.agg (cTm t).toArray, .func (.func 291) #[] #[P_ xb]] w [] (V_ (.agg (cTm (chT (jB x) t)).toArray)) := by
 obtain ⟨cnt, tima, tma, tac, over⟩ := t
 obtain ⟨k1, k2, k3, k4⟩ := h
 dsimp only at k1 k2 k3 k4
 refine dR_ func289 ?_
 refine ZAl ?_
 refine ZAe fun b0 => ?_
 refine ZAu fun b1 => ?_
 refine ZA1 ?_
 refine ZDv ?_
 refine ZBb ?_
 refine RX (aBR (F := [(b1, _)]) (A := [(b0, blk [.int .u16 cnt, .int .u8 tima, .int .u8 tma, .int .u8 tac, .bool over] 135)]) (B := []) (C := [P_ xb]) (R := fun v H => v = .tuple #[] ∧ H = [(b0, blk (cTm (jB x ⟨cnt, tima, tma, tac, over⟩)) 135)]) rfl K_ rfl ?_) rfl ?_
 ·exact fun w hw => aQS b0 ⟨cnt, tima, tma, tac, over⟩ ⟨k1, k2, k3, k4⟩ x hx xb w ((aN hr y_r w hw) 0 _ rfl) (hr.apart (Nat.succ_pos _) hw (.head _)) (St.lentV hw)
 refine ZAj ?_
 refine ZBb ?_
 refine KL (fun q0 z0 => ?_) (fun q0 z0 => ?_)
 ·refine ZAS ?_
  refine RLv K_ (wQ_ (sig_fn (jB x ⟨cnt, tima, tma, tac, over⟩) (Tm.Ok.tac_ (t := ⟨cnt, tima, tma, tac, over⟩) ⟨k1, k2, k3, k4⟩ x))) ?_
  refine ZA1 ?_
  refine KC (fun q1 z1 => ?_) (fun q1 z1 => ?_)
  ·refine ZBr ?_
   refine ZB9 ?_
   refine ZA4 ?_
   refine ZBr ?_
   refine KL (fun q2 z2 => ?_) (fun q2 z2 => ?_)
   ·refine ZBb ?_
    refine ZAF ?_
    refine ZEt ?_
    have hov : over = true := q2
    subst hov
    have e1 : wE (jB x ⟨cnt, tima, tma, tac, true⟩) = chT (jB x) ⟨cnt, tima, tma, tac, true⟩ := rH (t := (jB x ⟨cnt, tima, tma, tac, true⟩)) q0 y_bc
    exact aG (fun w hw => aW rfl rfl rfl (aA (b := b1) m_m w hw)) ⟨rfl, y_bJ⟩
   refine ZBb ?_
   refine ZAF ?_
   refine ZEt ?_
   have hov : over = false := q2
   subst hov
   have e1 : wE (jB x ⟨cnt, tima, tma, tac, false⟩) = chT (jB x) ⟨cnt, tima, tma, tac, false⟩ := rH (t := (jB x ⟨cnt, tima, tma, tac, false⟩)) q0 y_bc
   exact aG (fun w hw => aW rfl rfl rfl (aA (b := b1) m_m w hw)) ⟨rfl, y_bJ⟩
  refine ZA1 ?_
  refine ZEt ?_
  have e1 : (jB x ⟨cnt, tima, tma, tac, over⟩) = chT (jB x) ⟨cnt, tima, tma, tac, over⟩ := tO (t := (jB x ⟨cnt, tima, tma, tac, over⟩)) (.inr y_bc)
  exact aG (fun w hw => aW rfl rfl rfl (aA (b := b1) m_m w hw)) ⟨rfl, y_bJ⟩
 refine A_9 ?_
 refine ZEt ?_
 have e1 : (jB x ⟨cnt, tima, tma, tac, over⟩) = chT (jB x) ⟨cnt, tima, tma, tac, over⟩ := tO (t := (jB x ⟨cnt, tima, tma, tac, over⟩)) (.inl q0)
 exact aG (fun w hw => aW rfl rfl rfl (aA (b := b1) m_m w hw)) ⟨rfl, y_bJ⟩
def aLE (t : Tm) (h : t.Ok) (w : AI) : aB prog 321 [.agg (cTm t).toArray] w [] (V_ (.tuple #[.agg (cTm (mT t)).toArray, .bool t.over])) := by
 obtain ⟨cnt, tima, tma, tac, over⟩ := t
 obtain ⟨k1, k2, k3, k4⟩ := h
 dsimp only at k1 k2 k3 k4
 refine dR_ func321 ?_
 refine ZAl ?_
 refine ZAe fun b0 => ?_
 refine ZAu fun b1 => ?_
 refine A_13 ?_
 refine KC (fun q0 z0 => ?_) (fun q0 z0 => ?_)
 ·refine ZBr ?_
  refine ZEn ?_
  refine ZA5 ?_
  refine ZAS ?_
  refine RLv K_ (wQ_ (aEl ⟨cnt, tma, tma, tac, false⟩ ⟨k1, k3, k3, k4⟩)) ?_
  refine ZA5 ?_
  have hov : over = true := q0
  exact ZEs
 refine ZA1 ?_
 refine ZAS ?_
 refine RLv K_ (wQ_ (aEl ⟨cnt, tima, tma, tac, over⟩ ⟨k1, k2, k3, k4⟩)) ?_
 refine ZA5 ?_
 have hov : over = false := q0
 exact ZEs
def aKP (t : Tm) (h : t.Ok) (n : Int) (w : AI) : aB prog 165 [.agg (cTm t).toArray, .int .i64 n] w [] (V_ (.int .u8 (readTm n t))) := by
 obtain ⟨cnt, tima, tma, tac, over⟩ := t
 obtain ⟨k1, k2, k3, k4⟩ := h
 dsimp only at k1 k2 k3 k4
 refine dR_ func165 ?_
 refine ZAl ?_
 refine ZAe fun b0 => ?_
 refine A_13 ?_
 refine KC (fun q0 z0 => ?_) (fun q0 z0 => ?_)
 ·refine ZBr ?_
  refine RW (dU rfl rfl y_b) rfl (iY 256 y_b y_b) (RW (dN rfl rfl rfl) rfl y_o (ZA1 ?_))
  exact E0 rfl ⟨rfl, y_U⟩
 refine ZBb ?_
 refine KC (fun q1 z1 => ?_) (fun q1 z1 => ?_)
 ·refine ZDH ?_
  exact E0 rfl ⟨rfl, y_U⟩
 refine ZBb ?_
 refine KC (fun q2 z2 => ?_) (fun q2 z2 => ?_)
 ·refine ZDH ?_
  exact E0 rfl ⟨rfl, y_U⟩
 refine ZBb ?_
 refine KC (fun q3 z3 => ?_) (fun q3 z3 => ?_)
 ·refine ZBr ?_
  refine RW (v := (.int .u8 (248 + tac % 8))) (cT rfl rfl) rfl (cA_ U_ (aLO k4)) ?_
  refine ZA1 ?_
  exact E0 rfl ⟨rfl, y_U⟩
 refine ZBn ?_
 exact E0 rfl ⟨rfl, y_U⟩
def aIy (t : Tm) (h : t.Ok) (n x : Int) (hx : 0 ≤ x ∧ x < 256) (w : AI) : aB prog 287 [.agg (cTm t).toArray, .int .i64 n, .int .u8 x] w [] (V_ (.agg (cTm (writeTm n x t)).toArray)) := by
 obtain ⟨cnt, tima, tma, tac, over⟩ := t
 obtain ⟨k1, k2, k3, k4⟩ := h
 dsimp only at k1 k2 k3 k4
 refine dR_ func287 ?_
 refine ZAl ?_
 refine ZAe fun b0 => ?_
 refine RX (cM (l := [.int .u8 x]) rfl rfl) rfl ?_
 rintro _ _ ⟨b1, rfl, rfl⟩
 refine ZAI ?_
 rintro _ _ ⟨b2, rfl, rfl⟩
 refine A_12 ?_
 refine KC (fun q0 z0 => ?_) (fun q0 z0 => ?_)
 ·refine ZAl ?_
  refine ZAS ?_
  refine RLv K_ (wQ_ (aL6 ⟨cnt, tima, tma, tac, over⟩ ⟨k1, k2, k3, k4⟩)) ?_
  exact ZBP
 refine ZBb ?_
 refine KC (fun q1 z1 => ?_) (fun q1 z1 => ?_)
 ·refine ZA1 ?_
  refine ZEn ?_
  refine ZA5 ?_
  refine ZAS ?_
  exact ZBP
 refine ZBb ?_
 refine KC (fun q2 z2 => ?_) (fun q2 z2 => ?_)
 ·refine ZA1 ?_
  refine ZAF ?_
  refine ZAS ?_
  exact ZBP
 refine ZBb ?_
 refine KC (fun q3 z3 => ?_) (fun q3 z3 => ?_)
 ·refine ZAl ?_
  refine ZAS ?_
  refine RW (v := (.func (.func 291) #[] #[P_ b1])) rfl rfl y_by (RLv K_ (fun w hw => aOh ⟨cnt, tima, tma, tac, over⟩ ⟨k1, k2, k3, k4⟩ x hx b1 w (aA (b := b1) (l := [.int .u8 x]) m_m w hw)) ?_)
  exact ZBP
 refine ZA1 ?_
 refine ZAS ?_
 exact ZBP
def aKt (p : Pt) (h : p.Ok) (w : AI) : aB prog 322 [.agg (cPt p).toArray] w [] (V_ (.tuple #[.agg (cPt (tickPt p)).toArray, .bool (nY p)])) := by
 obtain ⟨data, control, last, bits, count, sent⟩ := p
 obtain ⟨k1, k2, k3, k4, k5, k6⟩ := h
 dsimp only at k1 k2 k3 k4 k5 k6
 refine dR_ func322 ?_
 refine ZBQ ?_
 refine ZCc fun b0 b1 => ?_
 refine A_9 ?_
 refine KC (fun q0 z0 => ?_) (fun q0 z0 => ?_)
 ·refine ZAl ?_
  refine ZDd ?_
  refine ZAF ?_
  have e1 : nY ⟨data, control, last, bits, count, sent⟩ = false := by unfold nY; dsimp only; simp only [decide_eq_true_eq, decide_eq_false_iff_not]; omega
  exact aG (fun w hw => aY rfl rfl rfl (aA (b := b1) m_m w hw) rfl) ⟨rfl, y_Z⟩
 refine ZBn ?_
 refine ZAa ?_
 refine ZA4 ?_
 refine ZDH ?_
 refine KC (fun q1 z1 => ?_) (fun q1 z1 => ?_)
 ·refine ZAl ?_
  refine ZDd ?_
  refine ZAF ?_
  have e1 : nY ⟨data, control, last, bits, count, sent⟩ = false := by unfold nY; dsimp only; simp only [decide_eq_true_eq, decide_eq_false_iff_not]; omega
  exact aG (fun w hw => aY rfl rfl rfl (aA (b := b1) m_m w hw) rfl) ⟨rfl, y_Z⟩
 refine ZBb ?_
 refine RW (dO rfl rfl y_b) rfl y_ei (RW (v := (.int .u8 (data % 128 * 2 + 1))) (cT rfl rfl) rfl (cA_ U_ (aNl k1)) ?_)
 refine ZA4 ?_
 refine ZA4 ?_
 refine ZBn ?_
 refine ZBg ?_
 refine ZA4 ?_
 refine ZDH ?_
 refine KC (fun q2 z2 => ?_) (fun q2 z2 => ?_)
 ·refine ZAl ?_
  refine ZDd ?_
  refine ZAF ?_
  have e1 : nY ⟨data, control, last, bits, count, sent⟩ = false := by unfold nY; dsimp only; simp only [decide_eq_true_eq, decide_eq_false_iff_not]; omega
  exact aG (fun w hw => aY rfl rfl rfl (aA (b := b1) m_m w hw) rfl) ⟨rfl, y_Z⟩
 refine ZBb ?_
 refine RW (v := (.int .u8 (control % 128))) (tC rfl rfl) rfl (cA_ U_ (aNa k2)) ?_
 refine ZA5 ?_
 refine ZDd ?_
 refine ZAF ?_
 have e1 : nY ⟨data, control, last, bits, count, sent⟩ = true := by unfold nY; dsimp only; simp only [decide_eq_true_eq, decide_eq_false_iff_not]; omega
 exact aG (fun w hw => aY rfl rfl rfl (aA (b := b1) m_m w hw) rfl) ⟨rfl, y_Z⟩
def aJl (p : Pt) (h : p.Ok) (w : AI) : aB prog 294 [.agg (cPt p).toArray] w [] (V_ (.agg (cPt (beginPt p)).toArray)) := by
 obtain ⟨data, control, last, bits, count, sent⟩ := p
 obtain ⟨k1, k2, k3, k4, k5, k6⟩ := h
 dsimp only at k1 k2 k3 k4 k5 k6
 refine dR_ func294 ?_
 refine ZBQ ?_
 refine ZCc fun b0 b1 => ?_
 refine ZBn ?_
 refine ZEn ?_
 refine ZA4 ?_
 refine ZA4 ?_
 refine ZBb ?_
 refine ZAa ?_
 refine ZBY ?_
 refine ZA5 ?_
 refine ZDd ?_
 exact ZB0
def aIL (p : Pt) (h : p.Ok) (n x : Int) (hx : 0 ≤ x ∧ x < 256) (w : AI) : aB prog 293 [.agg (cPt p).toArray, .int .i64 n, .int .u8 x] w [] (V_ (.agg (cPt (writePt n x p)).toArray)) := by
 obtain ⟨data, control, last, bits, count, sent⟩ := p
 obtain ⟨k1, k2, k3, k4, k5, k6⟩ := h
 dsimp only at k1 k2 k3 k4 k5 k6
 have hb := aNz hx
 refine dR_ func293 ?_
 refine ZBQ ?_
 refine ZCc fun b0 b1 => ?_
 refine A_12 ?_
 refine KC (fun q0 z0 => ?_) (fun q0 z0 => ?_)
 ·refine ZA1 ?_
  refine ZAF ?_
  refine ZDd ?_
  exact ZB1
 refine ZBb ?_
 refine KC (fun q1 z1 => ?_) (fun q1 z1 => ?_)
 ·refine ZA1 ?_
  refine RW (v := (.int .u8 (x / 128 * 128 + x % 2))) (bE rfl rfl) rfl (cA_ U_ hb) ?_
  refine ZA4 ?_
  refine ZA4 ?_
  refine ZDH ?_
  refine KC (fun q2 z2 => ?_) (fun q2 z2 => ?_)
  ·refine ZAl ?_
   refine ZDd ?_
   refine RLv K_ (wQ_ (aJl ⟨data, x / 128 * 128 + x % 2, last, 0, count, sent⟩ ⟨k1, y_ed, k3, y_ed, k5, k6⟩)) ?_
   exact ZB1
  refine ZA1 ?_
  refine ZDd ?_
  exact ZB1
 refine ZA1 ?_
 refine ZDd ?_
 exact ZB1
def aMa (p : Pt) (h : p.Ok) (n : Int) (w : AI) : aB prog 164 [.agg (cPt p).toArray, .int .i64 n] w [] (V_ (.int .u8 (readPt n p))) := by
 obtain ⟨data, control, last, bits, count, sent⟩ := p
 obtain ⟨k1, k2, k3, k4, k5, k6⟩ := h
 dsimp only at k1 k2 k3 k4 k5 k6
 refine dR_ func164 ?_
 refine ZBQ ?_
 refine ZAq fun b0 => ?_
 refine A_13 ?_
 refine KC (fun q0 z0 => ?_) (fun q0 z0 => ?_)
 ·refine ZDH ?_
  exact E0 rfl ⟨rfl, y_bu⟩
 refine ZBb ?_
 refine KC (fun q1 z1 => ?_) (fun q1 z1 => ?_)
 ·refine ZBr ?_
  refine RW (v := (.int .u8 (control / 128 * 128 + 126 + control % 2))) (cT rfl rfl) rfl (cA_ U_ (aJZ k2)) ?_
  refine ZA1 ?_
  exact E0 rfl ⟨rfl, y_bu⟩
 refine ZBn ?_
 exact E0 rfl ⟨rfl, y_bu⟩
def aEs (c : Cp) (h : c.Ok) (w : AI) : aB prog 295 [.agg (cCp c).toArray] w [] (V_ (.bool (qA c))) := by
 obtain ⟨page, left⟩ := c
 obtain ⟨k1, k2⟩ := h
 dsimp only at k1 k2
 refine dR_ func295 ?_
 refine ZC4 ?_
 refine ZAq fun b0 => ?_
 refine A_10 ?_
 exact E0 rfl ⟨rfl, rfl⟩
def aLs (c : Cp) (h : c.Ok) (w : AI) : aB prog 331 [.agg (cCp c).toArray] w [] (V_ (.int .u16 (fromCp c))) := by
 obtain ⟨page, left⟩ := c
 obtain ⟨k1, k2⟩ := h
 dsimp only at k1 k2
 refine dR_ func331 ?_
 refine ZC4 ?_
 refine ZAq fun b0 => ?_
 refine A_9 ?_
 refine KC (fun q0 z0 => ?_) (fun q0 z0 => ?_)
 ·refine ZBr ?_
  refine RW (iV rfl rfl) rfl y_o (ZEW ?_)
  refine RW (dO rfl rfl y_b) rfl y_d1 (ZA1 ?_)
  exact E0 rfl ⟨rfl, y_ct⟩
 refine ZBb ?_
 refine ZEW ?_
 refine RW (dO rfl rfl y_b) rfl y_d1 (ZA1 ?_)
 exact E0 rfl ⟨rfl, y_ct⟩
def tM (c : Cp) (x : Int) (w : AI) : aB prog 296 [.agg (cCp c).toArray, .int .u8 x] w [] (V_ (.agg (cCp (tQ x)).toArray)) := by
 refine dR_ func296 ?_
 refine ZAl ?_
 refine RX (cM (l := cCp c) rfl rfl) rfl (ZCc fun b0 b1 => ?_)
 refine ZBr ?_
 refine RS ?_
 exact ZB0
def aDS (c : Cp) (h : c.Ok) (a : Int) (w : AI) : aB prog 328 [.agg (cCp c).toArray, .int .u16 a] w [] (V_ (.bool (letsCp c a))) := by
 obtain ⟨page, left⟩ := c
 obtain ⟨k1, k2⟩ := h
 dsimp only at k1 k2
 refine dR_ func328 ?_
 refine ZC4 ?_
 refine ZAq fun b0 => ?_
 refine ZBr ?_
 refine ZDD ?_
 refine RLv K_ (wQ_ (aEs ⟨page, left⟩ ⟨k1, k2⟩)) ?_
 rw [show qA ⟨page, left⟩ = decide (0 < left) from rfl]
 refine ZBL ?_
 refine KL (fun q0 z0 => ?_) (fun q0 z0 => ?_)
 ·refine ZBn ?_
  exact E0 rfl ⟨rfl, (cA_ Value.bool (by unfold letsCp qA; simp_all))⟩
 refine ZBn ?_
 exact E0 rfl ⟨rfl, (cA_ Value.bool (by unfold letsCp qA; simp_all))⟩
def aLY (c : Cp) (h : c.Ok) (w : AI) : aB prog 323 [.agg (cCp c).toArray] w [] (V_ (.tuple #[.agg (cCp (tickCp c)).toArray, .int .u16 (sC c), .int .i64 (zT c), .bool (qA c)])) := by
 obtain ⟨page, left⟩ := c
 obtain ⟨k1, k2⟩ := h
 dsimp only at k1 k2
 refine dR_ func323 ?_
 refine ZC4 ?_
 refine ZCc fun b0 b1 => ?_
 refine ZDH ?_
 refine ZDD ?_
 refine RLv K_ (wQ_ (aEs ⟨page, left⟩ ⟨k1, k2⟩)) ?_
 rw [show qA ⟨page, left⟩ = decide (0 < left) from rfl]
 refine ZAl ?_
 refine KC (fun q0 z0 => ?_) (fun q0 z0 => ?_)
 ·refine ZAl ?_
  refine ZDD ?_
  refine ZEn ?_
  refine ZBb ?_
  have e0 : ¬ 0 < left := by simpa using q0
  exact aG (fun w hw => aCu rfl rfl rfl (aA (b := b1) m_m w hw) rfl rfl rfl) ⟨rfl, by unfold tickCp sC zT; simp only [if_neg e0, bw e0]; rfl⟩
 refine ZBb ?_
 refine ZBg ?_
 refine ZBr ?_
 refine ZDD ?_
 refine RLv K_ (wQ_ (aLs ⟨page, left⟩ ⟨k1, k2⟩)) ?_
 refine ZBL ?_
 refine ZEW ?_
 refine RW (v := (.int .u16 ((fromCp ⟨page, left⟩ + (160 - left)) % 65536))) rfl rfl ((wW _).trans (cA_ _ o_m)) (ZBn ?_)
 refine ZBg ?_
 refine ZA5 ?_
 refine ZDD ?_
 refine ZAl ?_
 refine ZEn ?_
 refine ZBb ?_
 have e0 : 0 < left := by simpa using q0
 exact aG (fun w hw => aCu rfl rfl rfl (aA (b := b1) m_m w hw) rfl rfl rfl) ⟨rfl, by unfold tickCp sC zT; simp only [if_pos e0, ah e0]; rfl⟩
def opens_fn (x : Int) (hx : 0 ≤ x ∧ x < 256) (w : AI) : aB prog 285 [.int .u8 x] w [] (V_ (.bool (aAj x))) := by
 refine dR_ func285 ?_
 refine ZDH ?_
 refine ZBw ?_
 exact ZAi
def aQf (m : Bk) (h : m.Ok) (a x : Int) (ha : 0 ≤ a ∧ a < 32768) (hx : 0 ≤ x ∧ x < 256) (w : AI) : aB prog 281 [.agg (cBk m).toArray, .int .u16 a, .int .u8 x] w [] (V_ (.agg (cBk (oneB a x m)).toArray)) := by
 obtain ⟨kind, banks, ram, on, mode, low, high, last⟩ := m
 obtain ⟨k1, k2, k3, k4, k5, k6⟩ := h
 dsimp only at k1 k2 k3 k4 k5 k6
 refine dR_ func281 ?_
 refine ZAl ?_
 refine ZAP fun b0 => ?_
 refine ZAu fun b1 => ?_
 refine ZBb ?_
 refine RW (dU rfl rfl y_b) rfl (iY 8192 y_b y_b) (ZDH ?_)
 refine KC (fun q0 z0 => ?_) (fun q0 z0 => ?_)
 ·refine ZEE ?_
  refine ZEa ?_
  exact ZB2
 refine ZBb ?_
 refine KC (fun q1 z1 => ?_) (fun q1 z1 => ?_)
 ·refine ZAl ?_
  refine RW (bE rfl rfl) rfl y_eu (ZAX ?_)
  refine RY (kD rfl rfl) rfl (ZEa ?_)
  exact ZB2
 refine ZBb ?_
 refine KC (fun q2 z2 => ?_) (fun q2 z2 => ?_)
 ·refine ZAl ?_
  refine RW (bE rfl rfl) rfl (by first | exact iG 2 4 y_b rfl o_m (show _ < (256 : Int) by omega) (show _ < (256 : Int) by decide) | rfl) (ZAX ?_)
  refine ZEa ?_
  exact ZB2
 refine ZAl ?_
 refine RW (bE rfl rfl) rfl y_dZ (ZAl ?_)
 refine ZAF ?_
 refine ZAc ?_
 exact ZB2
def aRT (m : Bk) (h : m.Ok) (a x : Int) (ha : 0 ≤ a ∧ a < 32768) (hx : 0 ≤ x ∧ x < 256) (w : AI) : aB prog 282 [.agg (cBk m).toArray, .int .u16 a, .int .u8 x] w [] (V_ (.agg (cBk (twoB a x m)).toArray)) := by
 obtain ⟨kind, banks, ram, on, mode, low, high, last⟩ := m
 obtain ⟨k1, k2, k3, k4, k5, k6⟩ := h
 dsimp only at k1 k2 k3 k4 k5 k6
 refine dR_ func282 ?_
 refine ZAl ?_
 refine ZAP fun b0 => ?_
 refine ZAu fun b1 => ?_
 refine A_9 ?_
 refine KC (fun q0 z0 => ?_) (fun q0 z0 => ?_)
 ·refine ZA1 ?_
  refine ZAc ?_
  exact ZCx
 refine ZA1 ?_
 refine RW (bE rfl rfl) rfl (by first | exact uP 8 y_b o_m (show _ < (65536 : Int) by omega) (show _ < (65536 : Int) by decide) | rfl) (ZA1 ?_)
 refine KC (fun q1 z1 => ?_) (fun q1 z1 => ?_)
 ·refine ZEE ?_
  refine ZEa ?_
  exact ZCx
 refine ZAl ?_
 refine ZBw ?_
 refine ZAX ?_
 refine RY (kD rfl rfl) rfl (ZEa ?_)
 exact ZCx
def aKv (m : Bk) (h : m.Ok) (a x : Int) (ha : 0 ≤ a ∧ a < 32768) (hx : 0 ≤ x ∧ x < 256) (w : AI) : aB prog 283 [.agg (cBk m).toArray, .int .u16 a, .int .u8 x] w [] (V_ (.tuple #[.agg (cBk (threeB a x m)).toArray, .bool (heldB a x m)])) := by
 obtain ⟨kind, banks, ram, on, mode, low, high, last⟩ := m
 obtain ⟨k1, k2, k3, k4, k5, k6⟩ := h
 dsimp only at k1 k2 k3 k4 k5 k6
 refine dR_ func283 ?_
 refine ZAl ?_
 refine ZAP fun b0 => ?_
 refine ZAu fun b1 => ?_
 refine A_10 ?_
 refine RW (dU rfl rfl y_b) rfl (iY 8192 y_b y_b) (ZDH ?_)
 refine KC (fun q0 z0 => ?_) (fun q0 z0 => ?_)
 ·refine ZEE ?_
  refine ZEa ?_
  refine ZA5 ?_
  exact ZAV
 refine ZBb ?_
 refine KC (fun q1 z1 => ?_) (fun q1 z1 => ?_)
 ·refine ZAl ?_
  refine RW (bE rfl rfl) rfl (by first | exact iG 7 128 y_b rfl o_m (show _ < (256 : Int) by omega) (show _ < (256 : Int) by decide) | rfl) (ZAX ?_)
  refine RY (kD rfl rfl) rfl (ZEa ?_)
  refine ZA5 ?_
  exact ZAV
 refine ZBb ?_
 refine KC (fun q2 z2 => ?_) (fun q2 z2 => ?_)
 ·refine ZAl ?_
  refine ZBw ?_
  refine ZAX ?_
  refine ZEa ?_
  refine ZA5 ?_
  exact ZAV
 refine ZBb ?_
 refine KL (fun q3 z3 => ?_) (fun q3 z3 => ?_)
 ·refine ZEf ?_
  refine ZAF ?_
  refine ZAc ?_
  refine ZA5 ?_
  have e1 : heldB a x ⟨kind, banks, ram, on, mode, low, high, last⟩ = (x == 1) := by unfold heldB; dsimp only; rw [Bool.eq_iff_iff]; simp only [decide_eq_true_eq, beq_iff_eq, Bool.false_eq_true, iff_false]; omega
  exact aG (fun w hw => aY rfl rfl rfl (aA (b := b1) m_m w hw) rfl) ⟨rfl, y_R⟩
 refine ZEf ?_
 refine ZAF ?_
 refine ZAc ?_
 refine ZA5 ?_
 exact ZAV
def aN1 (m : Bk) (h : m.Ok) (a x : Int) (ha : 0 ≤ a ∧ a < 32768) (hx : 0 ≤ x ∧ x < 256) (w : AI) : aB prog 284 [.agg (cBk m).toArray, .int .u16 a, .int .u8 x] w [] (V_ (.agg (cBk (fiveB a x m)).toArray)) := by
 obtain ⟨kind, banks, ram, on, mode, low, high, last⟩ := m
 obtain ⟨k1, k2, k3, k4, k5, k6⟩ := h
 dsimp only at k1 k2 k3 k4 k5 k6
 refine dR_ func284 ?_
 refine ZAl ?_
 refine ZAP fun b0 => ?_
 refine ZAu fun b1 => ?_
 refine ZBb ?_
 refine RW (dU rfl rfl y_b) rfl (iY 4096 y_b y_b) (ZEf ?_)
 refine KC (fun q0 z0 => ?_) (fun q0 z0 => ?_)
 ·refine ZBL ?_
  refine iO true rfl q0 ?_
  refine ZEE ?_
  refine ZEa ?_
  exact ZAp
 refine ZBr ?_
 refine KC (fun q1 z1 => ?_) (fun q1 z1 => ?_)
 ·refine ZEE ?_
  refine ZEa ?_
  exact ZAp
 refine ZBb ?_
 refine KC (fun q2 z2 => ?_) (fun q2 z2 => ?_)
 ·refine ZA1 ?_
  refine RW (v := (.int .i64 (low / 256 * 256))) (tC rfl rfl) rfl (cA_ (Value.int .i64) (aGt (n := low) o_m o_m)) (ZEb ?_)
  refine RW (v := (.int .i64 (low / 256 * 256 + x))) (cT rfl rfl) rfl (cA_ (Value.int .i64) (aBO (A := low / 256 * 256) o_m o_m o_m hx)) (ZEa ?_)
  exact ZAp
 refine ZBb ?_
 refine KC (fun q3 z3 => ?_) (fun q3 z3 => ?_)
 ·refine ZA1 ?_
  refine RW (v := (.int .i64 (low % 256))) (bE rfl rfl) rfl (cA_ _ (aFl _)) (ZBL ?_)
  refine RW (bE rfl rfl) rfl y_dZ (ZAX ?_)
  refine RW (dO rfl rfl y_b) rfl y_d6 (RW (v := (.int .i64 (low % 256 + x % 2 * 256))) (cT rfl rfl) rfl (cA_ (Value.int .i64) (vY (A := x % 2 * 256) o_m o_m o_m o_m)) (ZEa ?_))
  exact ZAp
 refine ZBn ?_
 refine KC (fun q4 z4 => ?_) (fun q4 z4 => ?_)
 ·refine ZBL ?_
  refine iO true rfl q4 ?_
  refine ZAl ?_
  refine ZBw ?_
  refine ZAX ?_
  refine ZEa ?_
  exact ZAp
 refine ZBr ?_
 refine KC (fun q5 z5 => ?_) (fun q5 z5 => ?_)
 ·refine ZAl ?_
  refine ZBw ?_
  refine ZAX ?_
  refine ZEa ?_
  exact ZAp
 refine ZA1 ?_
 refine ZAc ?_
 exact ZAp
def aLJ (m : Bk) (h : m.Ok) (a x : Int) (ha : 0 ≤ a ∧ a < 65536) (hx : 0 ≤ x ∧ x < 256) (w : AI) : aB prog 280 [.agg (cBk m).toArray, .int .u16 a, .int .u8 x] w [] (V_ (.tuple #[.agg (cBk (writeB a x m)).toArray, .bool (latchB a x m)])) := by
 obtain ⟨kind, banks, ram, on, mode, low, high, last⟩ := m
 obtain ⟨k1, k2, k3, k4, k5, k6⟩ := h
 dsimp only at k1 k2 k3 k4 k5 k6
 refine dR_ func280 ?_
 refine ZAl ?_
 refine ZAP fun b0 => ?_
 refine ZAu fun b1 => ?_
 refine ZBb ?_
 refine RW (bE rfl rfl) rfl (by first | exact iG 15 32768 y_b rfl o_m (show _ < (65536 : Int) by omega) (show _ < (65536 : Int) by decide) | rfl) (A_14 ?_)
 refine KC (fun q0 z0 => ?_) (fun q0 z0 => ?_)
 ·refine ZAl ?_
  refine ZAc ?_
  refine ZAl ?_
  refine RLv K_ (wQ_ (aQf ⟨kind, banks, ram, on, mode, low, high, last⟩ ⟨k1, k2, k3, k4, k5, k6⟩ (a % 32768) x o_m hx)) ?_
  refine ZAF ?_
  exact ZAn
 refine ZBb ?_
 refine KC (fun q1 z1 => ?_) (fun q1 z1 => ?_)
 ·refine ZAl ?_
  refine ZAc ?_
  refine ZAl ?_
  refine RLv K_ (wQ_ (aRT ⟨kind, banks, ram, on, mode, low, high, last⟩ ⟨k1, k2, k3, k4, k5, k6⟩ (a % 32768) x o_m hx)) ?_
  refine ZAF ?_
  exact ZAn
 refine ZBb ?_
 refine KC (fun q2 z2 => ?_) (fun q2 z2 => ?_)
 ·refine ZAl ?_
  refine ZAc ?_
  refine ZAl ?_
  refine RLv K_ (wQ_ (aKv ⟨kind, banks, ram, on, mode, low, high, last⟩ ⟨k1, k2, k3, k4, k5, k6⟩ (a % 32768) x o_m hx)) ?_
  refine ZAl ?_
  refine ZAF ?_
  have e1 : latchB a x ⟨kind, banks, ram, on, mode, low, high, last⟩ = heldB (a % 32768) x ⟨kind, banks, ram, on, mode, low, high, last⟩ := by unfold latchB; simp_all
  exact aG (fun w hw => aY rfl rfl rfl (aA (b := b1) m_m w hw) rfl) ⟨rfl, y_Q⟩
 refine ZBb ?_
 refine KC (fun q3 z3 => ?_) (fun q3 z3 => ?_)
 ·refine ZAl ?_
  refine ZAc ?_
  refine ZAl ?_
  refine RLv K_ (wQ_ (aN1 ⟨kind, banks, ram, on, mode, low, high, last⟩ ⟨k1, k2, k3, k4, k5, k6⟩ (a % 32768) x o_m hx)) ?_
  refine ZAF ?_
  exact ZAn
 refine ZA1 ?_
 refine ZAc ?_
 refine ZAF ?_
 exact ZAn
def aF2 (m : Bk) (h : m.Ok) (hb : 0 < m.banks) (a : Int) (ha : 0 ≤ a ∧ a < 65536) (w : AI) : aB prog 119 [.agg (cBk m).toArray, .int .u16 a] w [] (V_ (.int .i64 (bankB a m))) := by
 obtain ⟨kind, banks, ram, on, mode, low, high, last⟩ := m
 obtain ⟨k1, k2, k3, k4, k5, k6⟩ := h
 dsimp only at k1 k2 k3 k4 k5 k6 hb
 refine dR_ func119 ?_
 refine ZAl ?_
 refine ZAP fun b0 => ?_
 refine A_9 ?_
 refine RW (bE rfl rfl) rfl (by first | exact uP 14 y_b o_m (show _ < (65536 : Int) by omega) (show _ < (65536 : Int) by decide) | rfl) (A_15 ?_)
 refine KC (fun q0 z0 => ?_) (fun q0 z0 => ?_)
 ·refine ZBr ?_
  refine KC (fun q1 z1 => ?_) (fun q1 z1 => ?_)
  ·refine ZEf ?_
   exact ZDs
  exact ZEz
 refine ZBb ?_
 refine KC (fun q1 z1 => ?_) (fun q1 z1 => ?_)
 ·refine ZBr ?_
  refine KL (fun q2 z2 => ?_) (fun q2 z2 => ?_)
  ·refine ZEf ?_
   refine RW (dO rfl rfl y_b) rfl y_eD (ZBn ?_)
   refine KC (fun q3 z3 => ?_) (fun q3 z3 => ?_)
   ·refine ZBr ?_
    refine ZAa ?_
    refine ZDH ?_
    exact ZDs
   exact ZEz
  refine ZBr ?_
  refine KC (fun q3 z3 => ?_) (fun q3 z3 => ?_)
  ·refine ZA1 ?_
   refine RW (dO rfl rfl y_b) rfl y_eD (ZBn ?_)
   exact ZE0
  refine ZBb ?_
  exact ZE0
 refine ZBn ?_
 refine KC (fun q2 z2 => ?_) (fun q2 z2 => ?_)
 ·refine ZBL ?_
  refine iO true rfl q2 ?_
  refine ZBr ?_
  refine KC (fun q3 z3 => ?_) (fun q3 z3 => ?_)
  ·refine A_10 ?_
   exact ZDs
  exact ZEz
 refine ZBb ?_
 refine KC (fun q3 z3 => ?_) (fun q3 z3 => ?_)
 ·refine ZBL ?_
  refine iO true rfl q3 ?_
  refine ZBr ?_
  refine KC (fun q4 z4 => ?_) (fun q4 z4 => ?_)
  ·refine A_10 ?_
   exact ZDs
  exact ZEz
 refine ZBr ?_
 refine KC (fun q4 z4 => ?_) (fun q4 z4 => ?_)
 ·refine ZBr ?_
  refine KC (fun q5 z5 => ?_) (fun q5 z5 => ?_)
  ·refine A_10 ?_
   exact ZDs
  exact ZEz
 exact ZEz
def aRo (m : Bk) (h : m.Ok) (hb : 0 < m.banks) (a : Int) (ha : 0 ≤ a ∧ a < 65536) (w : AI) : aB prog 114 [.agg (cBk m).toArray, .int .u16 a] w [] (V_ (.int .i64 (aBC a m))) := by
 have hb9 := aFo h a
 have hb8 := h.banks
 refine dR_ func114 ?_
 refine ZAl ?_
 refine RX (cM (l := cBk m) rfl rfl) rfl (ZAq fun b0 => ?_)
 refine ZBr ?_
 refine ZAc ?_
 refine ZBL ?_
 refine RLv K_ (wQ_ (aF2 m h hb a ha)) ?_
 refine ZCA ?_
 refine ZEb ?_
 refine ZBY ?_
 refine ZAa ?_
 exact ZAR
def atB_fn (m : Bk) (h : m.Ok) (a : Int) (ha : 0 ≤ a ∧ a < 65536) (w : AI) : aB prog 162 [.agg (cBk m).toArray, .int .u16 a] w [] (V_ (atT (atB_ a m))) := by
 obtain ⟨kind, banks, ram, on, mode, low, high, last⟩ := m
 obtain ⟨k1, k2, k3, k4, k5, k6⟩ := h
 dsimp only at k1 k2 k3 k4 k5 k6
 refine dR_ func162 ?_
 refine ZAl ?_
 refine ZAP fun b0 => ?_
 refine ZBb ?_
 rcases on with _ | _
 ·refine ZA1 ?_
  refine KL (fun q0 z0 => ?_) (fun q0 z0 => ?_)
  ·refine A_21 ?_
   exact aG (fun _ _ => bX rfl rfl) ⟨rfl, y_e⟩
  refine ZA1 ?_
  refine KL (fun q1 z1 => ?_) (fun q1 z1 => ?_)
  ·refine A_17 ?_
   exact aG (fun _ _ => bX rfl rfl) ⟨rfl, y_e⟩
  refine ZAl ?_
  refine ZAQ ?_
  refine A_14 ?_
  exact aG (fun _ _ => bX rfl rfl) ⟨rfl, y_e⟩
 refine ZA1 ?_
 refine KL (fun q0 z0 => ?_) (fun q0 z0 => ?_)
 ·refine A_21 ?_
  exact aG (fun _ _ => bX rfl rfl) ⟨rfl, y_e⟩
 refine ZA1 ?_
 refine KL (fun q1 z1 => ?_) (fun q1 z1 => ?_)
 ·refine A_17 ?_
  exact aG (fun _ _ => bX rfl rfl) ⟨rfl, y_e⟩
 refine ZAl ?_
 refine ZAE ?_
 refine ZDH ?_
 refine KC (fun q2 z2 => ?_) (fun q2 z2 => ?_)
 ·refine ZBn ?_
  exact aG (fun _ _ => bX rfl rfl) ⟨rfl, y_e⟩
 refine ZBr ?_
 refine ZAX ?_
 refine ZBY ?_
 refine A_14 ?_
 refine KC (fun q3 z3 => ?_) (fun q3 z3 => ?_)
 ·refine ZBn ?_
  exact ZBq
 refine ZBb ?_
 refine KC (fun q4 z4 => ?_) (fun q4 z4 => ?_)
 ·refine ZBL ?_
  rcases mode with _ | _
  ·refine ZBr ?_
   refine iO false rfl rfl ?_
   refine ZBn ?_
   exact ZBq
  refine ZBr ?_
  refine iO true rfl rfl ?_
  refine ZBr ?_
  refine ZCA ?_
  refine ZAa ?_
  refine ZDH ?_
  exact ZBq
 refine ZBb ?_
 refine KC (fun q5 z5 => ?_) (fun q5 z5 => ?_)
 ·refine ZAl ?_
  refine ZBY ?_
  refine ZDH ?_
  exact ZBq
 refine ZBb ?_
 refine KC (fun q6 z6 => ?_) (fun q6 z6 => ?_)
 ·refine ZDH ?_
  refine KC (fun q7 z7 => ?_) (fun q7 z7 => ?_)
  ·refine ZBn ?_
   exact aG (fun _ _ => bX rfl rfl) ⟨rfl, y_e⟩
  refine ZBb ?_
  refine ZCA ?_
  refine ZAa ?_
  refine ZDH ?_
  exact ZBq
 refine ZBb ?_
 refine KC (fun q7 z7 => ?_) (fun q7 z7 => ?_)
 ·refine ZBr ?_
  refine ZCA ?_
  refine ZAa ?_
  refine ZDH ?_
  exact ZBq
 refine ZBn ?_
 exact aG (fun _ _ => bX rfl rfl) ⟨rfl, y_e⟩
def clockB_fn (m : Bk) (h : m.Ok) (w : AI) : aB prog 160 [.agg (cBk m).toArray] w [] (V_ (atT (clockB m))) := by
 obtain ⟨kind, banks, ram, on, mode, low, high, last⟩ := m
 obtain ⟨k1, k2, k3, k4, k5, k6⟩ := h
 dsimp only at k1 k2 k3 k4 k5 k6
 refine dR_ func160 ?_
 refine ZAl ?_
 refine ZAP fun b0 => ?_
 refine ZBb ?_
 rcases on with _ | _
 ·refine ZBr ?_
  refine KL (fun q0 z0 => ?_) (fun q0 z0 => ?_)
  ·refine A_22 ?_
   exact aG (fun _ _ => bX rfl rfl) ⟨rfl, y_u⟩
  refine ZAl ?_
  refine ZAQ ?_
  refine A_19 ?_
  exact aG (fun _ _ => bX rfl rfl) ⟨rfl, y_u⟩
 refine ZBr ?_
 refine KL (fun q0 z0 => ?_) (fun q0 z0 => ?_)
 ·refine A_22 ?_
  exact aG (fun _ _ => bX rfl rfl) ⟨rfl, y_u⟩
 refine ZAl ?_
 refine ZAE ?_
 refine ZBn ?_
 refine KL (fun q1 z1 => ?_) (fun q1 z1 => ?_)
 ·refine A_12 ?_
  exact aG (fun _ _ => bX rfl rfl) ⟨rfl, y_u⟩
 refine ZBb ?_
 refine KC (fun q2 z2 => ?_) (fun q2 z2 => ?_)
 ·refine ZBn ?_
  exact aG (fun _ _ => bX rfl rfl) ⟨rfl, y_u⟩
 refine ZBb ?_
 refine ZBg ?_
 refine ZBr ?_
 exact aG (fun _ _ => bX rfl rfl) ⟨rfl, y_u⟩
def aP4 (ti : ByteArray) (kind banks ram : Int) (cl ba wh : Bool) (w : AI) : aB prog 89 [.agg #[.string ti, .int .i64 kind, .bool cl, .bool ba, .int .i64 banks, .int .i64 ram, .bool wh]] w [] (V_ (.agg (cBk ⟨kind, banks, ram, decide (kind = 0), false, 1, 0, 255⟩).toArray)) := by
 refine dR_ func89 ?_
 refine ZAl ?_
 refine RX (cM (l := [.string ti, .int .i64 kind, .bool cl, .bool ba, .int .i64 banks, .int .i64 ram, .bool wh]) rfl rfl) rfl (ZCc fun b0 b1 => ?_)
 refine A_12 ?_
 refine RS ?_
 exact ZB0
def aAM (p : Pd) (w : AI) : aB prog 190 [.agg (cPd p).toArray] w [] (V_ (.int .u8 (qD p))) := by
 obtain ⟨sel, down⟩ := p
 refine dR_ func190 ?_
 refine ZDE ?_
 refine ZAq fun b0 => ?_
 refine A_11 ?_
 refine RW (v := (.int .u8 (aH .u8 sel 16))) (bE rfl rfl) rfl rfl (ZAl ?_)
 refine KC (fun q0 z0 => ?_) (fun q0 z0 => ?_)
 ·refine ZBr ?_
  refine RY (cT rfl rfl) rfl (ZDH ?_)
  refine RW (v := (.int .u8 (aH .u8 sel 32))) (bE rfl rfl) rfl rfl (ZAl ?_)
  refine KC (fun q1 z1 => ?_) (fun q1 z1 => ?_)
  ·refine ZBr ?_
   refine RW (v := (.int .u8 (shr .u8 down 4))) (dU rfl rfl y_b) rfl rfl (RY (cT rfl rfl) rfl (ZBb ?_))
   refine ZEj ?_
   exact E0 rfl ⟨rfl, (by unfold qD aDP; dsimp only; rw [if_pos z1, if_pos z0])⟩
  refine ZBr ?_
  refine ZEj ?_
  exact E0 rfl ⟨rfl, (by unfold qD aDP; dsimp only; rw [if_neg z1, if_pos z0])⟩
 refine ZBn ?_
 refine RW (v := (.int .u8 (aH .u8 sel 32))) (bE rfl rfl) rfl rfl (ZAl ?_)
 refine KC (fun q1 z1 => ?_) (fun q1 z1 => ?_)
 ·refine ZBr ?_
  refine RW (v := (.int .u8 (shr .u8 down 4))) (dU rfl rfl y_b) rfl rfl (RY (cT rfl rfl) rfl (ZBb ?_))
  refine ZEj ?_
  exact E0 rfl ⟨rfl, (by unfold qD aDP; dsimp only; rw [if_pos z1, if_neg z0])⟩
 refine ZBr ?_
 refine ZEj ?_
 exact E0 rfl ⟨rfl, (by unfold qD aDP; dsimp only; rw [if_neg z1, if_neg z0])⟩
def aLe (p : Pd) (w : AI) : aB prog 163 [.agg (cPd p).toArray] w [] (V_ (.int .u8 (aCx p))) := by
 obtain ⟨sel, down⟩ := p
 refine dR_ func163 ?_
 refine ZDE ?_
 refine ZAq fun b0 => ?_
 refine ZA1 ?_
 refine DR [4, 5, 6, 7] (pln [0, 2, 4, 6, 8, 11, 12, 14, 16, 18]) ?_
 refine ZAl ?_
 refine DW (v := (.int .u8 (aH .u8 sel 48))) rfl rfl rfl rfl (DW (v := _) rfl rfl rfl rfl (cL rfl rfl rfl rfl y_bB rfl rfl ?_))
 refine DZ rfl (bJ K_ rfl (wQ_ (aAM ⟨sel, down⟩))) rfl y_d (DW (v := (.int .u8 (kM .u8 255 (qD ⟨sel, down⟩)))) rfl rfl rfl rfl (DW (v := _) rfl rfl rfl rfl (DW (v := _) rfl rfl rfl rfl ?_)))
 exact ZAR
def aBA (p q : Pd) (w : AI) : aB prog 167 [.agg (cPd p).toArray, .agg (cPd q).toArray] w [] (V_ (.tuple #[.agg (cPd q).toArray, .bool (nP p q)])) := by
 refine dR_ func167 ?_
 refine ZAl ?_
 refine RX (cM (l := cPd p) rfl rfl) rfl (ZAq fun b0 => ?_)
 refine RX (cM (l := cPd q) rfl rfl) rfl ?_
 rintro _ _ ⟨b1, rfl, rfl⟩
 refine ZAI ?_
 rintro _ _ ⟨b2, rfl, rfl⟩
 refine ZA1 ?_
 refine DR [1, 2, 3, 4, 5, 6] (pln [0, 2, 6, 5, 9, 10, 12, 15, 16]) ?_
 refine cL rfl rfl rfl rfl y_bB rfl rfl ?_
 refine cL rfl rfl rfl rfl y_bB rfl rfl ?_
 refine cL rfl rfl rfl rfl y_bB rfl rfl ?_
 refine DZ rfl (bJ K_ rfl (wQ_ (aAM q))) rfl y_d (DZ rfl (bJ K_ rfl (wQ_ (aAM p))) rfl y_d (DW (v := _) rfl rfl rfl rfl (ZBL ?_)))
 refine DZ rfl s_t rfl n_h (ZA1 ?_)
 exact aG (fun w hw => aY rfl rfl rfl (aA (b := b2) m_m w hw) rfl) ⟨rfl, rfl⟩
def aPb (p : Pd) (x : Int) (w : AI) : aB prog 292 [.agg (cPd p).toArray, .int .u8 x] w [] (V_ (.tuple #[.agg (cPd (lN x p)).toArray, .bool (nP p (lN x p))])) := by
 obtain ⟨sel, down⟩ := p
 refine dR_ func292 ?_
 refine ZDE ?_
 refine ZCc fun b0 b1 => ?_
 refine ZBr ?_
 refine ZDD ?_
 refine ZBL ?_
 refine RW (v := (.int .u8 (aH .u8 x 48))) rfl rfl rfl (ZAl ?_)
 refine RS ?_
 refine RLv K_ (wQ_ (aBA ⟨sel, down⟩ (lN x ⟨sel, down⟩))) ?_
 refine ZAl ?_
 exact ZEo
def aII (p : Pd) (x : Int) (w : AI) : aB prog 120 [.agg (cPd p).toArray, .int .u8 x] w [] (V_ (.tuple #[.agg (cPd (hY x p)).toArray, .bool (nP p (hY x p))])) := by
 obtain ⟨sel, down⟩ := p
 refine dR_ func120 ?_
 refine ZDE ?_
 refine ZCc fun b0 b1 => ?_
 refine ZBr ?_
 refine ZDD ?_
 refine ZA1 ?_
 refine RS ?_
 refine RLv K_ (wQ_ (aBA ⟨sel, down⟩ (hY x ⟨sel, down⟩))) ?_
 refine ZAl ?_
 exact ZEo
def aL2 (l : List Chg) (a : AC) (cp : Nat) (hll : l.length ≤ 1000000) (n : Int) (w : AI) (hE : Els w nR a l) : aB prog 121 [.slice a l.length cp, .int .u64 n] w [] (V_ (.int .u8 (eS l n))) := by
 refine dR_ func121 ?_
 refine A_12 ?_
 refine ZC1 ?_
 refine nL (σ := Nat × AH) [5, 6, 7, 10, 11, 12, 13, 14, 15, 16, 17, 18, 19, 20, 21, 22, 23, 24, 25, 26, 27, 28, 29, 30, 31, 32, 33, 34, 35, 36, 37, 38] (fun q => [(5, q.2), (10, .int .i64 q.1)]) (fun q => q.1 ≤ l.length ∧ ((zQ n (l.take q.1) = none ∧ q.2 = .pointer none) ∨ ∃ c0, zQ n (l.take q.1) = some c0 ∧ ∃ b0 o0, q.2 = .pointer (some ⟨b0, o0, none⟩) ∧ w.cell? ⟨b0, o0, none⟩ = some (.int .u64 c0.at_) ∧ w.cell? ⟨b0, o0 + 1, none⟩ = some (.int .u8 c0.down))) (fun q => l.length - q.1) (0, .pointer none) ?_ ?_ ?_
 ·exact ⟨al _, .inl ⟨rfl, rfl⟩⟩
 ·exact .cons rfl (.cons rfl .nil)
 rintro ⟨i, pv⟩ y3 ⟨hi, hb9⟩
 dsimp only at hi hb9 ⊢
 refine ZBb ?_
 refine KC (fun q0 z0 => ?_) (fun q0 z0 => ?_)
 ·refine ZBr ?_
  obtain ⟨bx, ox, rfl, hrx⟩ := hE.row (i := i) o_m
  obtain ⟨c, hcx0⟩ : ∃ c, l[i]? = some c := ⟨_, ak o_m⟩
  refine ZEf ?_
  refine RY (bG (s := 2) i rfl rfl rfl rfl o_m) rfl (ZA1 ?_)
  rcases hb9 with ⟨hb, rfl⟩ | ⟨c0, hb, b0, o0, rfl, hc0, hc1⟩
  ·refine DR [4, 14, 15, 16, 17] (pln [0, 2, 4, 6, 8, 10, 12, 14, 16, 18, 20, 22, 24, 26, 28, 30, 32, 34, 36, 38, 40]) ?_
   refine ZA1 ?_
   refine DL rfl rfl rfl (fun w hw => y_el) rfl (ZAl ?_)
   refine KE (fun q1 z1 => ?_) (fun q1 z1 => ?_)
   ·refine ZBL ?_
    refine xO true rfl rfl rfl rfl rfl ?_
    refine A_19 ?_
    refine ZAD ?_
    exact ⟨(i + 1, _), ⟨y_y, .inr ⟨c, by rw [best_step hcx0, hb]; exact aCr o_m rfl, _, _, rfl, y_dv, y_du⟩⟩, y_bD, .cons rfl (.cons rfl .nil), a_g, fun _ h => h⟩
   refine A_18 ?_
   refine ZAD ?_
   exact ⟨(i + 1, _), ⟨y_y, .inl ⟨y_dE, rfl⟩⟩, y_bD, .cons rfl (.cons rfl .nil), a_g, fun _ h => h⟩
  refine DR [4, 14, 15, 16, 17] (pln [0, 2, 4, 6, 8, 10, 12, 14, 16, 18, 20, 22, 24, 26, 28, 30, 32, 34, 36, 38, 40]) ?_
  refine ZA1 ?_
  refine DL rfl rfl rfl (fun w hw => y_el) rfl (ZAl ?_)
  refine KE (fun q1 z1 => ?_) (fun q1 z1 => ?_)
  ·refine ZBL ?_
   refine xO false rfl rfl rfl rfl rfl ?_
   refine ZBr ?_
   refine DL rfl rfl rfl (fun w hw => y_el) rfl (ZA1 ?_)
   refine DL rfl rfl rfl (eB hc0 y_r) rfl (ZBr ?_)
   refine KC (fun q2 z2 => ?_) (fun q2 z2 => ?_)
   ·refine ZBb ?_
    refine ZAD ?_
    exact ⟨(i + 1, _), ⟨y_y, .inr ⟨c, by rw [best_step hcx0, hb]; exact aCr o_m (ah o_m), _, _, rfl, y_dv, y_du⟩⟩, y_bD, .cons rfl (.cons rfl .nil), a_g, fun _ h => h⟩
   refine ZAl ?_
   refine ZAD ?_
   exact ⟨(i + 1, _), ⟨y_y, .inr ⟨c0, by rw [best_step hcx0, hb]; exact better_no (.inr (bw o_m)), b0, o0, rfl, hc0, hc1⟩⟩, y_bD, .cons rfl (.cons rfl .nil), a_g, fun _ h => h⟩
  refine A_18 ?_
  refine ZAD ?_
  exact ⟨(i + 1, _), ⟨y_y, .inr ⟨c0, y_dE, b0, o0, rfl, hc0, hc1⟩⟩, y_bD, .cons rfl (.cons rfl .nil), a_g, fun _ h => h⟩
 refine ZA1 ?_
 obtain rfl : i = l.length := by omega
 rw [db] at hb9
 rcases hb9 with ⟨hb, rfl⟩ | ⟨c0, hb, b0, o0, rfl, hc0, hc1⟩
 ·refine ZAl ?_
  refine ZAQ ?_
  refine ZDH ?_
  exact E0 rfl ⟨rfl, (by unfold eS; rw [hb])⟩
 refine ZAl ?_
 refine ZAE ?_
 refine ZEf ?_
 refine RZ (aE rfl rfl (aV hc1 y_r)) rfl (ZA1 ?_)
 exact E0 rfl ⟨rfl, (by unfold eS; rw [hb])⟩
def aOx (b : Nat) (s m h day sub : Int) (halt carry : Bool) (d0 d1 d2 d3 d4 : Int) (k : 0 ≤ s ∧ s < 256) (w : AI) (hst : St w [b] [(b, blk [.int .u8 s, .int .u8 m, .int .u8 h, .int .i64 day, .int .i64 sub, .bool halt, .bool carry, .int .u8 d0, .int .u8 d1, .int .u8 d2, .int .u8 d3, .int .u8 d4] 133)] w) : aB prog 338 [P_ b, .int .u8 63, .int .u8 60] w [b] (fun v H => v = .bool (decide ((s + 1) % 64 = 60)) ∧ H = [(b, blk [.int .u8 (if (s + 1) % 64 = 60 then 0 else (s + 1) % 64), .int .u8 m, .int .u8 h, .int .i64 day, .int .i64 sub, .bool halt, .bool carry, .int .u8 d0, .int .u8 d1, .int .u8 d2, .int .u8 d3, .int .u8 d4] 133)]) := by
 refine dO_ func338 hst ?_
 refine A_10 ?_
 refine ZB9 ?_
 refine ZBL ?_
 refine RW (v := (.int .u8 ((s + 1) % 64))) (bE rfl rfl) rfl (cA_ U_ (aX (p := fun x => aH .u8 ((x + 1) % 256) 63 = (x + 1) % 64) y_z k.1 k.2)) ?_
 refine ZA4 ?_
 refine A_10 ?_
 refine KC (fun q0 z0 => ?_) (fun q0 z0 => ?_)
 ·refine ZBb ?_
  exact EV rfl sR_ ⟨cA_ Value.bool (bw z0).symm, by rw [if_neg z0]; rfl⟩
 refine ZBb ?_
 refine ZEn ?_
 exact ZC8
def aNs (b : Nat) (s m h day sub : Int) (halt carry : Bool) (d0 d1 d2 d3 d4 : Int) (k : 0 ≤ m ∧ m < 256) (w : AI) (hst : St w [b] [(b, blk [.int .u8 s, .int .u8 m, .int .u8 h, .int .i64 day, .int .i64 sub, .bool halt, .bool carry, .int .u8 d0, .int .u8 d1, .int .u8 d2, .int .u8 d3, .int .u8 d4] 133)] w) : aB prog 338 [.pointer (some ⟨b, 1, none⟩), .int .u8 63, .int .u8 60] w [b] (fun v H => v = .bool (decide ((m + 1) % 64 = 60)) ∧ H = [(b, blk [.int .u8 s, .int .u8 (if (m + 1) % 64 = 60 then 0 else (m + 1) % 64), .int .u8 h, .int .i64 day, .int .i64 sub, .bool halt, .bool carry, .int .u8 d0, .int .u8 d1, .int .u8 d2, .int .u8 d3, .int .u8 d4] 133)]) := by
 refine dO_ func338 hst ?_
 refine A_10 ?_
 refine ZB9 ?_
 refine ZBL ?_
 refine RW (v := (.int .u8 ((m + 1) % 64))) (bE rfl rfl) rfl (cA_ U_ (aX (p := fun x => aH .u8 ((x + 1) % 256) 63 = (x + 1) % 64) y_z k.1 k.2)) ?_
 refine ZA4 ?_
 refine A_10 ?_
 refine KC (fun q0 z0 => ?_) (fun q0 z0 => ?_)
 ·refine ZBb ?_
  exact EV rfl sR_ ⟨cA_ Value.bool (bw z0).symm, by rw [if_neg z0]; rfl⟩
 refine ZBb ?_
 refine ZEn ?_
 exact ZC8
def aPd (b : Nat) (s m h day sub : Int) (halt carry : Bool) (d0 d1 d2 d3 d4 : Int) (k : 0 ≤ h ∧ h < 256) (w : AI) (hst : St w [b] [(b, blk [.int .u8 s, .int .u8 m, .int .u8 h, .int .i64 day, .int .i64 sub, .bool halt, .bool carry, .int .u8 d0, .int .u8 d1, .int .u8 d2, .int .u8 d3, .int .u8 d4] 133)] w) : aB prog 338 [.pointer (some ⟨b, 2, none⟩), .int .u8 31, .int .u8 24] w [b] (fun v H => v = .bool (decide ((h + 1) % 32 = 24)) ∧ H = [(b, blk [.int .u8 s, .int .u8 m, .int .u8 (if (h + 1) % 32 = 24 then 0 else (h + 1) % 32), .int .i64 day, .int .i64 sub, .bool halt, .bool carry, .int .u8 d0, .int .u8 d1, .int .u8 d2, .int .u8 d3, .int .u8 d4] 133)]) := by
 refine dO_ func338 hst ?_
 refine A_10 ?_
 refine ZB9 ?_
 refine ZBL ?_
 refine RW (v := (.int .u8 ((h + 1) % 32))) (bE rfl rfl) rfl (cA_ U_ (aX (p := fun x => aH .u8 ((x + 1) % 256) 31 = (x + 1) % 32) y_z k.1 k.2)) ?_
 refine ZA4 ?_
 refine A_10 ?_
 refine KC (fun q0 z0 => ?_) (fun q0 z0 => ?_)
 ·refine ZBb ?_
  exact EV rfl sR_ ⟨cA_ Value.bool (bw z0).symm, by rw [if_neg z0]; rfl⟩
 refine ZBb ?_
 refine ZEn ?_
 exact ZC8
def aLT (b : Nat) (c : Ck) (hc : c.Fo) (w : AI) (hst : St w [b] [(b, blk (cCk c) 133)] w) : aB prog 312 [P_ b] w [b] (fun v H => v = .tuple #[] ∧ H = [(b, blk (cCk (secCk c)) 133)]) := by
 obtain ⟨s, m, h, day, sub, halt, carry, d0, d1, d2, d3, d4⟩ := c
 obtain ⟨k1, k2, k3, k4, k5⟩ := hc
 dsimp only at k1 k2 k3 k4
 refine dO_ func312 hst ?_
 refine ZBn ?_
 refine RZ (cB K_ rfl (wV_ (aOx b s m h day sub halt carry d0 d1 d2 d3 d4 k1))) rfl (ZBL ?_)
 refine KL (fun q0 z0 => ?_) (fun q0 z0 => ?_)
 ·refine A_16 ?_
  have e1 : ¬ (s + 1) % 64 = 60 := by simpa using q0
  exact EN sR_ ⟨rfl, by unfold secCk dayCk; simp only [e1, ne_eq, not_true_eq_false, not_false_eq_true, if_true, if_false]; rfl⟩
 refine ZA1 ?_
 refine RZ (cB K_ rfl (wV_ (aNs b (if (s + 1) % 64 = 60 then 0 else (s + 1) % 64) m h day sub halt carry d0 d1 d2 d3 d4 k2))) rfl (ZAl ?_)
 refine KL (fun q1 z1 => ?_) (fun q1 z1 => ?_)
 ·refine A_9 ?_
  have e1 : (s + 1) % 64 = 60 := by simpa using q0
  have e2 : ¬ (m + 1) % 64 = 60 := by simpa using q1
  exact EN sR_ ⟨rfl, by unfold secCk dayCk; simp only [e1, e2, ne_eq, not_true_eq_false, not_false_eq_true, if_true, if_false]; rfl⟩
 refine ZA1 ?_
 refine RZ (cB K_ rfl (wV_ (aPd b (if (s + 1) % 64 = 60 then 0 else (s + 1) % 64) (if (m + 1) % 64 = 60 then 0 else (m + 1) % 64) h day sub halt carry d0 d1 d2 d3 d4 k3))) rfl (ZA1 ?_)
 refine KC (fun q2 z2 => ?_) (fun q2 z2 => ?_)
 ·refine ZBL ?_
  have e1 : (s + 1) % 64 = 60 := by simpa using q0
  have e2 : (m + 1) % 64 = 60 := by simpa using q1
  have e3 : ¬ (h + 1) % 32 = 24 := by simpa using q2
  exact EN sR_ ⟨rfl, by unfold secCk dayCk; simp only [e1, e2, e3, ne_eq, not_true_eq_false, not_false_eq_true, if_true, if_false]; rfl⟩
 refine ZDH ?_
 refine ZAa ?_
 refine ZAl ?_
 refine ZEn ?_
 refine A_9 ?_
 refine KC (fun q3 z3 => ?_) (fun q3 z3 => ?_)
 ·refine ZBb ?_
  refine ZAK ?_
  refine ZEn ?_
  refine ZBL ?_
  have e1 : (s + 1) % 64 = 60 := by simpa using q0
  have e2 : (m + 1) % 64 = 60 := by simpa using q1
  have e3 : (h + 1) % 32 = 24 := by simpa using q2
  have e4 := z3
  exact EN sR_ ⟨rfl, y_ci⟩
 refine ZBL ?_
 have e1 : (s + 1) % 64 = 60 := by simpa using q0
 have e2 : (m + 1) % 64 = 60 := by simpa using q1
 have e3 : (h + 1) % 32 = 24 := by simpa using q2
 have e4 := z3
 exact EN sR_ ⟨rfl, y_ci⟩
def tickCk_fn (c : Ck) (hc : c.Ok) (w : AI) : aB prog 327 [.agg (cCk c).toArray, .int .i64 1] w [] (V_ (.agg (cCk (tickCk c)).toArray)) := by
 obtain ⟨s, m, h, day, sub, halt, carry, d0, d1, d2, d3, d4⟩ := c
 obtain ⟨⟨k1, k2, k3, k4, k5⟩, k6⟩ := hc
 dsimp only at k1 k2 k3 k4 k6
 have hf9 : (⟨s, m, h, day, sub + 1, halt, carry, d0, d1, d2, d3, d4⟩ : Ck).Fo := ⟨k1, k2, k3, k4, k5⟩
 have hsub9 : ∀ k : Nat, (jU (⟨s, m, h, day, sub + 1, halt, carry, d0, d1, d2, d3, d4⟩ : Ck) k).sub = sub + 1 - 1048576 * k := fun k => zC _ k
 refine dR_ func327 ?_
 refine ZAr ?_
 refine ZCc fun b0 b1 => ?_
 refine ZBn ?_
 refine KL (fun q0 z0 => ?_) (fun q0 z0 => ?_)
 ·refine ZDH ?_
  refine RZ (aK rfl rfl rfl y_N) rfl (ZAK ?_)
  obtain rfl := q0
  exact aG (fun w hw => aW rfl rfl rfl (aA (b := b1) m_m w hw)) ⟨rfl, by unfold tickCk; rw [if_pos rfl]; rfl⟩
 refine ZAl ?_
 refine ZAE ?_
 refine ZEf ?_
 refine RY (gH rfl rfl) rfl (ZAa ?_)
 refine ZA5 ?_
 refine bD (σ := Nat) [18, 19, 20, 21, 22, 23, 24, 25] (fun _ => []) (fun k => [(b1, blk [.int .u8 0, .int .u8 0, .int .u8 0, .int .i64 0, .int .i64 0, .bool false, .bool false, .int .u8 0, .int .u8 0, .int .u8 0, .int .u8 0, .int .u8 0] 133), (b0, blk (cCk (jU (⟨s, m, h, day, sub + 1, halt, carry, d0, d1, d2, d3, d4⟩ : Ck) k)) 133)]) (fun k => 1048576 * (k : Int) ≤ sub + 1) (fun k => ((sub + 1) / 1048576).toNat - k) 0 ?_ ?_ ?_ ?_
 ·show (1048576 : Int) * (0 : Nat) ≤ sub + 1; omega
 ·exact .nil
 ·exact fun _ h => h
 rintro k y4 hk
 dsimp only at hk ⊢
 have hs9 := hsub9 k
 refine ZBr ?_
 refine RZ (aE rfl rfl (aJ (v := .int .i64 (jU (⟨s, m, h, day, sub + 1, halt, carry, d0, d1, d2, d3, d4⟩ : Ck) k).sub) m_m rfl)) rfl (ZAl ?_)
 refine KC (fun q1 z1 => ?_) (fun q1 z1 => ?_)
 ·refine ZBn ?_
  refine ZBg ?_
  refine ZBL ?_
  refine ZAK ?_
  refine RX (aR (F := [(b1, _)]) (A := [(b0, _)]) K_ rfl (wL_ (aLT b0 { jU (⟨s, m, h, day, sub + 1, halt, carry, d0, d1, d2, d3, d4⟩ : Ck) k with sub := (jU (⟨s, m, h, day, sub + 1, halt, carry, d0, d1, d2, d3, d4⟩ : Ck) k).sub - 1048576 } ((hf9.secs k).sub_ _)))) rfl (ZAj ?_)
  refine ZBL ?_
  exact ⟨k + 1, y_y, y_y, .nil, a_g, fun _ h => h.as (by rw [aHl]; rfl)⟩
 refine ZA1 ?_
 refine RZ (aK rfl rfl rfl y_N) rfl (ZAK ?_)
 obtain rfl := q0
 exact aG (fun w hw => aW rfl rfl rfl (aA (b := b1) m_m w hw)) ⟨rfl, by unfold tickCk; rw [if_neg Bool.false_ne_true]; dsimp only; rw [show ((sub + 1) / 1048576).toNat = k by omega]; rfl⟩
def aF0 (n : Int) (x : Bool) (hn : n = 6 ∨ n = 7) (w : AI) : aB prog 350 [.int .i64 n, .bool x] w [] (V_ (.int .u8 (iM x (if n = 6 then 64 else 128)))) := by
 refine dR_ func350 ?_
 refine A_9 ?_
 refine KC (fun q0 z0 => ?_) (fun q0 z0 => ?_)
 ·refine ZBL ?_
  rcases hn with rfl | rfl
  ·refine ZAl ?_
   refine RY (dO rfl rfl o_m) rfl (ZA1 ?_)
   exact E0 rfl ⟨rfl, (by unfold iM; rw [if_pos q0]; rfl)⟩
  refine ZAl ?_
  refine RY (dO rfl rfl o_m) rfl (ZA1 ?_)
  exact E0 rfl ⟨rfl, (by unfold iM; rw [if_pos q0]; rfl)⟩
 refine ZBn ?_
 exact E0 rfl ⟨rfl, (by unfold iM; rw [if_neg (by rw [q0]; decide)])⟩
def aLV (c : Ck) (hc : c.Ok) (w : AI) : aB prog 339 [.agg (cCk c).toArray] w [] (V_ (.agg (cCk (uD c)).toArray)) := by
 obtain ⟨s, m, h, day, sub, halt, carry, d0, d1, d2, d3, d4⟩ := c
 obtain ⟨⟨k1, k2, k3, k4, k5⟩, k6⟩ := hc
 dsimp only at k1 k2 k3 k4 k6
 refine dR_ func339 ?_
 refine ZAr ?_
 refine ZCc fun b0 b1 => ?_
 refine ZAl ?_
 refine DR [2, 3, 4, 5, 6, 7, 8, 9, 10, 11, 12, 13, 14, 15, 16, 17, 18, 19, 20, 21] (pln [0, 2, 4, 6, 8, 10, 12, 14, 16, 18, 20, 22, 24, 26, 28, 30, 36, 38, 33, 34, 41, 42, 44, 46, 49]) ?_
 refine ZEf ?_
 refine ZBV ?_
 refine ZAl ?_
 refine ZDL ?_
 refine DW rfl (bE rfl rfl) rfl y_dZ (ZBr ?_)
 refine DZ rfl (bJ K_ rfl (wQ_ (aF0 6 halt y_b))) rfl y_d (DY rfl (cT rfl rfl) rfl (DZ rfl (bJ K_ rfl (wQ_ (aF0 7 carry y_b))) rfl y_d (DW (v := (.int .u8 (day / 256 % 2 + iM halt 64 + iM carry 128))) rfl (cT rfl rfl) rfl (cA_ U_ ((cA_ (fun z => bor .u8 (bor .u8 z (iM halt 64)) (iM carry 128)) (show day / 256 % 256 % 2 = day / 256 % 2 by omega)).trans (aOn o_m halt carry))) ?_)))
 refine DY rfl (lZ (l := [.int .u8 s, .int .u8 m, .int .u8 h, .int .u8 (day % 256), .int .u8 (day / 256 % 2 + iM halt 64 + iM carry 128)]) (z := [.int .u8 0, .int .u8 0, .int .u8 0, .int .u8 0, .int .u8 0]) (ps := [(0, .int .u8 s), (1, .int .u8 m), (2, .int .u8 h), (3, .int .u8 (day % 256)), (4, .int .u8 (day / 256 % 2 + iM halt 64 + iM carry 128))]) rfl rfl rfl rfl) rfl (ZBL ?_)
 refine DZ rfl s_t rfl n_h (ZA1 ?_)
 exact RZ (aK rfl rfl rfl y_N) rfl ZB0
def aLP (c : Ck) (hc : c.Ok) (n : Int) (w : AI) : aB prog 161 [.agg (cCk c).toArray, .int .i64 n] w [] (V_ (.int .u8 (uL n c))) := by
 obtain ⟨s, m, h, day, sub, halt, carry, d0, d1, d2, d3, d4⟩ := c
 obtain ⟨⟨k1, k2, k3, k4, k5⟩, k6⟩ := hc
 dsimp only at k1 k2 k3 k4 k6
 refine dR_ func161 ?_
 refine ZAr ?_
 refine ZAq fun b0 => ?_
 refine ZDH ?_
 refine KL (fun q0 z0 => ?_) (fun q0 z0 => ?_)
 ·refine A_10 ?_
  exact E0 rfl ⟨rfl, (by unfold uL; rw [if_pos o_m])⟩
 refine ZBr ?_
 refine KC (fun q1 z1 => ?_) (fun q1 z1 => ?_)
 ·refine ZBb ?_
  exact E0 rfl ⟨rfl, (by unfold uL; rw [if_pos o_m])⟩
 refine ZAl ?_
 rcases (show n = 0 ∨ n = 1 ∨ n = 2 ∨ n = 3 ∨ n = 4 by omega) with rfl | rfl | rfl | rfl | rfl
 ·refine ZA1 ?_
  exact RY (aQ 0 rfl rfl rfl rfl y_b) rfl ZAi
 ·refine ZA1 ?_
  exact RY (aQ 1 rfl rfl rfl rfl y_b) rfl ZAi
 ·refine ZA1 ?_
  exact RY (aQ 2 rfl rfl rfl rfl y_b) rfl ZAi
 ·refine ZA1 ?_
  exact RY (aQ 3 rfl rfl rfl rfl y_b) rfl ZAi
 refine ZA1 ?_
 exact RY (aQ 4 rfl rfl rfl rfl y_b) rfl ZAi
def aIK (c : Ck) (hc : c.Ok) (n x : Int) (hx : 0 ≤ x ∧ x < 256) (w : AI) : aB prog 286 [.agg (cCk c).toArray, .int .i64 n, .int .u8 x] w [] (V_ (.agg (cCk (writeCk n x c)).toArray)) := by
 obtain ⟨s, m, h, day, sub, halt, carry, d0, d1, d2, d3, d4⟩ := c
 obtain ⟨⟨k1, k2, k3, k4, k5⟩, k6⟩ := hc
 dsimp only at k1 k2 k3 k4 k6
 refine dR_ func286 ?_
 refine ZAr ?_
 refine ZCc fun b0 b1 => ?_
 refine A_12 ?_
 refine KC (fun q0 z0 => ?_) (fun q0 z0 => ?_)
 ·refine ZAl ?_
  refine RW (bE rfl rfl) rfl y_et (ZA4 ?_)
  refine ZA5 ?_
  exact ZCb
 refine ZBb ?_
 refine KC (fun q1 z1 => ?_) (fun q1 z1 => ?_)
 ·refine ZAl ?_
  refine RW (bE rfl rfl) rfl y_et (ZA5 ?_)
  exact ZCb
 refine ZBb ?_
 refine KC (fun q2 z2 => ?_) (fun q2 z2 => ?_)
 ·refine ZAl ?_
  refine RW (bE rfl rfl) rfl y_eu (ZA5 ?_)
  exact ZCb
 refine ZBb ?_
 refine KC (fun q3 z3 => ?_) (fun q3 z3 => ?_)
 ·refine ZA1 ?_
  refine RW (v := (.int .i64 (day / 256 * 256))) (tC rfl rfl) rfl (cA_ (Value.int .i64) (aGt (n := day) o_m o_m)) (ZEb ?_)
  refine RW (v := (.int .i64 (day / 256 * 256 + x))) (cT rfl rfl) rfl (cA_ (Value.int .i64) (aBO (A := day / 256 * 256) o_m o_m o_m hx)) (ZA5 ?_)
  exact ZCb
 refine ZBb ?_
 refine KC (fun q4 z4 => ?_) (fun q4 z4 => ?_)
 ·refine ZBr ?_
  refine RW (v := (.int .i64 (day % 256))) (bE rfl rfl) rfl (cA_ (Value.int .i64) (aFl day)) (ZBL ?_)
  refine RW (bE rfl rfl) rfl y_dZ (ZAX ?_)
  refine RW (dO rfl rfl y_b) rfl y_d6 (RW (v := (.int .i64 (day % 256 + x % 2 * 256))) (cT rfl rfl) rfl (cA_ (Value.int .i64) (vY (A := x % 2 * 256) o_m o_m o_m o_m)) (ZA5 ?_))
  refine RW (bE rfl rfl) rfl y_eg (RW (v := (.bool (decide (x / 64 % 2 = 1)))) rfl rfl (cA_ Value.bool y_bQ) (ZBL ?_))
  refine ZEN ?_
  refine RW (v := (.bool (decide (x / 128 = 1)))) rfl rfl (cA_ Value.bool y_bQ) (ZA4 ?_)
  refine ZA5 ?_
  exact ZCb
 refine ZA1 ?_
 exact ZCb
def uZ (b : Nat) (B : Bd) (hB : B.Ln) (w : AI) (hr : Row w b 0 (cBd B)) : aB prog 303 [P_ b] w [] (V_ (.int .i64 (everyB B))) := by
 have q0 := hB.r_ 0
 refine dR_ func303 ?_
 refine A_9 ?_
 refine ZDZ ?_
 refine RW (dU rfl rfl y_b) rfl (iY 16 y_b y_b) (RW (bE rfl rfl) rfl y_dU (ZAX ?_))
 exact ZAR
def xA (b : Nat) (B : Bd) (hB : B.Ln) (w : AI) (hr : Row w b 0 (cBd B)) : aB prog 304 [P_ b] w [] (V_ (.int .i64 (byB B))) := by
 have q0 := hB.r_ 0
 refine dR_ func304 ?_
 refine A_9 ?_
 refine ZDZ ?_
 refine RW (bE rfl rfl) rfl y_dU (ZAX ?_)
 exact ZAR
def readyB_fn (b : Nat) (B : Bd) (hB : B.Ln) (w : AI) (hr : Row w b 0 (cBd B)) (n : Nat) (hn : n < 4) : aB prog 301 [P_ b, .int .i64 n] w [] (V_ (.bool (readyB n B))) := by
 have q0 := hB.r_ (5 * n)
 have q1 := hB.r_ (5 * n + 2)
 refine dR_ func301 ?_
 refine A_10 ?_
 refine KC (fun q0 z0 => ?_) (fun q0 z0 => ?_)
 ·refine ZBr ?_
  refine ZCA ?_
  refine ZAl ?_
  refine RY (aQ (5 * n) rfl rfl rfl o_m o_m) rfl (RZ (aE rfl rfl (aV (hr _ _ (cBd_r hB (j := 5 * n) o_m)) y_r)) rfl (ZEN ?_))
  refine ZBr ?_
  obtain rfl : n = 2 := by omega
  have q2 : B.r (5 * 2) = B.r 10 := rfl
  exact E0 rfl ⟨rfl, (cA_ Value.bool (by unfold readyB; rw [if_pos o_m, Bool.eq_iff_iff]; simp only [bne_iff_ne, decide_eq_true_eq, ne_eq]; omega))⟩
 refine ZBb ?_
 refine ZCA ?_
 refine ZAa ?_
 refine ZAl ?_
 refine RY (aQ (5 * n + 2) rfl rfl rfl o_m o_m) rfl (RZ (aE rfl rfl (aV (hr _ _ (cBd_r hB (j := 5 * n + 2) o_m)) y_r)) rfl (RW (v := (.int .u8 (B.r (5 * n + 2) / 8 * 8))) (bE rfl rfl) rfl (cA_ U_ (aQw q1)) ?_))
 refine ZBr ?_
 exact E0 rfl ⟨rfl, (cA_ Value.bool (by unfold readyB; rw [if_neg o_m, Bool.eq_iff_iff]; simp only [bne_iff_ne, decide_eq_true_eq, ne_eq]; omega))⟩
def aGE (b : Nat) (B : Bd) (hB : B.Wf) (w : AI) (hr : Row w b 0 (cBd B)) : aB prog 306 [P_ b] w [] (V_ (.int .i64 (gM B))) := by
 have q0 := hB.r_ 0
 have q1 := hB.pitch
 have q2 := aJk B
 have q3 := aDd q1.1 (byB B).toNat
 refine dR_ func306 ?_
 refine ZBb ?_
 refine DR [4, 5] (pln [0, 2, 4, 6, 8, 11, 12, 14]) ?_
 refine ZA1 ?_
 refine DL rfl rfl rfl (eB (hr _ _ (sL hB)) y_r) rfl (ZBL ?_)
 refine DZ rfl (bJ K_ rfl (fun w hw => xA b B hB w (aN hr y_r w hw))) rfl y_d (DW (v := (.int .i64 (B.pitch / 2 ^ (byB B).toNat))) rfl (dU rfl rfl q2.1) rfl (cA_ (Value.int .i64) (aTS q2 q1.1)) (ZEf ?_))
 refine ZDZ ?_
 refine RW (bE rfl rfl) rfl y_ew (ZAl ?_)
 refine KC (fun q1 z1 => ?_) (fun q1 z1 => ?_)
 ·refine ZAl ?_
  refine RW (v := (.int .i64 (0 - (B.pitch / 2 ^ (byB B).toNat)))) rfl rfl (cA_ (Value.int .i64) (aL (n := 0 - (B.pitch / 2 ^ (byB B).toNat)) o_m o_m)) (ZDH ?_)
  refine RZ (aE rfl rfl (aV (hr _ _ (sL hB)) y_r)) rfl (ZBL ?_)
  refine ZAa ?_
  refine ZA1 ?_
  exact E0 rfl ⟨rfl, (cA_ (Value.int .i64) (by unfold gM; rw [if_pos o_m]; first | done | omega))⟩
 refine ZBn ?_
 refine RZ (aE rfl rfl (aV (hr _ _ (sL hB)) y_r)) rfl (ZBL ?_)
 refine ZAa ?_
 refine ZA1 ?_
 exact E0 rfl ⟨rfl, (cA_ (Value.int .i64) (by unfold gM; rw [if_neg o_m]; first | done | omega))⟩
def qN (n : Nat) (w : AI) : aB prog 299 [.int .i64 n] w [] (V_ (.int .i64 (longest n))) := by
 refine dR_ func299 ?_
 refine A_10 ?_
 refine KC (fun q0 z0 => ?_) (fun q0 z0 => ?_)
 ·refine ZBb ?_
  exact E0 rfl ⟨rfl, (by unfold longest; rw [if_pos o_m])⟩
 refine ZBn ?_
 exact E0 rfl ⟨rfl, (by unfold longest; rw [if_neg o_m])⟩
def aB6 (b : Nat) (B : Bd) (hB : B.Ln) (w : AI) (hst : St w [b] [(b, blk (cBd B) 147)] w) : aB prog 302 [P_ b] w [b] (fun v H => v = .tuple #[] ∧ H = [(b, blk (cBd (bW B)) 147)]) := by
 have q0 := rQ B
 have hW : ({ B with slide := everyB B } : Bd).Ln := hB.slide_ _
 refine dO_ func302 hst ?_
 refine ZBr ?_
 refine RLv K_ (fun w hw => uZ b B hB w (aA m_m w hw)) ?_
 refine ZAl ?_
 refine RZ (aD (l' := cBd ({ B with slide := everyB B })) 0 rfl rfl rfl rfl rfl rfl y_O (wL hB _)) rfl (ZEZ ?_)
 refine RZ (aE rfl rfl (aJ m_m (by exact aAY hW))) rfl (ZAl ?_)
 refine KC (fun q1 z1 => ?_) (fun q1 z1 => ?_)
 ·refine ZBr ?_
  refine RZ (aD (l' := cBd ({ B with slide := 8 })) 0 rfl rfl rfl rfl rfl rfl (by rw [cBd_len hW]; simp only [Lc_, au]; omega) (wL hW _)) rfl (ZAC ?_)
  refine ZBL ?_
  exact EN sR_ ⟨rfl, by unfold bW; rw [if_pos z1]⟩
 refine ZBL ?_
 exact EN sR_ ⟨rfl, by unfold bW; rw [if_neg z1]⟩
def vM (b : Nat) (B : Bd) (hB : B.Wf) (w : AI) (hst : St w [b] [(b, blk (cBd B) 147)] w) : aB prog 305 [P_ b] w [b] (fun v H => v = .bool (nZ B) ∧ H = [(b, blk (cBd (kV B)) 147)]) := by
 refine dO_ func305 hst ?_
 refine ZDH ?_
 refine RLv K_ (fun w hw => aGE b B hB w (aA m_m w hw)) ?_
 refine ZEf ?_
 refine KC (fun q0 z0 => ?_) (fun q0 z0 => ?_)
 ·refine ZBr ?_
  refine RY y_dQ rfl (ZBL ?_)
  refine RZ (aD (l' := cBd (aIn B)) 0 rfl rfl rfl rfl rfl rfl y_O (putBd_v hB (n := 0) (k := 0) y_b y_b rfl)) rfl (ZAC ?_)
  refine ZDH ?_
  have q1 : nZ B = true := q0
  exact EV rfl sR_ ⟨by rw [q1]; exact cA_ Value.bool q0, by unfold kV; rw [q1]; rfl⟩
 refine ZDH ?_
 have q1 : nZ B = false := q0
 exact EV rfl sR_ ⟨by rw [q1]; exact cA_ Value.bool q0, by unfold kV; rw [q1]; rfl⟩
set_option maxHeartbeats 2000000 in
def aG8 (b : Nat) (B : Bd) (hB : B.Wf) (w : AI) (hst : St w [b] [(b, blk (cBd B) 147)] w) : aB prog 332 [P_ b] w [b] (fun v H => v = .tuple #[] ∧ H = [(b, blk (cBd (xX B)) 147)]) := by
 refine dO_ func332 hst ?_
 refine ZBb ?_
 refine bD (σ := Nat) [2, 3, 4, 5, 6, 7, 8, 9, 10, 11, 12, 13, 14, 15, 16, 17, 18, 19, 20, 21, 22, 23, 24, 25, 26, 27, 28, 29, 30, 31, 32, 33, 34, 35, 36, 37, 38, 39, 40, 41, 42, 43, 44, 45, 46, 47, 48, 49, 50] (fun n => [(4, .int .i64 n)]) (fun n => [(b, blk (cBd (turnV lenV B n)) 147)]) (fun n => n ≤ 4) (fun n => 4 - n) 0 ?_ ?_ ?_ ?_
 ·exact al _
 ·exact .cons rfl .nil
 ·exact fun _ h => h
 rintro n y1 hn
 refine ZBb ?_
 refine KC (fun q0 z0 => ?_) (fun q0 z0 => ?_)
 ·refine A_9 ?_
  have hX9 := hB.turn aHA n
  have hr9 := hX9.r_ (5 * n + 4)
  have hv9 := hX9.v_ n
  have hv1 := hv9.len
  have hv2 := hv9.lev
  have hv3 := hv9.wait
  refine ZBb ?_
  refine RY (bZ (s := 4) n rfl rfl rfl o_m o_m) rfl (ZDH ?_)
  refine ZCA ?_
  refine ZAa ?_
  refine ZAl ?_
  refine RY (aQ (5 * n + 4) rfl rfl rfl o_m o_m) rfl (RZ (aE rfl rfl (aJ m_m (by rw [bi]; exact cBd_r hX9 (j := 5 * n + 4) o_m))) rfl (RW (bE rfl rfl) rfl y_eg (ZBL ?_)))
  refine KL (fun q1 z1 => ?_) (fun q1 z1 => ?_)
  ·refine A_10 ?_
   refine ZAd ?_
   exact ⟨n + 1, y_y, y_y, .cons rfl .nil, a_g, fun _ h => h.as y_bn⟩
  refine ZA1 ?_
  refine RZ (aE rfl rfl (aJ m_m (qG hX9 (k := 1) o_m rfl))) rfl (ZA1 ?_)
  refine KC (fun q2 z2 => ?_) (fun q2 z2 => ?_)
  ·refine ZAl ?_
   refine ZAd ?_
   exact ⟨n + 1, y_y, y_y, .cons rfl .nil, a_g, fun _ h => h.as y_bn⟩
  refine ZAl ?_
  have hX1 : ((turnV lenV B n).setV n { (turnV lenV B n).v n with len := ((turnV lenV B n).v n).len - 1 }).Wf := hX9.setV n ⟨y_ed, hv2, hv3⟩
  refine ZBr ?_
  refine RZ (aE rfl rfl (aJ m_m (qG hX9 (k := 1) o_m rfl))) rfl (ZBg ?_)
  refine ZAl ?_
  refine RZ (aD (l' := cBd ((turnV lenV B n).setV n { (turnV lenV B n).v n with len := ((turnV lenV B n).v n).len - 1 })) 0 rfl rfl rfl rfl rfl rfl y_dk (putBd_v hX9 (k := 1) o_m y_b rfl)) rfl (ZEZ ?_)
  refine RZ (aE rfl rfl (aJ (v := .bool ((turnV lenV B n).v n).on) m_m (qG hX1 (k := 0) o_m y_bq))) rfl (KL (fun q3 z3 => ?_) (fun q3 z3 => ?_))
  ·refine ZA1 ?_
   refine RZ (aE rfl rfl (aJ (v := .int .i64 (((turnV lenV B n).v n).len - 1)) m_m (qG hX1 (k := 1) o_m y_bq))) rfl (ZBr ?_)
   refine RZ (aD (l' := cBd ((turnV lenV B n).setV n { (turnV lenV B n).v n with len := ((turnV lenV B n).v n).len - 1, on := decide (0 < ((turnV lenV B n).v n).len - 1) })) 0 rfl rfl rfl rfl rfl rfl y_ch ((putBd_v hX1 (k := 0) (y := { (turnV lenV B n).v n with len := ((turnV lenV B n).v n).len - 1, on := decide (0 < ((turnV lenV B n).v n).len - 1) }) o_m y_b y_bq).trans y_cq)) rfl (ZBU ?_)
   refine ZAd ?_
   exact ⟨n + 1, y_y, y_y, .cons rfl .nil, a_g, fun _ h => h.as (by show _ = [(b, blk (cBd ((turnV lenV B n).setV n (lenV (turnV lenV B n) n ((turnV lenV B n).v n)))) 147)]; rw [show lenV (turnV lenV B n) n ((turnV lenV B n).v n) = _ from if_neg o_m, show ((turnV lenV B n).v n).on = true from q3]; rfl)⟩
  refine ZEf ?_
  refine RZ (aD (l' := cBd ((turnV lenV B n).setV n { (turnV lenV B n).v n with len := ((turnV lenV B n).v n).len - 1, on := false })) 0 rfl rfl rfl rfl rfl rfl y_ch ((putBd_v hX1 (k := 0) (y := { (turnV lenV B n).v n with len := ((turnV lenV B n).v n).len - 1, on := false }) o_m y_b y_bq).trans y_cq)) rfl (ZBU ?_)
  refine ZAd ?_
  exact ⟨n + 1, y_y, y_y, .cons rfl .nil, a_g, fun _ h => h.as (by show _ = [(b, blk (cBd ((turnV lenV B n).setV n (lenV (turnV lenV B n) n ((turnV lenV B n).v n)))) 147)]; rw [show lenV (turnV lenV B n) n ((turnV lenV B n).v n) = _ from if_neg o_m, show ((turnV lenV B n).v n).on = false from q3]; rfl)⟩
 refine ZBL ?_
 obtain rfl : n = 4 := by omega
 exact EN sR_ ⟨rfl, rfl⟩
set_option maxHeartbeats 2000000 in
def aCz (b : Nat) (B : Bd) (hB : B.Wf) (w : AI) (hst : St w [b] [(b, blk (cBd B) 147)] w) : aB prog 334 [P_ b] w [b] (fun v H => v = .tuple #[] ∧ H = [(b, blk (cBd (rV B)) 147)]) := by
 refine dO_ func334 hst ?_
 refine ZBb ?_
 refine bD (σ := Nat) [2, 3, 4, 5, 6, 7, 8, 9, 10, 11, 12, 13, 14, 15, 16, 17, 18, 19, 20, 21, 22, 23, 24, 25, 26, 27, 28, 29, 30, 31, 32, 33, 34, 35, 36, 37, 38, 39, 40, 41, 42, 43, 44, 45, 46, 47, 48, 49, 50, 51, 52, 53, 54, 55, 56, 57, 58, 59, 60, 61, 62, 63, 64, 65, 66, 67] (fun n => [(5, .int .i64 n)]) (fun n => [(b, blk (cBd (turnV levV B n)) 147)]) (fun n => n ≤ 4) (fun n => 4 - n) 0 ?_ ?_ ?_ ?_
 ·exact al _
 ·exact .cons rfl .nil
 ·exact fun _ h => h
 rintro n y1 hn
 refine ZBb ?_
 refine KC (fun q0 z0 => ?_) (fun q0 z0 => ?_)
 ·refine A_9 ?_
  have hX9 := hB.turn aHR n
  have hr9 := hX9.r_ (5 * n + 2)
  have hv9 := hX9.v_ n
  have hv1 := hv9.len
  have hv2 := hv9.lev
  have hv3 := hv9.wait
  refine DR [13] (pln [0, 2, 4, 6, 8, 10, 12, 14, 16, 18, 20, 22, 24, 26, 28]) ?_
  refine ZBr ?_
  refine DY rfl (bZ (s := 4) n rfl rfl rfl o_m o_m) rfl (ZAl ?_)
  refine DW rfl (yR rfl rfl) rfl y_c (DW rfl (jD rfl rfl) rfl y_c (ZAl ?_))
  refine DY rfl (aQ (5 * n + 2) rfl rfl rfl o_m o_m) rfl (DL rfl rfl rfl (cJ m_m (by rw [bi]; exact cBd_r hX9 (j := 5 * n + 2) o_m)) rfl (ZEf ?_))
  refine KL (fun q1 z1 => ?_) (fun q1 z1 => ?_)
  ·refine ZEf ?_
   refine ZAd ?_
   exact ⟨n + 1, y_y, y_y, .cons rfl .nil, a_g, fun _ h => h.as y_bm⟩
  refine ZBL ?_
  refine RW (bE rfl rfl) rfl y_dU (ZA1 ?_)
  refine KC (fun q2 z2 => ?_) (fun q2 z2 => ?_)
  ·refine ZAl ?_
   refine ZAd ?_
   exact ⟨n + 1, y_y, y_y, .cons rfl .nil, a_g, fun _ h => h.as y_bm⟩
  refine ZDH ?_
  refine RZ (aE rfl rfl (aJ m_m (qG hX9 (k := 3) o_m rfl))) rfl (ZBg ?_)
  refine ZAl ?_
  refine RZ (aD (l' := cBd ((turnV levV B n).setV n { (turnV levV B n).v n with wait := ((turnV levV B n).v n).wait - 1 })) 0 rfl rfl rfl rfl rfl rfl y_dk (putBd_v hX9 (k := 3) (y := { (turnV levV B n).v n with wait := ((turnV levV B n).v n).wait - 1 }) o_m y_b rfl)) rfl (ZBU ?_)
  have hX1 : ((turnV levV B n).setV n { (turnV levV B n).v n with wait := ((turnV levV B n).v n).wait - 1 }).Ln := hX9.ln.setV n _
  refine ZBr ?_
  refine RZ (aE rfl rfl (aJ (v := .int .i64 (((turnV levV B n).v n).wait - 1)) m_m (qG hX1 (k := 3) o_m y_bq))) rfl (ZAl ?_)
  refine KC (fun q3 z3 => ?_) (fun q3 z3 => ?_)
  ·refine ZAl ?_
   refine ZAd ?_
   exact ⟨n + 1, y_y, y_y, .cons rfl .nil, a_g, fun _ h => h.as (by show _ = [(b, blk (cBd ((turnV levV B n).setV n (levV (turnV levV B n) n ((turnV levV B n).v n)))) 147)]; rw [aJ6 o_m o_m])⟩
  refine ZBb ?_
  refine RW (bE rfl rfl) rfl y_dU (ZAX ?_)
  refine ZAl ?_
  refine RZ (aD (l' := cBd ((turnV levV B n).setV n { (turnV levV B n).v n with wait := (turnV levV B n).r (5 * n + 2) % 8 })) 0 rfl rfl rfl rfl rfl rfl y_ch ((putBd_v hX1 (k := 3) (y := { (turnV levV B n).v n with wait := (turnV levV B n).r (5 * n + 2) % 8 }) o_m y_b y_bq).trans y_cq)) rfl (ZBU ?_)
  have hX2 : ((turnV levV B n).setV n { (turnV levV B n).v n with wait := (turnV levV B n).r (5 * n + 2) % 8 }).Ln := hX9.ln.setV n _
  refine ZAl ?_
  refine RW (bE rfl rfl) rfl y_ew (ZAl ?_)
  refine KC (fun q4 z4 => ?_) (fun q4 z4 => ?_)
  ·refine ZBb ?_
   refine RZ (aE rfl rfl (aJ (v := .int .i64 ((turnV levV B n).v n).lev) m_m (qG hX2 (k := 2) o_m y_bq))) rfl (ZAa ?_)
   refine RY (gH rfl rfl) rfl (ZAl ?_)
   refine RZ (aD (l' := cBd ((turnV levV B n).setV n { (turnV levV B n).v n with wait := (turnV levV B n).r (5 * n + 2) % 8, lev := min (((turnV levV B n).v n).lev + 1) 15 })) 0 rfl rfl rfl rfl rfl rfl y_dl ((putBd_v hX2 (k := 2) (y := { (turnV levV B n).v n with wait := (turnV levV B n).r (5 * n + 2) % 8, lev := min (((turnV levV B n).v n).lev + 1) 15 }) o_m y_b y_bq).trans y_cq)) rfl (ZBU ?_)
   refine ZAd ?_
   exact ⟨n + 1, y_y, y_y, .cons rfl .nil, a_g, fun _ h => h.as (by show _ = [(b, blk (cBd ((turnV levV B n).setV n (levV (turnV levV B n) n ((turnV levV B n).v n)))) 147)]; rw [aQ0 o_m o_m o_m])⟩
  refine ZBb ?_
  refine RZ (aE rfl rfl (aJ (v := .int .i64 ((turnV levV B n).v n).lev) m_m (qG hX2 (k := 2) o_m y_bq))) rfl (ZBg ?_)
  refine RY (kD rfl rfl) rfl (ZAl ?_)
  refine RZ (aD (l' := cBd ((turnV levV B n).setV n { (turnV levV B n).v n with wait := (turnV levV B n).r (5 * n + 2) % 8, lev := max (((turnV levV B n).v n).lev - 1) 0 })) 0 rfl rfl rfl rfl rfl rfl y_dl ((putBd_v hX2 (k := 2) (y := { (turnV levV B n).v n with wait := (turnV levV B n).r (5 * n + 2) % 8, lev := max (((turnV levV B n).v n).lev - 1) 0 }) o_m y_b y_bq).trans y_cq)) rfl (ZBU ?_)
  refine ZAd ?_
  exact ⟨n + 1, y_y, y_y, .cons rfl .nil, a_g, fun _ h => h.as (by show _ = [(b, blk (cBd ((turnV levV B n).setV n (levV (turnV levV B n) n ((turnV levV B n).v n)))) 147)]; rw [aMt o_m o_m o_m])⟩
 refine ZBL ?_
 obtain rfl : n = 4 := by omega
 exact EN sR_ ⟨rfl, rfl⟩
set_option maxHeartbeats 2000000 in
def slideB_fn (b : Nat) (B : Bd) (hB : B.Wf) (w : AI) (hst : St w [b] [(b, blk (cBd B) 147)] w) : aB prog 333 [P_ b] w [b] (fun v H => v = .tuple #[] ∧ H = [(b, blk (cBd (slideB B)) 147)]) := by
 have k1 := hB.slide
 have hB1 : ({ B with slide := B.slide - 1 } : Bd).Ln := hB.ln.slide_ _
 have hB2 : (bW ({ B with slide := B.slide - 1 } : Bd)).Wf := aS9 hB
 refine dO_ func333 hst ?_
 refine ZBn ?_
 refine RZ (aE rfl rfl (aJ m_m (by exact aIG hB))) rfl (ZAl ?_)
 refine KC (fun q0 z0 => ?_) (fun q0 z0 => ?_)
 ·refine ZBL ?_
  exact EN sR_ ⟨rfl, by rw [aJw (by simpa using q0)]⟩
 refine ZBn ?_
 refine RZ (aE rfl rfl (aJ m_m (by exact aAY hB))) rfl (ZBg ?_)
 refine ZAl ?_
 refine RZ (aD (l' := cBd (({ B with slide := B.slide - 1 } : Bd))) 0 rfl rfl rfl rfl rfl rfl y_O (wL hB _)) rfl (ZAC ?_)
 refine ZDH ?_
 refine RZ (aE rfl rfl (aJ m_m (by exact aAY hB1))) rfl (ZAl ?_)
 refine KC (fun q1 z1 => ?_) (fun q1 z1 => ?_)
 ·refine ZBL ?_
  exact EN sR_ ⟨rfl, by rw [aGZ (show B.slides = true by simpa using q0) z1]⟩
 refine ZBr ?_
 refine RZ (cB K_ rfl (wV_ (aB6 b ({ B with slide := B.slide - 1 } : Bd) hB1))) rfl (ZBb ?_)
 refine RLv K_ (fun w hw => uZ b (bW ({ B with slide := B.slide - 1 } : Bd)) hB2 w (aA m_m w hw)) ?_
 refine ZBL ?_
 refine KL (fun q2 z2 => ?_) (fun q2 z2 => ?_)
 ·refine A_11 ?_
  exact EN sR_ ⟨rfl, by rw [aHm (show B.slides = true by simpa using q0) o_m z2]⟩
 refine ZBL ?_
 refine RZ (cB K_ rfl (wV_ (vM b (bW ({ B with slide := B.slide - 1 } : Bd)) hB2))) rfl (ZBL ?_)
 refine KL (fun q3 z3 => ?_) (fun q3 z3 => ?_)
 ·refine ZDH ?_
  exact EN sR_ ⟨rfl, by rw [aHn (show B.slides = true by simpa using q0) o_m z2 q3]⟩
 refine ZBL ?_
 have hc9 := aOI q3
 refine bF (H' := [(b, blk (cBd (bW ({ B with slide := B.slide - 1 } : Bd))) 147)]) (fun _ h => h.as (by rw [hc9])) ?_
 refine RLv K_ (fun w hw => xA b (bW ({ B with slide := B.slide - 1 } : Bd)) hB2 w (aA m_m w hw)) ?_
 refine ZA1 ?_
 refine KC (fun q4 z4 => ?_) (fun q4 z4 => ?_)
 ·refine ZBL ?_
  exact EN sR_ ⟨rfl, by rw [aK8 (show B.slides = true by simpa using q0) o_m z2 q3 z4]⟩
 refine ZAl ?_
 have hn9 := aHI hB2
 have hn8 : gM (bW ({ B with slide := B.slide - 1 } : Bd)) ≤ 2047 := by have h9 := c7 (show decide (2047 < gM (bW ({ B with slide := B.slide - 1 } : Bd))) = false from q3); omega
 have hB3 : ({ (bW ({ B with slide := B.slide - 1 } : Bd)) with pitch := gM (bW ({ B with slide := B.slide - 1 } : Bd)) } : Bd).Wf := hB2.pitch_ o_m
 have hB4 : (putB 3 (gM (bW ({ B with slide := B.slide - 1 } : Bd)) % 256) ({ (bW ({ B with slide := B.slide - 1 } : Bd)) with pitch := gM (bW ({ B with slide := B.slide - 1 } : Bd)) } : Bd)).Wf := hB3.put 3 o_m
 have hr4 := hB2.r_ 4
 refine ZA1 ?_
 refine RLv K_ (fun w hw => aGE b (bW ({ B with slide := B.slide - 1 } : Bd)) hB2 w (aA m_m w hw)) ?_
 refine ZAl ?_
 refine RZ (aD (l' := cBd (({ (bW ({ B with slide := B.slide - 1 } : Bd)) with pitch := gM (bW ({ B with slide := B.slide - 1 } : Bd)) } : Bd))) 0 rfl rfl rfl rfl rfl rfl (by rw [cBd_len hB2]; simp only [Lc_, au]; omega) (wN hB2 _)) rfl (ZBU ?_)
 refine DR [7, 8, 9, 10, 11, 12, 13, 14, 15, 16, 17, 18, 19, 20, 21, 22, 25, 26] (pln [0, 2, 4, 6, 8, 10, 12, 14, 16, 18, 20, 22, 24, 26, 28, 30, 32, 34, 36, 38, 40, 42, 44, 46, 50, 52, 49, 54, 57]) ?_
 refine ZBb ?_
 refine DL rfl rfl rfl (cJ (v := .int .i64 (gM (bW ({ B with slide := B.slide - 1 } : Bd)))) m_m (sL hB3.ln)) rfl (ZBV ?_)
 refine ZA1 ?_
 refine DY rfl y_dS rfl (DL rfl rfl rfl (cJ m_m (cBd_r hB3.ln (j := 4) y_b)) rfl (DW (v := (.int .u8 ((bW ({ B with slide := B.slide - 1 } : Bd)).r 4 / 8 * 8))) rfl (tC rfl rfl) rfl (cA_ U_ (aMo hr4)) ?_))
 refine ZA1 ?_
 refine DL rfl rfl rfl (cJ (v := .int .i64 (gM (bW ({ B with slide := B.slide - 1 } : Bd)))) m_m (sL hB3.ln)) rfl (ZDL ?_)
 refine DW rfl (bE rfl rfl) rfl y_dU (DW (v := (.int .u8 ((bW ({ B with slide := B.slide - 1 } : Bd)).r 4 / 8 * 8 + gM (bW ({ B with slide := B.slide - 1 } : Bd)) / 256 % 8))) rfl (cT rfl rfl) rfl (cA_ U_ (aP3 (y := gM (bW ({ B with slide := B.slide - 1 } : Bd)) / 256 % 8) hr4 o_m)) ?_)
 refine ZAl ?_
 refine DY rfl y_dV rfl (ZAl ?_)
 refine DZ rfl (aD (l' := cBd ((putB 3 (gM (bW ({ B with slide := B.slide - 1 } : Bd)) % 256) ({ (bW ({ B with slide := B.slide - 1 } : Bd)) with pitch := gM (bW ({ B with slide := B.slide - 1 } : Bd)) } : Bd)))) 0 rfl rfl rfl rfl rfl rfl (by rw [cBd_len hB3]; simp only [Lc_, au]; omega) (putBd_r hB3.ln (j := 3) y_b _)) rfl n_h (ZAC ?_)
 refine DY rfl y_dS rfl (DZ rfl (aD (l' := cBd (aCS (bW ({ B with slide := B.slide - 1 } : Bd)))) 0 rfl rfl rfl rfl rfl rfl (by rw [cBd_len hB4]; simp only [Lc_, au]; omega) (putBd_r hB4.ln (j := 4) y_b _)) rfl n_h (ZD1 ?_))
 refine RZ (cB K_ rfl (wV_ (vM b (aCS (bW ({ B with slide := B.slide - 1 } : Bd))) (aHF hB2 q3)))) rfl (ZBL ?_)
 exact EN sR_ ⟨rfl, by rw [aI9 (show B.slides = true by simpa using q0) o_m z2 q3 z4]⟩
set_option maxHeartbeats 2000000 in
def beginB_fn (b : Nat) (B : Bd) (hB : B.Wf) (n : Nat) (hn : n < 4) (w : AI) (hst : St w [b] [(b, blk (cBd B) 147)] w) : aB prog 300 [P_ b, .int .i64 n] w [b] (fun v H => v = .tuple #[] ∧ H = [(b, blk (cBd (beginB n B)) 147)]) := by
 have hr9 := hB.r_ (5 * n + 2)
 have hv9 := (hB.v_ n).len
 have hV1 : (B.setV n { B.v n with on := readyB n B }).Ln := hB.ln.setV n _
 have hV2 : (B.setV n { B.v n with on := readyB n B, lev := B.r (5 * n + 2) / 16 }).Ln := hB.ln.setV n _
 have hV3 : (B.setV n { B.v n with on := readyB n B, lev := B.r (5 * n + 2) / 16, wait := B.r (5 * n + 2) % 8 }).Ln := hB.ln.setV n _
 refine dO_ func300 hst ?_
 refine ZBL ?_
 refine DR [13] (pln [0, 2, 4, 6, 8, 10, 12, 14, 16, 18, 20, 22, 24, 26, 28]) ?_
 refine ZBr ?_
 refine DY rfl (bZ (s := 4) n rfl rfl rfl o_m o_m) rfl (ZAl ?_)
 refine DW rfl (yR rfl rfl) rfl y_c (DW rfl (jD rfl rfl) rfl y_c (ZAl ?_))
 refine DY rfl (aQ (5 * n + 2) rfl rfl rfl o_m o_m) rfl (DL rfl rfl rfl (cJ m_m (by rw [bi]; exact cBd_r hB (j := 5 * n + 2) o_m)) rfl (A_10 ?_))
 refine RLv K_ (fun w hw => readyB_fn b B hB w (aA m_m w hw) n hn) ?_
 refine ZBL ?_
 refine RW (dU rfl rfl y_b) rfl (iY 16 y_b y_b) (ZAX ?_)
 refine ZBL ?_
 refine RW (bE rfl rfl) rfl y_dU (ZAX ?_)
 refine ZAl ?_
 refine RZ (aD (l' := cBd (B.setV n { B.v n with on := readyB n B })) 0 rfl rfl rfl rfl rfl rfl y_O ((putBd_v hB (k := 0) (y := { B.v n with on := readyB n B }) hn y_b y_cs).trans y_cs)) rfl (ZBU ?_)
 refine RZ (aD (l' := cBd (B.setV n { B.v n with on := readyB n B, lev := B.r (5 * n + 2) / 16 })) 0 rfl rfl rfl rfl rfl rfl (by rw [cBd_len hV1]; simp only [Lc_, au]; omega) ((putBd_v hV1 (k := 2) (y := { B.v n with on := readyB n B, lev := B.r (5 * n + 2) / 16 }) hn y_b y_cZ).trans y_cq)) rfl (ZBU ?_)
 refine RZ (aD (l' := cBd (B.setV n { B.v n with on := readyB n B, lev := B.r (5 * n + 2) / 16, wait := B.r (5 * n + 2) % 8 })) 0 rfl rfl rfl rfl rfl rfl (by rw [cBd_len hV2]; simp only [Lc_, au]; omega) ((putBd_v hV2 (k := 3) (y := { B.v n with on := readyB n B, lev := B.r (5 * n + 2) / 16, wait := B.r (5 * n + 2) % 8 }) hn y_b y_cZ).trans y_cq)) rfl (ZAC ?_)
 refine ZDH ?_
 refine RZ (aE rfl rfl (aJ (v := .int .i64 (B.v n).len) m_m (qG hV3 (k := 1) hn y_cZ))) rfl (ZAl ?_)
 refine KC (fun q0 z0 => ?_) (fun q0 z0 => ?_)
 ·refine ZA1 ?_
  refine RLv K_ (wQ_ (qN n)) ?_
  refine ZAl ?_
  refine RZ (aD (l' := cBd (B.setV n { B.v n with on := readyB n B, lev := B.r (5 * n + 2) / 16, wait := B.r (5 * n + 2) % 8, len := longest n })) 0 rfl rfl rfl rfl rfl rfl (by rw [cBd_len hV3]; simp only [Lc_, au]; omega) ((putBd_v hV3 (k := 1) (y := { B.v n with on := readyB n B, lev := B.r (5 * n + 2) / 16, wait := B.r (5 * n + 2) % 8, len := longest n }) hn y_b y_cZ).trans y_cq)) rfl (ZD1 ?_)
  have hc9 : aU B n = { B.v n with on := readyB n B, lev := B.r (5 * n + 2) / 16, wait := B.r (5 * n + 2) % 8, len := longest n } := by unfold aU; rw [if_pos o_m]
  rw [← hc9]
  have hC9 := hB.setV n (aAu hB n)
  rcases dr n with rfl | hn0
  ·refine ZAl ?_
   refine cY false rfl rfl rfl y_b ?_
   refine ZBr ?_
   have hP9 : ({ (B.setV 0 (aU B 0)) with pitch := (B.setV 0 (aU B 0)).r 3 + (B.setV 0 (aU B 0)).r 4 % 8 * 256 } : Bd).Wf := hC9.pitch_ (by have := hC9.r_ 3; omega)
   have hr3 := hC9.r_ 3
   have hr4 := hC9.r_ 4
   have hW9 : (bW ({ (B.setV 0 (aU B 0)) with pitch := (B.setV 0 (aU B 0)).r 3 + (B.setV 0 (aU B 0)).r 4 % 8 * 256 } : Bd)).Wf := hP9.waitW
   have hS9 : (kS (bW ({ (B.setV 0 (aU B 0)) with pitch := (B.setV 0 (aU B 0)).r 3 + (B.setV 0 (aU B 0)).r 4 % 8 * 256 } : Bd))).Wf := hW9.slidesW
   refine DR [7, 8, 9, 10, 11, 12, 13, 14] (pln [0, 2, 4, 6, 8, 10, 12, 14, 16, 18, 20, 22, 24, 26, 28, 30, 32, 34, 37]) ?_
   refine ZBr ?_
   refine DY rfl y_dV rfl (DL rfl rfl rfl (cJ m_m (cBd_r hC9 (j := 3) y_b)) rfl (DW rfl (dN rfl rfl rfl) rfl y_c (ZA1 ?_)))
   refine DY rfl y_dS rfl (DL rfl rfl rfl (cJ m_m (cBd_r hC9 (j := 4) y_b)) rfl (DW rfl (bE rfl rfl) rfl y_dU (DW rfl (dN rfl rfl rfl) rfl y_c ?_)))
   refine DW rfl (dO rfl rfl y_b) rfl y_d6 (DW (v := (.int .i64 ((B.setV 0 (aU B 0)).r 3 + (B.setV 0 (aU B 0)).r 4 % 8 * 256))) rfl (cT rfl rfl) rfl (cA_ (Value.int .i64) (vY (A := (B.setV 0 (aU B 0)).r 4 % 8 * 256) o_m o_m o_m hr3)) (ZAl ?_))
   refine DZ rfl (aD (l' := cBd (({ (B.setV 0 (aU B 0)) with pitch := (B.setV 0 (aU B 0)).r 3 + (B.setV 0 (aU B 0)).r 4 % 8 * 256 } : Bd))) 0 rfl rfl rfl rfl rfl rfl y_dn (wN hC9 _)) rfl n_h (ZAC ?_)
   refine ZBr ?_
   refine RZ (cB K_ rfl (wV_ (aB6 b ({ (B.setV 0 (aU B 0)) with pitch := (B.setV 0 (aU B 0)).r 3 + (B.setV 0 (aU B 0)).r 4 % 8 * 256 } : Bd) hP9))) rfl (ZBb ?_)
   refine RLv K_ (fun w hw => uZ b (bW ({ (B.setV 0 (aU B 0)) with pitch := (B.setV 0 (aU B 0)).r 3 + (B.setV 0 (aU B 0)).r 4 % 8 * 256 } : Bd)) hW9 w (aA m_m w hw)) ?_
   refine ZBL ?_
   refine RLv K_ (fun w hw => xA b (bW ({ (B.setV 0 (aU B 0)) with pitch := (B.setV 0 (aU B 0)).r 3 + (B.setV 0 (aU B 0)).r 4 % 8 * 256 } : Bd)) hW9 w (aA m_m w hw)) ?_
   refine RY (cT rfl rfl) rfl (RW (v := (.bool (decide (everyB (bW ({ (B.setV 0 (aU B 0)) with pitch := (B.setV 0 (aU B 0)).r 3 + (B.setV 0 (aU B 0)).r 4 % 8 * 256 } : Bd)) ≠ 0 ∨ byB (bW ({ (B.setV 0 (aU B 0)) with pitch := (B.setV 0 (aU B 0)).r 3 + (B.setV 0 (aU B 0)).r 4 % 8 * 256 } : Bd)) ≠ 0)))) rfl rfl (cA_ Value.bool (aPH (rQ _) (aJk _))) (ZAl ?_))
   refine RZ (aD (l' := cBd ((kS (bW ({ (B.setV 0 (aU B 0)) with pitch := (B.setV 0 (aU B 0)).r 3 + (B.setV 0 (aU B 0)).r 4 % 8 * 256 } : Bd))))) 0 rfl rfl rfl rfl rfl rfl y_dm (aAZ hW9 _)) rfl (ZAC ?_)
   refine ZBr ?_
   refine RLv K_ (fun w hw => xA b (kS (bW ({ (B.setV 0 (aU B 0)) with pitch := (B.setV 0 (aU B 0)).r 3 + (B.setV 0 (aU B 0)).r 4 % 8 * 256 } : Bd))) hS9 w (aA m_m w hw)) ?_
   refine ZAl ?_
   refine KC (fun q1 z1 => ?_) (fun q1 z1 => ?_)
   ·refine ZAl ?_
    refine RZ (cB K_ rfl (wV_ (vM b (kS (bW ({ (B.setV 0 (aU B 0)) with pitch := (B.setV 0 (aU B 0)).r 3 + (B.setV 0 (aU B 0)).r 4 % 8 * 256 } : Bd))) hS9))) rfl (ZBL ?_)
    exact EN sR_ ⟨rfl, y_eG⟩
   refine ZBL ?_
   exact EN sR_ ⟨rfl, y_eH⟩
  refine ZAl ?_
  refine ZBD ?_
  refine ZA1 ?_
  exact EN sR_ ⟨rfl, by unfold beginB; dsimp only; rw [if_pos hn0]⟩
 refine ZA1 ?_
 have hc9 : aU B n = { B.v n with on := readyB n B, lev := B.r (5 * n + 2) / 16, wait := B.r (5 * n + 2) % 8 } := by unfold aU; rw [if_neg o_m]
 rw [← hc9]
 have hC9 := hB.setV n (aAu hB n)
 rcases dr n with rfl | hn0
 ·refine ZAl ?_
  refine cY false rfl rfl rfl y_b ?_
  refine ZBr ?_
  have hP9 : ({ (B.setV 0 (aU B 0)) with pitch := (B.setV 0 (aU B 0)).r 3 + (B.setV 0 (aU B 0)).r 4 % 8 * 256 } : Bd).Wf := hC9.pitch_ (by have := hC9.r_ 3; omega)
  have hr3 := hC9.r_ 3
  have hr4 := hC9.r_ 4
  have hW9 : (bW ({ (B.setV 0 (aU B 0)) with pitch := (B.setV 0 (aU B 0)).r 3 + (B.setV 0 (aU B 0)).r 4 % 8 * 256 } : Bd)).Wf := hP9.waitW
  have hS9 : (kS (bW ({ (B.setV 0 (aU B 0)) with pitch := (B.setV 0 (aU B 0)).r 3 + (B.setV 0 (aU B 0)).r 4 % 8 * 256 } : Bd))).Wf := hW9.slidesW
  refine DR [7, 8, 9, 10, 11, 12, 13, 14] (pln [0, 2, 4, 6, 8, 10, 12, 14, 16, 18, 20, 22, 24, 26, 28, 30, 32, 34, 37]) ?_
  refine ZBr ?_
  refine DY rfl y_dV rfl (DL rfl rfl rfl (cJ m_m (cBd_r hC9 (j := 3) y_b)) rfl (DW rfl (dN rfl rfl rfl) rfl y_c (ZA1 ?_)))
  refine DY rfl y_dS rfl (DL rfl rfl rfl (cJ m_m (cBd_r hC9 (j := 4) y_b)) rfl (DW rfl (bE rfl rfl) rfl y_dU (DW rfl (dN rfl rfl rfl) rfl y_c ?_)))
  refine DW rfl (dO rfl rfl y_b) rfl y_d6 (DW (v := (.int .i64 ((B.setV 0 (aU B 0)).r 3 + (B.setV 0 (aU B 0)).r 4 % 8 * 256))) rfl (cT rfl rfl) rfl (cA_ (Value.int .i64) (vY (A := (B.setV 0 (aU B 0)).r 4 % 8 * 256) o_m o_m o_m hr3)) (ZAl ?_))
  refine DZ rfl (aD (l' := cBd (({ (B.setV 0 (aU B 0)) with pitch := (B.setV 0 (aU B 0)).r 3 + (B.setV 0 (aU B 0)).r 4 % 8 * 256 } : Bd))) 0 rfl rfl rfl rfl rfl rfl y_dn (wN hC9 _)) rfl n_h (ZAC ?_)
  refine ZBr ?_
  refine RZ (cB K_ rfl (wV_ (aB6 b ({ (B.setV 0 (aU B 0)) with pitch := (B.setV 0 (aU B 0)).r 3 + (B.setV 0 (aU B 0)).r 4 % 8 * 256 } : Bd) hP9))) rfl (ZBb ?_)
  refine RLv K_ (fun w hw => uZ b (bW ({ (B.setV 0 (aU B 0)) with pitch := (B.setV 0 (aU B 0)).r 3 + (B.setV 0 (aU B 0)).r 4 % 8 * 256 } : Bd)) hW9 w (aA m_m w hw)) ?_
  refine ZBL ?_
  refine RLv K_ (fun w hw => xA b (bW ({ (B.setV 0 (aU B 0)) with pitch := (B.setV 0 (aU B 0)).r 3 + (B.setV 0 (aU B 0)).r 4 % 8 * 256 } : Bd)) hW9 w (aA m_m w hw)) ?_
  refine RY (cT rfl rfl) rfl (RW (v := (.bool (decide (everyB (bW ({ (B.setV 0 (aU B 0)) with pitch := (B.setV 0 (aU B 0)).r 3 + (B.setV 0 (aU B 0)).r 4 % 8 * 256 } : Bd)) ≠ 0 ∨ byB (bW ({ (B.setV 0 (aU B 0)) with pitch := (B.setV 0 (aU B 0)).r 3 + (B.setV 0 (aU B 0)).r 4 % 8 * 256 } : Bd)) ≠ 0)))) rfl rfl (cA_ Value.bool (aPH (rQ _) (aJk _))) (ZAl ?_))
  refine RZ (aD (l' := cBd ((kS (bW ({ (B.setV 0 (aU B 0)) with pitch := (B.setV 0 (aU B 0)).r 3 + (B.setV 0 (aU B 0)).r 4 % 8 * 256 } : Bd))))) 0 rfl rfl rfl rfl rfl rfl y_dm (aAZ hW9 _)) rfl (ZAC ?_)
  refine ZBr ?_
  refine RLv K_ (fun w hw => xA b (kS (bW ({ (B.setV 0 (aU B 0)) with pitch := (B.setV 0 (aU B 0)).r 3 + (B.setV 0 (aU B 0)).r 4 % 8 * 256 } : Bd))) hS9 w (aA m_m w hw)) ?_
  refine ZAl ?_
  refine KC (fun q1 z1 => ?_) (fun q1 z1 => ?_)
  ·refine ZAl ?_
   refine RZ (cB K_ rfl (wV_ (vM b (kS (bW ({ (B.setV 0 (aU B 0)) with pitch := (B.setV 0 (aU B 0)).r 3 + (B.setV 0 (aU B 0)).r 4 % 8 * 256 } : Bd))) hS9))) rfl (ZBL ?_)
   exact EN sR_ ⟨rfl, y_eG⟩
  refine ZBL ?_
  exact EN sR_ ⟨rfl, y_eH⟩
 refine ZAl ?_
 refine ZBD ?_
 refine ZA1 ?_
 exact EN sR_ ⟨rfl, by unfold beginB; dsimp only; rw [if_pos hn0]⟩
def tickB_fn (B : Bd) (hB : B.Wf) (w : AI) : aB prog 325 [.agg (cBd B).toArray] w [] (V_ (.agg (cBd (tickB B)).toArray)) := by
 have k1 := hB.div
 have k2 := hB.step
 have hD1 : ({ B with div := B.div + 1 } : Bd).Ln := ⟨hB.lR, hB.bR, hB.lV⟩
 have hD0 : ({ B with div := 0 } : Bd).Wf := hB.div_ o_m
 have hH : (halfB ({ B with div := 0 } : Bd)).Wf := hD0.half
 have hE : (beatB ({ B with div := 0 } : Bd)).Wf := hD0.beat
 have hFN : ({ (beatB ({ B with div := 0 } : Bd)) with step := (B.step + 1) % 8 } : Bd).Ln := ⟨hE.lR, hE.bR, hE.lV⟩
 refine dR_ func325 ?_
 refine ZEk ?_
 refine ZAq fun b0 => ?_
 refine RX (cG (l := cBd bdZ) y_f) rfl ?_
 rintro _ _ ⟨b1, rfl, rfl⟩
 refine ZBb ?_
 refine RZ (aE rfl rfl (aJ (v := .bool B.on) m_m (cBd_on hB))) rfl (ZAl ?_)
 refine KC (fun q0 z0 => ?_) (fun q0 z0 => ?_)
 ·refine ZAl ?_
  refine ZA8 ?_
  refine ZBU ?_
  exact aG (fun w hw => aW rfl rfl y_bh (aA (b := b1) (l := cBd B) m_m w hw)) ⟨rfl, by unfold tickB; rw [if_pos (by simpa using q0)]⟩
 refine ZBb ?_
 refine RZ (aE rfl rfl (aJ m_m (aDr hB))) rfl (ZAa ?_)
 refine ZBL ?_
 refine RZ (aD (l' := cBd (({ B with div := B.div + 1 } : Bd))) 1 rfl rfl rfl rfl rfl rfl y_O (aAw hB _)) rfl (ZAC ?_)
 refine ZBr ?_
 refine RZ (aE rfl rfl (aJ (v := .int .i64 (B.div + 1)) m_m (aDr (b := ({ B with div := B.div + 1 } : Bd)) hD1))) rfl (ZAl ?_)
 refine KC (fun q1 z1 => ?_) (fun q1 z1 => ?_)
 ·refine ZAl ?_
  refine RZ (aK rfl rfl (by rw [cBd_len hD1]; rfl) (aA (b := b0) (l := cBd ({ B with div := B.div + 1 } : Bd)) m_m)) rfl (RZ (aD (l' := cBd ({ B with div := B.div + 1 } : Bd)) 0 rfl rfl rfl (by rw [cBd_len hD1]; rfl) (ones_cBd _) rfl (by rw [cBd_len hD1, cBd_len bdZ_wf]; decide) (putZ hD1)) rfl (ZBU ?_))
  exact aG (fun w hw => aW rfl rfl (by rw [cBd_len hD1]; rfl) (aA (b := b1) (l := cBd ({ B with div := B.div + 1 } : Bd)) m_m w hw)) ⟨rfl, by unfold tickB; rw [if_neg (by rw [show B.on = true by simpa using q0]; decide), if_pos o_m]⟩
 refine ZBr ?_
 refine RZ (aD (l' := cBd (({ B with div := 0 } : Bd))) 1 rfl rfl rfl rfl rfl rfl (by rw [cBd_len hD1]; simp only [Lc_, au]; omega) (aAw hD1 _)) rfl (ZAC ?_)
 refine ZBb ?_
 refine RZ (aE rfl rfl (aJ (v := .int .i64 B.step) m_m (cBd_step (b := ({ B with div := 0 } : Bd)) hD0))) rfl (RW (bE rfl rfl) rfl (by first | exact iG 1 2 y_b rfl o_m (show _ < (9223372036854775808 : Int) by omega) (show _ < (9223372036854775808 : Int) by decide) | rfl) (ZAl ?_))
 refine KC (fun q2 z2 => ?_) (fun q2 z2 => ?_)
 ·refine ZBL ?_
  refine RX (aR (F := [(b1, blk (cBd bdZ) 147)]) (A := [(b0, blk (cBd ({ B with div := 0 } : Bd)) 147)]) (R := fun v H => v = .tuple #[] ∧ H = [(b0, blk (cBd (xX ({ B with div := 0 } : Bd))) 147)]) K_ rfl (wL_ (aG8 b0 ({ B with div := 0 } : Bd) hD0))) rfl (ZAG ?_)
  refine ZA1 ?_
  have hh9 : xX ({ B with div := 0 } : Bd) = (halfB ({ B with div := 0 } : Bd)) := by unfold halfB; rw [if_pos (show (B.step % 2 = 0) by omega)]
  refine ZEc ?_
  refine RZ (aE rfl rfl (aJ (v := .int .i64 B.step) m_m ((cBd_step hH).trans (by rw [sV])))) rfl (ZEf ?_)
  refine KC (fun q3 z3 => ?_) (fun q3 z3 => ?_)
  ·refine ZBL ?_
   refine iO true rfl q3 ?_
   refine ZCF ?_
   refine ZAG ?_
   refine ZFC fun hh8 => ?_
   refine ZBW ?_
   refine ZAa ?_
   refine ZBY ?_
   refine ZAh ?_
   refine ZD1 ?_
   refine ZAM ?_
   refine ZAC ?_
   exact ZAZ
  refine ZBr ?_
  refine KC (fun q4 z4 => ?_) (fun q4 z4 => ?_)
  ·refine ZCF ?_
   refine ZAG ?_
   refine ZFC fun hh8 => ?_
   refine ZBW ?_
   refine ZAa ?_
   refine ZBY ?_
   refine ZAh ?_
   refine ZD1 ?_
   refine ZAM ?_
   refine ZAC ?_
   exact ZAZ
  refine ZBb ?_
  refine KC (fun q5 z5 => ?_) (fun q5 z5 => ?_)
  ·refine ZBL ?_
   refine RX (aR (F := [(b1, blk (cBd bdZ) 147)]) (A := [(b0, blk (cBd (halfB ({ B with div := 0 } : Bd))) 147)]) (R := fun v H => v = .tuple #[] ∧ H = [(b0, blk (cBd (rV (halfB ({ B with div := 0 } : Bd)))) 147)]) K_ rfl (wL_ (aCz b0 (halfB ({ B with div := 0 } : Bd)) hH))) rfl (ZAG ?_)
   refine ZAl ?_
   have hh8 : rV (halfB ({ B with div := 0 } : Bd)) = (beatB ({ B with div := 0 } : Bd)) := by unfold beatB; rw [if_neg (show ¬ (B.step = 2 ∨ B.step = 6) by omega), if_pos (show B.step = 7 by omega)]
   refine ZBW ?_
   refine ZAa ?_
   refine ZBY ?_
   refine ZAh ?_
   refine ZD1 ?_
   refine ZAM ?_
   refine ZAC ?_
   exact ZAZ
  refine ZD5 fun hh8 => ?_
  refine ZBW ?_
  refine ZAa ?_
  refine ZBY ?_
  refine ZAh ?_
  refine ZD1 ?_
  refine ZAM ?_
  refine ZAC ?_
  exact ZAZ
 refine ZA1 ?_
 have hh9 : ({ B with div := 0 } : Bd) = (halfB ({ B with div := 0 } : Bd)) := by unfold halfB; rw [if_neg (show ¬ (B.step % 2 = 0) by omega)]
 refine ZEc ?_
 refine RZ (aE rfl rfl (aJ (v := .int .i64 B.step) m_m ((cBd_step hH).trans (by rw [sV])))) rfl (ZEf ?_)
 refine KC (fun q3 z3 => ?_) (fun q3 z3 => ?_)
 ·refine ZBL ?_
  refine iO true rfl q3 ?_
  refine ZCF ?_
  refine ZAG ?_
  refine ZFC fun hh8 => ?_
  refine ZBW ?_
  refine ZAa ?_
  refine ZBY ?_
  refine ZAh ?_
  refine ZD1 ?_
  refine ZAM ?_
  refine ZAC ?_
  exact ZAZ
 refine ZBr ?_
 refine KC (fun q4 z4 => ?_) (fun q4 z4 => ?_)
 ·refine ZCF ?_
  refine ZAG ?_
  refine ZFC fun hh8 => ?_
  refine ZBW ?_
  refine ZAa ?_
  refine ZBY ?_
  refine ZAh ?_
  refine ZD1 ?_
  refine ZAM ?_
  refine ZAC ?_
  exact ZAZ
 refine ZBb ?_
 refine KC (fun q5 z5 => ?_) (fun q5 z5 => ?_)
 ·refine ZBL ?_
  refine RX (aR (F := [(b1, blk (cBd bdZ) 147)]) (A := [(b0, blk (cBd (halfB ({ B with div := 0 } : Bd))) 147)]) (R := fun v H => v = .tuple #[] ∧ H = [(b0, blk (cBd (rV (halfB ({ B with div := 0 } : Bd)))) 147)]) K_ rfl (wL_ (aCz b0 (halfB ({ B with div := 0 } : Bd)) hH))) rfl (ZAG ?_)
  refine ZAl ?_
  have hh8 : rV (halfB ({ B with div := 0 } : Bd)) = (beatB ({ B with div := 0 } : Bd)) := by unfold beatB; rw [if_neg (show ¬ (B.step = 2 ∨ B.step = 6) by omega), if_pos (show B.step = 7 by omega)]
  refine ZBW ?_
  refine ZAa ?_
  refine ZBY ?_
  refine ZAh ?_
  refine ZD1 ?_
  refine ZAM ?_
  refine ZAC ?_
  exact ZAZ
 refine ZD5 fun hh8 => ?_
 refine ZBW ?_
 refine ZAa ?_
 refine ZBY ?_
 refine ZAh ?_
 refine ZD1 ?_
 refine ZAM ?_
 refine ZAC ?_
 exact ZAZ
def aFj (B : Bd) (hB : B.Wf) (on : Bool) (w : AI) : aB prog 298 [.agg (cBd B).toArray, .bool on] w [] (V_ (.agg (cBd (if on = true then onB B else offB B)).toArray)) := by
 have hZ2 : ({ bdZ with div := B.div, step := B.step } : Bd).Ln := ⟨bdZ_wf.lR, bdZ_wf.bR, bdZ_wf.lV⟩
 have hN0 : ({ B with div := 0 } : Bd).Ln := ⟨hB.lR, hB.bR, hB.lV⟩
 have hN1 : ({ B with div := 0, step := 0 } : Bd).Ln := ⟨hB.lR, hB.bR, hB.lV⟩
 have hN2 : ({ B with div := 0, step := 0, on := true } : Bd).Ln := ⟨hB.lR, hB.bR, hB.lV⟩
 have hN3 : ({ B with on := true } : Bd).Ln := ⟨hB.lR, hB.bR, hB.lV⟩
 refine dR_ func298 ?_
 refine ZEk ?_
 refine ZAq fun b0 => ?_
 refine RX (cG (l := cBd bdZ) y_f) rfl ?_
 rintro _ _ ⟨b1, rfl, rfl⟩
 refine ZDH ?_
 refine KC (fun q0 z0 => ?_) (fun q0 z0 => ?_)
 ·refine ZA1 ?_
  refine RZ (aE rfl rfl (aJ m_m (aDr hB))) rfl (ZBL ?_)
  refine RZ (aE rfl rfl (aJ m_m (cBd_step hB))) rfl (RY (eL (l := cBd ({ bdZ with div := B.div, step := B.step } : Bd)) (z := cBd bdZ) (ps := [(2, .int .i64 B.div), (3, .int .i64 B.step)]) rfl y_f rfl rfl) rfl (RX (cG (l := cBd bdZ) y_f) rfl ?_))
  rintro _ _ ⟨b2, rfl, rfl⟩
  refine RZ (aD (l' := cBd ({ bdZ with div := B.div, step := B.step } : Bd)) 0 rfl rfl rfl (by rw [cBd_len hZ2]; rfl) (ones_cBd _) rfl (by rw [cBd_len hZ2, cBd_len bdZ_wf]; decide) (putZ hZ2)) rfl (ZBU ?_)
  refine DR [] (pln [0, 2, 4, 6, 9]) ?_
  refine ZBL ?_
  refine DY rfl (eM 22 48 rfl rfl rfl rfl rfl rfl y_b y_b) rfl (ZBL ?_)
  refine DY rfl (eM 22 48 rfl rfl rfl rfl rfl rfl y_b y_b) rfl (DZ rfl (rF (l' := cBd (offB B)) (m := 26) (ys := (B.regs.drop 22).map (.int .u8)) 0 rfl rfl rfl rfl rfl (fun w hw => Src.row (s := 1) b0 22 26 26 ((B.regs.drop 22).map (.int .u8)) (by simp [hB.lR]) (aNt (aA (b := b0) (l := cBd B) m_m w hw))) (dZ _ _) (by rw [cBd_len hZ2]; decide) (aQp hB)) rfl n_h (ZD1 ?_))
  refine RZ (aK rfl rfl y_dr (aA (b := b2) (l := cBd (offB B)) m_m)) rfl (RZ (aD (l' := cBd (offB B)) 1 rfl rfl rfl y_dr (ones_cBd _) rfl (by rw [cBd_len hB.off.ln, cBd_len bdZ_wf]; decide) (putZ hB.off.ln)) rfl (ZBU ?_))
  exact aG (fun w hw => aW rfl rfl y_dr (aA (b := b1) (l := cBd (offB B)) m_m w hw)) ⟨rfl, by rw [show on = false by simpa using q0]; rfl⟩
 refine ZBb ?_
 refine RZ (aE rfl rfl (aJ (v := .bool B.on) m_m (cBd_on hB))) rfl (ZAl ?_)
 refine KC (fun q1 z1 => ?_) (fun q1 z1 => ?_)
 ·refine ZAl ?_
  refine RZ (aD (l' := cBd (({ B with div := 0 } : Bd))) 1 rfl rfl rfl rfl rfl rfl y_O (aAw hB _)) rfl (ZAC ?_)
  refine ZBL ?_
  refine RZ (aD (l' := cBd (({ B with div := 0, step := 0 } : Bd))) 1 rfl rfl rfl rfl rfl rfl (by rw [cBd_len hN0]; simp only [Lc_, au]; omega) (putBd_step hN0 _)) rfl (ZAC ?_)
  refine ZBr ?_
  refine RZ (aD (l' := cBd (({ B with div := 0, step := 0, on := true } : Bd))) 1 rfl rfl rfl rfl rfl rfl (by rw [cBd_len hN1]; simp only [Lc_, au]; omega) (aFq hN1 _)) rfl (ZD1 ?_)
  refine RZ (aK rfl rfl y_do (aA (b := b0) (l := cBd ({ B with div := 0, step := 0, on := true } : Bd)) m_m)) rfl (RZ (aD (l' := cBd ({ B with div := 0, step := 0, on := true } : Bd)) 0 rfl rfl rfl (by rw [cBd_len hN2]; rfl) (ones_cBd _) rfl (by rw [cBd_len hN2, cBd_len bdZ_wf]; decide) (putZ hN2)) rfl (ZBU ?_))
  exact aG (fun w hw => aW rfl rfl (by rw [cBd_len hN2]; rfl) (aA (b := b1) (l := cBd ({ B with div := 0, step := 0, on := true } : Bd)) m_m w hw)) ⟨rfl, by rw [show on = true by simpa using q0, if_pos rfl]; unfold onB; rw [if_neg (by rw [show B.on = false by simpa using q1]; decide)]⟩
 refine ZBr ?_
 refine RZ (aD (l' := cBd (({ B with on := true } : Bd))) 1 rfl rfl rfl rfl rfl rfl y_O (aFq hB _)) rfl (ZD1 ?_)
 refine RZ (aK rfl rfl y_do (aA (b := b0) (l := cBd ({ B with on := true } : Bd)) m_m)) rfl (RZ (aD (l' := cBd ({ B with on := true } : Bd)) 0 rfl rfl rfl (by rw [cBd_len hN3]; rfl) (ones_cBd _) rfl (by rw [cBd_len hN3, cBd_len bdZ_wf]; decide) (putZ hN3)) rfl (ZBU ?_))
 have hon : B.on = true := by simpa using q1
 exact aG (fun w hw => aW rfl rfl (by rw [cBd_len hN3]; rfl) (aA (b := b1) (l := cBd ({ B with on := true } : Bd)) m_m w hw)) ⟨rfl, by rw [show on = true by simpa using q0, if_pos rfl]; unfold onB; rw [if_pos hon, ← hon]⟩
set_option maxHeartbeats 2000000 in
def aC6 (B : Bd) (hB : B.Wf) (n x : Int) (hx : 0 ≤ x ∧ x < 256) (w : AI) : aB prog 297 [.agg (cBd B).toArray, .int .i64 n, .int .u8 x] w [] (V_ (.agg (cBd (writeBd n x B)).toArray)) := by
 refine dR_ func297 ?_
 refine ZEk ?_
 refine ZAq fun b0 => ?_
 refine RX (cG (l := cBd bdZ) y_f) rfl ?_
 rintro _ _ ⟨b1, rfl, rfl⟩
 refine ZDH ?_
 refine KL (fun q0 z0 => ?_) (fun q0 z0 => ?_)
 ·refine ZEf ?_
  refine ZA8 ?_
  exact ZDW
 refine ZBb ?_
 refine KC (fun q1 z1 => ?_) (fun q1 z1 => ?_)
 ·refine ZAl ?_
  refine ZA8 ?_
  exact ZDW
 refine ZBn ?_
 refine KC (fun q2 z2 => ?_) (fun q2 z2 => ?_)
 ·refine ZAl ?_
  refine RZ (aK rfl rfl y_bh (aA (b := b0) (l := cBd B) m_m)) rfl (ZBL ?_)
  refine ZEN ?_
  refine RW (v := (.bool (decide (x / 128 = 1)))) rfl rfl (cA_ Value.bool y_bQ) (RLv K_ (wQ_ (aFj B hB _)) ?_)
  refine RZ (aD (l' := cBd (if decide (x / 128 = 1) = true then onB B else offB B)) 0 rfl rfl rfl y_cb (ones_cBd _) rfl (by rw [cBd_len (show (if decide (x / 128 = 1) = true then onB B else offB B).Wf by split; exact hB.onW; exact hB.off), cBd_len bdZ_wf]; decide) (putZ (show (if decide (x / 128 = 1) = true then onB B else offB B).Wf by split; exact hB.onW; exact hB.off))) rfl (ZBU ?_)
  exact aG (fun w hw => aW rfl rfl y_cb (aA (b := b1) (l := cBd (if decide (x / 128 = 1) = true then onB B else offB B)) m_m w hw)) ⟨rfl, by rw [show writeBd n x B = (if x / 128 = 1 then onB B else offB B) from by unfold writeBd; rw [if_neg o_m, if_pos o_m]]; simp only [decide_eq_true_eq]⟩
 refine ZBL ?_
 have hon9 : B.on = B.on := rfl
 rcases hon9 : B.on with _ | _
 ·refine ZDa ?_
  refine ZAQ ?_
  refine ZBn ?_
  refine KC (fun q3 z3 => ?_) (fun q3 z3 => ?_)
  ·refine ZAl ?_
   refine ZA8 ?_
   refine ZBU ?_
   exact aG (fun w hw => aW rfl rfl y_bh (aA (b := b1) (l := cBd B) m_m w hw)) ⟨rfl, by unfold writeBd; rw [if_neg o_m, if_neg o_m, if_pos ⟨hon9, y_y⟩]⟩
  refine ZAl ?_
  obtain ⟨k, rfl⟩ : ∃ k : Nat, n = k := ⟨n.toNat, y_y⟩
  have hPK : (putB k x B).Wf := hB.put k hx
  refine ZBr ?_
  refine ZEp ?_
  refine ZAC ?_
  refine ZDH ?_
  refine KC (fun q4 z4 => ?_) (fun q4 z4 => ?_)
  ·refine ZAl ?_
   refine RZ (aK rfl rfl y_bv (aA (b := b0) (l := cBd (putB k x B)) m_m)) rfl (ZDA ?_)
   exact aG (fun w hw => aW rfl rfl y_bv (aA (b := b1) (l := cBd (putB k x B)) m_m w hw)) ⟨rfl, y_eE⟩
  refine ZEV ?_
  refine ZBr ?_
  have hv9 := hPK.v_ (k / 5)
  have hlg : longest (k / 5) = 64 ∨ longest (k / 5) = 256 := by unfold longest; split <;> simp
  have hm9 := fh x (show 0 < longest (k / 5) by omega)
  have hm8 := et x (show longest (k / 5) ≠ 0 by omega)
  refine ZCK fun hWL hWO => ?_
  refine ZAl ?_
  refine ZBY ?_
  refine ZDH ?_
  refine KC (fun q5 z5 => ?_) (fun q5 z5 => ?_)
  ·refine ZA1 ?_
   refine RLv K_ (wQ_ (qN (k / 5))) ?_
   refine ZEb ?_
   refine ZBL ?_
   refine RLv K_ (wQ_ (qN (k / 5))) ?_
   refine RW (v := (.int .i64 (x % longest (k / 5)))) (jX rfl rfl o_m) rfl (cA_ _ (Int.tmod_eq_emod_of_nonneg o_m)) (ZBg ?_)
   refine ZBL ?_
   refine ZB6 ?_
   refine ZBL ?_
   refine RZ (aD (l' := cBd (((putB k x B).setV (k / 5) { ((putB k x B).v (k / 5)) with len := longest (k / 5) - x % longest (k / 5) }))) 1 rfl rfl rfl rfl rfl rfl y_8 (putBd_v hPK (k := 1) o_m y_b rfl)) rfl (ZD1 ?_)
   refine RZ (aK rfl rfl y_v (aA (b := b0) (l := cBd ((putB k x B).setV (k / 5) { ((putB k x B).v (k / 5)) with len := longest (k / 5) - x % longest (k / 5) })) m_m)) rfl (RZ (aD (l' := cBd ((putB k x B).setV (k / 5) { ((putB k x B).v (k / 5)) with len := longest (k / 5) - x % longest (k / 5) })) 0 rfl rfl rfl y_c1 (ones_cBd _) rfl (by rw [cBd_len hWL, cBd_len bdZ_wf]; decide) (putZ hWL)) rfl (ZBU ?_))
   exact aG (fun w hw => aW rfl rfl y_c1 (aA (b := b1) (l := cBd ((putB k x B).setV (k / 5) { ((putB k x B).v (k / 5)) with len := longest (k / 5) - x % longest (k / 5) })) m_m w hw)) ⟨rfl, y_er⟩
  refine ZBb ?_
  refine KC (fun q6 z6 => ?_) (fun q6 z6 => ?_)
  ·refine ZA1 ?_
   refine ZEN ?_
   refine ZAl ?_
   refine KC (fun q7 z7 => ?_) (fun q7 z7 => ?_)
   ·refine ZCf ?_
    refine ZAG ?_
    refine ZA1 ?_
    refine ZCr ?_
    refine ZBU ?_
    exact aG (fun w hw => aW rfl rfl y_b7 (aA (b := b1) (l := cBd (beginB (k / 5) (putB k x B))) m_m w hw)) ⟨rfl, by unfold writeBd; rw [if_neg o_m, if_neg o_m, if_neg y_cD, if_neg o_m, co]; unfold voiceB; rw [if_neg o_m, if_pos o_m, if_pos o_m]⟩
   refine ZA1 ?_
   refine RZ (aK rfl rfl y_v (aA (b := b0) (l := cBd (putB k x B)) m_m)) rfl (ZDA ?_)
   exact aG (fun w hw => aW rfl rfl y_bv (aA (b := b1) (l := cBd (putB k x B)) m_m w hw)) ⟨rfl, by unfold writeBd; rw [if_neg o_m, if_neg o_m, if_neg y_cD, if_neg o_m, co]; unfold voiceB; rw [if_neg o_m, if_pos o_m, if_neg o_m]⟩
  refine ZBr ?_
  refine ZB6 ?_
  refine ZBL ?_
  refine RZ (aE rfl rfl (aJ (v := .bool ((putB k x B).v (k / 5)).on) m_m (qG hPK (k := 0) o_m rfl))) rfl (KL (fun q7 z7 => ?_) (fun q7 z7 => ?_))
  ·refine ZFB ?_
   refine RW (v := (.bool (((putB k x B).v (k / 5)).on && readyB (k / 5) (putB k x B)))) rfl rfl (by rw [show ((putB k x B).v (k / 5)).on = true from q7]; rfl) (ZBL ?_)
   refine ZB6 ?_
   refine ZAT ?_
   refine ZD1 ?_
   refine ZAL ?_
   exact ZCW
  refine ZAl ?_
  refine RW (v := (.bool (((putB k x B).v (k / 5)).on && readyB (k / 5) (putB k x B)))) rfl rfl (by rw [show ((putB k x B).v (k / 5)).on = false from q7]; rfl) (ZBL ?_)
  refine ZB6 ?_
  refine ZAT ?_
  refine ZD1 ?_
  refine ZAL ?_
  exact ZCW
 refine ZDe ?_
 refine ZAE ?_
 refine A_9 ?_
 obtain ⟨k, rfl⟩ : ∃ k : Nat, n = k := ⟨n.toNat, y_y⟩
 have hPK : (putB k x B).Wf := hB.put k hx
 refine ZBr ?_
 refine ZEp ?_
 refine ZAC ?_
 refine ZDH ?_
 refine KC (fun q3 z3 => ?_) (fun q3 z3 => ?_)
 ·refine ZAl ?_
  refine RZ (aK rfl rfl y_bv (aA (b := b0) (l := cBd (putB k x B)) m_m)) rfl (ZDA ?_)
  exact aG (fun w hw => aW rfl rfl y_bv (aA (b := b1) (l := cBd (putB k x B)) m_m w hw)) ⟨rfl, y_eE⟩
 refine ZEV ?_
 refine ZBr ?_
 have hv9 := hPK.v_ (k / 5)
 have hlg : longest (k / 5) = 64 ∨ longest (k / 5) = 256 := by unfold longest; split <;> simp
 have hm9 := fh x (show 0 < longest (k / 5) by omega)
 have hm8 := et x (show longest (k / 5) ≠ 0 by omega)
 refine ZCK fun hWL hWO => ?_
 refine ZAl ?_
 refine ZBY ?_
 refine ZDH ?_
 refine KC (fun q4 z4 => ?_) (fun q4 z4 => ?_)
 ·refine ZA1 ?_
  refine RLv K_ (wQ_ (qN (k / 5))) ?_
  refine ZEb ?_
  refine ZBL ?_
  refine RLv K_ (wQ_ (qN (k / 5))) ?_
  refine RW (v := (.int .i64 (x % longest (k / 5)))) (jX rfl rfl o_m) rfl (cA_ _ (Int.tmod_eq_emod_of_nonneg o_m)) (ZBg ?_)
  refine ZBL ?_
  refine ZB6 ?_
  refine ZBL ?_
  refine RZ (aD (l' := cBd (((putB k x B).setV (k / 5) { ((putB k x B).v (k / 5)) with len := longest (k / 5) - x % longest (k / 5) }))) 1 rfl rfl rfl rfl rfl rfl y_8 (putBd_v hPK (k := 1) o_m y_b rfl)) rfl (ZD1 ?_)
  refine RZ (aK rfl rfl y_v (aA (b := b0) (l := cBd ((putB k x B).setV (k / 5) { ((putB k x B).v (k / 5)) with len := longest (k / 5) - x % longest (k / 5) })) m_m)) rfl (RZ (aD (l' := cBd ((putB k x B).setV (k / 5) { ((putB k x B).v (k / 5)) with len := longest (k / 5) - x % longest (k / 5) })) 0 rfl rfl rfl y_c1 (ones_cBd _) rfl (by rw [cBd_len hWL, cBd_len bdZ_wf]; decide) (putZ hWL)) rfl (ZBU ?_))
  exact aG (fun w hw => aW rfl rfl y_c1 (aA (b := b1) (l := cBd ((putB k x B).setV (k / 5) { ((putB k x B).v (k / 5)) with len := longest (k / 5) - x % longest (k / 5) })) m_m w hw)) ⟨rfl, y_er⟩
 refine ZBb ?_
 refine KC (fun q5 z5 => ?_) (fun q5 z5 => ?_)
 ·refine ZA1 ?_
  refine ZEN ?_
  refine ZAl ?_
  refine KC (fun q6 z6 => ?_) (fun q6 z6 => ?_)
  ·refine ZCf ?_
   refine ZAG ?_
   refine ZA1 ?_
   refine ZCr ?_
   refine ZBU ?_
   exact aG (fun w hw => aW rfl rfl y_b7 (aA (b := b1) (l := cBd (beginB (k / 5) (putB k x B))) m_m w hw)) ⟨rfl, by unfold writeBd; rw [if_neg o_m, if_neg o_m, if_neg y_G, if_neg o_m, co]; unfold voiceB; rw [if_neg o_m, if_pos o_m, if_pos o_m]⟩
  refine ZA1 ?_
  refine RZ (aK rfl rfl y_v (aA (b := b0) (l := cBd (putB k x B)) m_m)) rfl (ZDA ?_)
  exact aG (fun w hw => aW rfl rfl y_bv (aA (b := b1) (l := cBd (putB k x B)) m_m w hw)) ⟨rfl, by unfold writeBd; rw [if_neg o_m, if_neg o_m, if_neg y_G, if_neg o_m, co]; unfold voiceB; rw [if_neg o_m, if_pos o_m, if_neg o_m]⟩
 refine ZBr ?_
 refine ZB6 ?_
 refine ZBL ?_
 refine RZ (aE rfl rfl (aJ (v := .bool ((putB k x B).v (k / 5)).on) m_m (qG hPK (k := 0) o_m rfl))) rfl (KL (fun q6 z6 => ?_) (fun q6 z6 => ?_))
 ·refine ZFB ?_
  refine RW (v := (.bool (((putB k x B).v (k / 5)).on && readyB (k / 5) (putB k x B)))) rfl rfl (by rw [show ((putB k x B).v (k / 5)).on = true from q6]; rfl) (ZBL ?_)
  refine ZB6 ?_
  refine ZAT ?_
  refine ZD1 ?_
  refine ZAL ?_
  exact ZCX
 refine ZAl ?_
 refine RW (v := (.bool (((putB k x B).v (k / 5)).on && readyB (k / 5) (putB k x B)))) rfl rfl (by rw [show ((putB k x B).v (k / 5)).on = false from q6]; rfl) (ZBL ?_)
 refine ZB6 ?_
 refine ZAT ?_
 refine ZD1 ?_
 refine ZAL ?_
 exact ZCX
end Go.Proofs.YtacejanlmhbddaaGreat
