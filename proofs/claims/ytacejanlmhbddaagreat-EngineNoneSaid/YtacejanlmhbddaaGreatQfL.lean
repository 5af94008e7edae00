/- Parts. -/
import Derived.Test.YtacejanlmhbddaaGreatQfK
set_option maxRecDepth 100000
set_option maxHeartbeats 1000000
set_option linter.all false
namespace Go.Proofs.YtacejanlmhbddaaGreat
open Go Go.VV Go.Proofs Go.RowKit Go.Proofs.Tryz
set_option maxHeartbeats 4000000 in
def aBt (r : Bool) (lb mb rb nn rc : Nat) (hnn : nn ≤ 200000) (va : AH) (G : aC) (S : Ps) (hV : LineB 5 r va S.2 G) (hT : fC r (8482 + nn) S) (RL : AA) (hR : ∀ o ∈ bY 0 nn, Fit .byte RL o) (hrv : S.1[134]? = some (.slice (Q_ rb) nn rc)) (ms : AE) (w : AI) (hst : St w ms ((lb, blk [va, .bool r] 123) :: ((G ++ [(mb, blk S.1 156)]) ++ [(rb, blk RL 5)])) w) : aB prog 54 [P_ mb, P_ lb] w ms (fun v H => v = .tuple #[] ∧ ∃ va' Gl', LineB 5 r va' (aI r .byte (bY 0 nn) (RL, (qH r S).2)).2 Gl' ∧ H = (lb, blk [va', .bool r] 123) :: ((Gl' ++ [(mb, blk (qH r S).1 156)]) ++ [(rb, blk (aI r .byte (bY 0 nn) (RL, (qH r S).2)).1 5)])) := by
 refine dO_ func54 hst ?_
 refine ZBL ?_
 refine DR [] (pln [0, 2, 4, 6, 8, 10, 12, 14, 16, 18, 20, 22, 24, 26, 28, 30, 32, 34, 36, 38, 40]) ?_
 refine A_23 ?_
 refine DR [] (pln [0, 2, 4, 6, 8, 10, 12, 14, 16, 18, 20, 22, 24, 26, 28, 30, 32, 34, 36, 38, 40, 42, 44, 46, 48, 50, 52, 54, 56, 58, 60, 62, 64, 66, 68, 70, 72, 74, 76, 78, 80, 82, 84, 86, 88, 90, 92, 94, 96, 98, 100, 102, 104, 107, 109]) ?_
 refine A_53 ?_
 refine DX rfl (dX (z := [.pointer none]) (l := [P_ mb, .pointer (some ⟨mb, 1, none⟩), .pointer (some ⟨mb, 2, none⟩), .pointer (some ⟨mb, 3, none⟩), .pointer (some ⟨mb, 4, none⟩), .pointer (some ⟨mb, 5, none⟩), .pointer (some ⟨mb, 6, none⟩), .pointer (some ⟨mb, 7, none⟩), .pointer (some ⟨mb, 119, none⟩), .pointer (some ⟨mb, 120, none⟩), .pointer (some ⟨mb, 21, none⟩), .pointer (some ⟨mb, 39, none⟩), .pointer (some ⟨mb, 40, none⟩), .pointer (some ⟨mb, 47, none⟩)]) (ps := [(0, P_ mb), (1, .pointer (some ⟨mb, 1, none⟩)), (2, .pointer (some ⟨mb, 2, none⟩)), (3, .pointer (some ⟨mb, 3, none⟩)), (4, .pointer (some ⟨mb, 4, none⟩)), (5, .pointer (some ⟨mb, 5, none⟩)), (6, .pointer (some ⟨mb, 6, none⟩)), (7, .pointer (some ⟨mb, 7, none⟩)), (8, .pointer (some ⟨mb, 119, none⟩)), (9, .pointer (some ⟨mb, 120, none⟩)), (10, .pointer (some ⟨mb, 21, none⟩)), (11, .pointer (some ⟨mb, 39, none⟩)), (12, .pointer (some ⟨mb, 40, none⟩)), (13, .pointer (some ⟨mb, 47, none⟩))]) rfl rfl rfl rfl y_f y_f) rfl n_h (ZAq fun b0 => ?_)
 refine DX rfl (bB (F := [(b0, _)]) (A := (lb, blk [va, .bool r] 123) :: (G ++ [(mb, blk S.1 156)])) (G := [(rb, blk RL 5)]) (R := (fun v H => v = .tuple #[] ∧ ∃ va' Gl', LineB 5 r va' (aI r .byte gA S).2 Gl' ∧ H = (lb, blk [va', .bool r] 123) :: (Gl' ++ [(mb, blk (aI r .byte gA S).1 156)]))) K_ rfl (fun w hw hw2 => aAU r lb mb va G S hV gA (ae rfl) (hT.ok.le (m := 14) o_m) 156 (hT.fit aMZ) _ _ _ w hw (fun _ => ⟨b0, 0, rfl, aA (b := b0) (mR_ _ (.head _)) w hw2⟩) (fun p hp => y_bg))) rfl n_h ?_
 rintro _ _ ⟨_, ⟨rfl, va0, G0, hV0, rfl⟩, rfl⟩
 obtain ⟨Z79, hZ79⟩ : ∃ Z, Z = aI r .byte gA S := ⟨_, rfl⟩
 have hT79 : fC r (8468 + nn) Z79 := hZ79 ▸ (hT.le (m := 14 + (8468 + nn)) o_m).pass (k := .byte) (os := gA) (n := (8468 + nn)) trivial aMZ
 rw [← hZ79] at hV0
 refine eX (fun w hw => (hw.sub (.cons _ sR_)).as (by rw [← hZ79]; rfl)) (H' := (lb, blk [va0, .bool r] 123) :: ((G0 ++ [(mb, blk Z79.1 156)]) ++ [(rb, blk RL 5)])) ?_
 refine ZAl ?_
 refine DR [] (pln [0, 2, 4, 6, 8, 10, 12, 14, 16, 18, 21, 23]) ?_
 refine A_10 ?_
 refine DX rfl (dX (z := [.pointer none]) (l := [.pointer (some ⟨mb, 8, none⟩), .pointer (some ⟨mb, 9, none⟩), .pointer (some ⟨mb, 34, none⟩)]) (ps := [(0, .pointer (some ⟨mb, 8, none⟩)), (1, .pointer (some ⟨mb, 9, none⟩)), (2, .pointer (some ⟨mb, 34, none⟩))]) rfl rfl rfl rfl y_f y_f) rfl n_h ?_
 rintro _ _ ⟨b1, rfl, rfl⟩
 refine DX rfl (bB (F := [(b1, _)]) (A := (lb, blk [va0, .bool r] 123) :: (G0 ++ [(mb, blk Z79.1 156)])) (G := [(rb, blk RL 5)]) (R := (fun v H => v = .tuple #[] ∧ ∃ va' Gl', LineB 5 r va' (aI r .word gW Z79).2 Gl' ∧ H = (lb, blk [va', .bool r] 123) :: (Gl' ++ [(mb, blk (aI r .word gW Z79).1 156)]))) K_ rfl (fun w hw hw2 => aLf r lb mb va0 G0 Z79 hV0 gW (ae rfl) (hT79.ok.le (m := 6) o_m) 156 (hT79.fit aOt) _ _ _ w hw (fun _ => ⟨b1, 0, rfl, aA (b := b1) (mR_ _ (.head _)) w hw2⟩) (fun p hp => y_bg))) rfl n_h ?_
 rintro _ _ ⟨_, ⟨rfl, va1, G1, hV1, rfl⟩, rfl⟩
 obtain ⟨Z91, hZ91⟩ : ∃ Z, Z = aI r .word gW Z79 := ⟨_, rfl⟩
 have hT91 : fC r (8462 + nn) Z91 := hZ91 ▸ (hT79.le (m := 6 + (8462 + nn)) o_m).pass (k := .word) (os := gW) (n := (8462 + nn)) trivial aOt
 rw [← hZ91] at hV1
 refine eX (fun w hw => (hw.sub (.cons _ sR_)).as (by rw [← hZ91]; rfl)) (H' := (lb, blk [va1, .bool r] 123) :: ((G1 ++ [(mb, blk Z91.1 156)]) ++ [(rb, blk RL 5)])) ?_
 refine ZAl ?_
 refine DR [] (pln [0, 2, 4, 6, 8, 10, 12, 14, 16, 18, 20, 22, 24, 26, 28, 30, 32, 34, 36, 38, 40, 42, 44, 46, 48, 50, 52, 54, 56, 58, 60, 62, 64, 66, 68, 70, 72, 74, 76, 78, 81, 83]) ?_
 refine A_40 ?_
 refine DX rfl (dX (z := [.pointer none]) (l := [.pointer (some ⟨mb, 10, none⟩), .pointer (some ⟨mb, 11, none⟩), .pointer (some ⟨mb, 12, none⟩), .pointer (some ⟨mb, 13, none⟩), .pointer (some ⟨mb, 17, none⟩), .pointer (some ⟨mb, 18, none⟩), .pointer (some ⟨mb, 38, none⟩), .pointer (some ⟨mb, 27, none⟩), .pointer (some ⟨mb, 28, none⟩)]) (ps := [(0, .pointer (some ⟨mb, 10, none⟩)), (1, .pointer (some ⟨mb, 11, none⟩)), (2, .pointer (some ⟨mb, 12, none⟩)), (3, .pointer (some ⟨mb, 13, none⟩)), (4, .pointer (some ⟨mb, 17, none⟩)), (5, .pointer (some ⟨mb, 18, none⟩)), (6, .pointer (some ⟨mb, 38, none⟩)), (7, .pointer (some ⟨mb, 27, none⟩)), (8, .pointer (some ⟨mb, 28, none⟩))]) rfl rfl rfl rfl y_f y_f) rfl n_h ?_
 rintro _ _ ⟨b2, rfl, rfl⟩
 refine DX rfl (bB (F := [(b2, _)]) (A := (lb, blk [va1, .bool r] 123) :: (G1 ++ [(mb, blk Z91.1 156)])) (G := [(rb, blk RL 5)]) (R := (fun v H => v = .tuple #[] ∧ ∃ va' Gl', LineB 5 r va' (aI r .bool gB Z91).2 Gl' ∧ H = (lb, blk [va', .bool r] 123) :: (Gl' ++ [(mb, blk (aI r .bool gB Z91).1 156)]))) K_ rfl (fun w hw hw2 => aAP r lb mb va1 G1 Z91 hV1 gB (ae rfl) (hT91.ok.le (m := 9) o_m) 156 (hT91.fit aNS) _ _ _ w hw (fun _ => ⟨b2, 0, rfl, aA (b := b2) (mR_ _ (.head _)) w hw2⟩) (fun p hp => y_bg))) rfl n_h ?_
 rintro _ _ ⟨_, ⟨rfl, va2, G2, hV2, rfl⟩, rfl⟩
 obtain ⟨Z133, hZ133⟩ : ∃ Z, Z = aI r .bool gB Z91 := ⟨_, rfl⟩
 have hT133 : fC r (8453 + nn) Z133 := hZ133 ▸ (hT91.le (m := 9 + (8453 + nn)) o_m).pass (k := .bool) (os := gB) (n := (8453 + nn)) trivial aNS
 rw [← hZ133] at hV2
 refine eX (fun w hw => (hw.sub (.cons _ sR_)).as (by rw [← hZ133]; rfl)) (H' := (lb, blk [va2, .bool r] 123) :: ((G2 ++ [(mb, blk Z133.1 156)]) ++ [(rb, blk RL 5)])) ?_
 refine ZEf ?_
 refine bF (fun w hw => hw.perm (di [(rb, blk RL 5)] (aw (l₁ := (lb, blk [va2, .bool r] 123) :: G2) (l₂ := [_])))) (H' := ((mb, blk Z133.1 156) :: (lb, blk [va2, .bool r] 123) :: G2) ++ [(rb, blk RL 5)]) ?_
 refine RX (eQ (A := (mb, blk Z133.1 156) :: (lb, blk [va2, .bool r] 123) :: G2) (G := [(rb, blk RL 5)]) (R := (fun v H => v = .tuple #[] ∧ ∃ va' Gl', LineB 5 r va' (pass1 r (.long 8) Z133 121).2 Gl' ∧ H = (mb, blk (pass1 r (.long 8) Z133 121).1 156) :: (lb, blk [va', .bool r] 123) :: Gl')) (((mb, blk Z133.1 156) :: (lb, blk [va2, .bool r] 123) :: G2).map (·.1)) K_ rfl (fun _ hb => eR hb) (wL_ (yV r lb mb 121 8 y_b va2 Z133.2 G2 hV2 Z133.1 (hT133.ok.le (m := 8) o_m) 156 (hT133.ty 121 _ y_b) _))) rfl ?_
 rintro _ _ ⟨_, ⟨rfl, va3, G3, hV3, rfl⟩, rfl⟩
 obtain ⟨Z139, hZ139⟩ : ∃ Z, Z = pass1 r (.long 8) Z133 121 := ⟨_, rfl⟩
 have hT139 : fC r (8445 + nn) Z139 := hZ139 ▸ (hT133.le (m := 8 + (8445 + nn)) o_m).one (k := .long 8) (n := (8445 + nn)) (show 8 ≤ 8 by decide) y_b
 rw [← hZ139] at hV3
 refine bF (fun w hw => (hw.perm (di [(rb, blk RL 5)] (aw (l₁ := [_]) (l₂ := (lb, blk [va3, .bool r] 123) :: G3)))).as (by rw [← hZ139]; rfl)) (H' := (lb, blk [va3, .bool r] 123) :: ((G3 ++ [(mb, blk Z139.1 156)]) ++ [(rb, blk RL 5)])) ?_
 refine ZEf ?_
 refine bF (fun w hw => hw.perm (di [(rb, blk RL 5)] (aw (l₁ := (lb, blk [va3, .bool r] 123) :: G3) (l₂ := [_])))) (H' := ((mb, blk Z139.1 156) :: (lb, blk [va3, .bool r] 123) :: G3) ++ [(rb, blk RL 5)]) ?_
 refine RX (eQ (A := (mb, blk Z139.1 156) :: (lb, blk [va3, .bool r] 123) :: G3) (G := [(rb, blk RL 5)]) (R := (fun v H => v = .tuple #[] ∧ ∃ va' Gl', LineB 5 r va' (pass1 r (.long 8) Z139 122).2 Gl' ∧ H = (mb, blk (pass1 r (.long 8) Z139 122).1 156) :: (lb, blk [va', .bool r] 123) :: Gl')) (((mb, blk Z139.1 156) :: (lb, blk [va3, .bool r] 123) :: G3).map (·.1)) K_ rfl (fun _ hb => eR hb) (wL_ (yV r lb mb 122 8 y_b va3 Z139.2 G3 hV3 Z139.1 (hT139.ok.le (m := 8) o_m) 156 (hT139.ty 122 _ y_b) _))) rfl ?_
 rintro _ _ ⟨_, ⟨rfl, va4, G4, hV4, rfl⟩, rfl⟩
 obtain ⟨Z145, hZ145⟩ : ∃ Z, Z = pass1 r (.long 8) Z139 122 := ⟨_, rfl⟩
 have hT145 : fC r (8437 + nn) Z145 := hZ145 ▸ (hT139.le (m := 8 + (8437 + nn)) o_m).one (k := .long 8) (n := (8437 + nn)) (show 8 ≤ 8 by decide) y_b
 rw [← hZ145] at hV4
 refine bF (fun w hw => (hw.perm (di [(rb, blk RL 5)] (aw (l₁ := [_]) (l₂ := (lb, blk [va4, .bool r] 123) :: G4)))).as (by rw [← hZ145]; rfl)) (H' := (lb, blk [va4, .bool r] 123) :: ((G4 ++ [(mb, blk Z145.1 156)]) ++ [(rb, blk RL 5)])) ?_
 refine ZAl ?_
 refine ZEe ?_
 refine DX rfl (dX (z := [.pointer none]) (l := [.pointer (some ⟨mb, 19, none⟩), .pointer (some ⟨mb, 20, none⟩), .pointer (some ⟨mb, 25, none⟩), .pointer (some ⟨mb, 44, none⟩), .pointer (some ⟨mb, 45, none⟩), .pointer (some ⟨mb, 46, none⟩), .pointer (some ⟨mb, 48, none⟩)]) (ps := [(0, .pointer (some ⟨mb, 19, none⟩)), (1, .pointer (some ⟨mb, 20, none⟩)), (2, .pointer (some ⟨mb, 25, none⟩)), (3, .pointer (some ⟨mb, 44, none⟩)), (4, .pointer (some ⟨mb, 45, none⟩)), (5, .pointer (some ⟨mb, 46, none⟩)), (6, .pointer (some ⟨mb, 48, none⟩))]) rfl rfl rfl rfl y_f y_f) rfl n_h ?_
 rintro _ _ ⟨b3, rfl, rfl⟩
 refine DX rfl (bB (F := [(b3, _)]) (A := (lb, blk [va4, .bool r] 123) :: (G4 ++ [(mb, blk Z145.1 156)])) (G := [(rb, blk RL 5)]) (R := (fun v H => v = .tuple #[] ∧ ∃ va' Gl', LineB 5 r va' (aI r (.int 2) gI Z145).2 Gl' ∧ H = (lb, blk [va', .bool r] 123) :: (Gl' ++ [(mb, blk (aI r (.int 2) gI Z145).1 156)]))) K_ rfl (fun w hw hw2 => yS r lb mb 2 y_b y_b va4 G4 Z145 hV4 gI (ae rfl) (hT145.ok.le (m := 14) o_m) 156 (hT145.fit aOk) _ _ _ w hw (fun _ => ⟨b3, 0, rfl, aA (b := b3) (mR_ _ (.head _)) w hw2⟩) (fun p hp => y_bg))) rfl n_h ?_
 rintro _ _ ⟨_, ⟨rfl, va5, G5, hV5, rfl⟩, rfl⟩
 obtain ⟨Z175, hZ175⟩ : ∃ Z, Z = aI r (.int 2) gI Z145 := ⟨_, rfl⟩
 have hT175 : fC r (8423 + nn) Z175 := hZ175 ▸ (hT145.le (m := 14 + (8423 + nn)) o_m).pass (k := (.int 2)) (os := gI) (n := (8423 + nn)) (show 2 ≤ 4 by decide) aOk
 rw [← hZ175] at hV5
 refine eX (fun w hw => (hw.sub (.cons _ sR_)).as (by rw [← hZ175]; rfl)) (H' := (lb, blk [va5, .bool r] 123) :: ((G5 ++ [(mb, blk Z175.1 156)]) ++ [(rb, blk RL 5)])) ?_
 refine ZDH ?_
 refine RX (dX (z := [.pointer none]) (l := [.pointer (some ⟨mb, 26, none⟩)]) (ps := [(0, .pointer (some ⟨mb, 26, none⟩))]) rfl rfl rfl rfl y_f y_f) rfl ?_
 rintro _ _ ⟨b4, rfl, rfl⟩
 refine RX (bB (F := [(b4, _)]) (A := (lb, blk [va5, .bool r] 123) :: (G5 ++ [(mb, blk Z175.1 156)])) (G := [(rb, blk RL 5)]) (R := (fun v H => v = .tuple #[] ∧ ∃ va' Gl', LineB 5 r va' (aI r (.int 4) [26] Z175).2 Gl' ∧ H = (lb, blk [va', .bool r] 123) :: (Gl' ++ [(mb, blk (aI r (.int 4) [26] Z175).1 156)]))) K_ rfl (fun w hw hw2 => yS r lb mb 4 y_b y_b va5 G5 Z175 hV5 [26] (ae rfl) (hT175.ok.le (m := 4) o_m) 156 (hT175.fit (show ∀ o ∈ [26], tyM o = some (.int 4) by decide)) _ _ _ w hw (fun _ => ⟨b4, 0, rfl, aA (b := b4) (mR_ _ (.head _)) w hw2⟩) (fun p hp => y_bg))) rfl ?_
 rintro _ _ ⟨_, ⟨rfl, va6, G6, hV6, rfl⟩, rfl⟩
 obtain ⟨Z181, hZ181⟩ : ∃ Z, Z = aI r (.int 4) [26] Z175 := ⟨_, rfl⟩
 have hT181 : fC r (8419 + nn) Z181 := hZ181 ▸ (hT175.le (m := 4 + (8419 + nn)) o_m).pass (k := (.int 4)) (os := [26]) (n := (8419 + nn)) (show 4 ≤ 4 by decide) (show ∀ o ∈ [26], tyM o = some (.int 4) by decide)
 rw [← hZ181] at hV6
 refine bF (fun w hw => (hw.sub (.cons _ sR_)).as (by rw [← hZ181]; rfl)) (H' := (lb, blk [va6, .bool r] 123) :: ((G6 ++ [(mb, blk Z181.1 156)]) ++ [(rb, blk RL 5)])) ?_
 refine ZAl ?_
 refine ZEe ?_
 refine DX rfl (dX (z := [.pointer none]) (l := [.pointer (some ⟨mb, 22, none⟩), .pointer (some ⟨mb, 23, none⟩), .pointer (some ⟨mb, 24, none⟩), .pointer (some ⟨mb, 35, none⟩), .pointer (some ⟨mb, 36, none⟩), .pointer (some ⟨mb, 37, none⟩), .pointer (some ⟨mb, 41, none⟩), .pointer (some ⟨mb, 42, none⟩), .pointer (some ⟨mb, 43, none⟩)]) (ps := [(0, .pointer (some ⟨mb, 22, none⟩)), (1, .pointer (some ⟨mb, 23, none⟩)), (2, .pointer (some ⟨mb, 24, none⟩)), (3, .pointer (some ⟨mb, 35, none⟩)), (4, .pointer (some ⟨mb, 36, none⟩)), (5, .pointer (some ⟨mb, 37, none⟩)), (6, .pointer (some ⟨mb, 41, none⟩)), (7, .pointer (some ⟨mb, 42, none⟩)), (8, .pointer (some ⟨mb, 43, none⟩))]) rfl rfl rfl rfl y_f y_f) rfl n_h ?_
 rintro _ _ ⟨b5, rfl, rfl⟩
 refine DX rfl (bB (F := [(b5, _)]) (A := (lb, blk [va6, .bool r] 123) :: (G6 ++ [(mb, blk Z181.1 156)])) (G := [(rb, blk RL 5)]) (R := (fun v H => v = .tuple #[] ∧ ∃ va' Gl', LineB 5 r va' (aI r .byte gC Z181).2 Gl' ∧ H = (lb, blk [va', .bool r] 123) :: (Gl' ++ [(mb, blk (aI r .byte gC Z181).1 156)]))) K_ rfl (fun w hw hw2 => aAU r lb mb va6 G6 Z181 hV6 gC (ae rfl) (hT181.ok.le (m := 9) o_m) 156 (hT181.fit aMR) _ _ _ w hw (fun _ => ⟨b5, 0, rfl, aA (b := b5) (mR_ _ (.head _)) w hw2⟩) (fun p hp => y_bg))) rfl n_h ?_
 rintro _ _ ⟨_, ⟨rfl, va7, G7, hV7, rfl⟩, rfl⟩
 obtain ⟨Z211, hZ211⟩ : ∃ Z, Z = aI r .byte gC Z181 := ⟨_, rfl⟩
 have hT211 : fC r (8410 + nn) Z211 := hZ211 ▸ (hT181.le (m := 9 + (8410 + nn)) o_m).pass (k := .byte) (os := gC) (n := (8410 + nn)) trivial aMR
 rw [← hZ211] at hV7
 refine eX (fun w hw => (hw.sub (.cons _ sR_)).as (by rw [← hZ211]; rfl)) (H' := (lb, blk [va7, .bool r] 123) :: ((G7 ++ [(mb, blk Z211.1 156)]) ++ [(rb, blk RL 5)])) ?_
 refine ZDH ?_
 refine RW (v := (.slice (some ⟨mb, 29, none⟩) 5 5)) (eM 0 5 rfl rfl rfl rfl rfl rfl y_b y_b) rfl rfl (RX (eQ (A := (lb, blk [va7, .bool r] 123) :: (G7 ++ [(mb, blk Z211.1 156)])) (G := [(rb, blk RL 5)]) (R := (fun v H => v = .tuple #[] ∧ ∃ va' Gl', LineB 5 r va' (aI r .byte (bY 29 5) Z211).2 Gl' ∧ H = (lb, blk [va', .bool r] 123) :: (Gl' ++ [(mb, blk (aI r .byte (bY 29 5) Z211).1 156)]))) (((lb, blk [va7, .bool r] 123) :: (G7 ++ [(mb, blk Z211.1 156)])).map (·.1)) K_ rfl (fun _ hb => eR hb) (wL_ (uU r lb mb 29 5 y_b va7 G7 Z211 hV7 (hT211.ok.le (m := 5) o_m) 156 (hT211.fit aDz) _ _))) rfl ?_)
 rintro _ _ ⟨_, ⟨rfl, va8, G8, hV8, rfl⟩, rfl⟩
 obtain ⟨Z217, hZ217⟩ : ∃ Z, Z = aI r .byte (bY 29 5) Z211 := ⟨_, rfl⟩
 have hT217 : fC r (8405 + nn) Z217 := hZ217 ▸ (hT211.le (m := 5 * 1 + (8405 + nn)) o_m).pass (k := .byte) (os := bY 29 5) (n := (8405 + nn)) trivial aDz
 rw [← hZ217] at hV8
 refine bF (fun w hw => hw.as (by rw [← hZ217]; rfl)) (H' := (lb, blk [va8, .bool r] 123) :: ((G8 ++ [(mb, blk Z217.1 156)]) ++ [(rb, blk RL 5)])) ?_
 refine ZBb ?_
 refine RX (eQ (A := (lb, blk [va8, .bool r] 123) :: (G8 ++ [(mb, blk Z217.1 156)])) (G := [(rb, blk RL 5)]) (R := (fun v H => v = .tuple #[] ∧ ∃ va' Gl', LineB 5 r va' (oE r Z217).2 Gl' ∧ H = (lb, blk [va', .bool r] 123) :: (Gl' ++ [(mb, blk (oE r Z217).1 156)]))) (((lb, blk [va8, .bool r] 123) :: (G8 ++ [(mb, blk Z217.1 156)])).map (·.1)) K_ rfl (fun _ hb => eR hb) (wL_ (aIs r lb mb va8 G8 Z217 hV8 (hT217.le (m := 86) o_m) _))) rfl ?_
 rintro _ _ ⟨_, ⟨rfl, va9, G9, hV9, rfl⟩, rfl⟩
 obtain ⟨Z220, hZ220⟩ : ∃ Z, Z = oE r Z217 := ⟨_, rfl⟩
 have hT220 : fC r (8319 + nn) Z220 := hZ220 ▸ (hT217.le (m := 86 + (8319 + nn)) o_m).board
 rw [← hZ220] at hV9
 refine bF (fun w hw => hw.as (by rw [← hZ220]; rfl)) (H' := (lb, blk [va9, .bool r] 123) :: ((G9 ++ [(mb, blk Z220.1 156)]) ++ [(rb, blk RL 5)])) ?_
 refine ZDH ?_
 refine RW (v := (.slice (some ⟨mb, 135, none⟩) 8192 8192)) (eM 0 8192 rfl rfl rfl rfl rfl rfl y_b y_b) rfl rfl (RX (eQ (A := (lb, blk [va9, .bool r] 123) :: (G9 ++ [(mb, blk Z220.1 156)])) (G := [(rb, blk RL 5)]) (R := (fun v H => v = .tuple #[] ∧ ∃ va' Gl', LineB 5 r va' (aI r .byte (bY 135 8192) Z220).2 Gl' ∧ H = (lb, blk [va', .bool r] 123) :: (Gl' ++ [(mb, blk (aI r .byte (bY 135 8192) Z220).1 156)]))) (((lb, blk [va9, .bool r] 123) :: (G9 ++ [(mb, blk Z220.1 156)])).map (·.1)) K_ rfl (fun _ hb => eR hb) (wL_ (uU r lb mb 135 8192 y_b va9 G9 Z220 hV9 (hT220.ok.le (m := 8192) o_m) 156 (hT220.fit aBg) _ _))) rfl ?_)
 rintro _ _ ⟨_, ⟨rfl, va10, G10, hV10, rfl⟩, rfl⟩
 obtain ⟨Z226, hZ226⟩ : ∃ Z, Z = aI r .byte (bY 135 8192) Z220 := ⟨_, rfl⟩
 have hT226 : fC r (127 + nn) Z226 := hZ226 ▸ (hT220.le (m := 8192 * 1 + (127 + nn)) o_m).pass (k := .byte) (os := bY 135 8192) (n := (127 + nn)) trivial aBg
 rw [← hZ226] at hV10
 refine bF (fun w hw => hw.as (by rw [← hZ226]; rfl)) (H' := (lb, blk [va10, .bool r] 123) :: ((G10 ++ [(mb, blk Z226.1 156)]) ++ [(rb, blk RL 5)])) ?_
 refine ZDH ?_
 refine RW (v := (.slice (some ⟨mb, 8327, none⟩) 127 127)) (eM 0 127 rfl rfl rfl rfl rfl rfl y_b y_b) rfl rfl (RX (eQ (A := (lb, blk [va10, .bool r] 123) :: (G10 ++ [(mb, blk Z226.1 156)])) (G := [(rb, blk RL 5)]) (R := (fun v H => v = .tuple #[] ∧ ∃ va' Gl', LineB 5 r va' (aI r .byte (bY 8327 127) Z226).2 Gl' ∧ H = (lb, blk [va', .bool r] 123) :: (Gl' ++ [(mb, blk (aI r .byte (bY 8327 127) Z226).1 156)]))) (((lb, blk [va10, .bool r] 123) :: (G10 ++ [(mb, blk Z226.1 156)])).map (·.1)) K_ rfl (fun _ hb => eR hb) (wL_ (uU r lb mb 8327 127 y_b va10 G10 Z226 hV10 (hT226.ok.le (m := 127) o_m) 156 (hT226.fit aA9) _ _))) rfl ?_)
 rintro _ _ ⟨_, ⟨rfl, va11, G11, hV11, rfl⟩, rfl⟩
 obtain ⟨Z232, hZ232⟩ : ∃ Z, Z = aI r .byte (bY 8327 127) Z226 := ⟨_, rfl⟩
 have hT232 : fC r nn Z232 := hZ232 ▸ (hT226.le (m := 127 * 1 + nn) o_m).pass (k := .byte) (os := bY 8327 127) (n := nn) trivial aA9
 rw [← hZ232] at hV11
 refine bF (fun w hw => hw.as (by rw [← hZ232]; rfl)) (H' := (lb, blk [va11, .bool r] 123) :: ((G11 ++ [(mb, blk Z232.1 156)]) ++ [(rb, blk RL 5)])) ?_
 refine ZBL ?_
 have hr9 : Z232.1[134]? = some (.slice (Q_ rb) nn rc) := by
  rw [hZ232, hZ226, hZ220, hZ217, hZ211, hZ181, hZ175, hZ145, hZ139, hZ133, hZ91, hZ79]; exact (aLA r S y_b hT.ty hT.ok.byts).trans hrv
 refine ZBb ?_
 refine RZ (aE rfl rfl (aJ (v := .slice (Q_ rb) nn rc) (.tail _ (mL_ _ (mR_ _ (.head _)))) hr9)) rfl (bF (fun w hw => hw.perm (List.Perm.cons _ (aGj G11 _ _))) (H' := ((lb, blk [va11, .bool r] 123) :: (G11 ++ [(rb, blk RL 5)])) ++ [(mb, blk Z232.1 156)]) ?_)
 refine RX (eQ (A := (lb, blk [va11, .bool r] 123) :: (G11 ++ [(rb, blk RL 5)])) (G := [(mb, blk Z232.1 156)]) (R := fun v H => v = .tuple #[] ∧ ∃ va' Gl', LineB 5 r va' (aI r .byte (bY 0 nn) (RL, Z232.2)).2 Gl' ∧ H = (lb, blk [va', .bool r] 123) :: (Gl' ++ [(rb, blk (aI r .byte (bY 0 nn) (RL, Z232.2)).1 5)])) (((lb, blk [va11, .bool r] 123) :: (G11 ++ [(rb, blk RL 5)])).map (·.1)) K_ rfl (fun _ hb => eR hb) (wL_ (uU r lb rb 0 nn o_m va11 G11 (RL, Z232.2) hV11 ⟨hT232.ok.byts, hT232.ok.en, hT232.ok.sz⟩ 5 hR _ _))) rfl ?_
 rintro _ _ ⟨_, ⟨rfl, va12, G12, hV12, rfl⟩, rfl⟩
 refine bF (fun w hw => hw.perm (List.Perm.cons _ (aGj G12 _ _))) (H' := (lb, blk [va12, .bool r] 123) :: ((G12 ++ [(mb, blk Z232.1 156)]) ++ [(rb, blk (aI r .byte (bY 0 nn) (RL, Z232.2)).1 5)])) ?_
 refine ZBL ?_
 exact EN sR_ ⟨rfl, va12, G12, by unfold qH yP; rw [← hZ79, ← hZ91, ← hZ133, ← hZ139, ← hZ145, ← hZ175, ← hZ181, ← hZ211, ← hZ217, ← hZ220, ← hZ226, ← hZ232]; exact hV12, by unfold qH yP; rw [← hZ79, ← hZ91, ← hZ133, ← hZ139, ← hZ145, ← hZ175, ← hZ181, ← hZ211, ← hZ217, ← hZ220, ← hZ226, ← hZ232]⟩
def nG (b off c : Nat) (l : AB) (hc : l.length ≤ 1000000) (w : AI) (hB : Ns w .u8 (some ⟨b, off, none⟩) l) : aB prog 150 [.slice (some ⟨b, off, none⟩) l.length c] w [] (fun v H => ∃ b5 c5 sp, v = .slice (Q_ b5) l.length c5 ∧ l.length ≤ c5 ∧ H = [(b5, (blk (l.map U_ ++ sp) 5))]) := by
 refine dR_ func150 ?_
 refine ZCZ ?_
 refine ZBr ?_
 rcases dr l.length with hz | hz
 ·refine ZBL ?_
  refine RX (aAC rfl) rfl ?_
  rintro _ _ ⟨b5, rfl, rfl⟩
  refine ZBL ?_
  refine RZ (aEp rfl rfl hz rfl rfl (av _)) rfl (ZA1 ?_)
  exact EV rfl sR_ ⟨b5, 0, [], by rw [hz], y_y, by rw [cw hz]; rfl⟩
 refine ZBL ?_
 refine RX (aAC rfl) rfl ?_
 rintro _ _ ⟨b5, rfl, rfl⟩
 refine ZBL ?_
 obtain ⟨b0, o9, e9, hrow⟩ := hB.row (i := 0) hz
 cases e9
 refine RX (gD (A := []) (G := [(b5, blk [] 5)]) (R := []) (v := .slice (Q_ b5) 0 0) (n := 0) (xs := []) (m := l.length) (T := 5) (s := 1) (by_ := 1) (ys := l.map U_) rfl rfl rfl rfl (.row b5 0 0 [] [] rfl rfl y_b (av _)) (fun w hw => .row _ _ _ _ _ y_r (aN hrow y_r w hw)) (dZ _ _) o_m o_m) rfl ?_
 rintro v0 _ ⟨G0, hV0, _, rfl⟩
 obtain ⟨b1, c0, sp0, rfl, rfl, hc0, hle7, hm7⟩ := hV0.full o_m
 simp only [bi, ci, bg]
 refine ZA1 ?_
 exact EV rfl sR_ ⟨b1, c0, sp0, rfl, y_y, rfl⟩
def aMT (a a2 : AC) (c c2 : Nat) (la lb : AB) (ha : la.length ≤ 1000000) (hb : lb.length ≤ 1000000) (w : AI) (hA : Ns w .u8 a la) (hB : Ns w .u8 a2 lb) : aB prog 152 [.slice a la.length c, .slice a2 lb.length c2] w [] (V_ (.bool (decide (la = lb)))) := by
 refine dR_ func152 ?_
 refine ZEf ?_
 refine ZBE ?_
 refine ZBL ?_
 refine ZBE ?_
 refine ZAl ?_
 refine KC (fun q0 z0 => ?_) (fun q0 z0 => ?_)
 ·refine ZBb ?_
  exact E0 rfl ⟨rfl, (cA_ Value.bool (bw (by rintro rfl; omega)).symm)⟩
 refine ZBb ?_
 refine ZC1 ?_
 refine bD (σ := Nat) [4, 5, 13, 14, 15, 16, 17, 18, 19, 20, 21, 22, 23, 24, 25] (fun i => [(13, .int .i64 i)]) (fun _ => []) (fun i => i ≤ la.length ∧ ∀ j, j < i → la.getD j 0 = lb.getD j 0) (fun i => la.length - i) 0 ?_ ?_ ?_ ?_
 ·exact ⟨al _, fun j hj => y_y⟩
 ·exact .cons rfl .nil
 ·exact fun _ h => h
 rintro i y4 ⟨hi, hj⟩
 refine ZBb ?_
 refine KC (fun q1 z1 => ?_) (fun q1 z1 => ?_)
 ·refine ZBr ?_
  have hl9 : la.length = lb.length := by omega
  obtain ⟨ba, oa, rfl, hra⟩ := hA.row (i := i) o_m
  obtain ⟨bb, ob, rfl, hrb⟩ := hB.row (i := i) o_m
  refine ZBb ?_
  refine DR [4, 5, 6, 7] (pln [0, 2, 4, 6, 8, 10, 12, 14, 16]) ?_
  refine ZAl ?_
  refine DY rfl (aP i rfl rfl rfl rfl o_m) rfl (DL rfl rfl rfl (eB (hra _ _ (cX o_m)) y_r) rfl (ZAl ?_))
  refine DY rfl (aP i rfl rfl rfl rfl o_m) rfl (DL rfl rfl rfl (eB (hrb _ _ (cX o_m)) y_r) rfl (ZAl ?_))
  refine KC (fun q2 z2 => ?_) (fun q2 z2 => ?_)
  ·refine ZBb ?_
   exact E0 rfl ⟨rfl, (cA_ Value.bool (bw (by rintro rfl; simp at q2)).symm)⟩
  refine ZAl ?_
  refine ZAD ?_
  exact ⟨i + 1, ⟨y_y, fun j hj' => y_ee⟩, y_y, .cons rfl .nil, a_g, fun _ h => h⟩
 refine ZBn ?_
 exact E0 rfl ⟨rfl, (cA_ Value.bool (ah (jg o_m (fun j h8 h9 => by have := hj j o_m; simpa [Gd_, ak h8, ak h9] using this))).symm)⟩
def xU (A : Ad) (acc : AH) (m : Mm) (h : m.Wf) (hr : m.cpu.r.Ok) (hrl : m.ram.length ≤ 200000) (ms : AE) (w : AI) (hst : St w ms [(A.mb, blk (cMm A acc m) 156), (A.rb, blk (m.ram.map U_ ++ A.rs) 5)] w) (hu : Row w A.ub 0 (cU m.u)) (hub : A.ub ∉ ms) : aB prog 22 [P_ A.mb] w ms (fun v H => ∃ b c sp, v = .slice (Q_ b) (eK m).length c ∧ (eK m).length ≤ c ∧ H = (b, blk ((eK m).map U_ ++ sp) 5) :: [(A.mb, blk (cMm A acc m) 156), (A.rb, blk (m.ram.map U_ ++ A.rs) 5)]) := by
 refine dO_ func22 hst ?_
 refine ZCZ ?_
 refine ZBb ?_
 refine RS ?_
 refine RX (cM (l := [.slice none 0 0, .bool false]) rfl rfl) rfl (ZAq fun b0 => ?_)
 refine ZBr ?_
 have hml := aBM h
 have hbl : (mJ m ++ m.ram).length = 8482 + m.ram.length := by rw [La_, hml]
 refine ZAl ?_
 refine RX (aR (F := []) (A := (b0, blk [.slice none 0 0, .bool false] 123) :: ((([] : aC) ++ [(A.mb, blk (cMm A acc m) 156)]) ++ [(A.rb, blk (m.ram.map U_ ++ A.rs) 5)])) (R := fun v H => v = .tuple #[] ∧ ∃ va' Gl', Vec 5 1 va' (mJ m ++ m.ram).length ((mJ m ++ m.ram).map U_) Gl' ∧ H = (b0, blk [va', .bool false] 123) :: ((Gl' ++ [(A.mb, blk (cMm A acc m) 156)]) ++ [(A.rb, blk (m.ram.map U_ ++ A.rs) 5)])) K_ rfl (fun w hw => (aBt false b0 A.mb A.rb m.ram.length A.rc hrl (.slice none 0 0) [] (cMm A acc m, []) .nil ⟨aEt h hr, ⟨fun x hx => (by cases hx), fun hx => (by cases hx), (by show 0 + _ ≤ _; omega)⟩⟩ (m.ram.map U_ ++ A.rs) (aHZ h A.rs) (get_mid h.ln (j := 15) rfl) _ w (St.lentV (G := []) hw)).mono fun v H ⟨e1, va', Gl', e2, e3⟩ => ⟨e1, va', Gl', (by rw [aDf, aH7 h, aOu h] at e2; exact e2), (by rw [aDf, aH7 h] at e3; exact e3)⟩)) rfl ?_
 rintro _ _ ⟨_, ⟨rfl, va0, G0, hV0, rfl⟩, rfl⟩
 obtain ⟨a8, c0, rfl⟩ := hV0.slice
 refine bF (H' := (b0, blk [(.slice a8 (mJ m ++ m.ram).length c0), .bool false] 123) :: ((G0 ++ [(A.mb, blk (cMm A acc m) 156)]) ++ [(A.rb, blk (m.ram.map U_ ++ A.rs) 5)])) (fun _ h => h) ?_
 refine ZAl ?_
 refine DR [4, 5, 6, 7, 8] (pln [0, 2, 4, 6, 8, 10, 12, 14, 17, 19, 20]) ?_
 refine ZA1 ?_
 refine DL rfl rfl rfl (cJ (v := (.slice a8 (mJ m ++ m.ram).length c0)) m_m rfl) rfl (ZA1 ?_)
 refine DL rfl rfl rfl (cJ (v := P_ A.ub) (.tail _ (mL_ _ (mR_ _ (.head _)))) (get_mid (m := m) h.ln (j := 14) rfl)) rfl (DX rfl (bI K_ rfl (fun w hw => aMk A.ub m.u h.u.wf w (aN hu hub w hw))) rfl (by intro _ _ _ hK; obtain ⟨G19, _, rfl⟩ := hK; exact fun x hx => mR_ _ hx) ?_)
 rintro v0 _ ⟨G1, hV1, rfl⟩
 have hul := yM h.u.wf
 obtain ⟨b1, cx1, sp0, rfl, rfl, hc0, hle19, hm19⟩ := hV1.full o_m
 refine eX (fun w hw => hw.as (by simp only [As_, cr, ci])) (H' := [(b1, blk ((eH m.u).map U_ ++ sp0) 5), (b0, blk [(.slice a8 (mJ m ++ m.ram).length c0), .bool false] 123)] ++ (G0 ++ [(A.mb, blk (cMm A acc m) 156), (A.rb, blk (m.ram.map U_ ++ A.rs) 5)])) ?_
 refine DX rfl (gD (A := [(b1, _), (b0, _)]) (G := G0) (R := [(A.mb, blk (cMm A acc m) 156), (A.rb, blk (m.ram.map U_ ++ A.rs) 5)]) (v := (.slice a8 (mJ m ++ m.ram).length c0)) (n := (mJ m ++ m.ram).length) (xs := (mJ m ++ m.ram).map U_) (m := (eH m.u).length) (T := 5) (s := 1) (by_ := 1) (ys := (eH m.u).map U_) rfl rfl rfl rfl hV0 (fun w hw => .row _ _ _ _ _ y_r (Row.left (aA (b := b1) (.head _) w hw))) (dZ _ _) o_m o_m) rfl n_h ?_
 rintro v1 _ ⟨G2, hV2, _, rfl⟩
 obtain ⟨b2, c2, sp1, rfl, rfl, hc1, hle20, hm20⟩ := hV2.full o_m
 refine ZA1 ?_
 exact EV rfl (.cons_cons _ (.cons _ (.cons _ sR_))) ⟨b2, c2, sp1, cA_ (fun z => Value.slice (Q_ b2) z c2) (by unfold eK; simp only [La_, As_, dt]), (by unfold eK; simp only [La_] at hle20 ⊢; omega), (by unfold eK; simp only [be, As_]; rfl)⟩
def aIr (A : Ad) (acc : AH) (m : Mm) (h : m.Wf) (hrl : m.ram.length ≤ 200000) (hon : eD [acc, A.plan, A.tab] = true) (w : AI) (hm : Row w A.mb 0 (cMm A acc m)) (hu : Row w A.ub 0 (cU m.u)) (hr : Row w A.rb 0 (m.ram.map U_)) : aB prog 149 [P_ A.mb] w [] (fun v H => ∃ b3 b12 bc cc sp, v = P_ b3 ∧ m.ram.length ≤ cc ∧ H = [(b12, blk (cU (gU fX (eH m.u))) 247), (bc, blk (m.ram.map U_ ++ sp) 5), (b3, blk (cMm ({ A with mb := b3, ub := b12, rb := bc, rc := cc, rs := sp } : Ad) (.slice none 0 0) m) 156)]) := by
 refine dR_ func149 ?_
 refine ZEf ?_
 refine RZ (aK rfl rfl (by rw [cMm_len h.ln]; rfl) (aN hm y_r)) rfl (RX (cG (l := aBo) y_f) rfl ?_)
 rintro _ _ ⟨b3, rfl, rfl⟩
 refine RZ (aD (l' := cMm A acc m) 0 rfl rfl rfl (by rw [cMm_len h.ln]; rfl) (aGX hon) rfl (by rw [cMm_len h.ln, aEC]; exact ae rfl) (oQ (by rw [cMm_len h.ln, aEC]))) rfl (ZAA ?_)
 refine ZBn ?_
 refine ZEX ?_
 refine RX (bI K_ rfl (fun w hw => nG A.rb 0 A.rc m.ram o_m w (Ns.of (aN hr y_r w hw)))) rfl ?_
 rintro _ _ ⟨_, ⟨bc, cc, sp, rfl, hcc, rfl⟩, rfl⟩
 refine ZAA ?_
 refine RX (bI K_ rfl (wQ_ new_fn)) rfl ?_
 rintro _ _ ⟨_, ⟨b12, rfl, rfl⟩, rfl⟩
 refine ZAA ?_
 refine ZBL ?_
 refine RZ (aD (l' := cMm { A with rb := bc, rc := cc, rs := sp } acc m) 2 rfl rfl rfl rfl rfl rfl y_w (aOY h.ln bc cc sp)) rfl (ZAA ?_)
 refine ZBL ?_
 refine RZ (aD (l' := cMm { A with rb := bc, rc := cc, rs := sp, ub := b12 } acc m) 2 rfl rfl rfl rfl rfl rfl y_w (aD1 h.ln b12)) rfl (ZAA ?_)
 refine ZBL ?_
 refine RZ (aD (l' := cMm { A with rb := bc, rc := cc, rs := sp, ub := b12 } (.slice none 0 0) m) 2 rfl rfl rfl rfl rfl rfl y_w (aBV h.ln _)) rfl (ZB3 ?_)
 refine DR [2, 3, 4, 5, 6] (pln [0, 2, 4, 6, 8, 10, 13, 15]) ?_
 refine ZBL ?_
 refine DL rfl rfl rfl (cJ (v := P_ b12) m_m (get_mid (A := { A with rb := bc, rc := cc, rs := sp, ub := b12 }) (m := m) h.ln (j := 14) rfl)) rfl (ZA1 ?_)
 refine DL rfl rfl rfl (eB (hm _ _ (get_mid h.ln (j := 14) rfl)) y_r) rfl (DX rfl (bI K_ rfl (fun w hw => aMk A.ub m.u h.u.wf w (aN hu y_r w hw))) rfl (by intro _ _ _ hK; obtain ⟨G22, _, rfl⟩ := hK; exact fun x hx => mR_ _ hx) ?_)
 rintro v0 _ ⟨G0, hV0, rfl⟩
 have hul := yM h.u.wf
 obtain ⟨b0, c0, sp0, rfl, rfl, hc0, hle22, hm22⟩ := hV0.full o_m
 refine ZAA ?_
 refine DX rfl (bB (F := [(b0, _)]) (A := [(b12, blk (cU fX) 247)]) (G := [(bc, blk (m.ram.map U_ ++ sp) 5), (b3, blk (cMm ({ A with rb := bc, rc := cc, rs := sp, ub := b12 } : Ad) (.slice none 0 0) m) 156)]) (R := fun v H => v = .int .i64 (jW (eH m.u)) ∧ H = [(b12, blk (cU (gU fX (eH m.u))) 247)]) K_ rfl (fun w hw hw2 => aFP b12 fX zE w hw (Q_ b0) c0 (eH m.u) (enc_byts h.u.wf) hle22 (Ns.of (Row.left (aA (b := b0) (mR_ _ (.head _)) w hw2))) (fun p hp => by cases hp; exact fun e => St.apartT hw2 (show _ ∈ [_] from List.mem_singleton.2 e)))) rfl n_h (ZAj ?_)
 refine ZAA ?_
 refine ZBn ?_
 exact EV rfl (.cons _ sR_) ⟨b3, b12, bc, cc, sp, rfl, hcc, rfl⟩
set_option maxHeartbeats 4000000 in
def aIZ (A : Ad) (aa : AC) (an ac : Nat) (m : Mm) (h : m.Wf) (hr : m.cpu.r.Ok) (hrl : m.ram.length ≤ 200000) (hon : eD [(.slice aa an ac), A.plan, A.tab] = true) (a : AC) (c : Nat) (l : AB) (hby : aT l) (hlm : l.length ≤ 900000) (hlc : l.length ≤ c) (ms : AE) (w : AI) (hst : St w ms [(A.ub, blk (cU m.u) 247), (A.mb, blk (cMm A (.slice aa an ac) m) 156), (A.rb, blk (m.ram.map U_ ++ A.rs) 5)] w) (hB : Ns w .u8 a l) (hpn : ∀ p, a = some p → p.block ∉ ms) : aB prog 111 [P_ A.mb, .slice a l.length c] w ms (fun v H => v = .int .i64 (mO m l) ∧ ∃ A' aa' an' ac', Ad.Kept A A' ∧ H = [(A.ub, blk (cU (oC m l).u) 247), (A.mb, blk (cMm A' (.slice aa' an' ac') (oC m l)) 156), (A'.rb, blk ((oC m l).ram.map U_ ++ A'.rs) 5)]) := by
 have hea := lJ h
 have hon0 : eD [.slice none 0 0, A.plan, A.tab] = true := hon
 refine dO_ func111 hst ?_
 refine ZCZ ?_
 refine ZBn ?_
 refine RX (aR (F := [(A.ub, blk (cU m.u) 247)]) (A := [(A.mb, blk (cMm A (.slice aa an ac) m) 156), (A.rb, blk (m.ram.map U_ ++ A.rs) 5)]) (R := fun v H => ∃ b c sp, v = .slice (Q_ b) (eK m).length c ∧ (eK m).length ≤ c ∧ H = (b, blk ((eK m).map U_ ++ sp) 5) :: [(A.mb, blk (cMm A (.slice aa an ac) m) 156), (A.rb, blk (m.ram.map U_ ++ A.rs) 5)]) K_ rfl (fun w hw => xU A (.slice aa an ac) m h hr hrl _ w (St.lentV hw) (aA (b := A.ub) (mR_ _ (.head _)) w hw) (St.apartT (G := []) hw))) rfl ?_
 rintro _ _ ⟨_, ⟨b0, c0, sp0, rfl, hle12, rfl⟩, rfl⟩
 refine bF (H' := [(A.ub, blk (cU m.u) 247), (A.mb, blk (cMm A (.slice aa an ac) m) 156), (A.rb, blk (m.ram.map U_ ++ A.rs) 5)]) (fun w hw => hw.sub (.cons_cons _ (.cons _ sR_))) ?_
 refine ZBE ?_
 refine ZBn ?_
 refine ZC1 ?_
 refine KC (fun q0 z0 => ?_) (fun q0 z0 => ?_)
 ·refine ZBb ?_
  have e9 := aIA (m := m) (l := l) o_m
  exact EV rfl sR_ ⟨cA_ _ e9, A, aa, an, ac, ⟨rfl, rfl, rfl, rfl, rfl, rfl, rfl⟩, by rw [aBW e9 y_b]⟩
 refine ZAl ?_
 have hln : l.length = (eK m).length := by omega
 refine ZAl ?_
 refine RX (bI K_ rfl (fun w hw => aIr A (.slice aa an ac) m h hrl hon w (aA (b := A.mb) (.tail _ (.head _)) w hw) (aA (b := A.ub) (.head _) w hw) (Row.left (aA (b := A.rb) (.tail _ (.tail _ (.head _))) w hw)))) rfl ?_
 rintro _ _ ⟨_, ⟨b1, b0, bc, cc, sp, rfl, hcc, rfl⟩, rfl⟩
 refine ZAA ?_
 refine ZBb ?_
 obtain ⟨ba, oa, rfl, hrowa⟩ := hB.row (i := 0) o_m
 refine RX (bI K_ rfl (fun w hw => nG ba oa c l o_m w (hB.later hpn hw))) rfl ?_
 rintro _ _ ⟨_, ⟨b2, cx1, sp1, rfl, hc0, rfl⟩, rfl⟩
 refine ZAA ?_
 refine RY (eL (l := [(.slice (Q_ b2) l.length cx1), .bool true]) rfl rfl rfl rfl) rfl (RX (cM (l := [(.slice (Q_ b2) l.length cx1), .bool true]) rfl rfl) rfl ?_)
 rintro _ _ ⟨b3, rfl, rfl⟩
 refine ZA1 ?_
 refine eW (L' := [(b0, blk (cU (gU fX (eH m.u))) 247), (A.ub, blk (cU m.u) 247), (A.mb, blk (cMm A (.slice aa an ac) m) 156), (A.rb, blk (m.ram.map U_ ++ A.rs) 5)] ++ ((b3, blk [(.slice (Q_ b2) l.length cx1), .bool true] 123) :: (([(b2, blk (l.map U_ ++ sp1) 5)] ++ [(b1, blk (cMm ({ A with mb := b1, ub := b0, rb := bc, rc := cc, rs := sp } : Ad) (.slice none 0 0) m) 156)]) ++ [(bc, blk (m.ram.map U_ ++ sp) 5)]))) (fun w hw => St.perm_ix 8 [2, 5, 6, 7, 0, 1, 4, 3] y_b rfl rfl hw) ?_
 refine ZA1 ?_
 refine RX (aR (F := [(b0, blk (cU (gU fX (eH m.u))) 247), (A.ub, blk (cU m.u) 247), (A.mb, blk (cMm A (.slice aa an ac) m) 156), (A.rb, blk (m.ram.map U_ ++ A.rs) 5)]) (A := (b3, blk [(.slice (Q_ b2) l.length cx1), .bool true] 123) :: (([(b2, blk (l.map U_ ++ sp1) 5)] ++ [(b1, blk (cMm ({ A with mb := b1, ub := b0, rb := bc, rc := cc, rs := sp } : Ad) (.slice none 0 0) m) 156)]) ++ [(bc, blk (m.ram.map U_ ++ sp) 5)])) (R := fun v H => v = .tuple #[] ∧ ∃ va' Gl', LineB 5 true va' (l.drop (8482 + m.ram.length)) Gl' ∧ H = (b3, blk [va', .bool true] 123) :: ((Gl' ++ [(b1, blk (cMm ({ A with mb := b1, ub := b0, rb := bc, rc := cc, rs := sp } : Ad) (.slice none 0 0) (dL m l)) 156)]) ++ [(bc, blk ((dL m l).ram.map U_ ++ sp) 5)])) K_ rfl (fun w hw => (aBt true b3 b1 bc m.ram.length cc hrl (.slice (Q_ b2) l.length cx1) [(b2, blk (l.map U_ ++ sp1) 5)] (cMm ({ A with mb := b1, ub := b0, rb := bc, rc := cc, rs := sp } : Ad) (.slice none 0 0) m, l) ⟨b2, 0, cx1, _, rfl, hc0, rfl, fun j v hv => by rw [bi]; exact eI hv⟩ ⟨aEt h hr, ⟨hby, fun _ => (show 8482 + m.ram.length ≤ l.length by omega), (show l.length + (8482 + m.ram.length) ≤ 1000000 by omega)⟩⟩ (m.ram.map U_ ++ sp) (aHZ h sp) (get_mid (A := ({ A with mb := b1, ub := b0, rb := bc, rc := cc, rs := sp } : Ad)) h.ln (j := 15) rfl) _ w (St.lentV hw)).mono fun v H ⟨e1, va', Gl', e2, e3⟩ => ⟨e1, va', Gl', (by rw [aEO l hby h.ln o_m, aKa sp o_m] at e2; exact e2), (by rw [aEO l hby h.ln o_m, aKa sp o_m, aNZ h hln] at e3; exact e3)⟩)) rfl ?_
 rintro _ _ ⟨_, ⟨rfl, va0, G0, hV0, rfl⟩, rfl⟩
 obtain ⟨cb, off, c2, all, rfl, hle23, rfl, hall⟩ := hV0.read
 refine bF (H' := [(b0, blk (cU (gU fX (eH m.u))) 247), (A.ub, blk (cU m.u) 247), (A.mb, blk (cMm A (.slice aa an ac) m) 156), (A.rb, blk (m.ram.map U_ ++ A.rs) 5), (b3, blk [(.slice (some ⟨cb, off, none⟩) (l.drop (8482 + m.ram.length)).length c2), .bool true] 123), (cb, blk all 5), (b1, blk (cMm ({ A with mb := b1, ub := b0, rb := bc, rc := cc, rs := sp } : Ad) (.slice none 0 0) (dL m l)) 156), (bc, blk ((dL m l).ram.map U_ ++ sp) 5)]) (fun _ h => h) ?_
 refine ZA1 ?_
 refine DR [4, 5, 6, 7] (pln [0, 2, 4, 6, 8, 10, 12, 14, 17, 18, 20, 22, 26, 25, 29, 30, 32]) ?_
 refine ZA1 ?_
 have hln9 := (aH9 h hby (show 8482 ≤ l.length by omega)).ln
 have hln1 : MLn (dL m l) := ⟨hln9.bd, hln9.work, hln9.high⟩
 refine DL rfl rfl rfl (cJ (v := P_ b0) m_m (get_mid (A := ({ A with mb := b1, ub := b0, rb := bc, rc := cc, rs := sp } : Ad)) (m := (dL m l)) (acc := (.slice none 0 0)) hln1 (j := 14) rfl)) rfl (ZA1 ?_)
 refine DL rfl rfl rfl (cJ (v := (.slice (some ⟨cb, off, none⟩) (l.drop (8482 + m.ram.length)).length c2)) m_m rfl) rfl (DX rfl (bB (F := []) (A := [(b0, blk (cU (gU fX (eH m.u))) 247)]) (G := [(A.ub, blk (cU m.u) 247), (A.mb, blk (cMm A (.slice aa an ac) m) 156), (A.rb, blk (m.ram.map U_ ++ A.rs) 5), (b3, blk [(.slice (some ⟨cb, off, none⟩) (l.drop (8482 + m.ram.length)).length c2), .bool true] 123), (cb, blk all 5), (b1, blk (cMm ({ A with mb := b1, ub := b0, rb := bc, rc := cc, rs := sp } : Ad) (.slice none 0 0) (dL m l)) 156), (bc, blk ((dL m l).ram.map U_ ++ sp) 5)]) (R := fun v H => v = .int .i64 (jW (l.drop (8482 + m.ram.length))) ∧ H = [(b0, blk (cU (gU (gU fX (eH m.u)) (l.drop (8482 + m.ram.length)))) 247)]) K_ rfl (fun w hw hw2 => aFP b0 (gU fX (eH m.u)) (aMQ zE (enc_byts h.u.wf)) w hw (some ⟨cb, off, none⟩) c2 (l.drop (8482 + m.ram.length)) (iS hby _) hle23 (Ns.of (aFe (aA (b := cb) (mR_ _ (.tail _ (.tail _ (.tail _ (.tail _ (.head _)))))) w hw2) hall)) (fun p hp => by cases hp; exact fun e => St.apartT (A := [(b0, blk (cU (gU fX (eH m.u))) 247)]) (x := (cb, blk all 5)) (G := _) (St.perm_ix 8 [0, 5, 1, 2, 3, 4, 6, 7] y_b rfl rfl hw2) (show _ ∈ [_] from List.mem_singleton.2 e)))) rfl n_h (ZAj ?_))
 refine eX (H' := [(b0, blk (cU (gU (gU fX (eH m.u)) (l.drop (8482 + m.ram.length)))) 247), (A.ub, blk (cU m.u) 247), (A.mb, blk (cMm A (.slice aa an ac) m) 156), (A.rb, blk (m.ram.map U_ ++ A.rs) 5), (b3, blk [(.slice (some ⟨cb, off, none⟩) (l.drop (8482 + m.ram.length)).length c2), .bool true] 123), (cb, blk all 5), (b1, blk (cMm ({ A with mb := b1, ub := b0, rb := bc, rc := cc, rs := sp } : Ad) (.slice none 0 0) (dL m l)) 156), (bc, blk ((dL m l).ram.map U_ ++ sp) 5)]) (fun _ h => h) ?_
 refine ZBL ?_
 refine KE (fun q1 z1 => ?_) (fun q1 z1 => ?_)
 ·refine ZAl ?_
  refine aDJ rfl rfl rfl ?_
  refine aDJ rfl rfl rfl ?_
  refine A_9 ?_
  have e9 := aIR (m := m) (l := l) hln y_bc
  exact EV rfl (.cons _ (.cons_cons _ (.cons_cons _ (.cons_cons _ (List.nil_sublist _))))) ⟨cA_ _ e9, A, aa, an, ac, ⟨rfl, rfl, rfl, rfl, rfl, rfl, rfl⟩, by rw [aBW e9 y_b]⟩
 refine ZAl ?_
 have hd0 : jW (l.drop (8482 + m.ram.length)) = 0 := by simpa using q1
 have e39 : gU (gU fX (eH m.u)) (l.drop (8482 + m.ram.length)) = (dL m l).u := aDM hd0.symm
 rw [e39]
 have hw1 : (dL m l).Wf := aOl h hby hln hd0
 have hr1 : (dL m l).cpu.r.Ok := aIh hby
 have hl1 : (dL m l).ram.length = m.ram.length := wF h hln
 refine DX rfl (aR (F := [(b0, blk (cU (dL m l).u) 247), (A.ub, blk (cU m.u) 247), (A.mb, blk (cMm A (.slice aa an ac) m) 156), (A.rb, blk (m.ram.map U_ ++ A.rs) 5), (b3, blk [(.slice (some ⟨cb, off, none⟩) (l.drop (8482 + m.ram.length)).length c2), .bool true] 123), (cb, blk all 5)]) (A := [(b1, blk (cMm ({ A with mb := b1, ub := b0, rb := bc, rc := cc, rs := sp } : Ad) (.slice none 0 0) (dL m l)) 156), (bc, blk ((dL m l).ram.map U_ ++ sp) 5)]) (R := fun v H => ∃ b9 c9 s9, v = .slice (Q_ b9) (eK (dL m l)).length c9 ∧ (eK (dL m l)).length ≤ c9 ∧ H = (b9, blk ((eK (dL m l)).map U_ ++ s9) 5) :: [(b1, blk (cMm ({ A with mb := b1, ub := b0, rb := bc, rc := cc, rs := sp } : Ad) (.slice none 0 0) (dL m l)) 156), (bc, blk ((dL m l).ram.map U_ ++ sp) 5)]) K_ rfl (fun w hw => xU ({ A with mb := b1, ub := b0, rb := bc, rc := cc, rs := sp } : Ad) (.slice none 0 0) (dL m l) hw1 hr1 o_m _ w (St.lentV hw) (aA (b := b0) (mR_ _ (.head _)) w hw) (St.apartT (A := [(b1, blk (cMm ({ A with mb := b1, ub := b0, rb := bc, rc := cc, rs := sp } : Ad) (.slice none 0 0) (dL m l)) 156), (bc, blk ((dL m l).ram.map U_ ++ sp) 5)]) (x := (b0, blk (cU (dL m l).u) 247)) hw))) rfl n_h ?_
 rintro _ _ ⟨_, ⟨b4, c3, sp2, rfl, hle39, rfl⟩, rfl⟩
 refine ZAA ?_
 refine DZ rfl (bJ K_ rfl (fun w hw => aMT _ _ c3 c (eK (dL m l)) l (by rw [lJ hw1]; omega) o_m w (Ns.of (Row.left (aA (b := b4) m_m w hw))) (hB.later hpn hw))) rfl n_h (ZA1 ?_)
 refine KC (fun q2 z2 => ?_) (fun q2 z2 => ?_)
 ·refine ZBb ?_
  have e9 := aG9 (m := m) (l := l) hln (by simpa using q2)
  exact EV rfl (.cons _ (.cons_cons _ (.cons_cons _ (.cons_cons _ (List.nil_sublist _))))) ⟨cA_ _ e9, A, aa, an, ac, ⟨rfl, rfl, rfl, rfl, rfl, rfl, rfl⟩, by rw [aBW e9 y_b]⟩
 refine ZBn ?_
 refine RZ (aE rfl rfl (aJ (v := P_ A.ub) m_m (get_mid (A := A) (m := m) (acc := (.slice aa an ac)) h.ln (j := 14) rfl))) rfl (ZEf ?_)
 refine RZ (aE rfl rfl (aJ (v := (.slice (some ⟨cb, off, none⟩) (l.drop (8482 + m.ram.length)).length c2)) m_m rfl)) rfl (bF (H' := [(A.ub, blk (cU m.u) 247)] ++ ([(cb, blk all 5), (b0, blk (cU (dL m l).u) 247), (A.mb, blk (cMm A (.slice aa an ac) m) 156), (b3, blk [(.slice (some ⟨cb, off, none⟩) (l.drop (8482 + m.ram.length)).length c2), .bool true] 123), (b4, blk ((eK (dL m l)).map U_ ++ sp2) 5), (b1, blk (cMm ({ A with mb := b1, ub := b0, rb := bc, rc := cc, rs := sp } : Ad) (.slice none 0 0) (dL m l)) 156), (A.rb, blk (m.ram.map U_ ++ A.rs) 5), (bc, blk ((dL m l).ram.map U_ ++ sp) 5)])) (fun w hw => St.perm_ix 9 [1, 5, 0, 2, 4, 6, 7, 3, 8] y_b rfl rfl hw) ?_)
 refine RX (bB (F := []) (A := [(A.ub, blk (cU m.u) 247)]) (G := [(cb, blk all 5), (b0, blk (cU (dL m l).u) 247), (A.mb, blk (cMm A (.slice aa an ac) m) 156), (b3, blk [(.slice (some ⟨cb, off, none⟩) (l.drop (8482 + m.ram.length)).length c2), .bool true] 123), (b4, _), (b1, blk (cMm ({ A with mb := b1, ub := b0, rb := bc, rc := cc, rs := sp } : Ad) (.slice none 0 0) (dL m l)) 156), (A.rb, blk (m.ram.map U_ ++ A.rs) 5), (bc, blk ((dL m l).ram.map U_ ++ sp) 5)]) (R := fun v H => v = .int .i64 (jW (l.drop (8482 + m.ram.length))) ∧ H = [(A.ub, blk (cU (gU m.u (l.drop (8482 + m.ram.length)))) 247)]) K_ rfl (fun w hw hw2 => aFP A.ub m.u h.u.wf w hw (some ⟨cb, off, none⟩) c2 (l.drop (8482 + m.ram.length)) (iS hby _) hle23 (Ns.of (aFe (aA (b := cb) (mR_ _ (.head _)) w hw2) hall)) (fun p hp => by cases hp; exact fun e => St.apartT (A := [(A.ub, blk (cU m.u) 247)]) (x := (cb, blk all 5)) (G := _) hw2 (show _ ∈ [_] from List.mem_singleton.2 e)))) rfl (ZAj ?_)
 have e53 : gU m.u (l.drop (8482 + m.ram.length)) = (dL m l).u := aDM hd0.symm
 rw [e53]
 refine ZAA ?_
 refine ZBn ?_
 refine RZ (aK rfl rfl (by rw [cMm_len hw1.ln]; rfl) (aA (b := b1) (l := cMm ({ A with mb := b1, ub := b0, rb := bc, rc := cc, rs := sp } : Ad) (.slice none 0 0) (dL m l)) m_m)) rfl (ZBL ?_)
 refine RZ (aD (l' := cMm ({ A with mb := b1, ub := b0, rb := bc, rc := cc, rs := sp } : Ad) (.slice none 0 0) (dL m l)) 3 rfl rfl rfl (by rw [cMm_len hw1.ln]; rfl) (aGX (A := ({ A with mb := b1, ub := b0, rb := bc, rc := cc, rs := sp } : Ad)) hon0) rfl (by rw [cMm_len h.ln, cMm_len hw1.ln]; exact ae rfl) (oQ (by rw [cMm_len h.ln, cMm_len hw1.ln]))) rfl (ZAA ?_)
 refine ZDH ?_
 refine RZ (aD (l' := cMm ({ A with rb := bc, rc := cc, rs := sp } : Ad) (.slice none 0 0) (dL m l)) 3 rfl rfl rfl rfl rfl rfl (by rw [cMm_len hw1.ln]; exact ae rfl) (aD1 hw1.ln A.ub)) rfl (ZAA ?_)
 refine ZBn ?_
 have e9 := aCK (m := m) (l := l) hln hd0 (by simpa using q2)
 exact EV rfl (.cons_cons _ (.cons _ (.cons _ (.cons_cons _ (.cons _ (.cons _ (.cons _ (.cons _ sR_)))))))) ⟨cA_ _ e9, ({ A with rb := bc, rc := cc, rs := sp } : Ad), none, 0, 0, ⟨rfl, rfl, rfl, rfl, rfl, rfl, rfl⟩, by rw [aEP e9]; rfl⟩
set_option maxHeartbeats 2000000 in
def aFL (a : AC) (c : Nat) (l : AB) (hl : l.length ≤ 100000000) (hb : aT l) (hlc : l.length ≤ c) (w : AI) (hB : Ns w .u8 a l) : aB prog 87 [.slice a l.length c] w [] (V_ (.tuple #[.agg (cHd (if errH l = 0 then hdH l else zHd)).toArray, .int .i64 (errH l)])) := by
 refine dR_ func87 ?_
 refine ZAl ?_
 refine RX (cG (l := cHd zHd) rfl) rfl (ZAq fun b0 => ?_)
 refine ZBr ?_
 refine RY (lZ (l := [.int .i64 0, .int .i64 2048, .int .i64 8192, .int .i64 32768, .int .i64 131072, .int .i64 65536]) (z := [.int .i64 0, .int .i64 0, .int .i64 0, .int .i64 0, .int .i64 0, .int .i64 0]) (ps := [(0, .int .i64 0), (1, .int .i64 2048), (2, .int .i64 8192), (3, .int .i64 32768), (4, .int .i64 131072), (5, .int .i64 65536)]) rfl rfl rfl y_f) rfl (RX (cG (l := (List.replicate 6 (0 : Int)).map (Value.int .i64)) rfl) rfl ?_)
 rintro _ _ ⟨b1, rfl, rfl⟩
 refine RZ (xS_ (l' := sizesH.map (Value.int .i64)) 0) rfl (ZAA ?_)
 refine ZBb ?_
 refine ZBE ?_
 refine ZAl ?_
 refine KC (fun q0 z0 => ?_) (fun q0 z0 => ?_)
 ·refine ZAl ?_
  refine RS ?_
  refine RZ (xS_ (l' := cHd zHd) 1) rfl (ZAA ?_)
  refine ZA1 ?_
  have e9 : errH l = 2 := by unfold errH; rw [if_pos o_m]
  exact aG (fun w hw => aY rfl rfl rfl (aA (b := b0) (l := cHd zHd) m_m w hw) rfl) ⟨rfl, y_eB⟩
 refine ZBL ?_
 refine jC (σ := Nat) [5, 6, 15, 16, 17, 18, 19, 20, 21, 22] (fun b => [(5, P_ b), (6, .bool (sortH (l.getD 327 0)).isSome)]) (fun b => [(b, blk (cSrt ((sortH (l.getD 327 0)).getD (0, false, false))) 275), (b1, blk (sizesH.map (Value.int .i64)) 273), (b0, blk (cHd zHd) 151)]) (fun _ => True) ?_ ?_
 ·obtain ⟨ba, oa, rfl, hra⟩ := hB.row (i := 0) o_m
  have hb7 := hb.get 327
  have hb8 := hb.get 328
  have hb9 := hb.get 329
  have hb4 := hb.get 334
  have hb5 := hb.get 335
  have hcut : cut1 oa 308 c = oa + 308 := jK o_m
  have hl15 : ((l.drop 308).take 15).length = 15 := by rw [Lt_, Ld_]; omega
  refine DR [0, 8] (.step true 1 (.step true 2 (.step true 3 (.fork 0 (.fork 4 (.step true 5 (.step true 6 (.step true 7 (.step false 8 (.step false 9 (.step true 10 .done)))))) (.fork 8 (.step false 4 (.step true 5 (.step true 6 (.step true 7 (.step false 9 (.step true 10 .done)))))) .stop)) (.fork 8 (.step false 0 (.step false 4 (.step true 5 (.step true 6 (.step true 7 (.step false 9 (.step true 10 .done))))))) .stop))))) ?_
  refine ZBL ?_
  refine DY rfl (aP (n := l.length) 327 rfl rfl rfl rfl o_m) rfl (DL rfl rfl rfl (eB (hra _ _ (cX (j := 327) o_m)) y_r) rfl (lY ?_ ?_))
  ·refine DX rfl (bI K_ rfl (wQ_ aGO)) rfl y_d4 ?_
   rintro _ _ ⟨_, ⟨b2, rfl, rfl⟩, rfl⟩
   refine ZBt ?_
   refine lY ?_ ?_
   ·refine ZET ?_
    refine ZBy ?_
    refine ZAl ?_
    refine DX rfl (cG (l := cSrt (0, false, false)) rfl) rfl y_n ?_
    rintro _ _ ⟨b3, rfl, rfl⟩
    refine DZ rfl y_3 rfl n_h (ZB3 ?_)
    exact ⟨b3, trivial, .cons rfl (.cons rfl .nil), a_g, fun _ h => y_bU⟩
   refine lY ?_ ?_
   ·refine DX rfl (cG (l := cSrt (0, false, false)) rfl) rfl y_n ?_
    rintro _ _ ⟨b3, rfl, rfl⟩
    refine ZET ?_
    refine ZBy ?_
    refine ZAl ?_
    refine DZ rfl y_3 rfl n_h (ZB3 ?_)
    exact ⟨b3, trivial, .cons rfl (.cons rfl .nil), a_g, fun _ h => y_bU⟩
   exact wS
  refine lY ?_ ?_
  ·refine DX rfl (cG (l := cSrt (0, false, false)) rfl) rfl y_n ?_
   rintro _ _ ⟨b2, rfl, rfl⟩
   refine DX rfl (bI K_ rfl (wQ_ aGO)) rfl y_d4 ?_
   rintro _ _ ⟨_, ⟨b3, rfl, rfl⟩, rfl⟩
   refine ZBt ?_
   refine DZ rfl (zW (k := .u8) (l := sortE) (c := 19) (b := b3) (z := .agg (cSrt (0, false, false)).toArray) rfl rfl rfl rfl m_m) rfl n_h ?_
   rw [sort_ask]
   refine ZBy ?_
   refine ZAl ?_
   refine DZ rfl y_3 rfl n_h (ZB3 ?_)
   exact ⟨b2, trivial, .cons rfl (.cons rfl .nil), a_g, fun _ h => y_bU⟩
  exact wS
 rintro b2 y4 _
 obtain ⟨ba, oa, rfl, hra⟩ := hB.row (i := 0) o_m
 have hb7 := hb.get 327
 have hb8 := hb.get 328
 have hb9 := hb.get 329
 have hb4 := hb.get 334
 have hb5 := hb.get 335
 have hcut : cut1 oa 308 c = oa + 308 := jK o_m
 have hl15 : ((l.drop 308).take 15).length = 15 := by rw [Lt_, Ld_]; omega
 refine ZBL ?_
 refine DR [3, 4, 5, 6, 7] (pln [0, 2, 4, 6, 8, 10, 12, 14, 16]) ?_
 refine ZBL ?_
 refine DY rfl (aP (n := l.length) 328 rfl rfl rfl rfl o_m) rfl (DL rfl rfl rfl (eB (hra _ _ (cX (j := 328) o_m)) y_r) rfl (ZBL ?_))
 refine DY rfl (aP (n := l.length) 329 rfl rfl rfl rfl o_m) rfl (DL rfl rfl rfl (eB (hra _ _ (cX (j := 329) o_m)) y_r) rfl (DW (v := (.int .i64 (l.getD 329 0))) rfl (dN rfl rfl rfl) rfl (lU o_m o_m) (ZBn ?_)))
 refine DR [3, 4] (pln [0, 2, 4, 6, 9, 10, 12]) ?_
 refine ZBL ?_
 refine DY rfl (aP (n := l.length) 333 rfl rfl rfl rfl o_m) rfl (DL rfl rfl rfl (eB (hra _ _ (cX (j := 333) o_m)) y_r) rfl (ZBL ?_))
 refine DZ rfl (bJ K_ rfl (fun w hw => aPf (some ⟨ba, oa, none⟩) c l hl hb w (hB.later0 hw) o_m)) rfl y_d ?_
 rw [if_neg (show ¬ l.length < 336 by omega)]
 refine ZA1 ?_
 refine KC (fun q1 z1 => ?_) (fun q1 z1 => ?_)
 ·refine ZAl ?_
  refine ZDu ?_
  refine ZAA ?_
  refine ZA1 ?_
  have e9 : errH l = 4 := by unfold errH; rw [if_neg o_m, if_pos y_bc]
  exact aG (fun w hw => aY rfl rfl rfl (aA (b := b0) (l := cHd zHd) m_m w hw) rfl) ⟨rfl, y_eB⟩
 refine ZBn ?_
 refine KC (fun q2 z2 => ?_) (fun q2 z2 => ?_)
 ·refine ZAl ?_
  refine ZDu ?_
  refine ZAA ?_
  refine ZA1 ?_
  have e9 : errH l = 5 := by unfold errH; rw [if_neg o_m, if_neg y_bc]; rw [show sortH (l.getD 327 0) = none from by cases hh : sortH (l.getD 327 0) with | none => rfl | some s => (rw [hh] at q2; cases q2)]
  exact aG (fun w hw => aY rfl rfl rfl (aA (b := b0) (l := cHd zHd) m_m w hw) rfl) ⟨rfl, y_eB⟩
 refine ZBL ?_
 obtain ⟨s9, hs0⟩ : ∃ s, sortH (l.getD 327 0) = some s := by
  cases hh : sortH (l.getD 327 0) with
  | none => rw [hh] at q2; cases q2
  | some s => exact ⟨s, rfl⟩
 refine ZA1 ?_
 refine KL (fun q3 z3 => ?_) (fun q3 z3 => ?_)
 ·refine ZEf ?_
  refine ZDu ?_
  refine ZAA ?_
  refine ZA1 ?_
  exact ZCi
 refine ZBb ?_
 refine KC (fun q4 z4 => ?_) (fun q4 z4 => ?_)
 ·refine ZAl ?_
  refine ZDu ?_
  refine ZAA ?_
  refine ZA1 ?_
  exact ZCi
 refine ZA1 ?_
 refine ZBE ?_
 refine ZBL ?_
 refine RW (v := (.int .i64 (32768 * 2 ^ (l.getD 328 0).toNat))) (dO rfl rfl o_m) rfl (cA_ _ (aGx (.inr rfl) ⟨y_y, y_y⟩)) (ZA1 ?_)
 refine KC (fun q5 z5 => ?_) (fun q5 z5 => ?_)
 ·refine ZAl ?_
  refine ZDu ?_
  refine ZAA ?_
  refine ZA1 ?_
  have e9 : errH l = 6 := by unfold errH; rw [if_neg o_m, if_neg y_bc]; rw [hs0]; dsimp only; rw [if_neg o_m, if_pos (by simpa using q5)]
  exact aG (fun w hw => aY rfl rfl rfl (aA (b := b0) (l := cHd zHd) m_m w hw) rfl) ⟨rfl, y_eB⟩
 refine ZBL ?_
 refine jC (σ := Nat) [9, 57, 58, 59, 60, 61, 62, 63, 64, 65, 66, 67, 68, 69, 70, 71] (fun b => [(9, P_ b)]) (fun b => [(b, blk (cHd ⟨(nameH ((l.drop 308).take 15)), ((sortH (l.getD 327 0)).getD (0, false, false)).1, ((sortH (l.getD 327 0)).getD (0, false, false)).2.1, ((sortH (l.getD 327 0)).getD (0, false, false)).2.2, 2 * 2 ^ (l.getD 328 0).toNat, (sizesH.getD (l.getD 329 0).toNat 0), false⟩) 151), (b0, blk (cHd zHd) 151)]) (fun _ => True) ?_ ?_
 ·refine DR [2, 5, 6, 7, 8, 9, 10, 11, 12, 13, 15] (.step true 0 (.step true 1 (.step true 3 (.step true 4 (.step true 5 (.step true 6 (.step true 7 (.step true 8 (.step true 9 (.step true 10 (.step true 11 (.step true 12 (.step true 13 (.fork 2 (.step true 14 (.step false 15 (.step false 16 .done))) (.fork 15 (.step false 2 (.step true 14 (.step false 16 .done))) .stop))))))))))))))) ?_
  refine ZBL ?_
  refine DW (v := (.slice (some ⟨ba, oa + 308, none⟩) ((l.drop 308).take 15).length (c - 308))) rfl (dT 308 323 rfl rfl rfl rfl rfl rfl y_b o_m) rfl (by rw [hcut, hl15]) (ZDH ?_)
  refine DW (v := (.int .i64 (2 * 2 ^ (l.getD 328 0).toNat))) rfl (dO rfl rfl o_m) rfl (cA_ _ (aGx (.inl rfl) ⟨y_y, y_y⟩)) (ZBL ?_)
  refine DY rfl (aQ (l.getD 329 0).toNat rfl rfl rfl o_m o_m) rfl (DL rfl rfl rfl (cJ (v := .int .i64 (sizesH.getD (l.getD 329 0).toNat 0)) m_m (by rw [bi]; exact cX (by show _ < 6; omega))) rfl (lY ?_ ?_))
  ·refine ZCS ?_
   refine DX rfl (cG (l := cHd zHd) rfl) rfl y_n ?_
   rintro _ _ ⟨b3, rfl, rfl⟩
   refine ZB8 ?_
   exact ZEl
  refine lY ?_ ?_
  ·refine DX rfl (cG (l := cHd zHd) rfl) rfl y_n ?_
   rintro _ _ ⟨b3, rfl, rfl⟩
   refine ZCS ?_
   refine ZB8 ?_
   exact ZEl
  exact wS
 rintro b3 y14 _
 refine ZDH ?_
 refine KC (fun q6 z6 => ?_) (fun q6 z6 => ?_)
 ·refine ZAl ?_
  refine RZ (xS_ (l' := cHd ⟨(nameH ((l.drop 308).take 15)), ((sortH (l.getD 327 0)).getD (0, false, false)).1, ((sortH (l.getD 327 0)).getD (0, false, false)).2.1, ((sortH (l.getD 327 0)).getD (0, false, false)).2.2, 2 * 2 ^ (l.getD 328 0).toNat, 512, false⟩) 0) rfl (ZB3 ?_)
  refine eW (L' := [(b3, blk (cHd ⟨(nameH ((l.drop 308).take 15)), ((sortH (l.getD 327 0)).getD (0, false, false)).1, ((sortH (l.getD 327 0)).getD (0, false, false)).2.1, ((sortH (l.getD 327 0)).getD (0, false, false)).2.2, 2 * 2 ^ (l.getD 328 0).toNat, zP ((sortH (l.getD 327 0)).getD (0, false, false)).1 (l.getD 329 0), false⟩) 151), (b0, blk (cHd zHd) 151)]) (fun _ h => h.as (by rw [show zP ((sortH (l.getD 327 0)).getD (0, false, false)).1 (l.getD 329 0) = 512 from if_pos (by simpa using q6)])) ?_
  refine DR [5, 6, 7, 8, 10, 11] (pln [0, 2, 4, 6, 8, 10, 12, 14, 16, 18, 20, 23, 24, 26, 29]) ?_
  refine ZBL ?_
  refine DY rfl (aP (n := l.length) 334 rfl rfl rfl rfl o_m) rfl (ZEm ?_)
  refine ZBL ?_
  refine DY rfl (aP (n := l.length) 335 rfl rfl rfl rfl o_m) rfl (ZB5 ?_)
  refine DW (v := (.int .u16 (l.getD 334 0 * 256 + l.getD 335 0))) rfl (cT rfl rfl) rfl (cA_ _ (sJ hb4 hb5)) (ZBL ?_)
  refine ZER ?_
  refine ZAl ?_
  refine DZ rfl (xS_ (l' := cHd (hdH l)) 0) rfl n_h (ZAA ?_)
  refine ZA1 ?_
  refine RZ (aK rfl rfl rfl (aA (b := b3) (l := cHd (hdH l)) m_m)) rfl (RZ (xS_ (l' := cHd (hdH l)) 1) rfl (ZAA ?_))
  refine ZA1 ?_
  exact ZCH
 refine ZAl ?_
 refine eW (L' := [(b3, blk (cHd ⟨(nameH ((l.drop 308).take 15)), ((sortH (l.getD 327 0)).getD (0, false, false)).1, ((sortH (l.getD 327 0)).getD (0, false, false)).2.1, ((sortH (l.getD 327 0)).getD (0, false, false)).2.2, 2 * 2 ^ (l.getD 328 0).toNat, zP ((sortH (l.getD 327 0)).getD (0, false, false)).1 (l.getD 329 0), false⟩) 151), (b0, blk (cHd zHd) 151)]) (fun _ h => h.as (by rw [← aLB (k := ((sortH (l.getD 327 0)).getD (0, false, false)).1) (by simpa using q6) ⟨hb9.1, y_y⟩])) ?_
 refine DR [5, 6, 7, 8, 10, 11] (pln [0, 2, 4, 6, 8, 10, 12, 14, 16, 18, 20, 23, 24, 26, 29]) ?_
 refine ZBL ?_
 refine DY rfl (aP (n := l.length) 334 rfl rfl rfl rfl o_m) rfl (ZEm ?_)
 refine ZBL ?_
 refine DY rfl (aP (n := l.length) 335 rfl rfl rfl rfl o_m) rfl (ZB5 ?_)
 refine DW (v := (.int .u16 (l.getD 334 0 * 256 + l.getD 335 0))) rfl (cT rfl rfl) rfl (cA_ _ (sJ hb4 hb5)) (ZBL ?_)
 refine ZER ?_
 refine ZAl ?_
 refine DZ rfl (xS_ (l' := cHd (hdH l)) 0) rfl n_h (ZAA ?_)
 refine ZA1 ?_
 refine RZ (aK rfl rfl rfl (aA (b := b3) (l := cHd (hdH l)) m_m)) rfl (RZ (xS_ (l' := cHd (hdH l)) 1) rfl (ZAA ?_))
 refine ZA1 ?_
 exact ZCH
set_option maxHeartbeats 2000000 in
def aH4 (ob oc : Nat) (rom : AB) (hl : rom.length ≤ 100000000) (hb : aT rom) (hc : rom.length ≤ oc) (pa : AC) (pl pc : Nat) (w : AI) (hr : Row w ob 0 (rom.map U_)) : aB prog 43 [.slice (Q_ ob) rom.length oc, .slice pa pl pc] w [] (fun v H => (errH rom ≠ 0 ∧ v = .tuple #[.pointer none, .int .i64 (errH rom)] ∧ H = []) ∨ (errH rom = 0 ∧ ∃ mb ub rb tb oT, iW tb (.int .u32 0) [(tb, oT)] ∧ v = .tuple #[P_ mb, .int .i64 0] ∧ H = [((mb, ub, rb, tb, oT).1, blk (cMm (nQ (mb, ub, rb, tb, oT).1 (mb, ub, rb, tb, oT).2.1 (mb, ub, rb, tb, oT).2.2.1 (mb, ub, rb, tb, oT).2.2.2.1 ob oc [] (.slice pa pl pc) (hdH rom).ram.toNat) (.slice none 0 0) (jP rom)) 156), ((mb, ub, rb, tb, oT).2.2.1, blk ((jP rom).ram.map U_) 5), ((mb, ub, rb, tb, oT).2.1, blk (cU fX) 247), ((mb, ub, rb, tb, oT).2.2.2.1, (mb, ub, rb, tb, oT).2.2.2.2)])) := by
 have hram := aDK rom
 refine dR_ func43 ?_
 refine ZBn ?_
 by_cases he9 : errH rom = 0
 ·refine ZAl ?_
  refine RLv K_ (fun w hw => aFL (Q_ ob) oc rom hl hb hc w (Ns.of (aN hr y_r w hw))) ?_
  rw [if_pos he9]
  refine ZA1 ?_
  refine RX (cG (l := cHd zHd) rfl) rfl (ZAq fun b0 => ?_)
  refine RZ (xS_ (l' := cHd (hdH rom)) 0) rfl (ZAA ?_)
  refine ZBn ?_
  refine cY false rfl rfl rfl (by simpa using he9) ?_
  refine ZA1 ?_
  refine jC (σ := Nat × Nat × Nat × Nat × Obj) [8, 17, 18, 19, 20, 21, 22, 23, 24, 25, 26] (fun q => [(8, P_ q.1)]) (fun q => [(q.1, blk (cMm (nQ q.1 q.2.1 q.2.2.1 q.2.2.2.1 ob oc [] (.slice pa pl pc) (hdH rom).ram.toNat) (.slice none 0 0) (newM0 rom)) 156), (q.2.2.1, blk ((newM0 rom).ram.map U_) 5), (q.2.1, blk (cU fX) 247), (q.2.2.2.1, q.2.2.2.2)] ++ [(b0, blk (cHd (hdH rom)) 151)]) (fun q => iW q.2.2.2.1 (.int .u32 0) [(q.2.2.2.1, q.2.2.2.2)]) ?_ ?_
  ·refine DR [3, 4, 5, 6, 7] (.step true 0 (.step true 1 (.step true 2 (.step true 5 (.step true 6 (.fork 3 (.fork 4 (.step false 7 (.step true 8 (.step false 9 (.step true 10 .done)))) (.fork 7 (.step false 4 (.step true 8 (.step false 9 (.step true 10 .done)))) .stop)) (.fork 7 (.step false 3 (.step false 4 (.step true 8 (.step false 9 (.step true 10 .done))))) .stop))))))) ?_
   refine ZAl ?_
   refine cL rfl rfl rfl rfl (dV (b := b0) (l := cHd (hdH rom)) m_m) rfl rfl ?_
   refine ZBL ?_
   refine DL rfl rfl rfl (cJ (v := .int .i64 (hdH rom).ram) m_m rfl) rfl (lY ?_ ?_)
   ·refine DX rfl (bI K_ rfl (wQ_ aDo)) rfl y_d4 ?_
    rintro _ _ ⟨_, ⟨b1, rfl, hT0⟩, rfl⟩
    obtain ⟨o20, rfl⟩ := hT0.one
    refine ZBt ?_
    refine lY ?_ ?_
    ·refine DX rfl (bI K_ rfl (wQ_ new_fn)) rfl y_d4 ?_
     rintro _ _ ⟨_, ⟨b2, rfl, rfl⟩, rfl⟩
     refine ZBt ?_
     refine ZCj ?_
     rintro _ _ ⟨b3, rfl, rfl⟩
     refine DW (v := (.agg (cMm (nQ 0 b2 b3 b1 ob oc [] (.slice pa pl pc) (hdH rom).ram.toNat) (.slice none 0 0) (newM0 rom)).toArray)) rfl (eL (l := aJo (nQ 0 b2 b3 b1 ob oc [] (.slice pa pl pc) (hdH rom).ram.toNat) (.slice none 0 0) (newM0 rom) (hdH rom).ram.toNat) (z := aBo) (ps := [(1, .slice (Q_ ob) rom.length oc), (2, .slice pa pl pc), (3, .agg (cHd (hdH rom)).toArray), (4, P_ b1), (5, P_ b2), (6, .slice (Q_ b3) (hdH rom).ram.toNat (hdH rom).ram.toNat)]) rfl y_f rfl y_f) rfl y_cS (DX rfl (cM (l := cMm (nQ 0 b2 b3 b1 ob oc [] (.slice pa pl pc) (hdH rom).ram.toNat) (.slice none 0 0) (newM0 rom)) rfl rfl) rfl n_h ?_)
     rintro _ _ ⟨b4, rfl, rfl⟩
     refine ZAl ?_
     exact ⟨(b4, b2, b3, b1, o20), hT0, .cons rfl .nil, a_g, fun _ h => St.perm_ix 5 [0, 1, 2, 3, 4] y_b rfl y_cG h⟩
    refine lY ?_ ?_
    ·refine ZCj ?_
     rintro _ _ ⟨b2, rfl, rfl⟩
     refine DX rfl (bI K_ rfl (wQ_ new_fn)) rfl y_d4 ?_
     rintro _ _ ⟨_, ⟨b3, rfl, rfl⟩, rfl⟩
     refine ZBt ?_
     refine DW (v := (.agg (cMm (nQ 0 b3 b2 b1 ob oc [] (.slice pa pl pc) (hdH rom).ram.toNat) (.slice none 0 0) (newM0 rom)).toArray)) rfl (eL (l := aJo (nQ 0 b3 b2 b1 ob oc [] (.slice pa pl pc) (hdH rom).ram.toNat) (.slice none 0 0) (newM0 rom) (hdH rom).ram.toNat) (z := aBo) (ps := [(1, .slice (Q_ ob) rom.length oc), (2, .slice pa pl pc), (3, .agg (cHd (hdH rom)).toArray), (4, P_ b1), (5, P_ b3), (6, .slice (Q_ b2) (hdH rom).ram.toNat (hdH rom).ram.toNat)]) rfl y_f rfl y_f) rfl y_cS (DX rfl (cM (l := cMm (nQ 0 b3 b2 b1 ob oc [] (.slice pa pl pc) (hdH rom).ram.toNat) (.slice none 0 0) (newM0 rom)) rfl rfl) rfl n_h ?_)
     rintro _ _ ⟨b4, rfl, rfl⟩
     refine ZAl ?_
     exact ⟨(b4, b3, b2, b1, o20), hT0, .cons rfl .nil, a_g, fun _ h => St.perm_ix 5 [0, 2, 1, 3, 4] y_b rfl y_cG h⟩
    exact wS
   refine lY ?_ ?_
   ·refine ZCj ?_
    rintro _ _ ⟨b1, rfl, rfl⟩
    refine DX rfl (bI K_ rfl (wQ_ aDo)) rfl y_d4 ?_
    rintro _ _ ⟨_, ⟨b2, rfl, hT0⟩, rfl⟩
    obtain ⟨o20, rfl⟩ := hT0.one
    refine ZBt ?_
    refine DX rfl (bI K_ rfl (wQ_ new_fn)) rfl y_d4 ?_
    rintro _ _ ⟨_, ⟨b3, rfl, rfl⟩, rfl⟩
    refine ZBt ?_
    refine DW (v := (.agg (cMm (nQ 0 b3 b1 b2 ob oc [] (.slice pa pl pc) (hdH rom).ram.toNat) (.slice none 0 0) (newM0 rom)).toArray)) rfl (eL (l := aJo (nQ 0 b3 b1 b2 ob oc [] (.slice pa pl pc) (hdH rom).ram.toNat) (.slice none 0 0) (newM0 rom) (hdH rom).ram.toNat) (z := aBo) (ps := [(1, .slice (Q_ ob) rom.length oc), (2, .slice pa pl pc), (3, .agg (cHd (hdH rom)).toArray), (4, P_ b2), (5, P_ b3), (6, .slice (Q_ b1) (hdH rom).ram.toNat (hdH rom).ram.toNat)]) rfl y_f rfl y_f) rfl y_cS (DX rfl (cM (l := cMm (nQ 0 b3 b1 b2 ob oc [] (.slice pa pl pc) (hdH rom).ram.toNat) (.slice none 0 0) (newM0 rom)) rfl rfl) rfl n_h ?_)
    rintro _ _ ⟨b4, rfl, rfl⟩
    refine ZAl ?_
    exact ⟨(b4, b3, b1, b2, o20), hT0, .cons rfl .nil, a_g, fun _ h => St.perm_ix 5 [0, 3, 1, 2, 4] y_b rfl y_cG h⟩
   exact wS
  rintro ⟨mb, ub, rb, tb, oT⟩ y4 hT
  dsimp only at hT ⊢
  refine ZA1 ?_
  refine RZ (aK rfl rfl rfl (aA (b := b0) (l := cHd (hdH rom)) m_m)) rfl (RLv K_ (wQ_ (aP4 _ _ _ _ _ _ _)) ?_)
  refine ZA1 ?_
  refine RZ (aD (l' := cMm (nQ (mb, ub, rb, tb, oT).1 (mb, ub, rb, tb, oT).2.1 (mb, ub, rb, tb, oT).2.2.1 (mb, ub, rb, tb, oT).2.2.2.1 ob oc [] (.slice pa pl pc) (hdH rom).ram.toNat) (.slice none 0 0) (aJj rom)) 0 rfl rfl rfl rfl rfl rfl (by rw [cMm_len (xQ rom)]; exact ae rfl) (aId _)) rfl (ZAA ?_)
  refine ZBr ?_
  refine RS ?_
  refine ZBr ?_
  refine RZ (aD (l' := cMm (nQ (mb, ub, rb, tb, oT).1 (mb, ub, rb, tb, oT).2.1 (mb, ub, rb, tb, oT).2.2.1 (mb, ub, rb, tb, oT).2.2.2.1 ob oc [] (.slice pa pl pc) (hdH rom).ram.toNat) (.slice none 0 0) (jP rom)) 0 rfl rfl rfl rfl rfl rfl (by rw [cMm_len (m := aJj rom) ⟨(xQ rom).bd, (xQ rom).work, (xQ rom).high⟩]; exact ae rfl) ((mU (ae rfl)).trans rfl)) rfl (ZAA ?_)
  refine ZEf ?_
  exact fM (fun _ _ => bX rfl rfl) (.cons_cons _ (.cons_cons _ (.cons_cons _ (.cons_cons _ (List.nil_sublist _))))) (.inr ⟨he9, mb, ub, rb, tb, oT, hT, rfl, rfl⟩)
 refine ZAl ?_
 refine RLv K_ (fun w hw => aFL (Q_ ob) oc rom hl hb hc w (Ns.of (aN hr y_r w hw))) ?_
 rw [if_neg he9]
 refine ZA1 ?_
 refine RX (cG (l := cHd zHd) rfl) rfl (ZAq fun b0 => ?_)
 refine RZ (xS_ (l' := cHd zHd) 0) rfl (ZAA ?_)
 refine ZBn ?_
 refine cY true rfl rfl rfl (by simpa using he9) ?_
 refine A_9 ?_
 exact fM (fun _ _ => bX rfl rfl) (List.nil_sublist _) (.inl ⟨he9, rfl, rfl⟩)
structure MA where
 A : Ad
 tb : Nat
 oT : Obj
 va : AH
def pM (q : MA) : AH := P_ q.A.mb
def hM (q : MA) (m : Mm) : aC := [(q.tb, q.oT), (q.A.mb, blk (cMm q.A q.va m) 156), (q.A.ub, blk (cU m.u) 247), (q.A.rb, blk (m.ram.map U_ ++ q.A.rs) 5), (q.A.ob, blk (m.rom.map U_ ++ q.A.sp) 5)]
structure MA.Ok (q : MA) (pa : AC) (n pc : Nat) : Prop where
 apart : q.A.rb ∉ [q.A.mb, q.A.ub] ∧ q.A.ob ∉ [q.A.mb, q.A.ub]
 tab : iW q.tb (.int .u32 0) [(q.tb, q.oT)]
 at_ : q.A.tab = P_ q.tb
 plan : q.A.plan = .slice pa n pc
 va : ∃ aa an ac, q.va = .slice aa an ac
structure yD (T : Nat) (plan : List Chg) (pa : AC) (pc : Nat) (G : aC) : Prop where
 vec : Vec T 2 (.slice pa plan.length pc) plan.length (aF nR plan) G
 ok : ∀ c ∈ plan, kN c
 few : plan.length ≤ 1000000
section
variable {w0 w : AI} {ms : AE} {H : aC} {q : MA} {m : Mm}
def aQb (hw : St w0 ms H w) (hs : ∀ x ∈ hM q m, x ∈ H) : Row w q.A.mb 0 (cMm q.A q.va m) ∧ Row w q.A.ub 0 (cU m.u) ∧ Row w q.A.rb 0 (m.ram.map U_) ∧ Row w q.A.ob 0 (m.rom.map U_) :=
 ⟨aA (hs _ (.tail _ (.head _))) w hw, aA (hs _ (.tail _ (.tail _ (.head _)))) w hw, (aA (hs _ (.tail _ (.tail _ (.tail _ (.head _))))) w hw).left, (aA (hs _ (.tail _ (.tail _ (.tail _ (.tail _ (.head _)))))) w hw).left⟩
def yD.els {T : Nat} {plan : List Chg} {pa : AC} {pc : Nat} {G : aC} (h : yD T plan pa pc G) (hw : St w0 ms H w) (hs : ∀ x ∈ G, x ∈ H) : Els w nR pa plan := by
 obtain ⟨a, cp, e, _, _, h1⟩ := h.vec.gives cChg_len y_b
 cases e
 exact h1.els hw hs
def yD.off {T : Nat} {plan : List Chg} {pa : AC} {pc : Nat} {G R : aC} (h : yD T plan pa pc G) (hw : St w0 ms (R ++ G) w) : ∀ p, pa = some p → p.block ∉ R.map (·.1) := by
 rintro p rfl hp
 rcases h.vec.alt with ⟨h1, _⟩ | ⟨b, cap, sp, h1, rfl, _⟩
 ·cases h1
 cases h1
 have hn := hw.nodup
 rw [be, dd] at hn
 exact hn.2.2 _ hp _ (.head _) rfl
end
def aUx {R : Mm} {D : Prop} (q : MA) (pa : AC) (pc : Nat) (plan : List Chg) (hq : q.Ok pa plan.length pc) (hpo : ∀ c ∈ plan, kN c) (hpl : plan.length ≤ 1000000) (m : Mm) (h : kW R D m) (ms : AE) (w : AI) (hst : St w ms (hM q m) w) (hE : Els w nR pa plan) (hpn : ∀ p, pa = some p → p.block ∉ ms) :
  aB prog 72 [pM q] w ms (fun v H => ∃ oT va G, (MA.mk q.A q.tb oT va).Ok pa plan.length pc ∧ v = .tuple #[.agg (cDd (cE plan m).1).toArray, va] ∧ Vec 298 3 va (cE plan m).2.acc.length (aF cAc (cE plan m).2.acc) G ∧ H = G ++ hM ⟨q.A, q.tb, oT, va⟩ (cE plan m).2) := by
 refine aB.turn (aG2 q.A hq.apart q.tb (.int .u32 0) q.oT hq.tab hq.at_ plan pa pc hq.plan hpo hpl m h.wf h.rg q.va ms w hst hE hpn) ?_
 rintro v H w' ⟨va, oT, G, rfl, hV, hT, rfl⟩ hw
 obtain ⟨aa, ac, rfl⟩ := hV.slice
 exact ⟨_, hw.perm (show List.Perm ([(q.tb, oT)] ++ (G ++ _)) (G ++ ([(q.tb, oT)] ++ _)) by rw [← As_, ← As_]; exact di _ aw), oT, _, G, ⟨hq.apart, hT, hq.at_, hq.plan, _, _, _, rfl⟩, rfl, hV, rfl⟩
def aDv (q : MA) (m : Mm) (h : m.Wf) (hr : m.cpu.r.Ok) (hrl : m.ram.length ≤ 200000) (ms : AE) (w : AI) (hst : St w ms (hM q m) w) :
  aB prog 22 [pM q] w ms (fun v H => ∃ b c sp, v = .slice (Q_ b) (eK m).length c ∧ (eK m).length ≤ c ∧ H = (b, blk ((eK m).map U_ ++ sp) 5) :: hM q m) := by
 have hw1 : St w ms ([(q.A.mb, blk (cMm q.A q.va m) 156), (q.A.rb, blk (m.ram.map U_ ++ q.A.rs) 5)] ++ [(q.tb, q.oT), (q.A.ub, blk (cU m.u) 247), (q.A.ob, blk (m.rom.map U_ ++ q.A.sp) 5)]) w := St.perm_ix 5 [1, 3, 0, 2, 4] y_b rfl rfl hst
 have hn := hw1.nodup
 rw [be, dd] at hn
 refine aB.frame hw1 (ms2 := [q.A.mb, q.A.rb]) (fun b hb => eR (G := [(q.A.mb, blk (cMm q.A q.va m) 156), (q.A.rb, _)]) hb) (xU q.A q.va m h hr hrl [q.A.mb, q.A.rb] w hw1.lentV (aQb hst (fun _ hx => hx)).2.1 (fun hb => hn.2.2 _ hb _ (.tail _ (.head _)) rfl)) ?_
 rintro v H w' ⟨b, c, sp, rfl, hc, rfl⟩ hw
 exact ⟨_, St.perm_ix 6 [0, 3, 1, 4, 2, 5] y_b rfl rfl hw, b, c, sp, rfl, hc, rfl⟩
def aQC {pa : AC} {n pc : Nat} (q : MA) (hq : q.Ok pa n pc) (m : Mm) (h : m.Wf) (hr : m.cpu.r.Ok) (hrl : m.ram.length ≤ 200000) (a : AC) (c : Nat) (l : AB) (hby : aT l) (hlm : l.length ≤ 900000) (hlc : l.length ≤ c) (ms : AE) (w : AI) (hst : St w ms (hM q m) w) (hB : Ns w .u8 a l) (hpn : ∀ p, a = some p → p.block ∉ (hM q m).map (·.1)) :
  aB prog 111 [pM q, .slice a l.length c] w ms (fun v H => v = .int .i64 (mO m l) ∧ ∃ A' va, (MA.mk A' q.tb q.oT va).Ok pa n pc ∧ A'.mb = q.A.mb ∧ H = hM ⟨A', q.tb, q.oT, va⟩ (oC m l)) := by
 obtain ⟨A, tb, oT, va⟩ := q
 obtain ⟨aa, an, ac, rfl⟩ := hq.va
 have hw1 : St w ms ([(A.ub, blk (cU m.u) 247), (A.mb, blk (cMm A (.slice aa an ac) m) 156), (A.rb, blk (m.ram.map U_ ++ A.rs) 5)] ++ [(tb, oT), (A.ob, blk (m.rom.map U_ ++ A.sp) 5)]) w := St.perm_ix 5 [2, 1, 3, 0, 4] y_b rfl rfl hst
 have hon : eD [.slice aa an ac, A.plan, A.tab] = true := by rw [show A.plan = _ from hq.plan, show A.tab = _ from hq.at_]; rfl
 refine aB.frame hw1 (ms2 := [A.ub, A.mb, A.rb]) (fun b hb => eR (G := [(A.ub, blk (cU m.u) 247), (A.mb, blk (cMm A (.slice aa an ac) m) 156), (A.rb, _)]) hb) (aIZ A aa an ac m h hr hrl hon a c l hby hlm hlc [A.ub, A.mb, A.rb] w hw1.lentV hB (fun p hp hb => hpn p hp ((show ∀ x ∈ [A.ub, A.mb, A.rb], x ∈ [tb, A.mb, A.ub, A.rb, A.ob] by simp) _ hb))) ?_
 rintro v H w' ⟨rfl, ⟨mb', ub', rb', ob', oc', sp', rc', rs', plan', tab'⟩, aa', an', ac', ⟨h1, h2, h3, h4, h5, h6, h7⟩, rfl⟩ hw
 dsimp only at h1 h2 h3 h4 h5 h6 h7
 subst h1 h2 h3 h4 h5 h6 h7
 have hn := hw.nodup
 have hrom : (oC m l).rom = m.rom := by unfold oC; split <;> rfl
 simp only [cr, ci, ce, cz, im, d6, dz, or_false, not_or] at hn
 refine ⟨_, St.perm_ix 5 [3, 1, 0, 2, 4] y_b rfl (by rw [← hrom]; rfl) hw, rfl, ⟨A.mb, A.ub, rb', A.ob, A.oc, A.sp, rc', rs', A.plan, A.tab⟩, .slice aa' an' ac', ⟨⟨by simp only [d6, dz, or_false, not_or]; exact ⟨fun h => hn.2.1.1 h.symm, fun h => hn.1.2.1 h.symm⟩, hq.apart.2⟩, hq.tab, hq.at_, hq.plan, _, _, _, rfl⟩, rfl, rfl⟩
def putP (n : Nat) : AB := if n < 128 then [(n : Int)] else ((n % 128 + 128 : Nat) : Int) :: putP (n / 128)
termination_by n
decreasing_by omega
def aB7 {n : Nat} (h : n < 128) : putP n = [(n : Int)] := by rw [putP, if_pos h]
def vV {n : Nat} (h : ¬ n < 128) : putP n = ((n % 128 + 128 : Nat) : Int) :: putP (n / 128) := by rw [putP, if_neg h]
def aSg {n : Int} (h : 0 ≤ n) : bor .u8 (n % 256) 128 = n % 128 + 128 := by
 have key := aX (p := fun x => bor .u8 x 128 = x % 128 + 128) y_z (c := n % 256) o_m o_m
 rw [key]; omega
def aS : AB → AB → Nat
 | x :: a, y :: b => if x = y then aS a b + 1 else 0
 | _, _ => 0
def pD : ∀ (a b : AB), aS a b ≤ b.length
 | [], b => al _
 | _ :: _, [] => av 0
 | x :: a, y :: b => by
  have := pD a b
  unfold aS
  split
  ·simp only [Lc_]; omega
  ·exact al _
def aCk : ∀ {a b : AB} {i : Nat}, i ≤ aS a b → i < b.length → i < a.length → a.getD i 0 = b.getD i 0 → i + 1 ≤ aS a b
 | [], _, _, _, _, h, _ => by simp at h
 | _ :: _, [], _, _, h, _, _ => by simp at h
 | x :: a, y :: b, 0, _, _, _, h => by
  have : x = y := h
  unfold aS; rw [if_pos this]; omega
 | x :: a, y :: b, i + 1, h, hb, ha, he => by
  unfold aS at h ⊢
  split at h
  ·have := aCk (a := a) (b := b) (i := i) o_m (by simpa using hb) (by simpa using ha) he
   rename_i hxy
   rw [if_pos hxy]; omega
  ·omega
def aDb : ∀ {a b : AB} {i : Nat}, i ≤ aS a b → i < b.length → i < a.length → a.getD i 0 ≠ b.getD i 0 → i = aS a b
 | [], _, _, _, _, h, _ => by simp at h
 | _ :: _, [], _, _, h, _, _ => by simp at h
 | x :: a, y :: b, 0, _, _, _, h => by
  have : x ≠ y := h
  unfold aS; rw [if_neg this]
 | x :: a, y :: b, i + 1, h, hb, ha, he => by
  unfold aS at h ⊢
  split at h
  ·have := aDb (a := a) (b := b) (i := i) o_m (by simpa using hb) (by simpa using ha) he
   rename_i hxy
   rw [if_pos hxy]; omega
  ·omega
def likeN_drop : ∀ (a b : AB), aS (a.drop (aS a b)) (b.drop (aS a b)) = 0
 | [], _ => by simp only [List.drop_nil]; cases (List.drop (aS [] _) _) <;> rfl
 | _ :: _, [] => rfl
 | x :: a, y :: b => by
  by_cases h : x = y
  ·have e : aS (x :: a) (y :: b) = aS a b + 1 := if_pos h
   rw [e]
   exact likeN_drop a b
  ·have e : aS (x :: a) (y :: b) = 0 := if_neg h
   rw [e]
   exact e
def aCF : ∀ {a b : AB}, a.length = b.length → a.take (aS a b) = b.take (aS a b)
 | [], [], _ => rfl
 | x :: a, y :: b, h => by
  by_cases hx : x = y
  ·have e : aS (x :: a) (y :: b) = aS a b + 1 := if_pos hx
   rw [e, List.take_succ_cons, List.take_succ_cons, hx, aCF (by simpa using h)]
  ·have e : aS (x :: a) (y :: b) = 0 := if_neg hx
   rw [e]; rfl
def oth (a b : AB) : Nat :=
 if h : b = [] then 0 else if 4 ≤ aS a b ∨ aS a b = b.length then 0 else aS a b + 1 + oth (a.drop (aS a b + 1)) (b.drop (aS a b + 1))
termination_by b.length
decreasing_by
 have := List.length_pos_iff.2 h
 rw [Ld_]; omega
def aQB (a : AB) : oth a [] = 0 := by rw [oth, dif_pos rfl]
def oth_stop {a b : AB} (h : 4 ≤ aS a b ∨ aS a b = b.length) : oth a b = 0 := by
 rw [oth]
 by_cases hb : b = []
 ·rw [dif_pos hb]
 ·rw [dif_neg hb, if_pos h]
def aGg {a b : AB} (hb : b ≠ []) (h : ¬ (4 ≤ aS a b ∨ aS a b = b.length)) : oth a b = aS a b + 1 + oth (a.drop (aS a b + 1)) (b.drop (aS a b + 1)) := by
 rw [oth, dif_neg hb, if_neg h]
def aCq (a b : AB) : oth a b ≤ b.length := by
 rw [oth]
 split
 ·exact al _
 ·split
  ·exact al _
  ·rename_i hb h
   have h1 := pD a b
   have h2 := aCq (a.drop (aS a b + 1)) (b.drop (aS a b + 1))
   rw [Ld_] at h2
   omega
termination_by b.length
decreasing_by
 rename_i hb _
 have := List.length_pos_iff.2 hb
 rw [Ld_]; omega
def tT {a b : AB} (hb : b ≠ []) (h : aS a b = 0) : 1 ≤ oth a b := by
 have := List.length_pos_iff.2 hb
 rw [aGg hb o_m]; omega
def cZ (a b : AB) : AB :=
 putP (aS a b) ++ (if h : b.drop (aS a b) = [] then [] else
  putP (oth (a.drop (aS a b)) (b.drop (aS a b))) ++ ((b.drop (aS a b)).take (oth (a.drop (aS a b)) (b.drop (aS a b))) ++
   cZ ((a.drop (aS a b)).drop (oth (a.drop (aS a b)) (b.drop (aS a b)))) ((b.drop (aS a b)).drop (oth (a.drop (aS a b)) (b.drop (aS a b))))))
termination_by b.length
decreasing_by
 have h1 := tT h (likeN_drop a b)
 have h2 := List.length_pos_iff.2 h
 rw [Ld_] at h2
 rw [Ld_, Ld_]; omega
def yI {a b : AB} (h : b.drop (aS a b) = []) : cZ a b = putP (aS a b) := by
 rw [cZ, dif_pos h, bg]
def vH {a b : AB} (h : b.drop (aS a b) ≠ []) : cZ a b = putP (aS a b) ++ (putP (oth (a.drop (aS a b)) (b.drop (aS a b))) ++ ((b.drop (aS a b)).take (oth (a.drop (aS a b)) (b.drop (aS a b))) ++
      cZ ((a.drop (aS a b)).drop (oth (a.drop (aS a b)) (b.drop (aS a b)))) ((b.drop (aS a b)).drop (oth (a.drop (aS a b)) (b.drop (aS a b)))))) := by
  conv => lhs; rw [cZ]
  rw [dif_neg h]
def kH (n : Nat) : 1 ≤ (putP n).length ∧ (putP n).length ≤ n / 128 + 1 := by
 rw [putP]
 split
 ·simp
 ·have h := kH (n / 128)
  simp only [Lc_]; omega
termination_by n
decreasing_by omega
def vD (n : Nat) : aT (putP n) := by
 rw [putP]
 split
 ·intro x hx
  rw [List.mem_singleton.1 hx]; omega
 ·intro x hx
  rcases List.mem_cons.1 hx with rfl | hx
  ·omega
  ·exact vD (n / 128) x hx
termination_by n
decreasing_by omega
def zU (a b : AB) : (cZ a b).length ≤ 3 * b.length + 1 := by
 have hl := pD a b
 have hp := (kH (aS a b)).2
 by_cases h : b.drop (aS a b) = []
 ·rw [yI h]; omega
 ·rw [vH h]
  have h1 := tT h (likeN_drop a b)
  have h2 := aCq (a.drop (aS a b)) (b.drop (aS a b))
  have h3 := (kH (oth (a.drop (aS a b)) (b.drop (aS a b)))).2
  have h4 := zU ((a.drop (aS a b)).drop (oth (a.drop (aS a b)) (b.drop (aS a b)))) ((b.drop (aS a b)).drop (oth (a.drop (aS a b)) (b.drop (aS a b))))
  simp only [La_, Lt_, Ld_] at *
  omega
termination_by b.length
decreasing_by
 have h1 := tT h (likeN_drop a b)
 have h2 := List.length_pos_iff.2 h
 rw [Ld_] at h2
 rw [Ld_, Ld_]; omega
def aEa (a : AB) {b : AB} (hb : aT b) : aT (cZ a b) := by
 have happ : ∀ {x y : AB}, aT x → aT y → aT (x ++ y) := fun h1 h2 z hz => (List.mem_append.1 hz).elim (h1 z) (h2 z)
 by_cases h : b.drop (aS a b) = []
 ·rw [yI h]; exact vD _
 ·rw [vH h]
  have hd : aT (b.drop (aS a b)) := fun x hx => hb x (da hx)
  exact happ (vD _) (happ (vD _) (happ (fun x hx => hd x (cu hx)) (aEa _ fun x hx => hd x (da hx))))
termination_by b.length
decreasing_by
 have h1 := tT h (likeN_drop a b)
 have h2 := List.length_pos_iff.2 h
 rw [Ld_] at h2
 rw [Ld_, Ld_]; omega
def zL (l : AB) : Nat → Int
 | 0 => 14695981039346656037
 | i + 1 => (kM .u64 (zL l i) (l.getD i 0) * 1099511628211) % 18446744073709551616
def aFX (l : AB) : Int := zL l l.length
end Go.Proofs.YtacejanlmhbddaaGreat
namespace Go.Proofs.YtacejanlmhbddaaGreat.Tm
open Go Go.VV
structure Mark where
 t : Int
 a : AC
 c : Nat
 l : AB
def cm (m : Mark) : AA := [.int .u64 m.t, .slice m.a m.l.length m.c]
def iZ (m : Mark) : (cm m).length = 2 := rfl
def Rise (ms : List Mark) : Prop := ms.Pairwise (fun x y => x.t < y.t) ∧ ∀ m ∈ ms, 0 ≤ m.t ∧ m.t ≤ 4611686018427387904
def Rise.sub {a b : List Mark} (h : Rise b) (hs : a.Sublist b) : Rise a := ⟨h.1.sublist hs, fun m hm => h.2 m (hs.subset hm)⟩
def Rise.nil : Rise [] := ⟨.nil, fun _ h => y_eO⟩
def thinR (last : Int) : Int → List Mark → List Mark
 | _, [] => []
 | _, [m] => [m]
 | behind, m :: p :: r => if behind - p.t ≤ 2 + last - behind then thinR last behind (p :: r) else m :: thinR last m.t (p :: r)
def thinL (ms : List Mark) : List Mark :=
 match ms.reverse with
 | [] => []
 | z :: r => (z :: thinR z.t z.t r).reverse
def cutL (cap : Nat) (ms : List Mark) : List Mark := ms.take 1 ++ ms.drop (1 + (ms.length - cap))
def aAE (last : Int) : ∀ (r : List Mark) (b : Int), (thinR last b r).Sublist r
 | [], _ => List.Sublist.refl _
 | [m], _ => List.Sublist.refl _
 | m :: p :: r, b => by
  unfold thinR
  split
  ·exact (aAE last (p :: r) b).cons m
  ·exact (aAE last (p :: r) m.t).cons_cons m
def aDZ (ms : List Mark) : (thinL ms).Sublist ms := by
 unfold thinL
 cases h : ms.reverse with
 | nil => simp
 | cons z r =>
  have : ms = (z :: r).reverse := by rw [← h, List.reverse_reverse]
  rw [this]
  exact ((aAE z.t r z.t).cons_cons z).reverse
def aNw (cap : Nat) (ms : List Mark) : (cutL cap ms).Sublist ms := by
 unfold cutL
 have : ms = ms.take 1 ++ ms.drop 1 := (df 1 ms).symm
 conv => rhs; rw [this]
 refine (List.Sublist.refl _).append ?_
 rw [← ax]
 exact List.drop_sublist _ _
def fH (ms : List Mark) (x : Int) : Nat := (ms.filter (fun m => decide (m.t < x))).length
def cntLe (ms : List Mark) (x : Int) : Nat := (ms.filter (fun m => decide (m.t ≤ x))).length
def aGs (ms : List Mark) (x : Int) : fH ms x ≤ ms.length := gf _ _
def aCb (ms : List Mark) (x : Int) : cntLe ms x ≤ ms.length := gf _ _
def sP {ms : List Mark} (h : ms.Pairwise (fun x y => x.t < y.t)) (x : Int) : ∀ {k : Nat} (hk : k < ms.length), ms[k].t < x ↔ k < fH ms x := by
 induction ms with
 | nil => intro k hk; simp at hk
 | cons m ms ih =>
  intro k hk
  rw [List.pairwise_cons] at h
  unfold fH
  by_cases hm : m.t < x
  ·rw [List.filter_cons_of_pos (by simpa using hm)]
   cases k with
   | zero => simp [hm]
   | succ k =>
    have := ih h.2 (k := k) (by simpa using hk)
    simp only [List.getElem_cons_succ, Lc_, Nat.add_lt_add_iff_right]
    exact this
  ·rw [List.filter_cons_of_neg (by simpa using hm)]
   have h0 : ms.filter (fun m => decide (m.t < x)) = [] := by
    rw [List.filter_eq_nil_iff]
    intro y hy
    have := h.1 y hy
    simp; omega
   rw [h0]
   cases k with
   | zero => simp; omega
   | succ k =>
    have := h.1 (ms[k]'(by simpa using hk)) (eg _)
    simp; omega
def vO {ms : List Mark} (h : ms.Pairwise (fun x y => x.t < y.t)) (x : Int) : ∀ {k : Nat} (hk : k < ms.length), ms[k].t ≤ x ↔ k < cntLe ms x := by
 intro k hk
 have h1 := sP h (x + 1) hk
 have h2 : fH ms (x + 1) = cntLe ms x := by
  unfold fH cntLe
  congr 2
  funext m
  simp only [decide_eq_decide]
  omega
 rw [h2] at h1
 rw [← h1]
 omega
def aUp (ms : List Mark) (x : Int) : fH ms x ≤ cntLe ms x := by
 unfold fH cntLe
 induction ms with
 | nil => simp
 | cons m ms ih =>
  simp only [js]
  split <;> split <;> simp_all <;> omega
def mX (ms : List Mark) (x : Int) : Bool := decide (fH ms x < cntLe ms x)
def aMH {ms : List Mark} (h : ms.Pairwise (fun x y => x.t < y.t)) (x : Int) (hk : fH ms x < ms.length) : ms[fH ms x].t = x ↔ mX ms x = true := by
 have h1 := sP h x hk
 have h2 := vO h x hk
 simp only [mX, decide_eq_true_eq]
 omega
def aKy {ms : List Mark} {x : Int} (hk : ¬ fH ms x < ms.length) : mX ms x = false := by
 have := aCb ms x
 simp only [mX, decide_eq_false_iff_not]
 omega
def aGw {ms : List Mark} (h : ms.Pairwise (fun x y => x.t < y.t)) (x : Int) : cntLe ms x = fH ms x + (if mX ms x then 1 else 0) := by
 have h0 := aUp ms x
 have hl := aCb ms x
 simp only [mX, decide_eq_true_eq]
 split
 ·rename_i hlt
  have hk : fH ms x < ms.length := by omega
  by_cases h2 : fH ms x + 1 < cntLe ms x
  ·exfalso
   have hk2 : fH ms x + 1 < ms.length := by omega
   have a1 := sP h x hk
   have a2 := vO h x hk2
   have a3 := (List.pairwise_iff_getElem.1 h) _ _ hk hk2 o_m
   omega
  ·omega
 ·omega
def bef (ms : List Mark) (x : Int) : Int := (cntLe ms x : Int) - 1
def m0 : Mark := ⟨0, none, 0, []⟩
def tm (ms : List Mark) (k : Nat) : Int := (ms.getD k m0).t
def kR {ms : List Mark} {k : Nat} (hk : k < ms.length) : ms[k].t = tm ms k := by simp [tm, hk]
def uA {ms : List Mark} {k : Nat} (hk : k < ms.length) : ms[k] = ms.getD k m0 := by simp [hk]
def LineW (w : AI) (b : Nat) (cap : Int) (ms : List Mark) : Prop :=
 ∃ a c, w.cell? ⟨b, 0, none⟩ = some (.slice a ms.length c) ∧ ms.length ≤ c ∧ w.cell? ⟨b, 1, none⟩ = some (.int .i64 cap) ∧ Els w cm a ms
def LineW.later0 {w0 w : AI} {H : aC} {b : Nat} {cap : Int} {ms : List Mark} (h : LineW w0 b cap ms) (hw : St w0 [] H w) : LineW w b cap ms := by
 obtain ⟨a, c, h0, hc, h1, hE⟩ := h
 exact ⟨a, c, aV h0 y_r w hw, hc, aV h1 y_r w hw, hE.later0 hw⟩
def aAV (w : AI) (a : AC) (l : AB) : Prop := (a = none ∧ l = []) ∨ ∃ b off, a = some ⟨b, off, none⟩ ∧ Row w b off (l.map (.int .u8))
def aAV.later0 {w0 w : AI} {H : aC} {a : AC} {l : AB} (h : aAV w0 a l) (hw : St w0 [] H w) : aAV w a l := by
 rcases h with h | ⟨b, off, ha, hr⟩
 ·exact .inl h
 ·exact .inr ⟨b, off, ha, aN hr y_r w hw⟩
abbrev Byt (l : AB) (v : AH) (G : aC) : Prop := Vec 5 1 v l.length (l.map (.int .u8)) G
def Byt.slice {l : AB} {v : AH} {G : aC} (h : Byt l v G) : ∃ a c, v = .slice a l.length c ∧ l.length ≤ c ∧ ∀ (w0 w : AI) (ms : AE) (H : aC), St w0 ms H w → (∀ x ∈ G, x ∈ H) → aAV w a l := by
 unfold Byt at h
 generalize hx : l.map U_ = xs at h
 generalize hn : l.length = n at h ⊢
 cases h with
 | nil => exact ⟨none, 0, rfl, av _, fun _ _ _ _ _ _ => .inl ⟨rfl, cw hn⟩⟩
 | row b _ cap _ sp h1 h2 h3 h4 =>
  refine ⟨_, cap, rfl, h4, fun w0 w ms H hw hs => .inr ⟨b, 0, rfl, ?_⟩⟩
  rw [hx]
  exact (Row.all (hw.holds _ (hs _ (.head _)))).left
def aGI (w : AI) (ms : List Mark) : Prop := ∀ m ∈ ms, m.l.length ≤ m.c ∧ m.l.length ≤ 140737488355328 ∧ aAV w m.a m.l
def aGI.later0 {w0 w : AI} {H : aC} {ms : List Mark} (h : aGI w0 ms) (hw : St w0 [] H w) : aGI w ms := fun m hm => ⟨(h m hm).1, (h m hm).2.1, (h m hm).2.2.later0 hw⟩
def wQ (D : aC) (ms : List Mark) : Prop := ∀ m ∈ ms, m.l.length ≤ m.c ∧ m.l.length ≤ 140737488355328 ∧ ∀ (w0 w : AI) (ms : AE) (H : aC), St w0 ms H w → (∀ x ∈ D, x ∈ H) → aAV w m.a m.l
def wQ.sub {D : aC} {a b : List Mark} (h : wQ D b) (hs : a.Sublist b) : wQ D a := fun m hm => h m (hs.subset hm)
def wQ.more {D D' : aC} {ms : List Mark} (h : wQ D ms) (hs : ∀ x ∈ D, x ∈ D') : wQ D' ms := fun m hm => ⟨(h m hm).1, (h m hm).2.1, fun w0 w ms H hw hx => (h m hm).2.2 w0 w ms H hw fun x hx' => hx x (hs x hx')⟩
def wQ.datW {D H : aC} {ms : List Mark} {w0 w : AI} {bs : AE} (h : wQ D ms) (hw : St w0 bs H w) (hs : ∀ x ∈ D, x ∈ H) : aGI w ms := fun m hm => ⟨(h m hm).1, (h m hm).2.1, (h m hm).2.2 w0 w bs H hw hs⟩
def aAb {w : AI} {b off : Nat} {ms : List Mark} (hr : Row w b off (aF cm ms)) {k : Nat} (hk : k < ms.length) : w.cell? ⟨b, off + k * 2 + 0, none⟩ = some (.int .u64 (tm ms k)) := by
 have := Row.nth iZ hr hk 0 _ rfl
 rw [kR hk] at this
 exact this
def aSa {w : AI} {b off : Nat} {ms : List Mark} (hr : Row w b off (aF cm ms)) {k : Nat} (hk : k < ms.length) :
  w.cell? ⟨b, off + k * 2 + 1, none⟩ = some (.slice (ms.getD k m0).a (ms.getD k m0).l.length (ms.getD k m0).c) := by
 have := Row.nth iZ hr hk 1 _ rfl
 rw [uA hk] at this
 exact this
def pC {w : AI} {b off : Nat} {ms : List Mark} (hr : Row w b off (aF cm ms)) {k : Nat} (hk : k < ms.length) : Row w b (off + k * 2) (cm (ms.getD k m0)) := by
 have := Row.nth iZ hr hk
 rw [uA hk] at this
 exact this
def eP (ms : List Mark) : Int := if ms.length = 0 then 0 else tm ms (ms.length - 1)
def aKm {ms : List Mark} (h : ms.length = 0) : (Value.tuple #[.int .u64 (eP ms), .bool (decide (ms.length ≠ 0))]) = .tuple #[.int .u64 0, .bool false] := by simp [eP, h]
def aKF {ms : List Mark} (h : ms.length ≠ 0) : (Value.tuple #[.int .u64 (eP ms), .bool (decide (ms.length ≠ 0))]) = .tuple #[.int .u64 (tm ms (ms.length - 1)), .bool true] := by simp [eP, h]
def yY {ms : List Mark} (h : ms.length ≠ 0) : tm ms (ms.length - 1) = eP ms := by simp [eP, h]
def cmpI (a b : Int) : Int := if a < b then -1 else if a > b then 1 else 0
def aSX {a b : Int} (h : decide (a < b) = true) : (-1 : Int) = cmpI a b := by simp at h; simp [cmpI, h]
def aR9 {a b : Int} (h : decide (a < b) = false) (h2 : decide (b < a) = true) : (1 : Int) = cmpI a b := by simp at h h2; simp [cmpI, h2]; omega
def aSU {a b : Int} (h : decide (a < b) = false) (h2 : decide (b < a) = false) : (0 : Int) = cmpI a b := by simp at h h2; simp [cmpI]; omega
def aRR {lo hi : Nat} (h : hi ≤ 1000000000) (hl : lo ≤ hi) : IntKind.i64.wrap ((IntKind.u64.wrap (IntKind.i64.wrap ((lo : Int) + (hi : Int)))).fdiv (2 ^ min (1 : Int).toNat 64)) = (((lo + hi) / 2 : Nat) : Int) := by
 rw [aL (n := (lo : Int) + hi) o_m o_m, eN o_m o_m]
 have : (2 : Int) ^ min (1 : Int).toNat 64 = 2 := by decide
 rw [this, ec _ o_m, aL o_m o_m]
 omega
def aQ5 {ms : List Mark} (hR : Rise ms) {x : Int} {k : Nat} (hk : k < ms.length) (h : decide (cmpI (tm ms k) x < 0) = true) : k < fH ms x := by
 rw [← sP hR.1 x hk, kR hk]
 simp [cmpI] at h
 split at h
 ·assumption
 ·split at h <;> omega
def aPN {ms : List Mark} (hR : Rise ms) {x : Int} {k : Nat} (hk : k < ms.length) (h : decide (cmpI (tm ms k) x < 0) = false) : fH ms x ≤ k := by
 have := sP hR.1 x hk
 rw [kR hk] at this
 by_cases h2 : tm ms k < x
 ·simp [cmpI, h2] at h
 ·omega
def aNm {ms : List Mark} (hR : Rise ms) {x : Int} (hk : fH ms x < ms.length) : (cmpI (tm ms (fH ms x)) x == 0) = mX ms x := by
 have h1 := aMH hR.1 x hk
 rw [kR hk] at h1
 have h2 : cmpI (tm ms (fH ms x)) x = 0 ↔ tm ms (fH ms x) = x := by
  unfold cmpI
  split
  ·constructor <;> intro <;> omega
  ·split
   ·constructor <;> intro <;> omega
   ·constructor <;> intro <;> omega
 rw [Bool.eq_iff_iff, beq_iff_eq, h2, h1]
def aQg {ms : List Mark} (hR : Rise ms) {x : Int} (h : mX ms x = true) : ((fH ms x : Nat) : Int) = bef ms x := by
 rw [bef, aGw hR.1, h]; simp
def aOq {ms : List Mark} (hR : Rise ms) (hl : ms.length < 1000000000) {x : Int} (h : mX ms x = false) : IntKind.i64.wrap (((fH ms x : Nat) : Int) - 1) = bef ms x := by
 have := aGs ms x
 rw [aL o_m o_m, bef, aGw hR.1, h]; simp
def bef_lt {ms : List Mark} {x : Int} (h : ¬ bef ms x < 0) : (bef ms x).toNat < ms.length ∧ ((bef ms x).toNat : Int) = bef ms x := by
 have := aCb ms x
 unfold bef at *
 omega
def befM (ms : List Mark) (x : Int) : Mark := if bef ms x < 0 then m0 else ms.getD (bef ms x).toNat m0
def aEM {ms : List Mark} {x : Int} (h : bef ms x < 0) : befM ms x = m0 := by simp [befM, h]
def pN {ms : List Mark} {x : Int} (h : ¬ bef ms x < 0) : ms.getD (bef ms x).toNat m0 = befM ms x := by simp [befM, h]
def befM_mem {ms : List Mark} {x : Int} (h : ¬ bef ms x < 0) : befM ms x ∈ ms := by
 have := (bef_lt h).1
 rw [← pN h]
 simp [this]
def times (ms : List Mark) : AB := ms.map (·.t)
def times_len (ms : List Mark) : (times ms).length = ms.length := by simp [times]
def aJe {ms : List Mark} {k : Nat} (hk : k < ms.length) : (times (ms.take (k + 1))).map (Value.int .u64) = (times (ms.take k)).map (.int .u64) ++ [.int .u64 (tm ms k)] := by
 rw [eo hk, times, be, be, tm_get' hk]
 rfl
where tm_get' {ms : List Mark} {k : Nat} (hk : k < ms.length) : [ms[k]].map (·.t) = [tm ms k] := by simp [tm, hk]
def aCf {ms : List Mark} (hR : Rise ms) {k : Nat} (hk : k < ms.length) : tm ms k ≤ eP ms := by
 rw [eP, if_neg o_m]
 rcases dk k (ms.length - 1) with h | h
 ·have := (List.pairwise_iff_getElem.1 hR.1) k (ms.length - 1) hk o_m h
  rw [kR hk, kR o_m] at this
  omega
 ·have : k = ms.length - 1 := by omega
  subst this; exact gp _
def aOa {ms : List Mark} (hR : Rise ms) {x : Int} (h : ¬ bef ms x < 0) : (befM ms x).t ≤ x ∧ 0 ≤ (befM ms x).t ∧ (befM ms x).t ≤ eP ms ∧ eP ms ≤ 4611686018427387904 := by
 obtain ⟨h1, h2⟩ := bef_lt h
 have h3 := (vO hR.1 x h1).2 (by unfold bef at *; omega)
 have h4 := hR.2 ms[(bef ms x).toNat] (eg _)
 have h5 := aCf hR h1
 have h6 : eP ms ≤ 4611686018427387904 := by
  rw [eP, if_neg o_m, ← kR o_m]
  exact (hR.2 _ (eg _)).2
 rw [← pN h]
 rw [kR h1] at h3 h4
 unfold tm at h3 h4 h5
 exact ⟨h3, h4.1, h5, h6⟩
def aG6 {ms : List Mark} {x : Int} (h : bef ms x < 0) : Value.tuple #[.int .u64 0, .slice none 0 0, .bool false] = .tuple #[.int .u64 (befM ms x).t, .slice none 0 0, .bool (decide (0 ≤ bef ms x))] := by
 rw [aEM h]; simp [m0]; exact h
def aHc {ms : List Mark} {x : Int} (h : ¬ bef ms x < 0) (dv : AH) : Value.tuple #[.int .u64 (tm ms (bef ms x).toNat), dv, .bool true] = .tuple #[.int .u64 (befM ms x).t, dv, .bool (decide (0 ≤ bef ms x))] := by
 rw [← pN h]; simp [tm]; omega
def aDT {α : Type} : ∀ (L : List α), (List.range L.length).filterMap (L[·]?) = L
 | [] => rfl
 | x :: L => by
  rw [Lc_, List.range_succ_eq_map, List.filterMap_cons]
  simp only [d9, List.filterMap_map, Function.comp_def, du]
  rw [aDT L]
def St.ix {w0 w : AI} {ms : AE} {L : aC} (ix : AE) (h : St w0 ms L w) (hp : ix.isPerm (List.range L.length) = true) : St w0 ms (ix.filterMap (L[·]?)) w := h.perm (by
 have h1 := (List.isPerm_iff.1 hp).filterMap (L[·]?)
 rw [aDT] at h1
 exact h1.symm)
def St.pick {w0 w : AI} {ms : AE} {L : aC} (ix : AE) (h : St w0 ms L w) (hp : decide ix.Nodup = true) : St w0 ms (ix.filterMap (L[·]?)) w := by
 have hp := ct hp
 have hmem : ∀ x ∈ ix.filterMap (L[·]?), x ∈ L := fun x hx => by
  obtain ⟨i, _, hi⟩ := List.mem_filterMap.1 hx
  exact bq hi
 refine ⟨h.os, h.tape, h.output, h.size, h.block, ?_, fun x hx => h.own x (hmem x hx), fun x hx => h.holds x (hmem x hx)⟩
 rw [List.map_filterMap]
 refine List.Pairwise.filterMap _ ?_ hp
 intro a a' haa b hb b' hb' hbb
 obtain ⟨x, hx, rfl⟩ := Option.map_eq_some_iff.1 hb
 obtain ⟨x', hx', rfl⟩ := Option.map_eq_some_iff.1 hb'
 obtain ⟨h1, rfl⟩ := List.getElem?_eq_some_iff.1 hx
 obtain ⟨h2, rfl⟩ := List.getElem?_eq_some_iff.1 hx'
 have hn := List.pairwise_iff_getElem.1 h.nodup
 rcases Nat.lt_trichotomy a a' with h3 | h3 | h3
 ·exact hn a a' (by simpa using h1) (by simpa using h2) h3 (by simpa using hbb)
 ·exact haa h3
 ·exact hn a' a (by simpa using h2) (by simpa using h1) h3 (by simpa using hbb.symm)
def St.lend {w0 w : AI} {ms : AE} {F G : aC} (h : St w0 ms (F ++ G) w) : St w (F.map (·.1)) F w :=
 St.lent (by have := h.nodup; rw [be, dd] at this; exact this.1) fun x hx => h.holds x (by simp [hx])
def uT (ms : List Mark) (sp : AA) {k : Nat} (hk : k < ms.length) (x : Mark) : aO (aF cm ms ++ sp) (0 + k * 2) (cm x) = aF cm (ms.set k x) ++ sp := by
 have h1 : ms = ms.take k ++ ms[k] :: ms.drop (k + 1) := uJ hk
 have hl : (ms.take k).length = k := by rw [Lt_]; omega
 have h2 := aAc iZ (ms.take k) (ms.drop (k + 1)) ms[k] x sp
 rw [hl, ← h1] at h2
 rw [h2, dg, if_pos hk]
def aGr (ms : List Mark) (sp : AA) {k : Nat} (hk : k < ms.length) (x : Mark) : 0 + k * 2 + (cm x).length ≤ (aF cm ms ++ sp).length := by
 rw [La_, bM iZ, iZ]; omega
def sO (ms cur : List Mark) (i : Nat) : Prop := cur.length = ms.length ∧ ∀ k, k < ms.length → cur.getD k m0 = if k < i ∨ ms.length ≤ k + i then ms.getD (ms.length - 1 - k) m0 else ms.getD k m0
def sO.zero (ms : List Mark) : sO ms ms 0 := ⟨rfl, fun k hk => by rw [if_neg o_m]⟩
def aFJ (l : List Mark) (i k : Nat) (x : Mark) (hi : i < l.length) : (l.set i x).getD k m0 = if k = i then x else l.getD k m0 := by
 simp only [Gd_, fk]
 by_cases h : i = k
 ·subst h; simp [hi]
 ·rw [if_neg h, if_neg (Ne.symm h)]
def sO.step {ms cur : List Mark} {i : Nat} (h : sO ms cur i) (hi : i + i + 1 < ms.length) :
  sO ms ((cur.set i (cur.getD (ms.length - 1 - i) m0)).set (ms.length - 1 - i) (cur.getD i m0)) (i + 1) := by
 obtain ⟨hl, hk⟩ := h
 refine ⟨by simp [hl], fun k hkl => ?_⟩
 rw [aFJ _ _ _ _ (by simp [hl]; omega), aFJ _ _ _ _ o_m]
 have h1 := hk i o_m
 have h2 := hk (ms.length - 1 - i) o_m
 rw [if_neg o_m] at h1 h2
 by_cases e1 : k = ms.length - 1 - i
 ·rw [if_pos e1, if_pos o_m, h1]; congr 1; omega
 ·rw [if_neg e1]
  by_cases e2 : k = i
  ·rw [if_pos e2, if_pos o_m, h2, e2]
  ·rw [if_neg e2, hk k hkl]
   by_cases e3 : k < i ∨ ms.length ≤ k + i
   ·rw [if_pos e3, if_pos o_m]
   ·rw [if_neg e3, if_neg o_m]
def sO.last {ms cur : List Mark} {i : Nat} (h : sO ms cur i) (hi : ms.length ≤ i + i + 1) : cur = ms.reverse := by
 obtain ⟨hl, hk⟩ := h
 apply jg y_cK
 intro k h1 h2
 have h3 := hk k o_m
 rw [List.getElem_reverse, uA, uA, h3]
 by_cases e : k < i ∨ ms.length ≤ k + i
 ·rw [if_pos e]
 ·rw [if_neg e]; congr 1; omega
def aFA {n i : Nat} (h : i ≤ n) (hn : n < 1000000000) : IntKind.i64.wrap ((n : Int) - 1 - (i : Int) - 1) = (n : Int) - 1 - ((i + 1 : Nat) : Int) := by
 rw [aL o_m o_m]; omega
def aIT {n : Nat} (h : n ≠ 0) (hn : n < 1000000000) : IntKind.i64.wrap ((n : Int) - 1) = ((n - 1 : Nat) : Int) := by
 rw [aL o_m o_m]; omega
def aLI {m a b : Nat} (h : b = a + 1) (ha : a < m) (hm : m < 1000000000) : IntKind.i64.wrap ((m : Int) - 1 - (a : Int) - 1) = (m : Int) - 1 - (b : Int) := by
 subst h; exact aFA o_m hm
def rr (ms : List Mark) (j : Nat) : List Mark := ms.dropLast.reverse.drop j
def aA5 {ms : List Mark} {j : Nat} (h : j + 1 < ms.length) : rr ms j = ms.getD (ms.length - 1 - 1 - j) m0 :: rr ms (j + 1) := by
 unfold rr
 have hl : j < ms.dropLast.reverse.length := by simp; omega
 rw [fu hl, List.getElem_reverse, List.getElem_dropLast, uA]
 simp only [gl]
def aMG {ms : List Mark} {j : Nat} (h : ms.length ≤ j + 1) : rr ms j = [] := by
 unfold rr
 apply ga
 simp; omega
def aFN {ms : List Mark} (h : ms.length ≠ 0) : thinL ms = (ms.getD (ms.length - 1) m0 :: thinR (eP ms) (eP ms) (rr ms 0)).reverse := by
 obtain ⟨A, a, rfl⟩ := aDy (l := ms) o_m
 simp [thinL, rr, eP, tm]
structure Kept (ms K : List Mark) (j q : Nat) : Prop where
 pos : 0 < K.length
 small : K.length ≤ j + 1
 last : K.getD (K.length - 1) m0 = ms.getD q m0
 hi : q < ms.length
 lo : ms.length ≤ q + j + 1
 rest : ms.getD (ms.length - 1) m0 :: thinR (eP ms) (eP ms) (rr ms 0) = K ++ thinR (eP ms) (tm ms q) (rr ms j)
def Kept.zero {ms : List Mark} (h : ms.length ≠ 0) : Kept ms [ms.getD (ms.length - 1) m0] 0 (ms.length - 1) :=
 ⟨y_eR, y_eR, y_eR, y_y, y_y, by rw [yY h]; rfl⟩
def aP8 {ms : List Mark} (hR : Rise ms) {i j : Nat} (hij : i ≤ j) (hj : j < ms.length) : tm ms i ≤ tm ms j := by
 rcases dk i j with h | h
 ·have := (List.pairwise_iff_getElem.1 hR.1) i j o_m hj h
  rw [kR o_m, kR hj] at this; omega
 ·have : i = j := by omega
  subst this; exact gp _
def xT {ms : List Mark} (hR : Rise ms) {j : Nat} (hj : j < ms.length) : 0 ≤ tm ms j ∧ tm ms j ≤ 4611686018427387904 := by
 have := hR.2 _ (eg hj)
 rw [kR hj] at this; exact this
def aJ2 {ms : List Mark} (hR : Rise ms) {p q : Nat} (hpq : p ≤ q) (hq : q < ms.length) : IntKind.u64.wrap (tm ms q - tm ms p) = tm ms q - tm ms p := by
 have h1 := aP8 hR hpq hq
 have h2 := xT hR hq
 have h3 := xT hR (j := p) o_m
 exact eN o_m o_m
def aHp {ms : List Mark} (hR : Rise ms) {q : Nat} (hq : q < ms.length) : IntKind.u64.wrap (IntKind.u64.wrap (2 + eP ms) - tm ms q) = 2 + eP ms - tm ms q := by
 have h1 := aCf hR hq
 have h2 := xT hR hq
 have h3 := xT hR (j := ms.length - 1) o_m
 rw [yY o_m] at h3
 rw [eN (n := 2 + eP ms) o_m o_m, eN o_m o_m]
def Kept.skip {ms K : List Mark} {j q : Nat} (h : Kept ms K j q) (hR : Rise ms) (hj : j + 2 < ms.length)
  (hc : decide (IntKind.u64.wrap (tm ms q - tm ms (ms.length - 1 - 1 - j - 1)) ≤ IntKind.u64.wrap (IntKind.u64.wrap (2 + eP ms) - tm ms q)) = true) : Kept ms K (j + 1) q := by
 have hlo := h.lo
 rw [aJ2 hR o_m h.hi, aHp hR h.hi, decide_eq_true_eq] at hc
 refine ⟨h.pos, by have := h.small; omega, h.last, h.hi, y_y, ?_⟩
 rw [h.rest, aA5 o_m, aA5 (j := j + 1) o_m]
 have e : ms.length - 1 - 1 - j - 1 = ms.length - 1 - 1 - (j + 1) := by omega
 rw [e] at hc
 conv => lhs; unfold thinR
 rw [if_pos (show tm ms q - (ms.getD (ms.length - 1 - 1 - (j + 1)) m0).t ≤ _ from hc)]
def Kept.keep {ms K : List Mark} {j q : Nat} (h : Kept ms K j q) (hR : Rise ms) (hj : j + 1 < ms.length)
  (hc : j + 2 < ms.length → decide (IntKind.u64.wrap (tm ms q - tm ms (ms.length - 1 - 1 - j - 1)) ≤ IntKind.u64.wrap (IntKind.u64.wrap (2 + eP ms) - tm ms q)) = false) :
  Kept ms (K ++ [ms.getD (ms.length - 1 - 1 - j) m0]) (j + 1) (ms.length - 1 - 1 - j) := by
 have hlo := h.lo
 refine ⟨y_eR, by have := h.small; simp; omega, y_eR, y_y, y_y, ?_⟩
 rw [h.rest, aA5 hj]
 rcases dk (j + 2) ms.length with h2 | h2
 ·have hc := hc h2
  rw [aJ2 hR o_m h.hi, aHp hR h.hi, decide_eq_false_iff_not] at hc
  rw [aA5 (j := j + 1) o_m]
  have e : ms.length - 1 - 1 - j - 1 = ms.length - 1 - 1 - (j + 1) := by omega
  rw [e] at hc
  conv => lhs; unfold thinR
  rw [if_neg (show ¬ tm ms q - (ms.getD (ms.length - 1 - 1 - (j + 1)) m0).t ≤ _ from hc), As_]
  rfl
 ·rw [aMG (j := j + 1) o_m]
  simp [thinR]
def Kept.done {ms K : List Mark} {j q : Nat} (h : Kept ms K j q) (hj : ms.length ≤ j + 1) : thinL ms = K.reverse := by
 rw [aFN (by have := h.hi; omega), h.rest, aMG hj]
 simp [thinR]
def Kept.behind {ms K : List Mark} {j q : Nat} (h : Kept ms K j q) : tm K (K.length - 1) = tm ms q := by
 unfold tm; rw [h.last]
def aRu {ms : List Mark} (h : ms.length ≠ 0) {w : AI} {b off : Nat} (hr : Row w b off (aF cm ms)) : w.cell? ⟨b, off + (ms.length - 1) * 2 + 0, none⟩ = some (.int .u64 (eP ms)) := by
 rw [← yY h]; exact aAb hr o_m
def Kept.at_ {ms K : List Mark} {j q : Nat} (h : Kept ms K j q) {w : AI} {b off : Nat} (hr : Row w b off (aF cm K)) : w.cell? ⟨b, off + (K.length - 1) * 2 + 0, none⟩ = some (.int .u64 (tm ms q)) := by
 rw [← h.behind]; exact aAb hr (by have := h.pos; omega)
def tZ {T s : Nat} {v : AH} {n : Nat} {xs : AA} {G : aC} (h : Vec T s v n xs G) (hn : n ≠ 0) :
  ∃ b cap sp, v = .slice (Q_ b) n cap ∧ G = [(b, blk (xs ++ sp) T)] ∧ (xs ++ sp).length = cap * s ∧ n ≤ cap ∧ cap ≤ maxLen := by
 cases h with
 | nil => exact absurd rfl hn
 | row b _ cap _ sp h1 h2 h3 h4 => exact ⟨b, cap, sp, rfl, rfl, h2, h4, h3⟩
def vR {b cap : Nat} {ms : List Mark} {sp : AA} (h2 : (aF cm ms ++ sp).length = cap * 2) (h4 : ms.length ≤ cap) (h3 : cap ≤ maxLen) :
  Vec 228 2 (.slice (Q_ b) ms.length cap) ms.length (aF cm ms) [(b, blk (aF cm ms ++ sp) 228)] :=
 .row b _ cap _ sp (bM iZ ms) h2 h3 h4
def nX (b : Nat) (cap : Int) (ms : List Mark) (H : aC) : Prop := ∃ v G, H = (b, blk [v, .int .i64 cap] 215) :: G ∧ Vec 228 2 v ms.length (aF cm ms) G
def aJB {v : AH} {ms : List Mark} {G : aC} (h : Vec 228 2 v ms.length (aF cm ms) G) (hn : ms.length ≠ 0) :
  ∃ b cap sp, v = .slice (Q_ b) ms.length cap ∧ G = [(b, blk (aF cm ms ++ sp) 228)] ∧ (aF cm ms ++ sp).length = cap * 2 ∧ ms.length ≤ cap ∧ cap ≤ maxLen := tZ h hn
abbrev bwH (lb bx bm m c : Nat) (rec : Loop) (ms : List Mark) (sp : AA) (T : aC) : aC :=
 (lb, .loop rec) :: (bx, blk [.slice (Q_ bm) m c] 213) :: (bm, blk (aF cm ms ++ sp) 228) :: T
structure TS where
 j : Nat
 K : List Mark
 b : Nat
 c : Nat
 sp : AA
 q : Nat
def TS.ok (ms : List Mark) (s : TS) : Prop := Kept ms s.K s.j s.q ∧ (aF cm s.K ++ s.sp).length = s.c * 2 ∧ s.K.length ≤ s.c ∧ s.c ≤ maxLen
abbrev aCl (b4 b3 b1 b : Nat) (lT : Int) (line : AA) (s : TS) : aC :=
 [(b4, blk [.slice (Q_ s.b) s.K.length s.c] 213), (b3, blk [.int .u64 lT] 36), (b1, blk [P_ b] 95), (b, blk line 215), (s.b, blk (aF cm s.K ++ s.sp) 228)]
def aSb {b c n : Nat} : Value.slice (some ⟨b, iA 0 0 2 c, none⟩) (n - 0) (c - 0) = .slice (Q_ b) n c := by simp [iA]
def aZ (X Y vs : AA) {off : Nat} (h : X.length ≤ off) : aO (X ++ Y) off vs = X ++ aO Y (off - X.length) vs := by
 unfold aO
 rw [jk, ij, c8 h, dj o_m, ci, As_, As_, As_]
 have : off + vs.length - X.length = off - X.length + vs.length := by omega
 rw [this]
def aCL (ms : List Mark) (j : Nat) : aF cm ms = aF cm (ms.take j) ++ aF cm (ms.drop j) := by rw [← gJ, df]
def aNT {w : AI} {b j c : Nat} {ms : List Mark} {sp : AA} (hr : Row w b 0 (aF cm ms ++ sp)) (hj : j ≤ ms.length) (hc : ms.length ≤ c) : Row w b (iA 0 j 2 c) (aF cm (ms.drop j)) := by
 have h1 := hr.cut (l := j) (k := ms.length - j) (s := 2) (c := c) o_m
 have hl : (aF cm (ms.take j)).length = j * 2 := by rw [bM iZ, Lt_]; congr 1; omega
 have hl2 : (aF cm (ms.drop j)).length = (ms.length - j) * 2 := by rw [bM iZ, Ld_]
 rw [aCL ms j, As_, ← hl, ey, ← hl2, g9] at h1
 exact h1
def aRV (ms : List Mark) (sp zs : AA) {j : Nat} (h1 : 1 ≤ ms.length) (hj : j ≤ ms.length) :
  ∃ sp', aO (aO (aF cm ms ++ sp) (1 * 2) (aF cm (ms.drop j))) ((1 + (ms.length - j)) * 2) zs = aF cm (ms.take 1 ++ ms.drop j) ++ sp' := by
 have hl : (aF cm (ms.take 1)).length = 1 * 2 := by rw [bM iZ, Lt_]; congr 1; omega
 have hl2 : (aF cm (ms.drop j)).length = (ms.length - j) * 2 := by rw [bM iZ, Ld_]
 rw [aCL ms 1, As_, aZ _ _ _ o_m, hl, iy]
 have : aO (aF cm (ms.drop 1) ++ sp) 0 (aF cm (ms.drop j)) = aF cm (ms.drop j) ++ (aF cm (ms.drop 1) ++ sp).drop (0 + (aF cm (ms.drop j)).length) := by simp [aO]
 rw [this, ← As_, ← gJ, aZ _ _ _ (by rw [gJ, La_, hl, hl2]; omega)]
 exact ⟨_, rfl⟩
def zG (ms : List Mark) (sp : AA) {j : Nat} (hj : j ≤ ms.length) (h1 : 1 ≤ j) : 1 * 2 + (aF cm (ms.drop j)).length ≤ (aF cm ms ++ sp).length := by
 rw [bM iZ, La_, bM iZ, Ld_]; omega
def aSv {b l c n k m : Nat} (h : l < c) (hk : n - l = k) (hm : l * 2 = m) : Value.slice (some ⟨b, iA 0 l 2 c, none⟩) (n - l) (c - l) = .slice (some ⟨b, m, none⟩) k (c - l) := by
 rw [iA, if_neg o_m, hk, bi, hm]
def aJY (ms : List Mark) : eD (aF cm ms) = true := by
 refine List.all_eq_true.2 fun x hx => ?_
 obtain ⟨m, _, hm⟩ := List.mem_flatMap.1 hx
 simp only [cm, d6, dz, or_false] at hm
 rcases hm with rfl | rfl <;> rfl
def vC {ms : List Mark} {mk : Mark} (h : Rise ms) (h0 : 0 ≤ mk.t) (h1 : mk.t ≤ 4611686018427387904) (hl : ms.length ≠ 0 → eP ms < mk.t) : Rise (ms ++ [mk]) := by
 refine ⟨List.pairwise_append.2 ⟨h.1, y_eR, ?_⟩, ?_⟩
 ·intro a ha b hb
  have : b = mk := by simpa using hb
  subst this
  obtain ⟨k, hk, rfl⟩ := fy ha
  have h2 := aCf h hk
  have := hl o_m
  rw [kR hk]; omega
 ·intro m hm
  rcases List.mem_append.1 hm with hm | hm
  ·exact h.2 m hm
  ·have : m = mk := by simpa using hm
   subst this; exact ⟨h0, h1⟩
def jO (ms : List Mark) (t : Int) : Int := if 4611686018427387904 < t then 1 else if ms.length = 0 then (if t = 0 then 0 else 1) else if t ≤ eP ms then 10 else 0
def addM (cap : Nat) (ms : List Mark) (mk : Mark) : List Mark := cutL cap (thinL (ms ++ [mk]))
def aEB {ms : List Mark} (h : ms.length ≠ 0) : 1 ≤ (thinL ms).length := by rw [aFN h]; simp
def aFE (ms : List Mark) : (thinL ms).length ≤ ms.length := (aDZ ms).length_le
def aBU {cap : Nat} {ms : List Mark} (h : ms.length ≤ cap) : cutL cap ms = ms := by
 rw [cutL, show ms.length - cap = 0 by omega, gb, df]
def aCB {ms : List Mark} {t : Int} (h : 4611686018427387904 < t) : jO ms t = 1 := by simp [jO, h]
def aAv {ms : List Mark} {t : Int} (h : ¬ 4611686018427387904 < t) (hz : ms.length = 0) (ht : t ≠ 0) : jO ms t = 1 := by simp [jO, h, hz, ht]
def aBx {ms : List Mark} {t : Int} (h : ¬ 4611686018427387904 < t) (hz : ms.length ≠ 0) (ht : t ≤ eP ms) : jO ms t = 10 := by simp [jO, h, hz, ht]
def vN {ms : List Mark} {t : Int} (h : ¬ 4611686018427387904 < t) (h2 : ms.length = 0 → t = 0) (h3 : ms.length ≠ 0 → ¬ t ≤ eP ms) : jO ms t = 0 := by
 unfold jO
 rw [if_neg h]
 split
 ·rw [if_pos (h2 ‹_›)]
 ·rw [if_neg (h3 ‹_›)]
def BytS (w : AI) (bs : AE) (a : AC) (l : AB) : Prop := (a = none ∧ l = []) ∨ ∃ b off, a = some ⟨b, off, none⟩ ∧ b ∉ bs ∧ Row w b off (l.map (.int .u8))
def BytS.later {w0 w : AI} {bs : AE} {H : aC} {a : AC} {l : AB} (h : BytS w0 bs a l) (hw : St w0 bs H w) : aAV w a l := by
 rcases h with h | ⟨b, off, ha, hb, hr⟩
 ·exact .inl h
 ·exact .inr ⟨b, off, ha, aN hr hb w hw⟩
def nX.lineW {b : Nat} {cap : Int} {ms : List Mark} {G H : aC} {w0 w : AI} {bs : AE} (h : nX b cap ms G) (hw : St w0 bs H w) (hs : ∀ x ∈ G, x ∈ H) : LineW w b cap ms := by
 obtain ⟨v, G', rfl, hV⟩ := h
 obtain ⟨a, c, rfl, hl, hc, hE⟩ := hV.gives iZ y_b
 refine ⟨a, c, ?_, hc, ?_, hE.els hw fun x hx => hs x (.tail _ hx)⟩
 ·rw [gX (hw.holds _ (hs _ (.head _)))]; rfl
 ·rw [gX (hw.holds _ (hs _ (.head _)))]; rfl
def aUm (b : Nat) (cap : Int) (ms : List Mark) (t : Int) (l : AB) (G : aC) (v : AH) (H : aC) : Prop :=
 v = .int .i64 (jO ms t) ∧ ((jO ms t ≠ 0 ∧ H = G) ∨ (jO ms t = 0 ∧ ∃ mk G' D', mk.t = t ∧ mk.l = l ∧ mk.l.length ≤ mk.c ∧ H = G' ++ D' ∧ nX b cap (addM cap.toNat ms mk) G' ∧ Byt l (.slice mk.a l.length mk.c) D'))
def aGF {b b9 c9 : Nat} {cap : Int} {ms tt : List Mark} {mk : Mark} {sp8 : AA} (hT : thinL (ms ++ [mk]) = tt) (ho : cap.toNat < tt.length) (h2 : 1 ≤ cap.toNat) (hcl : tt.length ≤ c9) (hmx : c9 ≤ maxLen)
  (hsp : (aF cm (tt.take 1 ++ tt.drop (1 + (tt.length - cap.toNat))) ++ sp8).length = c9 * 2) :
  nX b cap (addM cap.toNat ms mk) [(b, blk [.slice (Q_ b9) (1 + (tt.length - (1 + (tt.length - cap.toNat)))) c9, .int .i64 cap] 215), (b9, blk (aF cm (tt.take 1 ++ tt.drop (1 + (tt.length - cap.toNat))) ++ sp8) 228)] := by
 have hl : (tt.take 1 ++ tt.drop (1 + (tt.length - cap.toNat))).length = 1 + (tt.length - (1 + (tt.length - cap.toNat))) := by
  rw [La_, Lt_, Ld_]; omega
 refine ⟨_, _, rfl, ?_⟩
 unfold addM cutL
 rw [hT, ← hl]
 exact vR hsp (by rw [hl]; omega) hmx
end Go.Proofs.YtacejanlmhbddaaGreat.Tm
namespace Go.Proofs.YtacejanlmhbddaaGreat.Tm
open Go Go.VV Go.Proofs Go.Proofs.Tryz
def new_fn (n : Int) (w : AI) :
  aB prog 45 [.int .i64 n] w [] (fun v H => ∃ b, v = P_ b ∧ H = [(b, blk [.slice none 0 0, .int .i64 (max 2 (min n 256))] 215)]) := by
 refine dR_ func45 ?_
 refine A_7 ?_
 refine RY (gH rfl rfl) rfl (RY (kD rfl rfl) rfl (RS ?_))
 refine RX (cM rfl rfl) rfl ?_
 rintro _ _ ⟨b7, rfl, rfl⟩
 refine A_3 ?_
 exact EV rfl sR_ ⟨_, rfl, rfl⟩
def last_fn (b : Nat) (cap : Int) (ms : List Mark) (hlen : ms.length < 1000000000) (w : AI) (hL : LineW w b cap ms) :
  aB prog 53 [P_ b] w [] (V_ (.tuple #[.int .u64 (eP ms), .bool (decide (ms.length ≠ 0))])) := by
 obtain ⟨a, c, q0, qc, q1, hE⟩ := hL
 refine dR_ func53 ?_
 refine A_14 ?_
 refine RZ (aE rfl rfl (aV q0 y_r)) rfl (RY l_n rfl (A_3 ?_))
 refine KC (fun h1 h1n => ?_) (fun h1 h1n => ?_)
 ·refine A_6 ?_
  exact aG (fun _ _ => bX rfl rfl) ⟨rfl, by rw [aKm y_a]⟩
 refine A_2 ?_
 obtain ⟨br, off, rfl, hr⟩ := hE y_a
 refine DR [4, 5, 6, 7, 8, 9] (pln [0, 2, 4, 6, 8, 10, 12, 14, 16, 18, 20, 22, 24, 26, 28]) ?_
 refine A_3 ?_
 refine DL rfl rfl rfl (eB q0 y_r) rfl (A_3 ?_)
 refine DL rfl rfl rfl (eB q0 y_r) rfl (DY rfl l_n rfl (DW (v := (.int .i64 ((ms.length - 1 : Nat) : Int))) rfl rfl rfl (by simp only [Value.int.injEq, true_and]; rw [aL o_m o_m]; (try simp only [decide_eq_true_eq, decide_eq_false_iff_not, beq_iff_eq, beq_eq_false_iff_ne, bne_iff_ne, bne_eq_false_iff_eq, ne_eq] at *); omega) (DY rfl (bG (ms.length - 1) rfl rfl rfl rfl y_a) rfl ?_)))
 refine A_1 ?_
 refine DL rfl rfl rfl (eB (aAb hr y_a) y_r) rfl (A_4 ?_)
 exact aG (fun _ _ => bX rfl rfl) ⟨rfl, by rw [aKF y_a]⟩
def aLz (m : Mark) (x : Int) (w : AI) :
  aB prog 181 [.agg (cm m).toArray, .int .u64 x] w [] (V_ (.int .i64 (cmpI m.t x))) := by
 refine dR_ func181 ?_
 refine A_2 ?_
 refine RX (cM rfl rfl) rfl ?_
 rintro _ _ ⟨b2, rfl, rfl⟩
 refine A_12 ?_
 refine KC (fun h1 h1n => ?_) (fun h1 h1n => ?_)
 ·refine A_5 ?_
  exact E0 rfl ⟨rfl, cA_ _ (aSX h1)⟩
 refine A_8 ?_
 refine KC (fun h2 h2n => ?_) (fun h2 h2n => ?_)
 ·refine A_5 ?_
  exact E0 rfl ⟨rfl, cA_ _ (aR9 h1 h2)⟩
 refine A_6 ?_
 exact E0 rfl ⟨rfl, cA_ _ (aSU h1 h2)⟩
def aKQ (a : AC) (c : Nat) (ms : List Mark) (hR : Rise ms) (hlen : ms.length < 1000000000) (x : Int) (w : AI) (hE : Els w cm a ms) :
  aB prog 180 [.slice a ms.length c, .int .u64 x, .func (.func 181) #[] #[]] w [] (V_ (.tuple #[.int .i64 (fH ms x), .bool (mX ms x)])) := by
 refine dR_ func180 ?_
 refine A_8 ?_
 refine RY l_n rfl (A_10 ?_)
 refine nL (σ := Nat × Nat) [9, 10, 11, 15, 16, 17, 18, 19, 20, 21, 22, 23, 24, 25, 26, 27, 28, 29, 30, 31, 32, 33, 34] (fun s => [(9, .int .i64 s.1), (10, .int .i64 s.2)]) (fun s => s.1 ≤ fH ms x ∧ fH ms x ≤ s.2 ∧ s.2 ≤ ms.length) (fun s => s.2 - s.1) (0, ms.length) ?_ ?_ ?_
 ·exact ⟨al _, aGs _ _, av _⟩
 ·exact .cons rfl (.cons rfl .nil)
 rintro ⟨lo, hi⟩ y ⟨hlo, hcl, hhi⟩
 simp only at hlo hcl hhi ⊢
 refine A_7 ?_
 refine KC (fun h1 h1n => ?_) (fun h1 h1n => ?_)
 ·refine A_9 ?_
  refine RW (v := (.int .i64 (((lo + hi) / 2 : Nat) : Int))) rfl rfl (cA_ _ (aRR y_a y_a)) (A_3 ?_)
  obtain ⟨br, off, rfl, hr⟩ := hE y_a
  refine A_4 ?_
  refine RY (bG ((lo + hi) / 2) rfl rfl rfl rfl y_a) rfl (RZ (aK rfl rfl rfl (aN (pC hr y_a) y_r)) rfl (A_1 ?_))
  refine RZ (xE (A := []) (B := []) rfl K_ rfl (wQ_ (aLz _ x))) rfl (A_2 ?_)
  refine KC (fun h2 h2n => ?_) (fun h2 h2n => ?_)
  ·refine A_5 ?_
   exact ⟨((lo + hi) / 2 + 1, hi), ⟨aQ5 hR y_a h2, hcl, hhi⟩, y_dP, .cons (cA_ _ (bC o_m)) (.cons rfl .nil), a_g, fun _ h => h⟩
  refine A_4 ?_
  exact ⟨(lo, (lo + hi) / 2), ⟨hlo, aPN hR y_a h2, y_dP⟩, y_dP, .cons rfl (.cons rfl .nil), a_g, fun _ h => h⟩
 refine A_2 ?_
 obtain rfl : lo = fH ms x := by (try simp only [decide_eq_true_eq, decide_eq_false_iff_not, beq_iff_eq, beq_eq_false_iff_ne, bne_iff_ne, bne_eq_false_iff_eq, ne_eq] at *); omega
 refine A_5 ?_
 refine KL (fun h3 h3n => ?_) (fun h3 h3n => ?_)
 ·refine A_3 ?_
  obtain ⟨br, off, rfl, hr⟩ := hE y_a
  refine RY (bG (fH ms x) rfl rfl rfl rfl y_a) rfl (RZ (aK rfl rfl rfl (aN (pC hr y_a) y_r)) rfl (A_1 ?_))
  refine RZ (xE (A := []) (B := []) rfl K_ rfl (wQ_ (aLz _ x))) rfl (A_6 ?_)
  exact aG (fun _ _ => bX rfl rfl) ⟨rfl, by rw [show (cmpI (ms.getD (fH ms x) m0).t x == 0) = mX ms x from aNm hR y_a]⟩
 refine A_13 ?_
 exact aG (fun _ _ => bX rfl rfl) ⟨rfl, by rw [aKy (ms := ms) (x := x) y_a]⟩
def aLD (b : Nat) (cap : Int) (ms : List Mark) (hR : Rise ms) (hlen : ms.length < 1000000000) (x : Int) (w : AI) (hL : LineW w b cap ms) :
  aB prog 143 [P_ b, .int .u64 x] w [] (V_ (.int .i64 (bef ms x))) := by
 obtain ⟨a, c, q0, qc, q1, hE⟩ := hL
 refine dR_ func143 ?_
 refine A_17 ?_
 refine RZ (aE rfl rfl (aV q0 y_r)) rfl (A_1 ?_)
 refine RLv K_ (fun w hw => aKQ a c ms hR hlen x w (hE.later0 hw)) ?_
 refine A_11 ?_
 refine KC (fun h1 h1n => ?_) (fun h1 h1n => ?_)
 ·refine A_6 ?_
  exact E0 rfl ⟨rfl, cA_ _ (aQg hR h1)⟩
 refine A_8 ?_
 exact E0 rfl ⟨rfl, cA_ _ (aOq hR hlen h1)⟩
def nG (a : AC) (c : Nat) (l : AB) (hl : l.length ≤ 140737488355328) (w : AI) (hN : aAV w a l) :
  aB prog 137 [.slice a l.length c] w [] (fun v H => Byt l v H) := by
 refine dR_ func137 ?_
 refine A_6 ?_
 rcases hN with ⟨rfl, rfl⟩ | ⟨ab, ao, rfl, hr⟩
 ·refine A_10 ?_
  exact E0 rfl .nil
 refine A_8 ?_
 refine RX (aAC (el := 5) (n := 1) rfl) rfl ?_
 rintro _ _ ⟨b5, rfl, rfl⟩
 refine A_1 ?_
 refine RX (gD (A := []) (G := [(b5, blk [] 5)]) (R := []) (v := .slice (Q_ b5) 0 0) (n := 0) (xs := []) (m := l.length) (by_ := 1) (ys := l.map (.int .u8)) rfl rfl rfl rfl (.row b5 0 0 [] [] rfl rfl y_b (av 0)) (fun w hw => .row _ _ _ _ _ (by simp : (l.map U_).length = l.length * 1) (aN hr y_r w hw)) (dZ _ _) o_m o_m) rfl ?_
 rintro v7 _ ⟨G7, hV7, hnil7, rfl⟩
 refine wA (v := v7) rfl rfl rfl ?_
 refine A_2 ?_
 exact fM (fun _ _ => zB rfl) (cn _ _) (by rw [bi] at hV7; exact hV7)
def Before_fn (b : Nat) (cap : Int) (ms : List Mark) (hR : Rise ms) (hlen : ms.length < 1000000000) (x : Int) (w : AI) (hL : LineW w b cap ms) (hD : aGI w ms) :
  aB prog 95 [P_ b, .int .u64 x] w [] (fun v H => ∃ dv, v = .tuple #[.int .u64 (befM ms x).t, dv, .bool (decide (0 ≤ bef ms x))] ∧ Byt (befM ms x).l dv H) := by
 obtain ⟨a, c, q0, qc, q1, hE⟩ := hL
 refine dR_ func95 ?_
 refine A_10 ?_
 refine RLv K_ (fun w hw => aLD b cap ms hR hlen x w (LineW.later0 ⟨a, c, q0, qc, q1, hE⟩ hw)) ?_
 refine A_8 ?_
 refine KC (fun h1 h1n => ?_) (fun h1 h1n => ?_)
 ·refine A_7 ?_
  exact aG (fun _ _ => aHq rfl rfl rfl) ⟨_, aG6 y_a, by rw [aEM y_a]; exact .nil⟩
 refine A_2 ?_
 obtain ⟨hb1, hb2⟩ := bef_lt (ms := ms) (x := x) y_a
 obtain ⟨br, off, rfl, hr⟩ := hE o_m
 have hM := hD (ms.getD (bef ms x).toNat m0) (by rw [pN y_a]; exact befM_mem y_a)
 refine DR [4, 8, 9, 10, 11, 12, 13, 14, 15, 16] (pln [0, 2, 4, 6, 8, 10, 12, 14, 16, 18, 20, 22, 24, 26, 28, 30, 33, 34, 36, 38]) ?_
 refine A_3 ?_
 refine DL rfl rfl rfl (eB q0 y_r) rfl (A_1 ?_)
 refine DY rfl (bG (bef ms x).toNat rfl rfl rfl hb2.symm hb1) rfl (A_1 ?_)
 refine DL rfl rfl rfl (eB (aAb hr hb1) y_r) rfl (A_3 ?_)
 refine DL rfl rfl rfl (eB q0 y_r) rfl (A_1 ?_)
 refine DY rfl (bG (bef ms x).toNat rfl rfl rfl hb2.symm hb1) rfl (A_1 ?_)
 refine DL rfl rfl rfl (eB (aSa hr hb1) y_r) rfl (DX rfl (bI K_ rfl (fun w hw => nG _ _ (ms.getD (bef ms x).toNat m0).l (hM.2.1) w (hM.2.2.later0 hw))) rfl (by intro _ _ _ hK x hx; obtain ⟨G29, hV29, rfl⟩ := hK; repeat (first | exact hx | exact mL_ _ hx | refine mR_ _ ?_ | refine .tail _ ?_)) ?_)
 rintro v29 _ ⟨G29, hV29, rfl⟩
 refine A_1 ?_
 refine aPm (v := v29) rfl rfl rfl rfl ?_
 refine A_3 ?_
 exact fM (fun _ _ => aCU rfl rfl rfl) (cn _ _) ⟨v29, aHc y_a v29, by rw [← pN y_a]; exact hV29⟩
def marks_fn (b : Nat) (cap : Int) (ms : List Mark) (hlen : ms.length < 1000000000) (w : AI) (hL : LineW w b cap ms) :
  aB prog 52 [P_ b] w [] (fun v H => Vec 36 1 v ms.length ((times ms).map (.int .u64)) H) := by
 obtain ⟨a, c, q0, qc, q1, hE⟩ := hL
 refine dR_ func52 ?_
 refine A_22 ?_
 refine RZ (aE rfl rfl (aV q0 y_r)) rfl (RY l_n rfl (A_3 ?_))
 refine bD (σ := Nat × AH × aC) [3, 5, 13, 14, 15, 16, 17, 18, 19, 20, 21, 22] (fun s => [(3, s.2.1), (13, .int .i64 s.1)]) (fun s => s.2.2 ++ []) (fun s => s.1 ≤ ms.length ∧ Vec 36 1 s.2.1 s.1 ((times (ms.take s.1)).map (.int .u64)) s.2.2) (fun s => ms.length - s.1) (0, .slice none 0 0, []) ?_ ?_ ?_ ?_
 ·exact ⟨al _, .nil⟩
 ·exact .cons rfl (.cons rfl .nil)
 ·exact fun _ h => h
 rintro ⟨k, v, G⟩ y ⟨hk, hV⟩
 simp only at hk hV ⊢
 refine A_5 ?_
 refine KC (fun h1 h1n => ?_) (fun h1 h1n => ?_)
 ·refine A_4 ?_
  obtain ⟨br, off, rfl, hr⟩ := hE y_a
  refine A_1 ?_
  refine RY (bG k rfl rfl rfl rfl y_a) rfl (RZ (aK rfl rfl rfl (aN (pC hr y_a) y_r)) rfl (RX (cG rfl) rfl ?_))
  rintro _ _ ⟨b5, rfl, rfl⟩
  refine RZ s_t rfl (A_2 ?_)
  refine aIJ (v := v) rfl rfl rfl ?_
  refine A_2 ?_
  refine RX (dX rfl rfl rfl rfl rfl rfl) rfl ?_
  rintro _ _ ⟨b20, rfl, rfl⟩
  refine RX (gD (A := [_, _]) (G := G) (R := []) (v := v) (n := k) (m := 1) (by_ := 8) rfl rfl rfl rfl hV (fun w hw => .row _ _ _ _ _ rfl (aA m_m w hw)) rfl o_m o_m) rfl ?_
  rintro v21 _ ⟨G', hV', hnil, rfl⟩
  refine wA (v := v21) rfl rfl rfl ?_
  refine A_5 ?_
  exact ⟨(k + 1, v21, G'), ⟨y_dP, by simp only; rw [aJe y_a]; exact hV'⟩, y_dP, .cons rfl (.cons (cA_ _ (bC o_m)) .nil), a_g, (fun _ h => h.sub y_D)⟩
 refine A_3 ?_
 refine aIJ (v := v) rfl rfl rfl ?_
 refine wA (v := v) rfl rfl rfl ?_
 refine A_2 ?_
 obtain rfl : k = ms.length := by (try simp only [decide_eq_true_eq, decide_eq_false_iff_not, beq_iff_eq, beq_eq_false_iff_ne, bne_iff_ne, bne_eq_false_iff_eq, ne_eq] at *); omega
 rw [db] at hV
 exact fM (fun _ _ => zB rfl) (cn _ _) hV
end Go.Proofs.YtacejanlmhbddaaGreat.Tm
