/- Parts. -/
import Derived.Test.YthigpmaadmneaaaGreatDoorQsI
set_option maxRecDepth 100000
set_option maxHeartbeats 1000000
set_option linter.all false
namespace Go.Proofs.YthigpmaadmneaaaGreatDoor
open Go Go.VV Go.Proofs Go.RowKit Go.Proofs.Tryz
set_option maxHeartbeats 4000000 in
def aHd (A : Ad) (aa : AC) (an ac : Nat) (m : Mm) (h : m.Wf) (hr : m.cpu.r.Ok) (hrl : m.ram.length ≤ 200000) (hon : fL [(.slice aa an ac), A.plan, A.tab] = true) (a : AC) (c : Nat) (l : AB) (hby : bE l) (hlm : l.length ≤ 900000) (hlc : l.length ≤ c) (ms : AE) (w : AI) (hst : St w ms [(A.ub, J (cU m.u) 172), (A.mb, J (cMm A (.slice aa an ac) m) 134), (A.rb, J (m.ram.map Z ++ A.rs) 5)] w) (hB : Ns w .u8 a l) (hpn : ∀ p, a = some p → p.block ∉ ms) : aG prog 149 [P_ A.mb, .slice a l.length c] w ms (fun v H => v = .int .i64 (sE m l) ∧ ∃ A' aa' an' ac', Ad.Kept A A' ∧ H = [(A.ub, J (cU (uN m l).u) 172), (A.mb, J (cMm A' (.slice aa' an' ac') (uN m l)) 134), (A'.rb, J ((uN m l).ram.map Z ++ A'.rs) 5)]) := by
 have hea := yF h
 have hon0 : fL [.slice none 0 0, A.plan, A.tab] = true := hon
 refine cE func149 hst ?_
 refine rB ?_
 refine aI ?_
 refine RX (cX (F := [(A.ub, J (cU m.u) 172)]) (A := [(A.mb, J (cMm A (.slice aa an ac) m) 134), (A.rb, J (m.ram.map Z ++ A.rs) 5)]) (R := fun v H => ∃ b c sp, v = .slice (Q_ b) (fM m).length c ∧ (fM m).length ≤ c ∧ H = (b, J ((fM m).map Z ++ sp) 5) :: [(A.mb, J (cMm A (.slice aa an ac) m) 134), (A.rb, J (m.ram.map Z ++ A.rs) 5)]) K_ U (fun w hw => J1 A (.slice aa an ac) m h hr hrl _ w (St.lentV hw) (aH (b := A.ub) (bD _ (.head _)) w hw) (St.apartT (G := []) hw))) U ?_
 rintro _ _ ⟨_, ⟨b0, c0, sp0, rfl, hle12, rfl⟩, rfl⟩
 refine cZ (H' := [(A.ub, J (cU m.u) 172), (A.mb, J (cMm A (.slice aa an ac) m) 134), (A.rb, J (m.ram.map Z ++ A.rs) 5)]) (fun w hw => hw.sub (.cons_cons _ (.cons _ aJ))) ?_
 refine gZ ?_
 refine aI ?_
 refine oS ?_
 refine KC (fun q0 z0 => ?_) (fun q0 z0 => ?_)
 ·refine ZBn ?_
  have e9 := aKA (m := m) (l := l) I
  exact EV U aJ ⟨aD _ e9, A, aa, an, ac, ⟨U, U, U, U, U, U, U⟩, by rw [Xa e9 M]⟩
 refine ZAm ?_
 have hln : l.length = (fM m).length := by omega
 refine ZAm ?_
 refine RX (cQ K_ U (fun w hw => aJU A (.slice aa an ac) m h hrl hon w (aH (b := A.mb) (.tail _ (.head _)) w hw) (aH (b := A.ub) (.head _) w hw) (aK.left (aH (b := A.rb) (.tail _ (.tail _ (.head _))) w hw)))) U ?_
 rintro _ _ ⟨_, ⟨b1, b0, bc, cc, sp, rfl, hcc, rfl⟩, rfl⟩
 refine eP ?_
 refine ZBn ?_
 obtain ⟨ba, oa, rfl, hrowa⟩ := hB.row (i := 0) I
 refine RX (cQ K_ U (fun w hw => xX ba oa c l I w (hB.later hpn hw))) U ?_
 rintro _ _ ⟨_, ⟨b2, cx1, sp1, rfl, hc0, rfl⟩, rfl⟩
 refine eP ?_
 refine RY (rV (l := [(.slice (Q_ b2) l.length cx1), .bool true]) U U U U) U (RX (eM (l := [(.slice (Q_ b2) l.length cx1), .bool true]) U U) U ?_)
 rintro _ _ ⟨b3, rfl, rfl⟩
 refine ZA7 ?_
 refine kG (L' := [(b0, J (cU (lD jV (fQ m.u))) 172), (A.ub, J (cU m.u) 172), (A.mb, J (cMm A (.slice aa an ac) m) 134), (A.rb, J (m.ram.map Z ++ A.rs) 5)] ++ ((b3, J [(.slice (Q_ b2) l.length cx1), .bool true] 144) :: (([(b2, J (l.map Z ++ sp1) 5)] ++ [(b1, J (cMm ({ A with mb := b1, ub := b0, rb := bc, rc := cc, rs := sp } : Ad) (.slice none 0 0) m) 134)]) ++ [(bc, J (m.ram.map Z ++ sp) 5)]))) (fun w hw => St.perm_ix 8 [2, 5, 6, 7, 0, 1, 4, 3] M U U hw) ?_
 refine ZA7 ?_
 refine RX (cX (F := [(b0, J (cU (lD jV (fQ m.u))) 172), (A.ub, J (cU m.u) 172), (A.mb, J (cMm A (.slice aa an ac) m) 134), (A.rb, J (m.ram.map Z ++ A.rs) 5)]) (A := (b3, J [(.slice (Q_ b2) l.length cx1), .bool true] 144) :: (([(b2, J (l.map Z ++ sp1) 5)] ++ [(b1, J (cMm ({ A with mb := b1, ub := b0, rb := bc, rc := cc, rs := sp } : Ad) (.slice none 0 0) m) 134)]) ++ [(bc, J (m.ram.map Z ++ sp) 5)])) (R := fun v H => v = .tuple #[] ∧ ∃ va' Gl', LineB 5 true va' (l.drop (8482 + m.ram.length)) Gl' ∧ H = (b3, J [va', .bool true] 144) :: ((Gl' ++ [(b1, J (cMm ({ A with mb := b1, ub := b0, rb := bc, rc := cc, rs := sp } : Ad) (.slice none 0 0) (fG m l)) 134)]) ++ [(bc, J ((fG m l).ram.map Z ++ sp) 5)])) K_ U (fun w hw => (aDx true b3 b1 bc m.ram.length cc hrl (.slice (Q_ b2) l.length cx1) [(b2, J (l.map Z ++ sp1) 5)] (cMm ({ A with mb := b1, ub := b0, rb := bc, rc := cc, rs := sp } : Ad) (.slice none 0 0) m, l) ⟨b2, 0, cx1, _, U, hc0, U, fun j v hv => by rw [cg]; exact lM hv⟩ ⟨O8 h hr, ⟨hby, fun _ => (show 8482 + m.ram.length ≤ l.length by omega), (show l.length + (8482 + m.ram.length) ≤ 1000000 by omega)⟩⟩ (m.ram.map Z ++ sp) (aAk h sp) (get_mid (A := ({ A with mb := b1, ub := b0, rb := bc, rc := cc, rs := sp } : Ad)) h.ln (j := 15) U) _ w (St.lentV hw)).mono fun v H ⟨e1, va', Gl', e2, e3⟩ => ⟨e1, va', Gl', (by rw [aCZ l hby h.ln I, Y5 sp I] at e2; exact e2), (by rw [aCZ l hby h.ln I, Y5 sp I, aMt h hln] at e3; exact e3)⟩)) U ?_
 rintro _ _ ⟨_, ⟨rfl, va0, G0, hV0, rfl⟩, rfl⟩
 obtain ⟨cb, off, c2, all, rfl, hle23, rfl, hall⟩ := hV0.read
 refine cZ (H' := [(b0, J (cU (lD jV (fQ m.u))) 172), (A.ub, J (cU m.u) 172), (A.mb, J (cMm A (.slice aa an ac) m) 134), (A.rb, J (m.ram.map Z ++ A.rs) 5), (b3, J [(.slice (some ⟨cb, off, none⟩) (l.drop (8482 + m.ram.length)).length c2), .bool true] 144), (cb, J all 5), (b1, J (cMm ({ A with mb := b1, ub := b0, rb := bc, rc := cc, rs := sp } : Ad) (.slice none 0 0) (fG m l)) 134), (bc, J ((fG m l).ram.map Z ++ sp) 5)]) (fun _ h => h) ?_
 refine ZA7 ?_
 refine DR [4, 5, 6, 7] (bW [0, 2, 4, 6, 8, 10, 12, 14, 17, 18, 20, 22, 26, 25, 29, 30, 32]) ?_
 refine ZA7 ?_
 have hln9 := (aEK h hby (show 8482 ≤ l.length by omega)).ln
 have hln1 : dY (fG m l) := ⟨hln9.bd, hln9.work, hln9.high⟩
 refine DL U U U (eN (v := P_ b0) aE (get_mid (A := ({ A with mb := b1, ub := b0, rb := bc, rc := cc, rs := sp } : Ad)) (m := (fG m l)) (acc := (.slice none 0 0)) hln1 (j := 14) U)) U (ZA7 ?_)
 refine DL U U U (eN (v := (.slice (some ⟨cb, off, none⟩) (l.drop (8482 + m.ram.length)).length c2)) aE U) U (DX U (eO (F := []) (A := [(b0, J (cU (lD jV (fQ m.u))) 172)]) (G := [(A.ub, J (cU m.u) 172), (A.mb, J (cMm A (.slice aa an ac) m) 134), (A.rb, J (m.ram.map Z ++ A.rs) 5), (b3, J [(.slice (some ⟨cb, off, none⟩) (l.drop (8482 + m.ram.length)).length c2), .bool true] 144), (cb, J all 5), (b1, J (cMm ({ A with mb := b1, ub := b0, rb := bc, rc := cc, rs := sp } : Ad) (.slice none 0 0) (fG m l)) 134), (bc, J ((fG m l).ram.map Z ++ sp) 5)]) (R := fun v H => v = .int .i64 (lK (l.drop (8482 + m.ram.length))) ∧ H = [(b0, J (cU (lD (lD jV (fQ m.u)) (l.drop (8482 + m.ram.length)))) 172)]) K_ U (fun w hw hw2 => Wt b0 (lD jV (fQ m.u)) (aJH Rv (enc_byts h.u.wf)) w hw (some ⟨cb, off, none⟩) c2 (l.drop (8482 + m.ram.length)) (uP hby _) hle23 (Ns.of (aDj (aH (b := cb) (bD _ (.tail _ (.tail _ (.tail _ (.tail _ (.head _)))))) w hw2) hall)) (fun p hp => by cases hp; exact fun e => St.apartT (A := [(b0, J (cU (lD jV (fQ m.u))) 172)]) (x := (cb, J all 5)) (G := _) (St.perm_ix 8 [0, 5, 1, 2, 3, 4, 6, 7] M rfl rfl hw2) (show _ ∈ [_] from List.mem_singleton.2 e)))) U aW (ZBQ ?_))
 refine jC (H' := [(b0, J (cU (lD (lD jV (fQ m.u)) (l.drop (8482 + m.ram.length)))) 172), (A.ub, J (cU m.u) 172), (A.mb, J (cMm A (.slice aa an ac) m) 134), (A.rb, J (m.ram.map Z ++ A.rs) 5), (b3, J [(.slice (some ⟨cb, off, none⟩) (l.drop (8482 + m.ram.length)).length c2), .bool true] 144), (cb, J all 5), (b1, J (cMm ({ A with mb := b1, ub := b0, rb := bc, rc := cc, rs := sp } : Ad) (.slice none 0 0) (fG m l)) 134), (bc, J ((fG m l).ram.map Z ++ sp) 5)]) (fun _ h => h) ?_
 refine ZBE ?_
 refine KE (fun q1 z1 => ?_) (fun q1 z1 => ?_)
 ·refine ZAm ?_
  refine N1 U U U ?_
  refine N1 U U U ?_
  refine bZ ?_
  have e9 := aGr (m := m) (l := l) hln oZ
  exact EV U (.cons _ (.cons_cons _ (.cons_cons _ (.cons_cons _ (du _))))) ⟨aD _ e9, A, aa, an, ac, ⟨U, U, U, U, U, U, U⟩, by rw [Xa e9 M]⟩
 refine ZAm ?_
 have hd0 : lK (l.drop (8482 + m.ram.length)) = 0 := by simpa using q1
 have e39 : lD (lD jV (fQ m.u)) (l.drop (8482 + m.ram.length)) = (fG m l).u := Xv hd0.symm
 rw [e39]
 have hw1 : (fG m l).Wf := aIH h hby hln hd0
 have hr1 : (fG m l).cpu.r.Ok := aLi hby
 have hl1 : (fG m l).ram.length = m.ram.length := Vk h hln
 refine DX U (cX (F := [(b0, J (cU (fG m l).u) 172), (A.ub, J (cU m.u) 172), (A.mb, J (cMm A (.slice aa an ac) m) 134), (A.rb, J (m.ram.map Z ++ A.rs) 5), (b3, J [(.slice (some ⟨cb, off, none⟩) (l.drop (8482 + m.ram.length)).length c2), .bool true] 144), (cb, J all 5)]) (A := [(b1, J (cMm ({ A with mb := b1, ub := b0, rb := bc, rc := cc, rs := sp } : Ad) (.slice none 0 0) (fG m l)) 134), (bc, J ((fG m l).ram.map Z ++ sp) 5)]) (R := fun v H => ∃ b9 c9 s9, v = .slice (Q_ b9) (fM (fG m l)).length c9 ∧ (fM (fG m l)).length ≤ c9 ∧ H = (b9, J ((fM (fG m l)).map Z ++ s9) 5) :: [(b1, J (cMm ({ A with mb := b1, ub := b0, rb := bc, rc := cc, rs := sp } : Ad) (.slice none 0 0) (fG m l)) 134), (bc, J ((fG m l).ram.map Z ++ sp) 5)]) K_ U (fun w hw => J1 ({ A with mb := b1, ub := b0, rb := bc, rc := cc, rs := sp } : Ad) (.slice none 0 0) (fG m l) hw1 hr1 I _ w (St.lentV hw) (aH (b := b0) (bD _ (.head _)) w hw) (St.apartT (A := [(b1, J (cMm ({ A with mb := b1, ub := b0, rb := bc, rc := cc, rs := sp } : Ad) (.slice none 0 0) (fG m l)) 134), (bc, J ((fG m l).ram.map Z ++ sp) 5)]) (x := (b0, J (cU (fG m l).u) 172)) hw))) U aW ?_
 rintro _ _ ⟨_, ⟨b4, c3, sp2, rfl, hle39, rfl⟩, rfl⟩
 refine eP ?_
 refine DZ U (dG K_ U (fun w hw => aQ4 _ _ c3 c (fM (fG m l)) l (by rw [yF hw1]; omega) I w (Ns.of (aK.left (aH (b := b4) aE w hw))) (hB.later hpn hw))) U aW (ZA7 ?_)
 refine KC (fun q2 z2 => ?_) (fun q2 z2 => ?_)
 ·refine ZBn ?_
  have e9 := aMg (m := m) (l := l) hln (by simpa using q2)
  exact EV U (.cons _ (.cons_cons _ (.cons_cons _ (.cons_cons _ (du _))))) ⟨aD _ e9, A, aa, an, ac, ⟨U, U, U, U, U, U, U⟩, by rw [Xa e9 M]⟩
 refine aI ?_
 refine W (aX U U (bN (v := P_ A.ub) aE (get_mid (A := A) (m := m) (acc := (.slice aa an ac)) h.ln (j := 14) U))) U (bA ?_)
 refine W (aX U U (bN (v := (.slice (some ⟨cb, off, none⟩) (l.drop (8482 + m.ram.length)).length c2)) aE U)) U (cZ (H' := [(A.ub, J (cU m.u) 172)] ++ ([(cb, J all 5), (b0, J (cU (fG m l).u) 172), (A.mb, J (cMm A (.slice aa an ac) m) 134), (b3, J [(.slice (some ⟨cb, off, none⟩) (l.drop (8482 + m.ram.length)).length c2), .bool true] 144), (b4, J ((fM (fG m l)).map Z ++ sp2) 5), (b1, J (cMm ({ A with mb := b1, ub := b0, rb := bc, rc := cc, rs := sp } : Ad) (.slice none 0 0) (fG m l)) 134), (A.rb, J (m.ram.map Z ++ A.rs) 5), (bc, J ((fG m l).ram.map Z ++ sp) 5)])) (fun w hw => St.perm_ix 9 [1, 5, 0, 2, 4, 6, 7, 3, 8] M U U hw) ?_)
 refine RX (eO (F := []) (A := [(A.ub, J (cU m.u) 172)]) (G := [(cb, J all 5), (b0, J (cU (fG m l).u) 172), (A.mb, J (cMm A (.slice aa an ac) m) 134), (b3, J [(.slice (some ⟨cb, off, none⟩) (l.drop (8482 + m.ram.length)).length c2), .bool true] 144), (b4, _), (b1, J (cMm ({ A with mb := b1, ub := b0, rb := bc, rc := cc, rs := sp } : Ad) (.slice none 0 0) (fG m l)) 134), (A.rb, J (m.ram.map Z ++ A.rs) 5), (bc, J ((fG m l).ram.map Z ++ sp) 5)]) (R := fun v H => v = .int .i64 (lK (l.drop (8482 + m.ram.length))) ∧ H = [(A.ub, J (cU (lD m.u (l.drop (8482 + m.ram.length)))) 172)]) K_ U (fun w hw hw2 => Wt A.ub m.u h.u.wf w hw (some ⟨cb, off, none⟩) c2 (l.drop (8482 + m.ram.length)) (uP hby _) hle23 (Ns.of (aDj (aH (b := cb) (bD _ (.head _)) w hw2) hall)) (fun p hp => by cases hp; exact fun e => St.apartT (A := [(A.ub, J (cU m.u) 172)]) (x := (cb, J all 5)) (G := _) hw2 (show _ ∈ [_] from List.mem_singleton.2 e)))) U (ZBQ ?_)
 have e53 : lD m.u (l.drop (8482 + m.ram.length)) = (fG m l).u := Xv hd0.symm
 rw [e53]
 refine eP ?_
 refine aI ?_
 refine W (bX U U (by rw [cMm_len hw1.ln]; rfl) (aH (b := b1) (l := cMm ({ A with mb := b1, ub := b0, rb := bc, rc := cc, rs := sp } : Ad) (.slice none 0 0) (fG m l)) aE)) U (ZBE ?_)
 refine W (bF (l' := cMm ({ A with mb := b1, ub := b0, rb := bc, rc := cc, rs := sp } : Ad) (.slice none 0 0) (fG m l)) 3 U U U (by rw [cMm_len hw1.ln]; rfl) (aE2 (A := ({ A with mb := b1, ub := b0, rb := bc, rc := cc, rs := sp } : Ad)) hon0) U (by rw [cMm_len h.ln, cMm_len hw1.ln]; exact ai rfl) (Cb (by rw [cMm_len h.ln, cMm_len hw1.ln]))) U (eP ?_)
 refine ZDG ?_
 refine W (bF (l' := cMm ({ A with rb := bc, rc := cc, rs := sp } : Ad) (.slice none 0 0) (fG m l)) 3 U U U U U U (by rw [cMm_len hw1.ln]; exact ai rfl) (aEG hw1.ln A.ub)) U (eP ?_)
 refine aI ?_
 have e9 := aCY (m := m) (l := l) hln hd0 (by simpa using q2)
 exact EV U (.cons_cons _ (.cons _ (.cons _ (.cons_cons _ (.cons _ (.cons _ (.cons _ (.cons _ aJ)))))))) ⟨aD _ e9, ({ A with rb := bc, rc := cc, rs := sp } : Ad), none, 0, 0, ⟨U, U, U, U, U, U, U⟩, by rw [aFi e9]; rfl⟩
set_option maxHeartbeats 2000000 in
def aEP (a : AC) (c : Nat) (l : AB) (hl : l.length ≤ 100000000) (hb : bE l) (hlc : l.length ≤ c) (w : AI) (hB : Ns w .u8 a l) : aG prog 26 [.slice a l.length c] w [] (V_ (.tuple #[.agg (cHd (if errH l = 0 then hdH l else zHd)).toArray, .int .i64 (errH l)])) := by
 refine aT func26 ?_
 refine ZAm ?_
 refine RX (gG (l := cHd zHd) U) U (ZBN fun b0 => ?_)
 refine ZBy ?_
 refine RY (Ex (l := [.int .i64 0, .int .i64 2048, .int .i64 8192, .int .i64 32768, .int .i64 131072, .int .i64 65536]) (z := [.int .i64 0, .int .i64 0, .int .i64 0, .int .i64 0, .int .i64 0, .int .i64 0]) (ps := [(0, .int .i64 0), (1, .int .i64 2048), (2, .int .i64 8192), (3, .int .i64 32768), (4, .int .i64 131072), (5, .int .i64 65536)]) U U U aO) U (RX (gG (l := (List.replicate 6 (0 : Int)).map (Value.int .i64)) U) U ?_)
 rintro _ _ ⟨b1, rfl, rfl⟩
 refine W (bH (l' := sizesH.map (Value.int .i64)) 0) U (eP ?_)
 refine ZBn ?_
 refine gZ ?_
 refine ZAm ?_
 refine KC (fun q0 z0 => ?_) (fun q0 z0 => ?_)
 ·refine ZAm ?_
  refine RS ?_
  refine W (bH (l' := cHd zHd) 1) U (eP ?_)
  refine ZA7 ?_
  have e9 : errH l = 2 := by unfold errH; rw [ag I]
  exact aZ (fun w hw => gK U U U (aH (b := b0) (l := cHd zHd) aE w hw) U) ⟨U, La⟩
 refine ZBE ?_
 refine rR (σ := Nat) [5, 6, 15, 16, 17, 18, 19, 20, 21, 22] (fun b => [(5, P_ b), (6, .bool (sortH (l.getD 327 0)).isSome)]) (fun b => [(b, J (cSrt ((sortH (l.getD 327 0)).getD (0, false, false))) 161), (b1, J (sizesH.map (Value.int .i64)) 159), (b0, J (cHd zHd) 100)]) (fun _ => True) ?_ ?_
 ·obtain ⟨ba, oa, rfl, hra⟩ := hB.row (i := 0) I
  have hb7 := hb.get 327
  have hb8 := hb.get 328
  have hb9 := hb.get 329
  have hb4 := hb.get 334
  have hb5 := hb.get 335
  have hcut : cut1 oa 308 c = oa + 308 := sS I
  have hl15 : ((l.drop 308).take 15).length = 15 := by rw [fZ, dN]; omega
  refine DR [0, 8] (.step true 1 (.step true 2 (.step true 3 (.fork 0 (.fork 4 (.step true 5 (.step true 6 (.step true 7 (.step false 8 (.step false 9 (.step true 10 .done)))))) (.fork 8 (.step false 4 (.step true 5 (.step true 6 (.step true 7 (.step false 9 (.step true 10 .done)))))) .stop)) (.fork 8 (.step false 0 (.step false 4 (.step true 5 (.step true 6 (.step true 7 (.step false 9 (.step true 10 .done))))))) .stop))))) ?_
  refine ZBE ?_
  refine DY U (eB (n := l.length) 327 U U U U I) U (DL U U U (gD (hra _ _ (gJ (j := 327) I)) aL) U (oD ?_ ?_))
  ·refine DX U (cQ K_ U (aS aEh)) U Cw ?_
   rintro _ _ ⟨_, ⟨b2, rfl, rfl⟩, rfl⟩
   refine ZCE ?_
   refine oD ?_ ?_
   ·refine ZET ?_
    refine tB ?_
    refine ZAm ?_
    refine DX U (gG (l := cSrt (0, false, false)) U) U tM ?_
    rintro _ _ ⟨b3, rfl, rfl⟩
    refine DZ U Xh U aW (kB ?_)
    exact ⟨b3, trivial, .cons U (.cons U .nil), bJ, fun _ h => Wm⟩
   refine oD ?_ ?_
   ·refine DX U (gG (l := cSrt (0, false, false)) U) U tM ?_
    rintro _ _ ⟨b3, rfl, rfl⟩
    refine ZET ?_
    refine tB ?_
    refine ZAm ?_
    refine DZ U Xh U aW (kB ?_)
    exact ⟨b3, trivial, .cons U (.cons U .nil), bJ, fun _ h => Wm⟩
   exact yE
  refine oD ?_ ?_
  ·refine DX U (gG (l := cSrt (0, false, false)) U) U tM ?_
   rintro _ _ ⟨b2, rfl, rfl⟩
   refine DX U (cQ K_ U (aS aEh)) U Cw ?_
   rintro _ _ ⟨_, ⟨b3, rfl, rfl⟩, rfl⟩
   refine ZCE ?_
   refine DZ U (aAM (k := .u8) (l := sortE) (c := 19) (b := b3) (z := .agg (cSrt (0, false, false)).toArray) U U U U aE) U aW ?_
   rw [sort_ask]
   refine tB ?_
   refine ZAm ?_
   refine DZ U Xh U aW (kB ?_)
   exact ⟨b2, trivial, .cons U (.cons U .nil), bJ, fun _ h => Wm⟩
  exact yE
 rintro b2 y4 _
 obtain ⟨ba, oa, rfl, hra⟩ := hB.row (i := 0) I
 have hb7 := hb.get 327
 have hb8 := hb.get 328
 have hb9 := hb.get 329
 have hb4 := hb.get 334
 have hb5 := hb.get 335
 have hcut : cut1 oa 308 c = oa + 308 := sS I
 have hl15 : ((l.drop 308).take 15).length = 15 := by rw [fZ, dN]; omega
 refine ZBE ?_
 refine DR [3, 4, 5, 6, 7] (bW [0, 2, 4, 6, 8, 10, 12, 14, 16]) ?_
 refine ZBE ?_
 refine DY U (eB (n := l.length) 328 U U U U I) U (DL U U U (gD (hra _ _ (gJ (j := 328) I)) aL) U (ZBE ?_))
 refine DY U (eB (n := l.length) 329 U U U U I) U (DL U U U (gD (hra _ _ (gJ (j := 329) I)) aL) U (DW (v := (.int .i64 (l.getD 329 0))) U (gN U U U) U (tO I I) (aI ?_)))
 refine DR [3, 4] (bW [0, 2, 4, 6, 9, 10, 12]) ?_
 refine ZBE ?_
 refine DY U (eB (n := l.length) 333 U U U U I) U (DL U U U (gD (hra _ _ (gJ (j := 333) I)) aL) U (ZBE ?_))
 refine DZ U (dG K_ U (fun w hw => aQk (some ⟨ba, oa, none⟩) c l hl hb w (hB.later0 hw) I)) U jB ?_
 rw [ae (show ¬ l.length < 336 by omega)]
 refine ZA7 ?_
 refine KC (fun q1 z1 => ?_) (fun q1 z1 => ?_)
 ·refine ZAm ?_
  refine Ia ?_
  refine eP ?_
  refine ZA7 ?_
  have e9 : errH l = 4 := by unfold errH; rw [ae I, ag oZ]
  exact aZ (fun w hw => gK U U U (aH (b := b0) (l := cHd zHd) aE w hw) U) ⟨U, La⟩
 refine aI ?_
 refine KC (fun q2 z2 => ?_) (fun q2 z2 => ?_)
 ·refine ZAm ?_
  refine Ia ?_
  refine eP ?_
  refine ZA7 ?_
  have e9 : errH l = 5 := by unfold errH; rw [ae I, ae oZ]; rw [show sortH (l.getD 327 0) = none from by cases hh : sortH (l.getD 327 0) with | none => rfl | some s => (rw [hh] at q2; cases q2)]
  exact aZ (fun w hw => gK U U U (aH (b := b0) (l := cHd zHd) aE w hw) U) ⟨U, La⟩
 refine ZBE ?_
 obtain ⟨s9, hs0⟩ : ∃ s, sortH (l.getD 327 0) = some s := by
  cases hh : sortH (l.getD 327 0) with
  | none => rw [hh] at q2; cases q2
  | some s => exact ⟨s, rfl⟩
 refine ZA7 ?_
 refine KL (fun q3 z3 => ?_) (fun q3 z3 => ?_)
 ·refine bA ?_
  refine Ia ?_
  refine eP ?_
  refine ZA7 ?_
  exact ZCe
 refine ZBn ?_
 refine KC (fun q4 z4 => ?_) (fun q4 z4 => ?_)
 ·refine ZAm ?_
  refine Ia ?_
  refine eP ?_
  refine ZA7 ?_
  exact ZCe
 refine ZA7 ?_
 refine gZ ?_
 refine ZBE ?_
 refine RW (v := (.int .i64 (32768 * 2 ^ (l.getD 328 0).toNat))) (iM U U I) U (aD _ (aFj (.inr U) ⟨aR, aR⟩)) (ZA7 ?_)
 refine KC (fun q5 z5 => ?_) (fun q5 z5 => ?_)
 ·refine ZAm ?_
  refine Ia ?_
  refine eP ?_
  refine ZA7 ?_
  have e9 : errH l = 6 := by unfold errH; rw [ae I, ae oZ]; rw [hs0]; dsimp only; rw [ae I, ag (by simpa using q5)]
  exact aZ (fun w hw => gK U U U (aH (b := b0) (l := cHd zHd) aE w hw) U) ⟨U, La⟩
 refine ZBE ?_
 refine rR (σ := Nat) [9, 57, 58, 59, 60, 61, 62, 63, 64, 65, 66, 67, 68, 69, 70, 71] (fun b => [(9, P_ b)]) (fun b => [(b, J (cHd ⟨(nameH ((l.drop 308).take 15)), ((sortH (l.getD 327 0)).getD (0, false, false)).1, ((sortH (l.getD 327 0)).getD (0, false, false)).2.1, ((sortH (l.getD 327 0)).getD (0, false, false)).2.2, 2 * 2 ^ (l.getD 328 0).toNat, (sizesH.getD (l.getD 329 0).toNat 0), false⟩) 100), (b0, J (cHd zHd) 100)]) (fun _ => True) ?_ ?_
 ·refine DR [2, 5, 6, 7, 8, 9, 10, 11, 12, 13, 15] (.step true 0 (.step true 1 (.step true 3 (.step true 4 (.step true 5 (.step true 6 (.step true 7 (.step true 8 (.step true 9 (.step true 10 (.step true 11 (.step true 12 (.step true 13 (.fork 2 (.step true 14 (.step false 15 (.step false 16 .done))) (.fork 15 (.step false 2 (.step true 14 (.step false 16 .done))) .stop))))))))))))))) ?_
  refine ZBE ?_
  refine DW (v := (.slice (some ⟨ba, oa + 308, none⟩) ((l.drop 308).take 15).length (c - 308))) U (mB 308 323 U U U U U U M I) U (by rw [hcut, hl15]) (ZDG ?_)
  refine DW (v := (.int .i64 (2 * 2 ^ (l.getD 328 0).toNat))) U (iM U U I) U (aD _ (aFj (.inl U) ⟨aR, aR⟩)) (ZBE ?_)
  refine DY U (eG (l.getD 329 0).toNat U U U I I) U (DL U U U (eN (v := .int .i64 (sizesH.getD (l.getD 329 0).toNat 0)) aE (by rw [cg]; exact gJ (by show _ < 6; omega))) U (oD ?_ ?_))
  ·refine T0 ?_
   refine DX U (gG (l := cHd zHd) U) U tM ?_
   rintro _ _ ⟨b3, rfl, rfl⟩
   refine ZB6 ?_
   exact ZEk
  refine oD ?_ ?_
  ·refine DX U (gG (l := cHd zHd) U) U tM ?_
   rintro _ _ ⟨b3, rfl, rfl⟩
   refine T0 ?_
   refine ZB6 ?_
   exact ZEk
  exact yE
 rintro b3 y14 _
 refine ZDG ?_
 refine KC (fun q6 z6 => ?_) (fun q6 z6 => ?_)
 ·refine ZAm ?_
  refine W (bH (l' := cHd ⟨(nameH ((l.drop 308).take 15)), ((sortH (l.getD 327 0)).getD (0, false, false)).1, ((sortH (l.getD 327 0)).getD (0, false, false)).2.1, ((sortH (l.getD 327 0)).getD (0, false, false)).2.2, 2 * 2 ^ (l.getD 328 0).toNat, 512, false⟩) 0) U (kB ?_)
  refine kG (L' := [(b3, J (cHd ⟨(nameH ((l.drop 308).take 15)), ((sortH (l.getD 327 0)).getD (0, false, false)).1, ((sortH (l.getD 327 0)).getD (0, false, false)).2.1, ((sortH (l.getD 327 0)).getD (0, false, false)).2.2, 2 * 2 ^ (l.getD 328 0).toNat, xP ((sortH (l.getD 327 0)).getD (0, false, false)).1 (l.getD 329 0), false⟩) 100), (b0, J (cHd zHd) 100)]) (fun _ h => h.as (by rw [show xP ((sortH (l.getD 327 0)).getD (0, false, false)).1 (l.getD 329 0) = 512 from ag (by simpa using q6)])) ?_
  refine DR [5, 6, 7, 8, 10, 11] (bW [0, 2, 4, 6, 8, 10, 12, 14, 16, 18, 20, 23, 24, 26, 29]) ?_
  refine ZBE ?_
  refine DY U (eB (n := l.length) 334 U U U U I) U (ZEl ?_)
  refine ZBE ?_
  refine DY U (eB (n := l.length) 335 U U U U I) U (We ?_)
  refine DW (v := (.int .u16 (l.getD 334 0 * 256 + l.getD 335 0))) U (dM U U) U (aD _ (yS hb4 hb5)) (ZBE ?_)
  refine ZER ?_
  refine ZAm ?_
  refine DZ U (bH (l' := cHd (hdH l)) 0) U aW (eP ?_)
  refine ZA7 ?_
  refine W (bX U U U (aH (b := b3) (l := cHd (hdH l)) aE)) U (W (bH (l' := cHd (hdH l)) 1) U (eP ?_))
  refine ZA7 ?_
  exact V9
 refine ZAm ?_
 refine kG (L' := [(b3, J (cHd ⟨(nameH ((l.drop 308).take 15)), ((sortH (l.getD 327 0)).getD (0, false, false)).1, ((sortH (l.getD 327 0)).getD (0, false, false)).2.1, ((sortH (l.getD 327 0)).getD (0, false, false)).2.2, 2 * 2 ^ (l.getD 328 0).toNat, xP ((sortH (l.getD 327 0)).getD (0, false, false)).1 (l.getD 329 0), false⟩) 100), (b0, J (cHd zHd) 100)]) (fun _ h => h.as (by rw [← aJK (k := ((sortH (l.getD 327 0)).getD (0, false, false)).1) (by simpa using q6) ⟨hb9.1, aR⟩])) ?_
 refine DR [5, 6, 7, 8, 10, 11] (bW [0, 2, 4, 6, 8, 10, 12, 14, 16, 18, 20, 23, 24, 26, 29]) ?_
 refine ZBE ?_
 refine DY U (eB (n := l.length) 334 U U U U I) U (ZEl ?_)
 refine ZBE ?_
 refine DY U (eB (n := l.length) 335 U U U U I) U (We ?_)
 refine DW (v := (.int .u16 (l.getD 334 0 * 256 + l.getD 335 0))) U (dM U U) U (aD _ (yS hb4 hb5)) (ZBE ?_)
 refine ZER ?_
 refine ZAm ?_
 refine DZ U (bH (l' := cHd (hdH l)) 0) U aW (eP ?_)
 refine ZA7 ?_
 refine W (bX U U U (aH (b := b3) (l := cHd (hdH l)) aE)) U (W (bH (l' := cHd (hdH l)) 1) U (eP ?_))
 refine ZA7 ?_
 exact V9
set_option maxHeartbeats 2000000 in
def aEu (ob oc : Nat) (rom : AB) (hl : rom.length ≤ 100000000) (hb : bE rom) (hc : rom.length ≤ oc) (pa : AC) (pl pc : Nat) (w : AI) (hr : aK w ob 0 (rom.map Z)) : aG prog 20 [.slice (Q_ ob) rom.length oc, .slice pa pl pc] w [] (fun v H => (errH rom ≠ 0 ∧ v = .tuple #[.pointer none, .int .i64 (errH rom)] ∧ H = []) ∨ (errH rom = 0 ∧ ∃ mb ub rb tb oT, kF tb (.int .u32 0) [(tb, oT)] ∧ v = .tuple #[P_ mb, .int .i64 0] ∧ H = [((mb, ub, rb, tb, oT).1, J (cMm (pK (mb, ub, rb, tb, oT).1 (mb, ub, rb, tb, oT).2.1 (mb, ub, rb, tb, oT).2.2.1 (mb, ub, rb, tb, oT).2.2.2.1 ob oc [] (.slice pa pl pc) (hdH rom).ram.toNat) (.slice none 0 0) (kY rom)) 134), ((mb, ub, rb, tb, oT).2.2.1, J ((kY rom).ram.map Z) 5), ((mb, ub, rb, tb, oT).2.1, J (cU jV) 172), ((mb, ub, rb, tb, oT).2.2.2.1, (mb, ub, rb, tb, oT).2.2.2.2)])) := by
 have hram := Wl rom
 refine aT func20 ?_
 refine aI ?_
 by_cases he9 : errH rom = 0
 ·refine ZAm ?_
  refine aP K_ (fun w hw => aEP (Q_ ob) oc rom hl hb hc w (Ns.of (cG hr aL w hw))) ?_
  rw [ag he9]
  refine ZA7 ?_
  refine RX (gG (l := cHd zHd) U) U (ZBN fun b0 => ?_)
  refine W (bH (l' := cHd (hdH rom)) 0) U (eP ?_)
  refine aI ?_
  refine gO false U U U (by simpa using he9) ?_
  refine ZA7 ?_
  refine rR (σ := Nat × Nat × Nat × Nat × Obj) [8, 17, 18, 19, 20, 21, 22, 23, 24, 25, 26] (fun q => [(8, P_ q.1)]) (fun q => [(q.1, J (cMm (pK q.1 q.2.1 q.2.2.1 q.2.2.2.1 ob oc [] (.slice pa pl pc) (hdH rom).ram.toNat) (.slice none 0 0) (newM0 rom)) 134), (q.2.2.1, J ((newM0 rom).ram.map Z) 5), (q.2.1, J (cU jV) 172), (q.2.2.2.1, q.2.2.2.2)] ++ [(b0, J (cHd (hdH rom)) 100)]) (fun q => kF q.2.2.2.1 (.int .u32 0) [(q.2.2.2.1, q.2.2.2.2)]) ?_ ?_
  ·refine DR [3, 4, 5, 6, 7] (.step true 0 (.step true 1 (.step true 2 (.step true 5 (.step true 6 (.fork 3 (.fork 4 (.step false 7 (.step true 8 (.step false 9 (.step true 10 .done)))) (.fork 7 (.step false 4 (.step true 8 (.step false 9 (.step true 10 .done)))) .stop)) (.fork 7 (.step false 3 (.step false 4 (.step true 8 (.step false 9 (.step true 10 .done))))) .stop))))))) ?_
   refine ZAm ?_
   refine gL U U U U (kN (b := b0) (l := cHd (hdH rom)) aE) U U ?_
   refine ZBE ?_
   refine DL U U U (eN (v := .int .i64 (hdH rom).ram) aE U) U (oD ?_ ?_)
   ·refine DX U (cQ K_ U (aS Zg)) U Cw ?_
    rintro _ _ ⟨_, ⟨b1, rfl, hT0⟩, rfl⟩
    obtain ⟨o20, rfl⟩ := hT0.one
    refine ZCE ?_
    refine oD ?_ ?_
    ·refine DX U (cQ K_ U (aS new_fn)) U Cw ?_
     rintro _ _ ⟨_, ⟨b2, rfl, rfl⟩, rfl⟩
     refine ZCE ?_
     refine Yl ?_
     rintro _ _ ⟨b3, rfl, rfl⟩
     refine DW (v := (.agg (cMm (pK 0 b2 b3 b1 ob oc [] (.slice pa pl pc) (hdH rom).ram.toNat) (.slice none 0 0) (newM0 rom)).toArray)) U (rV (l := Rd (pK 0 b2 b3 b1 ob oc [] (.slice pa pl pc) (hdH rom).ram.toNat) (.slice none 0 0) (newM0 rom) (hdH rom).ram.toNat) (z := Ej) (ps := [(1, .slice (Q_ ob) rom.length oc), (2, .slice pa pl pc), (3, .agg (cHd (hdH rom)).toArray), (4, P_ b1), (5, P_ b2), (6, .slice (Q_ b3) (hdH rom).ram.toNat (hdH rom).ram.toNat)]) U aO U aO) U J0 (DX U (eM (l := cMm (pK 0 b2 b3 b1 ob oc [] (.slice pa pl pc) (hdH rom).ram.toNat) (.slice none 0 0) (newM0 rom)) U U) U aW ?_)
     rintro _ _ ⟨b4, rfl, rfl⟩
     refine ZAm ?_
     exact ⟨(b4, b2, b3, b1, o20), hT0, .cons U .nil, bJ, fun _ h => St.perm_ix 5 [0, 1, 2, 3, 4] M U A1 h⟩
    refine oD ?_ ?_
    ·refine Yl ?_
     rintro _ _ ⟨b2, rfl, rfl⟩
     refine DX U (cQ K_ U (aS new_fn)) U Cw ?_
     rintro _ _ ⟨_, ⟨b3, rfl, rfl⟩, rfl⟩
     refine ZCE ?_
     refine DW (v := (.agg (cMm (pK 0 b3 b2 b1 ob oc [] (.slice pa pl pc) (hdH rom).ram.toNat) (.slice none 0 0) (newM0 rom)).toArray)) U (rV (l := Rd (pK 0 b3 b2 b1 ob oc [] (.slice pa pl pc) (hdH rom).ram.toNat) (.slice none 0 0) (newM0 rom) (hdH rom).ram.toNat) (z := Ej) (ps := [(1, .slice (Q_ ob) rom.length oc), (2, .slice pa pl pc), (3, .agg (cHd (hdH rom)).toArray), (4, P_ b1), (5, P_ b3), (6, .slice (Q_ b2) (hdH rom).ram.toNat (hdH rom).ram.toNat)]) U aO U aO) U J0 (DX U (eM (l := cMm (pK 0 b3 b2 b1 ob oc [] (.slice pa pl pc) (hdH rom).ram.toNat) (.slice none 0 0) (newM0 rom)) U U) U aW ?_)
     rintro _ _ ⟨b4, rfl, rfl⟩
     refine ZAm ?_
     exact ⟨(b4, b3, b2, b1, o20), hT0, .cons U .nil, bJ, fun _ h => St.perm_ix 5 [0, 2, 1, 3, 4] M U A1 h⟩
    exact yE
   refine oD ?_ ?_
   ·refine Yl ?_
    rintro _ _ ⟨b1, rfl, rfl⟩
    refine DX U (cQ K_ U (aS Zg)) U Cw ?_
    rintro _ _ ⟨_, ⟨b2, rfl, hT0⟩, rfl⟩
    obtain ⟨o20, rfl⟩ := hT0.one
    refine ZCE ?_
    refine DX U (cQ K_ U (aS new_fn)) U Cw ?_
    rintro _ _ ⟨_, ⟨b3, rfl, rfl⟩, rfl⟩
    refine ZCE ?_
    refine DW (v := (.agg (cMm (pK 0 b3 b1 b2 ob oc [] (.slice pa pl pc) (hdH rom).ram.toNat) (.slice none 0 0) (newM0 rom)).toArray)) U (rV (l := Rd (pK 0 b3 b1 b2 ob oc [] (.slice pa pl pc) (hdH rom).ram.toNat) (.slice none 0 0) (newM0 rom) (hdH rom).ram.toNat) (z := Ej) (ps := [(1, .slice (Q_ ob) rom.length oc), (2, .slice pa pl pc), (3, .agg (cHd (hdH rom)).toArray), (4, P_ b2), (5, P_ b3), (6, .slice (Q_ b1) (hdH rom).ram.toNat (hdH rom).ram.toNat)]) U aO U aO) U J0 (DX U (eM (l := cMm (pK 0 b3 b1 b2 ob oc [] (.slice pa pl pc) (hdH rom).ram.toNat) (.slice none 0 0) (newM0 rom)) U U) U aW ?_)
    rintro _ _ ⟨b4, rfl, rfl⟩
    refine ZAm ?_
    exact ⟨(b4, b3, b1, b2, o20), hT0, .cons U .nil, bJ, fun _ h => St.perm_ix 5 [0, 3, 1, 2, 4] M U A1 h⟩
   exact yE
  rintro ⟨mb, ub, rb, tb, oT⟩ y4 hT
  dsimp only at hT ⊢
  refine ZA7 ?_
  refine W (bX U U U (aH (b := b0) (l := cHd (hdH rom)) aE)) U (aP K_ (aS (aGH _ _ _ _ _ _ _)) ?_)
  refine ZA7 ?_
  refine W (bF (l' := cMm (pK (mb, ub, rb, tb, oT).1 (mb, ub, rb, tb, oT).2.1 (mb, ub, rb, tb, oT).2.2.1 (mb, ub, rb, tb, oT).2.2.2.1 ob oc [] (.slice pa pl pc) (hdH rom).ram.toNat) (.slice none 0 0) (Xy rom)) 0 U U U U U U (by rw [cMm_len (Ti rom)]; exact ai rfl) (aAS _)) U (eP ?_)
  refine ZBy ?_
  refine RS ?_
  refine ZBy ?_
  refine W (bF (l' := cMm (pK (mb, ub, rb, tb, oT).1 (mb, ub, rb, tb, oT).2.1 (mb, ub, rb, tb, oT).2.2.1 (mb, ub, rb, tb, oT).2.2.2.1 ob oc [] (.slice pa pl pc) (hdH rom).ram.toNat) (.slice none 0 0) (kY rom)) 0 U U U U U U (by rw [cMm_len (m := Xy rom) ⟨(Ti rom).bd, (Ti rom).work, (Ti rom).high⟩]; exact ai rfl) ((yZ (ai U)).trans U)) U (eP ?_)
  refine bA ?_
  exact iU (fun _ _ => eY U U) (.cons_cons _ (.cons_cons _ (.cons_cons _ (.cons_cons _ (du _))))) (.inr ⟨he9, mb, ub, rb, tb, oT, hT, U, U⟩)
 refine ZAm ?_
 refine aP K_ (fun w hw => aEP (Q_ ob) oc rom hl hb hc w (Ns.of (cG hr aL w hw))) ?_
 rw [ae he9]
 refine ZA7 ?_
 refine RX (gG (l := cHd zHd) U) U (ZBN fun b0 => ?_)
 refine W (bH (l' := cHd zHd) 0) U (eP ?_)
 refine aI ?_
 refine gO true U U U (by simpa using he9) ?_
 refine bZ ?_
 exact iU (fun _ _ => eY U U) (du _) (.inl ⟨he9, U, U⟩)
structure MA where
 A : Ad
 tb : Nat
 oT : Obj
 va : AH
def pM (q : MA) : AH := P_ q.A.mb
def hM (q : MA) (m : Mm) : aF := [(q.tb, q.oT), (q.A.mb, J (cMm q.A q.va m) 134), (q.A.ub, J (cU m.u) 172), (q.A.rb, J (m.ram.map Z ++ q.A.rs) 5), (q.A.ob, J (m.rom.map Z ++ q.A.sp) 5)]
structure MA.Ok (q : MA) (pa : AC) (n pc : Nat) : Prop where
 apart : q.A.rb ∉ [q.A.mb, q.A.ub] ∧ q.A.ob ∉ [q.A.mb, q.A.ub]
 tab : kF q.tb (.int .u32 0) [(q.tb, q.oT)]
 at_ : q.A.tab = P_ q.tb
 plan : q.A.plan = .slice pa n pc
 va : ∃ aa an ac, q.va = .slice aa an ac
structure xA (T : Nat) (plan : List gH) (pa : AC) (pc : Nat) (G : aF) : Prop where
 vec : bM T 2 (.slice pa plan.length pc) plan.length (aN pX plan) G
 ok : ∀ c ∈ plan, sA c
 few : plan.length ≤ 1000000
section
variable {w0 w : AI} {ms : AE} {H : aF} {q : MA} {m : Mm}
def aOh (hw : St w0 ms H w) (hs : ∀ x ∈ hM q m, x ∈ H) : aK w q.A.mb 0 (cMm q.A q.va m) ∧ aK w q.A.ub 0 (cU m.u) ∧ aK w q.A.rb 0 (m.ram.map Z) ∧ aK w q.A.ob 0 (m.rom.map Z) :=
 ⟨aH (hs _ (.tail _ (.head _))) w hw, aH (hs _ (.tail _ (.tail _ (.head _)))) w hw, (aH (hs _ (.tail _ (.tail _ (.tail _ (.head _))))) w hw).left, (aH (hs _ (.tail _ (.tail _ (.tail _ (.tail _ (.head _)))))) w hw).left⟩
def xA.els {T : Nat} {plan : List gH} {pa : AC} {pc : Nat} {G : aF} (h : xA T plan pa pc G) (hw : St w0 ms H w) (hs : ∀ x ∈ G, x ∈ H) : iY w pX pa plan := by
 obtain ⟨a, cp, e, _, _, h1⟩ := h.vec.gives cChg_len M
 cases e
 exact h1.els hw hs
end
def aNG {R : Mm} {D : Prop} (q : MA) (pa : AC) (pc : Nat) (plan : List gH) (hq : q.Ok pa plan.length pc) (hpo : ∀ c ∈ plan, sA c) (hpl : plan.length ≤ 1000000) (m : Mm) (h : nY R D m) (ms : AE) (w : AI) (hst : St w ms (hM q m) w) (hE : iY w pX pa plan) (hpn : ∀ p, pa = some p → p.block ∉ ms) :
  aG prog 142 [pM q] w ms (fun v H => ∃ oT va G, (MA.mk q.A q.tb oT va).Ok pa plan.length pc ∧ v = .tuple #[.agg (cDd (eT plan m).1).toArray, va] ∧ bM 329 3 va (eT plan m).2.acc.length (aN cAc (eT plan m).2.acc) G ∧ H = G ++ hM ⟨q.A, q.tb, oT, va⟩ (eT plan m).2) := by
 refine aG.turn (aKa q.A hq.apart q.tb (.int .u32 0) q.oT hq.tab hq.at_ plan pa pc hq.plan hpo hpl m h.wf h.rg q.va ms w hst hE hpn) ?_
 rintro v H w' ⟨va, oT, G, rfl, hV, hT, rfl⟩ hw
 obtain ⟨aa, ac, rfl⟩ := hV.slice
 exact ⟨_, hw.perm (show List.Perm ([(q.tb, oT)] ++ (G ++ _)) (G ++ ([(q.tb, oT)] ++ _)) by rw [← eC, ← eC]; exact d7 _ bg), oT, _, G, ⟨hq.apart, hT, hq.at_, hq.plan, _, _, _, U⟩, U, hV, U⟩
def L9 (q : MA) (m : Mm) (h : m.Wf) (hr : m.cpu.r.Ok) (hrl : m.ram.length ≤ 200000) (ms : AE) (w : AI) (hst : St w ms (hM q m) w) :
  aG prog 22 [pM q] w ms (fun v H => ∃ b c sp, v = .slice (Q_ b) (fM m).length c ∧ (fM m).length ≤ c ∧ H = (b, J ((fM m).map Z ++ sp) 5) :: hM q m) := by
 have hw1 : St w ms ([(q.A.mb, J (cMm q.A q.va m) 134), (q.A.rb, J (m.ram.map Z ++ q.A.rs) 5)] ++ [(q.tb, q.oT), (q.A.ub, J (cU m.u) 172), (q.A.ob, J (m.rom.map Z ++ q.A.sp) 5)]) w := St.perm_ix 5 [1, 3, 0, 2, 4] M rfl rfl hst
 have hn := hw1.nodup
 rw [bz, ed] at hn
 refine aG.frame hw1 (ms2 := [q.A.mb, q.A.rb]) (fun b hb => jS (G := [(q.A.mb, J (cMm q.A q.va m) 134), (q.A.rb, _)]) hb) (J1 q.A q.va m h hr hrl [q.A.mb, q.A.rb] w hw1.lentV (aOh hst (fun _ hx => hx)).2.1 (fun hb => hn.2.2 _ hb _ (.tail _ (.head _)) U)) ?_
 rintro v H w' ⟨b, c, sp, rfl, hc, rfl⟩ hw
 exact ⟨_, St.perm_ix 6 [0, 3, 1, 4, 2, 5] M U U hw, b, c, sp, U, hc, U⟩
def aQn {pa : AC} {n pc : Nat} (q : MA) (hq : q.Ok pa n pc) (m : Mm) (h : m.Wf) (hr : m.cpu.r.Ok) (hrl : m.ram.length ≤ 200000) (a : AC) (c : Nat) (l : AB) (hby : bE l) (hlm : l.length ≤ 900000) (hlc : l.length ≤ c) (ms : AE) (w : AI) (hst : St w ms (hM q m) w) (hB : Ns w .u8 a l) (hpn : ∀ p, a = some p → p.block ∉ (hM q m).map (·.1)) :
  aG prog 149 [pM q, .slice a l.length c] w ms (fun v H => v = .int .i64 (sE m l) ∧ ∃ A' va, (MA.mk A' q.tb q.oT va).Ok pa n pc ∧ A'.mb = q.A.mb ∧ H = hM ⟨A', q.tb, q.oT, va⟩ (uN m l)) := by
 obtain ⟨A, tb, oT, va⟩ := q
 obtain ⟨aa, an, ac, rfl⟩ := hq.va
 have hw1 : St w ms ([(A.ub, J (cU m.u) 172), (A.mb, J (cMm A (.slice aa an ac) m) 134), (A.rb, J (m.ram.map Z ++ A.rs) 5)] ++ [(tb, oT), (A.ob, J (m.rom.map Z ++ A.sp) 5)]) w := St.perm_ix 5 [2, 1, 3, 0, 4] M rfl rfl hst
 have hon : fL [.slice aa an ac, A.plan, A.tab] = true := by rw [show A.plan = _ from hq.plan, show A.tab = _ from hq.at_]; rfl
 refine aG.frame hw1 (ms2 := [A.ub, A.mb, A.rb]) (fun b hb => jS (G := [(A.ub, J (cU m.u) 172), (A.mb, J (cMm A (.slice aa an ac) m) 134), (A.rb, _)]) hb) (aHd A aa an ac m h hr hrl hon a c l hby hlm hlc [A.ub, A.mb, A.rb] w hw1.lentV hB (fun p hp hb => hpn p hp ((show ∀ x ∈ [A.ub, A.mb, A.rb], x ∈ [tb, A.mb, A.ub, A.rb, A.ob] by simp) _ hb))) ?_
 rintro v H w' ⟨rfl, ⟨mb', ub', rb', ob', oc', sp', rc', rs', plan', tab'⟩, aa', an', ac', ⟨h1, h2, h3, h4, h5, h6, h7⟩, rfl⟩ hw
 dsimp only at h1 h2 h3 h4 h5 h6 h7
 subst h1 h2 h3 h4 h5 h6 h7
 have hn := hw.nodup
 have hrom : (uN m l).rom = m.rom := by unfold uN; split <;> rfl
 simp only [ct, bq, cu, dk, i5, eg, ec, or_false, not_or] at hn
 refine ⟨_, St.perm_ix 5 [3, 1, 0, 2, 4] M U (by rw [← hrom]; rfl) hw, U, ⟨A.mb, A.ub, rb', A.ob, A.oc, A.sp, rc', rs', A.plan, A.tab⟩, .slice aa' an' ac', ⟨⟨by simp only [eg, ec, or_false, not_or]; exact ⟨fun h => hn.2.1.1 h.symm, fun h => hn.1.2.1 h.symm⟩, hq.apart.2⟩, hq.tab, hq.at_, hq.plan, _, _, _, U⟩, U, U⟩
def putP (n : Nat) : AB := if n < 128 then [(n : Int)] else ((n % 128 + 128 : Nat) : Int) :: putP (n / 128)
termination_by n
decreasing_by omega
def E5 {n : Nat} (h : n < 128) : putP n = [(n : Int)] := by rw [putP, ag h]
def Sq {n : Nat} (h : ¬ n < 128) : putP n = ((n % 128 + 128 : Nat) : Int) :: putP (n / 128) := by rw [putP, ae h]
def aKw {n : Int} (h : 0 ≤ n) : bL .u8 (n % 256) 128 = n % 128 + 128 := by
 have key := eH (p := fun x => bL .u8 x 128 = x % 128 + 128) eU (c := n % 256) I I
 rw [key]; omega
def bS : AB → AB → Nat
 | x :: a, y :: b => if x = y then bS a b + 1 else 0
 | _, _ => 0
def Dj : ∀ (a b : AB), bS a b ≤ b.length
 | [], b => av _
 | _ :: _, [] => bi 0
 | x :: a, y :: b => by
  have := Dj a b
  unfold bS
  split
  ·simp only [eF]; omega
  ·exact av _
def aBP : ∀ {a b : AB} {i : Nat}, i ≤ bS a b → i < b.length → i < a.length → a.getD i 0 = b.getD i 0 → i + 1 ≤ bS a b
 | [], _, _, _, _, h, _ => by simp at h
 | _ :: _, [], _, _, h, _, _ => by simp at h
 | x :: a, y :: b, 0, _, _, _, h => by
  have : x = y := h
  unfold bS; rw [ag this]; omega
 | x :: a, y :: b, i + 1, h, hb, ha, he => by
  unfold bS at h ⊢
  split at h
  ·have := aBP (a := a) (b := b) (i := i) I (by simpa using hb) (by simpa using ha) he
   rename_i hxy
   rw [ag hxy]; omega
  ·omega
def X9 : ∀ {a b : AB} {i : Nat}, i ≤ bS a b → i < b.length → i < a.length → a.getD i 0 ≠ b.getD i 0 → i = bS a b
 | [], _, _, _, _, h, _ => by simp at h
 | _ :: _, [], _, _, h, _, _ => by simp at h
 | x :: a, y :: b, 0, _, _, _, h => by
  have : x ≠ y := h
  unfold bS; rw [ae this]
 | x :: a, y :: b, i + 1, h, hb, ha, he => by
  unfold bS at h ⊢
  split at h
  ·have := X9 (a := a) (b := b) (i := i) I (by simpa using hb) (by simpa using ha) he
   rename_i hxy
   rw [ag hxy]; omega
  ·omega
def likeN_drop : ∀ (a b : AB), bS (a.drop (bS a b)) (b.drop (bS a b)) = 0
 | [], _ => by simp only [List.drop_nil]; cases (List.drop (bS [] _) _) <;> rfl
 | _ :: _, [] => rfl
 | x :: a, y :: b => by
  by_cases h : x = y
  ·have e : bS (x :: a) (y :: b) = bS a b + 1 := ag h
   rw [e]
   exact likeN_drop a b
  ·have e : bS (x :: a) (y :: b) = 0 := ae h
   rw [e]
   exact e
def aEU : ∀ {a b : AB}, a.length = b.length → a.take (bS a b) = b.take (bS a b)
 | [], [], _ => rfl
 | x :: a, y :: b, h => by
  by_cases hx : x = y
  ·have e : bS (x :: a) (y :: b) = bS a b + 1 := ag hx
   rw [e, List.take_succ_cons, List.take_succ_cons, hx, aEU (by simpa using h)]
  ·have e : bS (x :: a) (y :: b) = 0 := ae hx
   rw [e]; rfl
def oth (a b : AB) : Nat :=
 if h : b = [] then 0 else if 4 ≤ bS a b ∨ bS a b = b.length then 0 else bS a b + 1 + oth (a.drop (bS a b + 1)) (b.drop (bS a b + 1))
termination_by b.length
decreasing_by
 have := List.length_pos_iff.2 h
 rw [dN]; omega
def aPz (a : AB) : oth a [] = 0 := by rw [oth, dif_pos rfl]
def oth_stop {a b : AB} (h : 4 ≤ bS a b ∨ bS a b = b.length) : oth a b = 0 := by
 rw [oth]
 by_cases hb : b = []
 ·rw [dif_pos hb]
 ·rw [dif_neg hb, ag h]
def aAv {a b : AB} (hb : b ≠ []) (h : ¬ (4 ≤ bS a b ∨ bS a b = b.length)) : oth a b = bS a b + 1 + oth (a.drop (bS a b + 1)) (b.drop (bS a b + 1)) := by
 rw [oth, dif_neg hb, ae h]
def Ms (a b : AB) : oth a b ≤ b.length := by
 rw [oth]
 split
 ·exact av _
 ·split
  ·exact av _
  ·rename_i hb h
   have h1 := Dj a b
   have h2 := Ms (a.drop (bS a b + 1)) (b.drop (bS a b + 1))
   rw [dN] at h2
   omega
termination_by b.length
decreasing_by
 rename_i hb _
 have := List.length_pos_iff.2 hb
 rw [dN]; omega
def Fp {a b : AB} (hb : b ≠ []) (h : bS a b = 0) : 1 ≤ oth a b := by
 have := List.length_pos_iff.2 hb
 rw [aAv hb I]; omega
def dU (a b : AB) : AB :=
 putP (bS a b) ++ (if h : b.drop (bS a b) = [] then [] else
  putP (oth (a.drop (bS a b)) (b.drop (bS a b))) ++ ((b.drop (bS a b)).take (oth (a.drop (bS a b)) (b.drop (bS a b))) ++
   dU ((a.drop (bS a b)).drop (oth (a.drop (bS a b)) (b.drop (bS a b)))) ((b.drop (bS a b)).drop (oth (a.drop (bS a b)) (b.drop (bS a b))))))
termination_by b.length
decreasing_by
 have h1 := Fp h (likeN_drop a b)
 have h2 := List.length_pos_iff.2 h
 rw [dN] at h2
 rw [dN, dN]; omega
def Oq {a b : AB} (h : b.drop (bS a b) = []) : dU a b = putP (bS a b) := by
 rw [dU, dif_pos h, aw]
def Qr {a b : AB} (h : b.drop (bS a b) ≠ []) : dU a b = putP (bS a b) ++ (putP (oth (a.drop (bS a b)) (b.drop (bS a b))) ++ ((b.drop (bS a b)).take (oth (a.drop (bS a b)) (b.drop (bS a b))) ++
      dU ((a.drop (bS a b)).drop (oth (a.drop (bS a b)) (b.drop (bS a b)))) ((b.drop (bS a b)).drop (oth (a.drop (bS a b)) (b.drop (bS a b)))))) := by
  conv => lhs; rw [dU]
  rw [dif_neg h]
def wD (n : Nat) : 1 ≤ (putP n).length ∧ (putP n).length ≤ n / 128 + 1 := by
 rw [putP]
 split
 ·simp
 ·have h := wD (n / 128)
  simp only [eF]; omega
termination_by n
decreasing_by omega
def Tv (n : Nat) : bE (putP n) := by
 rw [putP]
 split
 ·intro x hx
  rw [List.mem_singleton.1 hx]; omega
 ·intro x hx
  rcases List.mem_cons.1 hx with rfl | hx
  ·omega
  ·exact Tv (n / 128) x hx
termination_by n
decreasing_by omega
def Ul (a b : AB) : (dU a b).length ≤ 3 * b.length + 1 := by
 have hl := Dj a b
 have hp := (wD (bS a b)).2
 by_cases h : b.drop (bS a b) = []
 ·rw [Oq h]; omega
 ·rw [Qr h]
  have h1 := Fp h (likeN_drop a b)
  have h2 := Ms (a.drop (bS a b)) (b.drop (bS a b))
  have h3 := (wD (oth (a.drop (bS a b)) (b.drop (bS a b)))).2
  have h4 := Ul ((a.drop (bS a b)).drop (oth (a.drop (bS a b)) (b.drop (bS a b)))) ((b.drop (bS a b)).drop (oth (a.drop (bS a b)) (b.drop (bS a b))))
  simp only [bQ, fZ, dN] at *
  omega
termination_by b.length
decreasing_by
 have h1 := Fp h (likeN_drop a b)
 have h2 := List.length_pos_iff.2 h
 rw [dN] at h2
 rw [dN, dN]; omega
def P8 (a : AB) {b : AB} (hb : bE b) : bE (dU a b) := by
 have happ : ∀ {x y : AB}, bE x → bE y → bE (x ++ y) := fun h1 h2 z hz => (List.mem_append.1 hz).elim (h1 z) (h2 z)
 by_cases h : b.drop (bS a b) = []
 ·rw [Oq h]; exact Tv _
 ·rw [Qr h]
  have hd : bE (b.drop (bS a b)) := fun x hx => hb x (di hx)
  exact happ (Tv _) (happ (Tv _) (happ (fun x hx => hd x (dh hx)) (P8 _ fun x hx => hd x (di hx))))
termination_by b.length
decreasing_by
 have h1 := Fp h (likeN_drop a b)
 have h2 := List.length_pos_iff.2 h
 rw [dN] at h2
 rw [dN, dN]; omega
def Ca (l : AB) : Nat → Int
 | 0 => 14695981039346656037
 | i + 1 => (mK .u64 (Ca l i) (l.getD i 0) * 1099511628211) % 18446744073709551616
def aNc (l : AB) (i : Nat) : 0 ≤ Ca l i ∧ Ca l i < 18446744073709551616 := by cases i with
 | zero => exact ⟨(by decide : (0 : Int) ≤ 14695981039346656037), (by decide : (14695981039346656037 : Int) < 18446744073709551616)⟩
 | succ i => unfold Ca; omega
def Gr (l : AB) : Int := Ca l l.length
end Go.Proofs.YthigpmaadmneaaaGreatDoor
namespace Go.Proofs.YthigpmaadmneaaaGreatDoor.Tm
open Go Go.VV
structure Mark where
 t : Int
 a : AC
 c : Nat
 l : AB
def cm (m : Mark) : AA := [.int .u64 m.t, .slice m.a m.l.length m.c]
def pW (m : Mark) : (cm m).length = 2 := rfl
def Rise (ms : List Mark) : Prop := ms.Pairwise (fun x y => x.t < y.t) ∧ ∀ m ∈ ms, 0 ≤ m.t ∧ m.t ≤ 4611686018427387904
def Rise.sub {a b : List Mark} (h : Rise b) (hs : a.Sublist b) : Rise a := ⟨h.1.sublist hs, fun m hm => h.2 m (hs.subset hm)⟩
def Rise.nil : Rise [] := ⟨.nil, fun _ h => by cases h⟩
def thinR (last : Int) : Int → List Mark → List Mark
 | _, [] => []
 | _, [m] => [m]
 | behind, m :: p :: r => if behind - p.t ≤ 2 + last - behind then thinR last behind (p :: r) else m :: thinR last m.t (p :: r)
def thinL (ms : List Mark) : List Mark :=
 match ms.reverse with
 | [] => []
 | z :: r => (z :: thinR z.t z.t r).reverse
def cutL (cap : Nat) (ms : List Mark) : List Mark := ms.take 1 ++ ms.drop (1 + (ms.length - cap))
def Zt (last : Int) : ∀ (r : List Mark) (b : Int), (thinR last b r).Sublist r
 | [], _ => List.Sublist.refl _
 | [m], _ => List.Sublist.refl _
 | m :: p :: r, b => by
  unfold thinR
  split
  ·exact (Zt last (p :: r) b).cons m
  ·exact (Zt last (p :: r) m.t).cons_cons m
def aAd (ms : List Mark) : (thinL ms).Sublist ms := by
 unfold thinL
 cases h : ms.reverse with
 | nil => simp
 | cons z r =>
  have : ms = (z :: r).reverse := by rw [← h, List.reverse_reverse]
  rw [this]
  exact ((Zt z.t r z.t).cons_cons z).reverse
def aM3 (cap : Nat) (ms : List Mark) : (cutL cap ms).Sublist ms := by
 unfold cutL
 have : ms = ms.take 1 ++ ms.drop 1 := (dz 1 ms).symm
 conv => rhs; rw [this]
 refine (List.Sublist.refl _).append ?_
 rw [← bw]
 exact List.drop_sublist _ _
def jH (ms : List Mark) (x : Int) : Nat := (ms.filter (fun m => decide (m.t < x))).length
def wF (ms : List Mark) (x : Int) : Nat := (ms.filter (fun m => decide (m.t ≤ x))).length
def aCa (ms : List Mark) (x : Int) : jH ms x ≤ ms.length := gv _ _
def C4 (ms : List Mark) (x : Int) : wF ms x ≤ ms.length := gv _ _
def Ke {ms : List Mark} (h : ms.Pairwise (fun x y => x.t < y.t)) (x : Int) : ∀ {k : Nat} (hk : k < ms.length), ms[k].t < x ↔ k < jH ms x := by
 induction ms with
 | nil => intro k hk; simp at hk
 | cons m ms ih =>
  intro k hk
  rw [List.pairwise_cons] at h
  unfold jH
  by_cases hm : m.t < x
  ·rw [List.filter_cons_of_pos (by simpa using hm)]
   cases k with
   | zero => simp [hm]
   | succ k =>
    have := ih h.2 (k := k) (by simpa using hk)
    simp only [List.getElem_cons_succ, eF, Nat.add_lt_add_iff_right]
    exact this
  ·rw [List.filter_cons_of_neg (by simpa using hm)]
   have h0 : ms.filter (fun m => decide (m.t < x)) = [] := by
    rw [List.filter_eq_nil_iff]
    intro y hy
    have := h.1 y hy
    simp; omega
   rw [h0]
   cases k with
   | zero => simp; omega
   | succ k =>
    have := h.1 (ms[k]'(by simpa using hk)) (fh _)
    simp; omega
def Rh {ms : List Mark} (h : ms.Pairwise (fun x y => x.t < y.t)) (x : Int) : ∀ {k : Nat} (hk : k < ms.length), ms[k].t ≤ x ↔ k < wF ms x := by
 intro k hk
 have h1 := Ke h (x + 1) hk
 have h2 : jH ms (x + 1) = wF ms x := by
  unfold jH wF
  congr 2
  funext m
  simp only [decide_eq_decide]
  omega
 rw [h2] at h1
 rw [← h1]
 omega
def aKg (ms : List Mark) (x : Int) : jH ms x ≤ wF ms x := by
 unfold jH wF
 induction ms with
 | nil => simp
 | cons m ms ih =>
  simp only [j7]
  split <;> split <;> simp_all <;> omega
def uS (ms : List Mark) (x : Int) : Bool := decide (jH ms x < wF ms x)
def aQh {ms : List Mark} (h : ms.Pairwise (fun x y => x.t < y.t)) (x : Int) (hk : jH ms x < ms.length) : ms[jH ms x].t = x ↔ uS ms x = true := by
 have h1 := Ke h x hk
 have h2 := Rh h x hk
 simp only [uS, al]
 omega
def aP7 {ms : List Mark} {x : Int} (hk : ¬ jH ms x < ms.length) : uS ms x = false := by
 have := C4 ms x
 simp only [uS, ah]
 omega
def V7 {ms : List Mark} (h : ms.Pairwise (fun x y => x.t < y.t)) (x : Int) : wF ms x = jH ms x + (if uS ms x then 1 else 0) := by
 have h0 := aKg ms x
 have hl := C4 ms x
 simp only [uS, al]
 split
 ·rename_i hlt
  have hk : jH ms x < ms.length := by omega
  by_cases h2 : jH ms x + 1 < wF ms x
  ·exfalso
   have hk2 : jH ms x + 1 < ms.length := by omega
   have a1 := Ke h x hk
   have a2 := Rh h x hk2
   have a3 := (List.pairwise_iff_getElem.1 h) _ _ hk hk2 I
   omega
  ·omega
 ·omega
def bef (ms : List Mark) (x : Int) : Int := (wF ms x : Int) - 1
def m0 : Mark := ⟨0, none, 0, []⟩
def tm (ms : List Mark) (k : Nat) : Int := (ms.getD k m0).t
def sP {ms : List Mark} {k : Nat} (hk : k < ms.length) : ms[k].t = tm ms k := by simp [tm, hk]
def Ks {ms : List Mark} {k : Nat} (hk : k < ms.length) : ms[k] = ms.getD k m0 := by simp [hk]
def yH (w : AI) (b : Nat) (cap : Int) (ms : List Mark) : Prop :=
 ∃ a c, w.cell? ⟨b, 0, none⟩ = some (.slice a ms.length c) ∧ ms.length ≤ c ∧ w.cell? ⟨b, 1, none⟩ = some (.int .i64 cap) ∧ iY w cm a ms
def yH.later0 {w0 w : AI} {H : aF} {b : Nat} {cap : Int} {ms : List Mark} (h : yH w0 b cap ms) (hw : St w0 [] H w) : yH w b cap ms := by
 obtain ⟨a, c, h0, hc, h1, hE⟩ := h
 exact ⟨a, c, cB h0 aL w hw, hc, cB h1 aL w hw, hE.later0 hw⟩
def zJ (w : AI) (a : AC) (l : AB) : Prop := (a = none ∧ l = []) ∨ ∃ b off, a = some ⟨b, off, none⟩ ∧ aK w b off (l.map (.int .u8))
def zJ.later0 {w0 w : AI} {H : aF} {a : AC} {l : AB} (h : zJ w0 a l) (hw : St w0 [] H w) : zJ w a l := by
 rcases h with h | ⟨b, off, ha, hr⟩
 ·exact .inl h
 ·exact .inr ⟨b, off, ha, cG hr aL w hw⟩
abbrev As (l : AB) (v : AH) (G : aF) : Prop := bM 5 1 v l.length (l.map (.int .u8)) G
def As.slice {l : AB} {v : AH} {G : aF} (h : As l v G) : ∃ a c, v = .slice a l.length c ∧ l.length ≤ c ∧ ∀ (w0 w : AI) (ms : AE) (H : aF), St w0 ms H w → (∀ x ∈ G, x ∈ H) → zJ w a l := by
 unfold As at h
 generalize hx : l.map Z = xs at h
 generalize hn : l.length = n at h ⊢
 cases h with
 | nil => exact ⟨none, 0, rfl, bi _, fun _ _ _ _ _ _ => .inl ⟨rfl, dg hn⟩⟩
 | row b _ cap _ sp h1 h2 h3 h4 =>
  refine ⟨_, cap, U, h4, fun w0 w ms H hw hs => .inr ⟨b, 0, U, ?_⟩⟩
  rw [hx]
  exact (aK.all (hw.holds _ (hs _ (.head _)))).left
def aDp (w : AI) (ms : List Mark) : Prop := ∀ m ∈ ms, m.l.length ≤ m.c ∧ m.l.length ≤ 140737488355328 ∧ zJ w m.a m.l
def vV (D : aF) (ms : List Mark) : Prop := ∀ m ∈ ms, m.l.length ≤ m.c ∧ m.l.length ≤ 140737488355328 ∧ ∀ (w0 w : AI) (ms : AE) (H : aF), St w0 ms H w → (∀ x ∈ D, x ∈ H) → zJ w m.a m.l
def vV.sub {D : aF} {a b : List Mark} (h : vV D b) (hs : a.Sublist b) : vV D a := fun m hm => h m (hs.subset hm)
def vV.more {D D' : aF} {ms : List Mark} (h : vV D ms) (hs : ∀ x ∈ D, x ∈ D') : vV D' ms := fun m hm => ⟨(h m hm).1, (h m hm).2.1, fun w0 w ms H hw hx => (h m hm).2.2 w0 w ms H hw fun x hx' => hx x (hs x hx')⟩
def vV.datW {D H : aF} {ms : List Mark} {w0 w : AI} {bs : AE} (h : vV D ms) (hw : St w0 bs H w) (hs : ∀ x ∈ D, x ∈ H) : aDp w ms := fun m hm => ⟨(h m hm).1, (h m hm).2.1, (h m hm).2.2 w0 w bs H hw hs⟩
def Kt {w : AI} {b off : Nat} {ms : List Mark} (hr : aK w b off (aN cm ms)) {k : Nat} (hk : k < ms.length) : w.cell? ⟨b, off + k * 2 + 0, none⟩ = some (.int .u64 (tm ms k)) := by
 have := aK.nth pW hr hk 0 _ rfl
 rw [sP hk] at this
 exact this
def aNm {w : AI} {b off : Nat} {ms : List Mark} (hr : aK w b off (aN cm ms)) {k : Nat} (hk : k < ms.length) :
  w.cell? ⟨b, off + k * 2 + 1, none⟩ = some (.slice (ms.getD k m0).a (ms.getD k m0).l.length (ms.getD k m0).c) := by
 have := aK.nth pW hr hk 1 _ rfl
 rw [Ks hk] at this
 exact this
def Bs {w : AI} {b off : Nat} {ms : List Mark} (hr : aK w b off (aN cm ms)) {k : Nat} (hk : k < ms.length) : aK w b (off + k * 2) (cm (ms.getD k m0)) := by
 have := aK.nth pW hr hk
 rw [Ks hk] at this
 exact this
def iF (ms : List Mark) : Int := if ms.length = 0 then 0 else tm ms (ms.length - 1)
def aQQ {ms : List Mark} (h : ms.length = 0) : (Value.tuple #[.int .u64 (iF ms), .bool (decide (ms.length ≠ 0))]) = .tuple #[.int .u64 0, .bool false] := by simp [iF, h]
def aKY {ms : List Mark} (h : ms.length ≠ 0) : (Value.tuple #[.int .u64 (iF ms), .bool (decide (ms.length ≠ 0))]) = .tuple #[.int .u64 (tm ms (ms.length - 1)), .bool true] := by simp [iF, h]
def Zi {ms : List Mark} (h : ms.length ≠ 0) : tm ms (ms.length - 1) = iF ms := by simp [iF, h]
def cmpI (a b : Int) : Int := if a < b then -1 else if a > b then 1 else 0
def aKj {a b : Int} (h : decide (a < b) = true) : (-1 : Int) = cmpI a b := by simp at h; simp [cmpI, h]
def aJo {a b : Int} (h : decide (a < b) = false) (h2 : decide (b < a) = true) : (1 : Int) = cmpI a b := by simp at h h2; simp [cmpI, h2]; omega
def aMP {a b : Int} (h : decide (a < b) = false) (h2 : decide (b < a) = false) : (0 : Int) = cmpI a b := by simp at h h2; simp [cmpI]; omega
def aKs {lo hi : Nat} (h : hi ≤ 1000000000) (hl : lo ≤ hi) : IntKind.i64.wrap ((IntKind.u64.wrap (IntKind.i64.wrap ((lo : Int) + (hi : Int)))).fdiv (2 ^ min (1 : Int).toNat 64)) = (((lo + hi) / 2 : Nat) : Int) := by
 rw [bY (n := (lo : Int) + hi) I I, wB I I]
 have : (2 : Int) ^ min (1 : Int).toNat 64 = 2 := by decide
 rw [this, et _ I, bY I I]
 omega
def aPn {ms : List Mark} (hR : Rise ms) {x : Int} {k : Nat} (hk : k < ms.length) (h : decide (cmpI (tm ms k) x < 0) = true) : k < jH ms x := by
 rw [← Ke hR.1 x hk, sP hk]
 simp [cmpI] at h
 split at h
 ·assumption
 ·split at h <;> omega
def aQa {ms : List Mark} (hR : Rise ms) {x : Int} {k : Nat} (hk : k < ms.length) (h : decide (cmpI (tm ms k) x < 0) = false) : jH ms x ≤ k := by
 have := Ke hR.1 x hk
 rw [sP hk] at this
 by_cases h2 : tm ms k < x
 ·simp [cmpI, h2] at h
 ·omega
def aKl {ms : List Mark} (hR : Rise ms) {x : Int} (hk : jH ms x < ms.length) : (cmpI (tm ms (jH ms x)) x == 0) = uS ms x := by
 have h1 := aQh hR.1 x hk
 rw [sP hk] at h1
 have h2 : cmpI (tm ms (jH ms x)) x = 0 ↔ tm ms (jH ms x) = x := by
  unfold cmpI
  split
  ·constructor <;> intro <;> omega
  ·split
   ·constructor <;> intro <;> omega
   ·constructor <;> intro <;> omega
 rw [fo, ci, h2, h1]
def aOr {ms : List Mark} (hR : Rise ms) {x : Int} (h : uS ms x = true) : ((jH ms x : Nat) : Int) = bef ms x := by
 rw [bef, V7 hR.1, h]; simp
def aHy {ms : List Mark} (hR : Rise ms) (hl : ms.length < 1000000000) {x : Int} (h : uS ms x = false) : IntKind.i64.wrap (((jH ms x : Nat) : Int) - 1) = bef ms x := by
 have := aCa ms x
 rw [bY I I, bef, V7 hR.1, h]; simp
def Zk {ms : List Mark} {x : Int} (h : ¬ bef ms x < 0) : (bef ms x).toNat < ms.length ∧ ((bef ms x).toNat : Int) = bef ms x := by
 have := C4 ms x
 unfold bef at *
 omega
def befM (ms : List Mark) (x : Int) : Mark := if bef ms x < 0 then m0 else ms.getD (bef ms x).toNat m0
def aDU {ms : List Mark} {x : Int} (h : bef ms x < 0) : befM ms x = m0 := by simp [befM, h]
def Jr {ms : List Mark} {x : Int} (h : ¬ bef ms x < 0) : ms.getD (bef ms x).toNat m0 = befM ms x := by simp [befM, h]
def befM_mem {ms : List Mark} {x : Int} (h : ¬ bef ms x < 0) : befM ms x ∈ ms := by
 have := (Zk h).1
 rw [← Jr h]
 simp [this]
def times (ms : List Mark) : AB := ms.map (·.t)
def times_len (ms : List Mark) : (times ms).length = ms.length := by simp [times]
def aQt {ms : List Mark} {k : Nat} (hk : k < ms.length) : (times (ms.take (k + 1))).map (Value.int .u64) = (times (ms.take k)).map (.int .u64) ++ [.int .u64 (tm ms k)] := by
 rw [fu hk, times, bz, bz, tm_get' hk]
 rfl
where tm_get' {ms : List Mark} {k : Nat} (hk : k < ms.length) : [ms[k]].map (·.t) = [tm ms k] := by simp [tm, hk]
def Xb {ms : List Mark} (hR : Rise ms) {k : Nat} (hk : k < ms.length) : tm ms k ≤ iF ms := by
 rw [iF, ae I]
 rcases dt k (ms.length - 1) with h | h
 ·have := (List.pairwise_iff_getElem.1 hR.1) k (ms.length - 1) hk I h
  rw [sP hk, sP I] at this
  omega
 ·have : k = ms.length - 1 := by omega
  subst this; exact iv _
def aQo {ms : List Mark} (hR : Rise ms) {x : Int} (h : ¬ bef ms x < 0) : (befM ms x).t ≤ x ∧ 0 ≤ (befM ms x).t ∧ (befM ms x).t ≤ iF ms ∧ iF ms ≤ 4611686018427387904 := by
 obtain ⟨h1, h2⟩ := Zk h
 have h3 := (Rh hR.1 x h1).2 (by unfold bef at *; omega)
 have h4 := hR.2 ms[(bef ms x).toNat] (fh _)
 have h5 := Xb hR h1
 have h6 : iF ms ≤ 4611686018427387904 := by
  rw [iF, ae I, ← sP I]
  exact (hR.2 _ (fh _)).2
 rw [← Jr h]
 rw [sP h1] at h3 h4
 unfold tm at h3 h4 h5
 exact ⟨h3, h4.1, h5, h6⟩
def aIG {ms : List Mark} {x : Int} (h : bef ms x < 0) : Value.tuple #[.int .u64 0, .slice none 0 0, .bool false] = .tuple #[.int .u64 (befM ms x).t, .slice none 0 0, .bool (decide (0 ≤ bef ms x))] := by
 rw [aDU h]; simp [m0]; exact h
def aFM {ms : List Mark} {x : Int} (h : ¬ bef ms x < 0) (dv : AH) : Value.tuple #[.int .u64 (tm ms (bef ms x).toNat), dv, .bool true] = .tuple #[.int .u64 (befM ms x).t, dv, .bool (decide (0 ≤ bef ms x))] := by
 rw [← Jr h]; simp [tm]; omega
def St.pick {w0 w : AI} {ms : AE} {L : aF} (ix : AE) (h : St w0 ms L w) (hp : decide ix.Nodup = true) : St w0 ms (ix.filterMap (L[·]?)) w := by
 have hp := dr hp
 have hmem : ∀ x ∈ ix.filterMap (L[·]?), x ∈ L := fun x hx => by
  obtain ⟨i, _, hi⟩ := List.mem_filterMap.1 hx
  exact cw hi
 refine ⟨h.os, h.tape, h.output, h.size, h.block, ?_, fun x hx => h.own x (hmem x hx), fun x hx => h.holds x (hmem x hx)⟩
 rw [List.map_filterMap]
 refine List.Pairwise.filterMap _ ?_ hp
 intro a a' haa b hb b' hb' hbb
 obtain ⟨x, hx, rfl⟩ := Option.map_eq_some_iff.1 hb
 obtain ⟨x', hx', rfl⟩ := Option.map_eq_some_iff.1 hb'
 obtain ⟨h1, rfl⟩ := List.getElem?_eq_some_iff.1 hx
 obtain ⟨h2, rfl⟩ := List.getElem?_eq_some_iff.1 hx'
 have hn := List.pairwise_iff_getElem.1 h.nodup
 rcases Nat.lt_trichotomy a a' with h3 | h3 | h3
 ·exact hn a a' (by simpa using h1) (by simpa using h2) h3 (by simpa using hbb)
 ·exact haa h3
 ·exact hn a' a (by simpa using h2) (by simpa using h1) h3 (by simpa using hbb.symm)
def St.lend {w0 w : AI} {ms : AE} {F G : aF} (h : St w0 ms (F ++ G) w) : St w (F.map (·.1)) F w :=
 St.lent (by have := h.nodup; rw [bz, ed] at this; exact this.1) fun x hx => h.holds x (by simp [hx])
def Hn (ms : List Mark) (sp : AA) {k : Nat} (hk : k < ms.length) (x : Mark) : aV (aN cm ms ++ sp) (0 + k * 2) (cm x) = aN cm (ms.set k x) ++ sp := by
 have h1 : ms = ms.take k ++ ms[k] :: ms.drop (k + 1) := Im hk
 have hl : (ms.take k).length = k := by rw [fZ]; omega
 have h2 := Vi pW (ms.take k) (ms.drop (k + 1)) ms[k] x sp
 rw [hl, ← h1] at h2
 rw [h2, d5, ag hk]
def aAX (ms : List Mark) (sp : AA) {k : Nat} (hk : k < ms.length) (x : Mark) : 0 + k * 2 + (cm x).length ≤ (aN cm ms ++ sp).length := by
 rw [bQ, gM pW, pW]; omega
def zE (ms cur : List Mark) (i : Nat) : Prop := cur.length = ms.length ∧ ∀ k, k < ms.length → cur.getD k m0 = if k < i ∨ ms.length ≤ k + i then ms.getD (ms.length - 1 - k) m0 else ms.getD k m0
def zE.zero (ms : List Mark) : zE ms ms 0 := ⟨rfl, fun k hk => by rw [ae I]⟩
def U8 (l : List Mark) (i k : Nat) (x : Mark) (hi : i < l.length) : (l.set i x).getD k m0 = if k = i then x else l.getD k m0 := by
 simp only [fV, jt]
 by_cases h : i = k
 ·subst h; simp [hi]
 ·rw [ae h, ae (Ne.symm h)]
def zE.step {ms cur : List Mark} {i : Nat} (h : zE ms cur i) (hi : i + i + 1 < ms.length) :
  zE ms ((cur.set i (cur.getD (ms.length - 1 - i) m0)).set (ms.length - 1 - i) (cur.getD i m0)) (i + 1) := by
 obtain ⟨hl, hk⟩ := h
 refine ⟨by simp [hl], fun k hkl => ?_⟩
 rw [U8 _ _ _ _ (by simp [hl]; omega), U8 _ _ _ _ I]
 have h1 := hk i I
 have h2 := hk (ms.length - 1 - i) I
 rw [ae I] at h1 h2
 by_cases e1 : k = ms.length - 1 - i
 ·rw [ag e1, ag I, h1]; congr 1; omega
 ·rw [ae e1]
  by_cases e2 : k = i
  ·rw [ag e2, ag I, h2, e2]
  ·rw [ae e2, hk k hkl]
   by_cases e3 : k < i ∨ ms.length ≤ k + i
   ·rw [ag e3, ag I]
   ·rw [ae e3, ae I]
def zE.last {ms cur : List Mark} {i : Nat} (h : zE ms cur i) (hi : ms.length ≤ i + i + 1) : cur = ms.reverse := by
 obtain ⟨hl, hk⟩ := h
 apply jx xC
 intro k h1 h2
 have h3 := hk k I
 rw [List.getElem_reverse, Ks, Ks, h3]
 by_cases e : k < i ∨ ms.length ≤ k + i
 ·rw [ag e]
 ·rw [ae e]; congr 1; omega
def aC1 {n i : Nat} (h : i ≤ n) (hn : n < 1000000000) : IntKind.i64.wrap ((n : Int) - 1 - (i : Int) - 1) = (n : Int) - 1 - ((i + 1 : Nat) : Int) := by
 rw [bY I I]; omega
def Ow {n : Nat} (h : n ≠ 0) (hn : n < 1000000000) : IntKind.i64.wrap ((n : Int) - 1) = ((n - 1 : Nat) : Int) := by
 rw [bY I I]; omega
def aIi {m a b : Nat} (h : b = a + 1) (ha : a < m) (hm : m < 1000000000) : IntKind.i64.wrap ((m : Int) - 1 - (a : Int) - 1) = (m : Int) - 1 - (b : Int) := by
 subst h; exact aC1 I hm
def rr (ms : List Mark) (j : Nat) : List Mark := ms.dropLast.reverse.drop j
def Qv {ms : List Mark} {j : Nat} (h : j + 1 < ms.length) : rr ms j = ms.getD (ms.length - 1 - 1 - j) m0 :: rr ms (j + 1) := by
 unfold rr
 have hl : j < ms.dropLast.reverse.length := by simp; omega
 rw [gh hl, List.getElem_reverse, List.getElem_dropLast, Ks]
 simp only [ib]
def aAN {ms : List Mark} {j : Nat} (h : ms.length ≤ j + 1) : rr ms j = [] := by
 unfold rr
 apply gq
 simp; omega
def aDk {ms : List Mark} (h : ms.length ≠ 0) : thinL ms = (ms.getD (ms.length - 1) m0 :: thinR (iF ms) (iF ms) (rr ms 0)).reverse := by
 obtain ⟨A, a, rfl⟩ := H4 (l := ms) I
 simp [thinL, rr, iF, tm]
structure Kept (ms K : List Mark) (j q : Nat) : Prop where
 pos : 0 < K.length
 small : K.length ≤ j + 1
 last : K.getD (K.length - 1) m0 = ms.getD q m0
 hi : q < ms.length
 lo : ms.length ≤ q + j + 1
 rest : ms.getD (ms.length - 1) m0 :: thinR (iF ms) (iF ms) (rr ms 0) = K ++ thinR (iF ms) (tm ms q) (rr ms j)
def Kept.zero {ms : List Mark} (h : ms.length ≠ 0) : Kept ms [ms.getD (ms.length - 1) m0] 0 (ms.length - 1) :=
 ⟨kW, kW, kW, aR, aR, by rw [Zi h]; rfl⟩
def aGM {ms : List Mark} (hR : Rise ms) {i j : Nat} (hij : i ≤ j) (hj : j < ms.length) : tm ms i ≤ tm ms j := by
 rcases dt i j with h | h
 ·have := (List.pairwise_iff_getElem.1 hR.1) i j I hj h
  rw [sP I, sP hj] at this; omega
 ·have : i = j := by omega
  subst this; exact iv _
def Ss {ms : List Mark} (hR : Rise ms) {j : Nat} (hj : j < ms.length) : 0 ≤ tm ms j ∧ tm ms j ≤ 4611686018427387904 := by
 have := hR.2 _ (fh hj)
 rw [sP hj] at this; exact this
def aE9 {ms : List Mark} (hR : Rise ms) {p q : Nat} (hpq : p ≤ q) (hq : q < ms.length) : IntKind.u64.wrap (tm ms q - tm ms p) = tm ms q - tm ms p := by
 have h1 := aGM hR hpq hq
 have h2 := Ss hR hq
 have h3 := Ss hR (j := p) I
 exact wB I I
def aCD {ms : List Mark} (hR : Rise ms) {q : Nat} (hq : q < ms.length) : IntKind.u64.wrap (IntKind.u64.wrap (2 + iF ms) - tm ms q) = 2 + iF ms - tm ms q := by
 have h1 := Xb hR hq
 have h2 := Ss hR hq
 have h3 := Ss hR (j := ms.length - 1) I
 rw [Zi I] at h3
 rw [wB (n := 2 + iF ms) I I, wB I I]
def Kept.skip {ms K : List Mark} {j q : Nat} (h : Kept ms K j q) (hR : Rise ms) (hj : j + 2 < ms.length)
  (hc : decide (IntKind.u64.wrap (tm ms q - tm ms (ms.length - 1 - 1 - j - 1)) ≤ IntKind.u64.wrap (IntKind.u64.wrap (2 + iF ms) - tm ms q)) = true) : Kept ms K (j + 1) q := by
 have hlo := h.lo
 rw [aE9 hR I h.hi, aCD hR h.hi, al] at hc
 refine ⟨h.pos, by have := h.small; omega, h.last, h.hi, aR, ?_⟩
 rw [h.rest, Qv I, Qv (j := j + 1) I]
 have e : ms.length - 1 - 1 - j - 1 = ms.length - 1 - 1 - (j + 1) := by omega
 rw [e] at hc
 conv => lhs; unfold thinR
 rw [ag (show tm ms q - (ms.getD (ms.length - 1 - 1 - (j + 1)) m0).t ≤ _ from hc)]
def Kept.keep {ms K : List Mark} {j q : Nat} (h : Kept ms K j q) (hR : Rise ms) (hj : j + 1 < ms.length)
  (hc : j + 2 < ms.length → decide (IntKind.u64.wrap (tm ms q - tm ms (ms.length - 1 - 1 - j - 1)) ≤ IntKind.u64.wrap (IntKind.u64.wrap (2 + iF ms) - tm ms q)) = false) :
  Kept ms (K ++ [ms.getD (ms.length - 1 - 1 - j) m0]) (j + 1) (ms.length - 1 - 1 - j) := by
 have hlo := h.lo
 refine ⟨kW, by have := h.small; simp; omega, kW, aR, aR, ?_⟩
 rw [h.rest, Qv hj]
 rcases dt (j + 2) ms.length with h2 | h2
 ·have hc := hc h2
  rw [aE9 hR I h.hi, aCD hR h.hi, ah] at hc
  rw [Qv (j := j + 1) I]
  have e : ms.length - 1 - 1 - j - 1 = ms.length - 1 - 1 - (j + 1) := by omega
  rw [e] at hc
  conv => lhs; unfold thinR
  rw [ae (show ¬ tm ms q - (ms.getD (ms.length - 1 - 1 - (j + 1)) m0).t ≤ _ from hc), eC]
  rfl
 ·rw [aAN (j := j + 1) I]
  simp [thinR]
def Kept.done {ms K : List Mark} {j q : Nat} (h : Kept ms K j q) (hj : ms.length ≤ j + 1) : thinL ms = K.reverse := by
 rw [aDk (by have := h.hi; omega), h.rest, aAN hj]
 simp [thinR]
def Kept.behind {ms K : List Mark} {j q : Nat} (h : Kept ms K j q) : tm K (K.length - 1) = tm ms q := by
 unfold tm; rw [h.last]
def aOp {ms : List Mark} (h : ms.length ≠ 0) {w : AI} {b off : Nat} (hr : aK w b off (aN cm ms)) : w.cell? ⟨b, off + (ms.length - 1) * 2 + 0, none⟩ = some (.int .u64 (iF ms)) := by
 rw [← Zi h]; exact Kt hr I
def Kept.at_ {ms K : List Mark} {j q : Nat} (h : Kept ms K j q) {w : AI} {b off : Nat} (hr : aK w b off (aN cm K)) : w.cell? ⟨b, off + (K.length - 1) * 2 + 0, none⟩ = some (.int .u64 (tm ms q)) := by
 rw [← h.behind]; exact Kt hr (by have := h.pos; omega)
def Hr {T s : Nat} {v : AH} {n : Nat} {xs : AA} {G : aF} (h : bM T s v n xs G) (hn : n ≠ 0) :
  ∃ b cap sp, v = .slice (Q_ b) n cap ∧ G = [(b, J (xs ++ sp) T)] ∧ (xs ++ sp).length = cap * s ∧ n ≤ cap ∧ cap ≤ maxLen := by
 cases h with
 | nil => exact absurd rfl hn
 | row b _ cap _ sp h1 h2 h3 h4 => exact ⟨b, cap, sp, rfl, rfl, h2, h4, h3⟩
def Mc {b cap : Nat} {ms : List Mark} {sp : AA} (h2 : (aN cm ms ++ sp).length = cap * 2) (h4 : ms.length ≤ cap) (h3 : cap ≤ maxLen) :
  bM 191 2 (.slice (Q_ b) ms.length cap) ms.length (aN cm ms) [(b, J (aN cm ms ++ sp) 191)] :=
 .row b _ cap _ sp (gM pW ms) h2 h3 h4
def tP (b : Nat) (cap : Int) (ms : List Mark) (H : aF) : Prop := ∃ v G, H = (b, J [v, .int .i64 cap] 148) :: G ∧ bM 191 2 v ms.length (aN cm ms) G
def aPw {v : AH} {ms : List Mark} {G : aF} (h : bM 191 2 v ms.length (aN cm ms) G) (hn : ms.length ≠ 0) :
  ∃ b cap sp, v = .slice (Q_ b) ms.length cap ∧ G = [(b, J (aN cm ms ++ sp) 191)] ∧ (aN cm ms ++ sp).length = cap * 2 ∧ ms.length ≤ cap ∧ cap ≤ maxLen := Hr h hn
abbrev Ag (lb bx bm m c : Nat) (rec : Loop) (ms : List Mark) (sp : AA) (T : aF) : aF :=
 (lb, .loop rec) :: (bx, J [.slice (Q_ bm) m c] 146) :: (bm, J (aN cm ms ++ sp) 191) :: T
structure TS where
 j : Nat
 K : List Mark
 b : Nat
 c : Nat
 sp : AA
 q : Nat
def TS.ok (ms : List Mark) (s : TS) : Prop := Kept ms s.K s.j s.q ∧ (aN cm s.K ++ s.sp).length = s.c * 2 ∧ s.K.length ≤ s.c ∧ s.c ≤ maxLen
abbrev Ty (b4 b3 b1 b : Nat) (lT : Int) (line : AA) (s : TS) : aF :=
 [(b4, J [.slice (Q_ s.b) s.K.length s.c] 146), (b3, J [.int .u64 lT] 38), (b1, J [P_ b] 63), (b, J line 148), (s.b, J (aN cm s.K ++ s.sp) 191)]
def aBW {b c n : Nat} : Value.slice (some ⟨b, mU 0 0 2 c, none⟩) (n - 0) (c - 0) = .slice (Q_ b) n c := by simp [mU]
def gE (X Y vs : AA) {off : Nat} (h : X.length ≤ off) : aV (X ++ Y) off vs = X ++ aV Y (off - X.length) vs := by
 unfold aV
 rw [jz, i2, dm h, d8 I, bq, eC, eC, eC]
 have : off + vs.length - X.length = off - X.length + vs.length := by omega
 rw [this]
def aDV (ms : List Mark) (j : Nat) : aN cm ms = aN cm (ms.take j) ++ aN cm (ms.drop j) := by rw [← vJ, dz]
def aO4 {w : AI} {b j c : Nat} {ms : List Mark} {sp : AA} (hr : aK w b 0 (aN cm ms ++ sp)) (hj : j ≤ ms.length) (hc : ms.length ≤ c) : aK w b (mU 0 j 2 c) (aN cm (ms.drop j)) := by
 have h1 := hr.cut (l := j) (k := ms.length - j) (s := 2) (c := c) I
 have hl : (aN cm (ms.take j)).length = j * 2 := by rw [gM pW, fZ]; congr 1; omega
 have hl2 : (aN cm (ms.drop j)).length = (ms.length - j) * 2 := by rw [gM pW, dN]
 rw [aDV ms j, eC, ← hl, f4, ← hl2, ip] at h1
 exact h1
def aIX (ms : List Mark) (sp zs : AA) {j : Nat} (h1 : 1 ≤ ms.length) (hj : j ≤ ms.length) :
  ∃ sp', aV (aV (aN cm ms ++ sp) (1 * 2) (aN cm (ms.drop j))) ((1 + (ms.length - j)) * 2) zs = aN cm (ms.take 1 ++ ms.drop j) ++ sp' := by
 have hl : (aN cm (ms.take 1)).length = 1 * 2 := by rw [gM pW, fZ]; congr 1; omega
 have hl2 : (aN cm (ms.drop j)).length = (ms.length - j) * 2 := by rw [gM pW, dN]
 rw [aDV ms 1, eC, gE _ _ _ I, hl, j2]
 have : aV (aN cm (ms.drop 1) ++ sp) 0 (aN cm (ms.drop j)) = aN cm (ms.drop j) ++ (aN cm (ms.drop 1) ++ sp).drop (0 + (aN cm (ms.drop j)).length) := by simp [aV]
 rw [this, ← eC, ← vJ, gE _ _ _ (by rw [vJ, bQ, hl, hl2]; omega)]
 exact ⟨_, U⟩
def Po (ms : List Mark) (sp : AA) {j : Nat} (hj : j ≤ ms.length) (h1 : 1 ≤ j) : 1 * 2 + (aN cm (ms.drop j)).length ≤ (aN cm ms ++ sp).length := by
 rw [gM pW, bQ, gM pW, dN]; omega
def aGQ {b l c n k m : Nat} (h : l < c) (hk : n - l = k) (hm : l * 2 = m) : Value.slice (some ⟨b, mU 0 l 2 c, none⟩) (n - l) (c - l) = .slice (some ⟨b, m, none⟩) k (c - l) := by
 rw [mU, ae I, hk, cg, hm]
def aHw (ms : List Mark) : fL (aN cm ms) = true := by
 refine List.all_eq_true.2 fun x hx => ?_
 obtain ⟨m, _, hm⟩ := List.mem_flatMap.1 hx
 simp only [cm, eg, ec, or_false] at hm
 rcases hm with rfl | rfl <;> rfl
def Lz {ms : List Mark} {mk : Mark} (h : Rise ms) (h0 : 0 ≤ mk.t) (h1 : mk.t ≤ 4611686018427387904) (hl : ms.length ≠ 0 → iF ms < mk.t) : Rise (ms ++ [mk]) := by
 refine ⟨List.pairwise_append.2 ⟨h.1, kW, ?_⟩, ?_⟩
 ·intro a ha b hb
  have : b = mk := by simpa using hb
  subst this
  obtain ⟨k, hk, rfl⟩ := gl ha
  have h2 := Xb h hk
  have := hl I
  rw [sP hk]; omega
 ·intro m hm
  rcases List.mem_append.1 hm with hm | hm
  ·exact h.2 m hm
  ·have : m = mk := by simpa using hm
   subst this; exact ⟨h0, h1⟩
def rF (ms : List Mark) (t : Int) : Int := if 4611686018427387904 < t then 1 else if ms.length = 0 then (if t = 0 then 0 else 1) else if t ≤ iF ms then 10 else 0
def addM (cap : Nat) (ms : List Mark) (mk : Mark) : List Mark := cutL cap (thinL (ms ++ [mk]))
def aCf {ms : List Mark} (h : ms.length ≠ 0) : 1 ≤ (thinL ms).length := by rw [aDk h]; simp
def aFv (ms : List Mark) : (thinL ms).length ≤ ms.length := (aAd ms).length_le
def Xm {cap : Nat} {ms : List Mark} (h : ms.length ≤ cap) : cutL cap ms = ms := by
 rw [cutL, show ms.length - cap = 0 by omega, gr, dz]
def aEQ {ms : List Mark} {t : Int} (h : 4611686018427387904 < t) : rF ms t = 1 := by simp [rF, h]
def aAs {ms : List Mark} {t : Int} (h : ¬ 4611686018427387904 < t) (hz : ms.length = 0) (ht : t ≠ 0) : rF ms t = 1 := by simp [rF, h, hz, ht]
def W1 {ms : List Mark} {t : Int} (h : ¬ 4611686018427387904 < t) (hz : ms.length ≠ 0) (ht : t ≤ iF ms) : rF ms t = 10 := by simp [rF, h, hz, ht]
def Nu {ms : List Mark} {t : Int} (h : ¬ 4611686018427387904 < t) (h2 : ms.length = 0 → t = 0) (h3 : ms.length ≠ 0 → ¬ t ≤ iF ms) : rF ms t = 0 := by
 unfold rF
 rw [ae h]
 split
 ·rw [ag (h2 ‹_›)]
 ·rw [ae (h3 ‹_›)]
def BytS (w : AI) (bs : AE) (a : AC) (l : AB) : Prop := (a = none ∧ l = []) ∨ ∃ b off, a = some ⟨b, off, none⟩ ∧ b ∉ bs ∧ aK w b off (l.map (.int .u8))
def BytS.later {w0 w : AI} {bs : AE} {H : aF} {a : AC} {l : AB} (h : BytS w0 bs a l) (hw : St w0 bs H w) : zJ w a l := by
 rcases h with h | ⟨b, off, ha, hb, hr⟩
 ·exact .inl h
 ·exact .inr ⟨b, off, ha, cG hr hb w hw⟩
def tP.lineW {b : Nat} {cap : Int} {ms : List Mark} {G H : aF} {w0 w : AI} {bs : AE} (h : tP b cap ms G) (hw : St w0 bs H w) (hs : ∀ x ∈ G, x ∈ H) : yH w b cap ms := by
 obtain ⟨v, G', rfl, hV⟩ := h
 obtain ⟨a, c, rfl, hl, hc, hE⟩ := hV.gives pW M
 refine ⟨a, c, ?_, hc, ?_, hE.els hw fun x hx => hs x (.tail _ hx)⟩
 ·rw [uO (hw.holds _ (hs _ (.head _)))]; rfl
 ·rw [uO (hw.holds _ (hs _ (.head _)))]; rfl
def aHB (b : Nat) (cap : Int) (ms : List Mark) (t : Int) (l : AB) (G : aF) (v : AH) (H : aF) : Prop :=
 v = .int .i64 (rF ms t) ∧ ((rF ms t ≠ 0 ∧ H = G) ∨ (rF ms t = 0 ∧ ∃ mk G' D', mk.t = t ∧ mk.l = l ∧ mk.l.length ≤ mk.c ∧ H = G' ++ D' ∧ tP b cap (addM cap.toNat ms mk) G' ∧ As l (.slice mk.a l.length mk.c) D'))
def aBZ {b b9 c9 : Nat} {cap : Int} {ms tt : List Mark} {mk : Mark} {sp8 : AA} (hT : thinL (ms ++ [mk]) = tt) (ho : cap.toNat < tt.length) (h2 : 1 ≤ cap.toNat) (hcl : tt.length ≤ c9) (hmx : c9 ≤ maxLen)
  (hsp : (aN cm (tt.take 1 ++ tt.drop (1 + (tt.length - cap.toNat))) ++ sp8).length = c9 * 2) :
  tP b cap (addM cap.toNat ms mk) [(b, J [.slice (Q_ b9) (1 + (tt.length - (1 + (tt.length - cap.toNat)))) c9, .int .i64 cap] 148), (b9, J (aN cm (tt.take 1 ++ tt.drop (1 + (tt.length - cap.toNat))) ++ sp8) 191)] := by
 have hl : (tt.take 1 ++ tt.drop (1 + (tt.length - cap.toNat))).length = 1 + (tt.length - (1 + (tt.length - cap.toNat))) := by
  rw [bQ, fZ, dN]; omega
 refine ⟨_, _, U, ?_⟩
 unfold addM cutL
 rw [hT, ← hl]
 exact Mc hsp (by rw [hl]; omega) hmx
end Go.Proofs.YthigpmaadmneaaaGreatDoor.Tm
namespace Go.Proofs.YthigpmaadmneaaaGreatDoor.Tm
open Go Go.VV Go.Proofs Go.Proofs.Tryz
def new_fn (n : Int) (w : AI) :
  aG prog 23 [.int .i64 n] w [] (fun v H => ∃ b, v = P_ b ∧ H = [(b, J [.slice none 0 0, .int .i64 (max 2 (min n 256))] 148)]) := by
 refine aT func23 ?_
 refine gF ?_
 refine RY (vD U U) U (RY (Cz U U) U (RS ?_))
 refine RX (eM U U) U ?_
 rintro _ _ ⟨b7, rfl, rfl⟩
 refine bU ?_
 exact EV U aJ ⟨_, U, U⟩
def last_fn (b : Nat) (cap : Int) (ms : List Mark) (hlen : ms.length < 1000000000) (w : AI) (hL : yH w b cap ms) :
  aG prog 31 [P_ b] w [] (V_ (.tuple #[.int .u64 (iF ms), .bool (decide (ms.length ≠ 0))])) := by
 obtain ⟨a, c, q0, qc, q1, hE⟩ := hL
 refine aT func31 ?_
 refine jN ?_
 refine W (aX U U (cB q0 aL)) U (RY fY U (bU ?_))
 refine KC (fun h1 h1n => ?_) (fun h1 h1n => ?_)
 ·refine dO ?_
  exact aZ (fun _ _ => eY U U) ⟨U, by rw [aQQ aM]⟩
 refine aU ?_
 obtain ⟨br, off, rfl, hr⟩ := hE aM
 refine DR [4, 5, 6, 7, 8, 9] (bW [0, 2, 4, 6, 8, 10, 12, 14, 16, 18, 20, 22, 24, 26, 28]) ?_
 refine bU ?_
 refine DL U U U (gD q0 aL) U (bU ?_)
 refine DL U U U (gD q0 aL) U (DY U fY U (DW (v := (.int .i64 ((ms.length - 1 : Nat) : Int))) U U U (by simp only [Value.int.injEq, true_and]; rw [bY I I]; (try simp only [al, ah, ci, aq, cr, ar, ne_eq] at *); omega) (DY U (fO (ms.length - 1) U U U U aM) U ?_)))
 refine bG ?_
 refine DL U U U (gD (Kt hr aM) aL) U (eK ?_)
 exact aZ (fun _ _ => eY U U) ⟨U, by rw [aKY aM]⟩
def aC7 (m : Mark) (x : Int) (w : AI) :
  aG prog 217 [.agg (cm m).toArray, .int .u64 x] w [] (V_ (.int .i64 (cmpI m.t x))) := by
 refine aT func217 ?_
 refine aU ?_
 refine RX (eM U U) U ?_
 rintro _ _ ⟨b2, rfl, rfl⟩
 refine fJ ?_
 refine KC (fun h1 h1n => ?_) (fun h1 h1n => ?_)
 ·refine cY ?_
  exact E0 U ⟨U, aD _ (aKj h1)⟩
 refine bA ?_
 refine KC (fun h2 h2n => ?_) (fun h2 h2n => ?_)
 ·refine cY ?_
  exact E0 U ⟨U, aD _ (aJo h1 h2)⟩
 refine dO ?_
 exact E0 U ⟨U, aD _ (aMP h1 h2)⟩
def aF6 (a : AC) (c : Nat) (ms : List Mark) (hR : Rise ms) (hlen : ms.length < 1000000000) (x : Int) (w : AI) (hE : iY w cm a ms) :
  aG prog 216 [.slice a ms.length c, .int .u64 x, .func (.func 217) #[] #[]] w [] (V_ (.tuple #[.int .i64 (jH ms x), .bool (uS ms x)])) := by
 refine aT func216 ?_
 refine bA ?_
 refine RY fY U (cL ?_)
 refine uV (σ := Nat × Nat) [9, 10, 11, 15, 16, 17, 18, 19, 20, 21, 22, 23, 24, 25, 26, 27, 28, 29, 30, 31, 32, 33, 34] (fun s => [(9, .int .i64 s.1), (10, .int .i64 s.2)]) (fun s => s.1 ≤ jH ms x ∧ jH ms x ≤ s.2 ∧ s.2 ≤ ms.length) (fun s => s.2 - s.1) (0, ms.length) ?_ ?_ ?_
 ·exact ⟨av _, aCa _ _, bi _⟩
 ·exact .cons U (.cons U .nil)
 rintro ⟨lo, hi⟩ y ⟨hlo, hcl, hhi⟩
 simp only at hlo hcl hhi ⊢
 refine gF ?_
 refine KC (fun h1 h1n => ?_) (fun h1 h1n => ?_)
 ·refine bZ ?_
  refine RW (v := (.int .i64 (((lo + hi) / 2 : Nat) : Int))) U U (aD _ (aKs aM aM)) (bU ?_)
  obtain ⟨br, off, rfl, hr⟩ := hE aM
  refine eK ?_
  refine RY (fO ((lo + hi) / 2) U U U U aM) U (W (bX U U U (cG (Bs hr aM) aL)) U (bG ?_))
  refine W (Iy (A := []) (B := []) U K_ U (aS (aC7 _ x))) U (aU ?_)
  refine KC (fun h2 h2n => ?_) (fun h2 h2n => ?_)
  ·refine cY ?_
   exact ⟨((lo + hi) / 2 + 1, hi), ⟨aPn hR aM h2, hcl, hhi⟩, gS, .cons (aD _ (eX I)) (.cons U .nil), bJ, fun _ h => h⟩
  refine eK ?_
  exact ⟨(lo, (lo + hi) / 2), ⟨hlo, aQa hR aM h2, gS⟩, gS, .cons U (.cons U .nil), bJ, fun _ h => h⟩
 refine aU ?_
 obtain rfl : lo = jH ms x := by (try simp only [al, ah, ci, aq, cr, ar, ne_eq] at *); omega
 refine cY ?_
 refine KL (fun h3 h3n => ?_) (fun h3 h3n => ?_)
 ·refine bU ?_
  obtain ⟨br, off, rfl, hr⟩ := hE aM
  refine RY (fO (jH ms x) U U U U aM) U (W (bX U U U (cG (Bs hr aM) aL)) U (bG ?_))
  refine W (Iy (A := []) (B := []) U K_ U (aS (aC7 _ x))) U (dO ?_)
  exact aZ (fun _ _ => eY U U) ⟨U, by rw [show (cmpI (ms.getD (jH ms x) m0).t x == 0) = uS ms x from aKl hR aM]⟩
 refine lS ?_
 exact aZ (fun _ _ => eY U U) ⟨U, by rw [aP7 (ms := ms) (x := x) aM]⟩
def aOC (b : Nat) (cap : Int) (ms : List Mark) (hR : Rise ms) (hlen : ms.length < 1000000000) (x : Int) (w : AI) (hL : yH w b cap ms) :
  aG prog 180 [P_ b, .int .u64 x] w [] (V_ (.int .i64 (bef ms x))) := by
 obtain ⟨a, c, q0, qc, q1, hE⟩ := hL
 refine aT func180 ?_
 refine xN ?_
 refine W (aX U U (cB q0 aL)) U (bG ?_)
 refine aP K_ (fun w hw => aF6 a c ms hR hlen x w (hE.later0 hw)) ?_
 refine iG ?_
 refine KC (fun h1 h1n => ?_) (fun h1 h1n => ?_)
 ·refine dO ?_
  exact E0 U ⟨U, aD _ (aOr hR h1)⟩
 refine bA ?_
 exact E0 U ⟨U, aD _ (aHy hR hlen h1)⟩
def xX (a : AC) (c : Nat) (l : AB) (hl : l.length ≤ 140737488355328) (w : AI) (hN : zJ w a l) :
  aG prog 71 [.slice a l.length c] w [] (fun v H => As l v H) := by
 refine aT func71 ?_
 refine dO ?_
 rcases hN with ⟨rfl, rfl⟩ | ⟨ab, ao, rfl, hr⟩
 ·refine cL ?_
  exact E0 U .nil
 refine bA ?_
 refine RX (Kd (el := 5) (n := 1) U) U ?_
 rintro _ _ ⟨b5, rfl, rfl⟩
 refine bG ?_
 refine RX (mO (A := []) (G := [(b5, J [] 5)]) (R := []) (v := .slice (Q_ b5) 0 0) (n := 0) (xs := []) (m := l.length) (by_ := 1) (ys := l.map (.int .u8)) U U U U (.row b5 0 0 [] [] U U M (bi 0)) (fun w hw => .row _ _ _ _ _ (by simp : (l.map Z).length = l.length * 1) (cG hr aL w hw)) (kE _ _) I I) U ?_
 rintro v7 _ ⟨G7, hV7, hnil7, rfl⟩
 refine wE (v := v7) U U U ?_
 refine aU ?_
 exact iU (fun _ _ => Jp U) (cj _ _) (by rw [cg] at hV7; exact hV7)
def Before_fn (b : Nat) (cap : Int) (ms : List Mark) (hR : Rise ms) (hlen : ms.length < 1000000000) (x : Int) (w : AI) (hL : yH w b cap ms) (hD : aDp w ms) :
  aG prog 145 [P_ b, .int .u64 x] w [] (fun v H => ∃ dv, v = .tuple #[.int .u64 (befM ms x).t, dv, .bool (decide (0 ≤ bef ms x))] ∧ As (befM ms x).l dv H) := by
 obtain ⟨a, c, q0, qc, q1, hE⟩ := hL
 refine aT func145 ?_
 refine cL ?_
 refine aP K_ (fun w hw => aOC b cap ms hR hlen x w (yH.later0 ⟨a, c, q0, qc, q1, hE⟩ hw)) ?_
 refine bA ?_
 refine KC (fun h1 h1n => ?_) (fun h1 h1n => ?_)
 ·refine gF ?_
  exact aZ (fun _ _ => aBt U U U) ⟨_, aIG aM, by rw [aDU aM]; exact .nil⟩
 refine aU ?_
 obtain ⟨hb1, hb2⟩ := Zk (ms := ms) (x := x) aM
 obtain ⟨br, off, rfl, hr⟩ := hE I
 have hM := hD (ms.getD (bef ms x).toNat m0) (by rw [Jr aM]; exact befM_mem aM)
 refine DR [4, 8, 9, 10, 11, 12, 13, 14, 15, 16] (bW [0, 2, 4, 6, 8, 10, 12, 14, 16, 18, 20, 22, 24, 26, 28, 30, 33, 34, 36, 38]) ?_
 refine bU ?_
 refine DL U U U (gD q0 aL) U (bG ?_)
 refine DY U (fO (bef ms x).toNat U U U hb2.symm hb1) U (bG ?_)
 refine DL U U U (gD (Kt hr hb1) aL) U (bU ?_)
 refine DL U U U (gD q0 aL) U (bG ?_)
 refine DY U (fO (bef ms x).toNat U U U hb2.symm hb1) U (bG ?_)
 refine DL U U U (gD (aNm hr hb1) aL) U (DX U (cQ K_ U (fun w hw => xX _ _ (ms.getD (bef ms x).toNat m0).l (hM.2.1) w (hM.2.2.later0 hw))) U (by intro _ _ _ hK x hx; obtain ⟨G29, hV29, rfl⟩ := hK; repeat (first | exact hx | exact iK _ hx | refine bD _ ?_ | refine .tail _ ?_)) ?_)
 rintro v29 _ ⟨G29, hV29, rfl⟩
 refine bG ?_
 refine aB5 (v := v29) U U U U ?_
 refine bU ?_
 exact iU (fun _ _ => aAL U U U) (cj _ _) ⟨v29, aFM aM v29, by rw [← Jr aM]; exact hV29⟩
def marks_fn (b : Nat) (cap : Int) (ms : List Mark) (hlen : ms.length < 1000000000) (w : AI) (hL : yH w b cap ms) :
  aG prog 35 [P_ b] w [] (fun v H => bM 38 1 v ms.length ((times ms).map (.int .u64)) H) := by
 obtain ⟨a, c, q0, qc, q1, hE⟩ := hL
 refine aT func35 ?_
 refine Gv ?_
 refine W (aX U U (cB q0 aL)) U (RY fY U (bU ?_))
 refine dV (σ := Nat × AH × aF) [3, 5, 13, 14, 15, 16, 17, 18, 19, 20, 21, 22] (fun s => [(3, s.2.1), (13, .int .i64 s.1)]) (fun s => s.2.2 ++ []) (fun s => s.1 ≤ ms.length ∧ bM 38 1 s.2.1 s.1 ((times (ms.take s.1)).map (.int .u64)) s.2.2) (fun s => ms.length - s.1) (0, .slice none 0 0, []) ?_ ?_ ?_ ?_
 ·exact ⟨av _, .nil⟩
 ·exact .cons U (.cons U .nil)
 ·exact fun _ h => h
 rintro ⟨k, v, G⟩ y ⟨hk, hV⟩
 simp only at hk hV ⊢
 refine cY ?_
 refine KC (fun h1 h1n => ?_) (fun h1 h1n => ?_)
 ·refine eK ?_
  obtain ⟨br, off, rfl, hr⟩ := hE aM
  refine bG ?_
  refine RY (fO k U U U U aM) U (W (bX U U U (cG (Bs hr aM) aL)) U (RX (gG U) U ?_))
  rintro _ _ ⟨b5, rfl, rfl⟩
  refine W iB U (aU ?_)
  refine Mf (v := v) U U U ?_
  refine aU ?_
  refine RX (eQ U U U U U U) U ?_
  rintro _ _ ⟨b20, rfl, rfl⟩
  refine RX (mO (A := [_, _]) (G := G) (R := []) (v := v) (n := k) (m := 1) (by_ := 8) U U U U hV (fun w hw => .row _ _ _ _ _ U (aH aE w hw)) U I I) U ?_
  rintro v21 _ ⟨G', hV', hnil, rfl⟩
  refine wE (v := v21) U U U ?_
  refine cY ?_
  exact ⟨(k + 1, v21, G'), ⟨gS, by simp only; rw [aQt aM]; exact hV'⟩, gS, .cons U (.cons (aD _ (eX I)) .nil), bJ, (fun _ h => h.sub Jx)⟩
 refine bU ?_
 refine Mf (v := v) U U U ?_
 refine wE (v := v) U U U ?_
 refine aU ?_
 obtain rfl : k = ms.length := by (try simp only [al, ah, ci, aq, cr, ar, ne_eq] at *); omega
 rw [dq] at hV
 exact iU (fun _ _ => Jp U) (cj _ _) hV
def aMk (b c : Nat) (ms : List Mark) (sp : AA) (hlen : ms.length < 1000000000) (w : AI) (hb : w.heap[b]? = some (J (aN cm ms ++ sp) 191)) :
  aG prog 111 [.slice (Q_ b) ms.length c] w [b] (fun v H => v = .tuple #[] ∧ H = [(b, J (aN cm ms.reverse ++ sp) 191)]) := by
 refine yI func111 U U U (St.lent1 hb) ?_
 refine bU ?_
 refine RY fY U (cY ?_)
 refine dV (σ := Nat × List Mark) [2, 3, 7, 8, 9, 10, 11, 12, 13, 14, 15, 16, 17, 18, 19, 20, 21, 22, 23, 24, 25, 26, 27] (fun s => [(2, .int .i64 s.1), (3, .int .i64 ((ms.length : Int) - 1 - s.1))]) (fun s => [(b, J (aN cm s.2 ++ sp) 191)]) (fun s => s.1 ≤ ms.length ∧ zE ms s.2 s.1) (fun s => ms.length - s.1) (0, ms) ?_ ?_ ?_ ?_
 ·exact ⟨av _, .zero ms⟩
 ·exact .cons U (.cons (by show Value.int .i64 (IntKind.i64.wrap _) = _; rw [bY I I]; simp) .nil)
 ·exact fun _ h => h
 rintro ⟨i, cur⟩ y ⟨hi, hT⟩
 simp only at hi hT ⊢
 have hcl := hT.1
 refine gF ?_
 refine KC (fun h1 h1n => ?_) (fun h1 h1n => ?_)
 ·refine bU ?_
  refine DR [8, 9, 10, 11] (bW [0, 2, 4, 6, 8, 10, 12, 14, 16, 18, 20, 22, 24, 27, 28, 31]) ?_
  refine dO ?_
  refine DY U (fO (s := 2) (ms.length - 1 - i) U U U aM aM) U (gL U U U U (fun w hw => Bs (kN aE w hw).left aM) U U ?_)
  refine aU ?_
  refine DY U (fO (s := 2) i U U U U aM) U (gL U U U U (fun w hw => Bs (kN aE w hw).left aM) U U ?_)
  refine DY U (fO (s := 2) i U U U U aM) U (DZ U (hQ (vs := cm (cur.getD (ms.length - 1 - i) m0)) 0 U U U U U U (aAX cur sp aM _)) U aW ?_)
  simp only [ak]
  rw [Hn cur sp (k := i) aM]
  refine DY U (fO (s := 2) (ms.length - 1 - i) U U U aM aM) U (DZ U (hQ (vs := cm (cur.getD i m0)) 0 U U U U U U (aAX (cur.set i _) sp aCs _)) U aW ?_)
  simp only [ak]
  rw [Hn (cur.set i _) sp (k := ms.length - 1 - i) aCs]
  refine bZ ?_
  refine ⟨(i + 1, _), ⟨gS, hT.step aM⟩, gS, .cons (aD _ (eX I)) (.cons (aD _ (aC1 aM aM)) .nil), bJ, fun _ h => h⟩
 refine bG ?_
 rw [hT.last aM]
 exact EN aJ ⟨U, U⟩
def aJd (a : AC) (n c : Nat) (w : AI) :
  aG prog 110 [.slice a n c] w [] (fun v H => ∃ b, v = .func (.func 140) #[] #[P_ b] ∧ H = [(b, J [.slice a n c] 146)]) := by
 refine aT func110 ?_
 refine aU ?_
 refine RX (eM U U) U ?_
 rintro _ _ ⟨b1, rfl, rfl⟩
 refine eK ?_
 refine RW (v := (.func (.func 140) #[] #[P_ b1])) U U Fh (bU ?_)
 exact EV U aJ ⟨_, U, U⟩
def aGo {σ : Type} (w : AI) (bs : AE) (lb bx bm m c : Nat) (rec : Loop) (nn p q : Nat) (e0 : bB) (assign body : Code) (ms : List Mark) (sp : AA) (Hs : σ → aF) (J : σ → Prop) (cnt : σ → Nat) (s0 : σ)
  (hrec : zZ nn e0 [p, q] assign body rec) (hpq : [p, q].all (fun p => Nat.blt p nn) = true) (hm : m ≤ ms.length) (hlen : ms.length < 1000000000) (hJ : J s0) (h0 : cnt s0 = 0)
  (hst : St w bs (Ag lb bx bm m c rec ms sp (Hs s0)) w)
  (round : ∀ s, J s → cnt s < m → uL ⟨prog, Tryz.f140.ntmps, w, bs, none, []⟩ nn lb rec [p, q] assign body [.int .i64 ((m : Int) - 1 - cnt s), .agg (cm (ms.getD (m - 1 - cnt s) m0)).toArray] e0 (Ag lb bx bm m c rec ms sp (Hs s))
   (fun v H' => v = .bool true ∧ ∃ s', J s' ∧ cnt s' = cnt s + 1 ∧ ∀ w', St w bs H' w' → St w bs (Ag lb bx bm m c rec ms sp (Hs s')) w')) :
  aG prog 140 [.func (.yield lb) #[] #[], P_ bx] w bs (fun v H => v = .tuple #[] ∧ ∃ s, J s ∧ cnt s = m ∧ H = Ag lb bx bm m c rec ms sp (Hs s)) := by
 refine cE func140 hst ?_
 refine bU ?_
 refine RY fY U (eK ?_)
 refine dV (σ := σ) [3, 7, 8, 9, 10, 11, 12, 13, 14, 15, 16, 17, 18] (fun s => [(3, .int .i64 ((m : Int) - 1 - cnt s))]) (fun s => Ag lb bx bm m c rec ms sp (Hs s)) (fun s => J s ∧ cnt s ≤ m) (fun s => m - cnt s) s0 ?_ ?_ ?_ ?_
 ·exact ⟨hJ, aR⟩
 ·exact .cons (by show Value.int .i64 (IntKind.i64.wrap _) = _; rw [h0, bY I I]; simp) .nil
 ·exact fun _ h => h
 rintro s y ⟨hJs, hcs⟩
 refine dO ?_
 refine KC (fun h1 h1n => ?_) (fun h1 h1n => ?_)
 ·refine bZ ?_
  refine RY (fO (s := 2) (m - 1 - cnt s) U U U aM aM) U (W (bX U U U (fun w hw => Bs (aH aE w hw).left aM)) U (Ig (lb := lb) (rec := rec) (ps := [p, q]) U U U U U hpq (.head _) hrec (round s hJs aM) ?_))
  rintro _ H' ⟨rfl, s', hJ', hc', hst'⟩
  refine bZ ?_
  exact ⟨s', ⟨hJ', gS⟩, gS, .cons (aD _ (aIi hc' aM aM)) .nil, bJ, fun w' h => hst' w' h⟩
 refine bG ?_
 exact EN aJ ⟨U, s, hJs, gS, U⟩
set_option maxHeartbeats 4000000 in
def Y0 (b : Nat) (cap : Int) (ms : List Mark) (hR : Rise ms) (hne : ms.length ≠ 0) (hlen : ms.length < 1000000000) (G : aF) (w : AI) (hL : tP b cap ms G) (hst : St w (G.map (·.1)) G w) :
  aG prog 72 [P_ b] w (G.map (·.1)) (fun v H => v = .tuple #[] ∧ tP b cap (thinL ms) H) := by
 obtain ⟨v, G', rfl, hV⟩ := hL
 obtain ⟨bm, c, sp, rfl, rfl, hsz, hcl, hmx⟩ := aPw hV hne
 refine E9 func72 U U U hst ?_
 refine tS U ?_
 refine bG ?_
 refine RX (eM U U) U ?_
 rintro _ _ ⟨b1, rfl, rfl⟩
 refine bG ?_
 refine tS U ?_
 refine cY ?_
 refine RY fY U (aU ?_)
 refine tS U ?_
 refine dO ?_
 refine RW (v := (.int .i64 ((ms.length - 1 : Nat) : Int))) U U (aD _ (Ow aM hlen)) (RY (fO (s := 2) (ms.length - 1) U U U U aM) U (bG ?_))
 refine W (aX U U (fun w hw => aOp hne (aH aE w hw).left)) U (RX (gG U) U ?_)
 rintro _ _ ⟨b3, rfl, rfl⟩
 refine W iB U (bG ?_)
 refine tS U ?_
 refine dO ?_
 refine RW (v := (.int .i64 ((ms.length - 1 : Nat) : Int))) U U (aD _ (Ow aM hlen)) (RY (fO (s := 2) (ms.length - 1) U U U U aM) U (W (bX U U U (fun w hw => Bs (aH aE w hw).left aM)) U (RX (eQ U U U U U U) U ?_)))
 rintro _ _ ⟨b30, rfl, rfl⟩
 refine RX (gG U) U ?_
 rintro _ _ ⟨b4, rfl, rfl⟩
 refine W iB U (bG ?_)
 refine I6 U ?_
 refine dO ?_
 refine RW (v := (.int .i64 ((ms.length - 1 : Nat) : Int))) U U (aD _ (Ow aM hlen)) (RW (v := (.slice (Q_ bm) (ms.length - 1) c)) (wG (s := 2) 0 (ms.length - 1) U U U U U U (av _) I) U aBW (RX (cQ K_ U (aS (aJd _ _ _))) U ?_))
 rintro _ _ ⟨G38, ⟨bx, rfl, rfl⟩, rfl⟩
 refine bG ?_
 refine aJY (A := []) U U U K_ ?_
 intro w9 D0 lb rec hD hlb hrec w2 hw2
 refine ⟨Ag lb bx bm (ms.length - 1) c rec ms sp (Ty b4 b3 b1 b (iF ms) [.slice (Q_ bm) ms.length c, .int .i64 cap] ⟨0, [ms.getD (ms.length - 1) m0], b30, 1, [], ms.length - 1⟩), [(D0, .deferred (some []))], _, _, fun w' h => St.pick [0, 2, 8, 3, 5, 6, 7, 4, 1] h U, fun _ hb => jS hb,
  aGo (σ := TS) w2 _ lb bx bm (ms.length - 1) c rec Tryz.f72.ntmps 39 40 _ _ _ ms sp (Ty b4 b3 b1 b (iF ms) [.slice (Q_ bm) ms.length c, .int .i64 cap]) (TS.ok ms) TS.j ⟨0, [ms.getD (ms.length - 1) m0], b30, 1, [], ms.length - 1⟩ hrec rfl I hlen ⟨.zero hne, rfl, bi _, by show (1 : Nat) ≤ maxLen; decide⟩ rfl (St.lend (G := [(D0, .deferred (some []))]) (St.pick [0, 2, 8, 3, 5, 6, 7, 4, 1] hw2 rfl)) ?_, ?_⟩
 ·rintro ⟨j, K, bK, cK, spK, q⟩ ⟨hK, hsz9, hcl9, hmx9⟩ hj
  dsimp only [Ag, Ty] at hK hsz9 hcl9 hmx9 hj ⊢
  unfold uL
  have hqhi := hK.hi
  have hqlo := hK.lo
  refine cY ?_
  refine RX (gG U) U ?_
  rintro _ _ ⟨b6, rfl, rfl⟩
  refine W iB U (bG ?_)
  refine ⟨_, fun _ h => h.perm (List.Perm.swap _ _ _), ?_⟩
  refine cY ?_
  refine RY fY U (RW (v := (.int .i64 ((K.length - 1 : Nat) : Int))) U U (aD _ (Ow (by have := hK.pos; omega) aC9)) (RY (fO (s := 2) (K.length - 1) U U U U (by have := hK.pos; omega)) U (bG ?_)))
  refine W (aX U U (fun w hw => hK.at_ (aH aE w hw).left)) U (eK ?_)
  refine DR [8, 9, 14, 15, 16, 17] (bW [0, 2, 4, 6, 8, 10, 12, 14, 16, 18, 20, 22, 24, 26, 28, 30, 32, 34, 36, 38]) ?_
  refine aU ?_
  refine KE (fun h1 h1n => ?_) (fun h1 h1n => ?_)
  ·refine dO ?_
   refine DW (v := (.int .i64 ((ms.length - 1 - 1 - j - 1 : Nat) : Int))) U U U (aD _ Wj) (DY U (fO (s := 2) (ms.length - 1 - 1 - j - 1) U U U U aM) U (bG ?_))
   refine DL U U U (fun w hw => Kt (kN aE w hw).left aM) U (bA ?_)
   refine KC (fun h2 h2n => ?_) (fun h2 h2n => ?_)
   ·refine bG ?_
    exact ⟨_, fun _ h => St.pick [0, 2, 3, 4, 5, 6, 7, 8] h U, U, ⟨j + 1, K, bK, cK, spK, q⟩, ⟨hK.skip hR aM h2, hsz9, hcl9, hmx9⟩, U, fun _ h => h⟩
   refine bU ?_
   refine W (bX U U U (aH aE)) U (RX (eQ U U U U U U) U ?_)
   rintro _ _ ⟨b70, rfl, rfl⟩
   refine RX (mO (A := [_, _, _, _, _, _, _, _, _]) (G := [(bK, J (aN cm K ++ spK) 191)]) (R := []) (v := .slice (Q_ bK) K.length cK) (n := K.length) (m := 1) (T := 191) (s := 2) (by_ := 32) (ys := cm (ms.getD (ms.length - 1 - 1 - j) m0)) U U U U (Mc hsz9 hcl9 hmx9) (fun w hw => .row _ _ _ _ _ U (aH (.head _) w hw)) U Lx Lx) U ?_
   rintro v71 _ ⟨G', hV', hnil, rfl⟩
   obtain ⟨b9, c9, sp9, rfl, rfl, hz9, hl9, hx9⟩ := Hr hV' I
   rw [show aN cm K ++ _ = aN cm (K ++ [ms.getD (ms.length - 1 - 1 - j) m0]) from (wS _ _).symm] at hz9 ⊢
   rw [show K.length + 1 = (K ++ [ms.getD (ms.length - 1 - 1 - j) m0]).length by simp] at hl9 ⊢
   refine W (hQ 6 U U U U U U aL) U (bG ?_)
   exact ⟨_, fun _ h => St.pick [2, 4, 5, 6, 7, 8, 9, 0] h U, U, ⟨j + 1, _, b9, c9, sp9, ms.length - 1 - 1 - j⟩, ⟨hK.keep hR aM (fun _ => h2), hz9, hl9, hx9⟩, U, fun _ h => h⟩
  refine Gv ?_
  refine W (bX U U U (aH aE)) U (RX (eQ U U U U U U) U ?_)
  rintro _ _ ⟨b70, rfl, rfl⟩
  refine RX (mO (A := [_, _, _, _, _, _, _, _, _]) (G := [(bK, J (aN cm K ++ spK) 191)]) (R := []) (v := .slice (Q_ bK) K.length cK) (n := K.length) (m := 1) (T := 191) (s := 2) (by_ := 32) (ys := cm (ms.getD (ms.length - 1 - 1 - j) m0)) U U U U (Mc hsz9 hcl9 hmx9) (fun w hw => .row _ _ _ _ _ U (aH (.head _) w hw)) U Lx Lx) U ?_
  rintro v71 _ ⟨G', hV', hnil, rfl⟩
  obtain ⟨b9, c9, sp9, rfl, rfl, hz9, hl9, hx9⟩ := Hr hV' I
  rw [show aN cm K ++ _ = aN cm (K ++ [ms.getD (ms.length - 1 - 1 - j) m0]) from (wS _ _).symm] at hz9 ⊢
  rw [show K.length + 1 = (K ++ [ms.getD (ms.length - 1 - 1 - j) m0]).length by simp] at hl9 ⊢
  refine W (hQ 6 U U U U U U aL) U (bG ?_)
  exact ⟨_, fun _ h => St.pick [2, 4, 5, 6, 7, 8, 9, 0] h U, U, ⟨j + 1, _, b9, c9, sp9, ms.length - 1 - 1 - j⟩, ⟨hK.keep hR aM (fun _ => absurd h1 aM), hz9, hl9, hx9⟩, U, fun _ h => h⟩
 rintro _ _ ⟨rfl, ⟨j, K, bK, cK, spK, q⟩, ⟨hK, hsz9, hcl9, hmx9⟩, hj, rfl⟩
 dsimp only [Ag, Ty] at hK hsz9 hcl9 hmx9 hj ⊢
 refine ⟨rec, _, fun _ h => h.perm ((List.perm_append_singleton _ _).cons _), by rw [hrec.ready]; simp, hrec.calm, ?_⟩
 refine Zr U ?_
 refine bU ?_
 refine cZ (fun _ h => St.pick [8, 0, 1, 2, 3, 4, 5, 6, 7] h U) ?_
 refine RX (kM (A := [_]) [bK] K_ U aL (fun w hw => aMk bK cK K spK aC9 w (hw.holds _ (.head _)))) U ?_
 rintro _ _ ⟨G73, ⟨rfl, rfl⟩, rfl⟩
 refine dO ?_
 refine W (hQ 8 U U U U U U aL) U (bG ?_)
 exact ⟨_, fun _ h => St.pick [2, 8, 0] h U, iU (fun _ _ => nK) aJ ⟨U, _, _, U, by rw [hK.done I]; have := Mc (b := bK) (cap := cK) (ms := K.reverse) (sp := spK) (by simpa [gM pW] using hsz9) (by simpa using hcl9) hmx9; simpa using this⟩⟩
def Tc (b c j : Nat) (ms : List Mark) (sp : AA) (hlen : ms.length < 1000000000) (hc : ms.length ≤ c) (hsz : (aN cm ms ++ sp).length = c * 2) (h2 : 2 ≤ j) (hj : j ≤ ms.length) (w : AI) (hb : w.heap[b]? = some (J (aN cm ms ++ sp) 191)) :
  aG prog 73 [.slice (Q_ b) ms.length c, .int .i64 1, .int .i64 j] w [b] (fun v H => v = .slice (Q_ b) (1 + (ms.length - j)) c ∧ ∃ sp', (aN cm (ms.take 1 ++ ms.drop j) ++ sp').length = c * 2 ∧ H = [(b, J (aN cm (ms.take 1 ++ ms.drop j) ++ sp') 191)]) := by
 refine yI func73 U U U (St.lent1 hb) ?_
 refine cL ?_
 refine RY fY U (RY (aBx (s := 2) 1 j ms.length U U U U U U U U I hj hc) U (dO ?_))
 refine gO false U U U lA ?_
 refine dO ?_
 refine RY fY U (bU ?_)
 refine DR [] (bW [0, 2, 4, 6, 8, 10, 13, 14]) ?_
 refine aU ?_
 refine DW (v := (.slice (Q_ b) 1 c)) U (wG (s := 2) 0 1 U U U U U U I I) U aBW (aU ?_)
 refine DY U (wG (s := 2) j ms.length U U U U U U hj hc) U (DZ U (aDr (n := 1) (m := ms.length - j) (T := 191) (s := 2) (by_ := 32) (ys := aN cm (ms.drop j)) 0 U U U U U (fun w hw => .row _ _ _ _ _ (by rw [gM pW, dN]) (aO4 (aH (.head _) w hw) hj hc)) (aHw _) I (Po ms sp hj I)) U aW (dO ?_))
 refine RY fY U (bG ?_)
 refine RW (v := (.slice (some ⟨b, (1 + (ms.length - j)) * 2, none⟩) (j - 1) (c - (1 + (ms.length - j))))) (wG (s := 2) (1 + (ms.length - j)) ms.length U U U U U U I hc) U (aGQ I I U) (W (aCK (s := 2) (z := [.int .u64 0, .slice none 0 0]) 0 U U U U U U U I (by rw [yQ (Po ms sp hj I), hsz]; simp only [eF, ax]; omega)) U (gF ?_))
 obtain ⟨sp', hsp⟩ := aIX ms sp (mG ((j - 1) * 2) [.int .u64 0, .slice none 0 0]) (j := j) I hj
 refine iU (fun _ _ => Cy U) aJ ⟨U, sp', ?_, by rw [← hsp]; rfl⟩
 rw [← hsp, yQ (by rw [yQ (Po ms sp hj I), hsz, Zv]; omega), yQ (Po ms sp hj I), hsz]
set_option maxHeartbeats 4000000 in
def Pr (b : Nat) (cap : Int) (hcap : 2 ≤ cap) (hcap2 : cap ≤ 256) (ms : List Mark) (hR : Rise ms) (hlen : ms.length < 100000000) (x : Int) (hx : 0 ≤ x) (a : AC) (c : Nat) (l : AB) (hl : l.length ≤ 140737488355328) (G : aF) (w : AI)
  (hL : tP b cap ms G) (hst : St w (G.map (·.1)) G w) (hB : BytS w (G.map (·.1)) a l) :
  aG prog 33 [P_ b, .int .u64 x, .slice a l.length c] w (G.map (·.1)) (aHB b cap ms x l G) := by
 obtain ⟨vL, GL, rfl, hV⟩ := hL
 refine cE func33 hst ?_
 refine jN ?_
 refine KC (fun h1 h1n => ?_) (fun h1 h1n => ?_)
 ·refine cY ?_
  exact EV U aJ ⟨aD _ (aEQ aM).symm, .inl ⟨by rw [aEQ aM]; decide, U⟩⟩
 refine eK ?_
 refine aP K_ (fun w hw => last_fn b cap ms I w (tP.lineW (G := (b, J [vL, .int .i64 cap] 148) :: GL) ⟨_, _, U, hV⟩ hw (fun x hx => hx))) ?_
 refine bZ ?_
 by_cases hz : ms.length = 0
 ·refine bU ?_
  refine gO true U U U (by simp [hz]) ?_
  refine cY ?_
  refine KC (fun h2 h2n => ?_) (fun h2 h2n => ?_)
  ·refine cY ?_
   exact EV U aJ ⟨aD _ (aAs aM hz aM).symm, .inl ⟨by rw [aAs aM hz aM]; decide, U⟩⟩
  refine bU ?_
  refine gO false U U U (by simp [hz]) ?_
  refine bZ ?_
  have hok : rF ms x = 0 := Nu aM (fun hz' => gS) (fun hz' => gS)
  refine DR [5, 6, 7, 8, 9] (bW [0, 2, 4, 6, 8, 10, 12, 15, 16, 19, 21, 22, 24, 27]) ?_
  refine gF ?_
  refine DX U (cQ K_ U (fun w hw => xX a c l hl w (hB.later hw))) U aB3 ?_
  rintro v42 _ ⟨G42, hV42, rfl⟩
  obtain ⟨a42, c42, rfl, hc42, hB42⟩ := hV42.slice
  refine jC (fun _ h => h.perm bg) ?_
  refine DY U (rV U U U U) U (DX U (eQ U U U U U U) U tM ?_)
  rintro _ _ ⟨b44, rfl, rfl⟩
  refine DX U (mO (A := [_, _]) (G := GL) (R := G42) (v := vL) (n := ms.length) (m := 1) (T := 191) (s := 2) (by_ := 32) (ys := cm ⟨x, a42, c42, l⟩) U U U U hV (fun w hw => .row _ _ _ _ _ U (aH (.head _) w hw)) U I I) U aW ?_
  rintro v45 _ ⟨G45, hV45, hnil45, rfl⟩
  rw [show aN cm ms ++ cm ⟨x, a42, c42, l⟩ = aN cm (ms ++ [⟨x, a42, c42, l⟩]) from (wS _ _).symm] at hV45
  refine jC (fun _ h => aEE G45 [_, _] G42 h) ?_
  obtain ⟨a45, c45, rfl⟩ := hV45.slice
  refine aU ?_
  refine DZ U iB U aW (eK ?_)
  refine cZ (fun _ h => h.sub (bj _ _)) ?_
  refine RX (kM (A := (b, J [.slice a45 (ms.length + 1) c45, .int .i64 cap] 148) :: G45) (G := G42) _ K_ U (fun _ hb => jS hb) (fun w hw => Y0 b cap (ms ++ [⟨x, a42, c42, l⟩]) (Lz hR hx aM (fun hz => gS)) aL aD1 _ w ⟨_, _, U, by rw [bQ]; exact hV45⟩ (St.lend hw))) U ?_
  rintro _ _ ⟨G49, ⟨rfl, ⟨v9, G9, rfl, hV9⟩⟩, rfl⟩
  have hT1 := aCf (ms := ms ++ [⟨x, a42, c42, l⟩]) aL
  have hT2 := aFv (ms ++ [⟨x, a42, c42, l⟩])
  rw [bQ, az] at hT2
  generalize hTT : thinL (ms ++ [⟨x, a42, c42, l⟩]) = tt at *
  obtain ⟨a9, c9, rfl⟩ := hV9.slice
  refine bU ?_
  refine DR [5, 6, 7, 8] (bW [0, 2, 4, 6, 8, 10, 12, 14, 16, 18, 20]) ?_
  refine eK ?_
  refine DY U fY U (eK ?_)
  refine DW (v := (.int .i64 ((tt.length : Int) - cap))) U U U (aD _ (bY aM aM)) (gF ?_)
  refine KC (fun h3 h3n => ?_) (fun h3 h3n => ?_)
  ·refine gF ?_
   refine RW (v := (.int .i64 ((1 + (tt.length - cap.toNat) : Nat) : Int))) U U (aD _ Wj) ?_
   obtain ⟨b9, c9, sp9, hv9, rfl, hsz9, hcl9, hmx9⟩ := Hr hV9 I
   cases hv9
   refine cZ (fun _ h => h.perm (List.Perm.swap _ _ _)) ?_
   refine RX (kM (A := [_]) [b9] K_ U aL (fun w hw => Tc b9 c9 (1 + (tt.length - cap.toNat)) tt sp9 I hcl9 hsz9 aM aM w (hw.holds _ (.head _)))) U ?_
   rintro _ _ ⟨G69, ⟨rfl, ⟨sp8, hsp8, rfl⟩⟩, rfl⟩
   refine aU ?_
   refine W iB U (dO ?_)
   exact lC (fun _ _ => Cy U) (fun _ h => h.perm (List.Perm.swap _ _ _)) ⟨aD _ hok.symm, .inr ⟨hok, ⟨x, a42, c42, l⟩, [_, _], G42, U, U, hc42, U, aBZ hTT aM I hcl9 hmx9 hsp8, hV42⟩⟩
  refine dO ?_
  exact EV U aJ ⟨aD _ hok.symm, .inr ⟨hok, ⟨x, a42, c42, l⟩, _ :: G9, G42, U, U, hc42, U, ⟨_, _, U, by unfold addM; rw [hTT, Xm aM]; exact hV9⟩, hV42⟩⟩
 refine bU ?_
 refine gO false U U U (by simp [hz]) ?_
 refine bZ ?_
 refine gO true U U U (by simp [hz]) ?_
 refine dO ?_
 refine KC (fun h4 h4n => ?_) (fun h4 h4n => ?_)
 ·refine cY ?_
  exact EV U aJ ⟨aD _ (W1 aM hz aM).symm, .inl ⟨by rw [W1 aM hz aM]; decide, U⟩⟩
 refine aU ?_
 have hok : rF ms x = 0 := Nu aM (fun hz' => gS) (fun hz' => gS)
 refine DR [5, 6, 7, 8, 9] (bW [0, 2, 4, 6, 8, 10, 12, 15, 16, 19, 21, 22, 24, 27]) ?_
 refine gF ?_
 refine DX U (cQ K_ U (fun w hw => xX a c l hl w (hB.later hw))) U aB3 ?_
 rintro v42 _ ⟨G42, hV42, rfl⟩
 obtain ⟨a42, c42, rfl, hc42, hB42⟩ := hV42.slice
 refine jC (fun _ h => h.perm bg) ?_
 refine DY U (rV U U U U) U (DX U (eQ U U U U U U) U tM ?_)
 rintro _ _ ⟨b44, rfl, rfl⟩
 refine DX U (mO (A := [_, _]) (G := GL) (R := G42) (v := vL) (n := ms.length) (m := 1) (T := 191) (s := 2) (by_ := 32) (ys := cm ⟨x, a42, c42, l⟩) U U U U hV (fun w hw => .row _ _ _ _ _ U (aH (.head _) w hw)) U I I) U aW ?_
 rintro v45 _ ⟨G45, hV45, hnil45, rfl⟩
 rw [show aN cm ms ++ cm ⟨x, a42, c42, l⟩ = aN cm (ms ++ [⟨x, a42, c42, l⟩]) from (wS _ _).symm] at hV45
 refine jC (fun _ h => aEE G45 [_, _] G42 h) ?_
 obtain ⟨a45, c45, rfl⟩ := hV45.slice
 refine aU ?_
 refine DZ U iB U aW (eK ?_)
 refine cZ (fun _ h => h.sub (bj _ _)) ?_
 refine RX (kM (A := (b, J [.slice a45 (ms.length + 1) c45, .int .i64 cap] 148) :: G45) (G := G42) _ K_ U (fun _ hb => jS hb) (fun w hw => Y0 b cap (ms ++ [⟨x, a42, c42, l⟩]) (Lz hR hx aM (fun hz => gS)) aL aD1 _ w ⟨_, _, U, by rw [bQ]; exact hV45⟩ (St.lend hw))) U ?_
 rintro _ _ ⟨G49, ⟨rfl, ⟨v9, G9, rfl, hV9⟩⟩, rfl⟩
 have hT1 := aCf (ms := ms ++ [⟨x, a42, c42, l⟩]) aL
 have hT2 := aFv (ms ++ [⟨x, a42, c42, l⟩])
 rw [bQ, az] at hT2
 generalize hTT : thinL (ms ++ [⟨x, a42, c42, l⟩]) = tt at *
 obtain ⟨a9, c9, rfl⟩ := hV9.slice
 refine bU ?_
 refine DR [5, 6, 7, 8] (bW [0, 2, 4, 6, 8, 10, 12, 14, 16, 18, 20]) ?_
 refine eK ?_
 refine DY U fY U (eK ?_)
 refine DW (v := (.int .i64 ((tt.length : Int) - cap))) U U U (aD _ (bY aM aM)) (gF ?_)
 refine KC (fun h5 h5n => ?_) (fun h5 h5n => ?_)
 ·refine gF ?_
  refine RW (v := (.int .i64 ((1 + (tt.length - cap.toNat) : Nat) : Int))) U U (aD _ Wj) ?_
  obtain ⟨b9, c9, sp9, hv9, rfl, hsz9, hcl9, hmx9⟩ := Hr hV9 I
  cases hv9
  refine cZ (fun _ h => h.perm (List.Perm.swap _ _ _)) ?_
  refine RX (kM (A := [_]) [b9] K_ U aL (fun w hw => Tc b9 c9 (1 + (tt.length - cap.toNat)) tt sp9 I hcl9 hsz9 aM aM w (hw.holds _ (.head _)))) U ?_
  rintro _ _ ⟨G69, ⟨rfl, ⟨sp8, hsp8, rfl⟩⟩, rfl⟩
  refine aU ?_
  refine W iB U (dO ?_)
  exact lC (fun _ _ => Cy U) (fun _ h => h.perm (List.Perm.swap _ _ _)) ⟨aD _ hok.symm, .inr ⟨hok, ⟨x, a42, c42, l⟩, [_, _], G42, U, U, hc42, U, aBZ hTT aM I hcl9 hmx9 hsp8, hV42⟩⟩
 refine dO ?_
 exact EV U aJ ⟨aD _ hok.symm, .inr ⟨hok, ⟨x, a42, c42, l⟩, _ :: G9, G42, U, U, hc42, U, ⟨_, _, U, by unfold addM; rw [hTT, Xm aM]; exact hV9⟩, hV42⟩⟩
end Go.Proofs.YthigpmaadmneaaaGreatDoor.Tm
namespace Go.Proofs.YthigpmaadmneaaaGreatDoor.Tm
open Go Go.VV
def Xr (last : Int) : ∀ (r : List Mark) (b : Int) (hr : r ≠ []), ∃ A, thinR last b r = A ++ [r.getLast hr]
 | [], _, h => absurd rfl h
 | [m], _, _ => ⟨[], rfl⟩
 | m :: p :: r, b, _ => by
  unfold thinR
  split
  ·obtain ⟨A, hA⟩ := Xr last (p :: r) b aL
   exact ⟨A, by rw [hA]; simp⟩
  ·obtain ⟨A, hA⟩ := Xr last (p :: r) m.t aL
   exact ⟨m :: A, by rw [hA]; simp⟩
def aJx (x : Mark) (ms : List Mark) (mk : Mark) : ∃ A, thinL (x :: ms ++ [mk]) = x :: A ++ [mk] := by
 unfold thinL
 have h : (x :: ms ++ [mk]).reverse = mk :: (ms.reverse ++ [x]) := by simp
 rw [h]
 obtain ⟨A, hA⟩ := Xr mk.t (ms.reverse ++ [x]) mk.t aL
 exact ⟨A.reverse, by simp only [hA]; simp⟩
def aLp (mk : Mark) : thinL ([] ++ [mk]) = [mk] := rfl
def aLb {cap : Nat} (hc : 2 ≤ cap) (x : Mark) (ms : List Mark) (mk : Mark) : ∃ A, cutL cap (x :: ms ++ [mk]) = x :: A ++ [mk] := by
 unfold cutL
 refine ⟨ms.drop ((x :: ms ++ [mk]).length - cap), ?_⟩
 have h1 : (x :: ms ++ [mk]).take 1 = [x] := by simp
 have h2 : (x :: ms ++ [mk]).drop (1 + ((x :: ms ++ [mk]).length - cap)) = ms.drop ((x :: ms ++ [mk]).length - cap) ++ [mk] := by
  rw [il, ct, List.drop_succ_cons, jj lA]
 rw [h1, h2]; rfl
def aOL {cap : Nat} (hc : 2 ≤ cap) (ms : List Mark) : (cutL cap ms).length ≤ cap := by
 unfold cutL
 rw [bQ, fZ, dN]; omega
def addM_sub (cap : Nat) (ms : List Mark) (mk : Mark) : (addM cap ms mk).Sublist (ms ++ [mk]) := (aM3 cap _).trans (aAd _)
def aFK {cap : Nat} (hc : 2 ≤ cap) (x : Mark) (ms : List Mark) (mk : Mark) : ∃ A, addM cap (x :: ms) mk = x :: A ++ [mk] := by
 unfold addM
 obtain ⟨A, hA⟩ := aJx x ms mk
 rw [hA]
 exact aLb hc x A mk
def aMx {cap : Nat} (hc : 2 ≤ cap) (mk : Mark) : addM cap [] mk = [mk] := by
 unfold addM
 rw [aLp, Xm lA]
def aDt (A : List Mark) (mk : Mark) : iF (A ++ [mk]) = mk.t := by simp [iF, tm]
def Q1 (x : Mark) (A : List Mark) : tm (x :: A) 0 = x.t := by simp [tm]
structure LJ (b : Nat) (cap : Int) (k : Nat) (t : Int) (ms : List Mark) (G D : aF) : Prop where
 line : tP b cap ms G
 dat : vV D ms
 rise : Rise ms
 len : ms.length ≤ cap.toNat
 lo : 0 ≤ t
 hi : t ≤ k * 9
 zero : k = 0 → ms = [] ∧ t = 0
 more : 0 < k → 0 < ms.length ∧ tm ms 0 = 0 ∧ iF ms = t
def LJ.start (b : Nat) (cap : Int) : LJ b cap 0 0 [] [(b, J [.slice none 0 0, .int .i64 cap] 148)] [] :=
 ⟨⟨_, [], rfl, .nil⟩, fun _ h => xR, Rise.nil, av _, iv _, kW, fun _ => ⟨rfl, rfl⟩, fun h => I⟩
def Nxt (k : Nat) (t t' : Int) : Prop := (k = 0 → t' = 0) ∧ (0 < k → t < t' ∧ t' ≤ t + 9)
section
variable {b k : Nat} {cap t t' : Int} {ms : List Mark} {G D : aF}
def LJ.rise' (h : LJ b cap k t ms G D) (hk : k < 1000000) (hn : Nxt k t t') {mk : Mark} (hm : mk.t = t') : Rise (ms ++ [mk]) := by
 have h1 := h.lo; have h2 := h.hi
 rcases d9 k with hz | hz
 ·have := hn.1 hz
  exact Lz h.rise I I (fun hl => by rw [(h.zero hz).1] at hl; simp at hl)
 ·have := hn.2 hz; have h4 := (h.more hz).2.2
  exact Lz h.rise I I (fun _ => aR)
def LJ.ok (h : LJ b cap k t ms G D) (hk : k < 1000000) (hn : Nxt k t t') : rF ms t' = 0 := by
 have h1 := h.lo; have h2 := h.hi
 rcases d9 k with hz | hz
 ·have := hn.1 hz
  have hm := (h.zero hz).1
  exact Nu I (fun _ => aR) (fun hl => by rw [hm] at hl; simp at hl)
 ·have := hn.2 hz; have h4 := h.more hz
  exact Nu I (fun hl => aR) (fun _ => aR)
def LJ.step (h : LJ b cap k t ms G D) (hk : k < 1000000) (hc : 2 ≤ cap) (hn : Nxt k t t') {mk : Mark} {G' D' : aF} {l : AB} (ht : mk.t = t') (hl : mk.l = l) (hlen : l.length ≤ 140737488355328) (hlc : mk.l.length ≤ mk.c)
  (hL : tP b cap (addM cap.toNat ms mk) G') (hB : As l (.slice mk.a l.length mk.c) D') : LJ b cap (k + 1) t' (addM cap.toNat ms mk) G' (D' ++ D) := by
 have hsub := addM_sub cap.toNat ms mk
 have h1 := h.lo; have h2 := h.hi
 have ht2 : 0 ≤ t' ∧ t' ≤ (k + 1 : Nat) * 9 := by
  rcases d9 k with hz | hz
  ·have := hn.1 hz; omega
  ·have := hn.2 hz; omega
 refine ⟨hL, ?_, (h.rise' hk hn ht).sub hsub, aOL I _, ht2.1, ht2.2, fun h0 => I, fun _ => ?_⟩
 ·have hD : vV (D' ++ D) (ms ++ [mk]) := fun m hm => by
   rcases List.mem_append.1 hm with hm | hm
   ·exact (h.dat.more fun x hx => f8 _ hx) m hm
   ·have : m = mk := by simpa using hm
    subst this
    obtain ⟨a, c, hs, _, hW⟩ := hB.slice
    cases hs
    exact ⟨hlc, by rw [hl]; exact hlen, fun w0 w bs H hw hx => by rw [hl]; exact hW w0 w bs H hw fun x hx' => hx x (g9 _ hx')⟩
  exact hD.sub hsub
 ·rcases d9 k with hz | hz
  ·rw [(h.zero hz).1, aMx I]
   have := hn.1 hz
   exact ⟨kW, by simp [tm]; omega, by rw [show [mk] = [] ++ [mk] from rfl, aDt, ht]⟩
  ·obtain ⟨h3, h4, h5⟩ := h.more hz
   cases ms with
   | nil => simp at h3
   | cons x A =>
    obtain ⟨B, hB2⟩ := aFK (cap := cap.toNat) I x A mk
    rw [hB2]
    rw [Q1] at h4
    exact ⟨kW, by rw [ct, Q1]; exact h4, by rw [aDt, ht]⟩
end
def bef_nn {ms : List Mark} (hR : Rise ms) (h0 : 0 < ms.length) (hz : tm ms 0 = 0) {x : Int} (hx : 0 ≤ x) : 0 ≤ bef ms x := by
 have := (Rh hR.1 x h0).1 (by rw [sP h0]; omega)
 unfold bef; omega
def befM_le {ms : List Mark} (hR : Rise ms) {x : Int} (h0 : 0 ≤ bef ms x) : (befM ms x).t ≤ x := (aQo hR I).1
def tb (t : Int) : AB := [t % 256, t / 256 % 256, 9]
end Go.Proofs.YthigpmaadmneaaaGreatDoor.Tm
namespace Go.Proofs.YthigpmaadmneaaaGreatDoor.Tm
open Go Go.VV Go.Proofs Go.Proofs.Tryz
section
variable (b : Nat) (cap : Int) (hcap : 2 ≤ cap ∧ cap ≤ 256) (ms : List Mark) (hR : Rise ms) (hlen : ms.length < 100000000) (x : Int) (hx : 0 ≤ x) (a : AC) (c : Nat) (l : AB) (hl : l.length ≤ 140737488355328) (G : aF) (w : AI)
 (hL : tP b cap ms G) (hst : St w (G.map (·.1)) G w) (hB : BytS w (G.map (·.1)) a l)
include hcap hR hlen hx hl hL hst hB
def aFN (h : rF ms x = 0) : aG prog 33 [P_ b, .int .u64 x, .slice a l.length c] w (G.map (·.1)) (fun v H => v = .int .i64 0 ∧
  ∃ mk G' D', mk.t = x ∧ mk.l = l ∧ mk.l.length ≤ mk.c ∧ H = G' ++ D' ∧ tP b cap (addM cap.toNat ms mk) G' ∧ As l (.slice mk.a l.length mk.c) D') :=
 (Pr b cap hcap.1 hcap.2 ms hR hlen x hx a c l hl G w hL hst hB).mono fun v H hA => by
  obtain ⟨rfl, h1 | h1⟩ := hA
  ·exact absurd h h1.1
  ·exact ⟨by rw [h], h1.2⟩
end
def add_at {b k : Nat} {cap t t' : Int} {ms : List Mark} {G D R : aF} (hcap : 2 ≤ cap ∧ cap ≤ 256) (h : LJ b cap k t ms G D) (hk : k < 1000000) (hn : Nxt k t t') {a : AC} {c : Nat} {l : AB} (hl : l.length ≤ 140737488355328)
  {w0 w : AI} {bs : AE} (hw : St w0 bs (G ++ R) w) (hB : BytS w (G.map (·.1)) a l) :
  aG prog 33 [P_ b, .int .u64 t', .slice a l.length c] w (G.map (·.1)) (fun v H => v = .int .i64 0 ∧ ∃ mk G' D', mk.t = t' ∧ mk.l = l ∧ H = G' ++ D' ∧ LJ b cap (k + 1) t' (addM cap.toNat ms mk) G' (D' ++ D)) := by
 have h1 := h.lo; have h2 := h.len
 have ht : 0 ≤ t' := by
  rcases d9 k with hz | hz
  ·have := hn.1 hz; omega
  ·have := hn.2 hz; omega
 refine (aFN b cap hcap ms h.rise I t' ht a c l hl G w h.line (St.lend hw) hB (h.ok hk hn)).mono ?_
 rintro v H ⟨rfl, mk, G', D', e1, e2, e3, rfl, hL, hB⟩
 exact ⟨U, mk, G', D', e1, e2, U, h.step hk hcap.1 hn e1 e2 hl e3 hL hB⟩
end Go.Proofs.YthigpmaadmneaaaGreatDoor.Tm
namespace Go.Proofs.YthigpmaadmneaaaGreatDoor
open Go Go.VV Go.Proofs Go.RowKit Go.Proofs.Tryz
def tR (last : Int) : Int → AB → AB
 | _, [] => []
 | _, [m] => [m]
 | b, m :: p :: r => if b - p ≤ 2 + last - b then tR last b (p :: r) else m :: tR last m (p :: r)
def I9 (cap : Nat) (l : AB) (x : Int) : AB := (x :: tR x x l.reverse).reverse.take 1 ++ (x :: tR x x l.reverse).reverse.drop (1 + ((x :: tR x x l.reverse).length - cap))
def Xo (cap : Nat) : Nat → AB
 | 0 => []
 | n + 1 => I9 cap (Xo cap n) n
def Xf (last : Int) : ∀ (r : List Tm.Mark) (b : Int), Tm.times (Tm.thinR last b r) = tR last b (Tm.times r)
 | [], _ => rfl
 | [_], _ => rfl
 | m :: p :: r, b => by
  show Tm.times (if b - p.t ≤ 2 + last - b then Tm.thinR last b (p :: r) else m :: Tm.thinR last m.t (p :: r)) = (if b - p.t ≤ 2 + last - b then tR last b (Tm.times (p :: r)) else m.t :: tR last m.t (Tm.times (p :: r)))
  split
  ·exact Xf last (p :: r) b
  ·show m.t :: Tm.times (Tm.thinR last m.t (p :: r)) = _
   rw [Xf last (p :: r) m.t]
def aFY (cap : Nat) (ms : List Tm.Mark) (mk : Tm.Mark) : Tm.times (Tm.addM cap ms mk) = I9 cap (Tm.times ms) mk.t := by
 have e1 : Tm.thinL (ms ++ [mk]) = (mk :: Tm.thinR mk.t mk.t ms.reverse).reverse := by
  unfold Tm.thinL
  have : (ms ++ [mk]).reverse = mk :: ms.reverse := by simp
  rw [this]
 have e2 : Tm.times (mk :: Tm.thinR mk.t mk.t ms.reverse).reverse = (mk.t :: tR mk.t mk.t (Tm.times ms).reverse).reverse := by
  unfold Tm.times
  rw [List.map_reverse, cu, show (Tm.thinR mk.t mk.t ms.reverse).map (·.t) = tR mk.t mk.t (ms.reverse.map (·.t)) from Xf _ _ _, List.map_reverse]
 have e3 : (mk :: Tm.thinR mk.t mk.t ms.reverse).reverse.length = (mk.t :: tR mk.t mk.t (Tm.times ms).reverse).length := by
  have := aD List.length e2
  rw [Tm.times_len] at this
  rw [this, List.length_reverse]
 unfold Tm.addM
 rw [e1]
 unfold Tm.cutL I9
 rw [e3, ← e2]
 unfold Tm.times
 rw [bz, fz, ie]
end Go.Proofs.YthigpmaadmneaaaGreatDoor
namespace Go.Proofs.YthigpmaadmneaaaGreatDoor.Hs
open Go Go.VV
structure Stp where
 n : Int
 bank : Int
 what : Int
 dn : Int
 at_ : Int
 kind : Int
 x : Int
 y : Int
 size : Int
 m : Int
 taken : Bool
 to : Int
def cD (s : Stp) : AA := [.int .i64 s.what, .int .i64 s.dn, .int .u16 s.at_, .int .i64 s.kind, .int .i64 s.x, .int .i64 s.y, .int .i64 s.size, .int .u16 s.m, .bool s.taken]
def cS (s : Stp) : AA := [.int .u64 s.n, .int .i64 s.bank, .int .i64 s.what, .int .i64 s.dn, .int .u16 s.at_, .int .i64 s.kind, .int .i64 s.x, .int .i64 s.y, .int .i64 s.size, .int .u16 s.m, .bool s.taken, .int .u16 s.to]
structure StpOk (s : Stp) : Prop where
 at0 : 0 ≤ s.at_ ∧ s.at_ < 65536
 size : -9223372036854775808 ≤ s.size ∧ s.size ≤ 9223372036854775807
structure Cll where
 kind : Int
 bank : Int
 at_ : Int
 to : Int
 back : Int
def cC (c : Cll) : AA := [.int .i64 c.kind, .int .i64 c.bank, .int .u16 c.at_, .int .u16 c.to, .int .u16 c.back]
def cC_len (c : Cll) : (cC c).length = 5 := rfl
def c0 : Cll := ⟨0, 0, 0, 0, 0⟩
structure Rcd where
 n : Int
 what : Int
 bank : Int
 at_ : Int
 kind : Int
 x : Int
 y : Int
 size : Int
 m : Int
def cR (r : Rcd) : AA := [.int .u64 r.n, .int .i64 r.what, .int .i64 r.bank, .int .u16 r.at_, .int .i64 r.kind, .int .i64 r.x, .int .i64 r.y, .int .i64 r.size, .int .u16 r.m]
def cR_len (r : Rcd) : (cR r).length = 9 := rfl
def r0 : Rcd := ⟨0, 0, 0, 0, 0, 0, 0, 0, 0⟩
def recOf (s : Stp) : Rcd := ⟨s.n, s.what, s.bank, s.at_, s.kind, s.x, s.y, s.size, s.m⟩
def backOf (s : Stp) : Int := (s.at_ + s.size) % 65536
def callOf (s : Stp) : Option Cll :=
 if s.what = 2 then some ⟨3, s.bank, s.at_, s.to, s.at_⟩
 else if s.what = 1 ∧ s.kind = 25 ∧ s.taken = true then some ⟨1, s.bank, s.at_, s.to, backOf s⟩
 else if s.what = 1 ∧ s.kind = 28 then some ⟨2, s.bank, s.at_, s.to, backOf s⟩ else none
def Yj (s : Stp) : Bool := decide (s.what = 1) && ((decide (s.kind = 26) && s.taken) || decide (s.kind = 27))
def layC (cs : List Cll) (c : Cll) : List Cll := (cs ++ [c]).drop ((cs ++ [c]).length - 256)
def noteC (cs : List Cll) (s : Stp) : List Cll :=
 match callOf s with
 | some c => layC cs c
 | none => if Yj s = true then cs.dropLast else cs
def callsL (l : List Stp) : List Cll := l.foldl noteC []
def callsL_snoc (l : List Stp) (s : Stp) : callsL (l ++ [s]) = noteC (callsL l) s := by simp [callsL]
def aOT (cs : List Cll) (c : Cll) : (layC cs c).length ≤ 256 := by unfold layC; rw [dN]; omega
def aHN {cs : List Cll} (h : cs.length ≤ 256) (s : Stp) : (noteC cs s).length ≤ 256 := by
 unfold noteC
 split
 ·exact aOT _ _
 ·split
  ·rw [ib]; omega
  ·exact h
def P5 : ∀ (l : List Stp) {cs : List Cll}, cs.length ≤ 256 → (l.foldl noteC cs).length ≤ 256
 | [], _, h => h
 | s :: l, _, h => P5 l (aHN h s)
def callsL_len (l : List Stp) : (callsL l).length ≤ 256 := P5 l aL
def L6 {s : Stp} (_h : StpOk s) : IntKind.u16.wrap (s.at_ + IntKind.u16.wrap s.size) = backOf s := by
 rw [pR, pR, backOf]; omega
def RingOk (keep : Nat) (ring : List Rcd) (l : List Stp) : Prop := ring.length = 32 ∧ ∀ i, (hi : i < l.length) → l.length ≤ i + keep → ring[i % keep]? = some (recOf l[i])
def RingOk.start (keep : Nat) {ring : List Rcd} (h : ring.length = 32) : RingOk keep ring [] := ⟨h, fun i hi => by simp at hi⟩
def RingOk.step {keep : Nat} {ring : List Rcd} {l : List Stp} (h : RingOk keep ring l) (h1 : 1 ≤ keep) (h2 : keep ≤ 32) (s : Stp) : RingOk keep (ring.set (l.length % keep) (recOf s)) (l ++ [s]) := by
 refine ⟨by rw [cy]; exact h.1, fun i hi hk => ?_⟩
 rw [bQ, az] at hi hk
 rw [jt]
 rcases dt i l.length with hl | hl
 ·have hne : ¬ l.length % keep = i % keep := fun he => by
   have h5 : (l.length - i) % keep = 0 := by
    rw [Nat.sub_mod_eq_zero_of_mod_eq he]
   have h6 : l.length - i < keep := by omega
   rw [Nat.mod_eq_of_lt h6] at h5
   omega
  rw [ae hne, h.2 i hl I, List.getElem_append_left hl]
 ·have : i = l.length := by omega
  subst this
  have hm : l.length % keep < 32 := ef (io _ I) h2
  rw [ag rfl, ag (by rw [h.1]; exact hm)]
  simp
def lastL (l : List Stp) (keep : Nat) : List Stp := l.drop (l.length - keep)
def lastL_len (l : List Stp) (keep : Nat) : (lastL l keep).length = min l.length keep := by unfold lastL; rw [dN]; omega
def hC (v : AH) (ring : List Rcd) (keep noted : Int) : AA := v :: (aN cR ring ++ [.int .i64 keep, .int .i64 noted])
def HistH (b : Nat) (keep noted : Nat) (cs : List Cll) (ring : List Rcd) (H : aF) : Prop :=
 ∃ v G, H = (b, J (hC v ring keep noted) 141) :: G ∧ bM 197 5 v cs.length (aN cC cs) G ∧ ring.length = 32
section
variable {v u : AH} {ring : List Rcd} {k n m : Int} (hr : ring.length = 32)
include hr
def hC_len : (hC v ring k n).length = 291 := by simp [hC, gM cR_len, hr]
def aD9 : (hC v ring k n)[289]? = some (.int .i64 k) := by
 unfold hC
 rw [eq, er (by rw [gM cR_len, hr]; omega), gM cR_len, hr]; rfl
def H7 : (hC v ring k n)[290]? = some (.int .i64 n) := by
 unfold hC
 rw [eq, er (by rw [gM cR_len, hr]; omega), gM cR_len, hr]; rfl
def aJ6 : aV (hC v ring k n) 290 [.int .i64 m] = hC v ring k m := by
 have h := zX (v :: (aN cR ring ++ [.int .i64 k])) [Value.int .i64 n] [] [.int .i64 m] rfl
 have hl : (v :: (aN cR ring ++ [Value.int .i64 k])).length = 290 := by simp [gM cR_len, hr]
 rw [hl] at h
 simpa [hC] using h
def aOP {i : Nat} (hi : i < 32) (r : Rcd) : aV (hC v ring k n) (1 + i * 9) (cR r) = hC v (ring.set i r) k n := by
 have h1 : ring = ring.take i ++ ring[i] :: ring.drop (i + 1) := Im I
 have h2 : ring.set i r = ring.take i ++ r :: ring.drop (i + 1) := by rw [d5, ag I]
 have hl : (v :: aN cR (ring.take i)).length = 1 + i * 9 := by simp [gM cR_len, hr]; omega
 have h := zX (v :: aN cR (ring.take i)) (cR ring[i]) (aN cR (ring.drop (i + 1)) ++ [.int .i64 k, .int .i64 n]) (cR r) rfl
 rw [hl] at h
 have hf : aN cR ring = aN cR (ring.take i) ++ (cR ring[i] ++ aN cR (ring.drop (i + 1))) := by
  conv => lhs; rw [h1]
  rw [vJ, xS]
 have e1 : hC v ring k n = v :: aN cR (ring.take i) ++ (cR ring[i] ++ (aN cR (ring.drop (i + 1)) ++ [.int .i64 k, .int .i64 n])) := by
  unfold hC; rw [hf]; simp only [eC, ct]
 have e2 : hC v (ring.set i r) k n = v :: aN cR (ring.take i) ++ (cR r ++ (aN cR (ring.drop (i + 1)) ++ [.int .i64 k, .int .i64 n])) := by
  unfold hC; rw [h2, vJ, xS]; simp only [eC, ct]
 rw [e1, e2]; exact h
omit hr in
def aLH {w : AI} {b : Nat} (h : aK w b 0 (hC v ring k n)) {i : Nat} {r : Rcd} (hi : ring[i]? = some r) : aK w b (1 + i * 9) (cR r) := by
 have h1 : aK w b 1 (aN cR ring ++ [.int .i64 k, .int .i64 n]) := fun j x hx => by
  have := h (1 + j) x (by unfold hC; rw [il, eq]; exact hx)
  rwa [cg] at this
 exact aK.nth' cR_len h1.left hi
end
def Ix {v u : AH} {ring : List Rcd} {k n : Int} : aV (hC v ring k n) 0 [u] = hC u ring k n := by simp [aV, hC]
def pJ (cs : List Cll) (s : Stp) : List Cll :=
 if s.kind = 25 then (if s.taken = true then layC cs ⟨1, s.bank, s.at_, s.to, backOf s⟩ else cs)
 else if s.kind = 28 then layC cs ⟨2, s.bank, s.at_, s.to, backOf s⟩
 else if s.kind = 26 then (if s.taken = true then cs.dropLast else cs)
 else if s.kind = 27 then cs.dropLast else cs
def aMy {s : Stp} (h : s.what = 2) (cs : List Cll) : noteC cs s = layC cs ⟨3, s.bank, s.at_, s.to, s.at_⟩ := by
 simp [noteC, callOf, h]
def aOF {s : Stp} (h : s.what = 1) (cs : List Cll) : noteC cs s = pJ cs s := by
 have h2 : ¬ s.what = 2 := by omega
 unfold noteC callOf pJ Yj
 rw [ae h2]
 simp only [h, true_and, decide_true, ic]
 by_cases h25 : s.kind = 25
 ·have : ¬ s.kind = 28 := by omega
  by_cases ht : s.taken = true <;> simp [h25, ht]
 ·by_cases h28 : s.kind = 28
  ·simp [h28]
  ·by_cases h26 : s.kind = 26
   ·by_cases ht : s.taken = true <;> simp [h26, ht]
   ·by_cases h27 : s.kind = 27 <;> simp [h25, h28, h26, h27]
def aLD {s : Stp} (h1 : ¬ s.what = 1) (h2 : ¬ s.what = 2) (cs : List Cll) : noteC cs s = cs := by
 simp [noteC, callOf, Yj, h1, h2]
def O4 (c : Cll) : fL (cC c) = true := rfl
def aLT (c : Rcd) : fL (cR c) = true := rfl
def aJ5 {b l c n s k : Nat} (h : l < c) (hk : n - l = k) : Value.slice (some ⟨b, mU 0 l s c, none⟩) (n - l) (c - l) = .slice (some ⟨b, l * s, none⟩) k (c - l) := by
 rw [mU, ae I, hk, cg]
def aIE {cs : List Cll} {x : Cll} (h : (cs ++ [x]).length ≤ 256) : layC cs x = cs ++ [x] := by
 unfold layC; rw [show (cs ++ [x]).length - 256 = 0 by omega, kh]
def aHh {cs : List Cll} {x : Cll} (h : cs.length ≤ 256) (h2 : 256 < (cs ++ [x]).length) : layC cs x = (cs ++ [x]).drop 1 := by
 unfold layC
 rw [bQ, az] at *
 rw [show cs.length + 1 - 256 = 1 by omega]
structure HistW (w : AI) (b keep noted : Nat) (cs : List Cll) (ring : List Rcd) : Prop where
 calls : ∃ a c, w.cell? ⟨b, 0, none⟩ = some (.slice a cs.length c) ∧ cs.length ≤ c ∧ (a = none → c = 0) ∧ Gf w cC a cs ∧ aK w b 0 (hC (.slice a cs.length c) ring keep noted)
 keep : w.cell? ⟨b, 289, none⟩ = some (.int .i64 keep)
 noted : w.cell? ⟨b, 290, none⟩ = some (.int .i64 noted)
 len : ring.length = 32
 row : ∀ i r, ring[i]? = some r → aK w b (1 + i * 9) (cR r)
def HistH.histW {b keep noted : Nat} {cs : List Cll} {ring : List Rcd} {G H : aF} {w0 w : AI} {bs : AE} (h : HistH b keep noted cs ring G) (hw : St w0 bs H w) (hs : ∀ x ∈ G, x ∈ H) : HistW w b keep noted cs ring := by
 obtain ⟨v, G', rfl, hV, hr⟩ := h
 obtain ⟨a, c, rfl, hl, hc, _, hz, hE⟩ := hV.slw cC_len M
 have h0 := hw.holds _ (hs _ (.head _))
 have hrow := aK.all h0
 refine ⟨⟨a, c, ?_, hc, hz, hE w fun x hx => hw.holds x (hs x (.tail _ hx)), hrow⟩, ?_, ?_, hr, fun i r hi => aLH hrow hi⟩
 ·rw [uO h0]; rfl
 ·rw [uO h0]; simpa using aD9 hr
 ·rw [uO h0]; simpa using H7 hr
def HistW.later0 {w0 w : AI} {H : aF} {b keep noted : Nat} {cs : List Cll} {ring : List Rcd} (h : HistW w0 b keep noted cs ring) (hw : St w0 [] H w) : HistW w b keep noted cs ring := by
 obtain ⟨⟨a, c, h0, hc, hz, hE, hA⟩, h1, h2, h3, h4⟩ := h
 exact ⟨⟨a, c, cB h0 aL w hw, hc, hz, hE.later0 hw, cG hA aL w hw⟩, cB h1 aL w hw, cB h2 aL w hw, h3, fun i r hi => cG (h4 i r hi) aL w hw⟩
def Vv {n k : Nat} : (n : Int).tmod (k : Int) = ((n % k : Nat) : Int) := by
 rw [cn I]; simp
def aGh {s : Stp} (h : s.kind = 25) (ht : s.taken = true) (cs : List Cll) : pJ cs s = layC cs ⟨1, s.bank, s.at_, s.to, backOf s⟩ := by simp [pJ, h, ht]
def aJO {s : Stp} (h : s.kind = 25) (ht : s.taken = false) (cs : List Cll) : pJ cs s = cs := by simp [pJ, h, ht]
def aNw {s : Stp} (h : s.kind = 28) (cs : List Cll) : pJ cs s = layC cs ⟨2, s.bank, s.at_, s.to, backOf s⟩ := by simp [pJ, h]
def aC0 {s : Stp} (h : s.kind = 26) (ht : s.taken = true) (cs : List Cll) : pJ cs s = cs.dropLast := by simp [pJ, h, ht]
def aMT {s : Stp} (h : s.kind = 26) (ht : s.taken = false) (cs : List Cll) : pJ cs s = cs := by simp [pJ, h, ht]
def aAJ {s : Stp} (h : s.kind = 27) (cs : List Cll) : pJ cs s = cs.dropLast := by simp [pJ, h]
def aGP {s : Stp} (h1 : ¬ s.kind = 25) (h2 : ¬ s.kind = 28) (h3 : ¬ s.kind = 26) (h4 : ¬ s.kind = 27) (cs : List Cll) : pJ cs s = cs := by simp [pJ, h1, h2, h3, h4]
def B4 {cs : List Cll} {sc : AA} (h : cs.length ≠ 0) : ∃ sp', aN cC cs ++ sc = aN cC cs.dropLast ++ sp' := by
 obtain ⟨A, a, rfl⟩ := H4 (l := cs) I
 exact ⟨cC a ++ sc, by rw [wS, List.dropLast_concat, eC]⟩
def Z9 {cs : List Cll} (h : cs.length = 0) : cs.dropLast = cs := by
 rw [dg h]; rfl
def aAG {cs : List Cll} {bc cc : Nat} {sc : AA} (h : cs.length ≠ 0) (hz : (aN cC cs ++ sc).length = cc * 5) (hl : cs.length ≤ cc) (hx : cc ≤ maxLen) :
  bM 197 5 (.slice (Q_ bc) cs.dropLast.length cc) cs.dropLast.length (aN cC cs.dropLast) [(bc, J (aN cC cs ++ sc) 197)] := by
 obtain ⟨sp', hs⟩ := B4 (sc := sc) h
 rw [hs] at hz ⊢
 exact bM.all_ cC_len hz (by rw [ib]; omega) hx
def aII {a : AC} {m c : Nat} {ring : List Rcd} {k n : Int} : fL (hC (.slice a m c) ring k n) = true := by
 have h1 := List.all_eq_true.1 (Vf aLT ring)
 refine List.all_eq_true.2 fun x hx => ?_
 unfold hC at hx
 rcases List.mem_cons.1 hx with rfl | hx
 ·rfl
 ·rcases List.mem_append.1 hx with hx | hx
  ·exact h1 x hx
  ·simp at hx; rcases hx with rfl | rfl <;> rfl
end Go.Proofs.YthigpmaadmneaaaGreatDoor.Hs
namespace Go.Proofs.YthigpmaadmneaaaGreatDoor
open Go Go.VV Go.Proofs Go.RowKit Go.Proofs.Tryz
structure Gx where
 rom : AB
 plan : List gH
 pa : AC
 pc : Nat
structure Gx.Ok (g : Gx) : Prop where
 len : g.rom.length ≤ 100000000
 byts : bE g.rom
 err : errH g.rom = 0
 chg : ∀ c ∈ g.plan, sA c
 few : g.plan.length ≤ 1000000
def Gx.m (g : Gx) (k : Nat) : Mm := J4 g.plan (kY g.rom) k
def Ot (m : Mm) (a : Int) : Int := if 32768 ≤ a then 0 else bankB a m.bk
def aLJ (k : Nat) (b : Int) (d : Dd) (to : Int) : Hs.Stp := ⟨k, b, d.what, d.n, d.at_, d.op.kind, d.op.x, d.op.y, d.op.size, d.op.n, d.taken, to⟩
def Gx.st (g : Gx) (k : Nat) : Hs.Stp := aLJ k (Ot (g.m k) (g.m k).cpu.r.pc) (eT g.plan (g.m k)).1 (g.m (k + 1)).cpu.r.pc
def Gx.sts (g : Gx) (k : Nat) : List Hs.Stp := (List.range k).map g.st
def Gx.enc (g : Gx) (k : Nat) : AB := fM (g.m k)
section
variable {g : Gx} (h : g.Ok)
def Gx.sts_len (g : Gx) (k : Nat) : (g.sts k).length = k := by simp [Gx.sts]
def Gx.sts_snoc (g : Gx) (k : Nat) : g.sts (k + 1) = g.sts k ++ [g.st k] := by simp [Gx.sts, ej]
include h
def Gx.Ok.inv (k : Nat) : nY (kY g.rom) True (g.m k) := (aQS h.err h.byts).run h.chg k
def Gx.Ok.ram (k : Nat) : (g.m k).ram.length = (kY g.rom).ram.length := (h.inv k).fr.ram
def Gx.Ok.enc_len (k : Nat) : (g.enc k).length = (g.enc 0).length := by
 unfold Gx.enc
 rw [yF (h.inv k).wf, yF (h.inv 0).wf, h.ram, h.ram]
def Gx.Ok.enc_le (k : Nat) : 1 ≤ (g.enc k).length ∧ (g.enc k).length ≤ 200000 := by
 unfold Gx.enc
 rw [yF (h.inv k).wf, h.ram]
 have := Hj g.rom
 omega
def Gx.Ok.enc_byts (k : Nat) : bE (g.enc k) := aNb (h.inv k).wf
end
def qU.cpu {m n : Mm} (h : qU m n) : n.cpu = m.cpu := by rw [h]
def qU.bank {m n : Mm} (h : qU m n) (a : Int) : Ot n a = Ot m a := by rw [h]; rfl
def qU.inv {R m n : Mm} (h : qU m n) (hm : nY R True m) : nY R True n := by rw [h]; exact hm.acc_ _
def qU.refl (m : Mm) : qU m m := rfl
def aHL {β : Type} {K : aQ8 β} {x : Rn β} {n : Nat} (h : RunOk K (n + 3) x) : 1 ≤ (nextT K.toaQ7 x).1.size ∧ (nextT K.toaQ7 x).1.size ≤ 3 := by
 have key : ∀ i, i ≤ 2 → 1 ≤ (iN K.toaQ7 x (i + 1)).o.size ∧ (iN K.toaQ7 x (i + 1)).o.size ≤ 3 := fun i hi => by
  have hq : xH K (n + (3 - (i + 1)) + 1) (iN K.toaQ7 x i) := by rw [show n + (3 - (i + 1)) + 1 = n + (3 - i) by omega]; exact h.nx i I
  have hf := hq.x.fetch1
  have hb := yO hq.by_ i hf.2
  exact (T6 (hb.get 0) (hb.get 1) (hb.get 2)).size
 unfold nextT
 split
 ·exact key 0 M
 ·split
  ·exact key 1 M
  ·exact key 2 M
def O7 {R m : Mm} {D : Prop} {plan : List gH} (hp : ∀ c ∈ plan, sA c) (h : nY R D m) : (0 ≤ (eT plan m).1.at_ ∧ (eT plan m).1.at_ < 65536) ∧ -9223372036854775808 ≤ (eT plan m).1.op.size ∧ (eT plan m).1.op.size ≤ 9223372036854775807 := by
 have hq : RunOk (I3 R D) 7 (⟨m.cpu, fD plan m⟩ : Rn Mm) := ⟨h.rg, aFa hp h⟩
 show (0 ≤ (fK fE (⟨m.cpu, fD plan m⟩ : Rn Mm)).1.at_ ∧ (fK fE (⟨m.cpu, fD plan m⟩ : Rn Mm)).1.at_ < 65536) ∧ -9223372036854775808 ≤ (fK fE (⟨m.cpu, fD plan m⟩ : Rn Mm)).1.op.size ∧ (fK fE (⟨m.cpu, fD plan m⟩ : Rn Mm)).1.op.size ≤ 9223372036854775807
 have hpc := h.rg.pc
 unfold fK
 dsimp only
 repeat' split
 ·exact ⟨hpc, (by decide : -9223372036854775808 ≤ (0 : Int)), (by decide : (0 : Int) ≤ 9223372036854775807)⟩
 ·exact ⟨hpc, (by decide : -9223372036854775808 ≤ (0 : Int)), (by decide : (0 : Int) ≤ 9223372036854775807)⟩
 ·exact ⟨hpc, (by decide : -9223372036854775808 ≤ (0 : Int)), (by decide : (0 : Int) ≤ 9223372036854775807)⟩
 all_goals
  have hz := aHL (n := 4) (K := I3 R D) (x := ⟨{ m.cpu with halt := false, soon := false }, fD plan m⟩) ⟨h.rg, hq.m⟩
  exact ⟨hpc, Int.le_trans M hz.1, Int.le_trans hz.2 M⟩
def Gx.Ok.st {g : Gx} (h : g.Ok) (k : Nat) : Hs.StpOk (g.st k) := ⟨(O7 h.chg (h.inv k)).1, (O7 h.chg (h.inv k)).2⟩
def xA.offB {w0 w : AI} {ms : AE} {T : Nat} {plan : List gH} {pa : AC} {pc : Nat} {G A B : aF} (h : xA T plan pa pc G) (hw : St w0 ms (A ++ B) w) (hs : ∀ x ∈ G, x ∈ B) : ∀ p, pa = some p → p.block ∉ A.map (·.1) := by
 rintro p rfl hp
 rcases h.vec.alt with ⟨h1, _⟩ | ⟨b, cap, sp, h1, rfl, _⟩
 ·cases h1
 cases h1
 have hn := hw.nodup
 rw [bz, ed] at hn
 exact hn.2.2 _ hp _ (List.mem_map_of_mem (hs _ (.head _))) U
structure Db where
 b : Nat
 hb : Nat
 lb : Nat
 mp : Nat
 fa : Nat
 fc : Nat
 fs : AA
 cap : Int
 asked : Int
 done : Int
 q : MA
 m : Mm
 ring : List Hs.Rcd
 GH : aF
 ms : List Tm.Mark
 GL : aF
 l : List hU
 c : Nat
 pv : AH
 wv : AH
 tab : AH
 D : aF
def cDb (cap : Int) (q h : AH) (at_ : Nat) (f : AH) (lb mp : Nat) (pv wv : AH) (asked done : Int) (tab : AH) : AA :=
 [.int .i64 cap, q, h, .int .u64 at_, f, P_ lb, .map (some mp), pv, wv, .int .u32 asked, .int .u64 done, tab]
abbrev Db.cs (d : Db) (g : Gx) (k : Nat) : AA := cDb d.cap (pM d.q) (P_ d.hb) k (.slice (Q_ d.fa) (g.enc 0).length d.fc) d.lb d.mp d.pv d.wv d.asked d.done d.tab
def Db.H (d : Db) (g : Gx) (k : Nat) : aF := (d.b, J (d.cs g k) 76) :: (d.mp, dL .u64 d.l d.c) :: (hM d.q d.m ++ (d.GH ++ (d.GL ++ d.D)))
def capT (n : Int) : Int := max 2 (min n 256)
def capT_ok (n : Int) : 2 ≤ capT n ∧ capT n ≤ 256 := by unfold capT; omega
def Lo (g : Gx) (D : aF) (v : AH) (j : Nat) : Prop := ∃ b ring G, v = P_ b ∧ Hs.HistH b 32 j (Hs.callsL (g.sts j)) ring G ∧ Hs.RingOk 32 ring (g.sts j) ∧ ∀ x ∈ G, x ∈ D
def Lo.more {g : Gx} {D D' : aF} {v : AH} {j : Nat} (h : Lo g D v j) (hs : ∀ x ∈ D, x ∈ D') : Lo g D' v j := by
 obtain ⟨b, r, G, h1, h2, h3, h4⟩ := h
 exact ⟨b, r, G, h1, h2, h3, fun x hx => hs x (h4 x hx)⟩
structure rW (g : Gx) (l : List hU) (c : Nat) (ms : List Tm.Mark) (n : Nat) (D : aF) : Prop where
 old : ∀ e ∈ l, e.2.2 < c
 nd : (l.map (·.2.2)).Nodup
 le : ∀ e ∈ l, 0 ≤ e.1 ∧ e.1 < n
 his : ∀ e ∈ l, Lo g D e.2.1 e.1.toNat
 all : ∀ m ∈ ms, ∃ e ∈ l, e.1 = m.t
def aB4 {a : Int} : ∀ {l : List hU} {i : Nat}, (∀ e ∈ l, e.1 ≠ a) → kI a l i = none
 | [], _, _ => rfl
 | e :: l, i, h => by
  unfold kI
  rw [ae (fun he => h e (.head _) he.symm)]
  exact aB4 fun x hx => h x (.tail _ hx)
def aBE {a : Int} : ∀ {l : List hU} {i : Nat}, (∃ e ∈ l, e.1 = a) → ∃ j e, e ∈ l ∧ e.1 = a ∧ kI a l i = some (j, e.2.1)
 | [], _, h => by obtain ⟨_, h, _⟩ := h; cases h
 | e :: l, i, h => by
  unfold kI
  by_cases he : a = e.1
  ·rw [ag he]; exact ⟨i, e, .head _, he.symm, rfl⟩
  ·rw [ae he]
   obtain ⟨x, hx, hx2⟩ := h
   rcases List.mem_cons.1 hx with rfl | hx
   ·exact absurd hx2.symm he
   ·obtain ⟨j, y, hy, h1, h2⟩ := aBE (i := i + 1) ⟨x, hx, hx2⟩
    exact ⟨j, y, .tail _ hy, h1, h2⟩
def Yo (a : Int) : ∀ l : List hU, (oY a l).Sublist l
 | [] => .slnil
 | e :: l => by
  unfold oY
  split
  ·exact .cons _ (List.Sublist.refl _)
  ·exact .cons_cons _ (Yo a l)
def O2 {a : Int} : ∀ {l : List hU} {e : hU}, e ∈ l → e.1 ≠ a → e ∈ oY a l
 | x :: l, e, h, hn => by
  unfold oY
  rcases List.mem_cons.1 h with rfl | h
  ·rw [ae (fun he => hn he.symm)]; exact .head _
  ·split
   ·exact h
   ·exact .tail _ (O2 h hn)
section
variable {g : Gx} {l : List hU} {c n : Nat} {ms : List Tm.Mark} {D : aF}
def rW.more (h : rW g l c ms n D) {D' : aF} (hs : ∀ x ∈ D, x ∈ D') : rW g l c ms n D' := ⟨h.old, h.nd, h.le, fun e he => (h.his e he).more hs, h.all⟩
def rW.start (g : Gx) (D : aF) : rW g [] 0 [] 0 D := ⟨fun _ h => xR, kW, fun _ h => xR, fun _ h => xR, fun _ h => xR⟩
def rW.drop (h : rW g l c ms n D) {a : Int} (ha : ∀ m ∈ ms, m.t ≠ a) : rW g (oY a l) c ms n D :=
 have hs := Yo a l
 ⟨fun e he => h.old e (hs.subset he), (hs.map _).nodup h.nd, fun e he => h.le e (hs.subset he), fun e he => h.his e (hs.subset he), fun m hm => by
  obtain ⟨e, he, h1⟩ := h.all m hm
  exact ⟨e, O2 he (by rw [h1]; exact ha m hm), h1⟩⟩
def rW.new (h : rW g l c ms n D) {v : AH} (hv : Lo g D v n) {mk : Tm.Mark} (ht : mk.t = n) {ms' : List Tm.Mark} (hs : ∀ m ∈ ms', m ∈ ms ++ [mk]) : kI n l 0 = none ∧ rW g (l ++ [((n : Int), v, c)]) (c + 1) ms' (n + 1) D := by
 refine ⟨aB4 fun e he h1 => by have := (h.le e he).2; omega, fun e he => ?_, ?_, fun e he => ?_, fun e he => ?_, fun m hm => ?_⟩
 ·rcases List.mem_append.1 he with he | he
  ·have := h.old e he; omega
  ·rw [List.mem_singleton.1 he]; show c < c + 1; omega
 ·rw [bz, ed]
  refine ⟨h.nd, kW, ?_⟩
  intro a ha b hb
  obtain ⟨e, he, rfl⟩ := List.mem_map.1 ha
  have h1 := h.old e he
  have h2 : b = c := by simpa using hb
  show e.2.2 ≠ b
  omega
 ·rcases List.mem_append.1 he with he | he
  ·have := h.le e he; omega
  ·rw [List.mem_singleton.1 he]; show (0 : Int) ≤ n ∧ (n : Int) < (n + 1 : Nat); omega
 ·rcases List.mem_append.1 he with he | he
  ·exact h.his e he
  ·rw [List.mem_singleton.1 he]; exact hv
 ·rcases List.mem_append.1 (hs m hm) with h1 | h1
  ·obtain ⟨e, he, h2⟩ := h.all m h1
   exact ⟨e, g9 _ he, h2⟩
  ·rw [List.mem_singleton.1 h1]
   exact ⟨_, f8 _ (.head _), ht.symm⟩
end
structure Db.Ok (d : Db) (g : Gx) (k n : Nat) : Prop where
 le : k ≤ n
 q : d.q.Ok g.pa g.plan.length g.pc
 m : qU (g.m k) d.m
 hist : Hs.HistH d.hb 32 k (Hs.callsL (g.sts k)) d.ring d.GH
 ring : Hs.RingOk 32 d.ring (g.sts k)
 line : Tm.LJ d.lb (capT d.cap) n ((n - 1 : Nat) : Int) d.ms d.GL d.D
 pk : ∀ x ∈ d.ms, x.l = dU (g.enc 0) (g.enc x.t.toNat)
 first : (d.fa, J ((g.enc 0).map Z ++ d.fs) 5) ∈ d.D ∧ (g.enc 0).length ≤ d.fc
 past : rW g d.l d.c d.ms n d.D
 tms : Tm.times d.ms = Xo (capT d.cap).toNat n
 plan : ∃ GP, xA 54 g.plan g.pa g.pc GP ∧ ∀ x ∈ GP, x ∈ d.D
structure Db.To (d e : Db) : Prop where
 b : e.b = d.b
 cap : e.cap = d.cap
 asked : e.asked = d.asked
 q : pM e.q = pM d.q
 pv : e.pv = d.pv
 wv : e.wv = d.wv
 tab : e.tab = d.tab
 D : ∀ x ∈ d.D, x ∈ e.D
def Db.To.refl (d : Db) : Db.To d d := ⟨rfl, rfl, rfl, rfl, rfl, rfl, rfl, fun _ h => h⟩
def Db.To.trans {d e f : Db} (h1 : Db.To d e) (h2 : Db.To e f) : Db.To d f :=
 ⟨h2.b.trans h1.b, h2.cap.trans h1.cap, h2.asked.trans h1.asked, h2.q.trans h1.q, h2.pv.trans h1.pv, h2.wv.trans h1.wv, h2.tab.trans h1.tab, fun x hx => h2.D x (h1.D x hx)⟩
def Lf (g : Gx) (d e : Db) (j n : Nat) (c : Int) (H : aF) : Prop := e.Ok g j n ∧ d.To e ∧ e.done = d.done + c ∧ H = e.H g j
def sY (ms : List Tm.Mark) (k j : Nat) : Int := if j < k ∨ (k : Int) < (Tm.befM ms j).t then j - (Tm.befM ms j).t else j - k
structure Db.Fine (d : Db) (g : Gx) (k n : Nat) : Prop where
 ok : d.Ok g k n
 lt : k < n
 few : n < 800000
 done : 0 ≤ d.done ∧ d.done < 100000000000000
def Hm {b k : Nat} {cap t : Int} {ms : List Tm.Mark} {G D D' : aF} (h : Tm.LJ b cap k t ms G D) (hs : ∀ x ∈ D, x ∈ D') : Tm.LJ b cap k t ms G D' :=
 ⟨h.line, h.dat.more hs, h.rise, h.len, h.lo, h.hi, h.zero, h.more⟩
def aO5 {w0 w : AI} {bs : AE} {G R : aF} (hw : St w0 bs (G ++ R) w) {b : Nat} {l : AB} {sp : AA} {T : AJ} (hm : (b, Obj.cells (l.map Z ++ sp).toArray T (0, 0)) ∈ R) : Tm.BytS w (G.map (·.1)) (Q_ b) l := by
 refine .inr ⟨b, 0, U, fun hb => ?_, (aK.all (hw.holds _ (f8 _ hm))).left⟩
 have hn := hw.nodup
 rw [bz, ed] at hn
 exact hn.2.2 b hb b (List.mem_map.2 ⟨_, hm, U⟩) U
def aEp {l : List hU} {seen : AE} {y : hU} (hy : y ∈ pU l seen) : (pU l (seen ++ [y.2.2])).length < (pU l seen).length := by
 unfold pU at *
 have e1 : l.filter (fun e => !((seen ++ [y.2.2]).contains e.2.2)) = (l.filter fun e => !(seen.contains e.2.2)).filter fun e => !(e.2.2 == y.2.2) := by
  rw [List.filter_filter]
  refine List.filter_congr fun x _ => ?_
  simp only [List.contains_eq_mem, ja, ik, Bool.decide_or, Bool.not_or]
  rw [Bool.and_comm]
  rfl
 rw [e1]
 generalize (l.filter fun e => !(seen.contains e.2.2)) = r at hy ⊢
 induction r with
 | nil => cases hy
 | cons z r ih =>
  rcases List.mem_cons.1 hy with rfl | hy
  ·rw [j7, ae aL]
   have := gv (fun e : hU => !(e.2.2 == y.2.2)) r
   simp only [eF]; omega
  ·have := ih hy
   rw [j7]
   split <;> simp only [eF] <;> omega
def aLF (a : Int) (l : List hU) (s : AE) : (pU (oY a l) s).length ≤ (pU l s).length := ((Yo a l).filter _).length_le
def aF0 {l : List hU} {s : AE} {y : hU} (h : y ∈ pU l s) : y ∈ l := (List.mem_filter.1 h).1
def aAT {l : AB} (hs : l.Pairwise (· < ·)) {x : Int} {i : Nat} (h1 : ∀ p, p < i → l.getD p 0 < x) (h2 : i < l.length → l.getD i 0 ≠ x ∧ x ≤ l.getD i 0) : x ∉ l := fun hx => by
 obtain ⟨p, hp, he⟩ := List.mem_iff_getElem.1 hx
 have hg : l.getD p 0 = x := by rw [← he]; simp [hp]
 rcases Nat.lt_trichotomy p i with h | h | h
 ·have := h1 p h; omega
 ·subst h; exact (h2 hp).1 hg
 ·have h3 := h2 I
  have h4 := (List.pairwise_iff_getElem.1 hs) i p I hp h
  have h5 : l.getD i 0 = l[i] := by simp [show i < l.length by omega]
  rw [he] at h4
  omega
def aGk {l : AB} (hs : l.Pairwise (· < ·)) {x : Int} {h i : Nat} (hh : h < l.length) (hx : l.getD h 0 < x) (hi : i = h + 1) : ∀ p, p < i → l.getD p 0 < x := fun p hp => by
 subst hi
 rcases dt p h with h1 | h1
 ·have := (List.pairwise_iff_getElem.1 hs) p h I hh h1
  have e1 : l.getD p 0 = l[p] := by simp [show p < l.length by omega]
  have e2 : l.getD h 0 = l[h] := by simp [hh]
  omega
 ·rwa [show p = h by omega]
def aIy {ms : List Tm.Mark} (h : Tm.Rise ms) : (Tm.times ms).Pairwise (· < ·) := List.pairwise_map.2 h.1
structure Gq where
 kind : Int
 pa : AC
 pc : Nat
 prog : AB
 qa : AC
 qc : Nat
 plan : List gH
def Vh (g : Gq) : AA := [.int .u8 g.kind, .slice g.pa g.prog.length g.pc, .slice g.qa g.plan.length g.qc]
structure Gq.Ok (w : AI) (g : Gq) : Prop where
 kind : 0 ≤ g.kind ∧ g.kind < 256
 prog : bE g.prog
 lp : g.prog.length ≤ g.pc ∧ g.prog.length ≤ maxLen
 np : Ns w .u8 g.pa g.prog
 plan : ∀ c ∈ g.plan, sA c
 lq : g.plan.length ≤ g.qc ∧ g.plan.length ≤ maxLen
 nq : iY w pX g.qa g.plan
def Gq.Ok.later {g : Gq} {w0 w : AI} {H : aF} (h : g.Ok w0) (hw : St w0 [] H w) : g.Ok w := ⟨h.kind, h.prog, h.lp, h.np.later0 hw, h.plan, h.lq, h.nq.later0 hw⟩
def aQv {w : AI} (cs : AA) (h : pG w [.int .u8, .ints .u8, .rows [.int .u64, .int .u8]] cs) : ∃ g, cs = Vh g ∧ g.Ok w := by
 match cs, h with
 | [a, c, d], h =>
  obtain ⟨⟨x, rfl, hx⟩, ⟨pa, pc, l, rfl, h1, h2, h3, h4⟩, ⟨qa, qc, L, rfl, h5, h6, h7, h8⟩, _⟩ := h
  obtain ⟨l2, hl2, h9, h10⟩ := aIs (c := pX) (p := sA) aPO h7 h8
  exact ⟨⟨x, pa, pc, l, qa, qc, l2⟩, by show _ = [_, _, Value.slice qa l2.length qc]; rw [← hl2], Ir hx, aLc h3, ⟨h1, h2⟩, h4, h9, ⟨by show l2.length ≤ qc; omega, by show l2.length ≤ maxLen; omega⟩, h10⟩
def romQ (g : Gq) : AB := madeI g.kind 0 2 g.prog
def Xp (g : Gq) : (romQ g).length = romS 0 := Q9 _ _ _ _
def aBC {g : Gq} {w : AI} (h : g.Ok w) : bE (romQ g) := aDg h.kind M h.prog
def Gz (g : Gq) : Bool := decide (g.prog.length ≤ 2000 ∧ g.plan.length ≤ 20)
def Gq.gx (g : Gq) (pa : AC) (pc : Nat) : Gx := ⟨romQ g, g.plan, pa, pc⟩
def Gq.Ok.gx {g : Gq} {w : AI} (h : g.Ok w) (he : errH (romQ g) = 0) (hf : Gz g = true) (pa : AC) (pc : Nat) : (g.gx pa pc).Ok :=
 ⟨by show (romQ g).length ≤ _; rw [Xp]; decide, aBC h, he, h.plan, by have := dr hf; show g.plan.length ≤ 1000000; omega⟩
def Af : AB := madeI 0 0 0 []
def aJk : errH Af = 0 := by kernel_rfl
def aL0 : bE Af := aDg M M (fun _ h => by cases h)
def aDS : Af.length = romS 0 := Q9 _ _ _ _
def rN : Gx := ⟨Af, [], none, 0⟩
def S1 : rN.Ok := ⟨by show Af.length ≤ _; rw [aDS]; decide, aL0, aJk, fun _ h => xR, iR⟩
def aAi {d : Db} {g : Gx} {k n : Nat} (hd : d.Ok g k n) (h0 : 0 < n) (j : Nat) : 0 ≤ sY d.ms k j ∧ sY d.ms k j ≤ j := by
 obtain ⟨hm0, hm1, _⟩ := hd.line.more h0
 have hb := Tm.bef_nn hd.line.rise hm0 hm1 (x := (j : Int)) I
 have h1 := Tm.befM_le hd.line.rise hb
 have h2 : 0 ≤ (Tm.befM d.ms (j : Int)).t := (hd.line.rise.2 _ (Tm.befM_mem I)).1
 unfold sY
 split <;> omega
def Gh (n : Int) (i : Nat) : Int := shr .u64 n ((8 * i : Nat) : Int) % 256
def leB (n : Int) (m : Nat) : AB := (List.range m).map (Gh n)
def leB_len (n : Int) (m : Nat) : (leB n m).length = m := by simp [leB]
def aCn (n : Int) (m : Nat) : leB n (m + 1) = leB n m ++ [Gh n m] := by simp [leB, ej]
def leW (l : AB) : AB := l.flatMap fun x => leB x 2
def aFx (l : AB) (x : Int) : leW (l ++ [x]) = leW l ++ leB x 2 := by simp [leW]
def Iq (l : AB) : (leW l).length = 2 * l.length := by
 induction l with
 | nil => rfl
 | cons x l ih =>
  show (leB x 2 ++ leW l).length = _
  rw [bQ, leB_len, ih, eF]; omega
def numS (l : AB) : Nat → Int
 | 0 => 0
 | i + 1 => bL .u64 (numS l i) (shl .u64 (l.getD i 0) ((8 * i : Nat) : Int))
def numS_two {a : Int} (h : 0 ≤ a ∧ a < 256) : numS [a, 0] 2 = a := eH (p := fun a => numS [a, 0] 2 = a) eU h.1 h.2
def qB (k : Int) (y : Int) : AB := leB k 4 ++ [y % 256, 0, 0]
def callB (c : Hs.Cll) : AB := (c.kind % 256) :: leW [c.at_, c.to, c.back]
def recB (r : Hs.Rcd) : AB := leB r.n 4 ++ leW [r.at_]
def lastB {α : Type} (f : α → AB) (l : List α) (n : Nat) : AB := (l.reverse.take n).flatMap f
def zS (l : List Hs.Cll) : AB := leW [(l.length : Int) % 65536] ++ lastB callB l 8
def Ai (l : List Hs.Rcd) : AB := lastB recB l 10
def aCr (l : List Hs.Cll) (n : Nat) : (lastB callB l n).length ≤ 7 * n := by
 unfold lastB
 have key : ∀ m : List Hs.Cll, (m.flatMap callB).length = 7 * m.length := fun m => by
  induction m with
  | nil => rfl
  | cons x m ih => rw [fm, bQ, ih, eF]; unfold callB; rw [eF, Iq]; simp only [eF, ax]; omega
 rw [key, fZ]; omega
def aEA (l : List Hs.Rcd) (n : Nat) : (lastB recB l n).length ≤ 6 * n := by
 unfold lastB
 have key : ∀ m : List Hs.Rcd, (m.flatMap recB).length = 6 * m.length := fun m => by
  induction m with
  | nil => rfl
  | cons x m ih => rw [fm, bQ, ih, eF]; unfold recB; rw [bQ, leB_len, Iq]; simp only [eF, ax]; omega
 rw [key, fZ]; omega
def Ar (x : Int) : Prop := 0 ≤ x ∧ x < 65536
def Jl (c : Hs.Cll) : Prop := Ar c.at_ ∧ Ar c.to ∧ Ar c.back
def aLP {cs : List Hs.Cll} (h : ∀ c ∈ cs, Jl c) {s : Hs.Stp} (ha : Ar s.at_) (ht : Ar s.to) : ∀ c ∈ Hs.noteC cs s, Jl c := by
 have hb : Ar (Hs.backOf s) := by unfold Hs.backOf Ar; omega
 have lay : ∀ c : Hs.Cll, Jl c → ∀ x ∈ Hs.layC cs c, Jl x := fun c hc x hx => by
  rcases List.mem_append.1 (di hx) with h1 | h1
  ·exact h x h1
  ·rw [List.mem_singleton.1 h1]; exact hc
 unfold Hs.noteC Hs.callOf
 split
 ·rename_i c he
  split at he
  ·cases he; exact lay _ ⟨ha, ht, ha⟩
  ·split at he
   ·cases he; exact lay _ ⟨ha, ht, hb⟩
   ·split at he
    ·cases he; exact lay _ ⟨ha, ht, hb⟩
    ·cases he
 ·split
  ·exact fun c hc => h c ((List.dropLast_sublist _).subset hc)
  ·exact h
def Gx.Ok.calls {g : Gx} (h : g.Ok) (k : Nat) : ∀ c ∈ Hs.callsL (g.sts k), Jl c := by
 induction k with
 | zero => intro c hc; cases hc
 | succ k ih =>
  rw [Gx.sts_snoc, Hs.callsL_snoc]
  exact aLP ih (h.st k).1 (h.inv (k + 1)).rg.pc
def Gx.Ok.recs {g : Gx} (h : g.Ok) (k : Nat) : ∀ r ∈ (Hs.lastL (g.sts k) 32).map Hs.recOf, Ar r.at_ := by
 intro r hr
 obtain ⟨s, hs, rfl⟩ := List.mem_map.1 hr
 have hs := di hs
 obtain ⟨i, _, rfl⟩ := List.mem_map.1 hs
 exact (h.st i).1
end Go.Proofs.YthigpmaadmneaaaGreatDoor
