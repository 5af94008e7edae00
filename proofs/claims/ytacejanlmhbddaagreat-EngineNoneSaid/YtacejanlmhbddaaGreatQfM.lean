/- Parts. -/
import Derived.Test.YtacejanlmhbddaaGreatQfL
set_option maxRecDepth 100000
set_option maxHeartbeats 1000000
set_option linter.all false
namespace Go.Proofs.YtacejanlmhbddaaGreat.Tm
open Go Go.VV Go.Proofs Go.Proofs.Tryz
def aJH (b c : Nat) (ms : List Mark) (sp : AA) (hlen : ms.length < 1000000000) (w : AI) (hb : w.heap[b]? = some (blk (aF cm ms ++ sp) 228)) :
  aB prog 178 [.slice (Q_ b) ms.length c] w [b] (fun v H => v = .tuple #[] ∧ H = [(b, blk (aF cm ms.reverse ++ sp) 228)]) := by
 refine mC func178 rfl rfl rfl (St.lent1 hb) ?_
 refine A_3 ?_
 refine RY l_n rfl (A_5 ?_)
 refine bD (σ := Nat × List Mark) [2, 3, 7, 8, 9, 10, 11, 12, 13, 14, 15, 16, 17, 18, 19, 20, 21, 22, 23, 24, 25, 26, 27] (fun s => [(2, .int .i64 s.1), (3, .int .i64 ((ms.length : Int) - 1 - s.1))]) (fun s => [(b, blk (aF cm s.2 ++ sp) 228)]) (fun s => s.1 ≤ ms.length ∧ sO ms s.2 s.1) (fun s => ms.length - s.1) (0, ms) ?_ ?_ ?_ ?_
 ·exact ⟨al _, .zero ms⟩
 ·exact .cons rfl (.cons (by show Value.int .i64 (IntKind.i64.wrap _) = _; rw [aL o_m o_m]; simp) .nil)
 ·exact fun _ h => h
 rintro ⟨i, cur⟩ y ⟨hi, hT⟩
 simp only at hi hT ⊢
 have hcl := hT.1
 refine A_7 ?_
 refine KC (fun h1 h1n => ?_) (fun h1 h1n => ?_)
 ·refine A_3 ?_
  refine DR [8, 9, 10, 11] (pln [0, 2, 4, 6, 8, 10, 12, 14, 16, 18, 20, 22, 24, 27, 28, 31]) ?_
  refine A_6 ?_
  refine DY rfl (bG (s := 2) (ms.length - 1 - i) rfl rfl rfl y_a y_a) rfl (cL rfl rfl rfl rfl (fun w hw => pC (dV m_m w hw).left y_a) rfl rfl ?_)
  refine A_2 ?_
  refine DY rfl (bG (s := 2) i rfl rfl rfl rfl y_a) rfl (cL rfl rfl rfl rfl (fun w hw => pC (dV m_m w hw).left y_a) rfl rfl ?_)
  refine DY rfl (bG (s := 2) i rfl rfl rfl rfl y_a) rfl (DZ rfl (dD (vs := cm (cur.getD (ms.length - 1 - i) m0)) 0 rfl rfl rfl rfl rfl rfl (aGr cur sp y_a _)) rfl n_h ?_)
  simp only [ai]
  rw [uT cur sp (k := i) y_a]
  refine DY rfl (bG (s := 2) (ms.length - 1 - i) rfl rfl rfl y_a y_a) rfl (DZ rfl (dD (vs := cm (cur.getD i m0)) 0 rfl rfl rfl rfl rfl rfl (aGr (cur.set i _) sp y_bE _)) rfl n_h ?_)
  simp only [ai]
  rw [uT (cur.set i _) sp (k := ms.length - 1 - i) y_bE]
  refine A_9 ?_
  refine ⟨(i + 1, _), ⟨y_dP, hT.step y_a⟩, y_dP, .cons (cA_ _ (bC o_m)) (.cons (cA_ _ (aFA y_a y_a)) .nil), a_g, fun _ h => h⟩
 refine A_1 ?_
 rw [hT.last y_a]
 exact EN sR_ ⟨rfl, rfl⟩
def aGT (a : AC) (n c : Nat) (w : AI) :
  aB prog 177 [.slice a n c] w [] (fun v H => ∃ b, v = .func (.func 203) #[] #[P_ b] ∧ H = [(b, blk [.slice a n c] 213)]) := by
 refine dR_ func177 ?_
 refine A_2 ?_
 refine RX (cM rfl rfl) rfl ?_
 rintro _ _ ⟨b1, rfl, rfl⟩
 refine A_4 ?_
 refine RW (v := (.func (.func 203) #[] #[P_ b1])) rfl rfl y_by (A_3 ?_)
 exact EV rfl sR_ ⟨_, rfl, rfl⟩
def aHf {σ : Type} (w : AI) (bs : AE) (lb bx bm m c : Nat) (rec : Loop) (nn p q : Nat) (e0 : Env) (assign body : Code) (ms : List Mark) (sp : AA) (Hs : σ → aC) (J : σ → Prop) (cnt : σ → Nat) (s0 : σ)
  (hrec : aAF nn e0 [p, q] assign body rec) (hpq : [p, q].all (fun p => Nat.blt p nn) = true) (hm : m ≤ ms.length) (hlen : ms.length < 1000000000) (hJ : J s0) (h0 : cnt s0 = 0)
  (hst : St w bs (bwH lb bx bm m c rec ms sp (Hs s0)) w)
  (round : ∀ s, J s → cnt s < m → aE8 ⟨prog, Tryz.f203.ntmps, w, bs, none, []⟩ nn lb rec [p, q] assign body [.int .i64 ((m : Int) - 1 - cnt s), .agg (cm (ms.getD (m - 1 - cnt s) m0)).toArray] e0 (bwH lb bx bm m c rec ms sp (Hs s))
   (fun v H' => v = .bool true ∧ ∃ s', J s' ∧ cnt s' = cnt s + 1 ∧ ∀ w', St w bs H' w' → St w bs (bwH lb bx bm m c rec ms sp (Hs s')) w')) :
  aB prog 203 [.func (.yield lb) #[] #[], P_ bx] w bs (fun v H => v = .tuple #[] ∧ ∃ s, J s ∧ cnt s = m ∧ H = bwH lb bx bm m c rec ms sp (Hs s)) := by
 refine dO_ func203 hst ?_
 refine A_3 ?_
 refine RY l_n rfl (A_4 ?_)
 refine bD (σ := σ) [3, 7, 8, 9, 10, 11, 12, 13, 14, 15, 16, 17, 18] (fun s => [(3, .int .i64 ((m : Int) - 1 - cnt s))]) (fun s => bwH lb bx bm m c rec ms sp (Hs s)) (fun s => J s ∧ cnt s ≤ m) (fun s => m - cnt s) s0 ?_ ?_ ?_ ?_
 ·exact ⟨hJ, y_y⟩
 ·exact .cons (by show Value.int .i64 (IntKind.i64.wrap _) = _; rw [h0, aL o_m o_m]; simp) .nil
 ·exact fun _ h => h
 rintro s y ⟨hJs, hcs⟩
 refine A_6 ?_
 refine KC (fun h1 h1n => ?_) (fun h1 h1n => ?_)
 ·refine A_9 ?_
  refine RY (bG (s := 2) (m - 1 - cnt s) rfl rfl rfl y_a y_a) rfl (RZ (aK rfl rfl rfl (fun w hw => pC (aA m_m w hw).left y_a)) rfl (aQM (lb := lb) (rec := rec) (ps := [p, q]) rfl rfl rfl rfl rfl hpq (.head _) hrec (round s hJs y_a) ?_))
  rintro _ H' ⟨rfl, s', hJ', hc', hst'⟩
  refine A_9 ?_
  exact ⟨s', ⟨hJ', y_dP⟩, y_dP, .cons (cA_ _ (aLI hc' y_a y_a)) .nil, a_g, fun w' h => hst' w' h⟩
 refine A_1 ?_
 exact EN sR_ ⟨rfl, s, hJs, y_dP, rfl⟩
set_option maxHeartbeats 4000000 in
def aHH (b : Nat) (cap : Int) (ms : List Mark) (hR : Rise ms) (hne : ms.length ≠ 0) (hlen : ms.length < 1000000000) (G : aC) (w : AI) (hL : nX b cap ms G) (hst : St w (G.map (·.1)) G w) :
  aB prog 138 [P_ b] w (G.map (·.1)) (fun v H => v = .tuple #[] ∧ nX b cap (thinL ms) H) := by
 obtain ⟨v, G', rfl, hV⟩ := hL
 obtain ⟨bm, c, sp, rfl, rfl, hsz, hcl, hmx⟩ := aJB hV hne
 refine aKs func138 rfl rfl rfl hst ?_
 refine aEX rfl ?_
 refine A_1 ?_
 refine RX (cM rfl rfl) rfl ?_
 rintro _ _ ⟨b1, rfl, rfl⟩
 refine A_1 ?_
 refine aEX rfl ?_
 refine A_5 ?_
 refine RY l_n rfl (A_2 ?_)
 refine aEX rfl ?_
 refine A_6 ?_
 refine RW (v := (.int .i64 ((ms.length - 1 : Nat) : Int))) rfl rfl (cA_ _ (aIT y_a hlen)) (RY (bG (s := 2) (ms.length - 1) rfl rfl rfl rfl y_a) rfl (A_1 ?_))
 refine RZ (aE rfl rfl (fun w hw => aRu hne (aA m_m w hw).left)) rfl (RX (cG rfl) rfl ?_)
 rintro _ _ ⟨b3, rfl, rfl⟩
 refine RZ s_t rfl (A_1 ?_)
 refine aEX rfl ?_
 refine A_6 ?_
 refine RW (v := (.int .i64 ((ms.length - 1 : Nat) : Int))) rfl rfl (cA_ _ (aIT y_a hlen)) (RY (bG (s := 2) (ms.length - 1) rfl rfl rfl rfl y_a) rfl (RZ (aK rfl rfl rfl (fun w hw => pC (aA m_m w hw).left y_a)) rfl (RX (dX rfl rfl rfl rfl rfl rfl) rfl ?_)))
 rintro _ _ ⟨b30, rfl, rfl⟩
 refine RX (cG rfl) rfl ?_
 rintro _ _ ⟨b4, rfl, rfl⟩
 refine RZ s_t rfl (A_1 ?_)
 refine aSP rfl ?_
 refine A_6 ?_
 refine RW (v := (.int .i64 ((ms.length - 1 : Nat) : Int))) rfl rfl (cA_ _ (aIT y_a hlen)) (RW (v := (.slice (Q_ bm) (ms.length - 1) c)) (gQ (s := 2) 0 (ms.length - 1) rfl rfl rfl rfl rfl rfl (al _) o_m) rfl aSb (RX (bI K_ rfl (wQ_ (aGT _ _ _))) rfl ?_))
 rintro _ _ ⟨G38, ⟨bx, rfl, rfl⟩, rfl⟩
 refine A_1 ?_
 refine aPM (A := []) rfl rfl rfl K_ ?_
 intro w9 D0 lb rec hD hlb hrec w2 hw2
 refine ⟨bwH lb bx bm (ms.length - 1) c rec ms sp (aCl b4 b3 b1 b (eP ms) [.slice (Q_ bm) ms.length c, .int .i64 cap] ⟨0, [ms.getD (ms.length - 1) m0], b30, 1, [], ms.length - 1⟩), [(D0, .deferred (some []))], _, _, fun w' h => St.pick [0, 2, 8, 3, 5, 6, 7, 4, 1] h rfl, fun _ hb => eR hb,
  aHf (σ := TS) w2 _ lb bx bm (ms.length - 1) c rec Tryz.f138.ntmps 39 40 _ _ _ ms sp (aCl b4 b3 b1 b (eP ms) [.slice (Q_ bm) ms.length c, .int .i64 cap]) (TS.ok ms) TS.j ⟨0, [ms.getD (ms.length - 1) m0], b30, 1, [], ms.length - 1⟩ hrec rfl o_m hlen ⟨.zero hne, rfl, av _, by show (1 : Nat) ≤ maxLen; decide⟩ rfl (St.lend (G := [(D0, .deferred (some []))]) (St.pick [0, 2, 8, 3, 5, 6, 7, 4, 1] hw2 rfl)) ?_, ?_⟩
 ·rintro ⟨j, K, bK, cK, spK, q⟩ ⟨hK, hsz9, hcl9, hmx9⟩ hj
  dsimp only [bwH, aCl] at hK hsz9 hcl9 hmx9 hj ⊢
  unfold aE8
  have hqhi := hK.hi
  have hqlo := hK.lo
  refine A_5 ?_
  refine RX (cG rfl) rfl ?_
  rintro _ _ ⟨b6, rfl, rfl⟩
  refine RZ s_t rfl (A_1 ?_)
  refine ⟨_, fun _ h => h.perm (List.Perm.swap _ _ _), ?_⟩
  refine A_5 ?_
  refine RY l_n rfl (RW (v := (.int .i64 ((K.length - 1 : Nat) : Int))) rfl rfl (cA_ _ (aIT (by have := hK.pos; omega) y_bL)) (RY (bG (s := 2) (K.length - 1) rfl rfl rfl rfl (by have := hK.pos; omega)) rfl (A_1 ?_)))
  refine RZ (aE rfl rfl (fun w hw => hK.at_ (aA m_m w hw).left)) rfl (A_4 ?_)
  refine DR [8, 9, 14, 15, 16, 17] (pln [0, 2, 4, 6, 8, 10, 12, 14, 16, 18, 20, 22, 24, 26, 28, 30, 32, 34, 36, 38]) ?_
  refine A_2 ?_
  refine KE (fun h1 h1n => ?_) (fun h1 h1n => ?_)
  ·refine A_6 ?_
   refine DW (v := (.int .i64 ((ms.length - 1 - 1 - j - 1 : Nat) : Int))) rfl rfl rfl (cA_ _ y_d8) (DY rfl (bG (s := 2) (ms.length - 1 - 1 - j - 1) rfl rfl rfl rfl y_a) rfl (A_1 ?_))
   refine DL rfl rfl rfl (fun w hw => aAb (dV m_m w hw).left y_a) rfl (A_8 ?_)
   refine KC (fun h2 h2n => ?_) (fun h2 h2n => ?_)
   ·refine A_1 ?_
    exact ⟨_, fun _ h => St.pick [0, 2, 3, 4, 5, 6, 7, 8] h rfl, rfl, ⟨j + 1, K, bK, cK, spK, q⟩, ⟨hK.skip hR y_a h2, hsz9, hcl9, hmx9⟩, rfl, fun _ h => h⟩
   refine A_3 ?_
   refine RZ (aK rfl rfl rfl (aA m_m)) rfl (RX (dX rfl rfl rfl rfl rfl rfl) rfl ?_)
   rintro _ _ ⟨b70, rfl, rfl⟩
   refine RX (gD (A := [_, _, _, _, _, _, _, _, _]) (G := [(bK, blk (aF cm K ++ spK) 228)]) (R := []) (v := .slice (Q_ bK) K.length cK) (n := K.length) (m := 1) (T := 228) (s := 2) (by_ := 32) (ys := cm (ms.getD (ms.length - 1 - 1 - j) m0)) rfl rfl rfl rfl (vR hsz9 hcl9 hmx9) (fun w hw => .row _ _ _ _ _ rfl (aA (.head _) w hw)) rfl y_cU y_cU) rfl ?_
   rintro v71 _ ⟨G', hV', hnil, rfl⟩
   obtain ⟨b9, c9, sp9, rfl, rfl, hz9, hl9, hx9⟩ := tZ hV' o_m
   rw [show aF cm K ++ _ = aF cm (K ++ [ms.getD (ms.length - 1 - 1 - j) m0]) from (jI _ _).symm] at hz9 ⊢
   rw [show K.length + 1 = (K ++ [ms.getD (ms.length - 1 - 1 - j) m0]).length by simp] at hl9 ⊢
   refine RZ (dD 6 rfl rfl rfl rfl rfl rfl y_r) rfl (A_1 ?_)
   exact ⟨_, fun _ h => St.pick [2, 4, 5, 6, 7, 8, 9, 0] h rfl, rfl, ⟨j + 1, _, b9, c9, sp9, ms.length - 1 - 1 - j⟩, ⟨hK.keep hR y_a (fun _ => h2), hz9, hl9, hx9⟩, rfl, fun _ h => h⟩
  refine A_22 ?_
  refine RZ (aK rfl rfl rfl (aA m_m)) rfl (RX (dX rfl rfl rfl rfl rfl rfl) rfl ?_)
  rintro _ _ ⟨b70, rfl, rfl⟩
  refine RX (gD (A := [_, _, _, _, _, _, _, _, _]) (G := [(bK, blk (aF cm K ++ spK) 228)]) (R := []) (v := .slice (Q_ bK) K.length cK) (n := K.length) (m := 1) (T := 228) (s := 2) (by_ := 32) (ys := cm (ms.getD (ms.length - 1 - 1 - j) m0)) rfl rfl rfl rfl (vR hsz9 hcl9 hmx9) (fun w hw => .row _ _ _ _ _ rfl (aA (.head _) w hw)) rfl y_cU y_cU) rfl ?_
  rintro v71 _ ⟨G', hV', hnil, rfl⟩
  obtain ⟨b9, c9, sp9, rfl, rfl, hz9, hl9, hx9⟩ := tZ hV' o_m
  rw [show aF cm K ++ _ = aF cm (K ++ [ms.getD (ms.length - 1 - 1 - j) m0]) from (jI _ _).symm] at hz9 ⊢
  rw [show K.length + 1 = (K ++ [ms.getD (ms.length - 1 - 1 - j) m0]).length by simp] at hl9 ⊢
  refine RZ (dD 6 rfl rfl rfl rfl rfl rfl y_r) rfl (A_1 ?_)
  exact ⟨_, fun _ h => St.pick [2, 4, 5, 6, 7, 8, 9, 0] h rfl, rfl, ⟨j + 1, _, b9, c9, sp9, ms.length - 1 - 1 - j⟩, ⟨hK.keep hR y_a (fun _ => absurd h1 y_a), hz9, hl9, hx9⟩, rfl, fun _ h => h⟩
 rintro _ _ ⟨rfl, ⟨j, K, bK, cK, spK, q⟩, ⟨hK, hsz9, hcl9, hmx9⟩, hj, rfl⟩
 dsimp only [bwH, aCl] at hK hsz9 hcl9 hmx9 hj ⊢
 refine ⟨rec, _, fun _ h => h.perm ((List.perm_append_singleton _ _).cons _), by rw [hrec.ready]; simp, hrec.calm, ?_⟩
 refine aSe rfl ?_
 refine A_3 ?_
 refine bF (fun _ h => St.pick [8, 0, 1, 2, 3, 4, 5, 6, 7] h rfl) ?_
 refine RX (eQ (A := [_]) [bK] K_ rfl y_r (fun w hw => aJH bK cK K spK y_bL w (hw.holds _ (.head _)))) rfl ?_
 rintro _ _ ⟨G73, ⟨rfl, rfl⟩, rfl⟩
 refine A_6 ?_
 refine RZ (dD 8 rfl rfl rfl rfl rfl rfl y_r) rfl (A_1 ?_)
 exact ⟨_, fun _ h => St.pick [2, 8, 0] h rfl, fM (fun _ _ => eT) sR_ ⟨rfl, _, _, rfl, by rw [hK.done o_m]; have := vR (b := bK) (cap := cK) (ms := K.reverse) (sp := spK) (by simpa [bM iZ] using hsz9) (by simpa using hcl9) hmx9; simpa using this⟩⟩
def vS (b c j : Nat) (ms : List Mark) (sp : AA) (hlen : ms.length < 1000000000) (hc : ms.length ≤ c) (hsz : (aF cm ms ++ sp).length = c * 2) (h2 : 2 ≤ j) (hj : j ≤ ms.length) (w : AI) (hb : w.heap[b]? = some (blk (aF cm ms ++ sp) 228)) :
  aB prog 139 [.slice (Q_ b) ms.length c, .int .i64 1, .int .i64 j] w [b] (fun v H => v = .slice (Q_ b) (1 + (ms.length - j)) c ∧ ∃ sp', (aF cm (ms.take 1 ++ ms.drop j) ++ sp').length = c * 2 ∧ H = [(b, blk (aF cm (ms.take 1 ++ ms.drop j) ++ sp') 228)]) := by
 refine mC func139 rfl rfl rfl (St.lent1 hb) ?_
 refine A_10 ?_
 refine RY l_n rfl (RY (zK (s := 2) 1 j ms.length rfl rfl rfl rfl rfl rfl rfl rfl o_m hj hc) rfl (A_6 ?_))
 refine cY false rfl rfl rfl y_be ?_
 refine A_6 ?_
 refine RY l_n rfl (A_3 ?_)
 refine DR [] (pln [0, 2, 4, 6, 8, 10, 13, 14]) ?_
 refine A_2 ?_
 refine DW (v := (.slice (Q_ b) 1 c)) rfl (gQ (s := 2) 0 1 rfl rfl rfl rfl rfl rfl o_m o_m) rfl aSb (A_2 ?_)
 refine DY rfl (gQ (s := 2) j ms.length rfl rfl rfl rfl rfl rfl hj hc) rfl (DZ rfl (aAD (n := 1) (m := ms.length - j) (T := 228) (s := 2) (by_ := 32) (ys := aF cm (ms.drop j)) 0 rfl rfl rfl rfl rfl (fun w hw => .row _ _ _ _ _ (by rw [bM iZ, Ld_]) (aNT (aA (.head _) w hw) hj hc)) (aJY _) o_m (zG ms sp hj o_m)) rfl n_h (A_6 ?_))
 refine RY l_n rfl (A_1 ?_)
 refine RW (v := (.slice (some ⟨b, (1 + (ms.length - j)) * 2, none⟩) (j - 1) (c - (1 + (ms.length - j))))) (gQ (s := 2) (1 + (ms.length - j)) ms.length rfl rfl rfl rfl rfl rfl o_m hc) rfl (aSv o_m o_m rfl) (RZ (aDB (s := 2) (z := [.int .u64 0, .slice none 0 0]) 0 rfl rfl rfl rfl rfl rfl rfl o_m (by rw [lK (zG ms sp hj o_m), hsz]; simp only [Lc_, au]; omega)) rfl (A_7 ?_))
 obtain ⟨sp', hsp⟩ := aRV ms sp (kI ((j - 1) * 2) [.int .u64 0, .slice none 0 0]) (j := j) o_m hj
 refine fM (fun _ _ => sR rfl) sR_ ⟨rfl, sp', ?_, by rw [← hsp]; rfl⟩
 rw [← hsp, lK (by rw [lK (zG ms sp hj o_m), hsz, aBJ]; omega), lK (zG ms sp hj o_m), hsz]
set_option maxHeartbeats 4000000 in
def aCQ (b : Nat) (cap : Int) (hcap : 2 ≤ cap) (hcap2 : cap ≤ 256) (ms : List Mark) (hR : Rise ms) (hlen : ms.length < 100000000) (x : Int) (hx : 0 ≤ x) (a : AC) (c : Nat) (l : AB) (hl : l.length ≤ 140737488355328) (G : aC) (w : AI)
  (hL : nX b cap ms G) (hst : St w (G.map (·.1)) G w) (hB : BytS w (G.map (·.1)) a l) :
  aB prog 91 [P_ b, .int .u64 x, .slice a l.length c] w (G.map (·.1)) (aUm b cap ms x l G) := by
 obtain ⟨vL, GL, rfl, hV⟩ := hL
 refine dO_ func91 hst ?_
 refine A_14 ?_
 refine KC (fun h1 h1n => ?_) (fun h1 h1n => ?_)
 ·refine A_5 ?_
  exact EV rfl sR_ ⟨cA_ _ (aCB y_a).symm, .inl ⟨by rw [aCB y_a]; decide, rfl⟩⟩
 refine A_4 ?_
 refine RLv K_ (fun w hw => last_fn b cap ms o_m w (nX.lineW (G := (b, blk [vL, .int .i64 cap] 215) :: GL) ⟨_, _, rfl, hV⟩ hw (fun x hx => hx))) ?_
 refine A_9 ?_
 by_cases hz : ms.length = 0
 ·refine A_3 ?_
  refine cY true rfl rfl rfl (by simp [hz]) ?_
  refine A_5 ?_
  refine KC (fun h2 h2n => ?_) (fun h2 h2n => ?_)
  ·refine A_5 ?_
   exact EV rfl sR_ ⟨cA_ _ (aAv y_a hz y_a).symm, .inl ⟨by rw [aAv y_a hz y_a]; decide, rfl⟩⟩
  refine A_3 ?_
  refine cY false rfl rfl rfl (by simp [hz]) ?_
  refine A_9 ?_
  have hok : jO ms x = 0 := vN y_a (fun hz' => y_dP) (fun hz' => y_dP)
  refine DR [5, 6, 7, 8, 9] (pln [0, 2, 4, 6, 8, 10, 12, 15, 16, 19, 21, 22, 24, 27]) ?_
  refine A_7 ?_
  refine DX rfl (bI K_ rfl (fun w hw => nG a c l hl w (hB.later hw))) rfl y_bZ ?_
  rintro v42 _ ⟨G42, hV42, rfl⟩
  obtain ⟨a42, c42, rfl, hc42, hB42⟩ := hV42.slice
  refine eX (fun _ h => h.perm aw) ?_
  refine DY rfl (eL rfl rfl rfl rfl) rfl (DX rfl (dX rfl rfl rfl rfl rfl rfl) rfl y_n ?_)
  rintro _ _ ⟨b44, rfl, rfl⟩
  refine DX rfl (gD (A := [_, _]) (G := GL) (R := G42) (v := vL) (n := ms.length) (m := 1) (T := 228) (s := 2) (by_ := 32) (ys := cm ⟨x, a42, c42, l⟩) rfl rfl rfl rfl hV (fun w hw => .row _ _ _ _ _ rfl (aA (.head _) w hw)) rfl o_m o_m) rfl n_h ?_
  rintro v45 _ ⟨G45, hV45, hnil45, rfl⟩
  rw [show aF cm ms ++ cm ⟨x, a42, c42, l⟩ = aF cm (ms ++ [⟨x, a42, c42, l⟩]) from (jI _ _).symm] at hV45
  refine eX (fun _ h => aPz G45 [_, _] G42 h) ?_
  obtain ⟨a45, c45, rfl⟩ := hV45.slice
  refine A_2 ?_
  refine DZ rfl s_t rfl n_h (A_4 ?_)
  refine bF (fun _ h => h.sub (bf _ _)) ?_
  refine RX (eQ (A := (b, blk [.slice a45 (ms.length + 1) c45, .int .i64 cap] 215) :: G45) (G := G42) _ K_ rfl (fun _ hb => eR hb) (fun w hw => aHH b cap (ms ++ [⟨x, a42, c42, l⟩]) (vC hR hx y_a (fun hz => y_dP)) y_r y_dA _ w ⟨_, _, rfl, by rw [La_]; exact hV45⟩ (St.lend hw))) rfl ?_
  rintro _ _ ⟨G49, ⟨rfl, ⟨v9, G9, rfl, hV9⟩⟩, rfl⟩
  have hT1 := aEB (ms := ms ++ [⟨x, a42, c42, l⟩]) y_r
  have hT2 := aFE (ms ++ [⟨x, a42, c42, l⟩])
  rw [La_, ar] at hT2
  generalize hTT : thinL (ms ++ [⟨x, a42, c42, l⟩]) = tt at *
  obtain ⟨a9, c9, rfl⟩ := hV9.slice
  refine A_3 ?_
  refine DR [5, 6, 7, 8] (pln [0, 2, 4, 6, 8, 10, 12, 14, 16, 18, 20]) ?_
  refine A_4 ?_
  refine DY rfl l_n rfl (A_4 ?_)
  refine DW (v := (.int .i64 ((tt.length : Int) - cap))) rfl rfl rfl (cA_ _ (aL y_a y_a)) (A_7 ?_)
  refine KC (fun h3 h3n => ?_) (fun h3 h3n => ?_)
  ·refine A_7 ?_
   refine RW (v := (.int .i64 ((1 + (tt.length - cap.toNat) : Nat) : Int))) rfl rfl (cA_ _ y_d8) ?_
   obtain ⟨b9, c9, sp9, hv9, rfl, hsz9, hcl9, hmx9⟩ := tZ hV9 o_m
   cases hv9
   refine bF (fun _ h => h.perm (List.Perm.swap _ _ _)) ?_
   refine RX (eQ (A := [_]) [b9] K_ rfl y_r (fun w hw => vS b9 c9 (1 + (tt.length - cap.toNat)) tt sp9 o_m hcl9 hsz9 y_a y_a w (hw.holds _ (.head _)))) rfl ?_
   rintro _ _ ⟨G69, ⟨rfl, ⟨sp8, hsp8, rfl⟩⟩, rfl⟩
   refine A_2 ?_
   refine RZ s_t rfl (A_6 ?_)
   exact eY (fun _ _ => sR rfl) (fun _ h => h.perm (List.Perm.swap _ _ _)) ⟨cA_ _ hok.symm, .inr ⟨hok, ⟨x, a42, c42, l⟩, [_, _], G42, rfl, rfl, hc42, rfl, aGF hTT y_a o_m hcl9 hmx9 hsp8, hV42⟩⟩
  refine A_6 ?_
  exact EV rfl sR_ ⟨cA_ _ hok.symm, .inr ⟨hok, ⟨x, a42, c42, l⟩, _ :: G9, G42, rfl, rfl, hc42, rfl, ⟨_, _, rfl, by unfold addM; rw [hTT, aBU y_a]; exact hV9⟩, hV42⟩⟩
 refine A_3 ?_
 refine cY false rfl rfl rfl (by simp [hz]) ?_
 refine A_9 ?_
 refine cY true rfl rfl rfl (by simp [hz]) ?_
 refine A_6 ?_
 refine KC (fun h4 h4n => ?_) (fun h4 h4n => ?_)
 ·refine A_5 ?_
  exact EV rfl sR_ ⟨cA_ _ (aBx y_a hz y_a).symm, .inl ⟨by rw [aBx y_a hz y_a]; decide, rfl⟩⟩
 refine A_2 ?_
 have hok : jO ms x = 0 := vN y_a (fun hz' => y_dP) (fun hz' => y_dP)
 refine DR [5, 6, 7, 8, 9] (pln [0, 2, 4, 6, 8, 10, 12, 15, 16, 19, 21, 22, 24, 27]) ?_
 refine A_7 ?_
 refine DX rfl (bI K_ rfl (fun w hw => nG a c l hl w (hB.later hw))) rfl y_bZ ?_
 rintro v42 _ ⟨G42, hV42, rfl⟩
 obtain ⟨a42, c42, rfl, hc42, hB42⟩ := hV42.slice
 refine eX (fun _ h => h.perm aw) ?_
 refine DY rfl (eL rfl rfl rfl rfl) rfl (DX rfl (dX rfl rfl rfl rfl rfl rfl) rfl y_n ?_)
 rintro _ _ ⟨b44, rfl, rfl⟩
 refine DX rfl (gD (A := [_, _]) (G := GL) (R := G42) (v := vL) (n := ms.length) (m := 1) (T := 228) (s := 2) (by_ := 32) (ys := cm ⟨x, a42, c42, l⟩) rfl rfl rfl rfl hV (fun w hw => .row _ _ _ _ _ rfl (aA (.head _) w hw)) rfl o_m o_m) rfl n_h ?_
 rintro v45 _ ⟨G45, hV45, hnil45, rfl⟩
 rw [show aF cm ms ++ cm ⟨x, a42, c42, l⟩ = aF cm (ms ++ [⟨x, a42, c42, l⟩]) from (jI _ _).symm] at hV45
 refine eX (fun _ h => aPz G45 [_, _] G42 h) ?_
 obtain ⟨a45, c45, rfl⟩ := hV45.slice
 refine A_2 ?_
 refine DZ rfl s_t rfl n_h (A_4 ?_)
 refine bF (fun _ h => h.sub (bf _ _)) ?_
 refine RX (eQ (A := (b, blk [.slice a45 (ms.length + 1) c45, .int .i64 cap] 215) :: G45) (G := G42) _ K_ rfl (fun _ hb => eR hb) (fun w hw => aHH b cap (ms ++ [⟨x, a42, c42, l⟩]) (vC hR hx y_a (fun hz => y_dP)) y_r y_dA _ w ⟨_, _, rfl, by rw [La_]; exact hV45⟩ (St.lend hw))) rfl ?_
 rintro _ _ ⟨G49, ⟨rfl, ⟨v9, G9, rfl, hV9⟩⟩, rfl⟩
 have hT1 := aEB (ms := ms ++ [⟨x, a42, c42, l⟩]) y_r
 have hT2 := aFE (ms ++ [⟨x, a42, c42, l⟩])
 rw [La_, ar] at hT2
 generalize hTT : thinL (ms ++ [⟨x, a42, c42, l⟩]) = tt at *
 obtain ⟨a9, c9, rfl⟩ := hV9.slice
 refine A_3 ?_
 refine DR [5, 6, 7, 8] (pln [0, 2, 4, 6, 8, 10, 12, 14, 16, 18, 20]) ?_
 refine A_4 ?_
 refine DY rfl l_n rfl (A_4 ?_)
 refine DW (v := (.int .i64 ((tt.length : Int) - cap))) rfl rfl rfl (cA_ _ (aL y_a y_a)) (A_7 ?_)
 refine KC (fun h5 h5n => ?_) (fun h5 h5n => ?_)
 ·refine A_7 ?_
  refine RW (v := (.int .i64 ((1 + (tt.length - cap.toNat) : Nat) : Int))) rfl rfl (cA_ _ y_d8) ?_
  obtain ⟨b9, c9, sp9, hv9, rfl, hsz9, hcl9, hmx9⟩ := tZ hV9 o_m
  cases hv9
  refine bF (fun _ h => h.perm (List.Perm.swap _ _ _)) ?_
  refine RX (eQ (A := [_]) [b9] K_ rfl y_r (fun w hw => vS b9 c9 (1 + (tt.length - cap.toNat)) tt sp9 o_m hcl9 hsz9 y_a y_a w (hw.holds _ (.head _)))) rfl ?_
  rintro _ _ ⟨G69, ⟨rfl, ⟨sp8, hsp8, rfl⟩⟩, rfl⟩
  refine A_2 ?_
  refine RZ s_t rfl (A_6 ?_)
  exact eY (fun _ _ => sR rfl) (fun _ h => h.perm (List.Perm.swap _ _ _)) ⟨cA_ _ hok.symm, .inr ⟨hok, ⟨x, a42, c42, l⟩, [_, _], G42, rfl, rfl, hc42, rfl, aGF hTT y_a o_m hcl9 hmx9 hsp8, hV42⟩⟩
 refine A_6 ?_
 exact EV rfl sR_ ⟨cA_ _ hok.symm, .inr ⟨hok, ⟨x, a42, c42, l⟩, _ :: G9, G42, rfl, rfl, hc42, rfl, ⟨_, _, rfl, by unfold addM; rw [hTT, aBU y_a]; exact hV9⟩, hV42⟩⟩
end Go.Proofs.YtacejanlmhbddaaGreat.Tm
namespace Go.Proofs.YtacejanlmhbddaaGreat.Tm
open Go Go.VV
def yB (last : Int) : ∀ (r : List Mark) (b : Int) (hr : r ≠ []), ∃ A, thinR last b r = A ++ [r.getLast hr]
 | [], _, h => absurd rfl h
 | [m], _, _ => ⟨[], rfl⟩
 | m :: p :: r, b, _ => by
  unfold thinR
  split
  ·obtain ⟨A, hA⟩ := yB last (p :: r) b y_r
   exact ⟨A, by rw [hA]; simp⟩
  ·obtain ⟨A, hA⟩ := yB last (p :: r) m.t y_r
   exact ⟨m :: A, by rw [hA]; simp⟩
def aJq (x : Mark) (ms : List Mark) (mk : Mark) : ∃ A, thinL (x :: ms ++ [mk]) = x :: A ++ [mk] := by
 unfold thinL
 have h : (x :: ms ++ [mk]).reverse = mk :: (ms.reverse ++ [x]) := by simp
 rw [h]
 obtain ⟨A, hA⟩ := yB mk.t (ms.reverse ++ [x]) mk.t y_r
 exact ⟨A.reverse, by simp only [hA]; simp⟩
def aJ4 (mk : Mark) : thinL ([] ++ [mk]) = [mk] := rfl
def aKe {cap : Nat} (hc : 2 ≤ cap) (x : Mark) (ms : List Mark) (mk : Mark) : ∃ A, cutL cap (x :: ms ++ [mk]) = x :: A ++ [mk] := by
 unfold cutL
 refine ⟨ms.drop ((x :: ms ++ [mk]).length - cap), ?_⟩
 have h1 : (x :: ms ++ [mk]).take 1 = [x] := by simp
 have h2 : (x :: ms ++ [mk]).drop (1 + ((x :: ms ++ [mk]).length - cap)) = ms.drop ((x :: ms ++ [mk]).length - cap) ++ [mk] := by
  rw [ir, cr, List.drop_succ_cons, i4 y_be]
 rw [h1, h2]; rfl
def aN7 {cap : Nat} (hc : 2 ≤ cap) (ms : List Mark) : (cutL cap ms).length ≤ cap := by
 unfold cutL
 rw [La_, Lt_, Ld_]; omega
def addM_sub (cap : Nat) (ms : List Mark) (mk : Mark) : (addM cap ms mk).Sublist (ms ++ [mk]) := (aNw cap _).trans (aDZ _)
def aKG {cap : Nat} (hc : 2 ≤ cap) (x : Mark) (ms : List Mark) (mk : Mark) : ∃ A, addM cap (x :: ms) mk = x :: A ++ [mk] := by
 unfold addM
 obtain ⟨A, hA⟩ := aJq x ms mk
 rw [hA]
 exact aKe hc x A mk
def aO3 {cap : Nat} (hc : 2 ≤ cap) (mk : Mark) : addM cap [] mk = [mk] := by
 unfold addM
 rw [aJ4, aBU y_be]
def aCZ (A : List Mark) (mk : Mark) : eP (A ++ [mk]) = mk.t := by simp [eP, tm]
def aH5 (x : Mark) (A : List Mark) : tm (x :: A) 0 = x.t := by simp [tm]
structure LJ (b : Nat) (cap : Int) (k : Nat) (t : Int) (ms : List Mark) (G D : aC) : Prop where
 line : nX b cap ms G
 dat : wQ D ms
 rise : Rise ms
 len : ms.length ≤ cap.toNat
 lo : 0 ≤ t
 hi : t ≤ k * 9
 zero : k = 0 → ms = [] ∧ t = 0
 more : 0 < k → 0 < ms.length ∧ tm ms 0 = 0 ∧ eP ms = t
def LJ.start (b : Nat) (cap : Int) : LJ b cap 0 0 [] [(b, blk [.slice none 0 0, .int .i64 cap] 215)] [] :=
 ⟨⟨_, [], rfl, .nil⟩, fun _ h => y_cE, Rise.nil, al _, gp _, y_eR, fun _ => ⟨rfl, rfl⟩, fun h => o_m⟩
def Nxt (k : Nat) (t t' : Int) : Prop := (k = 0 → t' = 0) ∧ (0 < k → t < t' ∧ t' ≤ t + 9)
section
variable {b k : Nat} {cap t t' : Int} {ms : List Mark} {G D : aC}
def LJ.rise' (h : LJ b cap k t ms G D) (hk : k < 1000000) (hn : Nxt k t t') {mk : Mark} (hm : mk.t = t') : Rise (ms ++ [mk]) := by
 have h1 := h.lo; have h2 := h.hi
 rcases dr k with hz | hz
 ·have := hn.1 hz
  exact vC h.rise o_m o_m (fun hl => by rw [(h.zero hz).1] at hl; simp at hl)
 ·have := hn.2 hz; have h4 := (h.more hz).2.2
  exact vC h.rise o_m o_m (fun _ => y_y)
def LJ.ok (h : LJ b cap k t ms G D) (hk : k < 1000000) (hn : Nxt k t t') : jO ms t' = 0 := by
 have h1 := h.lo; have h2 := h.hi
 rcases dr k with hz | hz
 ·have := hn.1 hz
  have hm := (h.zero hz).1
  exact vN o_m (fun _ => y_y) (fun hl => by rw [hm] at hl; simp at hl)
 ·have := hn.2 hz; have h4 := h.more hz
  exact vN o_m (fun hl => y_y) (fun _ => y_y)
def LJ.step (h : LJ b cap k t ms G D) (hk : k < 1000000) (hc : 2 ≤ cap) (hn : Nxt k t t') {mk : Mark} {G' D' : aC} {l : AB} (ht : mk.t = t') (hl : mk.l = l) (hlen : l.length ≤ 140737488355328) (hlc : mk.l.length ≤ mk.c)
  (hL : nX b cap (addM cap.toNat ms mk) G') (hB : Byt l (.slice mk.a l.length mk.c) D') : LJ b cap (k + 1) t' (addM cap.toNat ms mk) G' (D' ++ D) := by
 have hsub := addM_sub cap.toNat ms mk
 have h1 := h.lo; have h2 := h.hi
 have ht2 : 0 ≤ t' ∧ t' ≤ (k + 1 : Nat) * 9 := by
  rcases dr k with hz | hz
  ·have := hn.1 hz; omega
  ·have := hn.2 hz; omega
 refine ⟨hL, ?_, (h.rise' hk hn ht).sub hsub, aN7 o_m _, ht2.1, ht2.2, fun h0 => o_m, fun _ => ?_⟩
 ·have hD : wQ (D' ++ D) (ms ++ [mk]) := fun m hm => by
   rcases List.mem_append.1 hm with hm | hm
   ·exact (h.dat.more fun x hx => fi _ hx) m hm
   ·have : m = mk := by simpa using hm
    subst this
    obtain ⟨a, c, hs, _, hW⟩ := hB.slice
    cases hs
    exact ⟨hlc, by rw [hl]; exact hlen, fun w0 w bs H hw hx => by rw [hl]; exact hW w0 w bs H hw fun x hx' => hx x (gj _ hx')⟩
  exact hD.sub hsub
 ·rcases dr k with hz | hz
  ·rw [(h.zero hz).1, aO3 o_m]
   have := hn.1 hz
   exact ⟨y_eR, by simp [tm]; omega, by rw [show [mk] = [] ++ [mk] from rfl, aCZ, ht]⟩
  ·obtain ⟨h3, h4, h5⟩ := h.more hz
   cases ms with
   | nil => simp at h3
   | cons x A =>
    obtain ⟨B, hB2⟩ := aKG (cap := cap.toNat) o_m x A mk
    rw [hB2]
    rw [aH5] at h4
    exact ⟨y_eR, by rw [cr, aH5]; exact h4, by rw [aCZ, ht]⟩
end
def bef_nn {ms : List Mark} (hR : Rise ms) (h0 : 0 < ms.length) (hz : tm ms 0 = 0) {x : Int} (hx : 0 ≤ x) : 0 ≤ bef ms x := by
 have := (vO hR.1 x h0).1 (by rw [kR h0]; omega)
 unfold bef; omega
def befM_le {ms : List Mark} (hR : Rise ms) {x : Int} (h0 : 0 ≤ bef ms x) : (befM ms x).t ≤ x := (aOa hR o_m).1
def tb (t : Int) : AB := [t % 256, t / 256 % 256, 9]
end Go.Proofs.YtacejanlmhbddaaGreat.Tm
namespace Go.Proofs.YtacejanlmhbddaaGreat.Tm
open Go Go.VV Go.Proofs Go.Proofs.Tryz
section
variable (b : Nat) (cap : Int) (hcap : 2 ≤ cap ∧ cap ≤ 256) (ms : List Mark) (hR : Rise ms) (hlen : ms.length < 100000000) (x : Int) (hx : 0 ≤ x) (a : AC) (c : Nat) (l : AB) (hl : l.length ≤ 140737488355328) (G : aC) (w : AI)
 (hL : nX b cap ms G) (hst : St w (G.map (·.1)) G w) (hB : BytS w (G.map (·.1)) a l)
include hcap hR hlen hx hl hL hst hB
def aSl (h : jO ms x = 0) : aB prog 91 [P_ b, .int .u64 x, .slice a l.length c] w (G.map (·.1)) (fun v H => v = .int .i64 0 ∧
  ∃ mk G' D', mk.t = x ∧ mk.l = l ∧ mk.l.length ≤ mk.c ∧ H = G' ++ D' ∧ nX b cap (addM cap.toNat ms mk) G' ∧ Byt l (.slice mk.a l.length mk.c) D') :=
 (aCQ b cap hcap.1 hcap.2 ms hR hlen x hx a c l hl G w hL hst hB).mono fun v H hA => by
  obtain ⟨rfl, h1 | h1⟩ := hA
  ·exact absurd h h1.1
  ·exact ⟨by rw [h], h1.2⟩
end
def add_at {b k : Nat} {cap t t' : Int} {ms : List Mark} {G D R : aC} (hcap : 2 ≤ cap ∧ cap ≤ 256) (h : LJ b cap k t ms G D) (hk : k < 1000000) (hn : Nxt k t t') {a : AC} {c : Nat} {l : AB} (hl : l.length ≤ 140737488355328)
  {w0 w : AI} {bs : AE} (hw : St w0 bs (G ++ R) w) (hB : BytS w (G.map (·.1)) a l) :
  aB prog 91 [P_ b, .int .u64 t', .slice a l.length c] w (G.map (·.1)) (fun v H => v = .int .i64 0 ∧ ∃ mk G' D', mk.t = t' ∧ mk.l = l ∧ H = G' ++ D' ∧ LJ b cap (k + 1) t' (addM cap.toNat ms mk) G' (D' ++ D)) := by
 have h1 := h.lo; have h2 := h.len
 have ht : 0 ≤ t' := by
  rcases dr k with hz | hz
  ·have := hn.1 hz; omega
  ·have := hn.2 hz; omega
 refine (aSl b cap hcap ms h.rise o_m t' ht a c l hl G w h.line (St.lend hw) hB (h.ok hk hn)).mono ?_
 rintro v H ⟨rfl, mk, G', D', e1, e2, e3, rfl, hL, hB⟩
 exact ⟨rfl, mk, G', D', e1, e2, rfl, h.step hk hcap.1 hn e1 e2 hl e3 hL hB⟩
end Go.Proofs.YtacejanlmhbddaaGreat.Tm
namespace Go.Proofs.YtacejanlmhbddaaGreat
open Go Go.VV Go.Proofs Go.RowKit Go.Proofs.Tryz
def tR (last : Int) : Int → AB → AB
 | _, [] => []
 | _, [m] => [m]
 | b, m :: p :: r => if b - p ≤ 2 + last - b then tR last b (p :: r) else m :: tR last m (p :: r)
def aAq (cap : Nat) (l : AB) (x : Int) : AB := (x :: tR x x l.reverse).reverse.take 1 ++ (x :: tR x x l.reverse).reverse.drop (1 + ((x :: tR x x l.reverse).length - cap))
def rB (cap : Nat) : Nat → AB
 | 0 => []
 | n + 1 => aAq cap (rB cap n) n
def wI (last : Int) : ∀ (r : List Tm.Mark) (b : Int), Tm.times (Tm.thinR last b r) = tR last b (Tm.times r)
 | [], _ => rfl
 | [_], _ => rfl
 | m :: p :: r, b => by
  show Tm.times (if b - p.t ≤ 2 + last - b then Tm.thinR last b (p :: r) else m :: Tm.thinR last m.t (p :: r)) = (if b - p.t ≤ 2 + last - b then tR last b (Tm.times (p :: r)) else m.t :: tR last m.t (Tm.times (p :: r)))
  split
  ·exact wI last (p :: r) b
  ·show m.t :: Tm.times (Tm.thinR last m.t (p :: r)) = _
   rw [wI last (p :: r) m.t]
def aJd (cap : Nat) (ms : List Tm.Mark) (mk : Tm.Mark) : Tm.times (Tm.addM cap ms mk) = aAq cap (Tm.times ms) mk.t := by
 have e1 : Tm.thinL (ms ++ [mk]) = (mk :: Tm.thinR mk.t mk.t ms.reverse).reverse := by
  unfold Tm.thinL
  have : (ms ++ [mk]).reverse = mk :: ms.reverse := by simp
  rw [this]
 have e2 : Tm.times (mk :: Tm.thinR mk.t mk.t ms.reverse).reverse = (mk.t :: tR mk.t mk.t (Tm.times ms).reverse).reverse := by
  unfold Tm.times
  rw [List.map_reverse, ce, show (Tm.thinR mk.t mk.t ms.reverse).map (·.t) = tR mk.t mk.t (ms.reverse.map (·.t)) from wI _ _ _, List.map_reverse]
 have e3 : (mk :: Tm.thinR mk.t mk.t ms.reverse).reverse.length = (mk.t :: tR mk.t mk.t (Tm.times ms).reverse).length := by
  have := cA_ List.length e2
  rw [Tm.times_len] at this
  rw [this, List.length_reverse]
 unfold Tm.addM
 rw [e1]
 unfold Tm.cutL aAq
 rw [e3, ← e2]
 unfold Tm.times
 rw [be, ew, go]
end Go.Proofs.YtacejanlmhbddaaGreat
namespace Go.Proofs.YtacejanlmhbddaaGreat.Hs
open Go Go.VV
structure Stp where
 n : Int
 bank : Int
 what : Int
 dn : Int
 at_ : Int
 kind : Int
 x : Int
 y : Int
 size : Int
 m : Int
 taken : Bool
 to : Int
def cD (s : Stp) : AA := [.int .i64 s.what, .int .i64 s.dn, .int .u16 s.at_, .int .i64 s.kind, .int .i64 s.x, .int .i64 s.y, .int .i64 s.size, .int .u16 s.m, .bool s.taken]
def cS (s : Stp) : AA := [.int .u64 s.n, .int .i64 s.bank, .int .i64 s.what, .int .i64 s.dn, .int .u16 s.at_, .int .i64 s.kind, .int .i64 s.x, .int .i64 s.y, .int .i64 s.size, .int .u16 s.m, .bool s.taken, .int .u16 s.to]
structure StpOk (s : Stp) : Prop where
 at0 : 0 ≤ s.at_ ∧ s.at_ < 65536
 size : -9223372036854775808 ≤ s.size ∧ s.size ≤ 9223372036854775807
structure Cll where
 kind : Int
 bank : Int
 at_ : Int
 to : Int
 back : Int
def cC (c : Cll) : AA := [.int .i64 c.kind, .int .i64 c.bank, .int .u16 c.at_, .int .u16 c.to, .int .u16 c.back]
def lS (c : Cll) : (cC c).length = 5 := rfl
def c0 : Cll := ⟨0, 0, 0, 0, 0⟩
structure Rcd where
 n : Int
 what : Int
 bank : Int
 at_ : Int
 kind : Int
 x : Int
 y : Int
 size : Int
 m : Int
def cR (r : Rcd) : AA := [.int .u64 r.n, .int .i64 r.what, .int .i64 r.bank, .int .u16 r.at_, .int .i64 r.kind, .int .i64 r.x, .int .i64 r.y, .int .i64 r.size, .int .u16 r.m]
def qS (r : Rcd) : (cR r).length = 9 := rfl
def r0 : Rcd := ⟨0, 0, 0, 0, 0, 0, 0, 0, 0⟩
def recOf (s : Stp) : Rcd := ⟨s.n, s.what, s.bank, s.at_, s.kind, s.x, s.y, s.size, s.m⟩
def mV (s : Stp) : Int := (s.at_ + s.size) % 65536
def aCX (s : Stp) : Option Cll :=
 if s.what = 2 then some ⟨3, s.bank, s.at_, s.to, s.at_⟩
 else if s.what = 1 ∧ s.kind = 25 ∧ s.taken = true then some ⟨1, s.bank, s.at_, s.to, mV s⟩
 else if s.what = 1 ∧ s.kind = 28 then some ⟨2, s.bank, s.at_, s.to, mV s⟩ else none
def aJi (s : Stp) : Bool := decide (s.what = 1) && ((decide (s.kind = 26) && s.taken) || decide (s.kind = 27))
def rN (cs : List Cll) (c : Cll) : List Cll := (cs ++ [c]).drop ((cs ++ [c]).length - 256)
def oG (cs : List Cll) (s : Stp) : List Cll :=
 match aCX s with
 | some c => rN cs c
 | none => if aJi s = true then cs.dropLast else cs
def callsL (l : List Stp) : List Cll := l.foldl oG []
def callsL_snoc (l : List Stp) (s : Stp) : callsL (l ++ [s]) = oG (callsL l) s := by simp [callsL]
def aNe (cs : List Cll) (c : Cll) : (rN cs c).length ≤ 256 := by unfold rN; rw [Ld_]; omega
def aK2 {cs : List Cll} (h : cs.length ≤ 256) (s : Stp) : (oG cs s).length ≤ 256 := by
 unfold oG
 split
 ·exact aNe _ _
 ·split
  ·rw [gl]; omega
  ·exact h
def aEz : ∀ (l : List Stp) {cs : List Cll}, cs.length ≤ 256 → (l.foldl oG cs).length ≤ 256
 | [], _, h => h
 | s :: l, _, h => aEz l (aK2 h s)
def callsL_len (l : List Stp) : (callsL l).length ≤ 256 := aEz l y_r
def aBT {s : Stp} (_h : StpOk s) : IntKind.u16.wrap (s.at_ + IntKind.u16.wrap s.size) = mV s := by
 rw [gF, gF, mV]; omega
def RingOk (keep : Nat) (ring : List Rcd) (l : List Stp) : Prop := ring.length = 32 ∧ ∀ i, (hi : i < l.length) → l.length ≤ i + keep → ring[i % keep]? = some (recOf l[i])
def RingOk.start (keep : Nat) {ring : List Rcd} (h : ring.length = 32) : RingOk keep ring [] := ⟨h, fun i hi => by simp at hi⟩
def RingOk.step {keep : Nat} {ring : List Rcd} {l : List Stp} (h : RingOk keep ring l) (h1 : 1 ≤ keep) (h2 : keep ≤ 32) (s : Stp) : RingOk keep (ring.set (l.length % keep) (recOf s)) (l ++ [s]) := by
 refine ⟨by rw [ca]; exact h.1, fun i hi hk => ?_⟩
 rw [La_, ar] at hi hk
 rw [fk]
 rcases dk i l.length with hl | hl
 ·have hne : ¬ l.length % keep = i % keep := fun he => by
   have h5 : (l.length - i) % keep = 0 := by
    rw [Nat.sub_mod_eq_zero_of_mod_eq he]
   have h6 : l.length - i < keep := by omega
   rw [Nat.mod_eq_of_lt h6] at h5
   omega
  rw [if_neg hne, h.2 i hl o_m, List.getElem_append_left hl]
 ·have : i = l.length := by omega
  subst this
  have hm : l.length % keep < 32 := dq (gz _ o_m) h2
  rw [if_pos rfl, if_pos (by rw [h.1]; exact hm)]
  simp
def hC (v : AH) (ring : List Rcd) (keep noted : Int) : AA := v :: (aF cR ring ++ [.int .i64 keep, .int .i64 noted])
def HistH (b : Nat) (keep noted : Nat) (cs : List Cll) (ring : List Rcd) (H : aC) : Prop :=
 ∃ v G, H = (b, blk (hC v ring keep noted) 164) :: G ∧ Vec 197 5 v cs.length (aF cC cs) G ∧ ring.length = 32
section
variable {v u : AH} {ring : List Rcd} {k n m : Int} (hr : ring.length = 32)
include hr
def hC_len : (hC v ring k n).length = 291 := by simp [hC, bM qS, hr]
def aHE : (hC v ring k n)[289]? = some (.int .i64 k) := by
 unfold hC
 rw [du, ea (by rw [bM qS, hr]; omega), bM qS, hr]; rfl
def aBY : (hC v ring k n)[290]? = some (.int .i64 n) := by
 unfold hC
 rw [du, ea (by rw [bM qS, hr]; omega), bM qS, hr]; rfl
def aRC : aO (hC v ring k n) 290 [.int .i64 m] = hC v ring k m := by
 have h := nH (v :: (aF cR ring ++ [.int .i64 k])) [Value.int .i64 n] [] [.int .i64 m] rfl
 have hl : (v :: (aF cR ring ++ [Value.int .i64 k])).length = 290 := by simp [bM qS, hr]
 rw [hl] at h
 simpa [hC] using h
def aRE {i : Nat} (hi : i < 32) (r : Rcd) : aO (hC v ring k n) (1 + i * 9) (cR r) = hC v (ring.set i r) k n := by
 have h1 : ring = ring.take i ++ ring[i] :: ring.drop (i + 1) := uJ o_m
 have h2 : ring.set i r = ring.take i ++ r :: ring.drop (i + 1) := by rw [dg, if_pos o_m]
 have hl : (v :: aF cR (ring.take i)).length = 1 + i * 9 := by simp [bM qS, hr]; omega
 have h := nH (v :: aF cR (ring.take i)) (cR ring[i]) (aF cR (ring.drop (i + 1)) ++ [.int .i64 k, .int .i64 n]) (cR r) rfl
 rw [hl] at h
 have hf : aF cR ring = aF cR (ring.take i) ++ (cR ring[i] ++ aF cR (ring.drop (i + 1))) := by
  conv => lhs; rw [h1]
  rw [gJ, kB]
 have e1 : hC v ring k n = v :: aF cR (ring.take i) ++ (cR ring[i] ++ (aF cR (ring.drop (i + 1)) ++ [.int .i64 k, .int .i64 n])) := by
  unfold hC; rw [hf]; simp only [As_, cr]
 have e2 : hC v (ring.set i r) k n = v :: aF cR (ring.take i) ++ (cR r ++ (aF cR (ring.drop (i + 1)) ++ [.int .i64 k, .int .i64 n])) := by
  unfold hC; rw [h2, gJ, kB]; simp only [As_, cr]
 rw [e1, e2]; exact h
omit hr in
def aTi {w : AI} {b : Nat} (h : Row w b 0 (hC v ring k n)) {i : Nat} {r : Rcd} (hi : ring[i]? = some r) : Row w b (1 + i * 9) (cR r) := by
 have h1 : Row w b 1 (aF cR ring ++ [.int .i64 k, .int .i64 n]) := fun j x hx => by
  have := h (1 + j) x (by unfold hC; rw [ir, du]; exact hx)
  rwa [bi] at this
 exact Row.nth' qS h1.left hi
end
def xM {v u : AH} {ring : List Rcd} {k n : Int} : aO (hC v ring k n) 0 [u] = hC u ring k n := by simp [aO, hC]
def iP (cs : List Cll) (s : Stp) : List Cll :=
 if s.kind = 25 then (if s.taken = true then rN cs ⟨1, s.bank, s.at_, s.to, mV s⟩ else cs)
 else if s.kind = 28 then rN cs ⟨2, s.bank, s.at_, s.to, mV s⟩
 else if s.kind = 26 then (if s.taken = true then cs.dropLast else cs)
 else if s.kind = 27 then cs.dropLast else cs
def aRk {s : Stp} (h : s.what = 2) (cs : List Cll) : oG cs s = rN cs ⟨3, s.bank, s.at_, s.to, s.at_⟩ := by
 simp [oG, aCX, h]
def aRJ {s : Stp} (h : s.what = 1) (cs : List Cll) : oG cs s = iP cs s := by
 have h2 : ¬ s.what = 2 := by omega
 unfold oG aCX iP aJi
 rw [if_neg h2]
 simp only [h, true_and, decide_true, gm]
 by_cases h25 : s.kind = 25
 ·have : ¬ s.kind = 28 := by omega
  by_cases ht : s.taken = true <;> simp [h25, ht]
 ·by_cases h28 : s.kind = 28
  ·simp [h28]
  ·by_cases h26 : s.kind = 26
   ·by_cases ht : s.taken = true <;> simp [h26, ht]
   ·by_cases h27 : s.kind = 27 <;> simp [h25, h28, h26, h27]
def aRG {s : Stp} (h1 : ¬ s.what = 1) (h2 : ¬ s.what = 2) (cs : List Cll) : oG cs s = cs := by
 simp [oG, aCX, aJi, h1, h2]
def aKY (c : Cll) : eD (cC c) = true := rfl
def aR3 (c : Rcd) : eD (cR c) = true := rfl
def aPS {b l c n s k : Nat} (h : l < c) (hk : n - l = k) : Value.slice (some ⟨b, iA 0 l s c, none⟩) (n - l) (c - l) = .slice (some ⟨b, l * s, none⟩) k (c - l) := by
 rw [iA, if_neg o_m, hk, bi]
def aS4 {cs : List Cll} {x : Cll} (h : (cs ++ [x]).length ≤ 256) : rN cs x = cs ++ [x] := by
 unfold rN; rw [show (cs ++ [x]).length - 256 = 0 by omega, j0]
def aR1 {cs : List Cll} {x : Cll} (h : cs.length ≤ 256) (h2 : 256 < (cs ++ [x]).length) : rN cs x = (cs ++ [x]).drop 1 := by
 unfold rN
 rw [La_, ar] at *
 rw [show cs.length + 1 - 256 = 1 by omega]
structure HistW (w : AI) (b keep noted : Nat) (cs : List Cll) (ring : List Rcd) : Prop where
 calls : ∃ a c, w.cell? ⟨b, 0, none⟩ = some (.slice a cs.length c) ∧ cs.length ≤ c ∧ (a = none → c = 0) ∧ SlW w cC a cs ∧ Row w b 0 (hC (.slice a cs.length c) ring keep noted)
 keep : w.cell? ⟨b, 289, none⟩ = some (.int .i64 keep)
 noted : w.cell? ⟨b, 290, none⟩ = some (.int .i64 noted)
 len : ring.length = 32
 row : ∀ i r, ring[i]? = some r → Row w b (1 + i * 9) (cR r)
def HistH.histW {b keep noted : Nat} {cs : List Cll} {ring : List Rcd} {G H : aC} {w0 w : AI} {bs : AE} (h : HistH b keep noted cs ring G) (hw : St w0 bs H w) (hs : ∀ x ∈ G, x ∈ H) : HistW w b keep noted cs ring := by
 obtain ⟨v, G', rfl, hV, hr⟩ := h
 obtain ⟨a, c, rfl, hl, hc, _, hz, hE⟩ := hV.slw lS y_b
 have h0 := hw.holds _ (hs _ (.head _))
 have hrow := Row.all h0
 refine ⟨⟨a, c, ?_, hc, hz, hE w fun x hx => hw.holds x (hs x (.tail _ hx)), hrow⟩, ?_, ?_, hr, fun i r hi => aTi hrow hi⟩
 ·rw [gX h0]; rfl
 ·rw [gX h0]; simpa using aHE hr
 ·rw [gX h0]; simpa using aBY hr
def HistW.later0 {w0 w : AI} {H : aC} {b keep noted : Nat} {cs : List Cll} {ring : List Rcd} (h : HistW w0 b keep noted cs ring) (hw : St w0 [] H w) : HistW w b keep noted cs ring := by
 obtain ⟨⟨a, c, h0, hc, hz, hE, hA⟩, h1, h2, h3, h4⟩ := h
 exact ⟨⟨a, c, aV h0 y_r w hw, hc, hz, hE.later0 hw, aN hA y_r w hw⟩, aV h1 y_r w hw, aV h2 y_r w hw, h3, fun i r hi => aN (h4 i r hi) y_r w hw⟩
def aDp {n k : Nat} : (n : Int).tmod (k : Int) = ((n % k : Nat) : Int) := by
 rw [Int.tmod_eq_emod_of_nonneg o_m]; simp
def aRf {s : Stp} (h : s.kind = 25) (ht : s.taken = true) (cs : List Cll) : iP cs s = rN cs ⟨1, s.bank, s.at_, s.to, mV s⟩ := by simp [iP, h, ht]
def aPW {s : Stp} (h : s.kind = 25) (ht : s.taken = false) (cs : List Cll) : iP cs s = cs := by simp [iP, h, ht]
def aTg {s : Stp} (h : s.kind = 28) (cs : List Cll) : iP cs s = rN cs ⟨2, s.bank, s.at_, s.to, mV s⟩ := by simp [iP, h]
def aHO {s : Stp} (h : s.kind = 26) (ht : s.taken = true) (cs : List Cll) : iP cs s = cs.dropLast := by simp [iP, h, ht]
def aPY {s : Stp} (h : s.kind = 26) (ht : s.taken = false) (cs : List Cll) : iP cs s = cs := by simp [iP, h, ht]
def aKj {s : Stp} (h : s.kind = 27) (cs : List Cll) : iP cs s = cs.dropLast := by simp [iP, h]
def aTj {s : Stp} (h1 : ¬ s.kind = 25) (h2 : ¬ s.kind = 28) (h3 : ¬ s.kind = 26) (h4 : ¬ s.kind = 27) (cs : List Cll) : iP cs s = cs := by simp [iP, h1, h2, h3, h4]
def aDk {cs : List Cll} {sc : AA} (h : cs.length ≠ 0) : ∃ sp', aF cC cs ++ sc = aF cC cs.dropLast ++ sp' := by
 obtain ⟨A, a, rfl⟩ := aDy (l := cs) o_m
 exact ⟨cC a ++ sc, by rw [jI, List.dropLast_concat, As_]⟩
def aFk {cs : List Cll} (h : cs.length = 0) : cs.dropLast = cs := by
 rw [cw h]; rfl
def aIf {cs : List Cll} {bc cc : Nat} {sc : AA} (h : cs.length ≠ 0) (hz : (aF cC cs ++ sc).length = cc * 5) (hl : cs.length ≤ cc) (hx : cc ≤ maxLen) :
  Vec 197 5 (.slice (Q_ bc) cs.dropLast.length cc) cs.dropLast.length (aF cC cs.dropLast) [(bc, blk (aF cC cs ++ sc) 197)] := by
 obtain ⟨sp', hs⟩ := aDk (sc := sc) h
 rw [hs] at hz ⊢
 exact Vec.all_ lS hz (by rw [gl]; omega) hx
def aPK {a : AC} {m c : Nat} {ring : List Rcd} {k n : Int} : eD (hC (.slice a m c) ring k n) = true := by
 have h1 := List.all_eq_true.1 (uB aR3 ring)
 refine List.all_eq_true.2 fun x hx => ?_
 unfold hC at hx
 rcases List.mem_cons.1 hx with rfl | hx
 ·rfl
 ·rcases List.mem_append.1 hx with hx | hx
  ·exact h1 x hx
  ·simp at hx; rcases hx with rfl | rfl <;> rfl
end Go.Proofs.YtacejanlmhbddaaGreat.Hs
namespace Go.Proofs.YtacejanlmhbddaaGreat
open Go Go.VV Go.Proofs Go.RowKit Go.Proofs.Tryz
structure Gx where
 rom : AB
 plan : List Chg
 pa : AC
 pc : Nat
structure Gx.Ok (g : Gx) : Prop where
 len : g.rom.length ≤ 100000000
 byts : aT g.rom
 err : errH g.rom = 0
 chg : ∀ c ∈ g.plan, kN c
 few : g.plan.length ≤ 1000000
def Gx.m (g : Gx) (k : Nat) : Mm := tD g.plan (jP g.rom) k
def aC7 (m : Mm) (a : Int) : Int := if 32768 ≤ a then 0 else bankB a m.bk
def aT6 (k : Nat) (b : Int) (d : Dd) (to : Int) : Hs.Stp := ⟨k, b, d.what, d.n, d.at_, d.op.kind, d.op.x, d.op.y, d.op.size, d.op.n, d.taken, to⟩
def Gx.st (g : Gx) (k : Nat) : Hs.Stp := aT6 k (aC7 (g.m k) (g.m k).cpu.r.pc) (cE g.plan (g.m k)).1 (g.m (k + 1)).cpu.r.pc
def Gx.sts (g : Gx) (k : Nat) : List Hs.Stp := (List.range k).map g.st
def Gx.enc (g : Gx) (k : Nat) : AB := eK (g.m k)
section
variable {g : Gx} (h : g.Ok)
def Gx.sts_len (g : Gx) (k : Nat) : (g.sts k).length = k := by simp [Gx.sts]
def Gx.sts_snoc (g : Gx) (k : Nat) : g.sts (k + 1) = g.sts k ++ [g.st k] := by simp [Gx.sts, d7]
include h
def Gx.Ok.inv (k : Nat) : kW (jP g.rom) True (g.m k) := (aGD h.err h.byts).run h.chg k
def Gx.Ok.ram (k : Nat) : (g.m k).ram.length = (jP g.rom).ram.length := (h.inv k).fr.ram
def Gx.Ok.enc_len (k : Nat) : (g.enc k).length = (g.enc 0).length := by
 unfold Gx.enc
 rw [lJ (h.inv k).wf, lJ (h.inv 0).wf, h.ram, h.ram]
def Gx.Ok.enc_le (k : Nat) : 1 ≤ (g.enc k).length ∧ (g.enc k).length ≤ 200000 := by
 unfold Gx.enc
 rw [lJ (h.inv k).wf, h.ram]
 have := tY g.rom
 omega
def Gx.Ok.enc_byts (k : Nat) : aT (g.enc k) := aLb (h.inv k).wf
end
def EqA.cpu {m n : Mm} (h : EqA m n) : n.cpu = m.cpu := by rw [h]
def EqA.bank {m n : Mm} (h : EqA m n) (a : Int) : aC7 n a = aC7 m a := by rw [h]; rfl
def EqA.inv {R m n : Mm} (h : EqA m n) (hm : kW R True m) : kW R True n := by rw [h]; exact hm.acc_ _
def EqA.refl (m : Mm) : EqA m m := rfl
def aP6 {β : Type} {K : aVh β} {x : Rn β} {n : Nat} (h : RunOk K (n + 3) x) : 1 ≤ (nextT K.toaVg x).1.size ∧ (nextT K.toaVg x).1.size ≤ 3 := by
 have key : ∀ i, i ≤ 2 → 1 ≤ (nxN K.toaVg x (i + 1)).o.size ∧ (nxN K.toaVg x (i + 1)).o.size ≤ 3 := fun i hi => by
  have hq : yW K (n + (3 - (i + 1)) + 1) (nxN K.toaVg x i) := by rw [show n + (3 - (i + 1)) + 1 = n + (3 - i) by omega]; exact h.nx i o_m
  have hf := hq.x.fetch1
  have hb := lQ hq.by_ i hf.2
  exact (aFD (hb.get 0) (hb.get 1) (hb.get 2)).size
 unfold nextT
 split
 ·exact key 0 y_b
 ·split
  ·exact key 1 y_b
  ·exact key 2 y_b
def aPE {R m : Mm} {D : Prop} {plan : List Chg} (hp : ∀ c ∈ plan, kN c) (h : kW R D m) : (0 ≤ (cE plan m).1.at_ ∧ (cE plan m).1.at_ < 65536) ∧ -9223372036854775808 ≤ (cE plan m).1.op.size ∧ (cE plan m).1.op.size ≤ 9223372036854775807 := by
 have hq : RunOk (tF R D) 7 (⟨m.cpu, bT plan m⟩ : Rn Mm) := ⟨h.rg, aGW hp h⟩
 show (0 ≤ (dJ dY (⟨m.cpu, bT plan m⟩ : Rn Mm)).1.at_ ∧ (dJ dY (⟨m.cpu, bT plan m⟩ : Rn Mm)).1.at_ < 65536) ∧ -9223372036854775808 ≤ (dJ dY (⟨m.cpu, bT plan m⟩ : Rn Mm)).1.op.size ∧ (dJ dY (⟨m.cpu, bT plan m⟩ : Rn Mm)).1.op.size ≤ 9223372036854775807
 have hpc := h.rg.pc
 unfold dJ
 dsimp only
 repeat' split
 ·exact ⟨hpc, (by decide : -9223372036854775808 ≤ (0 : Int)), (by decide : (0 : Int) ≤ 9223372036854775807)⟩
 ·exact ⟨hpc, (by decide : -9223372036854775808 ≤ (0 : Int)), (by decide : (0 : Int) ≤ 9223372036854775807)⟩
 ·exact ⟨hpc, (by decide : -9223372036854775808 ≤ (0 : Int)), (by decide : (0 : Int) ≤ 9223372036854775807)⟩
 all_goals
  have hz := aP6 (n := 4) (K := tF R D) (x := ⟨{ m.cpu with halt := false, soon := false }, bT plan m⟩) ⟨h.rg, hq.m⟩
  exact ⟨hpc, Int.le_trans y_b hz.1, Int.le_trans hz.2 y_b⟩
def Gx.Ok.st {g : Gx} (h : g.Ok) (k : Nat) : Hs.StpOk (g.st k) := ⟨(aPE h.chg (h.inv k)).1, (aPE h.chg (h.inv k)).2⟩
def yD.offB {w0 w : AI} {ms : AE} {T : Nat} {plan : List Chg} {pa : AC} {pc : Nat} {G A B : aC} (h : yD T plan pa pc G) (hw : St w0 ms (A ++ B) w) (hs : ∀ x ∈ G, x ∈ B) : ∀ p, pa = some p → p.block ∉ A.map (·.1) := by
 rintro p rfl hp
 rcases h.vec.alt with ⟨h1, _⟩ | ⟨b, cap, sp, h1, rfl, _⟩
 ·cases h1
 cases h1
 have hn := hw.nodup
 rw [be, dd] at hn
 exact hn.2.2 _ hp _ (List.mem_map_of_mem (hs _ (.head _))) rfl
structure Db where
 b : Nat
 hb : Nat
 lb : Nat
 mp : Nat
 fa : Nat
 fc : Nat
 fs : AA
 cap : Int
 asked : Int
 done : Int
 q : MA
 m : Mm
 ring : List Hs.Rcd
 GH : aC
 ms : List Tm.Mark
 GL : aC
 l : List Ent
 c : Nat
 pv : AH
 wv : AH
 tab : AH
 D : aC
def cDb (cap : Int) (q h : AH) (at_ : Nat) (f : AH) (lb mp : Nat) (pv wv : AH) (asked done : Int) (tab : AH) : AA :=
 [.int .i64 cap, q, h, .int .u64 at_, f, P_ lb, .map (some mp), pv, wv, .int .u32 asked, .int .u64 done, tab]
abbrev Db.cs (d : Db) (g : Gx) (k : Nat) : AA := cDb d.cap (pM d.q) (P_ d.hb) k (.slice (Q_ d.fa) (g.enc 0).length d.fc) d.lb d.mp d.pv d.wv d.asked d.done d.tab
def Db.H (d : Db) (g : Gx) (k : Nat) : aC := (d.b, blk (d.cs g k) 108) :: (d.mp, bL .u64 d.l d.c) :: (hM d.q d.m ++ (d.GH ++ (d.GL ++ d.D)))
def capT (n : Int) : Int := max 2 (min n 256)
def capT_ok (n : Int) : 2 ≤ capT n ∧ capT n ≤ 256 := by unfold capT; omega
def aC0 (g : Gx) (D : aC) (v : AH) (j : Nat) : Prop := ∃ b ring G, v = P_ b ∧ Hs.HistH b 32 j (Hs.callsL (g.sts j)) ring G ∧ Hs.RingOk 32 ring (g.sts j) ∧ ∀ x ∈ G, x ∈ D
def aC0.more {g : Gx} {D D' : aC} {v : AH} {j : Nat} (h : aC0 g D v j) (hs : ∀ x ∈ D, x ∈ D') : aC0 g D' v j := by
 obtain ⟨b, r, G, h1, h2, h3, h4⟩ := h
 exact ⟨b, r, G, h1, h2, h3, fun x hx => hs x (h4 x hx)⟩
structure pW (g : Gx) (l : List Ent) (c : Nat) (ms : List Tm.Mark) (n : Nat) (D : aC) : Prop where
 old : ∀ e ∈ l, e.2.2 < c
 nd : (l.map (·.2.2)).Nodup
 le : ∀ e ∈ l, 0 ≤ e.1 ∧ e.1 < n
 his : ∀ e ∈ l, aC0 g D e.2.1 e.1.toNat
 all : ∀ m ∈ ms, ∃ e ∈ l, e.1 = m.t
def aCv {a : Int} : ∀ {l : List Ent} {i : Nat}, (∀ e ∈ l, e.1 ≠ a) → eV a l i = none
 | [], _, _ => rfl
 | e :: l, i, h => by
  unfold eV
  rw [if_neg (fun he => h e (.head _) he.symm)]
  exact aCv fun x hx => h x (.tail _ hx)
def aCD {a : Int} : ∀ {l : List Ent} {i : Nat}, (∃ e ∈ l, e.1 = a) → ∃ j e, e ∈ l ∧ e.1 = a ∧ eV a l i = some (j, e.2.1)
 | [], _, h => by obtain ⟨_, h, _⟩ := h; cases h
 | e :: l, i, h => by
  unfold eV
  by_cases he : a = e.1
  ·rw [if_pos he]; exact ⟨i, e, .head _, he.symm, rfl⟩
  ·rw [if_neg he]
   obtain ⟨x, hx, hx2⟩ := h
   rcases List.mem_cons.1 hx with rfl | hx
   ·exact absurd hx2.symm he
   ·obtain ⟨j, y, hy, h1, h2⟩ := aCD (i := i + 1) ⟨x, hx, hx2⟩
    exact ⟨j, y, .tail _ hy, h1, h2⟩
def aAT (a : Int) : ∀ l : List Ent, (kE a l).Sublist l
 | [] => .slnil
 | e :: l => by
  unfold kE
  split
  ·exact .cons _ (List.Sublist.refl _)
  ·exact .cons_cons _ (aAT a l)
def aD7 {a : Int} : ∀ {l : List Ent} {e : Ent}, e ∈ l → e.1 ≠ a → e ∈ kE a l
 | x :: l, e, h, hn => by
  unfold kE
  rcases List.mem_cons.1 h with rfl | h
  ·rw [if_neg (fun he => hn he.symm)]; exact .head _
  ·split
   ·exact h
   ·exact .tail _ (aD7 h hn)
section
variable {g : Gx} {l : List Ent} {c n : Nat} {ms : List Tm.Mark} {D : aC}
def pW.more (h : pW g l c ms n D) {D' : aC} (hs : ∀ x ∈ D, x ∈ D') : pW g l c ms n D' := ⟨h.old, h.nd, h.le, fun e he => (h.his e he).more hs, h.all⟩
def pW.start (g : Gx) (D : aC) : pW g [] 0 [] 0 D := ⟨fun _ h => y_cE, y_eR, fun _ h => y_cE, fun _ h => y_cE, fun _ h => y_cE⟩
def pW.drop (h : pW g l c ms n D) {a : Int} (ha : ∀ m ∈ ms, m.t ≠ a) : pW g (kE a l) c ms n D :=
 have hs := aAT a l
 ⟨fun e he => h.old e (hs.subset he), (hs.map _).nodup h.nd, fun e he => h.le e (hs.subset he), fun e he => h.his e (hs.subset he), fun m hm => by
  obtain ⟨e, he, h1⟩ := h.all m hm
  exact ⟨e, aD7 he (by rw [h1]; exact ha m hm), h1⟩⟩
def pW.new (h : pW g l c ms n D) {v : AH} (hv : aC0 g D v n) {mk : Tm.Mark} (ht : mk.t = n) {ms' : List Tm.Mark} (hs : ∀ m ∈ ms', m ∈ ms ++ [mk]) : eV n l 0 = none ∧ pW g (l ++ [((n : Int), v, c)]) (c + 1) ms' (n + 1) D := by
 refine ⟨aCv fun e he h1 => by have := (h.le e he).2; omega, fun e he => ?_, ?_, fun e he => ?_, fun e he => ?_, fun m hm => ?_⟩
 ·rcases List.mem_append.1 he with he | he
  ·have := h.old e he; omega
  ·rw [List.mem_singleton.1 he]; show c < c + 1; omega
 ·rw [be, dd]
  refine ⟨h.nd, y_eR, ?_⟩
  intro a ha b hb
  obtain ⟨e, he, rfl⟩ := List.mem_map.1 ha
  have h1 := h.old e he
  have h2 : b = c := by simpa using hb
  show e.2.2 ≠ b
  omega
 ·rcases List.mem_append.1 he with he | he
  ·have := h.le e he; omega
  ·rw [List.mem_singleton.1 he]; show (0 : Int) ≤ n ∧ (n : Int) < (n + 1 : Nat); omega
 ·rcases List.mem_append.1 he with he | he
  ·exact h.his e he
  ·rw [List.mem_singleton.1 he]; exact hv
 ·rcases List.mem_append.1 (hs m hm) with h1 | h1
  ·obtain ⟨e, he, h2⟩ := h.all m h1
   exact ⟨e, gj _ he, h2⟩
  ·rw [List.mem_singleton.1 h1]
   exact ⟨_, fi _ (.head _), ht.symm⟩
end
structure Db.Ok (d : Db) (g : Gx) (k n : Nat) : Prop where
 le : k ≤ n
 q : d.q.Ok g.pa g.plan.length g.pc
 m : EqA (g.m k) d.m
 hist : Hs.HistH d.hb 32 k (Hs.callsL (g.sts k)) d.ring d.GH
 ring : Hs.RingOk 32 d.ring (g.sts k)
 line : Tm.LJ d.lb (capT d.cap) n ((n - 1 : Nat) : Int) d.ms d.GL d.D
 pk : ∀ x ∈ d.ms, x.l = cZ (g.enc 0) (g.enc x.t.toNat)
 first : (d.fa, blk ((g.enc 0).map U_ ++ d.fs) 5) ∈ d.D ∧ (g.enc 0).length ≤ d.fc
 past : pW g d.l d.c d.ms n d.D
 tms : Tm.times d.ms = rB (capT d.cap).toNat n
 plan : ∃ GP, yD 114 g.plan g.pa g.pc GP ∧ ∀ x ∈ GP, x ∈ d.D
structure Db.To (d e : Db) : Prop where
 b : e.b = d.b
 cap : e.cap = d.cap
 asked : e.asked = d.asked
 q : pM e.q = pM d.q
 pv : e.pv = d.pv
 wv : e.wv = d.wv
 tab : e.tab = d.tab
 D : ∀ x ∈ d.D, x ∈ e.D
def Db.To.refl (d : Db) : Db.To d d := ⟨rfl, rfl, rfl, rfl, rfl, rfl, rfl, fun _ h => h⟩
def Db.To.trans {d e f : Db} (h1 : Db.To d e) (h2 : Db.To e f) : Db.To d f :=
 ⟨h2.b.trans h1.b, h2.cap.trans h1.cap, h2.asked.trans h1.asked, h2.q.trans h1.q, h2.pv.trans h1.pv, h2.wv.trans h1.wv, h2.tab.trans h1.tab, fun x hx => h2.D x (h1.D x hx)⟩
def aAG (g : Gx) (d e : Db) (j n : Nat) (c : Int) (H : aC) : Prop := e.Ok g j n ∧ d.To e ∧ e.done = d.done + c ∧ H = e.H g j
def jF (ms : List Tm.Mark) (k j : Nat) : Int := if j < k ∨ (k : Int) < (Tm.befM ms j).t then j - (Tm.befM ms j).t else j - k
structure Db.Fine (d : Db) (g : Gx) (k n : Nat) : Prop where
 ok : d.Ok g k n
 lt : k < n
 few : n < 800000
 done : 0 ≤ d.done ∧ d.done < 100000000000000
def wT {b k : Nat} {cap t : Int} {ms : List Tm.Mark} {G D D' : aC} (h : Tm.LJ b cap k t ms G D) (hs : ∀ x ∈ D, x ∈ D') : Tm.LJ b cap k t ms G D' :=
 ⟨h.line, h.dat.more hs, h.rise, h.len, h.lo, h.hi, h.zero, h.more⟩
def aJ9 {w0 w : AI} {bs : AE} {G R : aC} (hw : St w0 bs (G ++ R) w) {b : Nat} {l : AB} {sp : AA} {T : AJ} (hm : (b, Obj.cells (l.map U_ ++ sp).toArray T (0, 0)) ∈ R) : Tm.BytS w (G.map (·.1)) (Q_ b) l := by
 refine .inr ⟨b, 0, rfl, fun hb => ?_, (Row.all (hw.holds _ (fi _ hm))).left⟩
 have hn := hw.nodup
 rw [be, dd] at hn
 exact hn.2.2 b hb b (List.mem_map.2 ⟨_, hm, rfl⟩) rfl
def aCj {l : List Ent} {seen : AE} {y : Ent} (hy : y ∈ kP l seen) : (kP l (seen ++ [y.2.2])).length < (kP l seen).length := by
 unfold kP at *
 have e1 : l.filter (fun e => !((seen ++ [y.2.2]).contains e.2.2)) = (l.filter fun e => !(seen.contains e.2.2)).filter fun e => !(e.2.2 == y.2.2) := by
  rw [List.filter_filter]
  refine List.filter_congr fun x _ => ?_
  simp only [List.contains_eq_mem, ip, gw, Bool.decide_or, Bool.not_or]
  rw [Bool.and_comm]
  rfl
 rw [e1]
 generalize (l.filter fun e => !(seen.contains e.2.2)) = r at hy ⊢
 induction r with
 | nil => cases hy
 | cons z r ih =>
  rcases List.mem_cons.1 hy with rfl | hy
  ·rw [js, if_neg y_r]
   have := gf (fun e : Ent => !(e.2.2 == y.2.2)) r
   simp only [Lc_]; omega
  ·have := ih hy
   rw [js]
   split <;> simp only [Lc_] <;> omega
def aJg (a : Int) (l : List Ent) (s : AE) : (kP (kE a l) s).length ≤ (kP l s).length := ((aAT a l).filter _).length_le
def aK1 {l : List Ent} {s : AE} {y : Ent} (h : y ∈ kP l s) : y ∈ l := (List.mem_filter.1 h).1
def aHX {l : AB} (hs : l.Pairwise (· < ·)) {x : Int} {i : Nat} (h1 : ∀ p, p < i → l.getD p 0 < x) (h2 : i < l.length → l.getD i 0 ≠ x ∧ x ≤ l.getD i 0) : x ∉ l := fun hx => by
 obtain ⟨p, hp, he⟩ := List.mem_iff_getElem.1 hx
 have hg : l.getD p 0 = x := by rw [← he]; simp [hp]
 rcases Nat.lt_trichotomy p i with h | h | h
 ·have := h1 p h; omega
 ·subst h; exact (h2 hp).1 hg
 ·have h3 := h2 o_m
  have h4 := (List.pairwise_iff_getElem.1 hs) i p o_m hp h
  have h5 : l.getD i 0 = l[i] := by simp [show i < l.length by omega]
  rw [he] at h4
  omega
def aTX {l : AB} (hs : l.Pairwise (· < ·)) {x : Int} {h i : Nat} (hh : h < l.length) (hx : l.getD h 0 < x) (hi : i = h + 1) : ∀ p, p < i → l.getD p 0 < x := fun p hp => by
 subst hi
 rcases dk p h with h1 | h1
 ·have := (List.pairwise_iff_getElem.1 hs) p h o_m hh h1
  have e1 : l.getD p 0 = l[p] := by simp [show p < l.length by omega]
  have e2 : l.getD h 0 = l[h] := by simp [hh]
  omega
 ·rwa [show p = h by omega]
def aIW {ms : List Tm.Mark} (h : Tm.Rise ms) : (Tm.times ms).Pairwise (· < ·) := List.pairwise_map.2 h.1
structure Gq where
 kind : Int
 pa : AC
 pc : Nat
 prog : AB
 qa : AC
 qc : Nat
 plan : List Chg
def cGq (g : Gq) : AA := [.int .u8 g.kind, .slice g.pa g.prog.length g.pc, .slice g.qa g.plan.length g.qc]
structure Gq.Ok (w : AI) (g : Gq) : Prop where
 kind : 0 ≤ g.kind ∧ g.kind < 256
 prog : aT g.prog
 lp : g.prog.length ≤ g.pc ∧ g.prog.length ≤ maxLen
 np : Ns w .u8 g.pa g.prog
 plan : ∀ c ∈ g.plan, kN c
 lq : g.plan.length ≤ g.qc ∧ g.plan.length ≤ maxLen
 nq : Els w nR g.qa g.plan
def Gq.Ok.later {g : Gq} {w0 w : AI} {H : aC} (h : g.Ok w0) (hw : St w0 [] H w) : g.Ok w := ⟨h.kind, h.prog, h.lp, h.np.later0 hw, h.plan, h.lq, h.nq.later0 hw⟩
def aDe {w : AI} (cs : AA) (h : Nks w [.int .u8, .ints .u8, .rows [.int .u64, .int .u8]] cs) : ∃ g, cs = cGq g ∧ g.Ok w := by
 match cs, h with
 | [a, c, d], h =>
  obtain ⟨⟨x, rfl, hx⟩, ⟨pa, pc, l, rfl, h1, h2, h3, h4⟩, ⟨qa, qc, L, rfl, h5, h6, h7, h8⟩, _⟩ := h
  obtain ⟨l2, hl2, h9, h10⟩ := aRn (c := nR) (p := kN) aRD h7 h8
  exact ⟨⟨x, pa, pc, l, qa, qc, l2⟩, by show _ = [_, _, Value.slice qa l2.length qc]; rw [← hl2], aBr hx, aHz h3, ⟨h1, h2⟩, h4, h9, ⟨by show l2.length ≤ qc; omega, by show l2.length ≤ maxLen; omega⟩, h10⟩
def romQ (g : Gq) : AB := madeI g.kind 0 2 g.prog
def romQ_len (g : Gq) : (romQ g).length = romS 0 := aEL _ _ _ _
def lA {g : Gq} {w : AI} (h : g.Ok w) : aT (romQ g) := aC3 h.kind y_b h.prog
def fewQ (g : Gq) : Bool := decide (g.prog.length ≤ 2000 ∧ g.plan.length ≤ 20)
def wH : AB := madeI 0 0 0 []
def aOy : errH wH = 0 := by kernel_rfl
def aKu : aT wH := aC3 y_b y_b (fun _ h => y_eO)
def aGp : wH.length = romS 0 := aEL _ _ _ _
def gx0 : Gx := ⟨wH, [], none, 0⟩
def aCy : gx0.Ok := ⟨by show wH.length ≤ _; rw [aGp]; decide, aKu, aOy, fun _ h => y_cE, y_eP⟩
def rD {d : Db} {g : Gx} {k n : Nat} (hd : d.Ok g k n) (h0 : 0 < n) (j : Nat) : 0 ≤ jF d.ms k j ∧ jF d.ms k j ≤ j := by
 obtain ⟨hm0, hm1, _⟩ := hd.line.more h0
 have hb := Tm.bef_nn hd.line.rise hm0 hm1 (x := (j : Int)) o_m
 have h1 := Tm.befM_le hd.line.rise hb
 have h2 : 0 ≤ (Tm.befM d.ms (j : Int)).t := (hd.line.rise.2 _ (Tm.befM_mem o_m)).1
 unfold jF
 split <;> omega
def Db.Fine.goes {d e : Db} {g : Gx} {k n j m : Nat} {c : Int} {H : aC} (hf : d.Fine g k n) (h : aAG g d e j m c H) (hj : j < m) (hm : m < 800000) (hc : 0 ≤ c ∧ d.done + c < 100000000000000) : e.Fine g j m :=
 ⟨h.1, hj, hm, by have := h.2.2.1; have := hf.done; omega⟩
def Db.Ok.ask {d : Db} {g : Gx} {k n : Nat} (h : d.Ok g k n) (x : Int) : ({ d with asked := x } : Db).Ok g k n := ⟨h.le, h.q, h.m, h.hist, h.ring, h.line, h.pk, h.first, h.past, h.tms, h.plan⟩
end Go.Proofs.YtacejanlmhbddaaGreat
namespace Go.Proofs.YtacejanlmhbddaaGreat.Hs
open Go Go.VV Go.Proofs Go.Proofs.Tryz
def new_fn (n : Int) (w : AI) :
  aB prog 44 [.int .i64 n] w [] (fun v H => ∃ b, v = P_ b ∧ HistH b (max 1 (min n 32)).toNat 0 [] (List.replicate 32 r0) H) := by
 refine dR_ func44 ?_
 refine A_7 ?_
 refine RY (gH rfl rfl) rfl (RY (kD rfl rfl) rfl (RY (eL (z := hC (.slice none 0 0) (List.replicate 32 r0) 0 0) (l := hC (.slice none 0 0) (List.replicate 32 r0) (max 1 (min n 32)) 0) rfl y_f rfl y_f) rfl (RX (cM rfl rfl) rfl ?_)))
 rintro _ _ ⟨b7, rfl, rfl⟩
 refine A_3 ?_
 exact EV rfl sR_ ⟨_, rfl, _, [], by rw [dh o_m]; rfl, .nil, y_eR⟩
def vS (b c j : Nat) (cs : List Cll) (sp : AA) (hlen : cs.length < 1000000000) (hc : cs.length ≤ c) (hsz : (aF cC cs ++ sp).length = c * 5) (h2 : 1 ≤ j) (hj : j ≤ cs.length) (w : AI) (hb : w.heap[b]? = some (blk (aF cC cs ++ sp) 197)) :
  aB prog 172 [.slice (Q_ b) cs.length c, .int .i64 0, .int .i64 j] w [b] (fun v H => v = .slice (Q_ b) (cs.drop j).length c ∧ ∃ sp', (aF cC (cs.drop j) ++ sp').length = c * 5 ∧ H = [(b, blk (aF cC (cs.drop j) ++ sp') 197)]) := by
 refine mC func172 rfl rfl rfl (St.lent1 hb) ?_
 refine A_10 ?_
 refine RY l_n rfl (RY (zK (s := 5) 0 j cs.length rfl rfl rfl rfl rfl rfl rfl rfl o_m hj hc) rfl (A_6 ?_))
 refine cY false rfl rfl rfl y_be ?_
 refine A_6 ?_
 refine RY l_n rfl (A_3 ?_)
 refine DR [] (pln [0, 2, 4, 6, 8, 10, 13, 14]) ?_
 refine A_2 ?_
 refine DW (v := (.slice (Q_ b) 0 c)) rfl (gQ (s := 5) 0 0 rfl rfl rfl rfl rfl rfl o_m o_m) rfl (aST b 0 5 0 c) (A_2 ?_)
 refine DY rfl (gQ (s := 5) j cs.length rfl rfl rfl rfl rfl rfl hj hc) rfl (DZ rfl (aAD (n := 0) (m := cs.length - j) (T := 197) (s := 5) (by_ := 24) (ys := aF cC (cs.drop j)) 0 rfl rfl rfl rfl rfl (fun w hw => .row _ _ _ _ _ (by rw [bM lS, Ld_]) (aLQ lS (aA (.head _) w hw) hj hc)) (uB aKY _) o_m (vI lS cs sp j)) rfl n_h (A_6 ?_))
 refine RY l_n rfl (A_1 ?_)
 refine RW (v := (.slice (some ⟨b, (cs.length - j) * 5, none⟩) j (c - (cs.length - j)))) (gQ (s := 5) (cs.length - j) cs.length rfl rfl rfl rfl y_r rfl o_m hc) rfl (aPS o_m o_m) (RZ (aDB (s := 5) (z := [.int .i64 0, .int .i64 0, .int .u16 0, .int .u16 0, .int .u16 0]) 0 rfl rfl rfl rfl rfl rfl rfl o_m (by rw [lK (vI lS cs sp j), hsz]; simp only [Lc_, au]; omega)) rfl (A_7 ?_))
 obtain ⟨sp', hsp⟩ := aN6 lS cs sp (kI (j * 5) [.int .i64 0, .int .i64 0, .int .u16 0, .int .u16 0, .int .u16 0]) hj
 refine fM (fun _ _ => sR rfl) sR_ ⟨by rw [Ld_, bi], sp', ?_, by rw [← hsp]; rfl⟩
 rw [← hsp, lK (by rw [lK (vI lS cs sp j), hsz, aBJ]; omega), lK (vI lS cs sp j), hsz]
def aFR (b keep noted : Nat) (cs : List Cll) (ring : List Rcd) (hcl : cs.length ≤ 256) (G : aC) (w : AI) (hL : HistH b keep noted cs ring G) (hst : St w (G.map (·.1)) G w) (x : Cll) :
  aB prog 124 [P_ b, .agg (cC x).toArray] w (G.map (·.1)) (fun v H => v = .tuple #[] ∧ HistH b keep noted (rN cs x) ring H) := by
 obtain ⟨v, GV, rfl, hV, hr⟩ := hL
 obtain ⟨a, c, rfl⟩ := hV.slice
 refine dO_ func124 hst ?_
 refine A_2 ?_
 refine RX (cM rfl rfl) rfl ?_
 rintro _ _ ⟨b3, rfl, rfl⟩
 refine A_2 ?_
 refine DR [5, 6] (pln [0, 2, 4, 6, 8, 10, 13, 15, 16, 18, 21]) ?_
 refine A_5 ?_
 refine cL rfl rfl rfl rfl y_bj rfl rfl ?_
 refine DX rfl (dX rfl rfl rfl rfl rfl rfl) rfl y_n ?_
 rintro _ _ ⟨b11, rfl, rfl⟩
 refine eX (H' := [(b11, blk (cC x) 197), (b3, blk (cC x) 197), (b, _)] ++ GV) (fun _ h => h) ?_
 refine DX rfl (jG (A := [(b11, blk (cC x) 197), (b3, blk (cC x) 197), (b, _)]) (G := GV) (n := cs.length) (m := 1) (T := 197) (s := 5) (by_ := 24) (ys := cC x) rfl rfl rfl rfl hV (fun w hw => .row _ _ _ _ _ rfl (aA (.head _) w hw)) rfl o_m o_m) rfl n_h ?_
 rintro v12 _ ⟨G12, hV12, hn12, rfl⟩
 refine eX (H' := (b, _) :: G12) (fun _ h => St.fl [G12, [_], [_], [_]] [3, 0] rfl h) ?_
 rw [← jI] at hV12
 have hl12 : cs.length + 1 = (cs ++ [x]).length := by simp
 rw [hl12] at hV12
 obtain ⟨bc, cc, sc, rfl, rfl, hz, hlc, hxc⟩ := hV12.full y_r
 refine A_2 ?_
 refine DZ rfl (dD 0 rfl rfl rfl rfl rfl rfl y_c8) rfl n_h ?_
 simp only [ai]
 rw [xM]
 refine A_7 ?_
 refine RY l_n rfl (RW (v := (.int .i64 (((cs ++ [x]).length : Int) - 256))) rfl rfl (cA_ _ (aL o_m o_m)) (A_7 ?_))
 refine KC (fun h1 h1n => ?_) (fun h1 h1n => ?_)
 ·refine A_6 ?_
  refine RW (v := (.int .i64 ((1 : Nat) : Int))) rfl rfl (cA_ _ (by rw [La_, ar] at *; (try simp only [decide_eq_true_eq, decide_eq_false_iff_not, beq_iff_eq, beq_eq_false_iff_ne, bne_iff_ne, bne_eq_false_iff_eq, ne_eq] at *); omega)) (bF (H' := [(bc, _)] ++ [(b, _)]) (fun _ h => St.fl [[_], [_]] [1, 0] rfl h) ?_)
  refine RX (eQ (A := [(bc, _)]) (G := [(b, _)]) [bc] K_ rfl y_r (fun w hw => vS bc cc 1 (cs ++ [x]) sc o_m hlc hz o_m y_r w (hw.holds _ (.head _)))) rfl ?_
  rintro _ _ ⟨_, ⟨rfl, sp9, hz9, rfl⟩, rfl⟩
  refine A_2 ?_
  refine RZ (dD 1 rfl rfl rfl rfl rfl rfl y_c8) rfl ?_
  try simp only [ai, ay]
  rw [xM]
  refine A_1 ?_
  exact eY (fun _ _ => eT) (fun _ h => St.fl [[_], [_]] [1, 0] rfl h) ⟨rfl, _, [_], rfl, by rw [aR1 o_m y_a]; exact Vec.all_ lS hz9 (by rw [Ld_]; omega) hxc, hr⟩
 refine A_1 ?_
 exact EN sR_ ⟨rfl, _, [_], rfl, by rw [aS4 y_a]; exact Vec.all_ lS hz hlc hxc, hr⟩
def aO0 (b keep noted : Nat) (cs : List Cll) (ring : List Rcd) (hcl : cs.length ≤ 256) (G : aC) (w : AI) (hL : HistH b keep noted cs ring G) (hst : St w (G.map (·.1)) G w) (s : Stp) (hs : StpOk s) :
  aB prog 125 [P_ b, .int .i64 s.bank, .agg (cD s).toArray, .int .u16 s.to] w (G.map (·.1)) (fun v H => v = .tuple #[] ∧ HistH b keep noted (iP cs s) ring H) := by
 obtain ⟨v, GV, rfl, hV, hr⟩ := hL
 obtain ⟨a, c, rfl⟩ := hV.slice
 refine dO_ func125 hst ?_
 refine A_2 ?_
 refine RX (cM rfl rfl) rfl ?_
 rintro _ _ ⟨b6, rfl, rfl⟩
 refine A_13 ?_
 refine RW (v := (.int .u16 (mV s))) rfl rfl (cA_ _ (aBT hs)) (RS ?_)
 refine RX (cG rfl) rfl ?_
 rintro _ _ ⟨b8, rfl, rfl⟩
 refine RZ s_t rfl (A_23 ?_)
 refine KC (fun h1 h1n => ?_) (fun h1 h1n => ?_)
 ·refine A_5 ?_
  refine RZ s_t rfl (A_6 ?_)
  refine KC (fun h2 h2n => ?_) (fun h2 h2n => ?_)
  ·refine A_2 ?_
   refine RZ (aK rfl rfl rfl y_h) rfl (bF (fun _ h => h.sub (.cons _ (.cons _ sR_))) ?_)
   refine RX (cB K_ rfl (fun w hw => aFR b keep noted cs ring hcl _ w ⟨_, _, rfl, hV, hr⟩ (St.lentA hw) ⟨1, s.bank, s.at_, s.to, mV s⟩)) rfl ?_
   rintro _ H9 ⟨rfl, hH9⟩
   refine A_2 ?_
   exact EN sR_ ⟨rfl, by rw [aRf y_a y_a]; exact hH9⟩
  refine A_2 ?_
  exact eY (fun _ _ => eT) (fun _ h => h.sub (.cons _ (.cons _ sR_))) ⟨rfl, by rw [aPW y_a y_a]; exact ⟨_, _, rfl, hV, hr⟩⟩
 refine A_7 ?_
 refine KC (fun h3 h3n => ?_) (fun h3 h3n => ?_)
 ·refine A_5 ?_
  refine RZ s_t rfl (A_3 ?_)
  refine RZ (aK rfl rfl rfl y_h) rfl (bF (fun _ h => h.sub (.cons _ (.cons _ sR_))) ?_)
  refine RX (cB K_ rfl (fun w hw => aFR b keep noted cs ring hcl _ w ⟨_, _, rfl, hV, hr⟩ (St.lentA hw) ⟨2, s.bank, s.at_, s.to, mV s⟩)) rfl ?_
  rintro _ H9 ⟨rfl, hH9⟩
  refine A_2 ?_
  exact EN sR_ ⟨rfl, by rw [aTg y_a]; exact hH9⟩
 refine A_7 ?_
 refine KC (fun h4 h4n => ?_) (fun h4 h4n => ?_)
 ·refine A_7 ?_
  refine KC (fun h5 h5n => ?_) (fun h5 h5n => ?_)
  ·refine A_1 ?_
   exact eY (fun _ _ => eT) (fun _ h => h.sub (.cons _ (.cons _ sR_))) ⟨rfl, by rw [aPY y_a y_c6]; exact ⟨_, _, rfl, hV, hr⟩⟩
  refine A_8 ?_
  refine RY l_n rfl (A_7 ?_)
  refine KC (fun h6 h6n => ?_) (fun h6 h6n => ?_)
  ·obtain ⟨bv, cv, sv, hv9, rfl, hzv, hlv, hxv⟩ := hV.full y_a
   cases hv9
   refine A_7 ?_
   refine RW (v := (.int .i64 ((cs.length - 1 : Nat) : Int))) rfl rfl (cA_ _ y_bH) (RW (v := (.slice (Q_ bv) cs.dropLast.length c)) (gQ (s := 5) 0 (cs.length - 1) rfl rfl rfl rfl rfl rfl o_m o_m) rfl y_dH (A_2 ?_))
   refine RZ (dD 2 rfl rfl rfl rfl rfl rfl y_c8) rfl ?_
   simp only [ai, ay]
   rw [xM]
   refine A_2 ?_
   exact eY (fun _ _ => eT) (fun _ h => h.sub (.cons _ (.cons _ sR_))) ⟨rfl, by rw [aHO y_a y_c6]; exact ⟨_, [_], rfl, aIf y_a hzv hlv hxv, hr⟩⟩
  refine A_2 ?_
  exact eY (fun _ _ => eT) (fun _ h => h.sub (.cons _ (.cons _ sR_))) ⟨rfl, by rw [aHO y_a y_c6, aFk y_a]; exact ⟨_, _, rfl, hV, hr⟩⟩
 refine A_6 ?_
 refine KC (fun h7 h7n => ?_) (fun h7 h7n => ?_)
 ·refine A_8 ?_
  refine RY l_n rfl (A_7 ?_)
  refine KC (fun h8 h8n => ?_) (fun h8 h8n => ?_)
  ·obtain ⟨bv, cv, sv, hv9, rfl, hzv, hlv, hxv⟩ := hV.full y_a
   cases hv9
   refine A_7 ?_
   refine RW (v := (.int .i64 ((cs.length - 1 : Nat) : Int))) rfl rfl (cA_ _ y_bH) (RW (v := (.slice (Q_ bv) cs.dropLast.length c)) (gQ (s := 5) 0 (cs.length - 1) rfl rfl rfl rfl rfl rfl o_m o_m) rfl y_dH (A_2 ?_))
   refine RZ (dD 2 rfl rfl rfl rfl rfl rfl y_c8) rfl ?_
   simp only [ai, ay]
   rw [xM]
   refine A_2 ?_
   exact eY (fun _ _ => eT) (fun _ h => h.sub (.cons _ (.cons _ sR_))) ⟨rfl, by rw [aKj y_a]; exact ⟨_, [_], rfl, aIf y_a hzv hlv hxv, hr⟩⟩
  refine A_2 ?_
  exact eY (fun _ _ => eT) (fun _ h => h.sub (.cons _ (.cons _ sR_))) ⟨rfl, by rw [aKj y_a, aFk y_a]; exact ⟨_, _, rfl, hV, hr⟩⟩
 refine A_2 ?_
 exact eY (fun _ _ => eT) (fun _ h => h.sub (.cons _ (.cons _ sR_))) ⟨rfl, by rw [aTj y_a y_a y_a y_a]; exact ⟨_, _, rfl, hV, hr⟩⟩
def note_fn (b keep noted : Nat) (cs : List Cll) (ring : List Rcd) (hk1 : 1 ≤ keep) (hk2 : keep ≤ 32) (hnt : noted < 1000000000) (hcl : cs.length ≤ 256) (G : aC) (w : AI) (hL : HistH b keep noted cs ring G) (hst : St w (G.map (·.1)) G w) (s : Stp) (hs : StpOk s) :
  aB prog 73 [P_ b, .int .u64 s.n, .int .i64 s.bank, .agg (cD s).toArray, .int .u16 s.to] w (G.map (·.1)) (fun v H => v = .tuple #[] ∧ HistH b keep (noted + 1) (oG cs s) (ring.set (noted % keep) (recOf s)) H) := by
 obtain ⟨v, GV, rfl, hV, hr⟩ := hL
 obtain ⟨a, c, rfl⟩ := hV.slice
 have hm32 : noted % keep < 32 := dq (gz _ o_m) hk2
 have hr2 : (ring.set (noted % keep) (recOf s)).length = 32 := by rw [ca]; exact hr
 refine dO_ func73 hst ?_
 refine A_2 ?_
 refine RX (cM rfl rfl) rfl ?_
 rintro _ _ ⟨b8, rfl, rfl⟩
 refine A_10 ?_
 refine DR [5, 6, 7, 8, 10, 11, 12, 13, 14, 15, 16, 17, 18, 19, 20] (pln [0, 2, 4, 6, 8, 10, 12, 14, 16, 18, 20, 22, 24, 26, 28, 30, 32, 34, 36, 38, 40, 42, 45]) ?_
 refine A_4 ?_
 refine DL rfl rfl rfl (cJ m_m (aBY hr)) rfl (A_3 ?_)
 refine DL rfl rfl rfl (cJ m_m (aHE hr)) rfl (DW (v := (.int .i64 ((noted % keep : Nat) : Int))) rfl (jX rfl rfl o_m) rfl (cA_ _ aDp) (A_7 ?_))
 refine cL rfl rfl rfl rfl y_bj rfl rfl ?_
 refine DY rfl (eL rfl rfl rfl rfl) rfl (A_2 ?_)
 refine DY rfl (bZ (s := 9) (noted % keep) rfl rfl rfl rfl hm32) rfl (DZ rfl (dD (vs := cR (recOf s)) 1 rfl rfl rfl rfl rfl rfl (by rw [hC_len hr, qS]; omega)) rfl n_h ?_)
 simp only [ai, ay]
 rw [show 0 + 1 + noted % keep * 9 = 1 + noted % keep * 9 by omega, aRE hr hm32]
 refine A_6 ?_
 refine RZ (aE rfl rfl (aJ m_m (aBY hr2))) rfl (RW (v := (.int .i64 ((noted + 1 : Nat) : Int))) rfl rfl (cA_ _ (bC o_m)) (A_2 ?_))
 refine RZ (dD 1 rfl rfl rfl rfl rfl rfl (by rw [hC_len hr2]; simp)) rfl ?_
 simp only [ai, ay]
 rw [show 0 + 290 = 290 from rfl, aRC hr2]
 refine A_12 ?_
 refine KC (fun h1 h1n => ?_) (fun h1 h1n => ?_)
 ·refine A_8 ?_
  refine RS ?_
  refine bF (fun _ h => h.sub (.cons _ sR_)) ?_
  refine RX (cB K_ rfl (fun w hw => aFR b keep (noted + 1) cs (ring.set (noted % keep) (recOf s)) hcl _ w ⟨_, _, rfl, hV, hr2⟩ (St.lentA hw) ⟨3, s.bank, s.at_, s.to, s.at_⟩)) rfl ?_
  rintro _ H9 ⟨rfl, hH9⟩
  refine A_1 ?_
  exact EN sR_ ⟨rfl, by rw [aRk y_a]; exact hH9⟩
 refine A_5 ?_
 refine KC (fun h2 h2n => ?_) (fun h2 h2n => ?_)
 ·refine A_3 ?_
  refine RZ (aK rfl rfl rfl (by first | exact aA m_m | exact hU m_m _ 9 rfl)) rfl (A_1 ?_)
  refine bF (fun _ h => h.sub (.cons _ sR_)) ?_
  refine RX (cB K_ rfl (fun w hw => aO0 b keep (noted + 1) cs (ring.set (noted % keep) (recOf s)) hcl _ w ⟨_, _, rfl, hV, hr2⟩ (St.lentA hw) s hs)) rfl ?_
  rintro _ H9 ⟨rfl, hH9⟩
  refine A_1 ?_
  exact EN sR_ ⟨rfl, by rw [aRJ y_a]; exact hH9⟩
 refine A_1 ?_
 exact eY (fun _ _ => eT) (fun _ h => h.sub (.cons _ sR_)) ⟨rfl, by rw [aRG y_a y_a]; exact ⟨_, _, rfl, hV, hr2⟩⟩
def nG (a : AC) (c : Nat) (cs : List Cll) (hlen : cs.length < 1000000000) (w : AI) (hS : SlW w cC a cs) :
  aB prog 105 [.slice a cs.length c] w [] (fun v H => Vec 197 5 v cs.length (aF cC cs) H) := by
 refine dR_ func105 ?_
 refine A_6 ?_
 rcases hS with ⟨rfl, rfl⟩ | ⟨bs, os, rfl, hr⟩
 ·refine A_10 ?_
  exact E0 rfl .nil
 refine A_8 ?_
 refine RX (aAC (el := 197) (n := 5) rfl) rfl ?_
 rintro _ _ ⟨b5, rfl, rfl⟩
 refine A_1 ?_
 refine RX (jG (A := []) (G := [(b5, blk [] 197)]) (v := .slice (Q_ b5) 0 0) (n := 0) (xs := []) (m := cs.length) (T := 197) (s := 5) (by_ := 24) (ys := aF cC cs) rfl rfl rfl rfl (.row b5 0 0 [] [] rfl rfl y_b (av 0)) (fun w hw => .row _ _ _ _ _ (bM lS cs) (aN hr y_r w hw)) (uB aKY _) o_m o_m) rfl ?_
 rintro v7 _ ⟨G7, hV7, hnil7, rfl⟩
 refine wA (v := v7) rfl rfl rfl ?_
 refine A_2 ?_
 exact fM (fun _ _ => zB rfl) (cn _ _) (hV7.as (bi _) (ci _))
def copy_fn (b keep noted : Nat) (cs : List Cll) (ring : List Rcd) (hcl : cs.length < 1000000000) (w : AI) (hW : HistW w b keep noted cs ring) :
  aB prog 56 [P_ b] w [] (fun v H => ∃ b2, v = P_ b2 ∧ HistH b2 keep noted cs ring H) := by
 obtain ⟨⟨a, c, q0, qc, qz, hS, hA⟩, q1, q2, q3, q4⟩ := hW
 refine dR_ func56 ?_
 refine A_16 ?_
 refine RZ (aK rfl rfl (by rw [hC_len q3]; rfl) (aN hA y_r)) rfl (RX (cG (l := hC (.slice none 0 0) (List.replicate 32 r0) 0 0) y_f) rfl ?_)
 rintro _ _ ⟨b3, rfl, rfl⟩
 refine RZ (dD (vs := hC (.slice a cs.length c) ring keep noted) 0 rfl rfl rfl (by rw [hC_len q3]; rfl) aPK rfl (by rw [hC_len q3, hC_len y_r]; decide)) rfl ?_
 simp only [ai]
 rw [oQ (l := hC (.slice none 0 0) (List.replicate 32 r0) 0 0) (vs := hC (.slice a cs.length c) ring keep noted) (by rw [hC_len q3, hC_len y_r])]
 refine A_6 ?_
 refine RZ (aE rfl rfl (aV q0 y_r)) rfl (RX (bI K_ rfl (fun w hw => nG a c cs hcl w (hS.later0 hw))) rfl ?_)
 rintro v13 _ ⟨G13, hV13, rfl⟩
 obtain ⟨a13, c13, rfl⟩ := hV13.slice
 refine A_1 ?_
 refine bF (H' := (b3, _) :: G13) (fun _ h => St.fl [G13, [_]] [1, 0] rfl h) ?_
 refine RZ (dD 0 rfl rfl rfl rfl rfl rfl (by rw [hC_len q3]; simp)) rfl ?_
 simp only [ai]
 rw [xM]
 refine A_6 ?_
 exact EV rfl sR_ ⟨b3, rfl, _, _, rfl, hV13, q3⟩
end Go.Proofs.YtacejanlmhbddaaGreat.Hs
namespace Go.Proofs.YtacejanlmhbddaaGreat
open Go Go.VV Go.Proofs Go.RowKit Go.Proofs.Tryz
def cSt (at_ y i : Int) (wr : Bool) : AA := [.int .u64 at_, .int .i64 y, .int .i64 i, .bool wr]
def cDz (n : Int) (tab : AH) : AA := [.int .i64 n, .pointer none, .pointer none, .int .u64 0, .slice none 0 0, .pointer none, .map none, .slice none 0 0, .slice none 0 0, .int .u32 0, .int .u64 0, tab]
def aQZ (b o : Nat) (cs : AA) (T : AJ) (x s : Int) (hc : cs[o]? = some (.int .u64 x)) (hs : IntKind.u64.wrap (x + 1) = s) (w : AI) (hst : St w [b] [(b, blk cs T)] w) : aB prog 93 [.pointer (some ⟨b, o, none⟩), .int .u64 1] w [b] (fun v H => v = .int .u64 s ∧ H = [(b, blk (cs.set o (.int .u64 s)) T)]) := by
 refine dO_ func93 hst ?_
 refine A_10 ?_
 refine RZ (aTk (b := b) (off := o) (cs := cs) (T := T) 0 .u64 (x := x) (s := s) func142 y_f y_f y_f y_f rfl rfl hc (by rw [← hs]; rfl)) rfl (ZA1 ?_)
 exact EV rfl sR_ ⟨rfl, rfl⟩
def ready_fn (b mb : Nat) (w : AI) (h1 : w.cell? ⟨b, 1, none⟩ = some (P_ mb)) : aB prog 47 [P_ b] w [] (V_ (.bool true)) := by
 refine dR_ func47 ?_
 refine ZDH ?_
 refine ZAQ ?_
 refine ZBr ?_
 refine RZ (aE rfl rfl (aV h1 y_r)) rfl (ZAQ ?_)
 exact ZAi
def rI (b : Nat) (k y : Int) (w : AI) (h3 : w.cell? ⟨b, 3, none⟩ = some (.int .u64 k)) : aB prog 49 [P_ b, .int .i64 y] w [] (V_ (.tuple #[.agg (cSt k y 0 false).toArray, .int .i64 0])) := by
 refine dR_ func49 ?_
 refine ZDX fun b0 => ?_
 refine ZDH ?_
 refine RZ (aE rfl rfl (aV h3 y_r)) rfl (ZBL ?_)
 refine RS ?_
 refine RZ (xS_ 0) rfl (ZA1 ?_)
 exact aG (fun w hw => aY rfl rfl rfl (aA (b := b0) (l := cSt k y 0 false) m_m w hw) rfl) ⟨rfl, rfl⟩
def mach_fn (b : Nat) (mb : Nat) (w : AI) (h1 : w.cell? ⟨b, 1, none⟩ = some (P_ mb)) : aB prog 21 [P_ b] w [] (V_ (P_ mb)) := by
 refine dR_ func21 ?_
 refine ZCZ ?_
 refine ZEf ?_
 exact RZ (aE rfl rfl (aV h1 y_r)) rfl ZAR
def xG (n : Int) (w : AI) : aB prog 11 [.int .i64 n] w [] (fun v H => ∃ b tb oT, v = P_ b ∧ iW tb (.int .u32 0) [(tb, oT)] ∧ H = [(b, blk (cDz n (P_ tb)) 108), (tb, oT)]) := by
 refine dR_ func11 ?_
 refine ZDH ?_
 refine RX (bI K_ rfl (wQ_ aDo)) rfl ?_
 rintro _ _ ⟨GT, ⟨tb, rfl, hT⟩, rfl⟩
 obtain ⟨oT, rfl⟩ := hT.one
 refine RS ?_
 refine RX (cM (l := cDz n (P_ tb)) rfl rfl) rfl (ZAq fun b0 => ?_)
 refine ZA1 ?_
 exact EV rfl sR_ ⟨b0, tb, oT, rfl, hT, rfl⟩
def aQ6 (x : Int) (w : AI) : aB prog 179 [.int .u64 x] w [] (V_ (.bool false)) := by
 refine dR_ func179 ?_
 refine ZEf ?_
 refine ZAz ?_
 exact ZAR
def aQH (x : Int) (w : AI) : aB prog 141 [.int .u64 x] w [] (V_ (.bool false)) := by
 refine dR_ func141 ?_
 refine ZEf ?_
 refine ZAz ?_
 exact ZAR
def aQY (x y : Int) (w : AI) : aB prog 140 [.int .u64 x, .int .u64 y] w [] (V_ (.bool (decide (x < y)))) := by
 refine dR_ func140 ?_
 refine ZDH ?_
 refine RLv K_ (wQ_ (aQ6 _)) ?_
 refine A_13 ?_
 exact E0 rfl ⟨rfl, rfl⟩
def aIO (a : AC) (c : Nat) (l : AB) (hs : l.Pairwise (· < ·)) (hl : l.length ≤ 1000000) (x : Int) (w : AI) (hN : Ns w .u64 a l) : aB prog 92 [.slice a l.length c, .int .u64 x] w [] (fun v H => ∃ (i : Nat) (f : Bool), v = .tuple #[.int .i64 i, .bool f] ∧ H = [] ∧ (f = false → x ∉ l)) := by
 refine dR_ func92 ?_
 refine ZEf ?_
 refine ZBE ?_
 refine A_10 ?_
 refine bD (σ := Nat × Nat) [7, 8, 9, 13, 14, 15, 16, 17, 18, 19, 20, 21, 22, 23, 24, 25, 26, 27, 28, 29, 30] (fun s => [(7, .int .i64 s.1), (8, .int .i64 s.2)]) (fun _ => []) (fun s => s.1 ≤ s.2 ∧ s.2 ≤ l.length ∧ (∀ p, p < s.1 → l.getD p 0 < x) ∧ (∀ p, s.2 ≤ p → p < l.length → x ≤ l.getD p 0)) (fun s => s.2 - s.1) (0, l.length) ?_ ?_ ?_ ?_
 ·exact ⟨al _, av _, fun p hp => y_y, fun p h1 h2 => y_y⟩
 ·exact .cons rfl (.cons rfl .nil)
 ·exact fun _ h => h
 rintro ⟨i, j⟩ y3 ⟨hi, hj, q0, q1⟩
 dsimp only at hi hj q0 q1 ⊢
 refine ZDH ?_
 refine KC (fun q2 z2 => ?_) (fun q2 z2 => ?_)
 ·refine ZBn ?_
  refine ZAa ?_
  refine ZEO ?_
  refine ZDh ?_
  refine RW (v := (.int .i64 ((((i + j) / 2) : Nat) : Int))) rfl rfl (cA_ _ ((aL o_m o_m).trans o_m)) (ZA1 ?_)
  obtain ⟨b, o, rfl, hr⟩ := hN.row (i := ((i + j) / 2)) o_m
  refine ZA1 ?_
  refine RY (aP ((i + j) / 2) rfl rfl rfl rfl o_m) rfl (RZ (aE rfl rfl (aV (hr _ _ (cX (l := l) (j := ((i + j) / 2)) o_m)) y_r)) rfl (ZBL ?_))
  refine RLv K_ (wQ_ (aQY _ x)) ?_
  refine ZBL ?_
  refine KC (fun q3 z3 => ?_) (fun q3 z3 => ?_)
  ·refine ZAl ?_
   refine ZAa ?_
   refine ZAl ?_
   exact ⟨(((i + j) / 2) + 1, j), ⟨by show ((i + j) / 2) + 1 ≤ j; omega, hj, aTX hs (h := ((i + j) / 2)) o_m (ct q3) rfl, q1⟩, by show j - (((i + j) / 2) + 1) < j - i; omega, .cons (by first | rfl | exact cA_ _ (bC o_m)) (.cons rfl .nil), a_g, fun _ h => h⟩
  refine ZBr ?_
  exact ⟨(i, ((i + j) / 2)), ⟨by show i ≤ ((i + j) / 2); omega, by show ((i + j) / 2) ≤ l.length; omega, q0, fun p hp hq => by
   have hp : (i + j) / 2 ≤ p := hp
   have q4 := c7 q3
   rcases Nat.eq_or_lt_of_le hp with rfl | hp
   ·omega
   have q5 := (List.pairwise_iff_getElem.1 hs) ((i + j) / 2) p o_m hq hp
   have e1 : l.getD p 0 = l[p] := by simp [hq]
   have e2 : l.getD ((i + j) / 2) 0 = l[((i + j) / 2)] := by simp [show ((i + j) / 2) < l.length by omega]
   omega⟩, by show ((i + j) / 2) - i < j - i; omega, .cons rfl (.cons rfl .nil), a_g, fun _ h => h⟩
 refine ZAl ?_
 obtain rfl : i = j := by omega
 refine ZBb ?_
 refine KL (fun q3 z3 => ?_) (fun q3 z3 => ?_)
 ·obtain ⟨b, o, rfl, hr⟩ := hN.row (i := i) o_m
  refine ZAl ?_
  refine ZBX ?_
  refine RZ (aE rfl rfl (aV (hr _ _ (cX (l := l) (j := i) o_m)) y_r)) rfl (ZAl ?_)
  refine KL (fun q4 z4 => ?_) (fun q4 z4 => ?_)
  ·refine A_15 ?_
   exact aG (fun _ _ => bX rfl rfl) ⟨_, _, rfl, rfl, fun h => y_eO⟩
  refine ZAl ?_
  refine ZBX ?_
  refine RZ (aE rfl rfl (aV (hr _ _ (cX (l := l) (j := i) o_m)) y_r)) rfl (RLv K_ (wQ_ (aQH _)) ?_)
  refine A_10 ?_
  exact aG (fun _ _ => bX rfl rfl) ⟨_, _, rfl, rfl, fun _ => aHX hs q0 (fun hi => ⟨by simpa using q4, q1 i (av _) hi⟩)⟩
 refine A_22 ?_
 exact aG (fun _ _ => bX rfl rfl) ⟨_, _, rfl, rfl, fun _ => aHX hs q0 (fun hi => absurd hi o_m)⟩
def aHs (a1 a2 : AC) (c1 c2 : Nat) (a b : AB) (hl : b.length ≤ 1000000) (hab : a.length = b.length) (w : AI) (hA : Ns w .u8 a1 a) (hB : Ns w .u8 a2 b) : aB prog 134 [.slice a1 a.length c1, .slice a2 b.length c2] w [] (V_ (.int .i64 (aS a b))) := by
 refine dR_ func134 ?_
 refine A_10 ?_
 refine bD (σ := Nat) [5, 6, 7, 8, 9, 10, 11, 12, 13, 14, 15, 16, 17, 18, 19, 20, 21, 22] (fun i => [(5, .int .i64 i)]) (fun _ => []) (fun i => i ≤ aS a b) (fun i => aS a b - i) 0 ?_ ?_ ?_ ?_
 ·exact al _
 ·exact .cons rfl .nil
 ·exact fun _ h => h
 rintro i y2 hi
 have hle := pD a b
 refine ZAl ?_
 have hx9 : i < b.length → ∃ b1 o1 b2 o2, a1 = some ⟨b1, o1, none⟩ ∧ a2 = some ⟨b2, o2, none⟩ ∧ Row w b1 o1 (a.map U_) ∧ Row w b2 o2 (b.map U_) := fun h => by
  obtain ⟨b0, o1, e1, r1⟩ := hA.row (i := i) o_m
  obtain ⟨b1, o2, e2, r2⟩ := hB.row (i := i) h
  exact ⟨b0, o1, b1, o2, e1, e2, r1, r2⟩
 refine DR [9, 10, 11, 12] (pln [0, 2, 4, 6, 8, 10, 12, 14, 16, 18, 20, 22, 24, 26, 28]) ?_
 refine ZAl ?_
 refine DY rfl l_n rfl (ZBL ?_)
 refine KE (fun q0 z0 => ?_) (fun q0 z0 => ?_)
 ·obtain ⟨b0, o1, b1, o2, rfl, rfl, hra, hrb⟩ := hx9 o_m
  refine ZAl ?_
  refine DY rfl (aP (n := a.length) i rfl rfl rfl rfl o_m) rfl (DL rfl rfl rfl (eB (hra _ _ (cX (l := a) (j := i) o_m)) y_r) rfl (ZAl ?_))
  refine DY rfl (aP (n := b.length) i rfl rfl rfl rfl o_m) rfl (DL rfl rfl rfl (eB (hrb _ _ (cX (l := b) (j := i) o_m)) y_r) rfl (ZA1 ?_))
  refine KC (fun q1 z1 => ?_) (fun q1 z1 => ?_)
  ·refine ZBr ?_
   refine ZAD ?_
   have hm9 := aCk hi o_m o_m y_bc
   exact ⟨i + 1, y_y, y_y, .cons rfl .nil, a_g, fun _ h => h⟩
  refine ZDH ?_
  exact E0 rfl ⟨rfl, (cA_ (fun n : Nat => Value.int .i64 (n : Int)) (aDb hi o_m o_m y_bc))⟩
 refine A_19 ?_
 exact E0 rfl ⟨rfl, (cA_ (fun n : Nat => Value.int .i64 (n : Int)) o_m)⟩
def aLC (n0 : Nat) (hn : n0 ≤ 1000000) (xs0 : AB) (a0 : AC) (c0 : Nat) (G0 : aC) (hl : xs0.length ≤ 10000000) (hV0 : Vec 5 1 (.slice a0 xs0.length c0) xs0.length (xs0.map (.int .u8)) G0) (w : AI) (hst : St w (G0.map (·.1)) G0 w) : aB prog 135 [.slice a0 xs0.length c0, .int .i64 n0] w (G0.map (·.1)) (fun v H => ∃ a c, v = .slice a (xs0 ++ putP n0).length c ∧ Vec 5 1 v (xs0 ++ putP n0).length ((xs0 ++ putP n0).map (.int .u8)) H) := by
 refine dO_ func135 hst ?_
 refine ZBn ?_
 refine bD (σ := Nat × AB × AC × Nat × aC) [0, 1, 5, 6, 7, 8, 9, 10, 11, 12, 13, 14] (fun s => [(0, .slice s.2.2.1 s.2.1.length s.2.2.2.1), (1, .int .i64 s.1)]) (fun s => s.2.2.2.2) (fun s => Vec 5 1 (.slice s.2.2.1 s.2.1.length s.2.2.2.1) s.2.1.length (s.2.1.map (.int .u8)) s.2.2.2.2 ∧ s.2.1 ++ putP s.1 = xs0 ++ putP n0 ∧ s.1 ≤ n0) (fun s => s.1) (n0, xs0, a0, c0, G0) ?_ ?_ ?_ ?_
 ·exact ⟨hV0, rfl, av _⟩
 ·exact .cons rfl (.cons rfl .nil)
 ·exact fun _ h => h
 rintro ⟨n, xs, a, c, G⟩ y1 ⟨hV, he, hn9⟩
 dsimp only at hV he hn9 ⊢
 have hpl := cA_ List.length he
 rw [La_, La_] at hpl
 have hp0 := (kH n0).2
 refine ZBn ?_
 refine KC (fun q0 z0 => ?_) (fun q0 z0 => ?_)
 ·refine ZBn ?_
  refine RW (v := (.int .u8 ((n : Int) % 256))) rfl rfl (aCJ _) (RW (v := (.int .u8 ((n % 128 + 128 : Nat) : Int))) (cT rfl rfl) rfl (cA_ _ ((aSg o_m).trans o_m)) (RX (dX (z := [.int .u8 0]) (l := [.int .u8 ((n % 128 + 128 : Nat) : Int)]) (ps := [(0, .int .u8 ((n % 128 + 128 : Nat) : Int))]) rfl rfl rfl rfl rfl rfl) rfl (ZAq fun b0 => ?_)))
  refine RX (jG (A := [(b0, _)]) (G := G) (v := .slice a xs.length c) (n := xs.length) (xs := xs.map (.int .u8)) (m := 1) (T := 5) (s := 1) (by_ := 1) (ys := [.int .u8 ((n % 128 + 128 : Nat) : Int)]) rfl rfl rfl rfl hV (fun w hw => .row _ _ _ _ _ rfl (aA (b := b0) (.head _) w hw)) rfl o_m o_m) rfl ?_
  rintro v0 _ ⟨Gx0, hW12, _, rfl⟩
  have hX12 : Vec 5 1 v0 (xs ++ [((n % 128 + 128 : Nat) : Int)]).length ((xs ++ [((n % 128 + 128 : Nat) : Int)]).map (.int .u8)) Gx0 := hW12.as (by rw [La_]; rfl) (by rw [be]; rfl)
  obtain ⟨a12, cx0, rfl⟩ := hX12.slice
  refine ZBr ?_
  refine RW (v := (.int .i64 ((n / 128 : Nat) : Int))) (dU rfl rfl y_b) rfl ((iY 128 y_b y_b).trans (cA_ _ o_m)) (ZAl ?_)
  exact ⟨(n / 128, xs ++ [((n % 128 + 128 : Nat) : Int)], a12, cx0, Gx0), ⟨hX12, by rw [As_, ← he, vV (n := n) o_m]; rfl, by show n / 128 ≤ n0; omega⟩, by show n / 128 < n; omega, .cons rfl (.cons rfl .nil), a_g, fun _ h => h.sub (cn _ _)⟩
 refine ZAl ?_
 have hlt : n < 128 := by omega
 refine ZA1 ?_
 refine RW (v := (.int .u8 (n : Int))) rfl rfl (aEY o_m o_m) (RX (dX (z := [.int .u8 0]) (l := [.int .u8 (n : Int)]) (ps := [(0, .int .u8 (n : Int))]) rfl rfl rfl rfl rfl rfl) rfl (ZAq fun b0 => ?_))
 refine RX (jG (A := [(b0, _)]) (G := G) (v := .slice a xs.length c) (n := xs.length) (xs := xs.map (.int .u8)) (m := 1) (T := 5) (s := 1) (by_ := 1) (ys := [.int .u8 (n : Int)]) rfl rfl rfl rfl hV (fun w hw => .row _ _ _ _ _ rfl (aA (b := b0) (.head _) w hw)) rfl o_m o_m) rfl ?_
 rintro v0 _ ⟨Gx0, hW19, _, rfl⟩
 have e9 : xs ++ [(n : Int)] = xs0 ++ putP n0 := by rw [← aB7 hlt]; exact he
 have hX19 : Vec 5 1 v0 (xs0 ++ putP n0).length ((xs0 ++ putP n0).map (.int .u8)) Gx0 := hW19.as (by rw [← e9, La_]; rfl) (by rw [← e9, be]; rfl)
 obtain ⟨a19, cx0, rfl⟩ := hX19.slice
 refine ZA1 ?_
 exact EV rfl (cn _ _) ⟨a19, cx0, rfl, hX19⟩
def aN0 (a1 a2 : AC) (c1 c2 : Nat) (a b : AB) (hl : b.length ≤ 1000000) (hab : a.length = b.length) (hc1 : a.length ≤ c1) (hc2 : b.length ≤ c2) (w : AI) (hA : Ns w .u8 a1 a) (hB : Ns w .u8 a2 b) : aB prog 136 [.slice a1 a.length c1, .slice a2 b.length c2] w [] (V_ (.int .i64 (oth a b))) := by
 refine dR_ func136 ?_
 refine A_10 ?_
 refine bD (σ := Nat) [5, 6, 7, 8, 9, 10, 11, 12, 13, 14, 15, 16, 17, 18, 19, 20, 21, 22, 23, 24, 25, 26, 27, 28, 29, 30, 31] (fun k => [(5, .int .i64 k)]) (fun _ => []) (fun k => k ≤ b.length ∧ k + oth (a.drop k) (b.drop k) = oth a b) (fun k => b.length - k) 0 ?_ ?_ ?_ ?_
 ·exact ⟨al _, bi _⟩
 ·exact .cons rfl .nil
 ·exact fun _ h => h
 rintro k y2 ⟨hk, he⟩
 refine ZBb ?_
 refine ZBE ?_
 refine ZAl ?_
 refine KC (fun q0 z0 => ?_) (fun q0 z0 => ?_)
 ·refine ZA1 ?_
  obtain ⟨b0, o1, rfl, hra⟩ := hA.row (i := k) o_m
  obtain ⟨b1, o2, rfl, hrb⟩ := hB.row (i := k) o_m
  have hda : (a.drop k).length = a.length - k := Ld_
  have hdb : (b.drop k).length = b.length - k := Ld_
  have hln := pD (a.drop k) (b.drop k)
  have hne : (b.drop k) ≠ [] := fun h => by rw [h] at hdb; simp only [au] at hdb; omega
  refine DR [] (pln [0, 2, 4, 6, 8, 10, 13, 14]) ?_
  refine ZAl ?_
  refine DW (v := (.slice (some ⟨b0, o1 + k, none⟩) (a.drop k).length (c1 - k))) rfl (dT k a.length rfl rfl rfl rfl rfl rfl o_m o_m) rfl (by rw [jK o_m, hda]) (ZAl ?_)
  refine DW (v := (.slice (some ⟨b1, o2 + k, none⟩) (b.drop k).length (c2 - k))) rfl (dT k b.length rfl rfl rfl rfl rfl rfl o_m o_m) rfl (by rw [jK o_m, hdb]) (DZ rfl (bJ K_ rfl (fun w hw => aHs (some ⟨b0, o1 + k, none⟩) (some ⟨b1, o2 + k, none⟩) (c1 - k) (c2 - k) (a.drop k) (b.drop k) o_m o_m w (Ns.of (Row.dropK (aN hra y_r w hw) k)) (Ns.of (Row.dropK (aN hrb y_r w hw) k)))) rfl n_h (ZDH ?_))
  refine KL (fun q1 z1 => ?_) (fun q1 z1 => ?_)
  ·refine A_16 ?_
   exact ZEB
  refine ZAl ?_
  refine RW (v := (.int .i64 ((k + aS (a.drop k) (b.drop k) : Nat) : Int))) rfl rfl (cA_ _ ((aL o_m o_m).trans o_m)) (ZBL ?_)
  refine ZC1 ?_
  refine KC (fun q2 z2 => ?_) (fun q2 z2 => ?_)
  ·refine ZDH ?_
   exact ZEB
  refine ZBr ?_
  refine RW (v := (.int .i64 ((aS (a.drop k) (b.drop k) + 1 : Nat) : Int))) rfl rfl (cA_ _ (bC o_m)) (RW (v := (.int .i64 ((k + (aS (a.drop k) (b.drop k) + 1) : Nat) : Int))) rfl rfl (cA_ _ ((aL o_m o_m).trans o_m)) (ZAl ?_))
  have hns : ¬ (4 ≤ aS (a.drop k) (b.drop k) ∨ aS (a.drop k) (b.drop k) = (b.drop k).length) := by omega
  have hm9 := aGg hne hns
  rw [ax, ax] at hm9
  exact ⟨k + (aS (a.drop k) (b.drop k) + 1), ⟨y_y, y_y⟩, y_y, .cons rfl .nil, a_g, fun _ h => h⟩
 refine ZDH ?_
 have hz : oth (a.drop k) (b.drop k) = 0 := by rw [show (b.drop k) = [] from ga o_m]; exact aQB _
 exact E0 rfl ⟨rfl, (cA_ (fun n : Nat => Value.int .i64 (n : Int)) o_m)⟩
def pE {k : AM} {w : AI} {b off : Nat} {l : AB} (h : Row w b off (l.map (.int k))) {n c : Nat} (hc : l.length ≤ c) (hn : n ≤ l.length) : Row w b (cut1 off n c) ((l.drop n).map (.int k)) := by
 have q0 := h.cut1 (l := n) (k := l.length - n) (c := c) o_m
 rw [← go, c8 (by rw [Lm_, Ld_]; exact av _)] at q0
 exact q0
def aH8 (b1 o1 c1 b2 o2 c2 : Nat) (a b : AB) (hl : b.length ≤ 1000000) (hab : a.length = b.length) (hc1 : a.length ≤ c1) (hc2 : b.length ≤ c2) (w : AI) (hr1 : Row w b1 o1 (a.map (.int .u8))) (hr2 : Row w b2 o2 (b.map (.int .u8))) : aB prog 90 [.slice (some ⟨b1, o1, none⟩) a.length c1, .slice (some ⟨b2, o2, none⟩) b.length c2] w [] (fun v H => ∃ a6 c6, v = .tuple #[.slice a6 (cZ a b).length c6, .int .i64 0] ∧ Vec 5 1 (.slice a6 (cZ a b).length c6) (cZ a b).length ((cZ a b).map (.int .u8)) H) := by
 refine dR_ func90 ?_
 refine ZBb ?_
 refine aRv (σ := Nat × AB × AC × Nat × aC × Nat × Nat × Nat × Nat) 0 [0, 1, 4, 5, 6, 7, 8, 9, 10, 11, 12, 13, 14, 15, 16, 17, 18, 19, 20, 21, 22, 23, 24, 25, 26, 27, 28, 29, 30, 31, 32, 33, 34, 35, 36, 37, 38, 39, 40, 41, 42, 43, 44, 45] (fun s => [(0, .slice (some ⟨b1, s.2.2.2.2.2.1, none⟩) (a.drop s.1).length s.2.2.2.2.2.2.1), (1, .slice (some ⟨b2, s.2.2.2.2.2.2.2.1, none⟩) (b.drop s.1).length s.2.2.2.2.2.2.2.2), (6, .slice s.2.2.1 s.2.1.length s.2.2.2.1)]) (fun s => s.2.2.2.2.1) (fun s => s.1 ≤ b.length ∧ Vec 5 1 (.slice s.2.2.1 s.2.1.length s.2.2.2.1) s.2.1.length (s.2.1.map (.int .u8)) s.2.2.2.2.1 ∧ s.2.1 ++ cZ (a.drop s.1) (b.drop s.1) = cZ a b ∧ Row w b1 s.2.2.2.2.2.1 ((a.drop s.1).map (.int .u8)) ∧ (a.drop s.1).length ≤ s.2.2.2.2.2.2.1 ∧ Row w b2 s.2.2.2.2.2.2.2.1 ((b.drop s.1).map (.int .u8)) ∧ (b.drop s.1).length ≤ s.2.2.2.2.2.2.2.2) (fun s => b.length - s.1) rfl (fun _ => rfl) (fun hp => ?_) ?_
 ·refine ZBr ?_
  refine ZBE ?_
  refine ZBL ?_
  refine ZBE ?_
  refine cY false rfl rfl rfl y_be ?_
  refine ZEf ?_
  refine aRQ ?_
  exact hp (0, [], none, 0, [], o1, c1, o2, c2) _ _ ⟨al _, .nil, rfl, hr1, hc1, hr2, hc2⟩ (.cons rfl (.cons rfl (.cons rfl .nil))) a_g (fun _ h => h)
 rintro ⟨j, xs, a6, c6, G, p1, q0, p2, q1⟩ y4 ⟨hj, hV, he, hr0, hq1, hrx1, hq2⟩
 dsimp only at hj hV he hr0 hq1 hrx1 hq2 ⊢
 obtain ⟨n9, hn9⟩ : ∃ n, n = aS (a.drop j) (b.drop j) := ⟨_, rfl⟩
 obtain ⟨k9, hk9⟩ : ∃ k, k = oth (a.drop (j + n9)) (b.drop (j + n9)) := ⟨_, rfl⟩
 have hpk := zU a b
 have hxl := cA_ List.length he
 rw [La_] at hxl
 have hda : (a.drop j).length = a.length - j := Ld_
 have hdb : (b.drop j).length = b.length - j := Ld_
 have hln := pD (a.drop j) (b.drop j)
 rw [← hn9] at hln
 have hdn : (a.drop (j + n9)).length = a.length - (j + n9) := Ld_
 have hdm : (b.drop (j + n9)).length = b.length - (j + n9) := Ld_
 have hr5 : Row w b1 (cut1 p1 n9 q0) ((a.drop (j + n9)).map (.int .u8)) := by have h9 := pE hr0 (n := n9) (c := q0) o_m o_m; rw [ax] at h9; exact h9
 have hr6 : Row w b2 (cut1 p2 n9 q1) ((b.drop (j + n9)).map (.int .u8)) := by have h9 := pE hrx1 (n := n9) (c := q1) o_m o_m; rw [ax] at h9; exact h9
 have hpn := (kH n9).2
 have hko := aCq (a.drop (j + n9)) (b.drop (j + n9))
 rw [← hk9] at hko
 have hdk : (a.drop (j + n9 + k9)).length = a.length - (j + n9 + k9) := Ld_
 have hdl : (b.drop (j + n9 + k9)).length = b.length - (j + n9 + k9) := Ld_
 have hpo := (kH k9).2
 refine ZBr ?_
 refine RX (bJ K_ rfl (fun w hw => aHs (some ⟨b1, p1, none⟩) (some ⟨b2, p2, none⟩) q0 q1 (a.drop j) (b.drop j) o_m o_m w (Ns.of (aN hr0 y_r w hw)) (Ns.of (aN hrx1 y_r w hw)))) rfl ?_
 rintro _ G ⟨rfl, rfl⟩
 rw [← hn9]
 refine ZBn ?_
 refine RX (cB K_ rfl (wV_ (aLC n9 o_m xs a6 c6 G (by first | omega | (rw [La_]; omega)) hV))) rfl ?_
 rintro _ G0 ⟨a19, c0, rfl, hV0⟩
 refine ZA1 ?_
 refine ZDY ?_
 refine ZAl ?_
 refine DW (v := (.slice (some ⟨b1, (cut1 p1 n9 q0), none⟩) (a.drop (j + n9)).length (q0 - n9))) rfl (dT n9 (a.drop j).length rfl rfl rfl rfl rfl rfl o_m o_m) rfl (by rw [hda, hdn, i6]) (ZAl ?_)
 refine DW (v := (.slice (some ⟨b2, (cut1 p2 n9 q1), none⟩) (b.drop (j + n9)).length (q1 - n9))) rfl (dT n9 (b.drop j).length rfl rfl rfl rfl rfl rfl o_m o_m) rfl (by rw [hdb, hdm, i6]) (ZDH ?_)
 refine ZBE ?_
 refine ZAl ?_
 refine KC (fun q2 z2 => ?_) (fun q2 z2 => ?_)
 ·refine ZDH ?_
  have e9 : (xs ++ putP n9) = cZ a b := by rw [← he, hn9, yI (by rw [ax, ← hn9]; exact List.length_eq_zero_iff.1 o_m)]
  rw [e9] at hV0
  exact fM (fun _ _ => bX rfl rfl) sR_ ⟨a19, c0, y_eQ, hV0⟩
 refine ZAl ?_
 have hne : (b.drop (j + n9)) ≠ [] := fun h => by have h9 := cA_ List.length h; simp only [au] at h9; omega
 have hop := tT hne y_cp
 rw [← hk9] at hop
 refine ZA1 ?_
 refine RX (bJ K_ rfl (fun w hw => aN0 (some ⟨b1, (cut1 p1 n9 q0), none⟩) (some ⟨b2, (cut1 p2 n9 q1), none⟩) (q0 - n9) (q1 - n9) (a.drop (j + n9)) (b.drop (j + n9)) o_m o_m o_m o_m w (Ns.of (aN hr5 y_r w hw)) (Ns.of (aN hr6 y_r w hw)))) rfl ?_
 rintro _ G0 ⟨rfl, rfl⟩
 rw [← hk9]
 refine ZA1 ?_
 refine DR [] (pln [0, 2, 6, 8, 10, 5, 13, 14]) ?_
 refine ZBr ?_
 refine DY rfl (aA4 k9 rfl rfl rfl rfl o_m) rfl (DX rfl (cB K_ rfl (wV_ (aLC k9 o_m (xs ++ putP n9) a19 c0 G0 (by first | omega | (rw [La_]; omega)) hV0))) rfl n_h ?_)
 rintro _ G1 ⟨a35, cx1, rfl, hV1⟩
 refine DX rfl (jG (A := []) (G := G1) (v := .slice a35 (xs ++ putP n9 ++ putP k9).length cx1) (n := (xs ++ putP n9 ++ putP k9).length) (xs := (xs ++ putP n9 ++ putP k9).map (.int .u8)) (m := k9) (T := 5) (s := 1) (by_ := 1) (ys := ((b.drop (j + n9)).take k9).map (.int .u8)) rfl rfl rfl rfl hV1 (fun w hw => .row _ _ _ _ _ y_c9 (Row.takeK (aN hr6 y_r w hw) k9)) (dZ _ _) (by simp only [La_]; omega) (by simp only [La_]; omega)) rfl n_h ?_
 rintro v0 _ ⟨G2, hW39, _, rfl⟩
 have hX39 : Vec 5 1 v0 ((xs ++ putP n9 ++ putP k9) ++ (b.drop (j + n9)).take k9).length (((xs ++ putP n9 ++ putP k9) ++ (b.drop (j + n9)).take k9).map (.int .u8)) G2 := hW39.as (by simp only [La_, Lt_]; omega) (by simp only [be])
 obtain ⟨a39, cx2, rfl⟩ := hX39.slice
 rw [bg]
 refine ZA1 ?_
 refine ZDY ?_
 refine ZAl ?_
 refine DW (v := (.slice (some ⟨b1, cut1 (cut1 p1 n9 q0) k9 (q0 - n9), none⟩) (a.drop (j + n9 + k9)).length ((q0 - n9) - k9))) rfl (dT k9 (a.drop (j + n9)).length rfl rfl rfl rfl rfl rfl o_m o_m) rfl (by rw [hdn, hdk, i6]) (ZAl ?_)
 refine DW (v := (.slice (some ⟨b2, cut1 (cut1 p2 n9 q1) k9 (q1 - n9), none⟩) (b.drop (j + n9 + k9)).length ((q1 - n9) - k9))) rfl (dT k9 (b.drop (j + n9)).length rfl rfl rfl rfl rfl rfl o_m o_m) rfl (by rw [hdm, hdl, i6]) (ZA1 ?_)
 refine aSq rfl ?_
 refine ⟨(j + n9 + k9, ((xs ++ putP n9 ++ putP k9) ++ (b.drop (j + n9)).take k9), a39, cx2, G2, cut1 (cut1 p1 n9 q0) k9 (q0 - n9), (q0 - n9) - k9, cut1 (cut1 p2 n9 q1) k9 (q1 - n9), (q1 - n9) - k9), ⟨by show j + n9 + k9 ≤ b.length; omega, hX39, ?_, ?_, by show (a.drop (j + n9 + k9)).length ≤ (q0 - n9) - k9; omega, ?_, by show (b.drop (j + n9 + k9)).length ≤ (q1 - n9) - k9; omega⟩, y_dD, .cons rfl (.cons rfl (.cons rfl .nil)), a_g, fun _ h => h⟩
 ·rw [As_, As_, As_, ← he]
  have q3 := vH (a := (a.drop j)) (b := (b.drop j)) (by rw [ax, ← hn9]; exact hne)
  rw [ax, ax, ax, ax, ← hn9, ← hk9] at q3
  rw [q3]
 ·have q3 := pE hr5 (n := k9) (c := (q0 - n9)) o_m o_m; rw [ax] at q3; exact q3
 have q3 := pE hr6 (n := k9) (c := (q1 - n9)) o_m o_m; rw [ax] at q3; exact q3
def aGY : ∀ (i n : Nat), (i = 0 ∨ 128 ^ i ≤ n) → i < (putP n).length ∧ (putP n).getD i 0 = if n / 128 ^ i < 128 then ((n / 128 ^ i : Nat) : Int) else ((n / 128 ^ i % 128 + 128 : Nat) : Int)
 | 0, n, _ => by
  rw [Nat.pow_zero, Nat.div_one]
  by_cases h : n < 128
  ·rw [aB7 h, if_pos h]; exact ⟨gt, rfl⟩
  ·rw [vV h, if_neg h]; exact ⟨y_eR, rfl⟩
 | i + 1, n, h => by
  have hp : 0 < 128 ^ i := ib y_b
  have h1 : 128 ^ (i + 1) = 128 * 128 ^ i := by rw [iz, fx]
  have hn : 128 * 128 ^ i ≤ n := by rw [← h1]; rcases h with h | h; cases h; exact h
  have hb : 128 * 1 ≤ 128 * 128 ^ i := Nat.mul_le_mul_left 128 hp
  have hi : 128 ^ i ≤ n / 128 := (Nat.le_div_iff_mul_le y_b).2 (by rw [fx]; exact hn)
  have key := aGY i (n / 128) (.inr hi)
  rw [vV o_m, h1, ← Nat.div_div_eq_div_mul]
  exact ⟨by simpa using key.1, key.2⟩
def putP_tot : ∀ (i n : Nat), (i = 0 ∨ 128 ^ i ≤ n) → n / 128 ^ i < 128 → (putP n).length = i + 1
 | 0, n, _, h => by rw [Nat.pow_zero, Nat.div_one] at h; rw [aB7 h]; rfl
 | i + 1, n, h, hd => by
  have hp : 0 < 128 ^ i := ib y_b
  have h1 : 128 ^ (i + 1) = 128 * 128 ^ i := by rw [iz, fx]
  have hn : 128 * 128 ^ i ≤ n := by rw [← h1]; rcases h with h | h; cases h; exact h
  have hb : 128 * 1 ≤ 128 * 128 ^ i := Nat.mul_le_mul_left 128 hp
  have hi : 128 ^ i ≤ n / 128 := (Nat.le_div_iff_mul_le y_b).2 (by rw [fx]; exact hn)
  rw [h1, ← Nat.div_div_eq_div_mul] at hd
  rw [vV o_m, Lc_, putP_tot i (n / 128) (.inr hi) hd]
def aN5 {n i : Nat} (hn : n < 268435456) (hi : i ≤ 3) (h : ¬ n / 128 ^ i < 128) : i + 1 ≤ 3 ∧ 128 ^ (i + 1) ≤ n := by
 rcases (show i = 0 ∨ i = 1 ∨ i = 2 ∨ i = 3 by omega) with rfl | rfl | rfl | rfl <;> simp only [Nat.reducePow, Nat.reduceAdd] at h ⊢ <;> omega
def aJ1 {n i : Nat} (h : i = 0 ∨ 128 ^ i ≤ n) (hi : 0 < i) : 1 ≤ n / 128 ^ i := by
 rcases h with h | h
 ·omega
 ·exact Nat.div_pos h (ib y_b)
def seven_shl {i y : Nat} (hi : i ≤ 3) (hy : y < 128) : shl .i64 (y : Int) ((7 * i : Nat) : Int) = ((y * 128 ^ i : Nat) : Int) := by
 rcases (show i = 0 ∨ i = 1 ∨ i = 2 ∨ i = 3 by omega) with rfl | rfl | rfl | rfl
 ·rw [sN 1 y_b, aL o_m o_m]; simp only [Nat.reducePow]; omega
 ·rw [sN 128 y_b, aL o_m o_m]; simp only [Nat.reducePow]; omega
 ·rw [sN 16384 y_b, aL o_m o_m]; simp only [Nat.reducePow]; omega
 ·rw [sN 2097152 y_b, aL o_m o_m]; simp only [Nat.reducePow]; omega
def seven_or {i n : Nat} (hi : i ≤ 3) : bor .i64 ((n % 128 ^ i : Nat) : Int) ((n / 128 ^ i % 128 * 128 ^ i : Nat) : Int) = ((n % 128 ^ (i + 1) : Nat) : Int) := by
 have hp : 0 < 128 ^ i := ib y_b
 have h1 : n % 128 ^ i < 128 ^ i := gz _ hp
 have h2 : n / 128 ^ i % 128 < 128 := gz _ y_b
 have h3 : 128 ^ i ≤ 2097152 := by rcases (show i = 0 ∨ i = 1 ∨ i = 2 ∨ i = 3 by omega) with rfl | rfl | rfl | rfl <;> decide
 have h4 : n / 128 ^ i % 128 * 128 ^ i ≤ 127 * 2097152 := Nat.mul_le_mul o_m h3
 rw [aDF (k := .i64) o_m (show ((n % 128 ^ i : Nat) : Int) < (9223372036854775808 : Int) by omega) o_m (show ((n / 128 ^ i % 128 * 128 ^ i : Nat) : Int) < (9223372036854775808 : Int) by omega)]
 congr 1
 rw [co, co]
 have e : 128 ^ i = 2 ^ (7 * i) := by rw [Nat.pow_mul]
 rw [iz, Nat.mod_mul]
 rw [e] at h1 ⊢
 rw [jz, fx, ← fe h1, ir]
def mQ (a b : AB) : AB :=
 if b.drop (aS a b) = [] then [] else
  putP (oth (a.drop (aS a b)) (b.drop (aS a b))) ++ ((b.drop (aS a b)).take (oth (a.drop (aS a b)) (b.drop (aS a b))) ++
   cZ ((a.drop (aS a b)).drop (oth (a.drop (aS a b)) (b.drop (aS a b)))) ((b.drop (aS a b)).drop (oth (a.drop (aS a b)) (b.drop (aS a b)))))
def kL (a b : AB) : cZ a b = putP (aS a b) ++ mQ a b := by
 unfold mQ
 split
 ·rename_i h; rw [yI h, bg]
 ·rename_i h; exact vH h
def over (a b : AB) (j : Nat) : AB := b.take j ++ a.drop j
def aNN {a b : AB} (h : a.length = b.length) {j : Nat} (hj : j ≤ b.length) : (over a b j).length = b.length := by
 unfold over; rw [La_, Lt_, Ld_]; omega
def aD4 {a b : AB} (h : a.length = b.length) {j : Nat} : over a b (j + aS (a.drop j) (b.drop j)) = over a b j := by
 have hs := aCF (a := a.drop j) (b := b.drop j) (by rw [Ld_, Ld_, h])
 generalize aS (a.drop j) (b.drop j) = n at hs
 unfold over
 rw [ie, As_, ← hs, ← ax, df]
def aNf {a b : AB} (h : a.length = b.length) : over a b b.length = b := by
 unfold over; rw [db, ga o_m, bg]
def nH {A X Z vs : AA} {m : Nat} (hA : A.length = m) (hX : X.length = vs.length) : aO (A ++ (X ++ Z)) m vs = A ++ (vs ++ Z) := by
 subst hA
 unfold aO
 rw [g9, ← hX, show A ++ (X ++ Z) = (A ++ X) ++ Z from (As_ _ _ _).symm, ← La_, ey, As_]
def aOP {a b : AB} (h : a.length = b.length) {m k : Nat} (hk : m + k ≤ b.length) (sp : AA) :
  aO ((over a b m).map (.int .u8) ++ sp) m (((b.drop m).take k).map (.int .u8)) = (over a b (m + k)).map (.int .u8) ++ sp := by
 have e1 : (over a b m).map U_ ++ sp = (b.take m).map (.int .u8) ++ (((a.drop m).take k).map (.int .u8) ++ ((a.drop (m + k)).map (.int .u8) ++ sp)) := by
  unfold over
  rw [← As_ (((a.drop m).take k).map _), ← be, ← ax, df, be, As_]
 rw [e1, nH y_c9 (by rw [Lm_, Lm_, Lt_, Lt_, Ld_, Ld_]; omega)]
 unfold over
 rw [ie]
 simp only [be, As_]
def aOC (d : Db) (g : Gx) (hg : g.Ok) (k n : Nat) (hd : d.Ok g k n) (hk : k < n) (w : AI) (hst : St w ((d.H g k).map (·.1)) (d.H g k) w) : aB prog 46 [P_ d.b] w ((d.H g k).map (·.1)) (fun v H => v = .tuple #[] ∧ H = d.H g k) := by
 obtain ⟨b, hb, lb, mp, fa, fc, fs, cap, asked, done, q, m, ring, GH, ms, GL, l, c, pv, wv, tab, D⟩ := d
 obtain ⟨hle, hq, hm, hh, hrg, hL, hpk, hfi, hpa, htm, hpl⟩ := hd
 dsimp only at hle hq hm hh hrg hL hpk hfi hpa htm hpl
 refine ZBC fun hst hml => ?_
 obtain ⟨hm0, hm1, hm2⟩ := hL.more o_m
 refine dO_ func46 hst ?_
 refine ZEA ?_
 refine ZEf ?_
 refine ZBD ?_
 refine ZBn ?_
 refine ZBD ?_
 refine ZBr ?_
 exact EN sR_ ⟨rfl, rfl⟩
def aGS (d : Db) (g : Gx) (hg : g.Ok) (n : Nat) (hn : n < 1000000) (hd : d.Ok g n n) (w : AI) (hst : St w ((d.H g n).map (·.1)) (d.H g n) w) : aB prog 46 [P_ d.b] w ((d.H g n).map (·.1)) (fun v H => v = .tuple #[] ∧ ∃ e : Db, e.Ok g n (n + 1) ∧ d.To e ∧ e.done = d.done ∧ H = e.H g n) := by
 obtain ⟨b, hb, lb, mp, fa, fc, fs, cap, asked, done, q, m, ring, GH, ms, GL, l, c, pv, wv, tab, D⟩ := d
 obtain ⟨hle, hq, hm, hh, hrg, hL, hpk, hfi, hpa, htm, hpl⟩ := hd
 dsimp only at hle hq hm hh hrg hL hpk hfi hpa htm hpl
 have hst : St w _ ((b, blk (cDb cap (pM q) (P_ hb) n (.slice (Q_ fa) (g.enc 0).length fc) lb mp pv wv asked done tab) 108) :: (mp, bL .u64 (l) (c)) :: (hM q m ++ (GH ++ (GL ++ D)))) w := hst
 have hml : ms.length ≤ 256 := by have := hL.len; have := (capT_ok cap).2; omega
 have hiv := hm.inv (hg.inv n)
 have hrl : m.ram.length ≤ 200000 := by rw [hiv.fr.ram]; have := tY g.rom; omega
 have henc : eK m = g.enc n := hm.enc
 have hel := hg.enc_le n
 have hpp : 1 ≤ (cZ (g.enc 0) (g.enc n)).length := by rw [kL, La_]; have := (kH (aS (g.enc 0) (g.enc n))).1; omega
 have hpc := zU (g.enc 0) (g.enc n)
 have hnx : Tm.Nxt n ((n - 1 : Nat) : Int) (n : Int) := ⟨fun h => y_y, fun h => y_y⟩
 refine dO_ func46 hst ?_
 refine ZEA ?_
 refine ZBn ?_
 refine jC (σ := Unit) [18, 19, 20, 21, 22, 23, 24, 25, 26] (fun _ => [(26, .bool false)]) (fun _ => (b, blk (cDb cap (pM q) (P_ hb) n (.slice (Q_ fa) (g.enc 0).length fc) lb mp pv wv asked done tab) 108) :: (mp, bL .u64 (l) (c)) :: (hM q m ++ (GH ++ (GL ++ D)))) (fun _ => True) ?_ ?_
 ·rcases dr n with hz | hz
  ·refine ZBL ?_
   have hz9 := (hL.zero hz).1
   subst hz9
   refine ZAE ?_
   refine A_9 ?_
   exact ⟨(), trivial, .cons rfl .nil, a_g, fun _ h => h⟩
  refine ZBL ?_
  obtain ⟨hm0, hm1, hm2⟩ := hL.more hz
  refine ZBD ?_
  refine ZBn ?_
  refine ZAJ ?_
  refine ZAl ?_
  exact ⟨(), trivial, .cons rfl .nil, a_g, fun _ h => h⟩
 rintro _ y1 _
 refine iO false rfl rfl ?_
 refine ZAl ?_
 refine iE [(b, blk (cDb cap (pM q) (P_ hb) n (.slice (Q_ fa) (g.enc 0).length fc) lb mp pv wv asked done tab) 108)] [4, 5, 6, 7, 8] (.step true 0 (.step true 1 (.step true 2 (.step true 3 (.step true 4 (.step true 5 (.step true 6 (.step true 7 (.step false 8 (.step false 9 (.step true 10 (.step true 11 (.step true 12 (.step true 13 (.step true 14 .done))))))))))))))) rfl y_f y_f (fun x hx => by rw [List.mem_singleton.1 hx]; exact .head _) ?_
 refine ZEf ?_
 refine DX rfl (bB (F := [(b, blk (cDb cap (pM q) (P_ hb) n (.slice (Q_ fa) (g.enc 0).length fc) lb mp pv wv asked done tab) 108), (mp, bL .u64 (l) (c))]) (A := hM q m) (G := GH ++ (GL ++ D)) K_ rfl (fun w h1 _ => (by have h9 := aDv q m hiv.wf hiv.rg hrl _ w h1; rw [henc] at h9; exact h9))) rfl (by intro _ _ _ hK x hx; obtain ⟨_, ⟨_, _, _, _, _, rfl⟩, rfl⟩ := hK; rw [List.mem_singleton.1 hx]; exact .head _) ?_
 rintro _ _ ⟨_, ⟨b0, c0, sp0, rfl, hc0, rfl⟩, rfl⟩
 refine DX rfl (bI K_ rfl (fun w hw => aH8 fa 0 fc b0 0 c0 (g.enc 0) (g.enc n) o_m (hg.enc_len n).symm hfi.2 hc0 w (aA (b := fa) (l := (g.enc 0).map U_ ++ fs) (.tail _ (.tail _ (mR_ _ (mR_ _ (mR_ _ hfi.1))))) w hw).left (aA (b := b0) (l := (g.enc n).map U_ ++ sp0) (.tail _ (.tail _ (.head _))) w hw).left)) rfl n_h ?_
 rintro _ _ ⟨G0, ⟨a37, cx1, rfl, hV0⟩, rfl⟩
 obtain ⟨b1, c37', sp1, e37, rfl, _, hc1, _⟩ := hV0.full o_m
 cases e37
 refine ZBy ?_
 refine ZBn ?_
 refine eW (L' := (b, blk (cDb cap (pM q) (P_ hb) n (.slice (Q_ fa) (g.enc 0).length fc) lb mp pv wv asked done tab) 108) :: (mp, bL .u64 (l) (c)) :: (GL ++ (hM q m ++ (GH ++ ((b1, blk ((cZ (g.enc 0) (g.enc n)).map U_ ++ sp1) 5) :: (b0, blk ((g.enc n).map U_ ++ sp0) 5) :: D))))) (fun _ h => St.fl [[(b1, blk ((cZ (g.enc 0) (g.enc n)).map U_ ++ sp1) 5)], [(b, blk (cDb cap (pM q) (P_ hb) n (.slice (Q_ fa) (g.enc 0).length fc) lb mp pv wv asked done tab) 108), (mp, bL .u64 (l) (c))], [(b0, blk ((g.enc n).map U_ ++ sp0) 5)], hM q m, GH, GL, D] [1, 5, 3, 4, 0, 2, 6] rfl h) ?_
 refine DR [4, 5, 6, 7, 8] (pln [0, 2, 4, 6, 8, 10, 12, 14, 16, 19]) ?_
 refine A_9 ?_
 refine DX rfl (bB (F := [(b, blk (cDb cap (pM q) (P_ hb) n (.slice (Q_ fa) (g.enc 0).length fc) lb mp pv wv asked done tab) 108), (mp, bL .u64 (l) (c))]) (A := GL) (G := hM q m ++ (GH ++ ((b1, blk ((cZ (g.enc 0) (g.enc n)).map U_ ++ sp1) 5) :: (b0, blk ((g.enc n).map U_ ++ sp0) 5) :: D))) K_ rfl (fun w _ h2 => Tm.add_at (capT_ok cap) hL o_m hnx o_m h2 (aJ9 h2 (mR_ _ (mR_ _ (mR_ _ (.head _))))))) rfl n_h ?_
 rintro _ _ ⟨_, ⟨rfl, mk, G', D', e1, e2, rfl, hL0⟩, rfl⟩
 refine ZAl ?_
 refine eW (L' := (b, blk (cDb cap (pM q) (P_ hb) n (.slice (Q_ fa) (g.enc 0).length fc) lb mp pv wv asked done tab) 108) :: (mp, bL .u64 (l) (c)) :: (G' ++ (hM q m ++ (GH ++ (D' ++ ((b1, blk ((cZ (g.enc 0) (g.enc n)).map U_ ++ sp1) 5) :: (b0, blk ((g.enc n).map U_ ++ sp0) 5) :: D)))))) (fun _ h => by rw [As_] at h; exact St.fl [[(b, blk (cDb cap (pM q) (P_ hb) n (.slice (Q_ fa) (g.enc 0).length fc) lb mp pv wv asked done tab) 108), (mp, bL .u64 (l) (c))], G', D', hM q m, GH, ((b1, blk ((cZ (g.enc 0) (g.enc n)).map U_ ++ sp1) 5) :: (b0, blk ((g.enc n).map U_ ++ sp0) 5) :: D)] [0, 1, 3, 4, 2, 5] rfl h) ?_
 refine iE [(b, blk (cDb cap (pM q) (P_ hb) n (.slice (Q_ fa) (g.enc 0).length fc) lb mp pv wv asked done tab) 108)] [4, 5, 6, 7, 8, 9, 10, 11, 12] (.step true 0 (.step true 1 (.step true 2 (.step true 3 (.step true 4 (.step true 5 (.step true 6 (.step true 7 (.step true 8 (.step true 9 (.step true 10 (.step true 11 (.step false 12 (.step false 13 .done)))))))))))))) rfl y_f y_f (fun x hx => by rw [List.mem_singleton.1 hx]; exact .head _) ?_
 refine A_12 ?_
 refine DX rfl (bI K_ rfl (fun w hw => Hs.copy_fn hb 32 n (Hs.callsL (g.sts n)) ring (by have := Hs.callsL_len (g.sts n); omega) w (hh.histW hw (fun x hx => .tail _ (.tail _ (mR_ _ (mR_ _ (mL_ _ hx)))))))) rfl (by intro _ _ _ hK x hx; obtain ⟨_, ⟨_, rfl, _⟩, rfl⟩ := hK; rw [List.mem_singleton.1 hx]; exact mR_ _ (.head _)) ?_
 rintro _ _ ⟨G1, ⟨b2, rfl, hH62⟩, rfl⟩
 refine eX (H' := (b, blk (cDb cap (pM q) (P_ hb) n (.slice (Q_ fa) (g.enc 0).length fc) lb mp pv wv asked done tab) 108) :: (mp, bL .u64 (l) (c)) :: (G' ++ (hM q m ++ (GH ++ (G1 ++ (D' ++ ((b1, blk ((cZ (g.enc 0) (g.enc n)).map U_ ++ sp1) 5) :: (b0, blk ((g.enc n).map U_ ++ sp0) 5) :: D))))))) (fun _ h => St.fl [G1, [(b, blk (cDb cap (pM q) (P_ hb) n (.slice (Q_ fa) (g.enc 0).length fc) lb mp pv wv asked done tab) 108), (mp, bL .u64 (l) (c))], G', hM q m, GH, D' ++ ((b1, blk ((cZ (g.enc 0) (g.enc n)).map U_ ++ sp1) 5) :: (b0, blk ((g.enc n).map U_ ++ sp0) 5) :: D)] [1, 2, 3, 4, 0, 5] rfl h) ?_
 obtain ⟨hfn, hpa2⟩ := (hpa.more (D' := (G1 ++ (D' ++ ((b1, blk ((cZ (g.enc 0) (g.enc n)).map U_ ++ sp1) 5) :: (b0, blk ((g.enc n).map U_ ++ sp0) 5) :: D)))) (fun x hx => mR_ _ (mR_ _ (.tail _ (.tail _ hx))))).new ⟨b2, ring, G1, rfl, hH62, hrg, (fun x hx => mL_ _ hx)⟩ e1 (ms' := (Tm.addM (capT cap).toNat ms mk)) (fun x hx => (Tm.addM_sub _ _ _).subset hx)
 refine DZ rfl (aB9 1 rfl rfl rfl rfl rfl hfn) rfl n_h ?_
 try simp only [cr, ci, bg, ai, ay]
 refine ZAl ?_
 obtain ⟨hn0, _, _⟩ := hL0.more o_m
 have hml2 : (Tm.addM (capT cap).toNat ms mk).length ≤ 256 := by have := hL0.len; have := (capT_ok cap).2; omega
 refine ZBb ?_
 refine RX (bI K_ rfl (fun w hw => Tm.marks_fn lb (capT cap) (Tm.addM (capT cap).toNat ms mk) o_m w (hL0.line.lineW hw (fun x hx => .tail _ (.tail _ (mL_ _ hx)))))) rfl ?_
 rintro v0 _ ⟨G2, hV1, rfl⟩
 obtain ⟨b3, c2, sp2, e67, rfl, _, hc2, _⟩ := (hV1.as (Tm.times_len (Tm.addM (capT cap).toNat ms mk)).symm rfl).full (by rw [Tm.times_len]; omega)
 subst e67
 refine ZEf ?_
 refine RX (aIw (l := l ++ [((n : Int), P_ b2, c)]) (c := c + 1) rfl rfl (.tail _ (.tail _ (.head _)))) rfl ?_
 rintro _ _ ⟨r72, rfl, rfl⟩
 refine bF (H' := (r72, itO mp (c + 1) [] (c + 1)) :: (b, blk (cDb cap (pM q) (P_ hb) n (.slice (Q_ fa) (g.enc 0).length fc) lb mp pv wv asked done tab) 108) :: (mp, bL .u64 (l ++ [((n : Int), P_ b2, c)]) (c + 1)) :: (G' ++ (hM q m ++ (GH ++ ((b3, blk ((Tm.times (Tm.addM (capT cap).toNat ms mk)).map (Value.int .u64) ++ sp2) 36) :: (G1 ++ (D' ++ ((b1, blk ((cZ (g.enc 0) (g.enc n)).map U_ ++ sp1) 5) :: (b0, blk ((g.enc n).map U_ ++ sp0) 5) :: D)))))))) (fun _ h => St.fl [[(r72, itO mp (c + 1) [] (c + 1))], [(b3, blk ((Tm.times (Tm.addM (capT cap).toNat ms mk)).map (Value.int .u64) ++ sp2) 36)], [(b, blk (cDb cap (pM q) (P_ hb) n (.slice (Q_ fa) (g.enc 0).length fc) lb mp pv wv asked done tab) 108), (mp, bL .u64 (l ++ [((n : Int), P_ b2, c)]) (c + 1))], G', hM q m, GH, (G1 ++ (D' ++ ((b1, blk ((cZ (g.enc 0) (g.enc n)).map U_ ++ sp1) 5) :: (b0, blk ((g.enc n).map U_ ++ sp0) 5) :: D)))] [0, 2, 3, 4, 5, 1, 6] rfl h) ?_
 refine ZAl ?_
 refine bD (σ := List Ent × AE) [7, 8, 9, 73, 74, 75, 76, 77, 78, 79, 80, 81, 82, 83, 84, 85, 86, 87, 88, 89] (fun _ => []) (fun s => (r72, itO mp (c + 1) s.2 (c + 1)) :: (b, blk (cDb cap (pM q) (P_ hb) n (.slice (Q_ fa) (g.enc 0).length fc) lb mp pv wv asked done tab) 108) :: (mp, bL .u64 s.1 (c + 1)) :: (G' ++ (hM q m ++ (GH ++ ((b3, blk ((Tm.times (Tm.addM (capT cap).toNat ms mk)).map (Value.int .u64) ++ sp2) 36) :: (G1 ++ (D' ++ ((b1, blk ((cZ (g.enc 0) (g.enc n)).map U_ ++ sp1) 5) :: (b0, blk ((g.enc n).map U_ ++ sp0) 5) :: D)))))))) (fun s => pW g s.1 (c + 1) (Tm.addM (capT cap).toNat ms mk) (n + 1) (G1 ++ (D' ++ ((b1, blk ((cZ (g.enc 0) (g.enc n)).map U_ ++ sp1) 5) :: (b0, blk ((g.enc n).map U_ ++ sp0) 5) :: D)))) (fun s => (kP s.1 s.2).length) (l ++ [((n : Int), P_ b2, c)], []) ?_ ?_ ?_ ?_
 ·exact hpa2
 ·exact .nil
 ·exact fun _ h => h
 rintro ⟨l9, seen⟩ y7 hp9
 dsimp only at hp9 ⊢
 refine ZBL ?_
 by_cases hle9 : kP l9 seen = []
 ·refine ZBL ?_
  refine RZ (aIH 0 rfl rfl (.tail _ (.tail _ (.head _))) hp9.old (av _) hle9) rfl (ZAE ?_)
  refine ZBr ?_
  refine eY (H' := (b, blk (cDb cap (pM q) (P_ hb) n (.slice (Q_ fa) (g.enc 0).length fc) lb mp pv wv asked done tab) 108) :: (mp, bL .u64 (l9) (c + 1)) :: (hM q m ++ (GH ++ (G' ++ ((b3, blk ((Tm.times (Tm.addM (capT cap).toNat ms mk)).map (Value.int .u64) ++ sp2) 36) :: (G1 ++ (D' ++ ((b1, blk ((cZ (g.enc 0) (g.enc n)).map U_ ++ sp1) 5) :: (b0, blk ((g.enc n).map U_ ++ sp0) 5) :: D)))))))) (fun _ _ => eT) (fun _ h => St.fl [[(r72, itO mp (c + 1) seen (c + 1))], [(b, blk (cDb cap (pM q) (P_ hb) n (.slice (Q_ fa) (g.enc 0).length fc) lb mp pv wv asked done tab) 108), (mp, bL .u64 (l9) (c + 1))], G', hM q m, GH, ((b3, blk ((Tm.times (Tm.addM (capT cap).toNat ms mk)).map (Value.int .u64) ++ sp2) 36) :: (G1 ++ (D' ++ ((b1, blk ((cZ (g.enc 0) (g.enc n)).map U_ ++ sp1) 5) :: (b0, blk ((g.enc n).map U_ ++ sp0) 5) :: D))))] [1, 3, 4, 2, 5] rfl h) ?_
  refine ⟨rfl, ⟨b, hb, lb, mp, fa, fc, fs, cap, asked, done, q, m, ring, GH, (Tm.addM (capT cap).toNat ms mk), G', l9, c + 1, pv, wv, tab, ((b3, blk ((Tm.times (Tm.addM (capT cap).toNat ms mk)).map (Value.int .u64) ++ sp2) 36) :: (G1 ++ (D' ++ ((b1, blk ((cZ (g.enc 0) (g.enc n)).map U_ ++ sp1) 5) :: (b0, blk ((g.enc n).map U_ ++ sp0) 5) :: D))))⟩, ⟨Nat.le_succ _, hq, hm, hh, hrg, wT hL0 ?_, fun x hx => ?_, ⟨(.tail _ (mR_ _ (mR_ _ (.tail _ (.tail _ hfi.1))))), hfi.2⟩, ?_, ?_, ?_⟩, ⟨rfl, rfl, rfl, rfl, rfl, rfl, rfl, (fun x hx => .tail _ (mR_ _ (mR_ _ (.tail _ (.tail _ hx)))))⟩, rfl, rfl⟩
  ·exact fun x hx => .tail _ (mR_ _ ((List.mem_append.1 hx).elim (fun h => mL_ _ h) (fun h => mR_ _ (.tail _ (.tail _ h)))))
  ·rcases List.mem_append.1 ((Tm.addM_sub _ _ _).subset hx) with h9 | h9
   ·exact hpk x h9
   rw [List.mem_singleton.1 h9, e2, e1]; rfl
  ·exact hp9.more (fun x hx => .tail _ hx)
  ·show Tm.times (Tm.addM (capT cap).toNat ms mk) = rB _ (n + 1)
   rw [aJd, e1, htm]; rfl
  obtain ⟨GP, q0, q1⟩ := hpl
  exact ⟨GP, q0, fun x hx => .tail _ (mR_ _ (mR_ _ (.tail _ (.tail _ (q1 x hx)))))⟩
 refine ZBL ?_
 refine RX (aIN 0 rfl rfl (.tail _ (.tail _ (.head _))) hp9.old (av _) hle9) rfl ?_
 rintro _ _ ⟨y9, hy9, rfl, rfl⟩
 refine ZDF ?_
 refine ZAQ ?_
 refine ZDH ?_
 refine RZ (aJD rfl (.head _) (.tail _ (.tail _ (.head _))) (aK1 hy9) hp9.nd) rfl (ZDH ?_)
 refine RX (bI K_ rfl (fun w hw => aIO (Q_ b3) c2 (Tm.times (Tm.addM (capT cap).toNat ms mk)) (aIW hL0.rise) (by rw [Tm.times_len]; omega) y9.1 w (Ns.of (aA (b := b3) (l := (Tm.times (Tm.addM (capT cap).toNat ms mk)).map (Value.int .u64) ++ sp2) (.tail _ (.tail _ (.tail _ (mR_ _ (mR_ _ (mR_ _ (.head _))))))) w hw).left))) rfl ?_
 rintro _ _ ⟨_, ⟨j9, f9, rfl, rfl, hf9⟩, rfl⟩
 rw [ci]
 refine A_11 ?_
 refine KC (fun q0 z0 => ?_) (fun q0 z0 => ?_)
 ·refine ZBn ?_
  refine RZ (aNn 2 rfl rfl rfl rfl rfl) rfl ?_
  try simp only [cr, ci, bg, ai, ay]
  refine ZBL ?_
  exact ⟨(kE y9.1 l9, seen ++ [y9.2.2]), hp9.drop (fun x hx he => hf9 (by simpa using q0) (List.mem_map.2 ⟨x, hx, he⟩)), Nat.lt_of_le_of_lt (aJg _ _ _) (aCj hy9), .nil, a_g, fun _ h => h⟩
 refine ZBL ?_
 exact ⟨(l9, seen ++ [y9.2.2]), hp9, aCj hy9, .nil, a_g, fun _ h => h⟩
def aT9 (ob : Nat) (rom : AB) (hl : rom.length ≤ 100000000) (hb : aT rom) (he : errH rom = 0) (pa : AC) (n pc : Nat) (ms : AE) (w : AI) (hst : St w ms [(ob, blk (rom.map U_) 5)] w) :
  aB prog 43 [.slice (Q_ ob) rom.length rom.length, .slice pa n pc] w ms (fun v H => ∃ q : MA, q.A.ob = ob ∧ q.Ok pa n pc ∧ v = .tuple #[pM q, .int .i64 0] ∧ H = hM q (jP rom)) := by
 refine aB.frame (F := []) (G := [(ob, blk (rom.map U_) 5)]) hst (fun b hb => by cases hb) (aH4 ob rom.length rom hl hb (av _) pa n pc w (aA (.head _) w hst)) ?_
 rintro v H w' (⟨h1, _⟩ | ⟨_, mb, ub, rb, tb, oT, hT, rfl, rfl⟩) hw
 ·exact absurd he h1
 have hn := hw.nodup
 simp only [cr, ci, ce, cz, im, d6, dz, or_false, not_or] at hn
 refine ⟨_, St.perm_ix 5 [3, 0, 2, 1, 4] y_b rfl (L' := hM ⟨nQ mb ub rb tb ob rom.length [] (.slice pa n pc) (hdH rom).ram.toNat, tb, oT, .slice none 0 0⟩ (jP rom)) (by simp only [hM, nQ, bg]; rfl) hw, ⟨nQ mb ub rb tb ob rom.length [] (.slice pa n pc) (hdH rom).ram.toNat, tb, oT, .slice none 0 0⟩, rfl, ⟨⟨?_, ?_⟩, hT, rfl, rfl, _, _, _, rfl⟩, rfl, rfl⟩
 ·show rb ∉ [mb, ub]
  simp only [d6, dz, or_false, not_or]
  exact ⟨fun h => hn.1.1 h.symm, fun h => hn.2.1.1 h⟩
 ·show ob ∉ [mb, ub]
  simp only [d6, dz, or_false, not_or]
  exact ⟨fun h => hn.1.2.2.2 h.symm, fun h => hn.2.2.1.2 h.symm⟩
def aT8 (ob : Nat) (rom : AB) (hl : rom.length ≤ 100000000) (hb : aT rom) (he : errH rom ≠ 0) (pa : AC) (n pc : Nat) (w : AI) (hr : Row w ob 0 (rom.map U_)) :
  aB prog 43 [.slice (Q_ ob) rom.length rom.length, .slice pa n pc] w [] (fun v H => H = [] ∧ v = .tuple #[.pointer none, .int .i64 (errH rom)]) :=
 (aH4 ob rom.length rom hl hb (av _) pa n pc w hr).mono fun v H h => by
  rcases h with ⟨_, h1, h2⟩ | ⟨h1, _⟩
  ·exact ⟨h2, h1⟩
  ·exact absurd h1 he
end Go.Proofs.YtacejanlmhbddaaGreat
