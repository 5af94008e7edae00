/- Parts. -/
import Derived.Test.YtacejanlmhbddaaGreatQfM
set_option maxRecDepth 100000
set_option maxHeartbeats 1000000
set_option linter.all false
namespace Go.Proofs.YtacejanlmhbddaaGreat
open Go Go.VV Go.Proofs Go.RowKit Go.Proofs.Tryz
def uC (g : Gx) (hg : g.Ok) (b : Nat) (cap asked done : Int) (c1 c2 c3 c4 c5 c6 pv wv tab : AH) (ob : Nat) (GP R : aC) (hP : yD 114 g.plan g.pa g.pc GP) (w : AI) (hst : St w (((b, blk [.int .i64 cap, c1, c2, c3, c4, c5, c6, pv, wv, .int .u32 asked, .int .u64 done, tab] 108) :: (ob, blk (g.rom.map U_) 5) :: (GP ++ R)).map (·.1)) ((b, blk [.int .i64 cap, c1, c2, c3, c4, c5, c6, pv, wv, .int .u32 asked, .int .u64 done, tab] 108) :: (ob, blk (g.rom.map U_) 5) :: (GP ++ R)) w) : aB prog 12 [P_ b, .slice (Q_ ob) g.rom.length g.rom.length, .slice g.pa g.plan.length g.pc] w (((b, blk [.int .i64 cap, c1, c2, c3, c4, c5, c6, pv, wv, .int .u32 asked, .int .u64 done, tab] 108) :: (ob, blk (g.rom.map U_) 5) :: (GP ++ R)).map (·.1)) (fun v H => v = .int .i64 0 ∧ ∃ e : Db, e.Ok g 0 1 ∧ e.b = b ∧ e.cap = cap ∧ e.asked = asked ∧ e.done = done ∧ e.pv = pv ∧ e.wv = wv ∧ e.tab = tab ∧ (∀ x ∈ R, x ∈ e.D) ∧ H = e.H g 0) := by
 have hiv := hg.inv 0
 have hrl : (jP g.rom).ram.length ≤ 200000 := by have := tY g.rom; omega
 refine dO_ func12 hst ?_
 refine ZCZ ?_
 refine ZDH ?_
 refine RX (bB (F := [(b, blk [.int .i64 cap, c1, c2, c3, c4, c5, c6, pv, wv, .int .u32 asked, .int .u64 done, tab] 108)]) (A := [(ob, blk (g.rom.map U_) 5)]) (G := GP ++ R) K_ rfl (fun w h1 _ => aT9 ob g.rom hg.len hg.byts hg.err g.pa g.plan.length g.pc _ w h1)) rfl ?_
 rintro _ _ ⟨_, ⟨q, hob, hq, rfl, rfl⟩, rfl⟩
 refine ZCu ?_
 refine ZEq ?_
 refine ZEi ?_
 refine ZEP ?_
 refine ZD7 ?_
 refine ZDx ?_
 refine ZAA ?_
 refine ZBb ?_
 refine ZAE ?_
 refine ZEf ?_
 refine RX (bI K_ rfl (wQ_ (Hs.new_fn 32))) rfl ?_
 rintro _ _ ⟨G0, ⟨b0, rfl, hH38⟩, rfl⟩
 refine bF (H' := (b, blk [.int .i64 cap, .pointer none, .pointer none, .int .u64 0, c4, .pointer none, .map none, pv, wv, .int .u32 asked, .int .u64 done, tab] 108) :: (hM q (jP g.rom) ++ (G0 ++ (GP ++ R)))) (fun _ h => St.fl [G0, [(b, blk [.int .i64 cap, .pointer none, .pointer none, .int .u64 0, c4, .pointer none, .map none, pv, wv, .int .u32 asked, .int .u64 done, tab] 108)], hM q (jP g.rom), GP ++ R] [1, 2, 0, 3] rfl h) ?_
 refine ZAl ?_
 refine RZ (xS_ (l' := [.int .i64 cap, (pM q), .pointer none, .int .u64 0, c4, .pointer none, .map none, pv, wv, .int .u32 asked, .int .u64 done, tab]) 0) rfl (ZB3 ?_)
 refine RZ (xS_ (l' := [.int .i64 cap, (pM q), P_ b0, .int .u64 0, c4, .pointer none, .map none, pv, wv, .int .u32 asked, .int .u64 done, tab]) 0) rfl (ZAA ?_)
 refine ZBb ?_
 refine RX (bB (F := [(b, blk [.int .i64 cap, (pM q), P_ b0, .int .u64 0, c4, .pointer none, .map none, pv, wv, .int .u32 asked, .int .u64 done, tab] 108)]) (A := hM q (jP g.rom)) (G := G0 ++ (GP ++ R)) K_ rfl (wA_ (aDv q (jP g.rom) hiv.wf hiv.rg hrl _))) rfl ?_
 rintro _ _ ⟨_, ⟨b1, c0, sp0, rfl, hc0, rfl⟩, rfl⟩
 refine bF (H' := (b, blk [.int .i64 cap, (pM q), P_ b0, .int .u64 0, c4, .pointer none, .map none, pv, wv, .int .u32 asked, .int .u64 done, tab] 108) :: (hM q (jP g.rom) ++ (G0 ++ ((b1, blk ((g.enc 0).map U_ ++ sp0) 5) :: (GP ++ R))))) (fun _ h => St.fl [[(b, blk [.int .i64 cap, (pM q), P_ b0, .int .u64 0, c4, .pointer none, .map none, pv, wv, .int .u32 asked, .int .u64 done, tab] 108)], [(b1, blk ((g.enc 0).map U_ ++ sp0) 5)], hM q (jP g.rom), G0, GP ++ R] [0, 2, 3, 1, 4] rfl h) ?_
 refine ZAl ?_
 refine RZ (xS_ (l' := [.int .i64 cap, (pM q), P_ b0, .int .u64 0, (.slice (Q_ b1) (g.enc 0).length c0), .pointer none, .map none, pv, wv, .int .u32 asked, .int .u64 done, tab]) 0) rfl (ZAA ?_)
 refine A_9 ?_
 refine RX (bI K_ rfl (wQ_ (Tm.new_fn cap))) rfl ?_
 rintro _ _ ⟨_, ⟨b2, rfl, rfl⟩, rfl⟩
 refine ZCu ?_
 refine RX (aAf .u64) rfl ?_
 rintro _ _ ⟨b3, rfl, rfl⟩
 refine bF (H' := (b, blk [.int .i64 cap, (pM q), P_ b0, .int .u64 0, (.slice (Q_ b1) (g.enc 0).length c0), .pointer none, .map none, pv, wv, .int .u32 asked, .int .u64 done, tab] 108) :: (b3, bL .u64 [] 0) :: (hM q (jP g.rom) ++ (G0 ++ ((b2, blk [.slice none 0 0, .int .i64 (capT cap)] 215) :: (b1, blk ((g.enc 0).map U_ ++ sp0) 5) :: (GP ++ R))))) (fun _ h => St.fl [[(b3, _)], [(b2, blk [.slice none 0 0, .int .i64 (capT cap)] 215)], [(b, blk [.int .i64 cap, (pM q), P_ b0, .int .u64 0, (.slice (Q_ b1) (g.enc 0).length c0), .pointer none, .map none, pv, wv, .int .u32 asked, .int .u64 done, tab] 108)], hM q (jP g.rom), G0, (b1, blk ((g.enc 0).map U_ ++ sp0) 5) :: (GP ++ R)] [2, 0, 3, 4, 1, 5] rfl h) ?_
 refine ZAl ?_
 refine RZ (xS_ (l' := [.int .i64 cap, (pM q), P_ b0, .int .u64 0, (.slice (Q_ b1) (g.enc 0).length c0), P_ b2, .map none, pv, wv, .int .u32 asked, .int .u64 done, tab]) 0) rfl (ZB3 ?_)
 refine RZ (xS_ (l' := [.int .i64 cap, (pM q), P_ b0, .int .u64 0, (.slice (Q_ b1) (g.enc 0).length c0), P_ b2, .map (some b3), pv, wv, .int .u32 asked, .int .u64 done, tab]) 0) rfl (ZB3 ?_)
 have hE0 : (⟨b, b0, b2, b3, b1, c0, sp0, cap, asked, done, q, (jP g.rom), List.replicate 32 Hs.r0, G0, [], [(b2, blk [.slice none 0 0, .int .i64 (capT cap)] 215)], [], 0, pv, wv, tab, (b1, blk ((g.enc 0).map U_ ++ sp0) 5) :: (GP ++ R)⟩ : Db).Ok g 0 0 := ⟨av _, hq, EqA.refl _, hH38, Hs.RingOk.start 32 (by rw [bz]), wT (Tm.LJ.start b2 (capT cap)) (fun _ h => y_cE), (fun _ h => y_cE), ⟨.head _, hc0⟩, pW.start g _, rfl, GP, hP, fun x hx => .tail _ (mL_ _ hx)⟩
 refine ZAl ?_
 refine RX (cB K_ rfl (wV_ (aGS (⟨b, b0, b2, b3, b1, c0, sp0, cap, asked, done, q, (jP g.rom), List.replicate 32 Hs.r0, G0, [], [(b2, blk [.slice none 0 0, .int .i64 (capT cap)] 215)], [], 0, pv, wv, tab, (b1, blk ((g.enc 0).map U_ ++ sp0) 5) :: (GP ++ R)⟩ : Db) g hg 0 y_b hE0))) rfl ?_
 rintro _ _ ⟨rfl, e, hE, hT, hdn, rfl⟩
 refine ZBn ?_
 exact EV rfl sR_ ⟨rfl, e, hE, hT.b, hT.cap, hT.asked, hdn, hT.pv, hT.wv, hT.tab, fun x hx => hT.D x (.tail _ (mR_ _ hx)), rfl⟩
def uY (rom : AB) (hl : rom.length ≤ 100000000) (hb : aT rom) (he : errH rom ≠ 0) (pa : AC) (n pc : Nat) (b : Nat) (cap asked done : Int) (c1 c2 c3 c4 c5 c6 pv wv tab : AH) (ob : Nat) (R : aC) (w : AI) (hr : Row w ob 0 (rom.map U_)) (hob : ob ∉ ((b, blk [.int .i64 cap, c1, c2, c3, c4, c5, c6, pv, wv, .int .u32 asked, .int .u64 done, tab] 108) :: R).map (·.1)) (hst : St w (((b, blk [.int .i64 cap, c1, c2, c3, c4, c5, c6, pv, wv, .int .u32 asked, .int .u64 done, tab] 108) :: R).map (·.1)) ((b, blk [.int .i64 cap, c1, c2, c3, c4, c5, c6, pv, wv, .int .u32 asked, .int .u64 done, tab] 108) :: R) w) : aB prog 12 [P_ b, .slice (Q_ ob) rom.length rom.length, .slice pa n pc] w (((b, blk [.int .i64 cap, c1, c2, c3, c4, c5, c6, pv, wv, .int .u32 asked, .int .u64 done, tab] 108) :: R).map (·.1)) (fun v H => v = .int .i64 (errH rom) ∧ H = (b, blk [.int .i64 cap, .pointer none, .pointer none, .int .u64 0, c4, .pointer none, .map none, pv, wv, .int .u32 asked, .int .u64 done, tab] 108) :: R) := by
 refine dO_ func12 hst ?_
 refine ZCZ ?_
 refine ZDH ?_
 refine RLv K_ (fun w hw => aT8 ob rom hl hb he pa n pc w (aN hr hob w hw)) ?_
 refine ZEq ?_
 refine ZEi ?_
 refine ZEP ?_
 refine ZD7 ?_
 refine ZDx ?_
 refine ZAA ?_
 refine ZBb ?_
 refine cY true rfl rfl rfl (bne_iff_ne.2 he) ?_
 refine ZEf ?_
 exact EV rfl sR_ ⟨rfl, rfl⟩
def forward_fn (d : Db) (g : Gx) (hg : g.Ok) (k n : Nat) (hd : d.Ok g k n) (hk : k < n) (hn : n < 1000000) (hdn0 : 0 ≤ d.done ∧ d.done < 1000000000000000) (w : AI) (hst : St w ((d.H g k).map (·.1)) (d.H g k) w) : aB prog 48 [P_ d.b] w ((d.H g k).map (·.1)) (fun v H => ∃ (e : Db) (va : AH) (GA : aC), e.Ok g (k + 1) (max n (k + 2)) ∧ d.To e ∧ e.done = d.done + 1 ∧ v = va ∧ Vec 298 3 va (g.m (k + 1)).acc.length (aF cAc (g.m (k + 1)).acc) GA ∧ (∀ x ∈ GA, x ∈ e.D) ∧ H = e.H g (k + 1)) := by
 obtain ⟨b, hb, lb, mp, fa, fc, fs, cap, asked, done, q, m, ring, GH, ms, GL, l, c, pv, wv, tab, D⟩ := d
 obtain ⟨hle, hq, hm, hh, hrg, hL, hpk, hfi, hpa, htm, hpl⟩ := hd
 dsimp only at hle hq hm hh hrg hL hpk hfi hpa htm hpl
 refine ZBC fun hst hml => ?_
 dsimp only at hdn0
 obtain ⟨GP, hP, hGP⟩ := hpl
 have hiv := hm.inv (hg.inv k)
 have hpcr := hiv.rg.pc
 have hse1 : (cE g.plan m).1 = (cE g.plan (g.m k)).1 := by rw [hm.step]
 have hse2 : (cE g.plan m).2 = (g.m (k + 1)) := by rw [hm.step]; rfl
 have hbk : (if 32768 ≤ m.cpu.r.pc then 0 else bankB m.cpu.r.pc m.bk) = (g.st k).bank := by
  show aC7 m m.cpu.r.pc = _
  rw [hm.bank, hm.cpu]; rfl
 refine dO_ func48 hst ?_
 refine ZBb ?_
 refine DR [4, 5, 6, 7, 8, 9, 10] (pln [0, 2, 4, 6, 8, 10, 12, 14, 17, 18, 20, 23, 24]) ?_
 refine ZEf ?_
 refine DZ rfl (bJ K_ rfl (fun w hw => aAg q.A q.va m hiv.wf.ln w (aA (b := q.A.mb) (l := cMm q.A q.va m) (.tail _ (.tail _ (mL_ _ (.tail _ (.head _))))) w hw))) rfl y_d (ZBL ?_)
 refine DY rfl (xP rfl rfl rfl rfl rfl) rfl (DZ rfl (bJ K_ rfl (fun w hw => (by have h9 := aOw q.A q.va m hiv.wf w (aA (b := q.A.mb) (l := cMm q.A q.va m) (.tail _ (.tail _ (mL_ _ (.tail _ (.head _))))) w hw) m.cpu.r.pc hpcr; rw [hbk] at h9; exact h9))) rfl n_h (ZEf ?_))
 refine RX (bB (F := [(b, blk (cDb cap (pM q) (P_ hb) k (.slice (Q_ fa) (g.enc 0).length fc) lb mp pv wv asked done tab) 108), (mp, bL .u64 (l) (c))]) (A := hM q m) (G := (GH ++ (GL ++ D))) K_ rfl (fun w h1 h2 => (by have h9 := aUx q g.pa g.pc g.plan hq hg.chg hg.few m hiv _ w h1 (hP.els h2 (fun x hx => mR_ _ ((fun x hx => mR_ _ (mR_ _ (mR_ _ (hGP x hx)))) x hx))) (hP.offB h2 (fun x hx => mR_ _ (mR_ _ (mR_ _ (hGP x hx))))); rw [hse1, hse2] at h9; exact h9))) rfl ?_
 rintro _ _ ⟨_, ⟨oT, va, G0, hq2, rfl, hV, rfl⟩, rfl⟩
 obtain ⟨aa, ac, rfl⟩ := hV.slice
 refine ZA1 ?_
 refine ZCN fun b0 => ?_
 refine RZ (xS_ (l' := cDd (cE g.plan (g.m k)).1) 0) rfl (ZAA ?_)
 refine ZA1 ?_
 refine eW (L' := (b, blk (cDb cap (pM q) (P_ hb) k (.slice (Q_ fa) (g.enc 0).length fc) lb mp pv wv asked done tab) 108) :: (mp, bL .u64 (l) (c)) :: (b0, blk (cDd (cE g.plan (g.m k)).1) 184) :: (GH ++ (hM (⟨q.A, q.tb, oT, .slice aa (g.m (k + 1)).acc.length ac⟩ : MA) (g.m (k + 1)) ++ (GL ++ (G0 ++ D))))) (fun _ h => by rw [As_] at h; exact St.fl [[(b0, blk (cDd (cE g.plan (g.m k)).1) 184)], [(b, blk (cDb cap (pM q) (P_ hb) k (.slice (Q_ fa) (g.enc 0).length fc) lb mp pv wv asked done tab) 108), (mp, bL .u64 (l) (c))], G0, hM (⟨q.A, q.tb, oT, .slice aa (g.m (k + 1)).acc.length ac⟩ : MA) (g.m (k + 1)), GH, GL, D] [1, 0, 4, 3, 5, 2, 6] rfl h) ?_
 refine DR [4, 5, 6, 7, 8, 9, 10, 11, 12, 13, 14, 15, 16] (pln [0, 2, 4, 6, 8, 10, 12, 14, 16, 18, 20, 22, 24, 26, 29, 30, 32, 35]) ?_
 refine A_9 ?_
 refine ZD2 ?_
 refine ZBr ?_
 refine DZ rfl (bJ K_ rfl (fun w hw => aAg q.A (.slice aa (g.m (k + 1)).acc.length ac) (g.m (k + 1)) (hg.inv (k + 1)).wf.ln w (aA (b := q.A.mb) (l := cMm q.A (.slice aa (g.m (k + 1)).acc.length ac) (g.m (k + 1))) (.tail _ (.tail _ (.tail _ (mR_ _ (mL_ _ (.tail _ (.head _))))))) w hw))) rfl y_d (ZBL ?_)
 refine DY rfl (xP rfl rfl rfl rfl rfl) rfl (DX rfl (bB (F := [(b, blk (cDb cap (pM q) (P_ hb) k (.slice (Q_ fa) (g.enc 0).length fc) lb mp pv wv asked done tab) 108), (mp, bL .u64 (l) (c)), (b0, blk (cDd (cE g.plan (g.m k)).1) 184)]) (A := GH) (G := hM (⟨q.A, q.tb, oT, .slice aa (g.m (k + 1)).acc.length ac⟩ : MA) (g.m (k + 1)) ++ (GL ++ (G0 ++ D))) K_ rfl (fun w h1 _ => Hs.note_fn hb 32 k (Hs.callsL (g.sts k)) ring y_b y_b o_m (Hs.callsL_len _) GH w hh h1 (g.st k) (hg.st k))) rfl n_h ?_)
 rintro _ _ ⟨GH2, ⟨rfl, hh2⟩, rfl⟩
 rw [← Hs.callsL_snoc, ← Gx.sts_snoc] at hh2
 refine ZDH ?_
 refine RW (v := (.int .u64 ((k + 1 : Nat) : Int))) rfl rfl (cA_ _ ((eN o_m o_m).trans o_m)) (ZAl ?_)
 refine RZ (xS_ (l' := cDb cap (pM q) (P_ hb) (k + 1) (.slice (Q_ fa) (g.enc 0).length fc) lb mp pv wv asked done tab) 0) rfl (ZAA ?_)
 refine ZBn ?_
 refine bF (H' := (b, blk (cDb cap (pM q) (P_ hb) (k + 1) (.slice (Q_ fa) (g.enc 0).length fc) lb mp pv wv asked done tab) 108) :: ((mp, bL .u64 (l) (c)) :: (b0, blk (cDd (cE g.plan (g.m k)).1) 184) :: (GH2 ++ (hM (⟨q.A, q.tb, oT, .slice aa (g.m (k + 1)).acc.length ac⟩ : MA) (g.m (k + 1)) ++ (GL ++ (G0 ++ D)))))) (fun _ h => h) ?_
 refine RX (bB (F := []) (A := [(b, blk (cDb cap (pM q) (P_ hb) (k + 1) (.slice (Q_ fa) (g.enc 0).length fc) lb mp pv wv asked done tab) 108)]) (G := ((mp, bL .u64 (l) (c)) :: (b0, blk (cDd (cE g.plan (g.m k)).1) 184) :: (GH2 ++ (hM (⟨q.A, q.tb, oT, .slice aa (g.m (k + 1)).acc.length ac⟩ : MA) (g.m (k + 1)) ++ (GL ++ (G0 ++ D)))))) K_ rfl (wA_ (aQZ b 10 _ _ done (done + 1) rfl (eN o_m o_m)))) rfl (ZAj ?_)
 refine ZAl ?_
 refine eW (L' := (b, blk (cDb cap (pM q) (P_ hb) (k + 1) (.slice (Q_ fa) (g.enc 0).length fc) lb mp pv wv asked (done + 1) tab) 108) :: (mp, bL .u64 (l) (c)) :: (hM (⟨q.A, q.tb, oT, .slice aa (g.m (k + 1)).acc.length ac⟩ : MA) (g.m (k + 1)) ++ (GH2 ++ (GL ++ ((b0, blk (cDd (cE g.plan (g.m k)).1) 184) :: (G0 ++ D)))))) (fun _ h => St.fl [[(b, blk (cDb cap (pM q) (P_ hb) (k + 1) (.slice (Q_ fa) (g.enc 0).length fc) lb mp pv wv asked (done + 1) tab) 108), (mp, bL .u64 (l) (c))], [(b0, blk (cDd (cE g.plan (g.m k)).1) 184)], GH2, hM (⟨q.A, q.tb, oT, .slice aa (g.m (k + 1)).acc.length ac⟩ : MA) (g.m (k + 1)), GL, G0 ++ D] [0, 3, 2, 4, 1, 5] rfl h) ?_
 have hrg2 := hrg.step y_b y_b (g.st k)
 rw [Gx.sts_len, ← Gx.sts_snoc] at hrg2
 have hE0 : (⟨b, hb, lb, mp, fa, fc, fs, cap, asked, done + 1, (⟨q.A, q.tb, oT, .slice aa (g.m (k + 1)).acc.length ac⟩ : MA), (g.m (k + 1)), (ring.set (k % 32) (Hs.recOf (g.st k))), GH2, ms, GL, l, c, pv, wv, tab, ((b0, blk (cDd (cE g.plan (g.m k)).1) 184) :: (G0 ++ D))⟩ : Db).Ok g (k + 1) n := ⟨y_y, hq2, EqA.refl _, hh2, hrg2, wT hL (fun x hx => .tail _ (mR_ _ hx)), hpk, ⟨.tail _ (mR_ _ hfi.1), hfi.2⟩, hpa.more (fun x hx => .tail _ (mR_ _ hx)), htm, ⟨GP, hP, fun x hx => .tail _ (mR_ _ (hGP x hx))⟩⟩
 have hT0 : Db.To ⟨b, hb, lb, mp, fa, fc, fs, cap, asked, done, q, m, ring, GH, ms, GL, l, c, pv, wv, tab, D⟩ (⟨b, hb, lb, mp, fa, fc, fs, cap, asked, done + 1, (⟨q.A, q.tb, oT, .slice aa (g.m (k + 1)).acc.length ac⟩ : MA), (g.m (k + 1)), (ring.set (k % 32) (Hs.recOf (g.st k))), GH2, ms, GL, l, c, pv, wv, tab, ((b0, blk (cDd (cE g.plan (g.m k)).1) 184) :: (G0 ++ D))⟩ : Db) := ⟨rfl, rfl, rfl, rfl, rfl, rfl, rfl, (fun x hx => .tail _ (mR_ _ hx))⟩
 rcases dk (k + 1) n with hlt | hge
 rotate_left
 obtain rfl : n = k + 1 := by omega
 rotate_left
 ·refine ZAl ?_
  refine RZ (cB K_ rfl (wV_ (aOC (⟨b, hb, lb, mp, fa, fc, fs, cap, asked, done + 1, (⟨q.A, q.tb, oT, .slice aa (g.m (k + 1)).acc.length ac⟩ : MA), (g.m (k + 1)), (ring.set (k % 32) (Hs.recOf (g.st k))), GH2, ms, GL, l, c, pv, wv, tab, ((b0, blk (cDd (cE g.plan (g.m k)).1) 184) :: (G0 ++ D))⟩ : Db) g hg (k + 1) n hE0 hlt))) rfl (ZDH ?_)
  exact EV rfl sR_ ⟨(⟨b, hb, lb, mp, fa, fc, fs, cap, asked, done + 1, (⟨q.A, q.tb, oT, .slice aa (g.m (k + 1)).acc.length ac⟩ : MA), (g.m (k + 1)), (ring.set (k % 32) (Hs.recOf (g.st k))), GH2, ms, GL, l, c, pv, wv, tab, ((b0, blk (cDd (cE g.plan (g.m k)).1) 184) :: (G0 ++ D))⟩ : Db), _, G0, (by rw [jy o_m]; exact hE0), hT0, rfl, rfl, hV, fun x hx => .tail _ (mL_ _ hx), rfl⟩
 refine ZAl ?_
 refine RX (cB K_ rfl (wV_ (aGS (⟨b, hb, lb, mp, fa, fc, fs, cap, asked, done + 1, (⟨q.A, q.tb, oT, .slice aa (g.m (k + 1)).acc.length ac⟩ : MA), (g.m (k + 1)), (ring.set (k % 32) (Hs.recOf (g.st k))), GH2, ms, GL, l, c, pv, wv, tab, ((b0, blk (cDd (cE g.plan (g.m k)).1) 184) :: (G0 ++ D))⟩ : Db) g hg (k + 1) o_m hE0))) rfl ?_
 rintro _ _ ⟨rfl, e, hE, hT, hdn, rfl⟩
 refine ZDH ?_
 exact EV rfl sR_ ⟨e, _, G0, (by rw [Nat.max_eq_right o_m]; exact hE), hT0.trans hT, hdn, rfl, hV, fun x hx => hT.D x (.tail _ (mL_ _ hx)), rfl⟩
def aHy (n : Nat) (hn : n < 268435456) (l : AB) (b o c : Nat) (hl : (putP n ++ l).length ≤ 100000000) (hc : (putP n ++ l).length ≤ c) (w : AI) (hr : Row w b o ((putP n ++ l).map (.int .u8))) : aB prog 183 [.slice (some ⟨b, o, none⟩) (putP n ++ l).length c] w [] (V_ (.tuple #[.int .i64 n, .slice (some ⟨b, cut1 o (putP n).length c, none⟩) l.length (c - (putP n).length), .int .i64 0])) := by
 refine dR_ func183 ?_
 refine A_16 ?_
 refine bD (σ := Nat) [2, 3, 4, 5, 6, 7, 8, 9, 10, 11, 12, 13, 14, 15, 16, 17, 18, 19, 20, 21, 22, 23, 24, 25, 26, 27, 28, 29, 30, 31, 32, 33, 34, 35, 36, 37, 38, 39, 40, 41, 42, 43, 44, 45, 46] (fun i => [(5, .int .i64 ((n % 128 ^ i : Nat) : Int)), (8, .int .i64 i)]) (fun _ => []) (fun i => i ≤ 3 ∧ (i = 0 ∨ 128 ^ i ≤ n)) (fun i => 4 - i) 0 ?_ ?_ ?_ ?_
 ·exact ⟨y_eP, .inl rfl⟩
 ·exact .cons (cA_ (fun n : Nat => Value.int .i64 (n : Int)) (by rw [Nat.pow_zero, Nat.mod_one])) (.cons rfl .nil)
 ·exact fun _ h => h
 rintro i y3 ⟨hi, hi2⟩
 have hgs := aJ1 hi2
 have hy0 : (0 : Int) ≤ ((n / 128 ^ i : Nat) : Int) := f6 _
 refine ZAl ?_
 refine cY true rfl rfl rfl y_be ?_
 refine A_13 ?_
 obtain ⟨hg1, hg2⟩ := aGY i n hi2
 have hll : (putP n ++ l).length = (putP n).length + l.length := La_
 have hgx : (putP n ++ l).getD i 0 = (putP n).getD i 0 := by rw [Gd_, cx hg1, ← Gd_]
 refine ZA1 ?_
 refine ZBE ?_
 refine cY false rfl rfl rfl y_be ?_
 refine ZBr ?_
 by_cases hy : (n / 128 ^ i) < 128
 ·refine ZBL ?_
  have hgv : (putP n ++ l).getD i 0 = (((n / 128 ^ i) : Nat) : Int) := by rw [hgx, hg2, if_pos hy]
  refine ZAl ?_
  refine RY (aP (n := (putP n ++ l).length) i rfl rfl rfl rfl o_m) rfl (RZ (aE rfl rfl (aV (v := .int .u8 (((n / 128 ^ i) : Nat) : Int)) (hr _ _ ((cX (l := (putP n ++ l)) (j := i) o_m).trans (by rw [hgv]))) y_r)) rfl (ZBn ?_))
  refine ZCw ?_
  refine ZBL ?_
  refine RW (v := (.int .i64 ((7 * i : Nat) : Int))) rfl rfl (cA_ _ ((aL o_m o_m).trans o_m)) (ZCm ?_)
  refine ZBn ?_
  refine ZBD ?_
  refine ZBr ?_
  refine KL (fun q0 z0 => ?_) (fun q0 z0 => ?_)
  ·refine ZBL ?_
   refine ZEw ?_
   refine ZBD ?_
   refine ZBr ?_
   refine ZDY ?_
   refine ZA1 ?_
   refine ZCd ?_
   refine ZBb ?_
   have ht := putP_tot i n hi2 hy
   exact ZEG
  refine A_9 ?_
  refine ZBD ?_
  refine ZBr ?_
  refine ZDY ?_
  refine ZA1 ?_
  refine ZCd ?_
  refine ZBb ?_
  have ht := putP_tot i n hi2 hy
  exact ZEG
 refine ZBL ?_
 have hgv : (putP n ++ l).getD i 0 = (((n / 128 ^ i) % 128 + 128 : Nat) : Int) := by rw [hgx, hg2, if_neg hy]
 refine ZAl ?_
 refine RY (aP (n := (putP n ++ l).length) i rfl rfl rfl rfl o_m) rfl (RZ (aE rfl rfl (aV (v := .int .u8 (((n / 128 ^ i) % 128 + 128 : Nat) : Int)) (hr _ _ ((cX (l := (putP n ++ l)) (j := i) o_m).trans (by rw [hgv]))) y_r)) rfl (ZBn ?_))
 refine ZCw ?_
 refine ZBL ?_
 refine RW (v := (.int .i64 ((7 * i : Nat) : Int))) rfl rfl (cA_ _ ((aL o_m o_m).trans o_m)) (ZCm ?_)
 refine ZBn ?_
 refine ZAJ ?_
 refine A_14 ?_
 refine ZAJ ?_
 refine ZBb ?_
 refine ZAD ?_
 obtain ⟨hm1, hm2⟩ := aN5 hn hi hy
 exact ⟨i + 1, ⟨hm1, .inr hm2⟩, y_y, .cons rfl (.cons rfl .nil), a_g, fun _ h => h⟩
def aKO (b o c : Nat) (l : AB) (h1 : 1 ≤ l.length) (hl : l.length ≤ 10000000) (w : AI) (hr : Row w b o (l.map (.int .u8))) : aB prog 137 [.slice (some ⟨b, o, none⟩) l.length c] w [] (fun v H => ∃ b9 c9 sp9, v = .slice (Q_ b9) l.length c9 ∧ l.length ≤ c9 ∧ H = [(b9, blk (l.map U_ ++ sp9) 5)]) := by
 refine dR_ func137 ?_
 refine ZCZ ?_
 refine ZBb ?_
 refine RX (aAC rfl) rfl (ZAq fun b0 => ?_)
 refine ZBL ?_
 refine RX (jG (A := []) (G := [(b0, blk [] 5)]) (v := .slice (Q_ b0) 0 0) (n := 0) (xs := []) (m := l.length) (T := 5) (s := 1) (by_ := 1) (ys := l.map (.int .u8)) rfl rfl rfl rfl (.row b0 0 0 [] [] rfl rfl y_b (av _)) (fun w hw => .row _ _ _ _ _ (by rw [Lm_, ep]) (aN hr y_r w hw)) (dZ _ _) o_m o_m) rfl ?_
 rintro v0 _ ⟨G0, hV0, _, rfl⟩
 obtain ⟨b1, c0, sp0, rfl, rfl, _, hc0, _⟩ := (hV0.as (n' := l.length) (xs' := l.map (.int .u8)) (bi _) rfl).full o_m
 refine ZA1 ?_
 exact EV rfl (cn _ _) ⟨b1, c0, sp0, rfl, hc0, rfl⟩
def aRA (b1 o1 c1 b2 o2 c2 : Nat) (a b : AB) (h1 : 1 ≤ b.length) (hl : b.length ≤ 1000000) (hab : a.length = b.length) (hc2 : (cZ a b).length ≤ c2) (w : AI) (hr1 : Row w b1 o1 (a.map (.int .u8))) (hr2 : Row w b2 o2 ((cZ a b).map (.int .u8))) : aB prog 147 [.slice (some ⟨b1, o1, none⟩) a.length c1, .slice (some ⟨b2, o2, none⟩) (cZ a b).length c2] w [] (fun v H => ∃ b9 c9 sp9, v = .tuple #[.slice (Q_ b9) b.length c9, .int .i64 0] ∧ b.length ≤ c9 ∧ H = [(b9, blk (b.map U_ ++ sp9) 5)]) := by
 refine dR_ func147 ?_
 refine ZEf ?_
 refine RX (bI K_ rfl (fun w hw => aKO b1 o1 c1 a o_m o_m w (aN hr1 y_r w hw))) rfl ?_
 rintro _ _ ⟨_, ⟨b9, c9, sp9, rfl, hc0, rfl⟩, rfl⟩
 rw [bg]
 refine A_9 ?_
 refine bD (σ := Nat × Nat × Nat × Nat × Nat) [1, 4, 5, 7, 8, 9, 10, 14, 15, 16, 17, 18, 19, 20, 21, 22, 23, 24, 25, 26, 27, 28, 29, 30, 31, 32, 33, 34, 35, 36, 37, 38, 39, 40, 41, 42, 43, 44, 45, 46, 47, 48, 49, 50, 51, 52, 53, 54, 55, 56, 57, 58, 59, 60, 61, 62, 63, 64, 65, 66] (fun s => [(7, .slice (some ⟨b9, s.2.1, none⟩) (a.drop s.1).length s.2.2.1), (1, .slice (some ⟨b2, s.2.2.2.1, none⟩) (putP (aS (a.drop s.1) (b.drop s.1)) ++ mQ (a.drop s.1) (b.drop s.1)).length s.2.2.2.2)]) (fun s => [(b9, blk ((over a b s.1).map U_ ++ sp9) 5)]) (fun s => s.1 ≤ b.length ∧ (s.1 < b.length → s.2.1 = s.1) ∧ (a.drop s.1).length ≤ s.2.2.1 ∧ (putP (aS (a.drop s.1) (b.drop s.1)) ++ mQ (a.drop s.1) (b.drop s.1)).length ≤ s.2.2.2.2 ∧ Row w b2 s.2.2.2.1 ((putP (aS (a.drop s.1) (b.drop s.1)) ++ mQ (a.drop s.1) (b.drop s.1)).map (.int .u8))) (fun s => b.length - s.1) (0, 0, c9, o2, c2) ?_ ?_ ?_ ?_
 ·exact ⟨al _, fun _ => rfl, hc0, by rw [← kL]; exact hc2, by rw [← kL]; exact hr2⟩
 ·exact .cons rfl (.cons (by rw [← kL]; rfl) .nil)
 ·exact fun _ h => h
 rintro ⟨j, pL, qL, pP, qP⟩ y3 ⟨hj, hpL, hqL, hqP, hrP⟩
 dsimp only at hj hpL hqL hqP hrP ⊢
 obtain ⟨n9, hn9⟩ : ∃ n, n = aS (a.drop j) (b.drop j) := ⟨_, rfl⟩
 obtain ⟨k9, hk9⟩ : ∃ k, k = oth (a.drop (j + n9)) (b.drop (j + n9)) := ⟨_, rfl⟩
 rw [← hn9] at hqP hrP ⊢
 have hda : (a.drop j).length = a.length - j := Ld_
 have hdb : (b.drop j).length = b.length - j := Ld_
 have hln := pD (a.drop j) (b.drop j)
 rw [← hn9] at hln
 have hdn : (a.drop (j + n9)).length = a.length - (j + n9) := Ld_
 have hdm : (b.drop (j + n9)).length = b.length - (j + n9) := Ld_
 have hpk := zU (a.drop j) (b.drop j)
 rw [kL, ← hn9] at hpk
 have hll : (putP n9 ++ mQ (a.drop j) (b.drop j)).length = (putP n9).length + (mQ (a.drop j) (b.drop j)).length := La_
 have hrG : Row w b2 (cut1 pP (putP n9).length qP) ((mQ (a.drop j) (b.drop j)).map (.int .u8)) := by have h9 := pE hrP (n := (putP n9).length) (c := qP) hqP o_m; rw [ey] at h9; exact h9
 refine ZBr ?_
 refine RLv K_ (fun w hw => aHy n9 o_m (mQ (a.drop j) (b.drop j)) b2 pP qP y_cM y_cM w (aN hrP y_r w hw)) ?_
 refine A_13 ?_
 refine cY false rfl rfl rfl y_r ?_
 refine ZDH ?_
 refine ZBE ?_
 refine ZAJ ?_
 refine ZEf ?_
 refine RW (v := (.slice (some ⟨b9, (cut1 pL n9 qL), none⟩) (a.drop (j + n9)).length (qL - n9))) (dT n9 (a.drop j).length rfl rfl rfl rfl rfl rfl o_m o_m) rfl (by rw [hda, hdn, i6]) (ZEf ?_)
 refine ZBE ?_
 refine ZAl ?_
 refine KC (fun h1 h1n => ?_) (fun h1 h1n => ?_)
 ·have z0 := r_f h1
  refine ZA1 ?_
  have hnil : (b.drop (j + n9)) = [] := List.length_eq_zero_iff.1 o_m
  have hpR : (mQ (a.drop j) (b.drop j)).length = 0 := by unfold mQ; rw [← hn9, if_pos (by rw [ax]; exact hnil)]; rfl
  refine ZAl ?_
  refine ZBE ?_
  refine ZAJ ?_
  refine A_10 ?_
  have hov : over a b j = b := by rw [← aD4 hab, ← hn9, show j + n9 = b.length by have h9 := cA_ List.length hnil; simp only [au] at h9; omega, aNf hab]
  exact fM (fun _ _ => bX rfl rfl) sR_ ⟨b9, c9, sp9, by rw [hab], y_y, by rw [hov]⟩
 have z0 := r_f h1
 refine ZAl ?_
 have hne : (b.drop (j + n9)) ≠ [] := fun h => by have h9 := cA_ List.length h; simp only [au] at h9; omega
 have hR : mQ (a.drop j) (b.drop j) = putP k9 ++ (((b.drop (j + n9)).take k9) ++ cZ (a.drop (j + n9 + k9)) (b.drop (j + n9 + k9))) := by unfold mQ; rw [← hn9, if_neg (by rw [ax]; exact hne)]; simp only [ax]; rw [← hk9]
 have hko := aCq (a.drop (j + n9)) (b.drop (j + n9))
 rw [← hk9] at hko
 have hop := tT hne y_cp
 rw [← hk9] at hop
 have hpo := kH k9
 have hRl : (mQ (a.drop j) (b.drop j)).length = (putP k9).length + (((b.drop (j + n9)).take k9) ++ cZ (a.drop (j + n9 + k9)) (b.drop (j + n9 + k9))).length := by rw [hR]; exact La_
 have hLl : (((b.drop (j + n9)).take k9) ++ cZ (a.drop (j + n9 + k9)) (b.drop (j + n9 + k9))).length = k9 + (cZ (a.drop (j + n9 + k9)) (b.drop (j + n9 + k9))).length := by rw [La_, Lt_]; omega
 have hdk : (a.drop (j + n9 + k9)).length = a.length - (j + n9 + k9) := Ld_
 have hdl : (b.drop (j + n9 + k9)).length = b.length - (j + n9 + k9) := Ld_
 have hrR : Row w b2 (cut1 pP (putP n9).length qP) ((putP k9 ++ (((b.drop (j + n9)).take k9) ++ cZ (a.drop (j + n9 + k9)) (b.drop (j + n9 + k9)))).map (.int .u8)) := by rw [← hR]; exact hrG
 have hrH : Row w b2 (cut1 (cut1 pP (putP n9).length qP) (putP k9).length (qP - (putP n9).length)) ((((b.drop (j + n9)).take k9) ++ cZ (a.drop (j + n9 + k9)) (b.drop (j + n9 + k9))).map (.int .u8)) := by have h9 := pE hrR (n := (putP k9).length) (c := (qP - (putP n9).length)) y_cM y_cM; rw [ey] at h9; exact h9
 have hcu : (cut1 pL n9 qL) = j + n9 := by rw [hpL o_m]; exact jK o_m
 refine ZAl ?_
 rw [hR]
 refine RLv K_ (fun w hw => aHy k9 o_m (((b.drop (j + n9)).take k9) ++ cZ (a.drop (j + n9 + k9)) (b.drop (j + n9 + k9))) b2 (cut1 pP (putP n9).length qP) (qP - (putP n9).length) y_cM y_cM w (aN hrR y_r w hw)) ?_
 refine A_13 ?_
 refine cY false rfl rfl rfl y_r ?_
 refine ZDH ?_
 refine ZBE ?_
 refine ZAJ ?_
 refine ZDH ?_
 refine ZBE ?_
 refine ZAJ ?_
 refine A_9 ?_
 refine RY (aA4 k9 rfl rfl rfl rfl o_m) rfl ?_
 have hrT : Row w b2 (cut1 (cut1 pP (putP n9).length qP) (putP k9).length (qP - (putP n9).length)) (((b.drop (j + n9)).take k9).map (.int .u8)) := by have h9 := Row.takeK hrH k9; rw [eh (by rw [Lt_]; omega)] at h9; exact h9
 rw [hcu]
 refine bF (H' := [(b9, blk ((over a b (j + n9)).map U_ ++ sp9) 5)]) (fun _ h => h.as (by rw [hn9, aD4 hab])) ?_
 refine RZ (aFd (b := b9) (off := j + n9) (m := k9) (l := (over a b (j + n9)).map (.int .u8) ++ sp9) (ys := ((b.drop (j + n9)).take k9).map (.int .u8)) 0 rfl rfl rfl rfl rfl (fun w hw => .row _ _ _ _ _ y_c9 (aN hrT y_r w hw)) (dZ _ _) (by rw [La_, Lm_, aNN hab o_m]; omega)) rfl (bF (H' := [(b9, blk ((over a b (j + n9 + k9)).map U_ ++ sp9) 5)]) (fun _ h => h.as (by rw [ai, eq o_m, c8 y_c9, aOP hab o_m])) ?_)
 refine ZBL ?_
 refine ZDY ?_
 refine ZAl ?_
 refine DY rfl (dT k9 (a.drop (j + n9)).length rfl rfl rfl rfl rfl rfl o_m o_m) rfl (ZAl ?_)
 refine DY rfl (dT k9 (((b.drop (j + n9)).take k9) ++ cZ (a.drop (j + n9 + k9)) (b.drop (j + n9 + k9))).length rfl rfl rfl rfl rfl rfl o_m o_m) rfl (ZA1 ?_)
 refine ⟨(j + n9 + k9, cut1 (j + n9) k9 (qL - n9), (qL - n9) - k9, cut1 (cut1 (cut1 pP (putP n9).length qP) (putP k9).length (qP - (putP n9).length)) k9 ((qP - (putP n9).length) - (putP k9).length), ((qP - (putP n9).length) - (putP k9).length) - k9), ⟨by show j + n9 + k9 ≤ b.length; omega, fun h => ?_, by show (a.drop (j + n9 + k9)).length ≤ (qL - n9) - k9; omega, ?_, ?_⟩, y_dD, .cons ?_ (.cons ?_ .nil), a_g, fun _ h => h⟩
 ·show cut1 (j + n9) k9 (qL - n9) = j + n9 + k9
  have q0 : j + n9 + k9 < b.length := h
  exact jK o_m
 ·rw [← kL]; show (cZ (a.drop (j + n9 + k9)) (b.drop (j + n9 + k9))).length ≤ ((qP - (putP n9).length) - (putP k9).length) - k9; omega
 ·rw [← kL]
  have q0 := pE hrH (n := k9) (c := ((qP - (putP n9).length) - (putP k9).length)) o_m o_m
  rw [dx (by rw [Lt_]; omega)] at q0
  exact q0
 ·exact cA_ (fun n => Value.slice _ n _) (by show _ = (a.drop (j + n9 + k9)).length; omega)
 rw [← kL]; exact cA_ (fun n => Value.slice _ n _) (by show _ = (cZ (a.drop (j + n9 + k9)) (b.drop (j + n9 + k9))).length; omega)
def toB (x : Int) : UInt8 := x.toNat.toUInt8
def aGV {l : AB} (h : aT l) : (l.map toB).map (fun c => Value.int .u8 (c.toNat : Int)) = l.map (.int .u8) := by
 rw [jj]
 refine List.map_congr_left fun x hx => ?_
 have := h x hx
 show Value.int .u8 ((x.toNat.toUInt8.toNat : Nat) : Int) = .int .u8 x
 congr 1
 have e : x.toNat.toUInt8.toNat = x.toNat % 256 := rfl
 rw [e]; omega
def aKJ (b1 o1 c1 b2 o2 c2 : Nat) (l : AB) (hb : aT l) (w : AI) (hr1 : Row w b1 o1 (l.map (.int .u8))) (hr2 : Row w b2 o2 (l.map (.int .u8))) : aB prog 148 [.slice (some ⟨b1, o1, none⟩) l.length c1, .slice (some ⟨b2, o2, none⟩) l.length c2] w [] (V_ (.bool true)) := by
 refine dR_ func148 ?_
 refine ZDH ?_
 refine RZ (aPv (l := l.map toB) rfl rfl rfl (Lm_ _) (fun w hw => by rw [aGV hb]; exact aN hr1 y_r w hw)) rfl (ZBL ?_)
 refine RZ (aPv (l := l.map toB) rfl rfl rfl (Lm_ _) (fun w hw => by rw [aGV hb]; exact aN hr2 y_r w hw)) rfl (RY (aHe rfl rfl) rfl (ZA1 ?_))
 exact E0 rfl ⟨rfl, (cA_ Value.bool (beq_self_eq_true _))⟩
def aMv (b1 o1 c1 b2 o2 c2 : Nat) (a b : AB) (h1 : 1 ≤ b.length) (hl : b.length ≤ 1000000) (hab : a.length = b.length) (hc1 : a.length ≤ c1) (hc2 : (cZ a b).length ≤ c2) (hb : aT b) (w : AI) (hr1 : Row w b1 o1 (a.map (.int .u8))) (hr2 : Row w b2 o2 ((cZ a b).map (.int .u8))) : aB prog 110 [.slice (some ⟨b1, o1, none⟩) a.length c1, .slice (some ⟨b2, o2, none⟩) (cZ a b).length c2] w [] (fun v H => ∃ b9 c9 sp9, v = .tuple #[.slice (Q_ b9) b.length c9, .int .i64 0] ∧ b.length ≤ c9 ∧ H = [(b9, blk (b.map U_ ++ sp9) 5)]) := by
 refine dR_ func110 ?_
 refine A_9 ?_
 refine RX (bI K_ rfl (fun w hw => aRA b1 o1 c1 b2 o2 c2 a b h1 hl hab hc2 w (aN hr1 y_r w hw) (aN hr2 y_r w hw))) rfl ?_
 rintro _ _ ⟨_, ⟨b9, c9, sp9, rfl, hc0, rfl⟩, rfl⟩
 rw [bg]
 refine A_10 ?_
 refine cY false rfl rfl rfl y_r ?_
 refine ZEf ?_
 refine RX (bI K_ rfl (fun w hw => aH8 b1 o1 c1 b9 0 c9 a b hl hab hc1 hc0 w (aN hr1 y_r w hw) (aA (b := b9) (.head _) w hw).left)) rfl ?_
 rintro _ _ ⟨G0, ⟨a22, c0, rfl, hV0⟩, rfl⟩
 have hpp : 1 ≤ (cZ a b).length := by rw [kL, La_]; have := (kH (aS a b)).1; omega
 obtain ⟨b0, c0, sp0, e22, rfl, _, hcx1, _⟩ := hV0.full o_m
 cases e22
 refine A_10 ?_
 refine RZ (bJ K_ rfl (fun w hw => aKJ b0 0 c0 b2 o2 c2 (cZ a b) (aEa a hb) w (aA (b := b0) (.head _) w hw).left (aN hr2 y_r w hw))) rfl (ZAE ?_)
 refine A_10 ?_
 exact fM (fun _ _ => bX rfl rfl) (.cons _ sR_) ⟨b9, c9, sp9, rfl, hc0, rfl⟩
def aJa (d : Db) (g : Gx) (hg : g.Ok) (k n : Nat) (hd : d.Ok g k n) (hk : k < n) (hn : n < 1000000) (at_ : Nat) (w : AI) (hst : St w ((d.H g k).map (·.1)) (d.H g k) w) : aB prog 60 [P_ d.b, .int .u64 at_] w ((d.H g k).map (·.1)) (fun v H => v = .tuple #[] ∧ ∃ (e : Db) (j : Nat), e.Ok g j n ∧ d.To e ∧ e.done = d.done ∧ e.ms = d.ms ∧ (j : Int) = (Tm.befM d.ms at_).t ∧ j < n ∧ H = e.H g j) := by
 obtain ⟨b, hb, lb, mp, fa, fc, fs, cap, asked, done, q, m, ring, GH, ms, GL, l, c, pv, wv, tab, D⟩ := d
 obtain ⟨hle, hq, hm, hh, hrg, hL, hpk, hfi, hpa, htm, hpl⟩ := hd
 dsimp only at hle hq hm hh hrg hL hpk hfi hpa htm hpl
 refine ZBC fun hst hml => ?_
 obtain ⟨hm0, hm1, hm2⟩ := hL.more o_m
 have hb0 : 0 ≤ Tm.bef ms (at_ : Int) := Tm.bef_nn hL.rise hm0 hm1 o_m
 have hbm := Tm.befM_mem (ms := ms) (x := (at_ : Int)) o_m
 obtain ⟨i9, e9, he9, hek, hfi9⟩ := aCD (i := 0) (hpa.all _ hbm)
 have hel9 := hpa.le e9 he9
 obtain ⟨j, hj⟩ : ∃ j : Nat, (Tm.befM ms (at_ : Int)).t = j := ⟨e9.1.toNat, by rw [← hek]; omega⟩
 have hbt := hj
 have hbl := hpk _ hbm
 rw [hj, show ((j : Nat) : Int).toNat = j from rfl] at hbl
 rw [hj] at hfi9 hek
 have hjn : j < n := by omega
 obtain ⟨pb, pr, GP2, hev, hph, hprg, hGP2⟩ := hpa.his e9 he9
 rw [hek, show ((j : Nat) : Int).toNat = j from rfl] at hph hprg
 rw [hev] at hfi9
 have hiv := hm.inv (hg.inv k)
 have hrl : m.ram.length ≤ 200000 := by rw [hiv.fr.ram]; have := tY g.rom; omega
 have hel := hg.enc_le j
 have hpp : 1 ≤ (cZ (g.enc 0) (g.enc j)).length := by rw [kL, La_]; have := (kH (aS (g.enc 0) (g.enc j))).1; omega
 have hel0 := hg.enc_len j
 have hbk := aBT (hg.inv j) hiv
 have hbk2 : oC m (g.enc j) = ({ g.m j with acc := [] } : Mm) := hbk.2
 refine dO_ func60 hst ?_
 refine ZDH ?_
 refine RX (bI K_ rfl (fun w hw => (by have h9 := Tm.Before_fn lb (capT cap) ms hL.rise o_m (at_ : Int) w (hL.line.lineW hw (fun x hx => .tail _ (.tail _ (mR_ _ (mR_ _ (mL_ _ hx)))))) (hL.dat.datW hw (fun x hx => .tail _ (.tail _ (mR_ _ (mR_ _ (mR_ _ (hx))))))); rw [hbt, hbl] at h9; exact h9))) rfl ?_
 rintro _ _ ⟨_, ⟨dv, rfl, hV0⟩, rfl⟩
 obtain ⟨b0, c0, sp0, e15, rfl, _, hc0, _⟩ := hV0.full o_m
 subst e15
 refine A_15 ?_
 refine RX (bI K_ rfl (fun w hw => aMv fa 0 fc b0 0 c0 (g.enc 0) (g.enc j) o_m o_m (hg.enc_len j).symm hfi.2 hc0 (hg.enc_byts j) w (aA (b := fa) (l := (g.enc 0).map U_ ++ fs) (.tail _ (.tail _ (.tail _ (mR_ _ (mR_ _ (mR_ _ hfi.1)))))) w hw).left (aA (b := b0) (l := (cZ (g.enc 0) (g.enc j)).map U_ ++ sp0) (.head _) w hw).left)) rfl ?_
 rintro _ _ ⟨_, ⟨b1, cx1, sp1, rfl, hc1, rfl⟩, rfl⟩
 refine ZDH ?_
 refine eW (L' := (b, blk (cDb cap (pM q) (P_ hb) k (.slice (Q_ fa) (g.enc 0).length fc) lb mp pv wv asked done tab) 108) :: (mp, bL .u64 (l) (c)) :: (hM q m ++ (GH ++ (GL ++ ((b1, blk ((g.enc j).map U_ ++ sp1) 5) :: (b0, blk ((cZ (g.enc 0) (g.enc j)).map U_ ++ sp0) 5) :: D))))) (fun _ h => St.fl [[(b1, blk ((g.enc j).map U_ ++ sp1) 5)], [(b0, blk ((cZ (g.enc 0) (g.enc j)).map U_ ++ sp0) 5)], [(b, blk (cDb cap (pM q) (P_ hb) k (.slice (Q_ fa) (g.enc 0).length fc) lb mp pv wv asked done tab) 108), (mp, bL .u64 (l) (c))], hM q m, GH, GL, D] [2, 3, 4, 5, 0, 1, 6] rfl h) ?_
 refine ZBn ?_
 refine RX (bB (F := [(b, blk (cDb cap (pM q) (P_ hb) k (.slice (Q_ fa) (g.enc 0).length fc) lb mp pv wv asked done tab) 108), (mp, bL .u64 (l) (c))]) (A := hM q m) (G := GH ++ (GL ++ ((b1, blk ((g.enc j).map U_ ++ sp1) 5) :: (b0, blk ((cZ (g.enc 0) (g.enc j)).map U_ ++ sp0) 5) :: D))) K_ rfl (fun w h1 h2 => (by have h9 := aQC q hq m hiv.wf hiv.rg hrl (Q_ b1) cx1 (g.enc j) (hg.enc_byts j) o_m hc1 _ w h1 (Ns.of (aA (b := b1) (l := (g.enc j).map U_ ++ sp1) (mR_ _ (mR_ _ (mR_ _ (mR_ _ (.head _))))) w h2).left) (fun p hp hb => by cases hp; exact St.notin h2 (x := (b1, blk ((g.enc j).map U_ ++ sp1) 5)) (mR_ _ (mR_ _ (mR_ _ (.head _)))) hb); rw [hbk2] at h9; exact h9))) rfl ?_
 rintro _ _ ⟨_, ⟨rfl, A', va', hq2, hmb, rfl⟩, rfl⟩
 refine A_9 ?_
 refine RZ (aO5 rfl rfl rfl hfi9 (.tail _ (.head _))) rfl (RX (bI K_ rfl (fun w hw => Hs.copy_fn pb 32 j (Hs.callsL (g.sts j)) pr (by have := Hs.callsL_len (g.sts j); omega) w (hph.histW hw (fun x hx => mR_ _ (mR_ _ (mR_ _ (mR_ _ (.tail _ (.tail _ (hGP2 x hx)))))))))) rfl ?_)
 rintro _ _ ⟨G0, ⟨b2, rfl, hH42⟩, rfl⟩
 refine bF (H' := (b, blk (cDb cap (pM q) (P_ hb) k (.slice (Q_ fa) (g.enc 0).length fc) lb mp pv wv asked done tab) 108) :: (mp, bL .u64 (l) (c)) :: (G0 ++ (hM (⟨A', q.tb, q.oT, va'⟩ : MA) ({ g.m j with acc := [] } : Mm) ++ (GH ++ (GL ++ ((b1, blk ((g.enc j).map U_ ++ sp1) 5) :: (b0, blk ((cZ (g.enc 0) (g.enc j)).map U_ ++ sp0) 5) :: D)))))) (fun _ h => St.fl [G0, [(b, blk (cDb cap (pM q) (P_ hb) k (.slice (Q_ fa) (g.enc 0).length fc) lb mp pv wv asked done tab) 108), (mp, bL .u64 (l) (c))], hM (⟨A', q.tb, q.oT, va'⟩ : MA) ({ g.m j with acc := [] } : Mm), GH, GL, ((b1, blk ((g.enc j).map U_ ++ sp1) 5) :: (b0, blk ((cZ (g.enc 0) (g.enc j)).map U_ ++ sp0) 5) :: D)] [1, 0, 2, 3, 4, 5] rfl h) ?_
 refine ZA1 ?_
 refine RZ (xS_ (l' := cDb cap (pM q) (P_ b2) k (.slice (Q_ fa) (g.enc 0).length fc) lb mp pv wv asked done tab) 0) rfl (ZB3 ?_)
 refine RZ (xS_ (l' := cDb cap (pM q) (P_ b2) j (.slice (Q_ fa) (g.enc 0).length fc) lb mp pv wv asked done tab) 0) rfl (ZAA ?_)
 refine ZBL ?_
 have hpm : pM (⟨A', q.tb, q.oT, va'⟩ : MA) = pM q := by unfold pM; dsimp only; rw [hmb]
 refine eY (H' := (b, blk (cDb cap (pM q) (P_ b2) j (.slice (Q_ fa) (g.enc 0).length fc) lb mp pv wv asked done tab) 108) :: (mp, bL .u64 (l) (c)) :: (hM (⟨A', q.tb, q.oT, va'⟩ : MA) ({ g.m j with acc := [] } : Mm) ++ (G0 ++ (GL ++ ((b1, blk ((g.enc j).map U_ ++ sp1) 5) :: (b0, blk ((cZ (g.enc 0) (g.enc j)).map U_ ++ sp0) 5) :: (GH ++ D)))))) (fun _ _ => eT) (fun _ h => St.fl [[(b, blk (cDb cap (pM q) (P_ b2) j (.slice (Q_ fa) (g.enc 0).length fc) lb mp pv wv asked done tab) 108), (mp, bL .u64 (l) (c))], G0, hM (⟨A', q.tb, q.oT, va'⟩ : MA) ({ g.m j with acc := [] } : Mm), GH, GL, [(b1, blk ((g.enc j).map U_ ++ sp1) 5), (b0, blk ((cZ (g.enc 0) (g.enc j)).map U_ ++ sp0) 5)], D] [0, 2, 1, 4, 5, 3, 6] rfl h) ?_
 refine ⟨rfl, ⟨b, b2, lb, mp, fa, fc, fs, cap, asked, done, (⟨A', q.tb, q.oT, va'⟩ : MA), ({ g.m j with acc := [] } : Mm), pr, G0, ms, GL, l, c, pv, wv, tab, ((b1, blk ((g.enc j).map U_ ++ sp1) 5) :: (b0, blk ((cZ (g.enc 0) (g.enc j)).map U_ ++ sp0) 5) :: (GH ++ D))⟩, j, ⟨y_y, hq2, rfl, hH42, hprg, wT hL (fun x hx => (.tail _ (.tail _ (mR_ _ (hx))))), hpk, ⟨(.tail _ (.tail _ (mR_ _ (hfi.1)))), hfi.2⟩, hpa.more (fun x hx => (.tail _ (.tail _ (mR_ _ (hx))))), htm, ?_⟩, ⟨rfl, rfl, rfl, hpm, rfl, rfl, rfl, fun x hx => (.tail _ (.tail _ (mR_ _ (hx))))⟩, rfl, rfl, hbt.symm, hjn, by unfold Db.H Db.cs; dsimp only; rw [hpm]⟩
 obtain ⟨GP, q0, q1⟩ := hpl
 exact ⟨GP, q0, fun x hx => (.tail _ (.tail _ (mR_ _ (q1 x hx))))⟩
def aH2 (d : Db) (g : Gx) (hg : g.Ok) (k n : Nat) (hf : d.Fine g k n) (at_ : Nat) (hat : at_ < 900000) (w : AI) (hst : St w ((d.H g k).map (·.1)) (d.H g k) w) : aB prog 51 [P_ d.b, .int .u64 at_] w ((d.H g k).map (·.1)) (fun v H => v = .tuple #[] ∧ ∃ e, aAG g d e at_ (max n (at_ + 1)) (jF d.ms k at_) H) := by
 obtain ⟨hd, hk, hn, hdn⟩ := hf
 have hml : d.ms.length ≤ 256 := by have := hd.line.len; have := (capT_ok d.cap).2; omega
 obtain ⟨hm0, hm1, hm2⟩ := hd.line.more o_m
 refine dO_ func51 hst ?_
 refine jC (σ := Db × Nat) [4, 5, 6, 7, 8, 9, 10, 11, 12, 13, 14, 15, 16, 17, 18, 19, 20, 21, 22, 23, 24, 25, 26, 27, 28, 29, 30, 31, 32, 33] (fun _ => []) (fun s => s.1.H g s.2) (fun s => s.1.Ok g s.2 n ∧ d.To s.1 ∧ s.1.done = d.done ∧ s.2 < n ∧ s.2 ≤ at_ ∧ (at_ : Int) - s.2 = jF d.ms k at_) ?_ ?_
 ·refine ZBb ?_
  refine ZEQ ?_
  refine ZBL ?_
  refine RX (bI K_ rfl (fun w hw => Tm.Before_fn d.lb (capT d.cap) d.ms hd.line.rise o_m (at_ : Int) w (hd.line.line.lineW hw (fun x hx => .tail _ (.tail _ (mR_ _ (mR_ _ (mL_ _ hx)))))) (hd.line.dat.datW hw (fun x hx => .tail _ (.tail _ (mR_ _ (mR_ _ (mR_ _ (hx))))))))) rfl ?_
  rintro _ _ ⟨G0, ⟨dv, rfl, hV0⟩, rfl⟩
  obtain ⟨a13, c0, rfl, _, _⟩ := hV0.slice
  refine bF (H' := Db.H ({ d with D := G0 ++ d.D } : Db) g k) (fun _ h => St.fl [G0, [_, _], hM d.q d.m, d.GH, d.GL, d.D] [1, 2, 3, 4, 0, 5] rfl h) ?_
  have hD13 : Db.Ok ({ d with D := G0 ++ d.D } : Db) g k n := ⟨hd.le, hd.q, hd.m, hd.hist, hd.ring, wT hd.line (fun x hx => mR_ _ hx), hd.pk, ⟨mR_ _ hd.first.1, hd.first.2⟩, hd.past.more (fun x hx => mR_ _ hx), hd.tms, (by obtain ⟨GP, h8, h9⟩ := hd.plan; exact ⟨GP, h8, fun x hx => mR_ _ (h9 x hx)⟩)⟩
  have hT13 : d.To ({ d with D := G0 ++ d.D } : Db) := ⟨rfl, rfl, rfl, rfl, rfl, rfl, rfl, fun x hx => mR_ _ hx⟩
  refine ZEf ?_
  refine jC (σ := Unit) [17, 18, 19, 20, 21, 22, 23, 24, 25, 26, 27, 28, 29, 30] (fun _ => [(30, .bool (decide ((at_ : Int) < (k : Int)) || decide ((k : Int) < (Tm.befM d.ms (at_ : Int)).t)))]) (fun _ => Db.H ({ d with D := G0 ++ d.D } : Db) g k) (fun _ => True) ?_ ?_
  ·refine ZBb ?_
   refine ZEQ ?_
   refine ZBL ?_
   refine KL (fun q0 z0 => ?_) (fun q0 z0 => ?_)
   ·refine ZEf ?_
    have q1 := ct q0
    exact ⟨(), trivial, .cons (by rw [ah q1]; rfl) .nil, a_g, fun _ h => h⟩
   refine ZBr ?_
   refine ZEQ ?_
   refine ZA1 ?_
   have q1 := c7 q0
   exact ⟨(), trivial, .cons (by rw [bw q1]; rfl) .nil, a_g, fun _ h => h⟩
  rintro _ y1 _
  refine KC (fun q0 z0 => ?_) (fun q0 z0 => ?_)
  ·refine ZA1 ?_
   refine RX (cB K_ rfl (wV_ (aJa ({ d with D := G0 ++ d.D } : Db) g hg k n hD13 hk o_m at_))) rfl ?_
   rintro _ _ ⟨rfl, e, j, he, hT, hdn2, hms2, hj, hjn, rfl⟩
   refine ZBL ?_
   have hb9 := Tm.befM_le hd.line.rise (x := (at_ : Int)) (Tm.bef_nn hd.line.rise hm0 hm1 o_m)
   have hj9 : (j : Int) = (Tm.befM d.ms (at_ : Int)).t := hj
   have q1 := q0
   rw [jt, decide_eq_true_eq, decide_eq_true_eq] at q1
   exact ⟨(e, j), ⟨he, hT13.trans hT, hdn2, hjn, by show j ≤ at_; omega, by show (at_ : Int) - j = jF d.ms k at_; unfold jF; rw [if_pos o_m, hj9]⟩, .nil, a_g, fun _ h => h⟩
  refine ZBL ?_
  have q1 := q0
  rw [Bool.or_eq_false_iff, decide_eq_false_iff_not, decide_eq_false_iff_not] at q1
  exact ⟨(({ d with D := G0 ++ d.D } : Db), k), ⟨hD13, hT13, rfl, hk, by show k ≤ at_; omega, by show (at_ : Int) - k = jF d.ms k at_; unfold jF; rw [if_neg o_m]⟩, .nil, a_g, fun _ h => h⟩
 rintro ⟨e1, j⟩ y2 ⟨he1, hT0, hdn1, hjn, hja, hjc⟩
 dsimp only at he1 hT0 hdn1 hjn hja hjc ⊢
 refine ZBL ?_
 refine bD (σ := Db × Nat) [34, 35, 36, 37, 38, 39, 40, 41] (fun _ => []) (fun s => s.1.H g s.2) (fun s => s.1.Ok g s.2 (max n (s.2 + 1)) ∧ d.To s.1 ∧ s.1.done = d.done + (s.2 - j) ∧ j ≤ s.2 ∧ s.2 ≤ at_) (fun s => at_ - s.2) (e1, j) ?_ ?_ ?_ ?_
 ·exact ⟨by rw [jy (by show j + 1 ≤ n; omega)]; exact he1, hT0, by rw [hdn1]; show d.done = d.done + ((j : Int) - j); omega, av _, hja⟩
 ·exact .nil
 ·exact fun _ h => h
 rintro ⟨e, i⟩ y3 ⟨he, hT, hdn3, hji, hia⟩
 dsimp only at he hT hdn3 hji hia ⊢
 refine ZBn ?_
 refine RZ (aE (v := .int .u64 (i : Nat)) rfl rfl (by rw [← hT.b]; exact aJ (b := e.b) (l := Db.cs e g i) (.head _) rfl)) rfl (ZA1 ?_)
 refine KC (fun q0 z0 => ?_) (fun q0 z0 => ?_)
 ·refine ZBr ?_
  refine RX (cB K_ rfl (fun w hw => (by have h9 := forward_fn e g hg i (max n (i + 1)) he o_m o_m ⟨y_y, y_y⟩ w (St.lentA hw); rw [hT.b] at h9; exact h9))) rfl ?_
  rintro _ _ ⟨e2, va, GA, he2, hT1, hd2, rfl, hV, hGA, rfl⟩
  refine ZBL ?_
  exact ⟨(e2, i + 1), ⟨(show max (max n (i + 1)) (i + 2) = max n (i + 1 + 1) by omega) ▸ he2, hT.trans hT1, by show e2.done = d.done + (((i + 1 : Nat) : Int) - j); omega, by show j ≤ i + 1; omega, by show i + 1 ≤ at_; omega⟩, by show at_ - (i + 1) < at_ - i; omega, .nil, a_g, fun _ h => h⟩
 refine ZBL ?_
 obtain rfl : i = at_ := by omega
 exact EN sR_ ⟨rfl, e, he, hT, by rw [hdn3, hjc], rfl⟩
def aB3 (d : Db) (g : Gx) (hg : g.Ok) (k n : Nat) (hf : d.Fine g k n) (N : Nat) (hN : N < 18446744073709551616) (w : AI) (hst : St w ((d.H g k).map (·.1)) (d.H g k) w) : aB prog 15 [P_ d.b, .int .u64 N] w ((d.H g k).map (·.1)) (fun v H => v = .tuple #[.agg (cSt ((k + (min N 5000) : Nat) : Int) 0 0 false).toArray, .int .i64 0] ∧ ∃ e, aAG g d e (k + (min N 5000)) (max n (k + (min N 5000) + 1)) (((min N 5000) : Nat) : Int) H) := by
 obtain ⟨hd, hk, hn, hdn⟩ := hf
 refine dO_ func15 hst ?_
 refine ZDX fun b0 => ?_
 refine ZBn ?_
 refine ZBF ?_
 refine ZEf ?_
 refine ZDP ?_
 refine bD (σ := Db × Nat) [12, 13, 14, 15, 16] (fun s => [(12, .int .u64 s.2)]) (fun s => (b0, blk (cSt 0 0 0 false) 38) :: s.1.H g (k + s.2)) (fun s => s.1.Ok g (k + s.2) (max n (k + s.2 + 1)) ∧ d.To s.1 ∧ s.1.done = d.done + s.2 ∧ s.2 ≤ min N 5000) (fun s => min N 5000 - s.2) (d, 0) ?_ ?_ ?_ ?_
 ·exact ⟨y_da, .refl d, by show d.done = d.done + 0; omega, al _⟩
 ·exact .cons rfl .nil
 ·exact fun _ h => h
 rintro ⟨e, i⟩ y4 ⟨he, hT, hdn3, hi⟩
 dsimp only at he hT hdn3 hi ⊢
 refine ZBb ?_
 refine KC (fun q0 z0 => ?_) (fun q0 z0 => ?_)
 ·refine ZBb ?_
  refine RX (aR (F := [(b0, blk (cSt 0 0 0 false) 38)]) (A := Db.H e g (k + i)) K_ rfl (fun w hw => y_ep)) rfl ?_
  rintro _ _ ⟨_, ⟨e2, va, GA, he2, hT0, hd2, rfl, hV, hGA, rfl⟩, rfl⟩
  refine ZCu ?_
  refine ZAl ?_
  refine RW (v := (.int .u64 ((i + 1 : Nat) : Int))) rfl rfl (cA_ _ ((eN o_m o_m).trans o_m)) (ZAl ?_)
  exact ⟨(e2, i + 1), ⟨(show max (max n (k + i + 1)) (k + i + 2) = max n (k + (i + 1) + 1) by omega) ▸ he2, hT.trans hT0, y_dx, by show i + 1 ≤ min N 5000; omega⟩, y_dI, .cons rfl .nil, a_g, fun _ h => h⟩
 refine ZBr ?_
 refine RZ (bJ K_ rfl (fun w hw => (by have h9 := rI e.b ((k + i : Nat) : Int) 0 w (aJ (b := e.b) (l := Db.cs e g (k + i)) (.tail _ (.head _)) rfl w hw); rw [hT.b] at h9; exact h9))) rfl (ZAl ?_)
 refine RZ (xS_ (l' := cSt ((k + i : Nat) : Int) 0 0 false) 0) rfl (ZDF ?_)
 refine ZA1 ?_
 obtain rfl : i = min N 5000 := by omega
 exact fM (fun w hw => aY rfl rfl rfl (aA (b := b0) (l := cSt ((k + min N 5000 : Nat) : Int) 0 0 false) (.head _) w hw) rfl) (.cons _ sR_) ⟨rfl, e, he, hT, hdn3, rfl⟩
def aFg (d : Db) (g : Gx) (n : Nat) (hf : d.Fine g 0 n) (N : Nat) (h0 : 0 < N) (w : AI) (hst : St w ((d.H g 0).map (·.1)) (d.H g 0) w) : aB prog 17 [P_ d.b, .int .u64 N] w ((d.H g 0).map (·.1)) (fun v H => v = .tuple #[.agg (cSt ((0 : Nat) : Int) 4 0 false).toArray, .int .i64 0] ∧ H = d.H g 0) := by
 obtain ⟨hd, hk, hn, hdn⟩ := hf
 refine dO_ func17 hst ?_
 refine ZDX fun b0 => ?_
 refine ZDH ?_
 refine RLv K_ (fun w hw => ready_fn d.b d.q.A.mb w (aJ (b := d.b) (l := Db.cs d g 0) (.tail _ (.head _)) rfl w hw)) ?_
 refine A_9 ?_
 refine RZ (aE rfl rfl (aJ (b := d.b) (l := Db.cs d g 0) (.tail _ (.head _)) y_cs)) rfl (ZAQ ?_)
 refine ZAl ?_
 refine ZBD ?_
 refine ZDH ?_
 refine RLv K_ (fun w hw => rI d.b ((0 : Nat) : Int) 4 w (aJ (b := d.b) (l := Db.cs d g (0)) (.tail _ (.head _)) rfl w hw)) ?_
 refine ZAl ?_
 refine RZ (xS_ (l' := cSt ((0 : Nat) : Int) 4 0 false) 0) rfl (ZDF ?_)
 refine ZA1 ?_
 exact fM (fun w hw => aY rfl rfl rfl (aA (b := b0) (l := cSt ((0 : Nat) : Int) 4 0 false) (.head _) w hw) rfl) (.cons _ sR_) ⟨rfl, rfl⟩
def aB4 (d : Db) (g : Gx) (hg : g.Ok) (k n : Nat) (hf : d.Fine g k n) (N : Nat) (h0 : 0 < k ∨ N = 0) (hN : N < 18446744073709551616) (w : AI) (hst : St w ((d.H g k).map (·.1)) (d.H g k) w) : aB prog 17 [P_ d.b, .int .u64 N] w ((d.H g k).map (·.1)) (fun v H => v = .tuple #[.agg (cSt (((k - min N k) : Nat) : Int) 0 0 false).toArray, .int .i64 0] ∧ ∃ e, aAG g d e (k - min N k) (max n ((k - min N k) + 1)) (jF d.ms k (k - min N k)) H) := by
 obtain ⟨hd, hk, hn, hdn⟩ := hf
 refine dO_ func17 hst ?_
 refine ZDX fun b0 => ?_
 refine ZAl ?_
 refine jC (σ := Unit) [6, 7, 8, 9, 10, 11, 12, 13, 14, 15, 16, 17, 18, 19, 20] (fun _ => []) (fun _ => (b0, blk (cSt 0 0 0 false) 38) :: d.H g k) (fun _ => True) ?_ ?_
 ·refine ZBr ?_
  refine ZBF ?_
  refine ZBb ?_
  rcases dr k with hz | hz
  ·refine ZBr ?_
   refine ZDw ?_
   refine cY true rfl rfl rfl (beq_iff_eq.2 o_m) ?_
   refine ZAl ?_
   refine ZAJ ?_
   refine ZBb ?_
   exact ⟨(), trivial, .nil, a_g, fun _ h => h⟩
  refine ZBr ?_
  refine ZDw ?_
  refine ZAB ?_
  refine ZEf ?_
  exact ⟨(), trivial, .nil, a_g, fun _ h => h⟩
 rintro _ y0 _
 refine ZBL ?_
 refine DR [5, 6, 7, 8, 9, 10] (pln [0, 2, 4, 6, 8, 10, 12, 14, 16, 18, 20, 22, 25]) ?_
 refine ZBr ?_
 refine DL rfl rfl rfl (cJ (b := d.b) (l := Db.cs d g k) (.tail _ (.head _)) y_cs) rfl (ZBr ?_)
 refine DL rfl rfl rfl (cJ (b := d.b) (l := Db.cs d g k) (.tail _ (.head _)) y_cs) rfl (DW (v := (.int .u64 ((min N k : Nat) : Int))) rfl (gH rfl rfl) rfl (cA_ _ o_m) (DW (v := (.int .u64 (((k - min N k) : Nat) : Int))) rfl rfl rfl (cA_ _ ((eN o_m o_m).trans o_m)) (DX rfl (aR (F := [(b0, blk (cSt 0 0 0 false) 38)]) (A := Db.H d g k) K_ rfl (wL_ (aH2 d g hg k n ⟨hd, hk, hn, hdn⟩ (k - min N k) o_m))) rfl n_h ?_)))
 rintro _ _ ⟨_, ⟨rfl, e, he, hT, hde, rfl⟩, rfl⟩
 refine eX (H' := (b0, blk (cSt 0 0 0 false) 38) :: e.H g (k - min N k)) (fun _ h => h) ?_
 refine ZBr ?_
 refine RZ (bJ K_ rfl (fun w hw => (by have h9 := rI e.b (((k - min N k) : Nat) : Int) 0 w (aJ (b := e.b) (l := Db.cs e g ((k - min N k))) (.tail _ (.head _)) rfl w hw); rw [hT.b] at h9; exact h9))) rfl (ZAl ?_)
 refine RZ (xS_ (l' := cSt (((k - min N k) : Nat) : Int) 0 0 false) 0) rfl (ZDF ?_)
 refine ZA1 ?_
 exact fM (fun w hw => aY rfl rfl rfl (aA (b := b0) (l := cSt (((k - min N k) : Nat) : Int) 0 0 false) (.head _) w hw) rfl) (.cons _ sR_) ⟨rfl, e, he, hT, hde, rfl⟩
def few_fn (g : Gq) (w : AI) : aB prog 10 [.agg (cGq g).toArray, .slice none 0 0] w [] (V_ (.bool (fewQ g))) := by
 refine dR_ func10 ?_
 refine ZCT ?_
 refine ZAq fun b0 => ?_
 refine ZBn ?_
 refine ZC1 ?_
 refine bD (σ := Unit) [4, 5, 8, 9, 10, 11, 12, 13, 14, 15, 16, 17, 18, 19] (fun _ => [(8, .int .i64 0)]) (fun _ => [(b0, blk (cGq g) 25)]) (fun _ => True) (fun _ => 0) () ?_ ?_ ?_ ?_
 ·exact trivial
 ·exact .cons rfl .nil
 ·exact fun _ h => h
 rintro _ y2 _
 refine ZAl ?_
 refine ZAE ?_
 refine ZEf ?_
 refine ZBE ?_
 refine ZBL ?_
 refine KL (fun q0 z0 => ?_) (fun q0 z0 => ?_)
 ·refine ZAl ?_
  refine ZBE ?_
  refine ZAl ?_
  refine KL (fun q1 z1 => ?_) (fun q1 z1 => ?_)
  ·refine ZBL ?_
   refine ZBE ?_
   refine ZAQ ?_
   refine ZBr ?_
   exact E0 rfl ⟨rfl, (cA_ Value.bool (by unfold fewQ; have h8 := ct q0; have h9 := ct q1; exact (ah o_m).symm))⟩
  refine ZDH ?_
  exact E0 rfl ⟨rfl, (cA_ Value.bool (by unfold fewQ; have h9 := c7 q1; exact (bw (fun h => y_y)).symm))⟩
 refine A_13 ?_
 exact E0 rfl ⟨rfl, (cA_ Value.bool (by unfold fewQ; have h9 := c7 q0; exact (bw (fun h => y_y)).symm))⟩
def rom_fn (g : Gq) (w : AI) (hg : g.Ok w) (hp : g.prog.length ≤ 100000000) : aB prog 13 [.agg (cGq g).toArray] w [] (fun v H => ∃ b, v = .slice (Q_ b) (romQ g).length (romQ g).length ∧ H = [(b, blk ((romQ g).map U_) 5)]) := by
 refine dR_ func13 ?_
 refine ZCT ?_
 refine ZAq fun b0 => ?_
 refine ZEf ?_
 refine RX (bI K_ rfl (fun w hw => aHV g.kind 0 2 hg.kind y_b y_b g.pa g.pc g.prog hp hg.prog w (hg.np.later0 hw))) rfl ?_
 rintro _ _ ⟨G0, ⟨b1, rfl, rfl⟩, rfl⟩
 refine ZA1 ?_
 exact EV rfl (cn _ _) ⟨b1, by rw [romQ_len], rfl⟩
def aOU (w : AI) : aB prog 41 [.int .u8 0, .int .u8 0, .int .u8 0, .slice none 0 0] w [] (fun v H => ∃ b, v = .slice (Q_ b) wH.length wH.length ∧ H = [(b, blk (wH.map U_) 5)]) :=
 (aHV 0 0 0 y_b y_b y_b none 0 [] y_b (fun _ h => y_eO) w (Ns.nil _ _ _)).mono fun _ _ ⟨b, h1, h2⟩ => ⟨b, by rw [h1, aGp], h2⟩
def lE (w : AI) : aB prog 9 [] w [] (V_ (.bool true)) := by
 refine dR_ func9 ?_
 refine ZBn ?_
 refine RX (bI K_ rfl (wQ_ (xG 9))) rfl ?_
 rintro _ _ ⟨G0, ⟨b0, tb, oT, rfl, hT0, rfl⟩, rfl⟩
 refine ZBn ?_
 refine ZAE ?_
 refine ZAl ?_
 refine RX (bI K_ rfl (wQ_ aOU)) rfl ?_
 rintro _ _ ⟨G1, ⟨b1, rfl, rfl⟩, rfl⟩
 refine bF (H' := (b0, blk (cDz 9 (P_ tb)) 108) :: (b1, blk (wH.map U_) 5) :: ([] ++ [(tb, oT)])) (fun _ h => St.fl [[(b1, blk (wH.map U_) 5)], [(b0, blk (cDz 9 (P_ tb)) 108)], [], [(tb, oT)]] [1, 0, 2, 3] rfl h) ?_
 refine RX (cB K_ rfl (fun w hw => uC gx0 aCy b0 9 0 0 _ _ _ _ _ _ _ _ _ b1 [] [(tb, oT)] ⟨.nil, fun _ h => y_cE, y_eP⟩ w (St.lentA hw))) rfl ?_
 rintro _ _ ⟨rfl, e, hE, hb, hcap, hask, hdn, hpv, hwv, htab, hR, rfl⟩
 have hF : e.Fine gx0 0 1 := ⟨hE, y_eP, y_eP, y_dg⟩
 refine ZAE ?_
 refine ZDH ?_
 refine RX (aR (F := []) (A := Db.H e gx0 0) K_ rfl (fun w hw => (by have h9 := aB3 e gx0 aCy 0 1 hF 3 y_b w (St.lentV hw); rw [hb] at h9; exact h9))) rfl ?_
 rintro _ _ ⟨_, ⟨rfl, e1, hG0⟩, rfl⟩
 have hs1 := rD hF.ok y_b 3
 have hF1 := hF.goes hG0 y_b y_b ⟨y_eP, y_dg⟩
 obtain ⟨hO1, hT1, hd1, rfl⟩ := hG0
 have hF1 : e1.Fine gx0 3 4 := hF1
 have hb1 : e1.b = b0 := hT1.b.trans hb
 refine bF (H' := Db.H e1 gx0 3) (fun _ h => h) ?_
 refine ZEI ?_
 rintro _ _ ⟨b2, rfl, rfl⟩
 refine RZ (xS_ (l' := cSt 3 0 0 false) 0) rfl (ZDF ?_)
 refine ZBb ?_
 refine RX (aR (F := [(b2, blk (cSt 3 0 0 false) 38)]) (A := Db.H e1 gx0 3) K_ rfl (fun w hw => (by have h9 := aB4 e1 gx0 aCy 3 4 hF1 2 (.inl y_b) y_b w (St.lentV hw); rw [hb1] at h9; exact h9))) rfl ?_
 rintro _ _ ⟨_, ⟨rfl, e2, hG1⟩, rfl⟩
 have hs2 : 0 ≤ jF e1.ms 3 (3 - min 2 3) ∧ jF e1.ms 3 (3 - min 2 3) ≤ (1 : Nat) := rD hF1.ok y_b 1
 have hF2 := hF1.goes hG1 y_b y_b (by have := hF1.done; omega)
 obtain ⟨hO2, hT2, hd2, rfl⟩ := hG1
 have hF2 : e2.Fine gx0 1 4 := hF2
 have hb2 : e2.b = b0 := hT2.b.trans hb1
 refine bF (H' := (b2, blk (cSt 3 0 0 false) 38) :: Db.H e2 gx0 1) (fun _ h => h) ?_
 refine ZEI ?_
 rintro _ _ ⟨b3, rfl, rfl⟩
 refine RZ (xS_ (l' := cSt 1 0 0 false) 0) rfl (ZDF ?_)
 refine ZBb ?_
 refine RX (aR (F := [(b3, blk (cSt 1 0 0 false) 38), (b2, blk (cSt 3 0 0 false) 38)]) (A := Db.H e2 gx0 1) K_ rfl (fun w hw => (by have h9 := aB4 e2 gx0 aCy 1 4 hF2 5 (.inl y_b) y_b w (St.lentV hw); rw [hb2] at h9; exact h9))) rfl ?_
 rintro _ _ ⟨_, ⟨rfl, e3, hG2⟩, rfl⟩
 have hs3 : 0 ≤ jF e2.ms 1 (1 - min 5 1) ∧ jF e2.ms 1 (1 - min 5 1) ≤ (0 : Nat) := rD hF2.ok y_b 0
 have hF3 := hF2.goes hG2 y_b y_b (by have := hF2.done; omega)
 obtain ⟨hO3, hT3, hd3, rfl⟩ := hG2
 have hF3 : e3.Fine gx0 0 4 := hF3
 have hb3 : e3.b = b0 := hT3.b.trans hb2
 refine bF (H' := (b3, blk (cSt 1 0 0 false) 38) :: (b2, blk (cSt 3 0 0 false) 38) :: Db.H e3 gx0 0) (fun _ h => h) ?_
 refine ZEI ?_
 rintro _ _ ⟨b4, rfl, rfl⟩
 refine ZAW ?_
 refine ZBb ?_
 refine RX (aR (F := [(b4, blk (cSt 0 0 0 false) 38), (b3, blk (cSt 1 0 0 false) 38), (b2, blk (cSt 3 0 0 false) 38)]) (A := Db.H e3 gx0 0) K_ rfl (fun w hw => (by have h9 := aFg e3 gx0 4 hF3 1 y_b w (St.lentV hw); rw [hb3] at h9; exact h9))) rfl (ZAj ?_)
 refine bF (H' := (b4, blk (cSt 0 0 0 false) 38) :: (b3, blk (cSt 1 0 0 false) 38) :: (b2, blk (cSt 3 0 0 false) 38) :: Db.H e3 gx0 0) (fun _ h => h) ?_
 refine ZEI ?_
 rintro _ _ ⟨b5, rfl, rfl⟩
 refine RZ (xS_ (l' := cSt 0 4 0 false) 0) rfl (ZDF ?_)
 refine ZBn ?_
 refine ZAQ ?_
 refine ZAl ?_
 refine ZAQ ?_
 refine ZBr ?_
 refine ZAQ ?_
 refine ZA1 ?_
 refine ZAQ ?_
 refine ZAl ?_
 refine RZ (aK rfl rfl rfl y_ba) rfl (RS ?_)
 refine aJm (ks := [.int .u64, .int .i64, .int .i64, .bool]) rfl rfl y_f y_f rfl rfl rfl rfl (b := true) rfl ?_
 refine ZBr ?_
 refine ZAQ ?_
 refine ZA1 ?_
 refine RZ (bJ K_ rfl (fun w hw => (by have h9 := mach_fn e3.b e3.q.A.mb w (aJ (b := e3.b) (l := Db.cs e3 gx0 0) (.tail _ (.tail _ (.tail _ (.tail _ (.head _))))) rfl w hw); rw [hb3] at h9; exact h9))) rfl (ZAQ ?_)
 exact ZAi
end Go.Proofs.YtacejanlmhbddaaGreat
