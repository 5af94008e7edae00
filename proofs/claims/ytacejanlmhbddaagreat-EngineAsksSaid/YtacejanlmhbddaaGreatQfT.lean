/- Parts. -/
import Derived.Test.YtacejanlmhbddaaGreatQfQ
import Derived.Test.YtacejanlmhbddaaGreatQfR
set_option maxRecDepth 100000
set_option maxHeartbeats 1000000
set_option linter.all false
namespace Go.VV
open Go Go.RowKit
def aER {P : AL} {f : FuncId} {fn : Func} (hf : P.funcs[f]? = some fn) (hname : (fn.name == "runtime.NumGoroutine") = false) (hb : fn.body.isNone = true) (hn : Extern.findNext fn = none) (k : AM)
  (he : Extern.find fn = some (Extern.Atomic.swapT (.int k))) {a : Addr} {x y : Int} {w : AI} (hc : w.cell? a = some (.int k x)) (hz : w.frozen? a = false) :
  (callFunc f #[.pointer (some a), .int k y]).run P w = .ok (.value (.int k x)) (w.setCell a (.int k y)) := by
 rw [run_callFunc_extern hf hname hb hn he]
 change (Sem.run P (do
  let a' ← asAddr (.pointer (some a))
  let old ← Extern.Atomic.read (.int k) a'
  store a' (.int k y) .atomic
  pure old) w).andThen _ = _
 simp [Extern.Atomic.read, asAddr, hc, hz, run_store P w a (.int k y) .atomic rfl, Result.andThen]
section
variable {Γ : Ctx} {e : Env} {H : aC} {d : AD} {ty : AJ} {pos : String} {af : AG} {g : Option (Nat × Bool)} {f : Nat} {fn : Func} {l : AF} {ts : Array AJ} {b off : Nat} {cs : AA} {T : AJ}
def aPg (i : Nat) {k : AM} {y : Int} {u : AH} (hf : Γ.P.funcs[f]? = some fn) (hname : (fn.name == "runtime.NumGoroutine") = false) (hb : fn.body.isNone = true) (hn : Extern.findNext fn = none)
  (he : Extern.find fn = some Extern.Atomic.storeT) (hv : evs e l = some [.pointer (some ⟨b, off, none⟩), .int k y]) (hi : H[i]? = some (b, blk cs T)) (hc : cs[off]? = some u) :
  Op1 Γ ⟨d, .call ⟨.value (.func f), l.toArray, ts⟩, ty, pos, af, g⟩ e H (fun u H' => u = .tuple #[] ∧ H' = H.set i (b, blk (cs.set off (.int k y)) T)) := fun w hw => by
 have hg : w.heap[b]? = some (blk cs T) := hw.own_blk (bq hi)
 exact cH (World.ext_run hv (run_call_store hf hname hb hn he (by rw [gX hg]; simpa using hc) (nM hg))) ⟨_, hw.setIx i hi _, rfl, rfl⟩
def aIa (i : Nat) (k : AM) {x y : Int} (hf : Γ.P.funcs[f]? = some fn) (hname : (fn.name == "runtime.NumGoroutine") = false) (hb : fn.body.isNone = true) (hn : Extern.findNext fn = none)
  (he : Extern.find fn = some (Extern.Atomic.swapT (.int k))) (hv : evs e l = some [.pointer (some ⟨b, off, none⟩), .int k y]) (hi : H[i]? = some (b, blk cs T)) (hc : cs[off]? = some (.int k x)) :
  Op1 Γ ⟨d, .call ⟨.value (.func f), l.toArray, ts⟩, ty, pos, af, g⟩ e H (fun u H' => u = .int k x ∧ H' = H.set i (b, blk (cs.set off (.int k y)) T)) := fun w hw => by
 have hg : w.heap[b]? = some (blk cs T) := hw.own_blk (bq hi)
 exact cH (World.ext_run hv (aER hf hname hb hn k he (by rw [gX hg]; simpa using hc) (nM hg))) ⟨_, hw.setIx i hi _, rfl, rfl⟩
end
end Go.VV
namespace Go.Proofs.YtacejanlmhbddaaGreat
open Go Go.VV Go.Proofs Go.RowKit Go.Proofs.Tryz
def aQA (w : AI) : aB prog 107 [.bool true] w [] (V_ (.int .u32 1)) := by
 refine dR_ func107 ?_
 refine ZDH ?_
 exact ZE2
def aHo (w : AI) : aB prog 107 [.bool false] w [] (V_ (.int .u32 0)) := by
 refine dR_ func107 ?_
 refine ZDH ?_
 refine ZAE ?_
 refine ZEf ?_
 exact E0 rfl ⟨rfl, rfl⟩
def aKV (b o : Nat) (cs : AA) (T : AJ) (u : AH) (hc : cs[o]? = some u) (w : AI) (hst : St w [b] [(b, blk cs T)] w) : aB prog 57 [.pointer (some ⟨b, o, none⟩), .bool true] w [b] (fun v H => v = .tuple #[] ∧ H = [(b, blk (cs.set o (.int .u32 1)) T)]) := by
 refine dO_ func57 hst ?_
 refine DR [] (pln [0, 2, 4, 6, 9, 11]) ?_
 refine ZBr ?_
 exact DZ rfl (bJ K_ rfl (wQ_ aQA)) rfl n_h (DZ rfl (aPg (b := b) (off := o) (cs := cs) (T := T) 0 func106 y_f y_f y_f y_f rfl rfl hc) rfl n_h ZC2)
def aKW (b o : Nat) (cs : AA) (T : AJ) (hc : cs[o]? = some (.int .u32 0)) (w : AI) (hst : St w [b] [(b, blk cs T)] w) : aB prog 108 [.pointer (some ⟨b, o, none⟩), .bool false] w [b] (fun v H => v = .bool false ∧ H = [(b, blk (cs.set o (.int .u32 0)) T)]) := by
 refine dO_ func108 hst ?_
 refine ZBb ?_
 refine DR [] (pln [0, 2, 4, 6, 9, 11, 12, 14]) ?_
 refine ZBr ?_
 refine DZ rfl (bJ K_ rfl (wQ_ aHo)) rfl n_h (DZ rfl (aIa (b := b) (off := o) (cs := cs) (T := T) 0 .u32 (x := 0) func145 y_f y_f y_f y_f rfl rfl hc) rfl n_h (ZBr ?_))
 exact EV rfl sR_ ⟨rfl, rfl⟩
def aL1 (b o : Nat) (cs : AA) (T : AJ) (hc : cs[o]? = some (.int .u32 1)) (w : AI) (hst : St w [b] [(b, blk cs T)] w) : aB prog 108 [.pointer (some ⟨b, o, none⟩), .bool false] w [b] (fun v H => v = .bool true ∧ H = [(b, blk (cs.set o (.int .u32 0)) T)]) := by
 refine dO_ func108 hst ?_
 refine ZBb ?_
 refine DR [] (pln [0, 2, 4, 6, 9, 11, 12, 14]) ?_
 refine ZBr ?_
 refine DZ rfl (bJ K_ rfl (wQ_ aHo)) rfl n_h (DZ rfl (aIa (b := b) (off := o) (cs := cs) (T := T) 0 .u32 (x := 1) func145 y_f y_f y_f y_f rfl rfl hc) rfl n_h (ZBr ?_))
 exact EV rfl sR_ ⟨rfl, rfl⟩
def aQE (b : Nat) (cs : AA) (T : AJ) (u : AH) (hc : cs[9]? = some u) (w : AI) (hst : St w [b] [(b, blk cs T)] w) : aB prog 27 [P_ b] w [b] (fun v H => v = .tuple #[] ∧ H = [(b, blk (cs.set 9 (.int .u32 1)) T)]) := by
 refine dO_ func27 hst ?_
 refine ZA1 ?_
 refine ZAQ ?_
 refine ZBn ?_
 exact RZ (cB K_ rfl (wV_ (aKV b 9 cs T u hc))) rfl ZC2
def aNK (w : AI) : aB prog 59 [] w [] (V_ (.bool false)) := by
 refine dR_ func59 ?_
 refine A_9 ?_
 exact E0 rfl ⟨rfl, rfl⟩
def aQi {b b2 : Nat} (h : b = b2) (o : Nat) (cs : AA) (T : AJ) (hc : cs[o]? = some (.int .u32 0)) (w : AI) (hst : St w [b] [(b, blk cs T)] w) : aB prog 108 [.pointer (some ⟨b2, o, none⟩), .bool false] w [b] (fun v H => v = .bool false ∧ H = [(b, blk (cs.set o (.int .u32 0)) T)]) := by
 subst h; exact aKW b o cs T hc w hst
def aPZ {b b2 : Nat} (h : b = b2) (o : Nat) (cs : AA) (T : AJ) (hc : cs[o]? = some (.int .u32 1)) (w : AI) (hst : St w [b] [(b, blk cs T)] w) : aB prog 108 [.pointer (some ⟨b2, o, none⟩), .bool false] w [b] (fun v H => v = .bool true ∧ H = [(b, blk (cs.set o (.int .u32 0)) T)]) := by
 subst h; exact aL1 b o cs T hc w hst
def aRS (d : Db) (g : Gx) (hg : g.Ok) (k n : Nat) (hd : d.Ok g k n) (hpv : d.pv = .slice none 0 0) (hwv : d.wv = .slice none 0 0) (va : AH) {w0 : AI} {bs : AE} {H9 : aC} (w : AI) (hst : St w0 bs H9 w) (hs : ∀ x ∈ d.H g k, x ∈ H9) : aB prog 109 [P_ d.b, va] w [] (V_ (.agg (cSt (k : Nat) 0 0 false).toArray)) := by
 have q1 := aJ (b := d.b) (l := d.cs g k) (off := 1) (hs _ (.head _)) rfl w hst
 have q3 := aJ (b := d.b) (l := d.cs g k) (off := 3) (hs _ (.head _)) rfl w hst
 have q7 := aJ (b := d.b) (l := d.cs g k) (off := 7) (hs _ (.head _)) rfl w hst
 have q8 := aJ (b := d.b) (l := d.cs g k) (off := 8) (hs _ (.head _)) rfl w hst
 rw [hpv] at q7
 rw [hwv] at q8
 have hiv := hd.m.inv (hg.inv k)
 have hr := aA (b := d.q.A.mb) (l := cMm d.q.A d.q.va d.m) (hs _ (.tail _ (.tail _ (mL_ _ (.tail _ (.head _)))))) w hst
 refine dR_ func109 ?_
 refine ZDX fun b0 => ?_
 refine ZBn ?_
 refine RZ (aE rfl rfl (aV q1 y_r)) rfl (RLv K_ (fun w hw => aAg d.q.A d.q.va d.m hiv.wf.ln w (aN hr y_r w hw)) ?_)
 refine ZBL ?_
 refine RY (xP rfl rfl rfl rfl rfl) rfl (ZEf ?_)
 refine RZ (aE rfl rfl (aV q7 y_r)) rfl (ZC1 ?_)
 refine bD (σ := Unit) [6, 7, 26, 27, 28, 29, 30, 31, 32, 33, 34, 35, 36, 37, 38, 39, 40, 41, 42, 43, 44, 45, 46, 47, 48, 49, 50, 51, 52, 53, 54, 55, 56, 57] (fun _ => [(26, .int .i64 0)]) (fun _ => [(b0, blk (cSt 0 0 0 false) 38)]) (fun _ => True) (fun _ => 0) () ?_ ?_ ?_ ?_
 ·exact trivial
 ·exact .cons rfl .nil
 ·exact fun _ h => h
 rintro _ y26 _
 refine ZAl ?_
 refine ZAE ?_
 refine A_10 ?_
 refine RZ (aE rfl rfl (aV q8 y_r)) rfl (ZC1 ?_)
 refine bD (σ := Unit) [8, 9, 11, 12, 13, 63, 64, 65, 66, 67, 68, 69, 70, 71, 72, 73, 74, 75, 76, 77, 78, 79, 80, 81, 82, 83, 84, 85, 86, 87, 88, 89, 90] (fun _ => [(63, .int .i64 0)]) (fun _ => [(b0, blk (cSt 0 0 0 false) 38)]) (fun _ => True) (fun _ => 0) () ?_ ?_ ?_ ?_
 ·exact trivial
 ·exact .cons rfl .nil
 ·exact fun _ h => h
 rintro _ y63 _
 refine ZAl ?_
 refine ZAE ?_
 refine A_9 ?_
 refine RZ (aE rfl rfl (aV q3 y_r)) rfl (RS ?_)
 refine RZ (xS_ (l' := cSt (k : Nat) 0 0 false) 0) rfl (ZDF ?_)
 refine ZAl ?_
 exact aG (fun w hw => aW rfl rfl rfl (aA (b := b0) (l := cSt (k : Nat) 0 0 false) (.head _) w hw)) ⟨rfl, rfl⟩
def aM6 (d : Db) (g : Gx) (hg : g.Ok) (k n : Nat) (hf : d.Fine g k n) (N : Nat) (hN : N < 18446744073709551616) (hpv : d.pv = .slice none 0 0) (hwv : d.wv = .slice none 0 0) (ha0 : d.asked = 0) (w : AI) (hst : St w ((d.H g k).map (·.1)) (d.H g k) w) : aB prog 58 [P_ d.b, .int .u64 N, .func (.func 59) #[] #[]] w ((d.H g k).map (·.1)) (fun v H => v = .tuple #[.agg (cSt ((k + (min N 5000) : Nat) : Int) 3 0 false).toArray, .int .i64 0] ∧ ∃ e, aAG g d e (k + (min N 5000)) (max n (k + (min N 5000) + 1)) (((min N 5000) : Nat) : Int) H) := by
 obtain ⟨hd, hk, hn, hdn⟩ := hf
 refine dO_ func58 hst ?_
 refine ZDX fun b0 => ?_
 refine ZBn ?_
 refine ZDP ?_
 refine bD (σ := Db × Nat) [7, 8, 11, 12, 13, 14, 15, 16, 17, 18, 19, 20, 21, 22, 23, 24, 25, 26, 27, 28, 29, 30, 31, 32, 33, 34, 35] (fun s => [(11, .int .u64 s.2)]) (fun s => (b0, blk (cSt 0 0 0 false) 38) :: s.1.H g (k + s.2)) (fun s => s.1.Ok g (k + s.2) (max n (k + s.2 + 1)) ∧ d.To s.1 ∧ s.1.done = d.done + s.2 ∧ s.2 ≤ min N 5000) (fun s => min N 5000 - s.2) (d, 0) ?_ ?_ ?_ ?_
 ·exact ⟨y_da, .refl d, by show d.done = d.done + 0; omega, al _⟩
 ·exact .cons rfl .nil
 ·exact fun _ h => h
 rintro ⟨e, i⟩ y4 ⟨he, hT, hdn3, hi⟩
 dsimp only at he hT hdn3 hi ⊢
 have hea : e.asked = 0 := hT.asked.trans ha0
 have hc9 : (Db.cs e g (k + i))[9]? = some (.int .u32 0) := by show some (Value.int .u32 e.asked) = _; rw [hea]
 have hset : (Db.cs e g (k + i)).set 9 (.int .u32 0) = Db.cs e g (k + i) := by unfold Db.cs; rw [hea]; rfl
 refine ZBb ?_
 refine KC (fun q0 z0 => ?_) (fun q0 z0 => ?_)
 ·refine A_9 ?_
  refine RX (bB (F := [(b0, blk (cSt 0 0 0 false) 38)]) (A := [(e.b, blk (Db.cs e g (k + i)) 108)]) (G := (e.mp, bL .u64 e.l e.c) :: (hM e.q e.m ++ (e.GH ++ (e.GL ++ e.D)))) K_ rfl (fun w q0 _ => aQi hT.b 9 (Db.cs e g (k + i)) 108 hc9 w q0)) rfl (ZAj ?_)
  rw [hset]
  refine bF (H' := (b0, blk (cSt 0 0 0 false) 38) :: e.H g (k + i)) (fun _ h => h) ?_
  refine ZEf ?_
  refine RX (aR (F := [(b0, blk (cSt 0 0 0 false) 38)]) (A := Db.H e g (k + i)) K_ rfl (fun w hw => y_ep)) rfl ?_
  rintro va _ ⟨_, ⟨e2, _, GA, he2, hT0, hd2, rfl, hV, hGA, rfl⟩, rfl⟩
  refine ZCu ?_
  have hT3 := hT.trans hT0
  obtain ⟨aa, ac, rfl⟩ := hV.slice
  refine RZ (bJ K_ rfl (fun w hw => (by have h9 := aRS e2 g hg (k + i + 1) _ he2 (hT3.pv.trans hpv) (hT3.wv.trans hwv) (.slice aa (g.m (k + i + 1)).acc.length ac) w hw (fun x hx => .tail _ hx); rw [hT3.b] at h9; exact h9))) rfl (ZAu fun b1 => ?_)
  refine RZ (xS_ (l' := cSt ((k + i + 1 : Nat) : Int) 0 0 false) 0) rfl (ZDF ?_)
  refine ZBb ?_
  refine ZAE ?_
  refine ZBn ?_
  refine RZ (xE (A := []) (B := []) rfl K_ rfl (wQ_ aNK)) rfl (ZBL ?_)
  refine iO false rfl rfl ?_
  refine ZAl ?_
  refine RW (v := (.int .u64 ((i + 1 : Nat) : Int))) rfl rfl (cA_ _ ((eN o_m o_m).trans o_m)) (ZAl ?_)
  exact ⟨(e2, i + 1), ⟨(show max (max n (k + i + 1)) (k + i + 2) = max n (k + (i + 1) + 1) by omega) ▸ he2, hT3, y_dx, by show i + 1 ≤ min N 5000; omega⟩, y_dI, .cons rfl .nil, a_g, fun _ h => h.sub (.cons _ sR_)⟩
 refine ZBr ?_
 refine RZ (bJ K_ rfl (fun w hw => (by have h9 := rI e.b ((k + i : Nat) : Int) 3 w (aJ (b := e.b) (l := Db.cs e g (k + i)) (.tail _ (.head _)) rfl w hw); rw [hT.b] at h9; exact h9))) rfl (ZAl ?_)
 refine RZ (xS_ (l' := cSt ((k + i : Nat) : Int) 3 0 false) 0) rfl (ZDF ?_)
 refine ZA1 ?_
 obtain rfl : i = min N 5000 := by omega
 exact fM (fun w hw => aY rfl rfl rfl (aA (b := b0) (l := cSt ((k + min N 5000 : Nat) : Int) 3 0 false) (.head _) w hw) rfl) (.cons _ sR_) ⟨rfl, e, he, hT, hdn3, rfl⟩
def aRU (d : Db) (g : Gx) (k : Nat) (N : Nat) (h0 : 0 < N) (hN : N < 18446744073709551616) (ha1 : d.asked = 1) (fv : AH) (w : AI) (hst : St w ((d.H g k).map (·.1)) (d.H g k) w) : aB prog 58 [P_ d.b, .int .u64 N, fv] w ((d.H g k).map (·.1)) (fun v H => v = .tuple #[.agg (cSt ((k : Nat) : Int) 5 0 false).toArray, .int .i64 0] ∧ H = Db.H ({ d with asked := 0 } : Db) g k) := by
 have hc9 : (Db.cs d g k)[9]? = some (.int .u32 1) := by show some (Value.int .u32 d.asked) = _; rw [ha1]
 refine dO_ func58 hst ?_
 refine ZDX fun b0 => ?_
 refine ZBn ?_
 refine ZDP ?_
 refine bD (σ := Unit) [7, 8, 11, 12, 13, 14, 15, 16, 17, 18, 19, 20, 21, 22, 23, 24, 25, 26, 27, 28, 29, 30, 31, 32, 33, 34, 35] (fun _ => [(11, .int .u64 0)]) (fun _ => (b0, blk (cSt 0 0 0 false) 38) :: d.H g k) (fun _ => True) (fun _ => 0) () ?_ ?_ ?_ ?_
 ·exact trivial
 ·exact .cons rfl .nil
 ·exact fun _ h => h
 rintro _ y4 _
 refine ZAl ?_
 refine ZBD ?_
 refine A_12 ?_
 refine RX (bB (F := [(b0, blk (cSt 0 0 0 false) 38)]) (A := [(d.b, blk (Db.cs d g k) 108)]) (G := (d.mp, bL .u64 d.l d.c) :: (hM d.q d.m ++ (d.GH ++ (d.GL ++ d.D)))) K_ rfl (fun w h1 _ => aPZ rfl 9 (Db.cs d g k) 108 hc9 w h1)) rfl (ZAj ?_)
 refine bF (H' := (b0, blk (cSt 0 0 0 false) 38) :: Db.H ({ d with asked := 0 } : Db) g k) (fun _ h => h) ?_
 refine ZBb ?_
 refine RLv K_ (fun w hw => rI d.b ((k : Nat) : Int) 5 w (aJ (b := d.b) (l := Db.cs ({ d with asked := 0 } : Db) g (k)) (.tail _ (.head _)) rfl w hw)) ?_
 refine ZAl ?_
 refine RZ (xS_ (l' := cSt ((k : Nat) : Int) 5 0 false) 0) rfl (ZDF ?_)
 exact ZDM
def aOB (d : Db) (g : Gx) (hg : g.Ok) (k n : Nat) (hf : d.Fine g k n) (N : Nat) (hN : N < 18446744073709551616) (hpv : d.pv = .slice none 0 0) (hwv : d.wv = .slice none 0 0) (ha0 : d.asked = 0) (w : AI) (hst : St w ((d.H g k).map (·.1)) (d.H g k) w) : aB prog 28 [P_ d.b, .int .u64 N] w ((d.H g k).map (·.1)) (fun v H => v = .tuple #[.agg (cSt ((k + (min N 5000) : Nat) : Int) 3 0 false).toArray, .int .i64 0] ∧ ∃ e, aAG g d e (k + (min N 5000)) (max n (k + (min N 5000) + 1)) (((min N 5000) : Nat) : Int) H) := by
 refine dO_ func28 hst ?_
 refine ZDX fun b0 => ?_
 refine ZBn ?_
 refine ZBF ?_
 refine ZEf ?_
 refine RX (aR (F := [(b0, blk (cSt 0 0 0 false) 38)]) (A := Db.H d g k) K_ rfl (fun w hw => aM6 d g hg k n hf N hN hpv hwv ha0 w (St.lentV hw))) rfl ?_
 rintro _ _ ⟨_, ⟨rfl, e, hG⟩, rfl⟩
 refine ZCu ?_
 refine ZAl ?_
 refine RZ (xS_ (l' := cSt ((k + (min N 5000) : Nat) : Int) 3 0 false) 0) rfl (ZDF ?_)
 refine ZA1 ?_
 exact fM (fun w hw => aY rfl rfl rfl (aA (b := b0) (l := cSt ((k + (min N 5000) : Nat) : Int) 3 0 false) (.head _) w hw) rfl) (.cons _ sR_) ⟨rfl, e, hG⟩
def aNF (d : Db) (g : Gx) (k : Nat) (N : Nat) (h0 : 0 < N) (hN : N < 18446744073709551616) (ha1 : d.asked = 1) (w : AI) (hst : St w ((d.H g k).map (·.1)) (d.H g k) w) : aB prog 28 [P_ d.b, .int .u64 N] w ((d.H g k).map (·.1)) (fun v H => v = .tuple #[.agg (cSt ((k : Nat) : Int) 5 0 false).toArray, .int .i64 0] ∧ H = Db.H ({ d with asked := 0 } : Db) g k) := by
 refine dO_ func28 hst ?_
 refine ZDX fun b0 => ?_
 refine ZBn ?_
 refine ZBF ?_
 refine ZEf ?_
 refine RX (aR (F := [(b0, blk (cSt 0 0 0 false) 38)]) (A := Db.H d g k) K_ rfl (wL_ (aRU d g k N h0 hN ha1 _))) rfl (ZAj ?_)
 refine ZCu ?_
 refine ZAl ?_
 refine RZ (xS_ (l' := cSt ((k : Nat) : Int) 5 0 false) 0) rfl (ZDF ?_)
 exact ZDM
def aPF {b b2 : Nat} (h : b = b2) (cs : AA) (T : AJ) (u : AH) (hc : cs[9]? = some u) (w : AI) (hst : St w [b] [(b, blk cs T)] w) : aB prog 27 [P_ b2] w [b] (fun v H => v = .tuple #[] ∧ H = [(b, blk (cs.set 9 (.int .u32 1)) T)]) := by
 subst h; exact aQE b cs T u hc w hst
def aRm (g : Gq) (n : Int) (hn : 0 ≤ n ∧ n < 256) (w : AI) (hg : g.Ok w) : aB prog 5 [.agg (cGq g).toArray, .int .u8 n] w [] (V_ (.bool true)) := by
 obtain ⟨N, hN⟩ : ∃ N : Nat, (N : Int) = 1 + n % 50 := ⟨(1 + n % 50).toNat, y_y⟩
 have hmin : 0 + min N 5000 = N := by omega
 refine dR_ func5 ?_
 refine ZCT ?_
 refine ZAq fun b0 => ?_
 refine ZBb ?_
 refine RLv K_ (wQ_ lE) ?_
 refine ZAl ?_
 refine ZCI ?_
 refine ZA1 ?_
 refine KC (fun q0 z0 => ?_) (fun q0 z0 => ?_)
 ·refine ZAl ?_
  refine RLv K_ (wQ_ lE) ?_
  exact ZAR
 refine ZAl ?_
 refine ZFK fun hf9 hf8 => ?_
 refine ZBL ?_
 refine RX (bI K_ rfl (wQ_ (xG 9))) rfl ?_
 rintro _ _ ⟨G0, ⟨b1, tb, oT, rfl, hT0, rfl⟩, rfl⟩
 refine ZAl ?_
 refine jC (σ := Db × AC × Nat) [4, 20, 21, 22, 23, 24, 25, 26] (fun _ => []) (fun s => s.1.H (g.gx s.2.1 s.2.2) 0) (fun s => errH (romQ g) = 0 ∧ s.1.Ok (g.gx s.2.1 s.2.2) 0 1 ∧ s.1.b = b1 ∧ s.1.cap = 9 ∧ s.1.asked = 0 ∧ s.1.done = 0 ∧ s.1.pv = .slice none 0 0 ∧ s.1.wv = .slice none 0 0) ?_ ?_
 ·refine ZBL ?_
  by_cases he9 : errH (romQ g) = 0
  ·refine ZDI ?_
   refine ZBp ?_
   refine ZAo ?_
   refine ZBR fun b2 => ?_
   rintro _ _ ⟨Gp, ⟨pa, pc, rfl, hP⟩, rfl⟩
   refine eX (H' := (b1, blk (cDz 9 (P_ tb)) 108) :: (b2, blk ((romQ g).map U_) 5) :: (Gp ++ [(tb, oT)])) (fun _ h => St.fl [Gp, [(b2, blk ((romQ g).map U_) 5)], [(b1, blk (cDz 9 (P_ tb)) 108)], [(tb, oT)], [_]] [2, 1, 0, 3] rfl h) ?_
   refine DX rfl (cB K_ rfl (fun w hw => uC (g.gx pa pc) (hg.gx he9 hf9 pa pc) b1 9 0 0 _ _ _ _ _ _ _ _ _ b2 Gp [(tb, oT)] hP w (St.lentA hw))) rfl n_h ?_
   rintro _ _ ⟨rfl, e, hE, hb, hcap, hask, hdn, hpv, hwv, htab, hR, rfl⟩
   refine xO false rfl rfl rfl rfl rfl ?_
   exact ZE3
  refine ZDI ?_
  refine ZBp ?_
  refine ZAo ?_
  refine ZBR fun b2 => ?_
  rintro _ _ ⟨Gp, ⟨pa, pc, rfl, hP⟩, rfl⟩
  refine eX (H' := (b1, blk (cDz 9 (P_ tb)) 108) :: [(b2, blk ((romQ g).map U_) 5)]) (fun _ h => St.fl [Gp, [(b2, blk ((romQ g).map U_) 5)], [(b1, blk (cDz 9 (P_ tb)) 108)], [_, _]] [2, 1] rfl h) ?_
  refine DX rfl (bB (F := []) (A := [(b1, blk (cDz 9 (P_ tb)) 108)]) (G := [(b2, blk ((romQ g).map U_) 5)]) K_ rfl (fun w q0 h2 => uY (romQ g) y_b5 (lA hg) he9 pa g.plan.length pc b1 9 0 0 _ _ _ _ _ _ _ _ _ b2 [] w (aA (b := b2) (.tail _ (.head _)) w h2) (St.notin (A := [(b1, blk (cDz 9 (P_ tb)) 108)]) h2 (x := (b2, blk ((romQ g).map U_) 5)) (.head _)) q0)) rfl n_h (ZAj ?_)
  exact ZEL
 rintro ⟨e, pa, pc⟩ y4 ⟨he9, hE, hb, hcap, hask, hdn, hpv, hwv⟩
 dsimp only at hE hb hcap hask hdn hpv hwv ⊢
 subst hb
 have hgx := hg.gx he9 hf9 pa pc
 generalize g.gx pa pc = gx at *
 have hF : e.Fine gx 0 1 := ⟨hE, y_eP, y_eP, y_dg⟩
 refine ZA1 ?_
 refine ZEO ?_
 refine ZBY ?_
 refine RW (v := (.int .u64 (N : Int))) rfl rfl (cA_ _ ((eN o_m o_m).trans o_m)) (ZBb ?_)
 refine RX (bB (F := []) (A := [(e.b, blk (Db.cs e gx 0) 108)]) (G := (e.mp, bL .u64 e.l e.c) :: (hM e.q e.m ++ (e.GH ++ (e.GL ++ e.D)))) K_ rfl (fun w q0 _ => aPF rfl (Db.cs e gx 0) 108 _ rfl w q0)) rfl (ZAj ?_)
 refine bF (H' := Db.H ({ e with asked := 1 } : Db) gx 0) (fun _ h => h) ?_
 refine ZBr ?_
 refine RX (bB (F := []) (A := [(e.b, blk (Db.cs ({ e with asked := 1 } : Db) gx 0) 108)]) (G := (e.mp, bL .u64 e.l e.c) :: (hM e.q e.m ++ (e.GH ++ (e.GL ++ e.D)))) K_ rfl (fun w q0 _ => aPF rfl (Db.cs ({ e with asked := 1 } : Db) gx 0) 108 _ rfl w q0)) rfl (ZAj ?_)
 refine bF (H' := Db.H ({ e with asked := 1 } : Db) gx 0) (fun _ h => h) ?_
 refine ZBb ?_
 refine RZ (cB K_ rfl (wV_ (aNF ({ e with asked := 1 } : Db) gx 0 N o_m o_m rfl))) rfl (bF (H' := Db.H ({ e with asked := 0 } : Db) gx 0) (fun _ h => h) ?_)
 refine ZEI ?_
 rintro _ _ ⟨b2, rfl, rfl⟩
 refine RZ (xS_ (l' := cSt 0 5 0 false) 0) rfl (ZDF ?_)
 refine ZBn ?_
 refine RX (aR (F := [(b2, blk (cSt 0 5 0 false) 38)]) (A := Db.H ({ e with asked := 0 } : Db) gx 0) K_ rfl (fun w hw => (by have h9 := aOB ({ e with asked := 0 } : Db) gx hgx 0 1 ⟨hE.ask 0, y_eP, y_eP, by show 0 ≤ e.done ∧ e.done < _; rw [hdn]; decide⟩ N o_m hpv hwv rfl w (St.lentV hw); rw [hmin] at h9; exact h9))) rfl ?_
 rintro _ _ ⟨_, ⟨rfl, e2, ⟨hE2, hT1, hd2, rfl⟩⟩, rfl⟩
 refine ZCu ?_
 have hd3 : e2.done = e.done + ((min N 5000 : Nat) : Int) := hd2
 refine ZEI ?_
 rintro _ _ ⟨b3, rfl, rfl⟩
 refine RZ (xS_ (l' := cSt N 3 0 false) 0) rfl (ZDF ?_)
 refine ZBb ?_
 refine ZAQ ?_
 refine ZAl ?_
 refine ZAQ ?_
 refine ZAl ?_
 refine RZ (aK rfl rfl rfl y_ba) rfl (RS ?_)
 refine aJm (ks := [.int .u64, .int .i64, .int .i64, .bool]) rfl rfl y_f y_f rfl rfl rfl rfl (b := true) rfl ?_
 refine ZAl ?_
 refine RZ (aK rfl rfl rfl y_ba) rfl (ZBL ?_)
 refine RS ?_
 refine aJm (ks := [.int .u64, .int .i64, .int .i64, .bool]) rfl rfl y_f y_f rfl rfl rfl rfl (b := true) (by simp [nE, veq, cSt]) ?_
 refine ZA1 ?_
 refine RZ (bJ K_ rfl (fun w hw => (by have h9 := aDt e2.b e2.done w (aJ (b := e2.b) (l := Db.cs e2 gx N) (.tail _ (.tail _ (.head _))) rfl w hw); rw [show e2.b = e.b from hT1.b] at h9; exact h9))) rfl (ZBL ?_)
 refine cY true rfl rfl rfl (beq_iff_eq.2 o_m) ?_
 exact ZAi
end Go.Proofs.YtacejanlmhbddaaGreat
