/- The law of bytes that one is turned of. -/
import Derived.Test.YtldehodcfajpjaaGreatQcZI
import Derived.Test.YtldehodcfajpjaaGreatQcZK
set_option linter.unusedSimpArgs false
set_option linter.unusedVariables false
set_option maxRecDepth 100000
set_option maxHeartbeats 4000000
namespace Go.VV
open Go Go.ChangeShapes Go.WideShapes Go.ChangeAt Go.RowKit
section
variable {H : Type} {enc : TypeId × Value → H} {P : Program} {W : World} {base : Nat} {spare : Nat → Bool} {held : Bool}
theorem arg_bool {r : Reach} {b0 : Nat} {t : TypeId} {v : Value} {d : DataW H} {q : List MemPlace} (ht : P.underlying t = some .bool) (hv : Value.okWide P W r b0 t v) (h : DataW.Trod enc P W base spare held t v d q) : ∃ b, v = .bool b := by
 obtain ⟨fuel, hf⟩ := h
 obtain ⟨b, hcs, _⟩ := DataW.trod_bool ht hf
 refine ⟨b, ?_⟩
 simp only [Value.okWide, ht, Cell.okWide] at hv
 cases v <;> simp_all [Cell.ok, Value.cells]
end
end Go.VV
namespace Go.Proofs.YtldehodcfajpjaaGreat
open Go Go.VV
theorem fl_low (z n h c : Bool) : fl z n h c % 16 = 0 := by cases z <;> cases n <;> cases h <;> cases c <;> decide
theorem putL_intA {l : List Int} {o : Nat} (k : IntKind) (h : o < l.length) (x : Int) (sp : List Value) : putL (l.map (.int k) ++ sp) (0 + o) [.int k x] = (l.set o x).map (.int k) ++ sp := by
 rw [Nat.zero_add, putL_left (by rw [List.length_map]; simp only [List.length_cons, List.length_nil]; omega), putL_int k h x]
variable {β : Type} {lg : β → List Ac}
section
variable {x : Rn β}
theorem lf_setR (r : CR) (n v : Int) (h : r.f % 16 = 0) : (setR r n v).f % 16 = 0 := by
 unfold setR; repeat' split
 all_goals first | exact h | rfl
theorem lf_setPR (r : CR) (n v : Int) (h : r.f % 16 = 0) : (setPR r n v).f % 16 = 0 := by
 unfold setPR; repeat' split
 all_goals first | exact h | rfl | (show v % 256 / 16 * 16 % 16 = 0; omega)
theorem lf_sumR (r : CR) (n v : Int) (h : r.f % 16 = 0) : (sumR r n v).f % 16 = 0 := by
 unfold sumR addF subF logF; repeat' split
 all_goals first | exact h | exact fl_low _ _ _ _
theorem Lc.ite {d : Nat} {c : Prop} [Decidable c] {a b : Rn β} (h1 : c → Lc lg d x a) (h2 : ¬ c → Lc lg d x b) : Lc lg d x (if c then a else b) := by
 split
 ·exact h1 (by assumption)
 ·exact h2 (by assumption)
theorem lc_far (n : Int) : Lc lg 0 x (far n x).2 := by
 unfold far; split
 ·exact Lc.refl x
 ·exact .none rfl (lf_setPR _ _ _)
theorem lc_place (o : Opr) : Lc lg 0 x (place o x).2 := by
 unfold place; repeat' split
 ·exact lc_far _
 all_goals exact Lc.refl x
theorem lc_goto {c : Nat} {y : Rn β} (h : Lc lg c x y) (w : Int) : Lc lg c x (goto w y) := h.then rfl (fun h => h)
variable {A : BusA β} (hA : Lg A lg)
include hA
theorem lc_gett (n : Int) : Lc lg 1 x (gett A n x).2 := by
 unfold gett; split
 ·exact .one 1 (hA.read _ _) y_c (fun h => h)
 ·exact Lc.le (Lc.refl x) o_m
theorem lc_sett (n v : Int) : Lc lg 1 x (sett A n v x) := by
 unfold sett; split
 ·exact .one 2 (hA.write _ _ _) y_c (fun h => h)
 ·exact Lc.le (Lc.none rfl (lf_setR _ _ _)) o_m
theorem lc_push1 (v : Int) : Lc lg 1 x (push1 A v x) := .one 2 (hA.write _ _ _) y_c (fun h => h)
theorem lc_push (w : Int) : Lc lg 2 x (push A w x) := (lc_push1 hA (w / 256)).trans (lc_push1 hA (w % 256))
theorem lc_pop1 : Lc lg 1 x (pop1 A x).2 := .one 1 (hA.read _ _) y_c (fun h => h)
theorem lc_pop : Lc lg 2 x (pop A x).2 := (lc_pop1 hA).trans (lc_pop1 hA)
theorem lc_idles : ∀ n, Lc lg n x (idles A n x)
 | 0 => Lc.refl x
 | n + 1 => (lc_idles n).trans (.one 0 (hA.idle _) y_c (fun h => h))
theorem lc_change (n : Int) {g : Int → Int → Int × Int} (hg : ∀ a f, (g a f).2 % 16 = 0) : Lc lg 2 x (change A n g x) :=
 ((lc_gett hA n).trans (lc_sett hA n _)).then rfl (fun _ => hg _ _)
theorem lc_effB (o : Opr) : Lc lg 2 x (effB A o x) := by
 have z : Lc lg 2 x x := Lc.le (Lc.refl x) o_m
 have g1 : ∀ n, Lc lg 2 x (gett A n x).2 := fun n => Lc.le (lc_gett hA n) o_m
 have r : ∀ {r' : CR}, (x.s.r.f % 16 = 0 → r'.f % 16 = 0) → Lc lg 2 x (x.reg r') := fun h => Lc.le (Lc.none rfl h) o_m
 unfold effB
 refine .ite (fun _ => (lc_gett hA _).trans (lc_sett hA _ _)) fun _ => ?_
 refine .ite (fun _ => Lc.le (lc_sett hA _ _) o_m) fun _ => ?_
 refine .ite (fun _ => (g1 _).then rfl (lf_sumR _ _ _)) fun _ => ?_
 refine .ite (fun _ => r (lf_sumR _ _ _)) fun _ => ?_
 refine .ite (fun _ => lc_change hA _ fun _ _ => fl_low _ _ _ _) fun _ => ?_
 refine .ite (fun _ => lc_change hA _ fun _ _ => fl_low _ _ _ _) fun _ => ?_
 refine .ite (fun _ => lc_change hA _ fun _ _ => fl_low _ _ _ _) fun _ => ?_
 refine .ite (fun _ => r fun _ => fl_low _ _ _ _) fun _ => ?_
 refine .ite (fun _ => (g1 _).then rfl fun _ => fl_low _ _ _ _) fun _ => ?_
 refine .ite (fun _ => (lc_gett hA _).trans (lc_sett hA _ _)) fun _ => ?_
 refine .ite (fun _ => (lc_gett hA _).trans (lc_sett hA _ _)) fun _ => ?_
 refine .ite (fun _ => r fun _ => fl_low _ _ _ _) fun _ => ?_
 refine .ite (fun _ => r fun _ => fl_low _ _ _ _) fun _ => ?_
 refine .ite (fun _ => r fun _ => fl_low _ _ _ _) fun _ => ?_
 exact .ite (fun _ => r fun _ => fl_low _ _ _ _) fun _ => z
theorem lc_effW (o : Opr) : Lc lg 3 x (effW A o x) := by
 have r : ∀ {r' : CR}, (x.s.r.f % 16 = 0 → r'.f % 16 = 0) → Lc lg 0 x (x.reg r') := fun h => Lc.none rfl h
 unfold effW
 refine .ite (fun _ => Lc.le (r (lf_setPR _ _ _)) o_m) fun _ => ?_
 refine .ite (fun _ => Lc.le ((r (lf_setPR _ _ _)).trans (lc_idles hA 1)) o_m) fun _ => ?_
 refine .ite (fun _ => Lc.le ((r (lf_setPR _ _ _)).trans (lc_idles hA 1)) o_m) fun _ => ?_
 refine .ite (fun _ => Lc.le ((r fun _ => lf_setPR _ _ _ (fl_low _ _ _ _)).trans (lc_idles hA 1)) o_m) fun _ => ?_
 refine .ite (fun _ => Lc.le ((r fun _ => fl_low _ _ _ _).trans (lc_idles hA 2)) o_m) fun _ => ?_
 refine .ite (fun _ => Lc.le ((r fun _ => lf_setPR _ _ _ (fl_low _ _ _ _)).trans (lc_idles hA 1)) o_m) fun _ => ?_
 refine .ite (fun _ => Lc.le (c := 0 + 1) ((r (r' := { x.s.r with sp := pairR x.s.r 2 }) fun h => h).trans (lc_idles hA 1)) o_m) fun _ => ?_
 refine .ite (fun _ => (lc_idles hA 1).trans (lc_push hA _)) fun _ => ?_
 refine .ite (fun _ => Lc.le (c := 2) ((lc_pop hA).then rfl (lf_setPR _ _ _)) o_m) fun _ => ?_
 refine .ite (fun _ => ?_) fun _ => Lc.le (Lc.refl x) o_m
 have h1 : Lc lg 1 x (x.mem (A.write o.n (x.s.r.sp % 256) x.m)) := .one 2 (hA.write _ _ _) y_c (fun h => h)
 have h2 : Lc lg 1 (x.mem (A.write o.n (x.s.r.sp % 256) x.m)) (x.mem (A.write (inc16 o.n) (x.s.r.sp / 256) (A.write o.n (x.s.r.sp % 256) x.m))) := .one 2 (hA.write _ _ _) y_c (fun h => h)
 exact Lc.le (h1.trans h2) o_m
theorem lc_effP (o : Opr) : Lc lg 1 x (effP A o x) := by
 unfold effP
 dsimp only
 split
 ·exact Lc.trans (y := (place o x).2) (z := ⟨{ (place o x).2.s with r := { (place o x).2.s.r with a := (A.read (place o x).1 (place o x).2.m).1 } }, (A.read (place o x).1 (place o x).2.m).2⟩) (lc_place o) (Lc.one 1 (hA.read _ _) y_c (fun h => h))
 ·exact Lc.trans (y := (place o x).2) (z := (place o x).2.mem (A.write (place o x).1 (place o x).2.s.r.a (place o x).2.m)) (lc_place o) (Lc.one 2 (hA.write _ _ _) y_c (fun h => h))
theorem lc_effJ (o : Opr) : Lc lg (if o.kind = 26 then 4 else 3) x (effJ A o x) := by
 by_cases hk : o.kind = 26
 ·rw [if_pos hk]
  have hx : Lc lg 1 x (if o.kind = 26 ∧ o.x ≠ 4 then idles A 1 x else x) := .ite (fun _ => lc_idles hA 1) fun _ => Lc.le (Lc.refl x) o_m
  unfold effJ
  dsimp only
  generalize (if o.kind = 26 ∧ o.x ≠ 4 then idles A 1 x else x) = y at hx ⊢
  refine .ite (fun _ => hx.le o_m) fun _ => ?_
  rw [if_neg o_m, if_neg o_m, if_neg o_m, if_neg o_m, if_pos hk]
  exact (lc_goto (hx.trans (lc_pop hA)) _).trans (lc_idles hA 1)
 ·rw [if_neg hk]
  unfold effJ
  dsimp only
  rw [if_neg (show ¬ (o.kind = 26 ∧ o.x ≠ 4) from fun h => hk h.1)]
  refine .ite (fun _ => Lc.le (Lc.refl x) o_m) fun _ => ?_
  refine .ite (fun _ => Lc.le (lc_goto (lc_idles hA 1) _) o_m) fun _ => ?_
  refine .ite (fun _ => Lc.le (lc_goto (lc_idles hA 1) _) o_m) fun _ => ?_
  refine .ite (fun _ => lc_goto ((lc_idles hA 1).trans (lc_push hA _)) _) fun _ => ?_
  refine .ite (fun _ => ?_) fun _ => ?_
  ·have h0 : Lc lg 0 x ⟨{ x.s with ime := true }, x.m⟩ := .none rfl (fun h => h)
   exact (lc_goto (h0.trans (lc_pop hA)) _).trans (lc_idles hA 1)
  ·rw [if_neg hk]
   exact .ite (fun _ => Lc.le (lc_goto (Lc.refl x) _) o_m) fun _ => Lc.le (Lc.refl x) o_m
theorem lc_ordT (o : Opr) (p : Int) : Lc lg (if o.kind = 26 then 4 else 3) x (ordT A o p x).2 := by
 have hc : 3 ≤ (if o.kind = 26 then 4 else 3) := by split <;> omega
 have hj := lc_effJ hA (x := x) o
 generalize (if o.kind = 26 then 4 else 3) = c at hc hj ⊢
 have n : ∀ {y : Rn β}, lg y.m = lg x.m → (x.s.r.f % 16 = 0 → y.s.r.f % 16 = 0) → Lc lg c x y := fun h h' => Lc.le (c := 0) (Lc.none h h') o_m
 unfold ordT
 split
 ·exact n rfl (fun h => h)
 split
 ·exact n rfl (fun h => h)
 split
 ·exact n rfl (fun h => h)
 split
 ·exact n rfl (fun h => h)
 split
 ·exact n rfl (fun h => h)
 split
 ·exact (lc_effB hA o).le o_m
 split
 ·exact (lc_effW hA o).le o_m
 split
 ·exact (lc_effP hA o).le o_m
 ·exact hj
end
theorem szG {a b c : Int} (ha : 0 ≤ a ∧ a < 256) : (dcd a b c).size = (dcd a 0 0).size := by
 by_cases h : a = 203
 ·rw [dcd_beh h, dcd_beh h]; unfold behS; split <;> split <;> rfl
 ·obtain ⟨m, o, hm, _, ho⟩ := tab_some ha.1 ha.2
  rw [dcd_plain hm h ho, dcd_plain hm h ho]; rfl
def retG (o : Opr) : Bool := decide (o.kind = 26 → o.size = 1)
theorem retG_all : tabP.all retG = true := by kernel_rfl
theorem retG_one {a b c : Int} (ha : 0 ≤ a ∧ a < 256) (hb : 0 ≤ b ∧ b < 256) (hk : (dcd a b c).kind = 26) : (dcd a b c).size = 1 := by
 by_cases h : a = 203
 ·rw [dcd_beh h] at hk
  have : (behS b).kind ≠ 26 := by unfold behS; split <;> (dsimp only; omega)
  exact absurd hk this
 ·obtain ⟨m, o, hm, _, ho⟩ := tab_some ha.1 ha.2
  rw [dcd_plain hm h ho] at hk ⊢
  exact (of_decide_eq_true (List.all_eq_true.1 retG_all o (List.mem_of_getElem? ho)) : o.kind = 26 → o.size = 1) hk
section
variable {β : Type} {A : BusA β} {s : CS} {m : β}
theorem ranG (h1 : s.stop = false) (h2 : s.halt = true → A.pend m ≠ 0) (h3 : s.ime = true → A.pend m = 0) {o : Opr} {y : Rn β} (hn : nextT A ⟨{ s with halt := false, soon := false }, m⟩ = (o, y)) :
  stepT A ⟨s, m⟩ = (⟨1, 0, s.r.pc, o, (ordT A o s.r.pc y).1⟩, if s.soon = true ∧ o.kind ≠ 5 then ⟨{ (ordT A o s.r.pc y).2.s with ime := true }, (ordT A o s.r.pc y).2.m⟩ else (ordT A o s.r.pc y).2) := by
 unfold stepT
 dsimp only
 rw [if_neg y_ct, if_neg (fun h => h2 h.1 h.2), if_neg (fun h => h.2 (h3 h.1)), hn]
theorem takenG (h1 : s.stop = false) (h3 : s.ime = true) (hp : A.pend m ≠ 0) :
  stepT A ⟨s, m⟩ = (⟨2, low1 (A.pend m), s.r.pc, oN, false⟩, takeI A (A.pend m) ⟨{ s with halt := false }, m⟩) := by
 unfold stepT
 dsimp only
 rw [if_neg y_ct, if_neg (fun h => hp h.2), if_pos ⟨h3, hp⟩]
theorem sleptG (h1 : s.stop = false) (h2 : s.halt = true) (hp : A.pend m = 0) : stepT A ⟨s, m⟩ = (⟨0, 0, s.r.pc, oN, false⟩, ⟨s, A.idle m⟩) := by
 unfold stepT
 dsimp only
 rw [if_neg y_ct, if_pos ⟨h2, hp⟩]; rfl
theorem stoodG (h1 : s.stop = true) : stepT A ⟨s, m⟩ = (⟨0, 0, s.r.pc, oN, false⟩, ⟨{ s with stop := A.pend (A.idle m) / 16 % 2 == 0 }, A.idle m⟩) := by
 unfold stepT
 rw [if_pos h1]
end
section
variable {β : Type} {lg : β → List Ac} {K : BusO β} (hA : Lg K.toBusA lg)
include hA
theorem nextG {n : Nat} {s : CS} {m : β} (hm : K.ok (n + 1 + 1 + 1) m) (hpc : 0 ≤ s.r.pc ∧ s.r.pc < 65536) : ∃ (v u t : Int) (k : Nat), (0 ≤ v ∧ v < 256) ∧ (0 ≤ u ∧ u < 256) ∧ (0 ≤ t ∧ t < 256) ∧ 1 ≤ k ∧ k ≤ 3 ∧
  (nextT K.toBusA ⟨s, m⟩).1 = dcd v (if 2 ≤ k then u else 0) (if 3 ≤ k then t else 0) ∧ (nextT K.toBusA ⟨s, m⟩).1.size = k ∧ ((nextT K.toBusA ⟨s, m⟩).1.kind = 26 → k = 1) ∧ (nextT K.toBusA ⟨s, m⟩).2.s.r.f = s.r.f ∧
  lg (nextT K.toBusA ⟨s, m⟩).2.m = lg m ++ ([⟨3, s.r.pc, v⟩, ⟨3, inc16 s.r.pc, u⟩, ⟨3, inc16 (inc16 s.r.pc), t⟩] : List Ac).take k := by
 have p2 : 0 ≤ inc16 s.r.pc ∧ inc16 s.r.pc < 65536 := by unfold inc16; omega
 have p3 : 0 ≤ inc16 (inc16 s.r.pc) ∧ inc16 (inc16 s.r.pc) < 65536 := by unfold inc16; omega
 obtain ⟨k1, hv⟩ := K.oF hm hpc
 have g1 := hA.fetch s.r.pc m
 obtain ⟨k2, hu⟩ := K.oF k1 p2
 have g2 := hA.fetch (inc16 s.r.pc) (K.fetch s.r.pc m).2
 obtain ⟨_, ht⟩ := K.oF k2 p3
 have g3 := hA.fetch (inc16 (inc16 s.r.pc)) (K.fetch (inc16 s.r.pc) (K.fetch s.r.pc m).2).2
 have z0 : (0 : Int) ≤ 0 ∧ (0 : Int) < 256 := by decide
 have f1 := (dcd_fine hv z0 z0).size
 have z2 := szG (b := (K.fetch (inc16 s.r.pc) (K.fetch s.r.pc m).2).1) (c := 0) hv
 have z3 := szG (b := (K.fetch (inc16 s.r.pc) (K.fetch s.r.pc m).2).1) (c := (K.fetch (inc16 (inc16 s.r.pc)) (K.fetch (inc16 s.r.pc) (K.fetch s.r.pc m).2).2).1) hv
 refine ⟨_, _, _, (dcd (K.fetch s.r.pc m).1 0 0).size.toNat, hv, hu, ht, y_D, y_D, ?_⟩
 by_cases h1 : (dcd (K.fetch s.r.pc m).1 0 0).size ≤ 1
 ·have e : nextT K.toBusA ⟨s, m⟩ = (dcd (K.fetch s.r.pc m).1 0 0, ⟨{ s with r := { s.r with pc := inc16 s.r.pc } }, (K.fetch s.r.pc m).2⟩) := if_pos h1
  have hk : (dcd (K.fetch s.r.pc m).1 0 0).size.toNat = 1 := by omega
  rw [e, hk]
  exact ⟨rfl, y_F, fun _ => rfl, rfl, g1⟩
 ·by_cases h2 : (dcd (K.fetch s.r.pc m).1 (K.fetch (inc16 s.r.pc) (K.fetch s.r.pc m).2).1 0).size ≤ 2
  ·have e : nextT K.toBusA ⟨s, m⟩ = (dcd (K.fetch s.r.pc m).1 (K.fetch (inc16 s.r.pc) (K.fetch s.r.pc m).2).1 0, ⟨{ s with r := { s.r with pc := inc16 (inc16 s.r.pc) } }, (K.fetch (inc16 s.r.pc) (K.fetch s.r.pc m).2).2⟩) := (if_neg h1).trans (if_pos h2)
   have hk : (dcd (K.fetch s.r.pc m).1 0 0).size.toNat = 2 := by omega
   rw [e, hk]
   exact ⟨rfl, y_F, fun h => by have := retG_one hv hu h; omega, rfl, by rw [g2, g1, List.append_assoc]; rfl⟩
  ·have e : nextT K.toBusA ⟨s, m⟩ = (dcd (K.fetch s.r.pc m).1 (K.fetch (inc16 s.r.pc) (K.fetch s.r.pc m).2).1 (K.fetch (inc16 (inc16 s.r.pc)) (K.fetch (inc16 s.r.pc) (K.fetch s.r.pc m).2).2).1, ⟨{ s with r := { s.r with pc := inc16 (inc16 (inc16 s.r.pc)) } }, (K.fetch (inc16 (inc16 s.r.pc)) (K.fetch (inc16 s.r.pc) (K.fetch s.r.pc m).2).2).2⟩) := (if_neg h1).trans (if_neg h2)
   have hk : (dcd (K.fetch s.r.pc m).1 0 0).size.toNat = 3 := by omega
   rw [e, hk]
   exact ⟨rfl, y_F, fun h => by have := retG_one hv hu h; omega, rfl, by rw [g3, g2, g1, List.append_assoc, List.append_assoc]; rfl⟩
end
variable (lg) in
structure CycG {β : Type} (lg : β → List Ac) (s : CS) (d : Dd) (y : Rn β) : Prop where
 len : 1 ≤ (lg y.m).length ∧ (lg y.m).length ≤ 6
 at_ : d.at_ = s.r.pc
 told : (d.what = 1 ∧ ∃ (v u t : Int) (k : Nat) (l : List Ac), (0 ≤ v ∧ v < 256) ∧ (0 ≤ u ∧ u < 256) ∧ (0 ≤ t ∧ t < 256) ∧ 1 ≤ k ∧ k ≤ 3 ∧ d.op = dcd v (if 2 ≤ k then u else 0) (if 3 ≤ k then t else 0) ∧ d.op.size = k ∧
  lg y.m = ([⟨3, s.r.pc, v⟩, ⟨3, inc16 s.r.pc, u⟩, ⟨3, inc16 (inc16 s.r.pc), t⟩] : List Ac).take k ++ l ∧ ∀ e ∈ l, e.kind ≠ 3) ∨ (d.what ≠ 1 ∧ ∀ e ∈ lg y.m, e.kind ≠ 3)
section
variable {β : Type} {lg : β → List Ac} {K : BusO β}
theorem cycG_of {s : CS} {m : β} {d : Dd} {y : Rn β} (hm : lg m = []) {c : Nat} (hc : c ≤ 6) (h : Lc lg c ⟨s, m⟩ y) (h1 : 1 ≤ (lg y.m).length) (hd : d.at_ = s.r.pc) (hw : d.what ≠ 1) : CycG lg s d y := by
 obtain ⟨l, g1, g2, g3⟩ := h.acc
 rw [show lg (Rn.mk s m).m = [] from hm, List.nil_append] at g1
 exact ⟨⟨h1, by rw [g1]; omega⟩, hd, .inr ⟨hw, fun e he => g3 e (by rw [g1] at he; exact he)⟩⟩
variable (hA : Lg K.toBusA lg)
include hA
theorem cycG {n : Nat} {s : CS} {m : β} (hs : s.r.Ok) (hm : K.ok (n + 1 + 1 + 1) m) (h0 : lg m = []) : CycG lg s (stepT K.toBusA ⟨s, m⟩).1 (stepT K.toBusA ⟨s, m⟩).2 := by
 by_cases h1 : s.stop = true
 ·rw [stoodG h1]
  exact cycG_of h0 (c := 1) o_m (.one 0 (hA.idle _) y_c (fun h => h)) y_cE rfl (show (0 : Int) ≠ 1 by decide)
 ·have h1' : s.stop = false := by simpa using h1
  by_cases h2 : s.halt = true ∧ K.pend m = 0
  ·rw [sleptG h1' h2.1 h2.2]
   exact cycG_of h0 (c := 1) o_m (.one 0 (hA.idle _) y_c (fun h => h)) y_cE rfl (show (0 : Int) ≠ 1 by decide)
  ·by_cases h3 : s.ime = true ∧ K.pend m ≠ 0
   ·rw [takenG h1' h3.1 h3.2]
    have key : Lc lg (0 + 2 + 2 + 0 + 1 + 0) ⟨s, m⟩ (takeI K.toBusA (K.pend m) ⟨{ s with halt := false }, m⟩) := by
     have a0 : Lc lg 0 ⟨s, m⟩ (⟨{ s with halt := false }, m⟩ : Rn β) := .none rfl (fun h => h)
     have a1 := lc_idles hA (x := (⟨{ s with halt := false }, m⟩ : Rn β)) 2
     have a2 := lc_push hA (x := idles K.toBusA 2 (⟨{ s with halt := false }, m⟩ : Rn β)) s.r.pc
     have a3 : Lc lg 0 (push K.toBusA s.r.pc (idles K.toBusA 2 ⟨{ s with halt := false }, m⟩)) ((push K.toBusA s.r.pc (idles K.toBusA 2 ⟨{ s with halt := false }, m⟩)).mem (K.ack (low1 (K.pend m)) (push K.toBusA s.r.pc (idles K.toBusA 2 ⟨{ s with halt := false }, m⟩)).m)) := .none (hA.ack _ _) (fun h => h)
     have a4 := lc_idles hA (x := (push K.toBusA s.r.pc (idles K.toBusA 2 ⟨{ s with halt := false }, m⟩)).mem (K.ack (low1 (K.pend m)) (push K.toBusA s.r.pc (idles K.toBusA 2 ⟨{ s with halt := false }, m⟩)).m)) 1
     exact ((((a0.trans a1).trans a2).trans a3).trans a4).trans (.none rfl (fun h => h))
    refine cycG_of h0 o_m key ?_ rfl (show (2 : Int) ≠ 1 by decide)
    show 1 ≤ (lg (K.idle _)).length
    rw [hA.idle, List.length_append]
    exact Nat.le_add_left _ _
   ·obtain ⟨v, u, t, k, hv, hu, ht, hk1, hk3, ho1, ho2, ho3, ho4, ho5⟩ := nextG hA (s := { s with halt := false, soon := false }) hm hs.pc
    rw [h0, List.nil_append] at ho5
    have hr := ranG (A := K.toBusA) (s := s) (m := m) h1' (fun h hp => h2 ⟨h, hp⟩) (fun h => Decidable.byContradiction fun hp => h3 ⟨h, hp⟩) (o := (nextT K.toBusA ⟨{ s with halt := false, soon := false }, m⟩).1) (y := (nextT K.toBusA ⟨{ s with halt := false, soon := false }, m⟩).2) rfl
    rw [hr]
    generalize nextT K.toBusA ⟨{ s with halt := false, soon := false }, m⟩ = q at ho1 ho2 ho3 ho4 ho5 hr
    have ho := lc_ordT hA (x := q.2) q.1 s.r.pc
    have hq : Lc lg (if q.1.kind = 26 then 4 else 3) q.2 (if s.soon = true ∧ q.1.kind ≠ 5 then ⟨{ (ordT K.toBusA q.1 s.r.pc q.2).2.s with ime := true }, (ordT K.toBusA q.1 s.r.pc q.2).2.m⟩ else (ordT K.toBusA q.1 s.r.pc q.2).2) := .ite (fun _ => ho.then rfl (fun h => h)) fun _ => ho
    generalize (if s.soon = true ∧ q.1.kind ≠ 5 then (⟨{ (ordT K.toBusA q.1 s.r.pc q.2).2.s with ime := true }, (ordT K.toBusA q.1 s.r.pc q.2).2.m⟩ : Rn β) else (ordT K.toBusA q.1 s.r.pc q.2).2) = y at hq
    obtain ⟨l, g1, g2, g3⟩ := hq.acc
    rw [ho5] at g1
    have hlen : (lg y.m).length = k + l.length := by
     rw [g1, List.length_append, List.length_take]
     show min k 3 + l.length = _
     omega
    have hb6 : k + l.length ≤ 6 := by
     by_cases hk : q.1.kind = 26
     ·rw [if_pos hk] at g2
      have := ho3 hk; omega
     ·rw [if_neg hk] at g2; omega
    exact ⟨y_F, rfl, .inl ⟨rfl, v, u, t, k, l, hv, hu, ht, hk1, hk3, ho1, ho2, g1, g3⟩⟩
end
theorem busM_lg : Lg busM Mm.acc := ⟨fun a m => y_dC, fun a m => y_dC, fun a x m => by
  show (if letsCp (cycleM m).cp a = true then pokeM a x (cycleM m) else cycleM m).acc ++ _ = _
  split
  ·rw [pokeM_acc, cycleM_acc]
  ·rw [cycleM_acc], fun m => by show (cycleM m).acc ++ _ = _; rw [cycleM_acc], fun _ _ => rfl⟩
theorem stepM_cyc {R m : Mm} {D : Prop} {plan : List Chg} (hp : ∀ c ∈ plan, ChgOk c) (h : MInv R D m) : CycG Mm.acc m.cpu (stepM plan m).1 ⟨(stepM plan m).2.cpu, (stepM plan m).2⟩ := by
 have key := cycG (K := busG R D) (lg := Mm.acc) busM_lg (n := 4) h.rg (startG hp h) rfl
 exact ⟨key.len, key.at_, key.told⟩
section
variable {R m : Mm} {D : Prop} {l : List Int}
theorem decAE_kinds (hl : l.length = (encA m).length) : decAE m l = 0 ∨ decAE m l = 5 := by
 unfold decAE
 rw [if_neg (fun h => h hl)]
 split
 ·exact .inl rfl
 ·exact .inr rfl
theorem decAE_parts (he : decAE m l = 0) : l.length = (encA m).length ∧ decE (l.drop (8482 + m.ram.length)) = 0 ∧ encA (decFu m l) = l := by
 unfold decAE at he
 split at he
 ·cases he
 rename_i h1
 split at he
 ·rename_i h2; exact ⟨Decidable.byContradiction h1, h2.1, h2.2⟩
 ·cases he
theorem bytes_ok (h : MInv R D m) (hb : Byts l) (he : decAE m l = 0) : MInv R False (decAM m l) ∧ encA (decAM m l) = l := by
 obtain ⟨h1, h2, h3⟩ := decAE_parts he
 rw [decAM_yes he.symm]
 have hl := dec_ram_len h.wf h1
 refine ⟨⟨(decFu_wf h.wf hb h1 h2).acc_ [], decFu_regs (m := m) hb, ⟨h.fr.rom, h.fr.hd, ?_, h.fr.kind, h.fr.banks, h.fr.size⟩, fun h => h.elim⟩, h3⟩
 show ((l.drop 8482).take m.ram.length).length = _
 rw [hl]
 exact h.fr.ram
end
theorem xor_zero {a : Int} (h : 0 ≤ a ∧ a < 256) : bxor .u8 a 0 = a := byte_all (p := fun a => bxor .u8 a 0 = a) y_A h.1 h.2
theorem flipL_zero {l : List Int} (h : Byts l) (k : Nat) : flipL l k 0 = l := by
 unfold flipL
 rw [xor_zero (h.get k)]
 refine List.ext_getElem? fun i => ?_
 rw [List.getElem?_set]
 split
 ·rename_i e
  subst e
  split
  ·rename_i hk; rw [List.getD_eq_getElem?_getD, List.getElem?_eq_getElem hk]; rfl
  ·rename_i hk; rw [List.getElem?_eq_none o_m]
 ·rfl
theorem flip_no {R m : Mm} (h : MInv R True m) {k : Nat} {x : Int} (he : decAE m (flipL (encA m) k x) = 5) : x ≠ 0 := fun h0 => by
 subst h0
 rw [flipL_zero (encA_byts h.wf), ← (back_law h h).1] at he
 cases he
end Go.Proofs.YtldehodcfajpjaaGreat
namespace Go.Proofs.YtldehodcfajpjaaGreat
open Go Go.VV Go.Proofs Go.RowKit
set_option maxHeartbeats 2000000 in
theorem bytes_fn (g : Gm) (s at_ x : Int) (cut : Bool) (hs9 : 0 ≤ s ∧ s < 256) (ha9 : 0 ≤ at_ ∧ at_ < 18446744073709551616) (hx9 : 0 ≤ x ∧ x < 256) (w : World) (hg : g.Ok w) : Does Tryz.prog 7 [.agg (cGm g).toArray, .int .u8 s, .int .u64 at_, .int .u8 x, .bool cut] w [] (fun v H => H = [] ∧ v = .bool true) := by
 have hl9 : (romG g).length = 65536 := romG_len g
 have hby9 := romG_byts hg
 refine does_of Tryz.func7 rfl rfl rfl (St.refl w) ?_
 refine ZA0 ?_
 rcases (show (fewG g = false) ∨ (fewG g = true ∧ errH (romG g) ≠ 0) ∨ (fewG g = true ∧ errH (romG g) = 0) by cases hf9 : fewG g <;> by_cases he9 : errH (romG g) = 0 <;> simp [he9]) with hf9 | ⟨hf9, he9⟩ | ⟨hf9, he9⟩
 ·refine ZAP ?_
  refine ZAt fun b0 => ?_
  refine ZAB ?_
  refine ZBX ?_
  refine ZEv ?_
  refine ZAl ?_
  refine Rl ?_
  refine l_sure true rfl rfl rfl y_bx ?_
  refine ZAj ?_
  refine ZAA ?_
  exact ZEh
 ·refine ZAP ?_
  refine ZAt fun b0 => ?_
  refine ZAB ?_
  refine ZBX ?_
  refine ZEv ?_
  refine ZAl ?_
  refine ZCA ?_
  refine ZBL ?_
  refine ZCM ?_
  refine Rl ?_
  refine ZA7 ?_
  refine RLv call_30 (fun w hw => runN_fn g (s % 150).toNat o_m w (hg.later hw) hf9 he9) ?_
  refine ZAB ?_
  refine ZA1 ?_
  refine ZEB ?_
  exact ZCu
 ·refine ZAP ?_
  refine ZAt fun b0 => ?_
  refine ZAB ?_
  refine ZBX ?_
  refine ZEv ?_
  refine ZAl ?_
  refine ZCA ?_
  refine ZBL ?_
  refine ZCM ?_
  refine Rl ?_
  refine ZA7 ?_
  refine RX (x_call call_30 rfl (fun w hw => runY_fn g (s % 150).toNat o_m w (hg.later hw) hf9 he9)) rfl ?_
  rintro _ _ ⟨_, ⟨q, pa, pc, Gp, hq, hP, rfl, rfl⟩, rfl⟩
  rw [List.append_assoc]
  have hi9 := runs_inv hg he9 (s % 150).toNat
  have hel9 := encA_len hi9.wf
  have hel8 := inv_enc hi9
  refine ZAB ?_
  refine ZA1 ?_
  refine ZDh ?_
  refine ZEP ?_
  rintro _ _ ⟨_, ⟨b1, c0, sp0, rfl, hc0, rfl⟩, rfl⟩
  refine l_heap (fun _ h => St.fl [Gp, [_], hM q _, [_]] [2, 1, 0] rfl h) (H' := hM q (runM g.plan (newM (romG g)) (s % 150).toNat) ++ ((b1, blk ((encA (runM g.plan (newM (romG g)) (s % 150).toNat)).map (Value.int .u8) ++ sp0) 5) :: Gp)) ?_
  refine ZAB ?_
  refine ZAG ?_
  refine ZAB ?_
  refine KC (fun q0 q0n => ?_) (fun q0 q0n => ?_)
  ·refine ZAU ?_
   refine RW (v := (.slice (some ⟨b1, 1, none⟩) ((encA (runM g.plan (newM (romG g)) (s % 150).toNat)).drop 1).length (c0 - 1))) (cut_slice1 1 (encA (runM g.plan (newM (romG g)) (s % 150).toNat)).length rfl rfl rfl rfl rfl rfl o_m o_m) rfl (by rw [cut1_on o_m, List.length_drop, Nat.zero_add]) ?_
   refine RX (x_callMA (F := []) (A := hM q (runM g.plan (newM (romG g)) (s % 150).toNat)) (G := (b1, blk ((encA (runM g.plan (newM (romG g)) (s % 150).toNat)).map (Value.int .u8) ++ sp0) 5) :: Gp) call_37 rfl (fun w hw hw2 => decodeL q hq (runM g.plan (newM (romG g)) (s % 150).toNat) hi9.wf hi9.rg y_ba (some ⟨b1, 1, none⟩) (c0 - 1) ((encA (runM g.plan (newM (romG g)) (s % 150).toNat)).drop 1) (fun y hy => encA_byts hi9.wf y (List.mem_of_mem_drop hy)) y_dn y_dn _ w hw (Ns.of (by have h9 := (row_own (b := b1) (List.mem_append_right _ (.head _)) w hw2).left.dropK 1; rw [Nat.zero_add] at h9; exact h9)) (fun p hp => y_cy))) rfl ?_
   rintro _ _ ⟨_, ⟨rfl, A39, va0, hq39, hmb39, rfl⟩, rfl⟩
   have hp39 : pM (⟨A39, q.tb, q.oT, va0⟩ : MA) = pM q := by show Value.pointer (some ⟨A39.mb, 0, none⟩) = .pointer (some ⟨q.A.mb, 0, none⟩); rw [show A39.mb = q.A.mb from hmb39]
   have e39 : 6 = decAE (runM g.plan (newM (romG g)) (s % 150).toNat) ((encA (runM g.plan (newM (romG g)) (s % 150).toNat)).drop 1) := decAE_size y_dn
   rw [← e39, decAM_no e39 y_c]
   refine ZBw ?_
   refine ZAf ?_
   refine ZBQ ?_
   refine RX (x_slc (z := [.int .u8 0]) (l := [.int .u8 x]) (ps := [(0, .int .u8 x)]) rfl rfl rfl rfl rfl rfl) rfl ?_
   rintro _ _ ⟨b2, rfl, rfl⟩
   refine Rl ?_
   refine RX (x_append (A := []) (G := [(b2, blk [.int .u8 x] 5)]) (R := hM (⟨A39, q.tb, q.oT, va0⟩ : MA) (runM g.plan (newM (romG g)) (s % 150).toNat) ++ ((b1, blk ((encA (runM g.plan (newM (romG g)) (s % 150).toNat)).map (Value.int .u8) ++ sp0) 5) :: Gp)) (v := .slice (some ⟨b2, 0, none⟩) 1 1) (n := 1) (xs := [.int .u8 x]) (m := (encA (runM g.plan (newM (romG g)) (s % 150).toNat)).length) (T := 5) (s := 1) (by_ := 1) (ys := (encA (runM g.plan (newM (romG g)) (s % 150).toNat)).map (.int .u8)) rfl rfl rfl rfl (.row b2 1 1 [.int .u8 x] [] rfl rfl y_c (Nat.le_refl _)) (fun w hw => .row _ _ _ _ _ (by rw [List.length_map, Nat.mul_one]) (row_own (b := b1) (l := (encA (runM g.plan (newM (romG g)) (s % 150).toNat)).map (Value.int .u8) ++ sp0) y_l w hw).left) (ones_int _ _) o_m o_m) rfl ?_
   rintro v0 _ ⟨G0, hV0, _, rfl⟩
   obtain ⟨l9, el9⟩ : ∃ l, l = (x :: encA (runM g.plan (newM (romG g)) (s % 150).toNat)) := ⟨_, rfl⟩
   have hn9 : l9.length = (encA (runM g.plan (newM (romG g)) (s % 150).toNat)).length + 1 := by rw [el9, List.length_cons]
   have hb9 : Byts l9 := by rw [el9]; exact fun y hy => by rcases List.mem_cons.1 hy with rfl | hy; exact hx9; exact encA_byts hi9.wf y hy
   obtain ⟨b3, cx1, sp1, rfl, rfl, _, hc1, _⟩ := (hV0.as (n' := l9.length) (xs' := l9.map (.int .u8)) (by rw [hn9]; omega) (by rw [el9, List.map_cons]; rfl)).full o_m
   refine ZBw ?_
   refine RX (x_callMA (F := [(b3, blk (l9.map (Value.int .u8) ++ sp1) 5)]) (A := hM (⟨A39, q.tb, q.oT, va0⟩ : MA) (runM g.plan (newM (romG g)) (s % 150).toNat)) (G := (b1, blk ((encA (runM g.plan (newM (romG g)) (s % 150).toNat)).map (Value.int .u8) ++ sp0) 5) :: Gp) call_37 rfl (fun w hw hw2 => (by have h9 := decodeL (⟨A39, q.tb, q.oT, va0⟩ : MA) hq39 (runM g.plan (newM (romG g)) (s % 150).toNat) hi9.wf hi9.rg y_ba (some ⟨b3, 0, none⟩) (cx1) l9 hb9 o_m hc1 _ w hw (Ns.of (row_own (b := b3) (List.mem_append_right _ (.head _)) w hw2).left) (fun p hp => y_cy); rw [hp39] at h9; exact h9))) rfl ?_
   rintro _ _ ⟨_, ⟨rfl, A47, va1, hq47, hmb47, rfl⟩, rfl⟩
   have hp47 : pM (⟨A47, q.tb, q.oT, va1⟩ : MA) = pM q := by show Value.pointer (some ⟨A47.mb, 0, none⟩) = .pointer (some ⟨q.A.mb, 0, none⟩); rw [show A47.mb = q.A.mb from hmb47.trans hmb39]
   have e47 : 6 = decAE (runM g.plan (newM (romG g)) (s % 150).toNat) l9 := decAE_size o_m
   rw [← e47, decAM_no e47 y_c]
   refine ZBw ?_
   refine ZAf ?_
   refine ZBQ ?_
   refine RX (x_callMA (F := [(b3, blk (l9.map (Value.int .u8) ++ sp1) 5)]) (A := hM (⟨A47, q.tb, q.oT, va1⟩ : MA) (runM g.plan (newM (romG g)) (s % 150).toNat)) (G := (b1, blk ((encA (runM g.plan (newM (romG g)) (s % 150).toNat)).map (Value.int .u8) ++ sp0) 5) :: Gp) call_31 rfl (fun w hw _ => (by have h9 := encodeL (⟨A47, q.tb, q.oT, va1⟩ : MA) (runM g.plan (newM (romG g)) (s % 150).toNat) hi9.wf hi9.rg y_ba _ w hw; rw [hp47] at h9; exact h9))) rfl ?_
   rintro _ _ ⟨_, ⟨b4, c2, sp2, rfl, hc2, rfl⟩, rfl⟩
   refine ZBw ?_
   refine ZDP ?_
   exact ZBM
  ·refine ZAx ?_
   refine ZAA ?_
   refine RX (x_slc0 rfl) rfl ?_
   rintro _ _ ⟨b2, rfl, rfl⟩
   refine Rl ?_
   refine RX (x_append (A := []) (G := [(b2, blk [] 5)]) (R := hM q (runM g.plan (newM (romG g)) (s % 150).toNat) ++ ((b1, blk ((encA (runM g.plan (newM (romG g)) (s % 150).toNat)).map (Value.int .u8) ++ sp0) 5) :: Gp)) (v := .slice (some ⟨b2, 0, none⟩) 0 0) (n := 0) (xs := []) (m := (encA (runM g.plan (newM (romG g)) (s % 150).toNat)).length) (T := 5) (s := 1) (by_ := 1) (ys := (encA (runM g.plan (newM (romG g)) (s % 150).toNat)).map (.int .u8)) rfl rfl rfl rfl (.row b2 0 0 [] [] rfl rfl y_c (Nat.le_refl _)) (fun w hw => .row _ _ _ _ _ (by rw [List.length_map, Nat.mul_one]) (row_own (b := b1) (l := (encA (runM g.plan (newM (romG g)) (s % 150).toNat)).map (Value.int .u8) ++ sp0) y_l w hw).left) (ones_int _ _) o_m o_m) rfl ?_
   rintro v0 _ ⟨G0, hV0, _, rfl⟩
   obtain ⟨b3, cx1, sp1, rfl, rfl, _, hc1, _⟩ := (hV0.as (n' := (encA (runM g.plan (newM (romG g)) (s % 150).toNat)).length) (xs' := (encA (runM g.plan (newM (romG g)) (s % 150).toNat)).map (.int .u8)) (Nat.zero_add _) rfl).full o_m
   refine ZBw ?_
   refine ZEm ?_
   have hmo1 := Int.emod_nonneg at_ (show ((encA (runM g.plan (newM (romG g)) (s % 150).toNat)).length : Int) ≠ 0 by omega)
   have hmo2 := Int.emod_lt_of_pos at_ (show 0 < ((encA (runM g.plan (newM (romG g)) (s % 150).toNat)).length : Int) by omega)
   refine ZAo ?_
   refine ZCU ?_
   refine RW (v := (.int .u64 ((encA (runM g.plan (newM (romG g)) (s % 150).toNat)).length : Int))) rfl rfl (as_u64 o_m o_m) ?_
   refine RW (v := (.int .u64 (at_ % ((encA (runM g.plan (newM (romG g)) (s % 150).toNat)).length : Int)))) (rem_pos rfl rfl o_m) rfl (congrArg _ (Int.tmod_eq_emod_of_nonneg o_m)) ?_
   refine RW (v := (.int .i64 (at_ % ((encA (runM g.plan (newM (romG g)) (s % 150).toNat)).length : Int)))) rfl rfl (as_i64 o_m o_m) ?_
   refine ZAB ?_
   refine c_cut (σ := Nat) [14, 65, 66, 67, 68, 69, 70, 71] (fun k => [(14, .int .i64 (k : Int))]) (fun _ => (b3, blk ((encA (runM g.plan (newM (romG g)) (s % 150).toNat)).map (Value.int .u8) ++ sp1) 5) :: (hM q (runM g.plan (newM (romG g)) (s % 150).toNat) ++ ((b1, blk ((encA (runM g.plan (newM (romG g)) (s % 150).toNat)).map (Value.int .u8) ++ sp0) 5) :: Gp))) (fun k => k < (encA (runM g.plan (newM (romG g)) (s % 150).toNat)).length) ?_ ?_
   ·refine ZAV ?_
    refine RW (v := (.int .u64 (at_ % 3))) (rem_pos rfl rfl y_c) rfl (congrArg _ (Int.tmod_eq_emod_of_nonneg o_m)) ?_
    refine ZAB ?_
    refine KC (fun q1 q1n => ?_) (fun q1 q1n => ?_)
    ·refine ZAZ ?_
     refine RW (v := (.int .u64 (at_ / 3))) rfl rfl ((congrArg (fun z => Value.int .u64 (IntKind.u64.wrap z)) (Int.tdiv_eq_ediv_of_nonneg o_m)).trans (as_u64 o_m o_m)) ?_
     refine RW (v := (.int .u64 (at_ / 3 % 200))) (rem_pos rfl rfl y_c) rfl (congrArg _ (Int.tmod_eq_emod_of_nonneg o_m)) ?_
     refine RW (v := (.int .i64 (at_ / 3 % 200))) rfl rfl (as_i64 o_m o_m) ?_
     refine ZAB ?_
     exact ⟨(at_ / 3 % 200).toNat, y_D, .cons (congrArg (Value.int .i64) o_m) .nil, a_g, fun _ h => h⟩
    ·refine ZAx ?_
     exact ⟨(at_ % ((encA (runM g.plan (newM (romG g)) (s % 150).toNat)).length : Int)).toNat, y_D, .cons (congrArg (Value.int .i64) o_m) .nil, a_g, fun _ h => h⟩
   ·rintro k yc9 hk
    refine ZAU ?_
    refine RY (idx_slice1 k rfl rfl rfl rfl o_m) rfl ?_
    refine RZ (x_load rfl rfl (at_own (v := .int .u8 ((encA (runM g.plan (newM (romG g)) (s % 150).toNat)).getD k 0)) (b := b3) y_l (by rw [Nat.zero_add, List.getElem?_append_left (by rw [List.length_map]; exact hk)]; exact map_at (l := (encA (runM g.plan (newM (romG g)) (s % 150).toNat))) (j := k) hk))) rfl ?_
    refine Rl ?_
    refine RW (l_xor rfl rfl) rfl rfl ?_
    refine RY (idx_slice1 k rfl rfl rfl rfl o_m) rfl ?_
    refine RZ (x_storeTo (l' := (flipL (encA (runM g.plan (newM (romG g)) (s % 150).toNat)) k x).map (.int .u8) ++ sp1) 0 rfl rfl rfl rfl rfl rfl (by rw [List.length_append, List.length_map]; simp only [List.length_cons, List.length_nil]; omega) (putL_intA .u8 hk _ sp1)) rfl ?_
    refine ZBb ?_
    refine ZAU ?_
    rw [show (.slice (some ⟨b3, 0, none⟩) (encA (runM g.plan (newM (romG g)) (s % 150).toNat)).length cx1 : Value) = .slice (some ⟨b3, 0, none⟩) (flipL (encA (runM g.plan (newM (romG g)) (s % 150).toNat)) k x).length cx1 by rw [flipL_len]]
    refine RX (x_callMA (F := [(b3, blk ((flipL (encA (runM g.plan (newM (romG g)) (s % 150).toNat)) k x).map (Value.int .u8) ++ sp1) 5)]) (A := hM q (runM g.plan (newM (romG g)) (s % 150).toNat)) (G := (b1, blk ((encA (runM g.plan (newM (romG g)) (s % 150).toNat)).map (Value.int .u8) ++ sp0) 5) :: Gp) call_37 rfl (fun w hw hw2 => decodeL q hq (runM g.plan (newM (romG g)) (s % 150).toNat) hi9.wf hi9.rg y_ba (some ⟨b3, 0, none⟩) (cx1) (flipL (encA (runM g.plan (newM (romG g)) (s % 150).toNat)) k x) (flipL_byts (encA_byts hi9.wf) k x) (by rw [flipL_len]; omega) (by rw [flipL_len]; exact hc1) _ w hw (Ns.of (row_own (b := b3) (List.mem_append_right _ (.head _)) w hw2).left) (fun p hp => y_cy))) rfl ?_
    rintro _ _ ⟨_, ⟨rfl, A81, va0, hq81, hmb81, rfl⟩, rfl⟩
    have hp81 : pM (⟨A81, q.tb, q.oT, va0⟩ : MA) = pM q := by show Value.pointer (some ⟨A81.mb, 0, none⟩) = .pointer (some ⟨q.A.mb, 0, none⟩); rw [show A81.mb = q.A.mb from hmb81]
    refine ZBw ?_
    refine ZAB ?_
    refine ZCc ?_
    rcases decAE_kinds (m := (runM g.plan (newM (romG g)) (s % 150).toNat)) (l := (flipL (encA (runM g.plan (newM (romG g)) (s % 150).toNat)) k x)) (flipL_len _ _ _) with he81 | he81
    ·refine ZAP ?_
     rw [he81]
     have hb9 : Byts (flipL (encA (runM g.plan (newM (romG g)) (s % 150).toNat)) k x) := flipL_byts (encA_byts hi9.wf) k x
     obtain ⟨hin9, hen9⟩ := bytes_ok hi9 hb9 he81
     obtain ⟨m9, hm9⟩ : ∃ m, m = decAM (runM g.plan (newM (romG g)) (s % 150).toNat) (flipL (encA (runM g.plan (newM (romG g)) (s % 150).toNat)) k x) := ⟨_, rfl⟩
     rw [← hm9] at hin9 hen9 ⊢
     refine Rl ?_
     refine ZDh ?_
     refine ZA1 ?_
     refine RX (x_callMA (F := [(b3, blk ((flipL (encA (runM g.plan (newM (romG g)) (s % 150).toNat)) k x).map (Value.int .u8) ++ sp1) 5)]) (A := hM (⟨A81, q.tb, q.oT, va0⟩ : MA) m9) (G := (b1, blk ((encA (runM g.plan (newM (romG g)) (s % 150).toNat)).map (Value.int .u8) ++ sp0) 5) :: Gp) call_31 rfl (fun w hw _ => (by have h9 := encodeL (⟨A81, q.tb, q.oT, va0⟩ : MA) m9 hin9.wf hin9.rg (by have := inv_ram (R := newM (romG g)) hin9; omega) _ w hw; rw [hp81] at h9; exact h9))) rfl ?_
     rintro _ _ ⟨_, ⟨b4, c2, sp2, rfl, hc2, rfl⟩, rfl⟩
     refine ZBw ?_
     rw [hen9] at hc2 ⊢
     refine Rl ?_
     refine RZ (x_val call_32 rfl (fun w hw => same_fn (some ⟨b4, 0, none⟩) (some ⟨b3, 0, none⟩) c2 cx1 (flipL (encA (runM g.plan (newM (romG g)) (s % 150).toNat)) k x) (by rw [flipL_len]; have := inv_enc hi9; omega) w (Ns.of (row_own (b := b4) y_l w hw).left) (Ns.of (row_own (b := b3) y_l w hw).left))) rfl ?_
     refine ZDh ?_
     refine ZCc ?_
     refine c_heap (L' := Gp ++ hM (⟨A81, q.tb, q.oT, va0⟩ : MA) m9) (fun _ h => St.fl [[_], [_], hM (⟨A81, q.tb, q.oT, va0⟩ : MA) _, [_], Gp] [4, 2] rfl h) ?_
     refine ZAP ?_
     refine ZBO ?_
     refine c_loop (σ := Nat × Obj × Value × Mm) [10, 16, 17, 101, 102, 103, 104, 105, 106, 107, 108, 109, 110, 111, 112, 113, 114, 115, 116] (fun s => [(101, .int .i64 s.1)]) (fun s => Gp ++ hM (⟨A81, q.tb, s.2.1, s.2.2.1⟩ : MA) s.2.2.2) (fun s => s.1 ≤ 20 ∧ (MA.mk A81 q.tb s.2.1 s.2.2.1).Ok pa g.plan.length pc ∧ MInv (newM (romG g)) False s.2.2.2) (fun s => 20 - s.1) (0, q.oT, va0, m9) ?_ ?_ ?_ ?_
     ·exact ⟨Nat.zero_le _, hq81, hin9⟩
     ·exact .cons rfl .nil
     ·exact fun _ h => h
     ·rintro ⟨i, oi, vi, mi⟩ y5 ⟨hi, hqi, hmi⟩
      dsimp only at hi hqi hmi ⊢
      refine ZCI ?_
      refine KC (fun q1 q1n => ?_) (fun q1 q1n => ?_)
      ·refine ZCQ ?_
       refine ZAV ?_
       refine RX (x_callT (F := Gp) (A := hM (⟨A81, q.tb, oi, vi⟩ : MA) mi) call_19 rfl (fun w hw => by have h9 := stepL (⟨A81, q.tb, oi, vi⟩ : MA) pa pc g.plan hqi hP.ok hP.few mi hmi _ w (St.lentV hw) (hP.els hw fun _ h => List.mem_append_right _ h) (hP.off hw); rw [show pM (⟨A81, q.tb, oi, vi⟩ : MA) = pM q from hp81] at h9; exact h9)) rfl ?_
       rintro _ _ ⟨_, ⟨oT0, v1, G1, hq2, rfl, hV1, rfl⟩, rfl⟩
       obtain ⟨a9, c3, rfl⟩ := hV1.slice
       have hcy : 1 ≤ (stepM g.plan mi).2.acc.length ∧ (stepM g.plan mi).2.acc.length ≤ 6 := (stepM_cyc hP.ok hmi).len
       refine ZBQ ?_
       refine RX (x_alloc rfl) rfl ?_
       rintro _ _ ⟨b5, rfl, rfl⟩
       refine RZ (x_storeTo (l' := cDd (stepM g.plan mi).1) 0 rfl rfl rfl rfl rfl rfl (Nat.le_of_ble_eq_true rfl) rfl) rfl ?_
       simp only [List.set_cons_zero]
       refine ZEl ?_
       refine ZCU ?_
       refine l_sure false rfl rfl rfl y_bz ?_
       refine L_2 ?_
       refine ZCU ?_
       refine l_sure false rfl rfl rfl y_bz ?_
       refine ZAB ?_
       refine ZAK ?_
       refine ZC2 ?_
       exact ⟨(i + 1, oT0, _, (stepM g.plan mi).2), ⟨y_D, hq2, hmi.step hP.ok⟩, by show 20 - (i + 1) < 20 - i; omega, .cons rfl .nil, a_g, fun _ h => h.sub (.cons _ (List.Sublist.append_left (List.sublist_append_right _ _) _))⟩
      ·refine ZBa ?_
       exact ZCu
    ·refine ZAP ?_
     rw [decAM_no he81.symm y_c, he81]
     refine Rl ?_
     refine ZEB ?_
     refine ZAV ?_
     refine ZAf ?_
     refine L_2 ?_
     refine RX (x_callMA (F := [(b3, blk ((flipL (encA (runM g.plan (newM (romG g)) (s % 150).toNat)) k x).map (Value.int .u8) ++ sp1) 5)]) (A := hM (⟨A81, q.tb, q.oT, va0⟩ : MA) (runM g.plan (newM (romG g)) (s % 150).toNat)) (G := (b1, blk ((encA (runM g.plan (newM (romG g)) (s % 150).toNat)).map (Value.int .u8) ++ sp0) 5) :: Gp) call_31 rfl (fun w hw _ => (by have h9 := encodeL (⟨A81, q.tb, q.oT, va0⟩ : MA) (runM g.plan (newM (romG g)) (s % 150).toNat) hi9.wf hi9.rg y_ba _ w hw; rw [hp81] at h9; exact h9))) rfl ?_
     rintro _ _ ⟨_, ⟨b4, c2, sp2, rfl, hc2, rfl⟩, rfl⟩
     refine ZBw ?_
     refine ZDP ?_
     refine Rl ?_
     refine ZAf ?_
     refine Rl ?_
     refine l_sure true rfl rfl rfl (by simpa using flip_no hi9 he81) ?_
     exact ZBM
end Go.Proofs.YtldehodcfajpjaaGreat
