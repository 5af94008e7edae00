/- Parts. -/
import Derived.Test.YtdbgagkcgdlnnaaGreatQtK
set_option maxRecDepth 100000
set_option maxHeartbeats 1000000
set_option linter.all false
namespace Go.Proofs.YtdbgagkcgdlnnaaGreat
open Go Go.VV Go.Proofs Go.RowKit Go.Proofs.Tryz
def eH (n : Nat) : AB := if n < 128 then [(n : Int)] else ((n % 128 + 128 : Nat) : Int) :: eH (n / 128)
termination_by n
decreasing_by omega
def aLg {n : Nat} (h : n < 128) : eH n = [(n : Int)] := by rw [eH, if_pos h]
def aKd {n : Nat} (h : ¬ n < 128) : eH n = ((n % 128 + 128 : Nat) : Int) :: eH (n / 128) := by rw [eH, if_neg h]
def aQU {n : Int} (h : 0 ≤ n) : bor .u8 (n % 256) 128 = n % 128 + 128 := by
 have key := aW (p := fun x => bor .u8 x 128 = x % 128 + 128) y_F (c := n % 256) o_m o_m
 rw [key]; omega
def aQ : AB → AB → Nat
 | x :: a, y :: b => if x = y then aQ a b + 1 else 0
 | _, _ => 0
def pV : ∀ (a b : AB), aQ a b ≤ b.length
 | [], b => aj _
 | _ :: _, [] => ax 0
 | x :: a, y :: b => by
  have := pV a b
  unfold aQ
  split
  ·simp only [Lc_]; omega
  ·exact aj _
def aBT : ∀ {a b : AB} {i : Nat}, i ≤ aQ a b → i < b.length → i < a.length → a.getD i 0 = b.getD i 0 → i + 1 ≤ aQ a b
 | [], _, _, _, _, h, _ => by simp at h
 | _ :: _, [], _, _, h, _, _ => by simp at h
 | x :: a, y :: b, 0, _, _, _, h => by
  have : x = y := h
  unfold aQ; rw [if_pos this]; omega
 | x :: a, y :: b, i + 1, h, hb, ha, he => by
  unfold aQ at h ⊢
  split at h
  ·have := aBT (a := a) (b := b) (i := i) o_m (by simpa using hb) (by simpa using ha) he
   rename_i hxy
   rw [if_pos hxy]; omega
  ·omega
def aBB : ∀ {a b : AB} {i : Nat}, i ≤ aQ a b → i < b.length → i < a.length → a.getD i 0 ≠ b.getD i 0 → i = aQ a b
 | [], _, _, _, _, h, _ => by simp at h
 | _ :: _, [], _, _, h, _, _ => by simp at h
 | x :: a, y :: b, 0, _, _, _, h => by
  have : x ≠ y := h
  unfold aQ; rw [if_neg this]
 | x :: a, y :: b, i + 1, h, hb, ha, he => by
  unfold aQ at h ⊢
  split at h
  ·have := aBB (a := a) (b := b) (i := i) o_m (by simpa using hb) (by simpa using ha) he
   rename_i hxy
   rw [if_pos hxy]; omega
  ·omega
def pA : ∀ (a b : AB), aQ (a.drop (aQ a b)) (b.drop (aQ a b)) = 0
 | [], _ => by simp only [List.drop_nil]; cases (List.drop (aQ [] _) _) <;> rfl
 | _ :: _, [] => rfl
 | x :: a, y :: b => by
  by_cases h : x = y
  ·have e : aQ (x :: a) (y :: b) = aQ a b + 1 := if_pos h
   rw [e]
   exact pA a b
  ·have e : aQ (x :: a) (y :: b) = 0 := if_neg h
   rw [e]
   exact e
def oth (a b : AB) : Nat :=
 if h : b = [] then 0 else if 4 ≤ aQ a b ∨ aQ a b = b.length then 0 else aQ a b + 1 + oth (a.drop (aQ a b + 1)) (b.drop (aQ a b + 1))
termination_by b.length
decreasing_by
 have := List.length_pos_iff.2 h
 rw [Ld_]; omega
def aOw (a : AB) : oth a [] = 0 := by rw [oth, dif_pos rfl]
def oth_stop {a b : AB} (h : 4 ≤ aQ a b ∨ aQ a b = b.length) : oth a b = 0 := by
 rw [oth]
 by_cases hb : b = []
 ·rw [dif_pos hb]
 ·rw [dif_neg hb, if_pos h]
def aD5 {a b : AB} (hb : b ≠ []) (h : ¬ (4 ≤ aQ a b ∨ aQ a b = b.length)) : oth a b = aQ a b + 1 + oth (a.drop (aQ a b + 1)) (b.drop (aQ a b + 1)) := by
 rw [oth, dif_neg hb, if_neg h]
def aED (a b : AB) : oth a b ≤ b.length := by
 rw [oth]
 split
 ·exact aj _
 ·split
  ·exact aj _
  ·rename_i hb h
   have h1 := pV a b
   have h2 := aED (a.drop (aQ a b + 1)) (b.drop (aQ a b + 1))
   rw [Ld_] at h2
   omega
termination_by b.length
decreasing_by
 rename_i hb _
 have := List.length_pos_iff.2 hb
 rw [Ld_]; omega
def aAo {a b : AB} (hb : b ≠ []) (h : aQ a b = 0) : 1 ≤ oth a b := by
 have := List.length_pos_iff.2 hb
 rw [aD5 hb o_m]; omega
def fD (a b : AB) : AB :=
 eH (aQ a b) ++ (if h : b.drop (aQ a b) = [] then [] else
  eH (oth (a.drop (aQ a b)) (b.drop (aQ a b))) ++ ((b.drop (aQ a b)).take (oth (a.drop (aQ a b)) (b.drop (aQ a b))) ++
   fD ((a.drop (aQ a b)).drop (oth (a.drop (aQ a b)) (b.drop (aQ a b)))) ((b.drop (aQ a b)).drop (oth (a.drop (aQ a b)) (b.drop (aQ a b))))))
termination_by b.length
decreasing_by
 have h1 := aAo h (pA a b)
 have h2 := List.length_pos_iff.2 h
 rw [Ld_] at h2
 rw [Ld_, Ld_]; omega
def aAR {a b : AB} (h : b.drop (aQ a b) = []) : fD a b = eH (aQ a b) := by
 rw [fD, dif_pos h, bq]
def zV {a b : AB} (h : b.drop (aQ a b) ≠ []) : fD a b = eH (aQ a b) ++ (eH (oth (a.drop (aQ a b)) (b.drop (aQ a b))) ++ ((b.drop (aQ a b)).take (oth (a.drop (aQ a b)) (b.drop (aQ a b))) ++
      fD ((a.drop (aQ a b)).drop (oth (a.drop (aQ a b)) (b.drop (aQ a b)))) ((b.drop (aQ a b)).drop (oth (a.drop (aQ a b)) (b.drop (aQ a b)))))) := by
  conv => lhs; rw [fD]
  rw [dif_neg h]
def nP (n : Nat) : 1 ≤ (eH n).length ∧ (eH n).length ≤ n / 128 + 1 := by
 rw [eH]
 split
 ·simp
 ·have h := nP (n / 128)
  simp only [Lc_]; omega
termination_by n
decreasing_by omega
def aA9 (a b : AB) : (fD a b).length ≤ 3 * b.length + 1 := by
 have hl := pV a b
 have hp := (nP (aQ a b)).2
 by_cases h : b.drop (aQ a b) = []
 ·rw [aAR h]; omega
 ·rw [zV h]
  have h1 := aAo h (pA a b)
  have h2 := aED (a.drop (aQ a b)) (b.drop (aQ a b))
  have h3 := (nP (oth (a.drop (aQ a b)) (b.drop (aQ a b)))).2
  have h4 := aA9 ((a.drop (aQ a b)).drop (oth (a.drop (aQ a b)) (b.drop (aQ a b)))) ((b.drop (aQ a b)).drop (oth (a.drop (aQ a b)) (b.drop (aQ a b))))
  simp only [La_, Lt_, Ld_] at *
  omega
termination_by b.length
decreasing_by
 have h1 := aAo h (pA a b)
 have h2 := List.length_pos_iff.2 h
 rw [Ld_] at h2
 rw [Ld_, Ld_]; omega
def xK (l : AB) : Nat → Int
 | 0 => 14695981039346656037
 | i + 1 => (jZ .u64 (xK l i) (l.getD i 0) * 1099511628211) % 18446744073709551616
def aMZ (l : AB) (i : Nat) : 0 ≤ xK l i ∧ xK l i < 18446744073709551616 := by cases i with
 | zero => exact ⟨(by decide : (0 : Int) ≤ 14695981039346656037), (by decide : (14695981039346656037 : Int) < 18446744073709551616)⟩
 | succ i => unfold xK; omega
def aSG (l : AB) : Int := xK l l.length
end Go.Proofs.YtdbgagkcgdlnnaaGreat
namespace Go.Proofs.YtdbgagkcgdlnnaaGreat.Tm
open Go Go.VV
structure Mark where
 t : Int
 a : AC
 c : Nat
 l : AB
def cm (m : Mark) : AA := [.int .u64 m.t, .slice m.a m.l.length m.c]
def iX (m : Mark) : (cm m).length = 2 := rfl
def Rise (ms : List Mark) : Prop := ms.Pairwise (fun x y => x.t < y.t) ∧ ∀ m ∈ ms, 0 ≤ m.t ∧ m.t ≤ 4611686018427387904
def Rise.sub {a b : List Mark} (h : Rise b) (hs : a.Sublist b) : Rise a := ⟨h.1.sublist hs, fun m hm => h.2 m (hs.subset hm)⟩
def Rise.nil : Rise [] := ⟨.nil, fun _ h => y_ep⟩
def thinR (last : Int) : Int → List Mark → List Mark
 | _, [] => []
 | _, [m] => [m]
 | behind, m :: p :: r => if behind - p.t ≤ 2 + last - behind then thinR last behind (p :: r) else m :: thinR last m.t (p :: r)
def thinL (ms : List Mark) : List Mark :=
 match ms.reverse with
 | [] => []
 | z :: r => (z :: thinR z.t z.t r).reverse
def cutL (cap : Nat) (ms : List Mark) : List Mark := ms.take 1 ++ ms.drop (1 + (ms.length - cap))
def yT (last : Int) : ∀ (r : List Mark) (b : Int), (thinR last b r).Sublist r
 | [], _ => List.Sublist.refl _
 | [m], _ => List.Sublist.refl _
 | m :: p :: r, b => by
  unfold thinR
  split
  ·exact (yT last (p :: r) b).cons m
  ·exact (yT last (p :: r) m.t).cons_cons m
def aCQ (ms : List Mark) : (thinL ms).Sublist ms := by
 unfold thinL
 cases h : ms.reverse with
 | nil => simp
 | cons z r =>
  have : ms = (z :: r).reverse := by rw [← h, List.reverse_reverse]
  rw [this]
  exact ((yT z.t r z.t).cons_cons z).reverse
def aMR (cap : Nat) (ms : List Mark) : (cutL cap ms).Sublist ms := by
 unfold cutL
 have : ms = ms.take 1 ++ ms.drop 1 := (dj 1 ms).symm
 conv => rhs; rw [this]
 refine (List.Sublist.refl _).append ?_
 rw [← bf]
 exact List.drop_sublist _ _
def m0 : Mark := ⟨0, none, 0, []⟩
def tm (ms : List Mark) (k : Nat) : Int := (ms.getD k m0).t
def tF {ms : List Mark} {k : Nat} (hk : k < ms.length) : ms[k].t = tm ms k := by simp [tm, hk]
def wG {ms : List Mark} {k : Nat} (hk : k < ms.length) : ms[k] = ms.getD k m0 := by simp [hk]
def aAe (w : AI) (b : Nat) (cap : Int) (ms : List Mark) : Prop :=
 ∃ a c, w.cell? ⟨b, 0, none⟩ = some (.slice a ms.length c) ∧ ms.length ≤ c ∧ w.cell? ⟨b, 1, none⟩ = some (.int .i64 cap) ∧ Els w cm a ms
def aAe.later0 {w0 w : AI} {H : aB} {b : Nat} {cap : Int} {ms : List Mark} (h : aAe w0 b cap ms) (hw : St w0 [] H w) : aAe w b cap ms := by
 obtain ⟨a, c, h0, hc, h1, hE⟩ := h
 exact ⟨a, c, bF h0 y_v w hw, hc, bF h1 y_v w hw, hE.later0 hw⟩
def yP (w : AI) (a : AC) (l : AB) : Prop := (a = none ∧ l = []) ∨ ∃ b off, a = some ⟨b, off, none⟩ ∧ Row w b off (l.map (.int .u8))
def yP.later0 {w0 w : AI} {H : aB} {a : AC} {l : AB} (h : yP w0 a l) (hw : St w0 [] H w) : yP w a l := by
 rcases h with h | ⟨b, off, ha, hr⟩
 ·exact .inl h
 ·exact .inr ⟨b, off, ha, aR hr y_v w hw⟩
abbrev Byt (l : AB) (v : AH) (G : aB) : Prop := Vec 5 1 v l.length (l.map (.int .u8)) G
def Byt.slice {l : AB} {v : AH} {G : aB} (h : Byt l v G) : ∃ a c, v = .slice a l.length c ∧ l.length ≤ c ∧ ∀ (w0 w : AI) (ms : AE) (H : aB), St w0 ms H w → (∀ x ∈ G, x ∈ H) → yP w a l := by
 unfold Byt at h
 generalize hx : l.map U_ = xs at h
 generalize hn : l.length = n at h ⊢
 cases h with
 | nil => exact ⟨none, 0, rfl, ax _, fun _ _ _ _ _ _ => .inl ⟨rfl, ci hn⟩⟩
 | row b _ cap _ sp h1 h2 h3 h4 =>
  refine ⟨_, cap, rfl, h4, fun w0 w ms H hw hs => .inr ⟨b, 0, rfl, ?_⟩⟩
  rw [hx]
  exact (Row.all (hw.holds _ (hs _ (.head _)))).left
def aNm (w : AI) (ms : List Mark) : Prop := ∀ m ∈ ms, m.l.length ≤ m.c ∧ m.l.length ≤ 140737488355328 ∧ yP w m.a m.l
def aNm.later0 {w0 w : AI} {H : aB} {ms : List Mark} (h : aNm w0 ms) (hw : St w0 [] H w) : aNm w ms := fun m hm => ⟨(h m hm).1, (h m hm).2.1, (h m hm).2.2.later0 hw⟩
def zM (D : aB) (ms : List Mark) : Prop := ∀ m ∈ ms, m.l.length ≤ m.c ∧ m.l.length ≤ 140737488355328 ∧ ∀ (w0 w : AI) (ms : AE) (H : aB), St w0 ms H w → (∀ x ∈ D, x ∈ H) → yP w m.a m.l
def zM.sub {D : aB} {a b : List Mark} (h : zM D b) (hs : a.Sublist b) : zM D a := fun m hm => h m (hs.subset hm)
def zM.more {D D' : aB} {ms : List Mark} (h : zM D ms) (hs : ∀ x ∈ D, x ∈ D') : zM D' ms := fun m hm => ⟨(h m hm).1, (h m hm).2.1, fun w0 w ms H hw hx => (h m hm).2.2 w0 w ms H hw fun x hx' => hx x (hs x hx')⟩
def aBl {w : AI} {b off : Nat} {ms : List Mark} (hr : Row w b off (aE cm ms)) {k : Nat} (hk : k < ms.length) : w.cell? ⟨b, off + k * 2 + 0, none⟩ = some (.int .u64 (tm ms k)) := by
 have := Row.nth iX hr hk 0 _ rfl
 rw [tF hk] at this
 exact this
def tC {w : AI} {b off : Nat} {ms : List Mark} (hr : Row w b off (aE cm ms)) {k : Nat} (hk : k < ms.length) : Row w b (off + k * 2) (cm (ms.getD k m0)) := by
 have := Row.nth iX hr hk
 rw [wG hk] at this
 exact this
def eJ (ms : List Mark) : Int := if ms.length = 0 then 0 else tm ms (ms.length - 1)
def aKB {ms : List Mark} (h : ms.length = 0) : (Value.tuple #[.int .u64 (eJ ms), .bool (decide (ms.length ≠ 0))]) = .tuple #[.int .u64 0, .bool false] := by simp [eJ, h]
def aKT {ms : List Mark} (h : ms.length ≠ 0) : (Value.tuple #[.int .u64 (eJ ms), .bool (decide (ms.length ≠ 0))]) = .tuple #[.int .u64 (tm ms (ms.length - 1)), .bool true] := by simp [eJ, h]
def xW {ms : List Mark} (h : ms.length ≠ 0) : tm ms (ms.length - 1) = eJ ms := by simp [eJ, h]
def cmpI (a b : Int) : Int := if a < b then -1 else if a > b then 1 else 0
def times (ms : List Mark) : AB := ms.map (·.t)
def times_len (ms : List Mark) : (times ms).length = ms.length := by simp [times]
def aIC {ms : List Mark} {k : Nat} (hk : k < ms.length) : (times (ms.take (k + 1))).map (Value.int .u64) = (times (ms.take k)).map (.int .u64) ++ [.int .u64 (tm ms k)] := by
 rw [ea hk, times, aw, aw, tm_get' hk]
 rfl
where tm_get' {ms : List Mark} {k : Nat} (hk : k < ms.length) : [ms[k]].map (·.t) = [tm ms k] := by simp [tm, hk]
def aD3 {ms : List Mark} (hR : Rise ms) {k : Nat} (hk : k < ms.length) : tm ms k ≤ eJ ms := by
 rw [eJ, if_neg o_m]
 rcases dh k (ms.length - 1) with h | h
 ·have := (List.pairwise_iff_getElem.1 hR.1) k (ms.length - 1) hk o_m h
  rw [tF hk, tF o_m] at this
  omega
 ·have : k = ms.length - 1 := by omega
  subst this; exact gi _
def aCV {α : Type} : ∀ (L : List α), (List.range L.length).filterMap (L[·]?) = L
 | [] => rfl
 | x :: L => by
  rw [Lc_, List.range_succ_eq_map, List.filterMap_cons]
  simp only [dt, List.filterMap_map, Function.comp_def, dk]
  rw [aCV L]
def St.ix {w0 w : AI} {ms : AE} {L : aB} (ix : AE) (h : St w0 ms L w) (hp : ix.isPerm (List.range L.length) = true) : St w0 ms (ix.filterMap (L[·]?)) w := h.perm (by
 have h1 := (List.isPerm_iff.1 hp).filterMap (L[·]?)
 rw [aCV] at h1
 exact h1.symm)
def St.pick {w0 w : AI} {ms : AE} {L : aB} (ix : AE) (h : St w0 ms L w) (hp : decide ix.Nodup = true) : St w0 ms (ix.filterMap (L[·]?)) w := by
 have hp := c7 hp
 have hmem : ∀ x ∈ ix.filterMap (L[·]?), x ∈ L := fun x hx => by
  obtain ⟨i, _, hi⟩ := List.mem_filterMap.1 hx
  exact ay hi
 refine ⟨h.os, h.tape, h.output, h.size, h.block, ?_, fun x hx => h.own x (hmem x hx), fun x hx => h.holds x (hmem x hx)⟩
 rw [List.map_filterMap]
 refine List.Pairwise.filterMap _ ?_ hp
 intro a a' haa b hb b' hb' hbb
 obtain ⟨x, hx, rfl⟩ := Option.map_eq_some_iff.1 hb
 obtain ⟨x', hx', rfl⟩ := Option.map_eq_some_iff.1 hb'
 obtain ⟨h1, rfl⟩ := List.getElem?_eq_some_iff.1 hx
 obtain ⟨h2, rfl⟩ := List.getElem?_eq_some_iff.1 hx'
 have hn := List.pairwise_iff_getElem.1 h.nodup
 rcases Nat.lt_trichotomy a a' with h3 | h3 | h3
 ·exact hn a a' (by simpa using h1) (by simpa using h2) h3 (by simpa using hbb)
 ·exact haa h3
 ·exact hn a' a (by simpa using h2) (by simpa using h1) h3 (by simpa using hbb.symm)
def St.lend {w0 w : AI} {ms : AE} {F G : aB} (h : St w0 ms (F ++ G) w) : St w (F.map (·.1)) F w :=
 St.lent (by have := h.nodup; rw [aw, cx] at this; exact this.1) fun x hx => h.holds x (by simp [hx])
def sY (ms : List Mark) (sp : AA) {k : Nat} (hk : k < ms.length) (x : Mark) : aP (aE cm ms ++ sp) (0 + k * 2) (cm x) = aE cm (ms.set k x) ++ sp := by
 have h1 : ms = ms.take k ++ ms[k] :: ms.drop (k + 1) := sK hk
 have hl : (ms.take k).length = k := by rw [Lt_]; omega
 have h2 := zD iX (ms.take k) (ms.drop (k + 1)) ms[k] x sp
 rw [hl, ← h1] at h2
 rw [h2, cz, if_pos hk]
def aEx (ms : List Mark) (sp : AA) {k : Nat} (hk : k < ms.length) (x : Mark) : 0 + k * 2 + (cm x).length ≤ (aE cm ms ++ sp).length := by
 rw [La_, bL iX, iX]; omega
def rC (ms cur : List Mark) (i : Nat) : Prop := cur.length = ms.length ∧ ∀ k, k < ms.length → cur.getD k m0 = if k < i ∨ ms.length ≤ k + i then ms.getD (ms.length - 1 - k) m0 else ms.getD k m0
def rC.zero (ms : List Mark) : rC ms ms 0 := ⟨rfl, fun k hk => by rw [if_neg o_m]⟩
def aFL (l : List Mark) (i k : Nat) (x : Mark) (hi : i < l.length) : (l.set i x).getD k m0 = if k = i then x else l.getD k m0 := by
 simp only [Gd_, d6]
 by_cases h : i = k
 ·subst h; simp [hi]
 ·rw [if_neg h, if_neg (Ne.symm h)]
def rC.step {ms cur : List Mark} {i : Nat} (h : rC ms cur i) (hi : i + i + 1 < ms.length) :
  rC ms ((cur.set i (cur.getD (ms.length - 1 - i) m0)).set (ms.length - 1 - i) (cur.getD i m0)) (i + 1) := by
 obtain ⟨hl, hk⟩ := h
 refine ⟨by simp [hl], fun k hkl => ?_⟩
 rw [aFL _ _ _ _ (by simp [hl]; omega), aFL _ _ _ _ o_m]
 have h1 := hk i o_m
 have h2 := hk (ms.length - 1 - i) o_m
 rw [if_neg o_m] at h1 h2
 by_cases e1 : k = ms.length - 1 - i
 ·rw [if_pos e1, if_pos o_m, h1]; congr 1; omega
 ·rw [if_neg e1]
  by_cases e2 : k = i
  ·rw [if_pos e2, if_pos o_m, h2, e2]
  ·rw [if_neg e2, hk k hkl]
   by_cases e3 : k < i ∨ ms.length ≤ k + i
   ·rw [if_pos e3, if_pos o_m]
   ·rw [if_neg e3, if_neg o_m]
def rC.last {ms cur : List Mark} {i : Nat} (h : rC ms cur i) (hi : ms.length ≤ i + i + 1) : cur = ms.reverse := by
 obtain ⟨hl, hk⟩ := h
 apply List.ext_getElem (by simp [hl])
 intro k h1 h2
 have h3 := hk k o_m
 rw [List.getElem_reverse, wG, wG, h3]
 by_cases e : k < i ∨ ms.length ≤ k + i
 ·rw [if_pos e]
 ·rw [if_neg e]; congr 1; omega
def aFl {n i : Nat} (h : i ≤ n) (hn : n < 1000000000) : IntKind.i64.wrap ((n : Int) - 1 - (i : Int) - 1) = (n : Int) - 1 - ((i + 1 : Nat) : Int) := by
 rw [aI o_m o_m]; omega
def aHx {n : Nat} (h : n ≠ 0) (hn : n < 1000000000) : IntKind.i64.wrap ((n : Int) - 1) = ((n - 1 : Nat) : Int) := by
 rw [aI o_m o_m]; omega
def aKO {m a b : Nat} (h : b = a + 1) (ha : a < m) (hm : m < 1000000000) : IntKind.i64.wrap ((m : Int) - 1 - (a : Int) - 1) = (m : Int) - 1 - (b : Int) := by
 subst h; exact aFl o_m hm
def rr (ms : List Mark) (j : Nat) : List Mark := ms.dropLast.reverse.drop j
def aAq {ms : List Mark} {j : Nat} (h : j + 1 < ms.length) : rr ms j = ms.getD (ms.length - 1 - 1 - j) m0 :: rr ms (j + 1) := by
 unfold rr
 have hl : j < ms.dropLast.reverse.length := by simp; omega
 rw [ir hl, List.getElem_reverse, List.getElem_dropLast, wG]
 simp only [f0]
def aJW {ms : List Mark} {j : Nat} (h : ms.length ≤ j + 1) : rr ms j = [] := by
 unfold rr
 apply gf
 simp; omega
def aFm {ms : List Mark} (h : ms.length ≠ 0) : thinL ms = (ms.getD (ms.length - 1) m0 :: thinR (eJ ms) (eJ ms) (rr ms 0)).reverse := by
 obtain ⟨A, a, rfl⟩ := aCG (l := ms) o_m
 simp [thinL, rr, eJ, tm]
structure Kept (ms K : List Mark) (j q : Nat) : Prop where
 pos : 0 < K.length
 small : K.length ≤ j + 1
 last : K.getD (K.length - 1) m0 = ms.getD q m0
 hi : q < ms.length
 lo : ms.length ≤ q + j + 1
 rest : ms.getD (ms.length - 1) m0 :: thinR (eJ ms) (eJ ms) (rr ms 0) = K ++ thinR (eJ ms) (tm ms q) (rr ms j)
def Kept.zero {ms : List Mark} (h : ms.length ≠ 0) : Kept ms [ms.getD (ms.length - 1) m0] 0 (ms.length - 1) :=
 ⟨y_eu, y_eu, y_eu, y_B, y_B, by rw [xW h]; rfl⟩
def aPf {ms : List Mark} (hR : Rise ms) {i j : Nat} (hij : i ≤ j) (hj : j < ms.length) : tm ms i ≤ tm ms j := by
 rcases dh i j with h | h
 ·have := (List.pairwise_iff_getElem.1 hR.1) i j o_m hj h
  rw [tF o_m, tF hj] at this; omega
 ·have : i = j := by omega
  subst this; exact gi _
def wH {ms : List Mark} (hR : Rise ms) {j : Nat} (hj : j < ms.length) : 0 ≤ tm ms j ∧ tm ms j ≤ 4611686018427387904 := by
 have := hR.2 _ (fh hj)
 rw [tF hj] at this; exact this
def aJa {ms : List Mark} (hR : Rise ms) {p q : Nat} (hpq : p ≤ q) (hq : q < ms.length) : IntKind.u64.wrap (tm ms q - tm ms p) = tm ms q - tm ms p := by
 have h1 := aPf hR hpq hq
 have h2 := wH hR hq
 have h3 := wH hR (j := p) o_m
 exact iT o_m o_m
def aGw {ms : List Mark} (hR : Rise ms) {q : Nat} (hq : q < ms.length) : IntKind.u64.wrap (IntKind.u64.wrap (2 + eJ ms) - tm ms q) = 2 + eJ ms - tm ms q := by
 have h1 := aD3 hR hq
 have h2 := wH hR hq
 have h3 := wH hR (j := ms.length - 1) o_m
 rw [xW o_m] at h3
 rw [iT (n := 2 + eJ ms) o_m o_m, iT o_m o_m]
def Kept.skip {ms K : List Mark} {j q : Nat} (h : Kept ms K j q) (hR : Rise ms) (hj : j + 2 < ms.length)
  (hc : decide (IntKind.u64.wrap (tm ms q - tm ms (ms.length - 1 - 1 - j - 1)) ≤ IntKind.u64.wrap (IntKind.u64.wrap (2 + eJ ms) - tm ms q)) = true) : Kept ms K (j + 1) q := by
 have hlo := h.lo
 rw [aJa hR o_m h.hi, aGw hR h.hi, decide_eq_true_eq] at hc
 refine ⟨h.pos, by have := h.small; omega, h.last, h.hi, y_B, ?_⟩
 rw [h.rest, aAq o_m, aAq (j := j + 1) o_m]
 have e : ms.length - 1 - 1 - j - 1 = ms.length - 1 - 1 - (j + 1) := by omega
 rw [e] at hc
 conv => lhs; unfold thinR
 rw [if_pos (show tm ms q - (ms.getD (ms.length - 1 - 1 - (j + 1)) m0).t ≤ _ from hc)]
def Kept.keep {ms K : List Mark} {j q : Nat} (h : Kept ms K j q) (hR : Rise ms) (hj : j + 1 < ms.length)
  (hc : j + 2 < ms.length → decide (IntKind.u64.wrap (tm ms q - tm ms (ms.length - 1 - 1 - j - 1)) ≤ IntKind.u64.wrap (IntKind.u64.wrap (2 + eJ ms) - tm ms q)) = false) :
  Kept ms (K ++ [ms.getD (ms.length - 1 - 1 - j) m0]) (j + 1) (ms.length - 1 - 1 - j) := by
 have hlo := h.lo
 refine ⟨y_eu, by have := h.small; simp; omega, y_eu, y_B, y_B, ?_⟩
 rw [h.rest, aAq hj]
 rcases dh (j + 2) ms.length with h2 | h2
 ·have hc := hc h2
  rw [aJa hR o_m h.hi, aGw hR h.hi, decide_eq_false_iff_not] at hc
  rw [aAq (j := j + 1) o_m]
  have e : ms.length - 1 - 1 - j - 1 = ms.length - 1 - 1 - (j + 1) := by omega
  rw [e] at hc
  conv => lhs; unfold thinR
  rw [if_neg (show ¬ tm ms q - (ms.getD (ms.length - 1 - 1 - (j + 1)) m0).t ≤ _ from hc), As_]
  rfl
 ·rw [aJW (j := j + 1) o_m]
  simp [thinR]
def Kept.done {ms K : List Mark} {j q : Nat} (h : Kept ms K j q) (hj : ms.length ≤ j + 1) : thinL ms = K.reverse := by
 rw [aFm (by have := h.hi; omega), h.rest, aJW hj]
 simp [thinR]
def Kept.behind {ms K : List Mark} {j q : Nat} (h : Kept ms K j q) : tm K (K.length - 1) = tm ms q := by
 unfold tm; rw [h.last]
def aOz {ms : List Mark} (h : ms.length ≠ 0) {w : AI} {b off : Nat} (hr : Row w b off (aE cm ms)) : w.cell? ⟨b, off + (ms.length - 1) * 2 + 0, none⟩ = some (.int .u64 (eJ ms)) := by
 rw [← xW h]; exact aBl hr o_m
def Kept.at_ {ms K : List Mark} {j q : Nat} (h : Kept ms K j q) {w : AI} {b off : Nat} (hr : Row w b off (aE cm K)) : w.cell? ⟨b, off + (K.length - 1) * 2 + 0, none⟩ = some (.int .u64 (tm ms q)) := by
 rw [← h.behind]; exact aBl hr (by have := h.pos; omega)
def sV {T s : Nat} {v : AH} {n : Nat} {xs : AA} {G : aB} (h : Vec T s v n xs G) (hn : n ≠ 0) :
  ∃ b cap sp, v = .slice (Q_ b) n cap ∧ G = [(b, blk (xs ++ sp) T)] ∧ (xs ++ sp).length = cap * s ∧ n ≤ cap ∧ cap ≤ maxLen := by
 cases h with
 | nil => exact absurd rfl hn
 | row b _ cap _ sp h1 h2 h3 h4 => exact ⟨b, cap, sp, rfl, rfl, h2, h4, h3⟩
def tQ {b cap : Nat} {ms : List Mark} {sp : AA} (h2 : (aE cm ms ++ sp).length = cap * 2) (h4 : ms.length ≤ cap) (h3 : cap ≤ maxLen) :
  Vec 223 2 (.slice (Q_ b) ms.length cap) ms.length (aE cm ms) [(b, blk (aE cm ms ++ sp) 223)] :=
 .row b _ cap _ sp (bL iX ms) h2 h3 h4
def mZ (b : Nat) (cap : Int) (ms : List Mark) (H : aB) : Prop := ∃ v G, H = (b, blk [v, .int .i64 cap] 155) :: G ∧ Vec 223 2 v ms.length (aE cm ms) G
def aHH {v : AH} {ms : List Mark} {G : aB} (h : Vec 223 2 v ms.length (aE cm ms) G) (hn : ms.length ≠ 0) :
  ∃ b cap sp, v = .slice (Q_ b) ms.length cap ∧ G = [(b, blk (aE cm ms ++ sp) 223)] ∧ (aE cm ms ++ sp).length = cap * 2 ∧ ms.length ≤ cap ∧ cap ≤ maxLen := sV h hn
abbrev bwH (lb bx bm m c : Nat) (rec : Loop) (ms : List Mark) (sp : AA) (T : aB) : aB :=
 (lb, .loop rec) :: (bx, blk [.slice (Q_ bm) m c] 153) :: (bm, blk (aE cm ms ++ sp) 223) :: T
structure TS where
 j : Nat
 K : List Mark
 b : Nat
 c : Nat
 sp : AA
 q : Nat
def TS.ok (ms : List Mark) (s : TS) : Prop := Kept ms s.K s.j s.q ∧ (aE cm s.K ++ s.sp).length = s.c * 2 ∧ s.K.length ≤ s.c ∧ s.c ≤ maxLen
abbrev aBi (b4 b3 b1 b : Nat) (lT : Int) (line : AA) (s : TS) : aB :=
 [(b4, blk [.slice (Q_ s.b) s.K.length s.c] 153), (b3, blk [.int .u64 lT] 31), (b1, blk [P_ b] 66), (b, blk line 155), (s.b, blk (aE cm s.K ++ s.sp) 223)]
def aRf {b c n : Nat} : Value.slice (some ⟨b, iF 0 0 2 c, none⟩) (n - 0) (c - 0) = .slice (Q_ b) n c := by simp [iF]
def bQ (X Y vs : AA) {off : Nat} (h : X.length ≤ off) : aP (X ++ Y) off vs = X ++ aP Y (off - X.length) vs := by
 unfold aP
 rw [iw, iy, cw h, dm o_m, bw, As_, As_, As_]
 have : off + vs.length - X.length = off - X.length + vs.length := by omega
 rw [this]
def aBh (ms : List Mark) (j : Nat) : aE cm ms = aE cm (ms.take j) ++ aE cm (ms.drop j) := by rw [← fJ, dj]
def aMe {w : AI} {b j c : Nat} {ms : List Mark} {sp : AA} (hr : Row w b 0 (aE cm ms ++ sp)) (hj : j ≤ ms.length) (hc : ms.length ≤ c) : Row w b (iF 0 j 2 c) (aE cm (ms.drop j)) := by
 have h1 := hr.cut (l := j) (k := ms.length - j) (s := 2) (c := c) o_m
 have hl : (aE cm (ms.take j)).length = j * 2 := by rw [bL iX, Lt_]; congr 1; omega
 have hl2 : (aE cm (ms.drop j)).length = (ms.length - j) * 2 := by rw [bL iX, Ld_]
 rw [aBh ms j, As_, ← hl, fu, ← hl2, ib] at h1
 exact h1
def aPH (ms : List Mark) (sp zs : AA) {j : Nat} (h1 : 1 ≤ ms.length) (hj : j ≤ ms.length) :
  ∃ sp', aP (aP (aE cm ms ++ sp) (1 * 2) (aE cm (ms.drop j))) ((1 + (ms.length - j)) * 2) zs = aE cm (ms.take 1 ++ ms.drop j) ++ sp' := by
 have hl : (aE cm (ms.take 1)).length = 1 * 2 := by rw [bL iX, Lt_]; congr 1; omega
 have hl2 : (aE cm (ms.drop j)).length = (ms.length - j) * 2 := by rw [bL iX, Ld_]
 rw [aBh ms 1, As_, bQ _ _ _ o_m, hl, Nat.sub_self]
 have : aP (aE cm (ms.drop 1) ++ sp) 0 (aE cm (ms.drop j)) = aE cm (ms.drop j) ++ (aE cm (ms.drop 1) ++ sp).drop (0 + (aE cm (ms.drop j)).length) := by simp [aP]
 rw [this, ← As_, ← fJ, bQ _ _ _ (by rw [fJ, La_, hl, hl2]; omega)]
 exact ⟨_, rfl⟩
def wI (ms : List Mark) (sp : AA) {j : Nat} (hj : j ≤ ms.length) (h1 : 1 ≤ j) : 1 * 2 + (aE cm (ms.drop j)).length ≤ (aE cm ms ++ sp).length := by
 rw [bL iX, La_, bL iX, Ld_]; omega
def aQA {b l c n k m : Nat} (h : l < c) (hk : n - l = k) (hm : l * 2 = m) : Value.slice (some ⟨b, iF 0 l 2 c, none⟩) (n - l) (c - l) = .slice (some ⟨b, m, none⟩) k (c - l) := by
 rw [iF, if_neg o_m, hk, az, hm]
def aI9 (ms : List Mark) : fE (aE cm ms) = true := by
 refine List.all_eq_true.2 fun x hx => ?_
 obtain ⟨m, _, hm⟩ := List.mem_flatMap.1 hx
 simp only [cm, eu, fi, or_false] at hm
 rcases hm with rfl | rfl <;> rfl
def tK {ms : List Mark} {mk : Mark} (h : Rise ms) (h0 : 0 ≤ mk.t) (h1 : mk.t ≤ 4611686018427387904) (hl : ms.length ≠ 0 → eJ ms < mk.t) : Rise (ms ++ [mk]) := by
 refine ⟨List.pairwise_append.2 ⟨h.1, y_eu, ?_⟩, ?_⟩
 ·intro a ha b hb
  have : b = mk := by simpa using hb
  subst this
  obtain ⟨k, hk, rfl⟩ := List.getElem_of_mem ha
  have h2 := aD3 h hk
  have := hl o_m
  rw [tF hk]; omega
 ·intro m hm
  rcases List.mem_append.1 hm with hm | hm
  ·exact h.2 m hm
  ·have : m = mk := by simpa using hm
   subst this; exact ⟨h0, h1⟩
def jA (ms : List Mark) (t : Int) : Int := if 4611686018427387904 < t then 1 else if ms.length = 0 then (if t = 0 then 0 else 1) else if t ≤ eJ ms then 10 else 0
def addM (cap : Nat) (ms : List Mark) (mk : Mark) : List Mark := cutL cap (thinL (ms ++ [mk]))
def aDa {ms : List Mark} (h : ms.length ≠ 0) : 1 ≤ (thinL ms).length := by rw [aFm h]; simp
def aEb (ms : List Mark) : (thinL ms).length ≤ ms.length := (aCQ ms).length_le
def aA0 {cap : Nat} {ms : List Mark} (h : ms.length ≤ cap) : cutL cap ms = ms := by
 rw [cutL, show ms.length - cap = 0 by omega, gn, dj]
def aBW {ms : List Mark} {t : Int} (h : 4611686018427387904 < t) : jA ms t = 1 := by simp [jA, h]
def yQ {ms : List Mark} {t : Int} (h : ¬ 4611686018427387904 < t) (hz : ms.length = 0) (ht : t ≠ 0) : jA ms t = 1 := by simp [jA, h, hz, ht]
def aAC {ms : List Mark} {t : Int} (h : ¬ 4611686018427387904 < t) (hz : ms.length ≠ 0) (ht : t ≤ eJ ms) : jA ms t = 10 := by simp [jA, h, hz, ht]
def tU {ms : List Mark} {t : Int} (h : ¬ 4611686018427387904 < t) (h2 : ms.length = 0 → t = 0) (h3 : ms.length ≠ 0 → ¬ t ≤ eJ ms) : jA ms t = 0 := by
 unfold jA
 rw [if_neg h]
 split
 ·rw [if_pos (h2 ‹_›)]
 ·rw [if_neg (h3 ‹_›)]
def BytS (w : AI) (bs : AE) (a : AC) (l : AB) : Prop := (a = none ∧ l = []) ∨ ∃ b off, a = some ⟨b, off, none⟩ ∧ b ∉ bs ∧ Row w b off (l.map (.int .u8))
def BytS.later {w0 w : AI} {bs : AE} {H : aB} {a : AC} {l : AB} (h : BytS w0 bs a l) (hw : St w0 bs H w) : yP w a l := by
 rcases h with h | ⟨b, off, ha, hb, hr⟩
 ·exact .inl h
 ·exact .inr ⟨b, off, ha, aR hr hb w hw⟩
def mZ.lineW {b : Nat} {cap : Int} {ms : List Mark} {G H : aB} {w0 w : AI} {bs : AE} (h : mZ b cap ms G) (hw : St w0 bs H w) (hs : ∀ x ∈ G, x ∈ H) : aAe w b cap ms := by
 obtain ⟨v, G', rfl, hV⟩ := h
 obtain ⟨a, c, rfl, hl, hc, hE⟩ := hV.gives iX y_b
 refine ⟨a, c, ?_, hc, ?_, hE.els hw fun x hx => hs x (.tail _ hx)⟩
 ·rw [iH (hw.holds _ (hs _ (.head _)))]; rfl
 ·rw [iH (hw.holds _ (hs _ (.head _)))]; rfl
def aSB (b : Nat) (cap : Int) (ms : List Mark) (t : Int) (l : AB) (G : aB) (v : AH) (H : aB) : Prop :=
 v = .int .i64 (jA ms t) ∧ ((jA ms t ≠ 0 ∧ H = G) ∨ (jA ms t = 0 ∧ ∃ mk G' D', mk.t = t ∧ mk.l = l ∧ mk.l.length ≤ mk.c ∧ H = G' ++ D' ∧ mZ b cap (addM cap.toNat ms mk) G' ∧ Byt l (.slice mk.a l.length mk.c) D'))
def aEq {b b9 c9 : Nat} {cap : Int} {ms tt : List Mark} {mk : Mark} {sp8 : AA} (hT : thinL (ms ++ [mk]) = tt) (ho : cap.toNat < tt.length) (h2 : 1 ≤ cap.toNat) (hcl : tt.length ≤ c9) (hmx : c9 ≤ maxLen)
  (hsp : (aE cm (tt.take 1 ++ tt.drop (1 + (tt.length - cap.toNat))) ++ sp8).length = c9 * 2) :
  mZ b cap (addM cap.toNat ms mk) [(b, blk [.slice (Q_ b9) (1 + (tt.length - (1 + (tt.length - cap.toNat)))) c9, .int .i64 cap] 155), (b9, blk (aE cm (tt.take 1 ++ tt.drop (1 + (tt.length - cap.toNat))) ++ sp8) 223)] := by
 have hl : (tt.take 1 ++ tt.drop (1 + (tt.length - cap.toNat))).length = 1 + (tt.length - (1 + (tt.length - cap.toNat))) := by
  rw [La_, Lt_, Ld_]; omega
 refine ⟨_, _, rfl, ?_⟩
 unfold addM cutL
 rw [hT, ← hl]
 exact tQ hsp (by rw [hl]; omega) hmx
end Go.Proofs.YtdbgagkcgdlnnaaGreat.Tm
namespace Go.Proofs.YtdbgagkcgdlnnaaGreat.Tm
open Go Go.VV Go.Proofs Go.Proofs.Tryz
def new_fn (n : Int) (w : AI) :
  aC prog 21 [.int .i64 n] w [] (fun v H => ∃ b, v = P_ b ∧ H = [(b, blk [.slice none 0 0, .int .i64 (max 2 (min n 256))] 155)]) := by
 refine dR_ func21 ?_
 refine A_7 ?_
 refine RY (kL rfl rfl) rfl (RY (kN rfl rfl) rfl (RS ?_))
 refine RX (dC rfl rfl) rfl ?_
 rintro _ _ ⟨b7, rfl, rfl⟩
 refine A_3 ?_
 exact EV rfl sR_ ⟨_, rfl, rfl⟩
def last_fn (b : Nat) (cap : Int) (ms : List Mark) (hlen : ms.length < 1000000000) (w : AI) (hL : aAe w b cap ms) :
  aC prog 46 [P_ b] w [] (V_ (.tuple #[.int .u64 (eJ ms), .bool (decide (ms.length ≠ 0))])) := by
 obtain ⟨a, c, q0, qc, q1, hE⟩ := hL
 refine dR_ func46 ?_
 refine A_14 ?_
 refine RZ (aH rfl rfl (bF q0 y_v)) rfl (RY l_n rfl (A_3 ?_))
 refine KC (fun h1 h1n => ?_) (fun h1 h1n => ?_)
 ·refine A_6 ?_
  exact aF (fun _ _ => bZ rfl rfl) ⟨rfl, by rw [aKB y_a]⟩
 refine A_2 ?_
 obtain ⟨br, off, rfl, hr⟩ := hE y_a
 refine DR [4, 5, 6, 7, 8, 9] (pln [0, 2, 4, 6, 8, 10, 12, 14, 16, 18, 20, 22, 24, 26, 28]) ?_
 refine A_3 ?_
 refine DL rfl rfl rfl (fG q0 y_v) rfl (A_3 ?_)
 refine DL rfl rfl rfl (fG q0 y_v) rfl (DY rfl l_n rfl (DW (v := (.int .i64 ((ms.length - 1 : Nat) : Int))) rfl rfl rfl (by simp only [Value.int.injEq, true_and]; rw [aI o_m o_m]; (try simp only [decide_eq_true_eq, decide_eq_false_iff_not, beq_iff_eq, beq_eq_false_iff_ne, bne_iff_ne, bne_eq_false_iff_eq, ne_eq] at *); omega) (DY rfl (bE (ms.length - 1) rfl rfl rfl rfl y_a) rfl ?_)))
 refine A_1 ?_
 refine DL rfl rfl rfl (fG (aBl hr y_a) y_v) rfl (A_4 ?_)
 exact aF (fun _ _ => bZ rfl rfl) ⟨rfl, by rw [aKT y_a]⟩
def wC (a : AC) (c : Nat) (l : AB) (hl : l.length ≤ 140737488355328) (w : AI) (hN : yP w a l) :
  aC prog 82 [.slice a l.length c] w [] (fun v H => Byt l v H) := by
 refine dR_ func82 ?_
 refine A_6 ?_
 rcases hN with ⟨rfl, rfl⟩ | ⟨ab, ao, rfl, hr⟩
 ·refine A_10 ?_
  exact E0 rfl .nil
 refine A_8 ?_
 refine RX (aKZ (el := 5) (n := 1) rfl) rfl ?_
 rintro _ _ ⟨b5, rfl, rfl⟩
 refine A_1 ?_
 refine RX (gD (A := []) (G := [(b5, blk [] 5)]) (R := []) (v := .slice (Q_ b5) 0 0) (n := 0) (xs := []) (m := l.length) (by_ := 1) (ys := l.map (.int .u8)) rfl rfl rfl rfl (.row b5 0 0 [] [] rfl rfl y_b (ax 0)) (fun w hw => .row _ _ _ _ _ (by simp : (l.map U_).length = l.length * 1) (aR hr y_v w hw)) (jF _ _) o_m o_m) rfl ?_
 rintro v7 _ ⟨G7, hV7, hnil7, rfl⟩
 refine uA (v := v7) rfl rfl rfl ?_
 refine A_2 ?_
 exact iN (fun _ _ => xR rfl) (cq _ _) (by rw [az] at hV7; exact hV7)
def marks_fn (b : Nat) (cap : Int) (ms : List Mark) (hlen : ms.length < 1000000000) (w : AI) (hL : aAe w b cap ms) :
  aC prog 49 [P_ b] w [] (fun v H => Vec 31 1 v ms.length ((times ms).map (.int .u64)) H) := by
 obtain ⟨a, c, q0, qc, q1, hE⟩ := hL
 refine dR_ func49 ?_
 refine A_22 ?_
 refine RZ (aH rfl rfl (bF q0 y_v)) rfl (RY l_n rfl (A_3 ?_))
 refine bG (σ := Nat × AH × aB) [3, 5, 13, 14, 15, 16, 17, 18, 19, 20, 21, 22] (fun s => [(3, s.2.1), (13, .int .i64 s.1)]) (fun s => s.2.2 ++ []) (fun s => s.1 ≤ ms.length ∧ Vec 31 1 s.2.1 s.1 ((times (ms.take s.1)).map (.int .u64)) s.2.2) (fun s => ms.length - s.1) (0, .slice none 0 0, []) ?_ ?_ ?_ ?_
 ·exact ⟨aj _, .nil⟩
 ·exact .cons rfl (.cons rfl .nil)
 ·exact fun _ h => h
 rintro ⟨k, v, G⟩ y ⟨hk, hV⟩
 simp only at hk hV ⊢
 refine A_5 ?_
 refine KC (fun h1 h1n => ?_) (fun h1 h1n => ?_)
 ·refine A_4 ?_
  obtain ⟨br, off, rfl, hr⟩ := hE y_a
  refine A_1 ?_
  refine RY (bE k rfl rfl rfl rfl y_a) rfl (RZ (aL rfl rfl rfl (aR (tC hr y_a) y_v)) rfl (RX (bY rfl) rfl ?_))
  rintro _ _ ⟨b5, rfl, rfl⟩
  refine RZ s_t rfl (A_2 ?_)
  refine aHK (v := v) rfl rfl rfl ?_
  refine A_2 ?_
  refine RX (bX rfl rfl rfl rfl rfl rfl) rfl ?_
  rintro _ _ ⟨b20, rfl, rfl⟩
  refine RX (gD (A := [_, _]) (G := G) (R := []) (v := v) (n := k) (m := 1) (by_ := 8) rfl rfl rfl rfl hV (fun w hw => .row _ _ _ _ _ rfl (aA m_m w hw)) rfl o_m o_m) rfl ?_
  rintro v21 _ ⟨G', hV', hnil, rfl⟩
  refine uA (v := v21) rfl rfl rfl ?_
  refine A_5 ?_
  exact ⟨(k + 1, v21, G'), ⟨y_dB, by simp only; rw [aIC y_a]; exact hV'⟩, y_dB, .cons rfl (.cons (cA_ _ (bB o_m)) .nil), a_g, (fun _ h => h.sub y_H)⟩
 refine A_3 ?_
 refine aHK (v := v) rfl rfl rfl ?_
 refine uA (v := v) rfl rfl rfl ?_
 refine A_2 ?_
 obtain rfl : k = ms.length := by (try simp only [decide_eq_true_eq, decide_eq_false_iff_not, beq_iff_eq, beq_eq_false_iff_ne, bne_iff_ne, bne_eq_false_iff_eq, ne_eq] at *); omega
 rw [di] at hV
 exact iN (fun _ _ => xR rfl) (cq _ _) hV
def aIr (b c : Nat) (ms : List Mark) (sp : AA) (hlen : ms.length < 1000000000) (w : AI) (hb : w.heap[b]? = some (blk (aE cm ms ++ sp) 223)) :
  aC prog 106 [.slice (Q_ b) ms.length c] w [b] (fun v H => v = .tuple #[] ∧ H = [(b, blk (aE cm ms.reverse ++ sp) 223)]) := by
 refine mH func106 rfl rfl rfl (St.lent1 hb) ?_
 refine A_3 ?_
 refine RY l_n rfl (A_5 ?_)
 refine bG (σ := Nat × List Mark) [2, 3, 7, 8, 9, 10, 11, 12, 13, 14, 15, 16, 17, 18, 19, 20, 21, 22, 23, 24, 25, 26, 27] (fun s => [(2, .int .i64 s.1), (3, .int .i64 ((ms.length : Int) - 1 - s.1))]) (fun s => [(b, blk (aE cm s.2 ++ sp) 223)]) (fun s => s.1 ≤ ms.length ∧ rC ms s.2 s.1) (fun s => ms.length - s.1) (0, ms) ?_ ?_ ?_ ?_
 ·exact ⟨aj _, .zero ms⟩
 ·exact .cons rfl (.cons (by show Value.int .i64 (IntKind.i64.wrap _) = _; rw [aI o_m o_m]; simp) .nil)
 ·exact fun _ h => h
 rintro ⟨i, cur⟩ y ⟨hi, hT⟩
 simp only at hi hT ⊢
 have hcl := hT.1
 refine A_7 ?_
 refine KC (fun h1 h1n => ?_) (fun h1 h1n => ?_)
 ·refine A_3 ?_
  refine DR [8, 9, 10, 11] (pln [0, 2, 4, 6, 8, 10, 12, 14, 16, 18, 20, 22, 24, 27, 28, 31]) ?_
  refine A_6 ?_
  refine DY rfl (bE (s := 2) (ms.length - 1 - i) rfl rfl rfl y_a y_a) rfl (bU rfl rfl rfl rfl (fun w hw => tC (dO m_m w hw).left y_a) rfl rfl ?_)
  refine A_2 ?_
  refine DY rfl (bE (s := 2) i rfl rfl rfl rfl y_a) rfl (bU rfl rfl rfl rfl (fun w hw => tC (dO m_m w hw).left y_a) rfl rfl ?_)
  refine DY rfl (bE (s := 2) i rfl rfl rfl rfl y_a) rfl (DZ rfl (cQ (vs := cm (cur.getD (ms.length - 1 - i) m0)) 0 rfl rfl rfl rfl rfl rfl (aEx cur sp y_a _)) rfl n_h ?_)
  simp only [ap]
  rw [sY cur sp (k := i) y_a]
  refine DY rfl (bE (s := 2) (ms.length - 1 - i) rfl rfl rfl y_a y_a) rfl (DZ rfl (cQ (vs := cm (cur.getD i m0)) 0 rfl rfl rfl rfl rfl rfl (aEx (cur.set i _) sp y_bG _)) rfl n_h ?_)
  simp only [ap]
  rw [sY (cur.set i _) sp (k := ms.length - 1 - i) y_bG]
  refine A_9 ?_
  refine ⟨(i + 1, _), ⟨y_dB, hT.step y_a⟩, y_dB, .cons (cA_ _ (bB o_m)) (.cons (cA_ _ (aFl y_a y_a)) .nil), a_g, fun _ h => h⟩
 refine A_1 ?_
 rw [hT.last y_a]
 exact EN sR_ ⟨rfl, rfl⟩
def aFQ (a : AC) (n c : Nat) (w : AI) :
  aC prog 105 [.slice a n c] w [] (fun v H => ∃ b, v = .func (.func 131) #[] #[P_ b] ∧ H = [(b, blk [.slice a n c] 153)]) := by
 refine dR_ func105 ?_
 refine A_2 ?_
 refine RX (dC rfl rfl) rfl ?_
 rintro _ _ ⟨b1, rfl, rfl⟩
 refine A_4 ?_
 refine RW (v := (.func (.func 131) #[] #[P_ b1])) rfl rfl y_bA (A_3 ?_)
 exact EV rfl sR_ ⟨_, rfl, rfl⟩
def aFT {σ : Type} (w : AI) (bs : AE) (lb bx bm m c : Nat) (rec : Loop) (nn p q : Nat) (e0 : Env) (assign body : Code) (ms : List Mark) (sp : AA) (Hs : σ → aB) (J : σ → Prop) (cnt : σ → Nat) (s0 : σ)
  (hrec : vU nn e0 [p, q] assign body rec) (hpq : [p, q].all (fun p => Nat.blt p nn) = true) (hm : m ≤ ms.length) (hlen : ms.length < 1000000000) (hJ : J s0) (h0 : cnt s0 = 0)
  (hst : St w bs (bwH lb bx bm m c rec ms sp (Hs s0)) w)
  (round : ∀ s, J s → cnt s < m → aDI ⟨prog, Tryz.f131.ntmps, w, bs, none, []⟩ nn lb rec [p, q] assign body [.int .i64 ((m : Int) - 1 - cnt s), .agg (cm (ms.getD (m - 1 - cnt s) m0)).toArray] e0 (bwH lb bx bm m c rec ms sp (Hs s))
   (fun v H' => v = .bool true ∧ ∃ s', J s' ∧ cnt s' = cnt s + 1 ∧ ∀ w', St w bs H' w' → St w bs (bwH lb bx bm m c rec ms sp (Hs s')) w')) :
  aC prog 131 [.func (.yield lb) #[] #[], P_ bx] w bs (fun v H => v = .tuple #[] ∧ ∃ s, J s ∧ cnt s = m ∧ H = bwH lb bx bm m c rec ms sp (Hs s)) := by
 refine dO_ func131 hst ?_
 refine A_3 ?_
 refine RY l_n rfl (A_4 ?_)
 refine bG (σ := σ) [3, 7, 8, 9, 10, 11, 12, 13, 14, 15, 16, 17, 18] (fun s => [(3, .int .i64 ((m : Int) - 1 - cnt s))]) (fun s => bwH lb bx bm m c rec ms sp (Hs s)) (fun s => J s ∧ cnt s ≤ m) (fun s => m - cnt s) s0 ?_ ?_ ?_ ?_
 ·exact ⟨hJ, y_B⟩
 ·exact .cons (by show Value.int .i64 (IntKind.i64.wrap _) = _; rw [h0, aI o_m o_m]; simp) .nil
 ·exact fun _ h => h
 rintro s y ⟨hJs, hcs⟩
 refine A_6 ?_
 refine KC (fun h1 h1n => ?_) (fun h1 h1n => ?_)
 ·refine A_9 ?_
  refine RY (bE (s := 2) (m - 1 - cnt s) rfl rfl rfl y_a y_a) rfl (RZ (aL rfl rfl rfl (fun w hw => tC (aA m_m w hw).left y_a)) rfl (aPC (lb := lb) (rec := rec) (ps := [p, q]) rfl rfl rfl rfl rfl hpq (.head _) hrec (round s hJs y_a) ?_))
  rintro _ H' ⟨rfl, s', hJ', hc', hst'⟩
  refine A_9 ?_
  exact ⟨s', ⟨hJ', y_dB⟩, y_dB, .cons (cA_ _ (aKO hc' y_a y_a)) .nil, a_g, fun w' h => hst' w' h⟩
 refine A_1 ?_
 exact EN sR_ ⟨rfl, s, hJs, y_dB, rfl⟩
set_option maxHeartbeats 4000000 in
def aGX (b : Nat) (cap : Int) (ms : List Mark) (hR : Rise ms) (hne : ms.length ≠ 0) (hlen : ms.length < 1000000000) (G : aB) (w : AI) (hL : mZ b cap ms G) (hst : St w (G.map (·.1)) G w) :
  aC prog 83 [P_ b] w (G.map (·.1)) (fun v H => v = .tuple #[] ∧ mZ b cap (thinL ms) H) := by
 obtain ⟨v, G', rfl, hV⟩ := hL
 obtain ⟨bm, c, sp, rfl, rfl, hsz, hcl, hmx⟩ := aHH hV hne
 refine aKW func83 rfl rfl rfl hst ?_
 refine aDZ rfl ?_
 refine A_1 ?_
 refine RX (dC rfl rfl) rfl ?_
 rintro _ _ ⟨b1, rfl, rfl⟩
 refine A_1 ?_
 refine aDZ rfl ?_
 refine A_5 ?_
 refine RY l_n rfl (A_2 ?_)
 refine aDZ rfl ?_
 refine A_6 ?_
 refine RW (v := (.int .i64 ((ms.length - 1 : Nat) : Int))) rfl rfl (cA_ _ (aHx y_a hlen)) (RY (bE (s := 2) (ms.length - 1) rfl rfl rfl rfl y_a) rfl (A_1 ?_))
 refine RZ (aH rfl rfl (fun w hw => aOz hne (aA m_m w hw).left)) rfl (RX (bY rfl) rfl ?_)
 rintro _ _ ⟨b3, rfl, rfl⟩
 refine RZ s_t rfl (A_1 ?_)
 refine aDZ rfl ?_
 refine A_6 ?_
 refine RW (v := (.int .i64 ((ms.length - 1 : Nat) : Int))) rfl rfl (cA_ _ (aHx y_a hlen)) (RY (bE (s := 2) (ms.length - 1) rfl rfl rfl rfl y_a) rfl (RZ (aL rfl rfl rfl (fun w hw => tC (aA m_m w hw).left y_a)) rfl (RX (bX rfl rfl rfl rfl rfl rfl) rfl ?_)))
 rintro _ _ ⟨b30, rfl, rfl⟩
 refine RX (bY rfl) rfl ?_
 rintro _ _ ⟨b4, rfl, rfl⟩
 refine RZ s_t rfl (A_1 ?_)
 refine aQo rfl ?_
 refine A_6 ?_
 refine RW (v := (.int .i64 ((ms.length - 1 : Nat) : Int))) rfl rfl (cA_ _ (aHx y_a hlen)) (RW (v := (.slice (Q_ bm) (ms.length - 1) c)) (iV (s := 2) 0 (ms.length - 1) rfl rfl rfl rfl rfl rfl (aj _) o_m) rfl aRf (RX (dE K_ rfl (wQ_ (aFQ _ _ _))) rfl ?_))
 rintro _ _ ⟨G38, ⟨bx, rfl, rfl⟩, rfl⟩
 refine A_1 ?_
 refine aOE (A := []) rfl rfl rfl K_ ?_
 intro w9 D0 lb rec hD hlb hrec w2 hw2
 refine ⟨bwH lb bx bm (ms.length - 1) c rec ms sp (aBi b4 b3 b1 b (eJ ms) [.slice (Q_ bm) ms.length c, .int .i64 cap] ⟨0, [ms.getD (ms.length - 1) m0], b30, 1, [], ms.length - 1⟩), [(D0, .deferred (some []))], _, _, fun w' h => St.pick [0, 2, 8, 3, 5, 6, 7, 4, 1] h rfl, fun _ hb => eA hb,
  aFT (σ := TS) w2 _ lb bx bm (ms.length - 1) c rec Tryz.f83.ntmps 39 40 _ _ _ ms sp (aBi b4 b3 b1 b (eJ ms) [.slice (Q_ bm) ms.length c, .int .i64 cap]) (TS.ok ms) TS.j ⟨0, [ms.getD (ms.length - 1) m0], b30, 1, [], ms.length - 1⟩ hrec rfl o_m hlen ⟨.zero hne, rfl, ax _, by show (1 : Nat) ≤ maxLen; decide⟩ rfl (St.lend (G := [(D0, .deferred (some []))]) (St.pick [0, 2, 8, 3, 5, 6, 7, 4, 1] hw2 rfl)) ?_, ?_⟩
 ·rintro ⟨j, K, bK, cK, spK, q⟩ ⟨hK, hsz9, hcl9, hmx9⟩ hj
  dsimp only [bwH, aBi] at hK hsz9 hcl9 hmx9 hj ⊢
  unfold aDI
  have hqhi := hK.hi
  have hqlo := hK.lo
  refine A_5 ?_
  refine RX (bY rfl) rfl ?_
  rintro _ _ ⟨b6, rfl, rfl⟩
  refine RZ s_t rfl (A_1 ?_)
  refine ⟨_, fun _ h => h.perm (List.Perm.swap _ _ _), ?_⟩
  refine A_5 ?_
  refine RY l_n rfl (RW (v := (.int .i64 ((K.length - 1 : Nat) : Int))) rfl rfl (cA_ _ (aHx (by have := hK.pos; omega) y_bN)) (RY (bE (s := 2) (K.length - 1) rfl rfl rfl rfl (by have := hK.pos; omega)) rfl (A_1 ?_)))
  refine RZ (aH rfl rfl (fun w hw => hK.at_ (aA m_m w hw).left)) rfl (A_4 ?_)
  refine DR [8, 9, 14, 15, 16, 17] (pln [0, 2, 4, 6, 8, 10, 12, 14, 16, 18, 20, 22, 24, 26, 28, 30, 32, 34, 36, 38]) ?_
  refine A_2 ?_
  refine KE (fun h1 h1n => ?_) (fun h1 h1n => ?_)
  ·refine A_6 ?_
   refine DW (v := (.int .i64 ((ms.length - 1 - 1 - j - 1 : Nat) : Int))) rfl rfl rfl (cA_ _ y_dN) (DY rfl (bE (s := 2) (ms.length - 1 - 1 - j - 1) rfl rfl rfl rfl y_a) rfl (A_1 ?_))
   refine DL rfl rfl rfl (fun w hw => aBl (dO m_m w hw).left y_a) rfl (A_8 ?_)
   refine KC (fun h2 h2n => ?_) (fun h2 h2n => ?_)
   ·refine A_1 ?_
    exact ⟨_, fun _ h => St.pick [0, 2, 3, 4, 5, 6, 7, 8] h rfl, rfl, ⟨j + 1, K, bK, cK, spK, q⟩, ⟨hK.skip hR y_a h2, hsz9, hcl9, hmx9⟩, rfl, fun _ h => h⟩
   refine A_3 ?_
   refine RZ (aL rfl rfl rfl (aA m_m)) rfl (RX (bX rfl rfl rfl rfl rfl rfl) rfl ?_)
   rintro _ _ ⟨b70, rfl, rfl⟩
   refine RX (gD (A := [_, _, _, _, _, _, _, _, _]) (G := [(bK, blk (aE cm K ++ spK) 223)]) (R := []) (v := .slice (Q_ bK) K.length cK) (n := K.length) (m := 1) (T := 223) (s := 2) (by_ := 32) (ys := cm (ms.getD (ms.length - 1 - 1 - j) m0)) rfl rfl rfl rfl (tQ hsz9 hcl9 hmx9) (fun w hw => .row _ _ _ _ _ rfl (aA (.head _) w hw)) rfl y_cN y_cN) rfl ?_
   rintro v71 _ ⟨G', hV', hnil, rfl⟩
   obtain ⟨b9, c9, sp9, rfl, rfl, hz9, hl9, hx9⟩ := sV hV' o_m
   rw [show aE cm K ++ _ = aE cm (K ++ [ms.getD (ms.length - 1 - 1 - j) m0]) from (jM _ _).symm] at hz9 ⊢
   rw [show K.length + 1 = (K ++ [ms.getD (ms.length - 1 - 1 - j) m0]).length by simp] at hl9 ⊢
   refine RZ (cQ 6 rfl rfl rfl rfl rfl rfl y_v) rfl (A_1 ?_)
   exact ⟨_, fun _ h => St.pick [2, 4, 5, 6, 7, 8, 9, 0] h rfl, rfl, ⟨j + 1, _, b9, c9, sp9, ms.length - 1 - 1 - j⟩, ⟨hK.keep hR y_a (fun _ => h2), hz9, hl9, hx9⟩, rfl, fun _ h => h⟩
  refine A_22 ?_
  refine RZ (aL rfl rfl rfl (aA m_m)) rfl (RX (bX rfl rfl rfl rfl rfl rfl) rfl ?_)
  rintro _ _ ⟨b70, rfl, rfl⟩
  refine RX (gD (A := [_, _, _, _, _, _, _, _, _]) (G := [(bK, blk (aE cm K ++ spK) 223)]) (R := []) (v := .slice (Q_ bK) K.length cK) (n := K.length) (m := 1) (T := 223) (s := 2) (by_ := 32) (ys := cm (ms.getD (ms.length - 1 - 1 - j) m0)) rfl rfl rfl rfl (tQ hsz9 hcl9 hmx9) (fun w hw => .row _ _ _ _ _ rfl (aA (.head _) w hw)) rfl y_cN y_cN) rfl ?_
  rintro v71 _ ⟨G', hV', hnil, rfl⟩
  obtain ⟨b9, c9, sp9, rfl, rfl, hz9, hl9, hx9⟩ := sV hV' o_m
  rw [show aE cm K ++ _ = aE cm (K ++ [ms.getD (ms.length - 1 - 1 - j) m0]) from (jM _ _).symm] at hz9 ⊢
  rw [show K.length + 1 = (K ++ [ms.getD (ms.length - 1 - 1 - j) m0]).length by simp] at hl9 ⊢
  refine RZ (cQ 6 rfl rfl rfl rfl rfl rfl y_v) rfl (A_1 ?_)
  exact ⟨_, fun _ h => St.pick [2, 4, 5, 6, 7, 8, 9, 0] h rfl, rfl, ⟨j + 1, _, b9, c9, sp9, ms.length - 1 - 1 - j⟩, ⟨hK.keep hR y_a (fun _ => absurd h1 y_a), hz9, hl9, hx9⟩, rfl, fun _ h => h⟩
 rintro _ _ ⟨rfl, ⟨j, K, bK, cK, spK, q⟩, ⟨hK, hsz9, hcl9, hmx9⟩, hj, rfl⟩
 dsimp only [bwH, aBi] at hK hsz9 hcl9 hmx9 hj ⊢
 refine ⟨rec, _, fun _ h => h.perm ((List.perm_append_singleton _ _).cons _), by rw [hrec.ready]; simp, hrec.calm, ?_⟩
 refine aQN rfl ?_
 refine A_3 ?_
 refine cE (fun _ h => St.pick [8, 0, 1, 2, 3, 4, 5, 6, 7] h rfl) ?_
 refine RX (dY (A := [_]) [bK] K_ rfl y_v (fun w hw => aIr bK cK K spK y_bN w (hw.holds _ (.head _)))) rfl ?_
 rintro _ _ ⟨G73, ⟨rfl, rfl⟩, rfl⟩
 refine A_6 ?_
 refine RZ (cQ 8 rfl rfl rfl rfl rfl rfl y_v) rfl (A_1 ?_)
 exact ⟨_, fun _ h => St.pick [2, 8, 0] h rfl, iN (fun _ _ => eL) sR_ ⟨rfl, _, _, rfl, by rw [hK.done o_m]; have := tQ (b := bK) (cap := cK) (ms := K.reverse) (sp := spK) (by simpa [bL iX] using hsz9) (by simpa using hcl9) hmx9; simpa using this⟩⟩
def tM (b c j : Nat) (ms : List Mark) (sp : AA) (hlen : ms.length < 1000000000) (hc : ms.length ≤ c) (hsz : (aE cm ms ++ sp).length = c * 2) (h2 : 2 ≤ j) (hj : j ≤ ms.length) (w : AI) (hb : w.heap[b]? = some (blk (aE cm ms ++ sp) 223)) :
  aC prog 84 [.slice (Q_ b) ms.length c, .int .i64 1, .int .i64 j] w [b] (fun v H => v = .slice (Q_ b) (1 + (ms.length - j)) c ∧ ∃ sp', (aE cm (ms.take 1 ++ ms.drop j) ++ sp').length = c * 2 ∧ H = [(b, blk (aE cm (ms.take 1 ++ ms.drop j) ++ sp') 223)]) := by
 refine mH func84 rfl rfl rfl (St.lent1 hb) ?_
 refine A_10 ?_
 refine RY l_n rfl (RY (aBv (s := 2) 1 j ms.length rfl rfl rfl rfl rfl rfl rfl rfl o_m hj hc) rfl (A_6 ?_))
 refine dT false rfl rfl rfl y_bS ?_
 refine A_6 ?_
 refine RY l_n rfl (A_3 ?_)
 refine DR [] (pln [0, 2, 4, 6, 8, 10, 13, 14]) ?_
 refine A_2 ?_
 refine DW (v := (.slice (Q_ b) 1 c)) rfl (iV (s := 2) 0 1 rfl rfl rfl rfl rfl rfl o_m o_m) rfl aRf (A_2 ?_)
 refine DY rfl (iV (s := 2) j ms.length rfl rfl rfl rfl rfl rfl hj hc) rfl (DZ rfl (aDg (n := 1) (m := ms.length - j) (T := 223) (s := 2) (by_ := 32) (ys := aE cm (ms.drop j)) 0 rfl rfl rfl rfl rfl (fun w hw => .row _ _ _ _ _ (by rw [bL iX, Ld_]) (aMe (aA (.head _) w hw) hj hc)) (aI9 _) o_m (wI ms sp hj o_m)) rfl n_h (A_6 ?_))
 refine RY l_n rfl (A_1 ?_)
 refine RW (v := (.slice (some ⟨b, (1 + (ms.length - j)) * 2, none⟩) (j - 1) (c - (1 + (ms.length - j))))) (iV (s := 2) (1 + (ms.length - j)) ms.length rfl rfl rfl rfl rfl rfl o_m hc) rfl (aQA o_m o_m rfl) (RZ (aGl (s := 2) (z := [.int .u64 0, .slice none 0 0]) 0 rfl rfl rfl rfl rfl rfl rfl o_m (by rw [kS (wI ms sp hj o_m), hsz]; simp only [Lc_, ar]; omega)) rfl (A_7 ?_))
 obtain ⟨sp', hsp⟩ := aPH ms sp (jT ((j - 1) * 2) [.int .u64 0, .slice none 0 0]) (j := j) o_m hj
 refine iN (fun _ _ => sN rfl) sR_ ⟨rfl, sp', ?_, by rw [← hsp]; rfl⟩
 rw [← hsp, kS (by rw [kS (wI ms sp hj o_m), hsz, aBb]; omega), kS (wI ms sp hj o_m), hsz]
set_option maxHeartbeats 4000000 in
def aBD (b : Nat) (cap : Int) (hcap : 2 ≤ cap) (hcap2 : cap ≤ 256) (ms : List Mark) (hR : Rise ms) (hlen : ms.length < 100000000) (x : Int) (hx : 0 ≤ x) (a : AC) (c : Nat) (l : AB) (hl : l.length ≤ 140737488355328) (G : aB) (w : AI)
  (hL : mZ b cap ms G) (hst : St w (G.map (·.1)) G w) (hB : BytS w (G.map (·.1)) a l) :
  aC prog 48 [P_ b, .int .u64 x, .slice a l.length c] w (G.map (·.1)) (aSB b cap ms x l G) := by
 obtain ⟨vL, GL, rfl, hV⟩ := hL
 refine dO_ func48 hst ?_
 refine A_14 ?_
 refine KC (fun h1 h1n => ?_) (fun h1 h1n => ?_)
 ·refine A_5 ?_
  exact EV rfl sR_ ⟨cA_ _ (aBW y_a).symm, .inl ⟨by rw [aBW y_a]; decide, rfl⟩⟩
 refine A_4 ?_
 refine RLv K_ (fun w hw => last_fn b cap ms o_m w (mZ.lineW (G := (b, blk [vL, .int .i64 cap] 155) :: GL) ⟨_, _, rfl, hV⟩ hw (fun x hx => hx))) ?_
 refine A_9 ?_
 by_cases hz : ms.length = 0
 ·refine A_3 ?_
  refine dT true rfl rfl rfl (by simp [hz]) ?_
  refine A_5 ?_
  refine KC (fun h2 h2n => ?_) (fun h2 h2n => ?_)
  ·refine A_5 ?_
   exact EV rfl sR_ ⟨cA_ _ (yQ y_a hz y_a).symm, .inl ⟨by rw [yQ y_a hz y_a]; decide, rfl⟩⟩
  refine A_3 ?_
  refine dT false rfl rfl rfl (by simp [hz]) ?_
  refine A_9 ?_
  have hok : jA ms x = 0 := tU y_a (fun hz' => y_dB) (fun hz' => y_dB)
  refine DR [5, 6, 7, 8, 9] (pln [0, 2, 4, 6, 8, 10, 12, 15, 16, 19, 21, 22, 24, 27]) ?_
  refine A_7 ?_
  refine DX rfl (dE K_ rfl (fun w hw => wC a c l hl w (hB.later hw))) rfl y_b0 ?_
  rintro v42 _ ⟨G42, hV42, rfl⟩
  obtain ⟨a42, c42, rfl, hc42, hB42⟩ := hV42.slice
  refine gL (fun _ h => h.perm au) ?_
  refine DY rfl (eB rfl rfl rfl rfl) rfl (DX rfl (bX rfl rfl rfl rfl rfl rfl) rfl y_o ?_)
  rintro _ _ ⟨b44, rfl, rfl⟩
  refine DX rfl (gD (A := [_, _]) (G := GL) (R := G42) (v := vL) (n := ms.length) (m := 1) (T := 223) (s := 2) (by_ := 32) (ys := cm ⟨x, a42, c42, l⟩) rfl rfl rfl rfl hV (fun w hw => .row _ _ _ _ _ rfl (aA (.head _) w hw)) rfl o_m o_m) rfl n_h ?_
  rintro v45 _ ⟨G45, hV45, hnil45, rfl⟩
  rw [show aE cm ms ++ cm ⟨x, a42, c42, l⟩ = aE cm (ms ++ [⟨x, a42, c42, l⟩]) from (jM _ _).symm] at hV45
  refine gL (fun _ h => aNK G45 [_, _] G42 h) ?_
  obtain ⟨a45, c45, rfl⟩ := hV45.slice
  refine A_2 ?_
  refine DZ rfl s_t rfl n_h (A_4 ?_)
  refine cE (fun _ h => h.sub (ce _ _)) ?_
  refine RX (dY (A := (b, blk [.slice a45 (ms.length + 1) c45, .int .i64 cap] 155) :: G45) (G := G42) _ K_ rfl (fun _ hb => eA hb) (fun w hw => aGX b cap (ms ++ [⟨x, a42, c42, l⟩]) (tK hR hx y_a (fun hz => y_dB)) y_v y_do _ w ⟨_, _, rfl, by rw [La_]; exact hV45⟩ (St.lend hw))) rfl ?_
  rintro _ _ ⟨G49, ⟨rfl, ⟨v9, G9, rfl, hV9⟩⟩, rfl⟩
  have hT1 := aDa (ms := ms ++ [⟨x, a42, c42, l⟩]) y_v
  have hT2 := aEb (ms ++ [⟨x, a42, c42, l⟩])
  rw [La_, aq] at hT2
  generalize hTT : thinL (ms ++ [⟨x, a42, c42, l⟩]) = tt at *
  obtain ⟨a9, c9, rfl⟩ := hV9.slice
  refine A_3 ?_
  refine DR [5, 6, 7, 8] (pln [0, 2, 4, 6, 8, 10, 12, 14, 16, 18, 20]) ?_
  refine A_4 ?_
  refine DY rfl l_n rfl (A_4 ?_)
  refine DW (v := (.int .i64 ((tt.length : Int) - cap))) rfl rfl rfl (cA_ _ (aI y_a y_a)) (A_7 ?_)
  refine KC (fun h3 h3n => ?_) (fun h3 h3n => ?_)
  ·refine A_7 ?_
   refine RW (v := (.int .i64 ((1 + (tt.length - cap.toNat) : Nat) : Int))) rfl rfl (cA_ _ y_dN) ?_
   obtain ⟨b9, c9, sp9, hv9, rfl, hsz9, hcl9, hmx9⟩ := sV hV9 o_m
   cases hv9
   refine cE (fun _ h => h.perm (List.Perm.swap _ _ _)) ?_
   refine RX (dY (A := [_]) [b9] K_ rfl y_v (fun w hw => tM b9 c9 (1 + (tt.length - cap.toNat)) tt sp9 o_m hcl9 hsz9 y_a y_a w (hw.holds _ (.head _)))) rfl ?_
   rintro _ _ ⟨G69, ⟨rfl, ⟨sp8, hsp8, rfl⟩⟩, rfl⟩
   refine A_2 ?_
   refine RZ s_t rfl (A_6 ?_)
   exact eQ (fun _ _ => sN rfl) (fun _ h => h.perm (List.Perm.swap _ _ _)) ⟨cA_ _ hok.symm, .inr ⟨hok, ⟨x, a42, c42, l⟩, [_, _], G42, rfl, rfl, hc42, rfl, aEq hTT y_a o_m hcl9 hmx9 hsp8, hV42⟩⟩
  refine A_6 ?_
  exact EV rfl sR_ ⟨cA_ _ hok.symm, .inr ⟨hok, ⟨x, a42, c42, l⟩, _ :: G9, G42, rfl, rfl, hc42, rfl, ⟨_, _, rfl, by unfold addM; rw [hTT, aA0 y_a]; exact hV9⟩, hV42⟩⟩
 refine A_3 ?_
 refine dT false rfl rfl rfl (by simp [hz]) ?_
 refine A_9 ?_
 refine dT true rfl rfl rfl (by simp [hz]) ?_
 refine A_6 ?_
 refine KC (fun h4 h4n => ?_) (fun h4 h4n => ?_)
 ·refine A_5 ?_
  exact EV rfl sR_ ⟨cA_ _ (aAC y_a hz y_a).symm, .inl ⟨by rw [aAC y_a hz y_a]; decide, rfl⟩⟩
 refine A_2 ?_
 have hok : jA ms x = 0 := tU y_a (fun hz' => y_dB) (fun hz' => y_dB)
 refine DR [5, 6, 7, 8, 9] (pln [0, 2, 4, 6, 8, 10, 12, 15, 16, 19, 21, 22, 24, 27]) ?_
 refine A_7 ?_
 refine DX rfl (dE K_ rfl (fun w hw => wC a c l hl w (hB.later hw))) rfl y_b0 ?_
 rintro v42 _ ⟨G42, hV42, rfl⟩
 obtain ⟨a42, c42, rfl, hc42, hB42⟩ := hV42.slice
 refine gL (fun _ h => h.perm au) ?_
 refine DY rfl (eB rfl rfl rfl rfl) rfl (DX rfl (bX rfl rfl rfl rfl rfl rfl) rfl y_o ?_)
 rintro _ _ ⟨b44, rfl, rfl⟩
 refine DX rfl (gD (A := [_, _]) (G := GL) (R := G42) (v := vL) (n := ms.length) (m := 1) (T := 223) (s := 2) (by_ := 32) (ys := cm ⟨x, a42, c42, l⟩) rfl rfl rfl rfl hV (fun w hw => .row _ _ _ _ _ rfl (aA (.head _) w hw)) rfl o_m o_m) rfl n_h ?_
 rintro v45 _ ⟨G45, hV45, hnil45, rfl⟩
 rw [show aE cm ms ++ cm ⟨x, a42, c42, l⟩ = aE cm (ms ++ [⟨x, a42, c42, l⟩]) from (jM _ _).symm] at hV45
 refine gL (fun _ h => aNK G45 [_, _] G42 h) ?_
 obtain ⟨a45, c45, rfl⟩ := hV45.slice
 refine A_2 ?_
 refine DZ rfl s_t rfl n_h (A_4 ?_)
 refine cE (fun _ h => h.sub (ce _ _)) ?_
 refine RX (dY (A := (b, blk [.slice a45 (ms.length + 1) c45, .int .i64 cap] 155) :: G45) (G := G42) _ K_ rfl (fun _ hb => eA hb) (fun w hw => aGX b cap (ms ++ [⟨x, a42, c42, l⟩]) (tK hR hx y_a (fun hz => y_dB)) y_v y_do _ w ⟨_, _, rfl, by rw [La_]; exact hV45⟩ (St.lend hw))) rfl ?_
 rintro _ _ ⟨G49, ⟨rfl, ⟨v9, G9, rfl, hV9⟩⟩, rfl⟩
 have hT1 := aDa (ms := ms ++ [⟨x, a42, c42, l⟩]) y_v
 have hT2 := aEb (ms ++ [⟨x, a42, c42, l⟩])
 rw [La_, aq] at hT2
 generalize hTT : thinL (ms ++ [⟨x, a42, c42, l⟩]) = tt at *
 obtain ⟨a9, c9, rfl⟩ := hV9.slice
 refine A_3 ?_
 refine DR [5, 6, 7, 8] (pln [0, 2, 4, 6, 8, 10, 12, 14, 16, 18, 20]) ?_
 refine A_4 ?_
 refine DY rfl l_n rfl (A_4 ?_)
 refine DW (v := (.int .i64 ((tt.length : Int) - cap))) rfl rfl rfl (cA_ _ (aI y_a y_a)) (A_7 ?_)
 refine KC (fun h5 h5n => ?_) (fun h5 h5n => ?_)
 ·refine A_7 ?_
  refine RW (v := (.int .i64 ((1 + (tt.length - cap.toNat) : Nat) : Int))) rfl rfl (cA_ _ y_dN) ?_
  obtain ⟨b9, c9, sp9, hv9, rfl, hsz9, hcl9, hmx9⟩ := sV hV9 o_m
  cases hv9
  refine cE (fun _ h => h.perm (List.Perm.swap _ _ _)) ?_
  refine RX (dY (A := [_]) [b9] K_ rfl y_v (fun w hw => tM b9 c9 (1 + (tt.length - cap.toNat)) tt sp9 o_m hcl9 hsz9 y_a y_a w (hw.holds _ (.head _)))) rfl ?_
  rintro _ _ ⟨G69, ⟨rfl, ⟨sp8, hsp8, rfl⟩⟩, rfl⟩
  refine A_2 ?_
  refine RZ s_t rfl (A_6 ?_)
  exact eQ (fun _ _ => sN rfl) (fun _ h => h.perm (List.Perm.swap _ _ _)) ⟨cA_ _ hok.symm, .inr ⟨hok, ⟨x, a42, c42, l⟩, [_, _], G42, rfl, rfl, hc42, rfl, aEq hTT y_a o_m hcl9 hmx9 hsp8, hV42⟩⟩
 refine A_6 ?_
 exact EV rfl sR_ ⟨cA_ _ hok.symm, .inr ⟨hok, ⟨x, a42, c42, l⟩, _ :: G9, G42, rfl, rfl, hc42, rfl, ⟨_, _, rfl, by unfold addM; rw [hTT, aA0 y_a]; exact hV9⟩, hV42⟩⟩
end Go.Proofs.YtdbgagkcgdlnnaaGreat.Tm
namespace Go.Proofs.YtdbgagkcgdlnnaaGreat.Tm
open Go Go.VV
def xY (last : Int) : ∀ (r : List Mark) (b : Int) (hr : r ≠ []), ∃ A, thinR last b r = A ++ [r.getLast hr]
 | [], _, h => absurd rfl h
 | [m], _, _ => ⟨[], rfl⟩
 | m :: p :: r, b, _ => by
  unfold thinR
  split
  ·obtain ⟨A, hA⟩ := xY last (p :: r) b y_v
   exact ⟨A, by rw [hA]; simp⟩
  ·obtain ⟨A, hA⟩ := xY last (p :: r) m.t y_v
   exact ⟨m :: A, by rw [hA]; simp⟩
def aHq (x : Mark) (ms : List Mark) (mk : Mark) : ∃ A, thinL (x :: ms ++ [mk]) = x :: A ++ [mk] := by
 unfold thinL
 have h : (x :: ms ++ [mk]).reverse = mk :: (ms.reverse ++ [x]) := by simp
 rw [h]
 obtain ⟨A, hA⟩ := xY mk.t (ms.reverse ++ [x]) mk.t y_v
 exact ⟨A.reverse, by simp only [hA]; simp⟩
def aIK (mk : Mark) : thinL ([] ++ [mk]) = [mk] := rfl
def aI5 {cap : Nat} (hc : 2 ≤ cap) (x : Mark) (ms : List Mark) (mk : Mark) : ∃ A, cutL cap (x :: ms ++ [mk]) = x :: A ++ [mk] := by
 unfold cutL
 refine ⟨ms.drop ((x :: ms ++ [mk]).length - cap), ?_⟩
 have h1 : (x :: ms ++ [mk]).take 1 = [x] := by simp
 have h2 : (x :: ms ++ [mk]).drop (1 + ((x :: ms ++ [mk]).length - cap)) = ms.drop ((x :: ms ++ [mk]).length - cap) ++ [mk] := by
  rw [gt, cg, List.drop_succ_cons, ia y_bS]
 rw [h1, h2]; rfl
def aMn {cap : Nat} (hc : 2 ≤ cap) (ms : List Mark) : (cutL cap ms).length ≤ cap := by
 unfold cutL
 rw [La_, Lt_, Ld_]; omega
def addM_sub (cap : Nat) (ms : List Mark) (mk : Mark) : (addM cap ms mk).Sublist (ms ++ [mk]) := (aMR cap _).trans (aCQ _)
def aIF {cap : Nat} (hc : 2 ≤ cap) (x : Mark) (ms : List Mark) (mk : Mark) : ∃ A, addM cap (x :: ms) mk = x :: A ++ [mk] := by
 unfold addM
 obtain ⟨A, hA⟩ := aHq x ms mk
 rw [hA]
 exact aI5 hc x A mk
def aMA {cap : Nat} (hc : 2 ≤ cap) (mk : Mark) : addM cap [] mk = [mk] := by
 unfold addM
 rw [aIK, aA0 y_bS]
def aBQ (A : List Mark) (mk : Mark) : eJ (A ++ [mk]) = mk.t := by simp [eJ, tm]
def aGe (x : Mark) (A : List Mark) : tm (x :: A) 0 = x.t := by simp [tm]
structure LJ (b : Nat) (cap : Int) (k : Nat) (t : Int) (ms : List Mark) (G D : aB) : Prop where
 line : mZ b cap ms G
 dat : zM D ms
 rise : Rise ms
 len : ms.length ≤ cap.toNat
 lo : 0 ≤ t
 hi : t ≤ k * 9
 zero : k = 0 → ms = [] ∧ t = 0
 more : 0 < k → 0 < ms.length ∧ tm ms 0 = 0 ∧ eJ ms = t
def LJ.start (b : Nat) (cap : Int) : LJ b cap 0 0 [] [(b, blk [.slice none 0 0, .int .i64 cap] 155)] [] :=
 ⟨⟨_, [], rfl, .nil⟩, fun _ h => y_c1, Rise.nil, aj _, gi _, y_eu, fun _ => ⟨rfl, rfl⟩, fun h => o_m⟩
def Nxt (k : Nat) (t t' : Int) : Prop := (k = 0 → t' = 0) ∧ (0 < k → t < t' ∧ t' ≤ t + 9)
section
variable {b k : Nat} {cap t t' : Int} {ms : List Mark} {G D : aB}
def LJ.rise' (h : LJ b cap k t ms G D) (hk : k < 1000000) (hn : Nxt k t t') {mk : Mark} (hm : mk.t = t') : Rise (ms ++ [mk]) := by
 have h1 := h.lo; have h2 := h.hi
 rcases dd k with hz | hz
 ·have := hn.1 hz
  exact tK h.rise o_m o_m (fun hl => by rw [(h.zero hz).1] at hl; simp at hl)
 ·have := hn.2 hz; have h4 := (h.more hz).2.2
  exact tK h.rise o_m o_m (fun _ => y_B)
def LJ.ok (h : LJ b cap k t ms G D) (hk : k < 1000000) (hn : Nxt k t t') : jA ms t' = 0 := by
 have h1 := h.lo; have h2 := h.hi
 rcases dd k with hz | hz
 ·have := hn.1 hz
  have hm := (h.zero hz).1
  exact tU o_m (fun _ => y_B) (fun hl => by rw [hm] at hl; simp at hl)
 ·have := hn.2 hz; have h4 := h.more hz
  exact tU o_m (fun hl => y_B) (fun _ => y_B)
def LJ.step (h : LJ b cap k t ms G D) (hk : k < 1000000) (hc : 2 ≤ cap) (hn : Nxt k t t') {mk : Mark} {G' D' : aB} {l : AB} (ht : mk.t = t') (hl : mk.l = l) (hlen : l.length ≤ 140737488355328) (hlc : mk.l.length ≤ mk.c)
  (hL : mZ b cap (addM cap.toNat ms mk) G') (hB : Byt l (.slice mk.a l.length mk.c) D') : LJ b cap (k + 1) t' (addM cap.toNat ms mk) G' (D' ++ D) := by
 have hsub := addM_sub cap.toNat ms mk
 have h1 := h.lo; have h2 := h.hi
 have ht2 : 0 ≤ t' ∧ t' ≤ (k + 1 : Nat) * 9 := by
  rcases dd k with hz | hz
  ·have := hn.1 hz; omega
  ·have := hn.2 hz; omega
 refine ⟨hL, ?_, (h.rise' hk hn ht).sub hsub, aMn o_m _, ht2.1, ht2.2, fun h0 => o_m, fun _ => ?_⟩
 ·have hD : zM (D' ++ D) (ms ++ [mk]) := fun m hm => by
   rcases List.mem_append.1 hm with hm | hm
   ·exact (h.dat.more fun x hx => et _ hx) m hm
   ·have : m = mk := by simpa using hm
    subst this
    obtain ⟨a, c, hs, _, hW⟩ := hB.slice
    cases hs
    exact ⟨hlc, by rw [hl]; exact hlen, fun w0 w bs H hw hx => by rw [hl]; exact hW w0 w bs H hw fun x hx' => hx x (fy _ hx')⟩
  exact hD.sub hsub
 ·rcases dd k with hz | hz
  ·rw [(h.zero hz).1, aMA o_m]
   have := hn.1 hz
   exact ⟨y_eu, by simp [tm]; omega, by rw [show [mk] = [] ++ [mk] from rfl, aBQ, ht]⟩
  ·obtain ⟨h3, h4, h5⟩ := h.more hz
   cases ms with
   | nil => simp at h3
   | cons x A =>
    obtain ⟨B, hB2⟩ := aIF (cap := cap.toNat) o_m x A mk
    rw [hB2]
    rw [aGe] at h4
    exact ⟨y_eu, by rw [cg, aGe]; exact h4, by rw [aBQ, ht]⟩
end
def tb (t : Int) : AB := [t % 256, t / 256 % 256, 9]
end Go.Proofs.YtdbgagkcgdlnnaaGreat.Tm
namespace Go.Proofs.YtdbgagkcgdlnnaaGreat.Tm
open Go Go.VV Go.Proofs Go.Proofs.Tryz
section
variable (b : Nat) (cap : Int) (hcap : 2 ≤ cap ∧ cap ≤ 256) (ms : List Mark) (hR : Rise ms) (hlen : ms.length < 100000000) (x : Int) (hx : 0 ≤ x) (a : AC) (c : Nat) (l : AB) (hl : l.length ≤ 140737488355328) (G : aB) (w : AI)
 (hL : mZ b cap ms G) (hst : St w (G.map (·.1)) G w) (hB : BytS w (G.map (·.1)) a l)
include hcap hR hlen hx hl hL hst hB
def aQ9 (h : jA ms x = 0) : aC prog 48 [P_ b, .int .u64 x, .slice a l.length c] w (G.map (·.1)) (fun v H => v = .int .i64 0 ∧
  ∃ mk G' D', mk.t = x ∧ mk.l = l ∧ mk.l.length ≤ mk.c ∧ H = G' ++ D' ∧ mZ b cap (addM cap.toNat ms mk) G' ∧ Byt l (.slice mk.a l.length mk.c) D') :=
 (aBD b cap hcap.1 hcap.2 ms hR hlen x hx a c l hl G w hL hst hB).mono fun v H hA => by
  obtain ⟨rfl, h1 | h1⟩ := hA
  ·exact absurd h h1.1
  ·exact ⟨by rw [h], h1.2⟩
end
def add_at {b k : Nat} {cap t t' : Int} {ms : List Mark} {G D R : aB} (hcap : 2 ≤ cap ∧ cap ≤ 256) (h : LJ b cap k t ms G D) (hk : k < 1000000) (hn : Nxt k t t') {a : AC} {c : Nat} {l : AB} (hl : l.length ≤ 140737488355328)
  {w0 w : AI} {bs : AE} (hw : St w0 bs (G ++ R) w) (hB : BytS w (G.map (·.1)) a l) :
  aC prog 48 [P_ b, .int .u64 t', .slice a l.length c] w (G.map (·.1)) (fun v H => v = .int .i64 0 ∧ ∃ mk G' D', mk.t = t' ∧ mk.l = l ∧ H = G' ++ D' ∧ LJ b cap (k + 1) t' (addM cap.toNat ms mk) G' (D' ++ D)) := by
 have h1 := h.lo; have h2 := h.len
 have ht : 0 ≤ t' := by
  rcases dd k with hz | hz
  ·have := hn.1 hz; omega
  ·have := hn.2 hz; omega
 refine (aQ9 b cap hcap ms h.rise o_m t' ht a c l hl G w h.line (St.lend hw) hB (h.ok hk hn)).mono ?_
 rintro v H ⟨rfl, mk, G', D', e1, e2, e3, rfl, hL, hB⟩
 exact ⟨rfl, mk, G', D', e1, e2, rfl, h.step hk hcap.1 hn e1 e2 hl e3 hL hB⟩
end Go.Proofs.YtdbgagkcgdlnnaaGreat.Tm
namespace Go.Proofs.YtdbgagkcgdlnnaaGreat
open Go Go.VV Go.Proofs Go.RowKit Go.Proofs.Tryz
def tR (last : Int) : Int → AB → AB
 | _, [] => []
 | _, [m] => [m]
 | b, m :: p :: r => if b - p ≤ 2 + last - b then tR last b (p :: r) else m :: tR last m (p :: r)
def aMs (cap : Nat) (l : AB) (x : Int) : AB := (x :: tR x x l.reverse).reverse.take 1 ++ (x :: tR x x l.reverse).reverse.drop (1 + ((x :: tR x x l.reverse).length - cap))
def aMl (cap : Nat) : Nat → AB
 | 0 => []
 | n + 1 => aMs cap (aMl cap n) n
def uP (last : Int) : ∀ (r : List Tm.Mark) (b : Int), Tm.times (Tm.thinR last b r) = tR last b (Tm.times r)
 | [], _ => rfl
 | [_], _ => rfl
 | m :: p :: r, b => by
  show Tm.times (if b - p.t ≤ 2 + last - b then Tm.thinR last b (p :: r) else m :: Tm.thinR last m.t (p :: r)) = (if b - p.t ≤ 2 + last - b then tR last b (Tm.times (p :: r)) else m.t :: tR last m.t (Tm.times (p :: r)))
  split
  ·exact uP last (p :: r) b
  ·show m.t :: Tm.times (Tm.thinR last m.t (p :: r)) = _
   rw [uP last (p :: r) m.t]
def aHl (cap : Nat) (ms : List Tm.Mark) (mk : Tm.Mark) : Tm.times (Tm.addM cap ms mk) = aMs cap (Tm.times ms) mk.t := by
 have e1 : Tm.thinL (ms ++ [mk]) = (mk :: Tm.thinR mk.t mk.t ms.reverse).reverse := by
  unfold Tm.thinL
  have : (ms ++ [mk]).reverse = mk :: ms.reverse := by simp
  rw [this]
 have e2 : Tm.times (mk :: Tm.thinR mk.t mk.t ms.reverse).reverse = (mk.t :: tR mk.t mk.t (Tm.times ms).reverse).reverse := by
  unfold Tm.times
  rw [List.map_reverse, be, show (Tm.thinR mk.t mk.t ms.reverse).map (·.t) = tR mk.t mk.t (ms.reverse.map (·.t)) from uP _ _ _, List.map_reverse]
 have e3 : (mk :: Tm.thinR mk.t mk.t ms.reverse).reverse.length = (mk.t :: tR mk.t mk.t (Tm.times ms).reverse).length := by
  have := cA_ List.length e2
  rw [Tm.times_len] at this
  rw [this, List.length_reverse]
 unfold Tm.addM
 rw [e1]
 unfold Tm.cutL aMs
 rw [e3, ← e2]
 unfold Tm.times
 rw [aw, ik, f5]
end Go.Proofs.YtdbgagkcgdlnnaaGreat
namespace Go.Proofs.YtdbgagkcgdlnnaaGreat.Hs
open Go Go.VV
structure Stp where
 n : Int
 bank : Int
 what : Int
 dn : Int
 at_ : Int
 kind : Int
 x : Int
 y : Int
 size : Int
 m : Int
 taken : Bool
 to : Int
def cD (s : Stp) : AA := [.int .i64 s.what, .int .i64 s.dn, .int .u16 s.at_, .int .i64 s.kind, .int .i64 s.x, .int .i64 s.y, .int .i64 s.size, .int .u16 s.m, .bool s.taken]
def cS (s : Stp) : AA := [.int .u64 s.n, .int .i64 s.bank, .int .i64 s.what, .int .i64 s.dn, .int .u16 s.at_, .int .i64 s.kind, .int .i64 s.x, .int .i64 s.y, .int .i64 s.size, .int .u16 s.m, .bool s.taken, .int .u16 s.to]
structure StpOk (s : Stp) : Prop where
 at0 : 0 ≤ s.at_ ∧ s.at_ < 65536
 size : -9223372036854775808 ≤ s.size ∧ s.size ≤ 9223372036854775807
structure Cll where
 kind : Int
 bank : Int
 at_ : Int
 to : Int
 back : Int
def cC (c : Cll) : AA := [.int .i64 c.kind, .int .i64 c.bank, .int .u16 c.at_, .int .u16 c.to, .int .u16 c.back]
def lB (c : Cll) : (cC c).length = 5 := rfl
def c0 : Cll := ⟨0, 0, 0, 0, 0⟩
structure Rcd where
 n : Int
 what : Int
 bank : Int
 at_ : Int
 kind : Int
 x : Int
 y : Int
 size : Int
 m : Int
def cR (r : Rcd) : AA := [.int .u64 r.n, .int .i64 r.what, .int .i64 r.bank, .int .u16 r.at_, .int .i64 r.kind, .int .i64 r.x, .int .i64 r.y, .int .i64 r.size, .int .u16 r.m]
def cR_len (r : Rcd) : (cR r).length = 9 := rfl
def r0 : Rcd := ⟨0, 0, 0, 0, 0, 0, 0, 0, 0⟩
def recOf (s : Stp) : Rcd := ⟨s.n, s.what, s.bank, s.at_, s.kind, s.x, s.y, s.size, s.m⟩
def lQ (s : Stp) : Int := (s.at_ + s.size) % 65536
def aBJ (s : Stp) : Option Cll :=
 if s.what = 2 then some ⟨3, s.bank, s.at_, s.to, s.at_⟩
 else if s.what = 1 ∧ s.kind = 25 ∧ s.taken = true then some ⟨1, s.bank, s.at_, s.to, lQ s⟩
 else if s.what = 1 ∧ s.kind = 28 then some ⟨2, s.bank, s.at_, s.to, lQ s⟩ else none
def aHQ (s : Stp) : Bool := decide (s.what = 1) && ((decide (s.kind = 26) && s.taken) || decide (s.kind = 27))
def pX (cs : List Cll) (c : Cll) : List Cll := (cs ++ [c]).drop ((cs ++ [c]).length - 256)
def nB (cs : List Cll) (s : Stp) : List Cll :=
 match aBJ s with
 | some c => pX cs c
 | none => if aHQ s = true then cs.dropLast else cs
def callsL (l : List Stp) : List Cll := l.foldl nB []
def callsL_snoc (l : List Stp) (s : Stp) : callsL (l ++ [s]) = nB (callsL l) s := by simp [callsL]
def aMP (cs : List Cll) (c : Cll) : (pX cs c).length ≤ 256 := by unfold pX; rw [Ld_]; omega
def aIW {cs : List Cll} (h : cs.length ≤ 256) (s : Stp) : (nB cs s).length ≤ 256 := by
 unfold nB
 split
 ·exact aMP _ _
 ·split
  ·rw [f0]; omega
  ·exact h
def aC8 : ∀ (l : List Stp) {cs : List Cll}, cs.length ≤ 256 → (l.foldl nB cs).length ≤ 256
 | [], _, h => h
 | s :: l, _, h => aC8 l (aIW h s)
def callsL_len (l : List Stp) : (callsL l).length ≤ 256 := aC8 l y_v
def aE2 {s : Stp} (_h : StpOk s) : IntKind.u16.wrap (s.at_ + IntKind.u16.wrap s.size) = lQ s := by
 rw [eT, eT, lQ]; omega
def RingOk (keep : Nat) (ring : List Rcd) (l : List Stp) : Prop := ring.length = 32 ∧ ∀ i, (hi : i < l.length) → l.length ≤ i + keep → ring[i % keep]? = some (recOf l[i])
def RingOk.start (keep : Nat) {ring : List Rcd} (h : ring.length = 32) : RingOk keep ring [] := ⟨h, fun i hi => by simp at hi⟩
def RingOk.step {keep : Nat} {ring : List Rcd} {l : List Stp} (h : RingOk keep ring l) (h1 : 1 ≤ keep) (h2 : keep ≤ 32) (s : Stp) : RingOk keep (ring.set (l.length % keep) (recOf s)) (l ++ [s]) := by
 refine ⟨by rw [List.length_set]; exact h.1, fun i hi hk => ?_⟩
 rw [La_, aq] at hi hk
 rw [d6]
 rcases dh i l.length with hl | hl
 ·have hne : ¬ l.length % keep = i % keep := fun he => by
   have h5 : (l.length - i) % keep = 0 := by
    rw [Nat.sub_mod_eq_zero_of_mod_eq he]
   have h6 : l.length - i < keep := by omega
   rw [Nat.mod_eq_of_lt h6] at h5
   omega
  rw [if_neg hne, h.2 i hl o_m, List.getElem_append_left hl]
 ·have : i = l.length := by omega
  subst this
  have hm : l.length % keep < 32 := de (gv _ o_m) h2
  rw [if_pos rfl, if_pos (by rw [h.1]; exact hm)]
  simp
def lastL (l : List Stp) (keep : Nat) : List Stp := l.drop (l.length - keep)
def lastL_len (l : List Stp) (keep : Nat) : (lastL l keep).length = min l.length keep := by unfold lastL; rw [Ld_]; omega
def hC (v : AH) (ring : List Rcd) (keep noted : Int) : AA := v :: (aE cR ring ++ [.int .i64 keep, .int .i64 noted])
def HistH (b : Nat) (keep noted : Nat) (cs : List Cll) (ring : List Rcd) (H : aB) : Prop :=
 ∃ v G, H = (b, blk (hC v ring keep noted) 101) :: G ∧ Vec 170 5 v cs.length (aE cC cs) G ∧ ring.length = 32
section
variable {v u : AH} {ring : List Rcd} {k n m : Int} (hr : ring.length = 32)
include hr
def hC_len : (hC v ring k n).length = 291 := by simp [hC, bL cR_len, hr]
def aG3 : (hC v ring k n)[289]? = some (.int .i64 k) := by
 unfold hC
 rw [dk, d9 (by rw [bL cR_len, hr]; omega), bL cR_len, hr]; rfl
def aBd : (hC v ring k n)[290]? = some (.int .i64 n) := by
 unfold hC
 rw [dk, d9 (by rw [bL cR_len, hr]; omega), bL cR_len, hr]; rfl
def aOm : aP (hC v ring k n) 290 [.int .i64 m] = hC v ring k m := by
 have h := nO (v :: (aE cR ring ++ [.int .i64 k])) [Value.int .i64 n] [] [.int .i64 m] rfl
 have hl : (v :: (aE cR ring ++ [Value.int .i64 k])).length = 290 := by simp [bL cR_len, hr]
 rw [hl] at h
 simpa [hC] using h
def aOT {i : Nat} (hi : i < 32) (r : Rcd) : aP (hC v ring k n) (1 + i * 9) (cR r) = hC v (ring.set i r) k n := by
 have h1 : ring = ring.take i ++ ring[i] :: ring.drop (i + 1) := sK o_m
 have h2 : ring.set i r = ring.take i ++ r :: ring.drop (i + 1) := by rw [cz, if_pos o_m]
 have hl : (v :: aE cR (ring.take i)).length = 1 + i * 9 := by simp [bL cR_len, hr]; omega
 have h := nO (v :: aE cR (ring.take i)) (cR ring[i]) (aE cR (ring.drop (i + 1)) ++ [.int .i64 k, .int .i64 n]) (cR r) rfl
 rw [hl] at h
 have hf : aE cR ring = aE cR (ring.take i) ++ (cR ring[i] ++ aE cR (ring.drop (i + 1))) := by
  conv => lhs; rw [h1]
  rw [fJ, kM]
 have e1 : hC v ring k n = v :: aE cR (ring.take i) ++ (cR ring[i] ++ (aE cR (ring.drop (i + 1)) ++ [.int .i64 k, .int .i64 n])) := by
  unfold hC; rw [hf]; simp only [As_, cg]
 have e2 : hC v (ring.set i r) k n = v :: aE cR (ring.take i) ++ (cR r ++ (aE cR (ring.drop (i + 1)) ++ [.int .i64 k, .int .i64 n])) := by
  unfold hC; rw [h2, fJ, kM]; simp only [As_, cg]
 rw [e1, e2]; exact h
omit hr in
def aQw {w : AI} {b : Nat} (h : Row w b 0 (hC v ring k n)) {i : Nat} {r : Rcd} (hi : ring[i]? = some r) : Row w b (1 + i * 9) (cR r) := by
 have h1 : Row w b 1 (aE cR ring ++ [.int .i64 k, .int .i64 n]) := fun j x hx => by
  have := h (1 + j) x (by unfold hC; rw [gt, dk]; exact hx)
  rwa [az] at this
 exact Row.nth' cR_len h1.left hi
end
def vB {v u : AH} {ring : List Rcd} {k n : Int} : aP (hC v ring k n) 0 [u] = hC u ring k n := by simp [aP, hC]
def hU (cs : List Cll) (s : Stp) : List Cll :=
 if s.kind = 25 then (if s.taken = true then pX cs ⟨1, s.bank, s.at_, s.to, lQ s⟩ else cs)
 else if s.kind = 28 then pX cs ⟨2, s.bank, s.at_, s.to, lQ s⟩
 else if s.kind = 26 then (if s.taken = true then cs.dropLast else cs)
 else if s.kind = 27 then cs.dropLast else cs
def aP7 {s : Stp} (h : s.what = 2) (cs : List Cll) : nB cs s = pX cs ⟨3, s.bank, s.at_, s.to, s.at_⟩ := by
 simp [nB, aBJ, h]
def aPw {s : Stp} (h : s.what = 1) (cs : List Cll) : nB cs s = hU cs s := by
 have h2 : ¬ s.what = 2 := by omega
 unfold nB aBJ hU aHQ
 rw [if_neg h2]
 simp only [h, true_and, decide_true, f2]
 by_cases h25 : s.kind = 25
 ·have : ¬ s.kind = 28 := by omega
  by_cases ht : s.taken = true <;> simp [h25, ht]
 ·by_cases h28 : s.kind = 28
  ·simp [h28]
  ·by_cases h26 : s.kind = 26
   ·by_cases ht : s.taken = true <;> simp [h26, ht]
   ·by_cases h27 : s.kind = 27 <;> simp [h25, h28, h26, h27]
def aNX {s : Stp} (h1 : ¬ s.what = 1) (h2 : ¬ s.what = 2) (cs : List Cll) : nB cs s = cs := by
 simp [nB, aBJ, aHQ, h1, h2]
def aKp (c : Cll) : fE (cC c) = true := rfl
def aQ4 (c : Rcd) : fE (cR c) = true := rfl
def aO3 {b l c n s k : Nat} (h : l < c) (hk : n - l = k) : Value.slice (some ⟨b, iF 0 l s c, none⟩) (n - l) (c - l) = .slice (some ⟨b, l * s, none⟩) k (c - l) := by
 rw [iF, if_neg o_m, hk, az]
def aQM {cs : List Cll} {x : Cll} (h : (cs ++ [x]).length ≤ 256) : pX cs x = cs ++ [x] := by
 unfold pX; rw [show (cs ++ [x]).length - 256 = 0 by omega, List.drop_zero]
def aPL {cs : List Cll} {x : Cll} (h : cs.length ≤ 256) (h2 : 256 < (cs ++ [x]).length) : pX cs x = (cs ++ [x]).drop 1 := by
 unfold pX
 rw [La_, aq] at *
 rw [show cs.length + 1 - 256 = 1 by omega]
structure HistW (w : AI) (b keep noted : Nat) (cs : List Cll) (ring : List Rcd) : Prop where
 calls : ∃ a c, w.cell? ⟨b, 0, none⟩ = some (.slice a cs.length c) ∧ cs.length ≤ c ∧ (a = none → c = 0) ∧ SlW w cC a cs ∧ Row w b 0 (hC (.slice a cs.length c) ring keep noted)
 keep : w.cell? ⟨b, 289, none⟩ = some (.int .i64 keep)
 noted : w.cell? ⟨b, 290, none⟩ = some (.int .i64 noted)
 len : ring.length = 32
 row : ∀ i r, ring[i]? = some r → Row w b (1 + i * 9) (cR r)
def HistH.histW {b keep noted : Nat} {cs : List Cll} {ring : List Rcd} {G H : aB} {w0 w : AI} {bs : AE} (h : HistH b keep noted cs ring G) (hw : St w0 bs H w) (hs : ∀ x ∈ G, x ∈ H) : HistW w b keep noted cs ring := by
 obtain ⟨v, G', rfl, hV, hr⟩ := h
 obtain ⟨a, c, rfl, hl, hc, _, hz, hE⟩ := hV.slw lB y_b
 have h0 := hw.holds _ (hs _ (.head _))
 have hrow := Row.all h0
 refine ⟨⟨a, c, ?_, hc, hz, hE w fun x hx => hw.holds x (hs x (.tail _ hx)), hrow⟩, ?_, ?_, hr, fun i r hi => aQw hrow hi⟩
 ·rw [iH h0]; rfl
 ·rw [iH h0]; simpa using aG3 hr
 ·rw [iH h0]; simpa using aBd hr
def HistW.later0 {w0 w : AI} {H : aB} {b keep noted : Nat} {cs : List Cll} {ring : List Rcd} (h : HistW w0 b keep noted cs ring) (hw : St w0 [] H w) : HistW w b keep noted cs ring := by
 obtain ⟨⟨a, c, h0, hc, hz, hE, hA⟩, h1, h2, h3, h4⟩ := h
 exact ⟨⟨a, c, bF h0 y_v w hw, hc, hz, hE.later0 hw, aR hA y_v w hw⟩, bF h1 y_v w hw, bF h2 y_v w hw, h3, fun i r hi => aR (h4 i r hi) y_v w hw⟩
def aCk {n k : Nat} : (n : Int).tmod (k : Int) = ((n % k : Nat) : Int) := by
 rw [Int.tmod_eq_emod_of_nonneg o_m]; simp
def aPq {s : Stp} (h : s.kind = 25) (ht : s.taken = true) (cs : List Cll) : hU cs s = pX cs ⟨1, s.bank, s.at_, s.to, lQ s⟩ := by simp [hU, h, ht]
def aOn {s : Stp} (h : s.kind = 25) (ht : s.taken = false) (cs : List Cll) : hU cs s = cs := by simp [hU, h, ht]
def aQX {s : Stp} (h : s.kind = 28) (cs : List Cll) : hU cs s = pX cs ⟨2, s.bank, s.at_, s.to, lQ s⟩ := by simp [hU, h]
def aGk {s : Stp} (h : s.kind = 26) (ht : s.taken = true) (cs : List Cll) : hU cs s = cs.dropLast := by simp [hU, h, ht]
def aOq {s : Stp} (h : s.kind = 26) (ht : s.taken = false) (cs : List Cll) : hU cs s = cs := by simp [hU, h, ht]
def aJ9 {s : Stp} (h : s.kind = 27) (cs : List Cll) : hU cs s = cs.dropLast := by simp [hU, h]
def aRn {s : Stp} (h1 : ¬ s.kind = 25) (h2 : ¬ s.kind = 28) (h3 : ¬ s.kind = 26) (h4 : ¬ s.kind = 27) (cs : List Cll) : hU cs s = cs := by simp [hU, h1, h2, h3, h4]
def aCz {cs : List Cll} {sc : AA} (h : cs.length ≠ 0) : ∃ sp', aE cC cs ++ sc = aE cC cs.dropLast ++ sp' := by
 obtain ⟨A, a, rfl⟩ := aCG (l := cs) o_m
 exact ⟨cC a ++ sc, by rw [jM, List.dropLast_concat, As_]⟩
def aFc {cs : List Cll} (h : cs.length = 0) : cs.dropLast = cs := by
 rw [ci h]; rfl
def aGy {cs : List Cll} {bc cc : Nat} {sc : AA} (h : cs.length ≠ 0) (hz : (aE cC cs ++ sc).length = cc * 5) (hl : cs.length ≤ cc) (hx : cc ≤ maxLen) :
  Vec 170 5 (.slice (Q_ bc) cs.dropLast.length cc) cs.dropLast.length (aE cC cs.dropLast) [(bc, blk (aE cC cs ++ sc) 170)] := by
 obtain ⟨sp', hs⟩ := aCz (sc := sc) h
 rw [hs] at hz ⊢
 exact Vec.all_ lB hz (by rw [f0]; omega) hx
def aOk {a : AC} {m c : Nat} {ring : List Rcd} {k n : Int} : fE (hC (.slice a m c) ring k n) = true := by
 have h1 := List.all_eq_true.1 (tH aQ4 ring)
 refine List.all_eq_true.2 fun x hx => ?_
 unfold hC at hx
 rcases List.mem_cons.1 hx with rfl | hx
 ·rfl
 ·rcases List.mem_append.1 hx with hx | hx
  ·exact h1 x hx
  ·simp at hx; rcases hx with rfl | rfl <;> rfl
end Go.Proofs.YtdbgagkcgdlnnaaGreat.Hs
namespace Go.Proofs.YtdbgagkcgdlnnaaGreat
open Go Go.VV Go.Proofs Go.RowKit Go.Proofs.Tryz
structure Gx where
 rom : AB
 plan : List Chg
 pa : AC
 pc : Nat
structure Gx.Ok (g : Gx) : Prop where
 len : g.rom.length ≤ 100000000
 byts : aY g.rom
 err : errH g.rom = 0
 chg : ∀ c ∈ g.plan, mX c
 few : g.plan.length ≤ 1000000
def Gx.m (g : Gx) (k : Nat) : Mm := uR g.plan (dX g.rom) k
def aBs (m : Mm) (a : Int) : Int := if 32768 ≤ a then 0 else bankB a m.bk
def aSh (k : Nat) (b : Int) (d : Dd) (to : Int) : Hs.Stp := ⟨k, b, d.what, d.n, d.at_, d.op.kind, d.op.x, d.op.y, d.op.size, d.op.n, d.taken, to⟩
def Gx.st (g : Gx) (k : Nat) : Hs.Stp := aSh k (aBs (g.m k) (g.m k).cpu.r.pc) (stepM g.plan (g.m k)).1 (g.m (k + 1)).cpu.r.pc
def Gx.sts (g : Gx) (k : Nat) : List Hs.Stp := (List.range k).map g.st
def Gx.enc (g : Gx) (k : Nat) : AB := fY (g.m k)
section
variable {g : Gx} (h : g.Ok)
def Gx.sts_len (g : Gx) (k : Nat) : (g.sts k).length = k := by simp [Gx.sts]
def Gx.sts_snoc (g : Gx) (k : Nat) : g.sts (k + 1) = g.sts k ++ [g.st k] := by simp [Gx.sts, dq]
include h
def Gx.Ok.inv (k : Nat) : jK (dX g.rom) True (g.m k) := (aET h.err h.byts).run h.chg k
def Gx.Ok.ram (k : Nat) : (g.m k).ram.length = (dX g.rom).ram.length := (h.inv k).fr.ram
def Gx.Ok.enc_len (k : Nat) : (g.enc k).length = (g.enc 0).length := by
 unfold Gx.enc
 rw [sU (h.inv k).wf, sU (h.inv 0).wf, h.ram, h.ram]
def Gx.Ok.enc_le (k : Nat) : 1 ≤ (g.enc k).length ∧ (g.enc k).length ≤ 200000 := by
 unfold Gx.enc
 rw [sU (h.inv k).wf, h.ram]
 have := aAU g.rom
 omega
end
def EqA.cpu {m n : Mm} (h : EqA m n) : n.cpu = m.cpu := by rw [h]
def EqA.bank {m n : Mm} (h : EqA m n) (a : Int) : aBs n a = aBs m a := by rw [h]; rfl
def EqA.inv {R m n : Mm} (h : EqA m n) (hm : jK R True m) : jK R True n := by rw [h]; exact hm.acc_ _
def EqA.refl (m : Mm) : EqA m m := rfl
def aP3 {β : Type} {K : aSY β} {x : Rn β} {n : Nat} (h : RunOk K (n + 3) x) : 1 ≤ (nextT K.toaSX x).1.size ∧ (nextT K.toaSX x).1.size ≤ 3 := by
 have key : ∀ i, i ≤ 2 → 1 ≤ (nxN K.toaSX x (i + 1)).o.size ∧ (nxN K.toaSX x (i + 1)).o.size ≤ 3 := fun i hi => by
  have hq : xO K (n + (3 - (i + 1)) + 1) (nxN K.toaSX x i) := by rw [show n + (3 - (i + 1)) + 1 = n + (3 - i) by omega]; exact h.nx i o_m
  have hf := hq.x.fetch1
  have hb := kP hq.by_ i hf.2
  exact (xL (hb.get 0) (hb.get 1) (hb.get 2)).size
 unfold nextT
 split
 ·exact key 0 y_b
 ·split
  ·exact key 1 y_b
  ·exact key 2 y_b
def aND {R m : Mm} {D : Prop} {plan : List Chg} (hp : ∀ c ∈ plan, mX c) (h : jK R D m) : (0 ≤ (stepM plan m).1.at_ ∧ (stepM plan m).1.at_ < 65536) ∧ -9223372036854775808 ≤ (stepM plan m).1.op.size ∧ (stepM plan m).1.op.size ≤ 9223372036854775807 := by
 have hq : RunOk (aHR R D) 7 (⟨m.cpu, bS plan m⟩ : Rn Mm) := ⟨h.rg, aEu hp h⟩
 show (0 ≤ (bW dN (⟨m.cpu, bS plan m⟩ : Rn Mm)).1.at_ ∧ (bW dN (⟨m.cpu, bS plan m⟩ : Rn Mm)).1.at_ < 65536) ∧ -9223372036854775808 ≤ (bW dN (⟨m.cpu, bS plan m⟩ : Rn Mm)).1.op.size ∧ (bW dN (⟨m.cpu, bS plan m⟩ : Rn Mm)).1.op.size ≤ 9223372036854775807
 have hpc := h.rg.pc
 unfold bW
 dsimp only
 repeat' split
 ·exact ⟨hpc, (by decide : -9223372036854775808 ≤ (0 : Int)), (by decide : (0 : Int) ≤ 9223372036854775807)⟩
 ·exact ⟨hpc, (by decide : -9223372036854775808 ≤ (0 : Int)), (by decide : (0 : Int) ≤ 9223372036854775807)⟩
 ·exact ⟨hpc, (by decide : -9223372036854775808 ≤ (0 : Int)), (by decide : (0 : Int) ≤ 9223372036854775807)⟩
 all_goals
  have hz := aP3 (n := 4) (K := aHR R D) (x := ⟨{ m.cpu with halt := false, soon := false }, bS plan m⟩) ⟨h.rg, hq.m⟩
  exact ⟨hpc, Int.le_trans y_b hz.1, Int.le_trans hz.2 y_b⟩
def Gx.Ok.st {g : Gx} (h : g.Ok) (k : Nat) : Hs.StpOk (g.st k) := ⟨(aND h.chg (h.inv k)).1, (aND h.chg (h.inv k)).2⟩
def yY.offB {w0 w : AI} {ms : AE} {T : Nat} {plan : List Chg} {pa : AC} {pc : Nat} {G A B : aB} (h : yY T plan pa pc G) (hw : St w0 ms (A ++ B) w) (hs : ∀ x ∈ G, x ∈ B) : ∀ p, pa = some p → p.block ∉ A.map (·.1) := by
 rintro p rfl hp
 rcases h.vec.alt with ⟨h1, _⟩ | ⟨b, cap, sp, h1, rfl, _⟩
 ·cases h1
 cases h1
 have hn := hw.nodup
 rw [aw, cx] at hn
 exact hn.2.2 _ hp _ (List.mem_map_of_mem (hs _ (.head _))) rfl
structure Db where
 b : Nat
 hb : Nat
 lb : Nat
 mp : Nat
 fa : Nat
 fc : Nat
 fs : AA
 cap : Int
 asked : Int
 done : Int
 q : MA
 m : Mm
 ring : List Hs.Rcd
 GH : aB
 ms : List Tm.Mark
 GL : aB
 l : List Ent
 c : Nat
 pv : AH
 wv : AH
 tab : AH
 D : aB
def cDb (cap : Int) (q h : AH) (at_ : Nat) (f : AH) (lb mp : Nat) (pv wv : AH) (asked done : Int) (tab : AH) : AA :=
 [.int .i64 cap, q, h, .int .u64 at_, f, P_ lb, .map (some mp), pv, wv, .int .u32 asked, .int .u64 done, tab]
abbrev Db.cs (d : Db) (g : Gx) (k : Nat) : AA := cDb d.cap (pM d.q) (P_ d.hb) k (.slice (Q_ d.fa) (g.enc 0).length d.fc) d.lb d.mp d.pv d.wv d.asked d.done d.tab
def Db.H (d : Db) (g : Gx) (k : Nat) : aB := (d.b, blk (d.cs g k) 79) :: (d.mp, dG .u64 d.l d.c) :: (hM d.q d.m ++ (d.GH ++ (d.GL ++ d.D)))
def capT (n : Int) : Int := max 2 (min n 256)
def capT_ok (n : Int) : 2 ≤ capT n ∧ capT n ≤ 256 := by unfold capT; omega
def aBm (g : Gx) (D : aB) (v : AH) (j : Nat) : Prop := ∃ b ring G, v = P_ b ∧ Hs.HistH b 32 j (Hs.callsL (g.sts j)) ring G ∧ Hs.RingOk 32 ring (g.sts j) ∧ ∀ x ∈ G, x ∈ D
def aBm.more {g : Gx} {D D' : aB} {v : AH} {j : Nat} (h : aBm g D v j) (hs : ∀ x ∈ D, x ∈ D') : aBm g D' v j := by
 obtain ⟨b, r, G, h1, h2, h3, h4⟩ := h
 exact ⟨b, r, G, h1, h2, h3, fun x hx => hs x (h4 x hx)⟩
structure oZ (g : Gx) (l : List Ent) (c : Nat) (ms : List Tm.Mark) (n : Nat) (D : aB) : Prop where
 old : ∀ e ∈ l, e.2.2 < c
 nd : (l.map (·.2.2)).Nodup
 le : ∀ e ∈ l, 0 ≤ e.1 ∧ e.1 < n
 his : ∀ e ∈ l, aBm g D e.2.1 e.1.toNat
 all : ∀ m ∈ ms, ∃ e ∈ l, e.1 = m.t
def aBP {a : Int} : ∀ {l : List Ent} {i : Nat}, (∀ e ∈ l, e.1 ≠ a) → gP a l i = none
 | [], _, _ => rfl
 | e :: l, i, h => by
  unfold gP
  rw [if_neg (fun he => h e (.head _) he.symm)]
  exact aBP fun x hx => h x (.tail _ hx)
def yS (a : Int) : ∀ l : List Ent, (jO a l).Sublist l
 | [] => .slnil
 | e :: l => by
  unfold jO
  split
  ·exact .cons _ (List.Sublist.refl _)
  ·exact .cons_cons _ (yS a l)
def aDE {a : Int} : ∀ {l : List Ent} {e : Ent}, e ∈ l → e.1 ≠ a → e ∈ jO a l
 | x :: l, e, h, hn => by
  unfold jO
  rcases List.mem_cons.1 h with rfl | h
  ·rw [if_neg (fun he => hn he.symm)]; exact .head _
  ·split
   ·exact h
   ·exact .tail _ (aDE h hn)
section
variable {g : Gx} {l : List Ent} {c n : Nat} {ms : List Tm.Mark} {D : aB}
def oZ.more (h : oZ g l c ms n D) {D' : aB} (hs : ∀ x ∈ D, x ∈ D') : oZ g l c ms n D' := ⟨h.old, h.nd, h.le, fun e he => (h.his e he).more hs, h.all⟩
def oZ.start (g : Gx) (D : aB) : oZ g [] 0 [] 0 D := ⟨fun _ h => y_c1, y_eu, fun _ h => y_c1, fun _ h => y_c1, fun _ h => y_c1⟩
def oZ.drop (h : oZ g l c ms n D) {a : Int} (ha : ∀ m ∈ ms, m.t ≠ a) : oZ g (jO a l) c ms n D :=
 have hs := yS a l
 ⟨fun e he => h.old e (hs.subset he), (hs.map _).nodup h.nd, fun e he => h.le e (hs.subset he), fun e he => h.his e (hs.subset he), fun m hm => by
  obtain ⟨e, he, h1⟩ := h.all m hm
  exact ⟨e, aDE he (by rw [h1]; exact ha m hm), h1⟩⟩
def oZ.new (h : oZ g l c ms n D) {v : AH} (hv : aBm g D v n) {mk : Tm.Mark} (ht : mk.t = n) {ms' : List Tm.Mark} (hs : ∀ m ∈ ms', m ∈ ms ++ [mk]) : gP n l 0 = none ∧ oZ g (l ++ [((n : Int), v, c)]) (c + 1) ms' (n + 1) D := by
 refine ⟨aBP fun e he h1 => by have := (h.le e he).2; omega, fun e he => ?_, ?_, fun e he => ?_, fun e he => ?_, fun m hm => ?_⟩
 ·rcases List.mem_append.1 he with he | he
  ·have := h.old e he; omega
  ·rw [List.mem_singleton.1 he]; show c < c + 1; omega
 ·rw [aw, cx]
  refine ⟨h.nd, y_eu, ?_⟩
  intro a ha b hb
  obtain ⟨e, he, rfl⟩ := List.mem_map.1 ha
  have h1 := h.old e he
  have h2 : b = c := by simpa using hb
  show e.2.2 ≠ b
  omega
 ·rcases List.mem_append.1 he with he | he
  ·have := h.le e he; omega
  ·rw [List.mem_singleton.1 he]; show (0 : Int) ≤ n ∧ (n : Int) < (n + 1 : Nat); omega
 ·rcases List.mem_append.1 he with he | he
  ·exact h.his e he
  ·rw [List.mem_singleton.1 he]; exact hv
 ·rcases List.mem_append.1 (hs m hm) with h1 | h1
  ·obtain ⟨e, he, h2⟩ := h.all m h1
   exact ⟨e, fy _ he, h2⟩
  ·rw [List.mem_singleton.1 h1]
   exact ⟨_, et _ (.head _), ht.symm⟩
end
structure Db.Ok (d : Db) (g : Gx) (k n : Nat) : Prop where
 le : k ≤ n
 q : d.q.Ok g.pa g.plan.length g.pc
 m : EqA (g.m k) d.m
 hist : Hs.HistH d.hb 32 k (Hs.callsL (g.sts k)) d.ring d.GH
 ring : Hs.RingOk 32 d.ring (g.sts k)
 line : Tm.LJ d.lb (capT d.cap) n ((n - 1 : Nat) : Int) d.ms d.GL d.D
 pk : ∀ x ∈ d.ms, x.l = fD (g.enc 0) (g.enc x.t.toNat)
 first : (d.fa, blk ((g.enc 0).map U_ ++ d.fs) 5) ∈ d.D ∧ (g.enc 0).length ≤ d.fc
 past : oZ g d.l d.c d.ms n d.D
 tms : Tm.times d.ms = aMl (capT d.cap).toNat n
 plan : ∃ GP, yY 174 g.plan g.pa g.pc GP ∧ ∀ x ∈ GP, x ∈ d.D
structure Db.To (d e : Db) : Prop where
 b : e.b = d.b
 cap : e.cap = d.cap
 asked : e.asked = d.asked
 q : pM e.q = pM d.q
 pv : e.pv = d.pv
 wv : e.wv = d.wv
 tab : e.tab = d.tab
 D : ∀ x ∈ d.D, x ∈ e.D
def Db.To.refl (d : Db) : Db.To d d := ⟨rfl, rfl, rfl, rfl, rfl, rfl, rfl, fun _ h => h⟩
def Db.To.trans {d e f : Db} (h1 : Db.To d e) (h2 : Db.To e f) : Db.To d f :=
 ⟨h2.b.trans h1.b, h2.cap.trans h1.cap, h2.asked.trans h1.asked, h2.q.trans h1.q, h2.pv.trans h1.pv, h2.wv.trans h1.wv, h2.tab.trans h1.tab, fun x hx => h2.D x (h1.D x hx)⟩
def aSN (g : Gx) (d e : Db) (j n : Nat) (c : Int) (H : aB) : Prop := e.Ok g j n ∧ d.To e ∧ e.done = d.done + c ∧ H = e.H g j
structure Db.Fine (d : Db) (g : Gx) (k n : Nat) : Prop where
 ok : d.Ok g k n
 lt : k < n
 few : n < 800000
 done : 0 ≤ d.done ∧ d.done < 100000000000000
def aCB {b k : Nat} {cap t : Int} {ms : List Tm.Mark} {G D D' : aB} (h : Tm.LJ b cap k t ms G D) (hs : ∀ x ∈ D, x ∈ D') : Tm.LJ b cap k t ms G D' :=
 ⟨h.line, h.dat.more hs, h.rise, h.len, h.lo, h.hi, h.zero, h.more⟩
def aJq {w0 w : AI} {bs : AE} {G R : aB} (hw : St w0 bs (G ++ R) w) {b : Nat} {l : AB} {sp : AA} {T : AJ} (hm : (b, Obj.cells (l.map U_ ++ sp).toArray T (0, 0)) ∈ R) : Tm.BytS w (G.map (·.1)) (Q_ b) l := by
 refine .inr ⟨b, 0, rfl, fun hb => ?_, (Row.all (hw.holds _ (et _ hm))).left⟩
 have hn := hw.nodup
 rw [aw, cx] at hn
 exact hn.2.2 b hb b (List.mem_map.2 ⟨_, hm, rfl⟩) rfl
def aBS {l : List Ent} {seen : AE} {y : Ent} (hy : y ∈ kD l seen) : (kD l (seen ++ [y.2.2])).length < (kD l seen).length := by
 unfold kD at *
 have e1 : l.filter (fun e => !((seen ++ [y.2.2]).contains e.2.2)) = (l.filter fun e => !(seen.contains e.2.2)).filter fun e => !(e.2.2 == y.2.2) := by
  rw [List.filter_filter]
  refine List.filter_congr fun x _ => ?_
  simp only [List.contains_eq_mem, gq, ga, Bool.decide_or, Bool.not_or]
  rw [Bool.and_comm]
  rfl
 rw [e1]
 generalize (l.filter fun e => !(seen.contains e.2.2)) = r at hy ⊢
 induction r with
 | nil => cases hy
 | cons z r ih =>
  rcases List.mem_cons.1 hy with rfl | hy
  ·rw [List.filter_cons, if_neg y_v]
   have := List.length_filter_le (fun e : Ent => !(e.2.2 == y.2.2)) r
   simp only [Lc_]; omega
  ·have := ih hy
   rw [List.filter_cons]
   split <;> simp only [Lc_] <;> omega
def aHz (a : Int) (l : List Ent) (s : AE) : (kD (jO a l) s).length ≤ (kD l s).length := ((yS a l).filter _).length_le
def aJj {l : List Ent} {s : AE} {y : Ent} (h : y ∈ kD l s) : y ∈ l := (List.mem_filter.1 h).1
def aGS {l : AB} (hs : l.Pairwise (· < ·)) {x : Int} {i : Nat} (h1 : ∀ p, p < i → l.getD p 0 < x) (h2 : i < l.length → l.getD i 0 ≠ x ∧ x ≤ l.getD i 0) : x ∉ l := fun hx => by
 obtain ⟨p, hp, he⟩ := List.mem_iff_getElem.1 hx
 have hg : l.getD p 0 = x := by rw [← he]; simp [hp]
 rcases Nat.lt_trichotomy p i with h | h | h
 ·have := h1 p h; omega
 ·subst h; exact (h2 hp).1 hg
 ·have h3 := h2 o_m
  have h4 := (List.pairwise_iff_getElem.1 hs) i p o_m hp h
  have h5 : l.getD i 0 = l[i] := by simp [show i < l.length by omega]
  rw [he] at h4
  omega
def aSp {l : AB} (hs : l.Pairwise (· < ·)) {x : Int} {h i : Nat} (hh : h < l.length) (hx : l.getD h 0 < x) (hi : i = h + 1) : ∀ p, p < i → l.getD p 0 < x := fun p hp => by
 subst hi
 rcases dh p h with h1 | h1
 ·have := (List.pairwise_iff_getElem.1 hs) p h o_m hh h1
  have e1 : l.getD p 0 = l[p] := by simp [show p < l.length by omega]
  have e2 : l.getD h 0 = l[h] := by simp [hh]
  omega
 ·rwa [show p = h by omega]
def aG6 {ms : List Tm.Mark} (h : Tm.Rise ms) : (Tm.times ms).Pairwise (· < ·) := List.pairwise_map.2 h.1
structure Lg {β : Type} (A : aSX β) (lg : β → List Ac) : Prop where
 fetch : ∀ a m, lg (A.fetch a m).2 = lg m ++ [⟨3, a, (A.fetch a m).1⟩]
 read : ∀ a m, lg (A.read a m).2 = lg m ++ [⟨1, a, (A.read a m).1⟩]
 write : ∀ a x m, lg (A.write a x m) = lg m ++ [⟨2, a, x⟩]
 idle : ∀ m, lg (A.idle m) = lg m ++ [⟨0, 0, 0⟩]
 ack : ∀ n m, lg (A.ack n m) = lg m
variable {β : Type} {lg : β → List Ac}
variable (lg) in
structure Lc (c : Nat) (x y : Rn β) : Prop where
 acc : ∃ l, lg y.m = lg x.m ++ l ∧ l.length ≤ c ∧ ∀ e ∈ l, e.kind ≠ 3
 f : x.s.r.f % 16 = 0 → y.s.r.f % 16 = 0
def Lc.refl (x : Rn β) : Lc lg 0 x x := ⟨⟨[], y_eu, y_eu, y_eu⟩, fun h => h⟩
def Lc.trans {c d : Nat} {x y z : Rn β} (h : Lc lg c x y) (h' : Lc lg d y z) : Lc lg (c + d) x z := by
 obtain ⟨⟨l, h1, h2, h3⟩, h4⟩ := h
 obtain ⟨⟨k, g1, g2, g3⟩, g4⟩ := h'
 refine ⟨⟨l ++ k, by rw [g1, h1, As_], by rw [La_]; omega, fun e he => ?_⟩, fun hf => g4 (h4 hf)⟩
 rcases List.mem_append.1 he with he | he
 ·exact h3 e he
 ·exact g3 e he
def Lc.le {c d : Nat} {x y : Rn β} (h : Lc lg c x y) (hd : c ≤ d) : Lc lg d x y := ⟨by obtain ⟨l, h1, h2, h3⟩ := h.acc; exact ⟨l, h1, y_B, h3⟩, h.f⟩
def Lc.one {x y : Rn β} (k : Int) {a v : Int} (h : lg y.m = lg x.m ++ [⟨k, a, v⟩]) (hk : k ≠ 3) (hf : x.s.r.f % 16 = 0 → y.s.r.f % 16 = 0) : Lc lg 1 x y := ⟨⟨[⟨k, a, v⟩], h, y_eu, by intro e' he; rw [List.mem_singleton.1 he]; exact hk⟩, hf⟩
def Lc.none {x y : Rn β} (h : lg y.m = lg x.m) (hf : x.s.r.f % 16 = 0 → y.s.r.f % 16 = 0) : Lc lg 0 x y := ⟨⟨[], by simp [h], y_eu, y_eu⟩, hf⟩
def Lc.then {c : Nat} {x y z : Rn β} (h : Lc lg c x y) (ha : lg z.m = lg y.m) (hf : y.s.r.f % 16 = 0 → z.s.r.f % 16 = 0) : Lc lg c x z := (h.trans (Lc.none ha hf)).le (ax _)
section
variable {x : Rn β}
def aOY (r : CR) (n v : Int) (h : r.f % 16 = 0) : (lM r n v).f % 16 = 0 := by
 unfold lM; repeat' split
 all_goals first | exact h | rfl
def nG (r : CR) (n v : Int) (h : r.f % 16 = 0) : (dZ r n v).f % 16 = 0 := by
 unfold dZ; repeat' split
 all_goals first | exact h | rfl | (show v % 256 / 16 * 16 % 16 = 0; omega)
def aGf (r : CR) (n v : Int) (h : r.f % 16 = 0) : (iA r n v).f % 16 = 0 := by
 unfold iA xQ oS pF; repeat' split
 all_goals first | exact h | exact kF _ _ _ _
def Lc.ite {d : Nat} {c : Prop} [Decidable c] {a b : Rn β} (h1 : c → Lc lg d x a) (h2 : ¬ c → Lc lg d x b) : Lc lg d x (if c then a else b) := by
 split
 ·exact h1 (by assumption)
 ·exact h2 (by assumption)
def aRx (n : Int) : Lc lg 0 x (far n x).2 := by
 unfold far; split
 ·exact Lc.refl x
 ·exact .none rfl (nG _ _ _)
def aEG (o : Opr) : Lc lg 0 x (place o x).2 := by
 unfold place; repeat' split
 ·exact aRx _
 all_goals exact Lc.refl x
def rZ {c : Nat} {y : Rn β} (h : Lc lg c x y) (w : Int) : Lc lg c x (goto w y) := h.then rfl (fun h => h)
variable {A : aSX β} (hA : Lg A lg)
include hA
def vO (n : Int) : Lc lg 1 x (gett A n x).2 := by
 unfold gett; split
 ·exact .one 1 (hA.read _ _) y_b (fun h => h)
 ·exact Lc.le (Lc.refl x) o_m
def vD (n v : Int) : Lc lg 1 x (sett A n v x) := by
 unfold sett; split
 ·exact .one 2 (hA.write _ _ _) y_b (fun h => h)
 ·exact Lc.le (Lc.none rfl (aOY _ _ _)) o_m
def aD8 (v : Int) : Lc lg 1 x (push1 A v x) := .one 2 (hA.write _ _ _) y_b (fun h => h)
def aCf (w : Int) : Lc lg 2 x (push A w x) := (aD8 hA (w / 256)).trans (aD8 hA (w % 256))
def aGM : Lc lg 1 x (pop1 A x).2 := .one 1 (hA.read _ _) y_b (fun h => h)
def aFe : Lc lg 2 x (pop A x).2 := (aGM hA).trans (aGM hA)
def fC : ∀ n, Lc lg n x (idles A n x)
 | 0 => Lc.refl x
 | n + 1 => (fC n).trans (.one 0 (hA.idle _) y_b (fun h => h))
def zB (n : Int) {g : Int → Int → Int × Int} (hg : ∀ a f, (g a f).2 % 16 = 0) : Lc lg 2 x (change A n g x) :=
 ((vO hA n).trans (vD hA n _)).then rfl (fun _ => hg _ _)
def aOx (o : Opr) : Lc lg 2 x (eF A o x) := by
 have z : Lc lg 2 x x := Lc.le (Lc.refl x) o_m
 have g1 : ∀ n, Lc lg 2 x (gett A n x).2 := fun n => Lc.le (vO hA n) o_m
 have r : ∀ {r' : CR}, (x.s.r.f % 16 = 0 → r'.f % 16 = 0) → Lc lg 2 x (x.reg r') := fun h => Lc.le (Lc.none rfl h) o_m
 unfold eF
 refine .ite (fun _ => (vO hA _).trans (vD hA _ _)) fun _ => ?_
 refine .ite (fun _ => Lc.le (vD hA _ _) o_m) fun _ => ?_
 refine .ite (fun _ => (g1 _).then rfl (aGf _ _ _)) fun _ => ?_
 refine .ite (fun _ => r (aGf _ _ _)) fun _ => ?_
 refine .ite (fun _ => zB hA _ fun _ _ => kF _ _ _ _) fun _ => ?_
 refine .ite (fun _ => zB hA _ fun _ _ => kF _ _ _ _) fun _ => ?_
 refine .ite (fun _ => zB hA _ fun _ _ => kF _ _ _ _) fun _ => ?_
 refine .ite (fun _ => r fun _ => kF _ _ _ _) fun _ => ?_
 refine .ite (fun _ => (g1 _).then rfl fun _ => kF _ _ _ _) fun _ => ?_
 refine .ite (fun _ => (vO hA _).trans (vD hA _ _)) fun _ => ?_
 refine .ite (fun _ => (vO hA _).trans (vD hA _ _)) fun _ => ?_
 refine .ite (fun _ => r fun _ => kF _ _ _ _) fun _ => ?_
 refine .ite (fun _ => r fun _ => kF _ _ _ _) fun _ => ?_
 refine .ite (fun _ => r fun _ => kF _ _ _ _) fun _ => ?_
 exact .ite (fun _ => r fun _ => kF _ _ _ _) fun _ => z
def aPI (o : Opr) : Lc lg 3 x (gJ A o x) := by
 have r : ∀ {r' : CR}, (x.s.r.f % 16 = 0 → r'.f % 16 = 0) → Lc lg 0 x (x.reg r') := fun h => Lc.none rfl h
 unfold gJ
 refine .ite (fun _ => Lc.le (r (nG _ _ _)) o_m) fun _ => ?_
 refine .ite (fun _ => Lc.le ((r (nG _ _ _)).trans (fC hA 1)) o_m) fun _ => ?_
 refine .ite (fun _ => Lc.le ((r (nG _ _ _)).trans (fC hA 1)) o_m) fun _ => ?_
 refine .ite (fun _ => Lc.le ((r fun _ => nG _ _ _ (kF _ _ _ _)).trans (fC hA 1)) o_m) fun _ => ?_
 refine .ite (fun _ => Lc.le ((r fun _ => kF _ _ _ _).trans (fC hA 2)) o_m) fun _ => ?_
 refine .ite (fun _ => Lc.le ((r fun _ => nG _ _ _ (kF _ _ _ _)).trans (fC hA 1)) o_m) fun _ => ?_
 refine .ite (fun _ => Lc.le (c := 0 + 1) ((r (r' := { x.s.r with sp := bD x.s.r 2 }) fun h => h).trans (fC hA 1)) o_m) fun _ => ?_
 refine .ite (fun _ => (fC hA 1).trans (aCf hA _)) fun _ => ?_
 refine .ite (fun _ => Lc.le (c := 2) ((aFe hA).then rfl (nG _ _ _)) o_m) fun _ => ?_
 refine .ite (fun _ => ?_) fun _ => Lc.le (Lc.refl x) o_m
 have h1 : Lc lg 1 x (x.mem (A.write o.n (x.s.r.sp % 256) x.m)) := .one 2 (hA.write _ _ _) y_b (fun h => h)
 have h2 : Lc lg 1 (x.mem (A.write o.n (x.s.r.sp % 256) x.m)) (x.mem (A.write (bJ o.n) (x.s.r.sp / 256) (A.write o.n (x.s.r.sp % 256) x.m))) := .one 2 (hA.write _ _ _) y_b (fun h => h)
 exact Lc.le (h1.trans h2) o_m
def aPE (o : Opr) : Lc lg 1 x (jC A o x) := by
 unfold jC
 dsimp only
 split
 ·exact Lc.trans (y := (place o x).2) (z := ⟨{ (place o x).2.s with r := { (place o x).2.s.r with a := (A.read (place o x).1 (place o x).2.m).1 } }, (A.read (place o x).1 (place o x).2.m).2⟩) (aEG o) (Lc.one 1 (hA.read _ _) y_b (fun h => h))
 ·exact Lc.trans (y := (place o x).2) (z := (place o x).2.mem (A.write (place o x).1 (place o x).2.s.r.a (place o x).2.m)) (aEG o) (Lc.one 2 (hA.write _ _ _) y_b (fun h => h))
def aOl (o : Opr) : Lc lg (if o.kind = 26 then 4 else 3) x (effJ A o x) := by
 by_cases hk : o.kind = 26
 ·rw [if_pos hk]
  have hx : Lc lg 1 x (if o.kind = 26 ∧ o.x ≠ 4 then idles A 1 x else x) := .ite (fun _ => fC hA 1) fun _ => Lc.le (Lc.refl x) o_m
  unfold effJ
  dsimp only
  generalize (if o.kind = 26 ∧ o.x ≠ 4 then idles A 1 x else x) = y at hx ⊢
  refine .ite (fun _ => hx.le o_m) fun _ => ?_
  rw [if_neg o_m, if_neg o_m, if_neg o_m, if_neg o_m, if_pos hk]
  exact (rZ (hx.trans (aFe hA)) _).trans (fC hA 1)
 ·rw [if_neg hk]
  unfold effJ
  dsimp only
  rw [if_neg (show ¬ (o.kind = 26 ∧ o.x ≠ 4) from fun h => hk h.1)]
  refine .ite (fun _ => Lc.le (Lc.refl x) o_m) fun _ => ?_
  refine .ite (fun _ => Lc.le (rZ (fC hA 1) _) o_m) fun _ => ?_
  refine .ite (fun _ => Lc.le (rZ (fC hA 1) _) o_m) fun _ => ?_
  refine .ite (fun _ => rZ ((fC hA 1).trans (aCf hA _)) _) fun _ => ?_
  refine .ite (fun _ => ?_) fun _ => ?_
  ·have h0 : Lc lg 0 x ⟨{ x.s with ime := true }, x.m⟩ := .none rfl (fun h => h)
   exact (rZ (h0.trans (aFe hA)) _).trans (fC hA 1)
  ·rw [if_neg hk]
   exact .ite (fun _ => Lc.le (rZ (Lc.refl x) _) o_m) fun _ => Lc.le (Lc.refl x) o_m
def aOA (o : Opr) (p : Int) : Lc lg (if o.kind = 26 then 4 else 3) x (ordT A o p x).2 := by
 have hc : 3 ≤ (if o.kind = 26 then 4 else 3) := by split <;> omega
 have hj := aOl hA (x := x) o
 generalize (if o.kind = 26 then 4 else 3) = c at hc hj ⊢
 have n : ∀ {y : Rn β}, lg y.m = lg x.m → (x.s.r.f % 16 = 0 → y.s.r.f % 16 = 0) → Lc lg c x y := fun h h' => Lc.le (c := 0) (Lc.none h h') o_m
 unfold ordT
 split
 ·exact n rfl (fun h => h)
 split
 ·exact n rfl (fun h => h)
 split
 ·exact n rfl (fun h => h)
 split
 ·exact n rfl (fun h => h)
 split
 ·exact n rfl (fun h => h)
 split
 ·exact (aOx hA o).le o_m
 split
 ·exact (aPI hA o).le o_m
 split
 ·exact (aPE hA o).le o_m
 ·exact hj
end
def szG {a b c : Int} (ha : 0 ≤ a ∧ a < 256) : (dcd a b c).size = (dcd a 0 0).size := by
 by_cases h : a = 203
 ·rw [pS h, pS h]; unfold rK; split <;> split <;> rfl
 ·obtain ⟨m, o, hm, _, ho⟩ := qB ha.1 ha.2
  rw [jQ hm h ho, jQ hm h ho]; rfl
def aSO (o : Opr) : Bool := decide (o.kind = 26 → o.size = 1)
def aMK : kW.all aSO = true := by kernel_rfl
def aES {a b c : Int} (ha : 0 ≤ a ∧ a < 256) (hb : 0 ≤ b ∧ b < 256) (hk : (dcd a b c).kind = 26) : (dcd a b c).size = 1 := by
 by_cases h : a = 203
 ·rw [pS h] at hk
  have : (rK b).kind ≠ 26 := by unfold rK; split <;> (dsimp only; omega)
  exact absurd hk this
 ·obtain ⟨m, o, hm, _, ho⟩ := qB ha.1 ha.2
  rw [jQ hm h ho] at hk ⊢
  exact (c7 (List.all_eq_true.1 aMK o (ay ho)) : o.kind = 26 → o.size = 1) hk
section
variable {β : Type} {A : aSX β} {s : CS} {m : β}
def aSH (h1 : s.stop = false) (h2 : s.halt = true → A.pend m ≠ 0) (h3 : s.ime = true → A.pend m = 0) {o : Opr} {y : Rn β} (hn : nextT A ⟨{ s with halt := false, soon := false }, m⟩ = (o, y)) :
  bW A ⟨s, m⟩ = (⟨1, 0, s.r.pc, o, (ordT A o s.r.pc y).1⟩, if s.soon = true ∧ o.kind ≠ 5 then ⟨{ (ordT A o s.r.pc y).2.s with ime := true }, (ordT A o s.r.pc y).2.m⟩ else (ordT A o s.r.pc y).2) := by
 unfold bW
 dsimp only
 rw [if_neg y_co, if_neg (fun h => h2 h.1 h.2), if_neg (fun h => h.2 (h3 h.1)), hn]
def aQP (h1 : s.stop = false) (h3 : s.ime = true) (hp : A.pend m ≠ 0) :
  bW A ⟨s, m⟩ = (⟨2, jJ (A.pend m), s.r.pc, oN, false⟩, qG A (A.pend m) ⟨{ s with halt := false }, m⟩) := by
 unfold bW
 dsimp only
 rw [if_neg y_co, if_neg (fun h => hp h.2), if_pos ⟨h3, hp⟩]
def aQj (h1 : s.stop = false) (h2 : s.halt = true) (hp : A.pend m = 0) : bW A ⟨s, m⟩ = (⟨0, 0, s.r.pc, oN, false⟩, ⟨s, A.idle m⟩) := by
 unfold bW
 dsimp only
 rw [if_neg y_co, if_pos ⟨h2, hp⟩]; rfl
def aQl (h1 : s.stop = true) : bW A ⟨s, m⟩ = (⟨0, 0, s.r.pc, oN, false⟩, ⟨{ s with stop := A.pend (A.idle m) / 16 % 2 == 0 }, A.idle m⟩) := by
 unfold bW
 rw [if_pos h1]
end
section
variable {β : Type} {lg : β → List Ac} {K : aSY β} (hA : Lg K.toaSX lg)
include hA
def aSf {n : Nat} {s : CS} {m : β} (hm : K.ok (n + 1 + 1 + 1) m) (hpc : 0 ≤ s.r.pc ∧ s.r.pc < 65536) : ∃ (v u t : Int) (k : Nat), (0 ≤ v ∧ v < 256) ∧ (0 ≤ u ∧ u < 256) ∧ (0 ≤ t ∧ t < 256) ∧ 1 ≤ k ∧ k ≤ 3 ∧
  (nextT K.toaSX ⟨s, m⟩).1 = dcd v (if 2 ≤ k then u else 0) (if 3 ≤ k then t else 0) ∧ (nextT K.toaSX ⟨s, m⟩).1.size = k ∧ ((nextT K.toaSX ⟨s, m⟩).1.kind = 26 → k = 1) ∧ (nextT K.toaSX ⟨s, m⟩).2.s.r.f = s.r.f ∧
  lg (nextT K.toaSX ⟨s, m⟩).2.m = lg m ++ ([⟨3, s.r.pc, v⟩, ⟨3, bJ s.r.pc, u⟩, ⟨3, bJ (bJ s.r.pc), t⟩] : List Ac).take k := by
 have p2 : 0 ≤ bJ s.r.pc ∧ bJ s.r.pc < 65536 := by unfold bJ; omega
 have p3 : 0 ≤ bJ (bJ s.r.pc) ∧ bJ (bJ s.r.pc) < 65536 := by unfold bJ; omega
 obtain ⟨k1, hv⟩ := K.oF hm hpc
 have g1 := hA.fetch s.r.pc m
 obtain ⟨k2, hu⟩ := K.oF k1 p2
 have g2 := hA.fetch (bJ s.r.pc) (K.fetch s.r.pc m).2
 obtain ⟨_, ht⟩ := K.oF k2 p3
 have g3 := hA.fetch (bJ (bJ s.r.pc)) (K.fetch (bJ s.r.pc) (K.fetch s.r.pc m).2).2
 have z0 : (0 : Int) ≤ 0 ∧ (0 : Int) < 256 := by decide
 have f1 := (xL hv z0 z0).size
 have z2 := szG (b := (K.fetch (bJ s.r.pc) (K.fetch s.r.pc m).2).1) (c := 0) hv
 have z3 := szG (b := (K.fetch (bJ s.r.pc) (K.fetch s.r.pc m).2).1) (c := (K.fetch (bJ (bJ s.r.pc)) (K.fetch (bJ s.r.pc) (K.fetch s.r.pc m).2).2).1) hv
 refine ⟨_, _, _, (dcd (K.fetch s.r.pc m).1 0 0).size.toNat, hv, hu, ht, y_B, y_B, ?_⟩
 by_cases h1 : (dcd (K.fetch s.r.pc m).1 0 0).size ≤ 1
 ·have e : nextT K.toaSX ⟨s, m⟩ = (dcd (K.fetch s.r.pc m).1 0 0, ⟨{ s with r := { s.r with pc := bJ s.r.pc } }, (K.fetch s.r.pc m).2⟩) := if_pos h1
  have hk : (dcd (K.fetch s.r.pc m).1 0 0).size.toNat = 1 := by omega
  rw [e, hk]
  exact ⟨rfl, y_D, fun _ => rfl, rfl, g1⟩
 ·by_cases h2 : (dcd (K.fetch s.r.pc m).1 (K.fetch (bJ s.r.pc) (K.fetch s.r.pc m).2).1 0).size ≤ 2
  ·have e : nextT K.toaSX ⟨s, m⟩ = (dcd (K.fetch s.r.pc m).1 (K.fetch (bJ s.r.pc) (K.fetch s.r.pc m).2).1 0, ⟨{ s with r := { s.r with pc := bJ (bJ s.r.pc) } }, (K.fetch (bJ s.r.pc) (K.fetch s.r.pc m).2).2⟩) := (if_neg h1).trans (if_pos h2)
   have hk : (dcd (K.fetch s.r.pc m).1 0 0).size.toNat = 2 := by omega
   rw [e, hk]
   exact ⟨rfl, y_D, fun h => by have := aES hv hu h; omega, rfl, by rw [g2, g1, As_]; rfl⟩
  ·have e : nextT K.toaSX ⟨s, m⟩ = (dcd (K.fetch s.r.pc m).1 (K.fetch (bJ s.r.pc) (K.fetch s.r.pc m).2).1 (K.fetch (bJ (bJ s.r.pc)) (K.fetch (bJ s.r.pc) (K.fetch s.r.pc m).2).2).1, ⟨{ s with r := { s.r with pc := bJ (bJ (bJ s.r.pc)) } }, (K.fetch (bJ (bJ s.r.pc)) (K.fetch (bJ s.r.pc) (K.fetch s.r.pc m).2).2).2⟩) := (if_neg h1).trans (if_neg h2)
   have hk : (dcd (K.fetch s.r.pc m).1 0 0).size.toNat = 3 := by omega
   rw [e, hk]
   exact ⟨rfl, y_D, fun h => by have := aES hv hu h; omega, rfl, by rw [g3, g2, g1, As_, As_]; rfl⟩
end
variable (lg) in
structure aM3 {β : Type} (lg : β → List Ac) (s : CS) (d : Dd) (y : Rn β) : Prop where
 len : 1 ≤ (lg y.m).length ∧ (lg y.m).length ≤ 6
 at_ : d.at_ = s.r.pc
 told : (d.what = 1 ∧ ∃ (v u t : Int) (k : Nat) (l : List Ac), (0 ≤ v ∧ v < 256) ∧ (0 ≤ u ∧ u < 256) ∧ (0 ≤ t ∧ t < 256) ∧ 1 ≤ k ∧ k ≤ 3 ∧ d.op = dcd v (if 2 ≤ k then u else 0) (if 3 ≤ k then t else 0) ∧ d.op.size = k ∧
  lg y.m = ([⟨3, s.r.pc, v⟩, ⟨3, bJ s.r.pc, u⟩, ⟨3, bJ (bJ s.r.pc), t⟩] : List Ac).take k ++ l ∧ ∀ e ∈ l, e.kind ≠ 3) ∨ (d.what ≠ 1 ∧ ∀ e ∈ lg y.m, e.kind ≠ 3)
section
variable {β : Type} {lg : β → List Ac} {K : aSY β}
def aCm {s : CS} {m : β} {d : Dd} {y : Rn β} (hm : lg m = []) {c : Nat} (hc : c ≤ 6) (h : Lc lg c ⟨s, m⟩ y) (h1 : 1 ≤ (lg y.m).length) (hd : d.at_ = s.r.pc) (hw : d.what ≠ 1) : aM3 lg s d y := by
 obtain ⟨l, g1, g2, g3⟩ := h.acc
 rw [show lg (Rn.mk s m).m = [] from hm, bw] at g1
 exact ⟨⟨h1, by rw [g1]; omega⟩, hd, .inr ⟨hw, fun e he => g3 e (by rw [g1] at he; exact he)⟩⟩
variable (hA : Lg K.toaSX lg)
include hA
def aSK {n : Nat} {s : CS} {m : β} (hs : s.r.Ok) (hm : K.ok (n + 1 + 1 + 1) m) (h0 : lg m = []) : aM3 lg s (bW K.toaSX ⟨s, m⟩).1 (bW K.toaSX ⟨s, m⟩).2 := by
 by_cases h1 : s.stop = true
 ·rw [aQl h1]
  exact aCm h0 (c := 1) o_m (.one 0 (hA.idle _) y_b (fun h => h)) y_cH rfl (show (0 : Int) ≠ 1 by decide)
 ·have h1' : s.stop = false := by simpa using h1
  by_cases h2 : s.halt = true ∧ K.pend m = 0
  ·rw [aQj h1' h2.1 h2.2]
   exact aCm h0 (c := 1) o_m (.one 0 (hA.idle _) y_b (fun h => h)) y_cH rfl (show (0 : Int) ≠ 1 by decide)
  ·by_cases h3 : s.ime = true ∧ K.pend m ≠ 0
   ·rw [aQP h1' h3.1 h3.2]
    have key : Lc lg (0 + 2 + 2 + 0 + 1 + 0) ⟨s, m⟩ (qG K.toaSX (K.pend m) ⟨{ s with halt := false }, m⟩) := by
     have a0 : Lc lg 0 ⟨s, m⟩ (⟨{ s with halt := false }, m⟩ : Rn β) := .none rfl (fun h => h)
     have a1 := fC hA (x := (⟨{ s with halt := false }, m⟩ : Rn β)) 2
     have a2 := aCf hA (x := idles K.toaSX 2 (⟨{ s with halt := false }, m⟩ : Rn β)) s.r.pc
     have a3 : Lc lg 0 (push K.toaSX s.r.pc (idles K.toaSX 2 ⟨{ s with halt := false }, m⟩)) ((push K.toaSX s.r.pc (idles K.toaSX 2 ⟨{ s with halt := false }, m⟩)).mem (K.ack (jJ (K.pend m)) (push K.toaSX s.r.pc (idles K.toaSX 2 ⟨{ s with halt := false }, m⟩)).m)) := .none (hA.ack _ _) (fun h => h)
     have a4 := fC hA (x := (push K.toaSX s.r.pc (idles K.toaSX 2 ⟨{ s with halt := false }, m⟩)).mem (K.ack (jJ (K.pend m)) (push K.toaSX s.r.pc (idles K.toaSX 2 ⟨{ s with halt := false }, m⟩)).m)) 1
     exact ((((a0.trans a1).trans a2).trans a3).trans a4).trans (.none rfl (fun h => h))
    refine aCm h0 o_m key ?_ rfl (show (2 : Int) ≠ 1 by decide)
    show 1 ≤ (lg (K.idle _)).length
    rw [hA.idle, La_]
    exact Nat.le_add_left _ _
   ·obtain ⟨v, u, t, k, hv, hu, ht, hk1, hk3, ho1, ho2, ho3, ho4, ho5⟩ := aSf hA (s := { s with halt := false, soon := false }) hm hs.pc
    rw [h0, bw] at ho5
    have hr := aSH (A := K.toaSX) (s := s) (m := m) h1' (fun h hp => h2 ⟨h, hp⟩) (fun h => Decidable.byContradiction fun hp => h3 ⟨h, hp⟩) (o := (nextT K.toaSX ⟨{ s with halt := false, soon := false }, m⟩).1) (y := (nextT K.toaSX ⟨{ s with halt := false, soon := false }, m⟩).2) rfl
    rw [hr]
    generalize nextT K.toaSX ⟨{ s with halt := false, soon := false }, m⟩ = q at ho1 ho2 ho3 ho4 ho5 hr
    have ho := aOA hA (x := q.2) q.1 s.r.pc
    have hq : Lc lg (if q.1.kind = 26 then 4 else 3) q.2 (if s.soon = true ∧ q.1.kind ≠ 5 then ⟨{ (ordT K.toaSX q.1 s.r.pc q.2).2.s with ime := true }, (ordT K.toaSX q.1 s.r.pc q.2).2.m⟩ else (ordT K.toaSX q.1 s.r.pc q.2).2) := .ite (fun _ => ho.then rfl (fun h => h)) fun _ => ho
    generalize (if s.soon = true ∧ q.1.kind ≠ 5 then (⟨{ (ordT K.toaSX q.1 s.r.pc q.2).2.s with ime := true }, (ordT K.toaSX q.1 s.r.pc q.2).2.m⟩ : Rn β) else (ordT K.toaSX q.1 s.r.pc q.2).2) = y at hq
    obtain ⟨l, g1, g2, g3⟩ := hq.acc
    rw [ho5] at g1
    have hlen : (lg y.m).length = k + l.length := by
     rw [g1, La_, Lt_]
     show min k 3 + l.length = _
     omega
    have hb6 : k + l.length ≤ 6 := by
     by_cases hk : q.1.kind = 26
     ·rw [if_pos hk] at g2
      have := ho3 hk; omega
     ·rw [if_neg hk] at g2; omega
    exact ⟨y_D, rfl, .inl ⟨rfl, v, u, t, k, l, hv, hu, ht, hk1, hk3, ho1, ho2, g1, g3⟩⟩
end
def aOb : Lg dN Mm.acc := ⟨fun a m => y_ds, fun a m => y_ds, fun a x m => by
  show (if letsCp (cycleM m).cp a = true then pokeM a x (cycleM m) else cycleM m).acc ++ _ = _
  split
  ·rw [qV, cycleM_acc]
  ·rw [cycleM_acc], fun m => by show (cycleM m).acc ++ _ = _; rw [cycleM_acc], fun _ _ => rfl⟩
def aIY {R m : Mm} {D : Prop} {plan : List Chg} (hp : ∀ c ∈ plan, mX c) (h : jK R D m) : aM3 Mm.acc m.cpu (stepM plan m).1 ⟨(stepM plan m).2.cpu, (stepM plan m).2⟩ := by
 have key := aSK (K := aHR R D) (lg := Mm.acc) aOb (n := 4) h.rg (aEu hp h) rfl
 exact ⟨key.len, key.at_, key.told⟩
end Go.Proofs.YtdbgagkcgdlnnaaGreat
