/- How far apart the marks are that stay, and how many there are. Plain lemmas; no program. -/
import Derived.Test.YtkifhldkhemdlaaRef
namespace Go.Proofs.Ytkifhldkhemdlaa
open Go Go.VV

/-- From behind: each one is near enough to the one ahead of it. -/
def GapR (n : Int) : List Mark → Prop
  | m :: p :: r => m.t - p.t ≤ 2 + n - m.t ∧ GapR n (p :: r)
  | _ => True
theorem GapR.thin {n : Int} : ∀ {r : List Mark} {z : Mark}, GapR n (z :: r) → GapR n (z :: thinR n z.t r)
  | [], _, _ => trivial
  | [m], _, h => h
  | m :: p :: r, z, h => by
    unfold thinR
    split
    · rename_i hc
      exact GapR.thin (r := p :: r) ⟨hc, h.2.2⟩
    · exact ⟨h.1, GapR.thin (r := p :: r) h.2⟩
theorem GapR.more {n : Int} : ∀ {r : List Mark}, GapR n r → GapR (n + 1) r
  | [], _ => trivial
  | [_], _ => trivial
  | m :: p :: r, h => ⟨by have := h.1; omega, GapR.more (r := p :: r) h.2⟩
theorem GapR.get {n : Int} : ∀ {L : List Mark}, GapR n L → ∀ i, i + 1 < L.length → tm L i - tm L (i + 1) ≤ 2 + n - tm L i
  | [], _, i, h => by simp at h
  | [_], _, i, h => by simp at h
  | m :: p :: r, h, 0, _ => h.1
  | m :: p :: r, h, i + 1, hi => by
    have := GapR.get (L := p :: r) h.2 i (by simpa using hi)
    simpa [tm] using this
theorem tm_rev (ms : List Mark) {i : Nat} (h : i < ms.length) : tm ms.reverse i = tm ms (ms.length - 1 - i) := by
  rw [← tm_get (by simpa using h), ← tm_get (by omega), List.getElem_reverse]

/-- Of any three the first one is far from the last one. -/
def Trip (n : Int) (ms : List Mark) : Prop := ∀ x y z : Mark, [x, y, z].Sublist ms → 2 + n - z.t < z.t - x.t
theorem Trip.sub {n : Int} {a b : List Mark} (h : Trip n b) (hs : a.Sublist b) : Trip n a := fun x y z h3 => h x y z (h3.trans hs)
theorem three {n : Int} : ∀ {r : List Mark} {z : Mark}, (z :: r).Pairwise (fun x y => y.t < x.t) → ∀ x y w, [x, y, w].Sublist (z :: thinR n z.t r) → 2 + n - x.t < x.t - w.t
  | [], _, _, x, y, w, h => by have := h.length_le; simp [thinR] at this
  | [m], _, _, x, y, w, h => by have := h.length_le; simp [thinR] at this
  | m :: p :: r, z, hd, x, y, w, h => by
    have hd2 := (List.pairwise_cons.1 hd).2
    unfold thinR at h
    split at h
    · refine three (r := p :: r) ?_ x y w h
      exact hd.sublist ((List.sublist_cons_self _ _).cons_cons z)
    · rename_i hc
      cases h with
      | cons _ h1 => exact three (r := p :: r) hd2 x y w h1
      | cons_cons _ h1 =>
        have hw : w ∈ thinR n m.t (p :: r) := by
          cases h1 with
          | cons _ h2 => exact h2.subset (by simp)
          | cons_cons _ h2 => exact h2.subset (by simp)
        have hw2 := (thinR_sub n (p :: r) m.t).subset hw
        have hwp : w.t ≤ p.t := by
          rcases List.mem_cons.1 hw2 with rfl | h3
          · exact Int.le_refl _
          · have := (List.pairwise_cons.1 (List.pairwise_cons.1 hd2).2).1 w h3
            omega
        omega
theorem thinL_eq2 (ms : List Mark) (mk : Mark) : (thinL (ms ++ [mk])).reverse = mk :: thinR mk.t mk.t ms.reverse := by
  unfold thinL
  rw [List.reverse_append]
  simp
theorem trip_thin {ms : List Mark} {mk : Mark} (hR : Rise (ms ++ [mk])) : Trip mk.t (thinL (ms ++ [mk])) := fun x y z h => by
  have h2 : [z, y, x].Sublist (thinL (ms ++ [mk])).reverse := by
    have := h.reverse
    simpa using this
  rw [thinL_eq2] at h2
  refine three ?_ z y x h2
  have := List.pairwise_reverse.2 hR.1
  simpa using this
theorem trip_at {n : Int} {ms : List Mark} (h : Trip n ms) {i : Nat} (hi : i + 2 < ms.length) : 2 + n - tm ms (i + 2) < tm ms (i + 2) - tm ms i := by
  have hs : [ms[i], ms[i+1], ms[i+2]].Sublist ms := by
    have e : ms = ms.take i ++ ms[i] :: ms[i+1] :: ms[i+2] :: ms.drop (i + 3) := by
      rw [List.getElem_cons_drop, List.getElem_cons_drop, List.getElem_cons_drop, List.take_append_drop]
    have h3 : [ms[i], ms[i+1], ms[i+2]].Sublist (ms[i] :: ms[i+1] :: ms[i+2] :: ms.drop (i + 3)) := by
      exact ((((List.nil_sublist _).cons_cons _).cons_cons _).cons_cons _)
    have h4 := h3.trans (List.sublist_append_right (ms.take i) _)
    rwa [← e] at h4
  have := h _ _ _ hs
  rw [tm_get, tm_get] at this
  exact this
/-- So there are few. -/
theorem trip_pow {n : Int} {ms : List Mark} (h : Trip n ms) (hl : lastT ms = n) (h0 : 0 < ms.length) : ∀ j, 2 * j < ms.length → 3 * (2 : Int) ^ j - 3 ≤ n - tm ms (ms.length - 1 - 2 * j)
  | 0, _ => by
    have := lastT_some (ms := ms) (by omega)
    simp only [Nat.mul_zero, Nat.sub_zero, this, hl]; omega
  | j + 1, hj => by
    have ih := trip_pow h hl h0 j (by omega)
    have h1 := trip_at h (i := ms.length - 1 - 2 * (j + 1)) (by omega)
    rw [show ms.length - 1 - 2 * (j + 1) + 2 = ms.length - 1 - 2 * j by omega] at h1
    have : (2 : Int) ^ (j + 1) = 2 * 2 ^ j := by rw [Int.pow_succ]; omega
    omega
/-- How many bits. -/
def blen : Nat → Nat
  | 0 => 0
  | k + 1 => 1 + blen ((k + 1) / 2)
theorem blen_zero : blen 0 = 0 := by rw [blen]
theorem blen_pos {k : Nat} (h : 0 < k) : blen k = 1 + blen (k / 2) := by
  obtain ⟨m, rfl⟩ : ∃ m, k = m + 1 := ⟨k - 1, by omega⟩
  rw [blen]
theorem blen_lt : ∀ k : Nat, k < 2 ^ blen k := by
  intro k
  induction k using Nat.strongRecOn with
  | _ k ih =>
    rcases Nat.eq_zero_or_pos k with h | h
    · subst h; simp [blen]
    · have := ih (k / 2) (by omega)
      rw [blen_pos h, Nat.add_comm, Nat.pow_succ]
      omega
theorem blen_le : ∀ k : Nat, blen k ≤ k := by
  intro k
  induction k using Nat.strongRecOn with
  | _ k ih =>
    rcases Nat.eq_zero_or_pos k with h | h
    · subst h; simp [blen]
    · have := ih (k / 2) (by omega)
      rw [blen_pos h]; omega
theorem few {ms : List Mark} {N : Nat} (h : Trip (N : Int) ms) (hR : Rise ms) (hl : lastT ms = N) (h0 : 0 < ms.length) : ms.length ≤ 4 + 2 * blen (N + 2) := by
  rcases Nat.lt_or_ge (4 + 2 * blen (N + 2)) ms.length with h1 | h1
  · exfalso
    have h2 := trip_pow h hl h0 (blen (N + 2) + 2) (by omega)
    have h3 := blen_lt (N + 2)
    have h4 : 0 ≤ tm ms (ms.length - 1 - 2 * (blen (N + 2) + 2)) := by
      rw [← tm_get (by omega)]
      exact (hR.2 _ (List.getElem_mem _)).1
    have h5 : (2 : Int) ^ (blen (N + 2) + 2) = 4 * 2 ^ blen (N + 2) := by rw [Int.pow_succ, Int.pow_succ]; omega
    have h6 : ((2 ^ blen (N + 2) : Nat) : Int) = (2 : Int) ^ blen (N + 2) := by simp
    omega
  · exact h1

/-! ### marks laid one by one -/
structure CJ (b b2 : Nat) (cap : Int) (k : Nat) (ms ws : List Mark) (lack : Bool) (G G2 D : Heap) : Prop where
  pj : PJ b b2 cap k ms ws lack G G2 D
  zero : k = 0 → ms = []
  more : 0 < k → 0 < ms.length ∧ tm ms 0 = 0 ∧ lastT ms = (k : Int) - 1
  gap : lack = false → GapR ((k : Int) - 1) ms.reverse
  trip : Trip ((k : Int) - 1) ms
theorem CJ.start (b b2 : Nat) (cap : Int) : CJ b b2 cap 0 [] [] false [(b, blk [.slice none 0 0, .int .i64 cap] 53)] [(b2, blk [.slice none 0 0, .int .i64 cap, .bool false] 47)] [] :=
  ⟨PJ.start b b2 cap, fun _ => rfl, fun h => (by omega), fun _ => trivial, fun x y z h => by have := h.length_le; simp at this⟩
theorem CJ.ok {b b2 : Nat} {cap : Int} {k : Nat} {ms ws : List Mark} {lack : Bool} {G G2 D : Heap} (h : CJ b b2 cap k ms ws lack G G2 D) (hk : k < 1000000) : addErr ms k = 0 := by
  rcases Nat.eq_zero_or_pos k with hz | hz
  · have := h.zero hz
    exact addErr_ok (by omega) (fun _ => by omega) (fun hl => by rw [this] at hl; simp at hl)
  · have := h.more hz
    exact addErr_ok (by omega) (fun _ => by omega) (fun _ => by omega)
theorem CJ.step {b b2 : Nat} {cap : Int} {k : Nat} {ms ws : List Mark} {lack : Bool} {G G2 D G' G2' D1 D2 : Heap} {mk mk' : Mark} (h : CJ b b2 cap k ms ws lack G G2 D) (hk : k < 1000000) (hc : 2 ≤ cap)
    (e1 : mk.t = k) (e2 : mk'.t = k) (f1 : mk.l = []) (f2 : mk'.l = []) (g1 : mk.l.length ≤ mk.c) (g2 : mk'.l.length ≤ mk'.c)
    (hL : LineH b cap (addM cap.toNat ms mk) G') (hL2 : RLineH b2 cap (lack || decide (cap.toNat < (thinL (ws ++ [mk'])).length)) (addM cap.toNat ws mk') G2') (hB : Byt [] (.slice mk.a 0 mk.c) D1) (hB2 : Byt [] (.slice mk'.a 0 mk'.c) D2) :
    CJ b b2 cap (k + 1) (addM cap.toNat ms mk) (addM cap.toNat ws mk') (lack || decide (cap.toNat < (thinL (ws ++ [mk'])).length)) G' G2' (D2 ++ (D1 ++ D)) := by
  have herr := h.ok hk
  have hR := addErr_rise (mk := mk) h.pj.rise (by omega) (by rw [e1]; exact herr)
  have hk1 : ((k + 1 : Nat) : Int) - 1 = mk.t := by omega
  refine ⟨(h.pj.step hc (by omega) herr e1 e2 f1 f2 (by simp) g1 g2 hL hL2 hB hB2).stay (by omega), fun h0 => (by omega), fun _ => ?_, fun hlk => ?_, ?_⟩
  · rcases Nat.eq_zero_or_pos k with hz | hz
    · rw [h.zero hz, addM_one (by omega)]
      exact ⟨by simp, by simp [tm]; omega, by rw [show [mk] = [] ++ [mk] from rfl, lastT_snoc, hk1]⟩
    · obtain ⟨h3, h4, h5⟩ := h.more hz
      cases ms with
      | nil => simp at h3
      | cons x A =>
        obtain ⟨B, hB2⟩ := addM_ends (cap := cap.toNat) (by omega) x A mk
        rw [hB2]
        rw [tm_cons] at h4
        exact ⟨by simp, by rw [List.cons_append, tm_cons]; exact h4, by rw [lastT_snoc, hk1]⟩
  · rw [Bool.or_eq_false_iff, decide_eq_false_iff_not] at hlk
    have htw := (thinL_tw (h.pj.tw.app (Tw.one (e1.trans e2.symm) (f1.trans f2.symm)))).len
    unfold addM
    rw [cutL_all (by omega), thinL_eq2, hk1]
    refine GapR.thin ?_
    have hg := (h.gap hlk.1).more
    rw [show (k : Int) - 1 + 1 = mk.t by omega] at hg
    rcases Nat.eq_zero_or_pos k with hz | hz
    · rw [h.zero hz]; trivial
    · obtain ⟨h3, _, h5⟩ := h.more hz
      obtain ⟨A, a, rfl⟩ := snoc_of h3
      rw [lastT_snoc] at h5
      rw [List.reverse_append] at hg ⊢
      exact ⟨by omega, hg⟩
  · rw [hk1]
    exact (trip_thin hR).sub (cutL_sub _ _)
section
variable {b b2 : Nat} {cap : Int} {N : Nat} {ms ws : List Mark} {lack : Bool} {G G2 D : Heap}
theorem CJ.few (h : CJ b b2 cap (N + 1) ms ws lack G G2 D) : ms.length ≤ 4 + 2 * blen (N + 2) := by
  obtain ⟨h1, _, h3⟩ := h.more (by omega)
  have ht := h.trip
  rw [show ((N + 1 : Nat) : Int) - 1 = N by omega] at ht h3
  exact Go.Proofs.Ytkifhldkhemdlaa.few ht h.pj.rise h3 h1
theorem CJ.bef0 (h : CJ b b2 cap (N + 1) ms ws lack G G2 D) (k : Nat) : 0 ≤ bef ms k := by
  obtain ⟨h1, h2, _⟩ := h.more (by omega)
  exact bef_nn h.pj.rise h1 h2 (by omega)
theorem CJ.cost (h : CJ b b2 cap (N + 1) ms ws lack G G2 D) {k : Nat} (hk : k ≤ N) : costI ms k ≤ k ∧ 0 ≤ costI ms k ∧ (lack = false → costI ms k ≤ max 1 ((N : Int) - k)) := by
  have hb := h.bef0 k
  obtain ⟨h1, h2, h3⟩ := h.more (by omega)
  obtain ⟨t1, t2, t3, t4⟩ := bef_time h.pj.rise (x := k) (by omega)
  rw [costI, if_neg (by omega)]
  refine ⟨by omega, by omega, fun hlk => ?_⟩
  obtain ⟨hl1, hl2⟩ := bef_lt (ms := ms) (x := k) (by omega)
  rw [befM_tm hb]
  rcases Nat.lt_or_ge ((bef ms k).toNat + 1) ms.length with h5 | h5
  · have hg := (h.gap hlk).get (ms.length - 1 - ((bef ms k).toNat + 1)) (by rw [List.length_reverse]; omega)
    rw [tm_rev ms (by omega), tm_rev ms (by omega)] at hg
    rw [show ms.length - 1 - (ms.length - 1 - ((bef ms k).toNat + 1)) = (bef ms k).toNat + 1 by omega, show ms.length - 1 - (ms.length - 1 - ((bef ms k).toNat + 1) + 1) = (bef ms k).toNat by omega] at hg
    have h6 : ¬ tm ms ((bef ms k).toNat + 1) ≤ k := fun hle => by
      have := (cntLe_iff h.pj.rise.1 k h5).1 (by rw [tm_get]; exact hle)
      unfold bef at hb hl2 this
      omega
    omega
  · have h6 : (bef ms k).toNat = ms.length - 1 := by omega
    rw [h6, lastT_some (by omega)]
    omega
end
end Go.Proofs.Ytkifhldkhemdlaa
