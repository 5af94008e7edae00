/- Thinning, turning round, and cutting, step by step. Plain lemmas; no program. -/
import Derived.Test.YtkifhldkhemdlaaHeap
namespace Go.Proofs.Ytkifhldkhemdlaa
open Go Go.VV

theorem range_get {α : Type} : ∀ (L : List α), (List.range L.length).filterMap (L[·]?) = L
  | [] => rfl
  | x :: L => by
    rw [List.length_cons, List.range_succ_eq_map, List.filterMap_cons]
    simp only [List.getElem?_cons_zero, List.filterMap_map, Function.comp_def, List.getElem?_cons_succ]
    rw [range_get L]
/-- The entries of a heap whose front is known, by their numbers, in another order. -/
theorem St.ix {w0 w : World} {ms : List Nat} {L : Heap} (ix : List Nat) (h : St w0 ms L w) (hp : ix.isPerm (List.range L.length) = true) : St w0 ms (ix.filterMap (L[·]?)) w := h.perm (by
  have h1 := (List.isPerm_iff.1 hp).filterMap (L[·]?)
  rw [range_get] at h1
  exact h1.symm)

/-- Some of the entries, by their numbers. -/
theorem St.pick {w0 w : World} {ms : List Nat} {L : Heap} (ix : List Nat) (h : St w0 ms L w) (hp : decide ix.Nodup = true) : St w0 ms (ix.filterMap (L[·]?)) w := by
  have hp := of_decide_eq_true hp
  have hmem : ∀ x ∈ ix.filterMap (L[·]?), x ∈ L := fun x hx => by
    obtain ⟨i, _, hi⟩ := List.mem_filterMap.1 hx
    exact List.mem_of_getElem? hi
  refine ⟨h.os, h.tape, h.output, h.size, h.block, ?_, fun x hx => h.own x (hmem x hx), fun x hx => h.holds x (hmem x hx)⟩
  rw [List.map_filterMap]
  refine List.Pairwise.filterMap _ ?_ hp
  intro a a' haa b hb b' hb' hbb
  obtain ⟨x, hx, rfl⟩ := Option.map_eq_some_iff.1 hb
  obtain ⟨x', hx', rfl⟩ := Option.map_eq_some_iff.1 hb'
  obtain ⟨h1, rfl⟩ := List.getElem?_eq_some_iff.1 hx
  obtain ⟨h2, rfl⟩ := List.getElem?_eq_some_iff.1 hx'
  have hn := List.pairwise_iff_getElem.1 h.nodup
  rcases Nat.lt_trichotomy a a' with h3 | h3 | h3
  · exact hn a a' (by simpa using h1) (by simpa using h2) h3 (by simpa using hbb)
  · exact haa h3
  · exact hn a' a (by simpa using h2) (by simpa using h1) h3 (by simpa using hbb.symm)
/-- What is lent to a call. -/
theorem St.lend {w0 w : World} {ms : List Nat} {F G : Heap} (h : St w0 ms (F ++ G) w) : St w (F.map (·.1)) F w :=
  St.lent (by have := h.nodup; rw [List.map_append, List.nodup_append] at this; exact this.1) fun x hx => h.holds x (by simp [hx])

theorem putL_set (ms : List Mark) (sp : List Value) {k : Nat} (hk : k < ms.length) (x : Mark) : putL (flat cm ms ++ sp) (0 + k * 2) (cm x) = flat cm (ms.set k x) ++ sp := by
  have h1 : ms = ms.take k ++ ms[k] :: ms.drop (k + 1) := split_at hk
  have hl : (ms.take k).length = k := by rw [List.length_take]; omega
  have h2 := putL_flat cm_len (ms.take k) (ms.drop (k + 1)) ms[k] x sp
  rw [hl, ← h1] at h2
  rw [h2, List.set_eq_take_append_cons_drop, if_pos hk]
theorem set_fits (ms : List Mark) (sp : List Value) {k : Nat} (hk : k < ms.length) (x : Mark) : 0 + k * 2 + (cm x).length ≤ (flat cm ms ++ sp).length := by
  rw [List.length_append, flat_len cm_len, cm_len]; omega

/-! ### turned round -/
def Turned (ms cur : List Mark) (i : Nat) : Prop := cur.length = ms.length ∧ ∀ k, k < ms.length → cur.getD k m0 = if k < i ∨ ms.length ≤ k + i then ms.getD (ms.length - 1 - k) m0 else ms.getD k m0
theorem Turned.zero (ms : List Mark) : Turned ms ms 0 := ⟨rfl, fun k hk => by rw [if_neg (by omega)]⟩
theorem getD_set (l : List Mark) (i k : Nat) (x : Mark) (hi : i < l.length) : (l.set i x).getD k m0 = if k = i then x else l.getD k m0 := by
  simp only [List.getD_eq_getElem?_getD, List.getElem?_set]
  by_cases h : i = k
  · subst h; simp [hi]
  · rw [if_neg h, if_neg (Ne.symm h)]
theorem Turned.step {ms cur : List Mark} {i : Nat} (h : Turned ms cur i) (hi : i + i + 1 < ms.length) :
    Turned ms ((cur.set i (cur.getD (ms.length - 1 - i) m0)).set (ms.length - 1 - i) (cur.getD i m0)) (i + 1) := by
  obtain ⟨hl, hk⟩ := h
  refine ⟨by simp [hl], fun k hkl => ?_⟩
  rw [getD_set _ _ _ _ (by simp [hl]; omega), getD_set _ _ _ _ (by omega)]
  have h1 := hk i (by omega)
  have h2 := hk (ms.length - 1 - i) (by omega)
  rw [if_neg (by omega)] at h1 h2
  by_cases e1 : k = ms.length - 1 - i
  · rw [if_pos e1, if_pos (by omega), h1]; congr 1; omega
  · rw [if_neg e1]
    by_cases e2 : k = i
    · rw [if_pos e2, if_pos (by omega), h2, e2]
    · rw [if_neg e2, hk k hkl]
      by_cases e3 : k < i ∨ ms.length ≤ k + i
      · rw [if_pos e3, if_pos (by omega)]
      · rw [if_neg e3, if_neg (by omega)]
theorem Turned.last {ms cur : List Mark} {i : Nat} (h : Turned ms cur i) (hi : ms.length ≤ i + i + 1) : cur = ms.reverse := by
  obtain ⟨hl, hk⟩ := h
  apply List.ext_getElem (by simp [hl])
  intro k h1 h2
  have h3 := hk k (by omega)
  rw [List.getElem_reverse, getD_get, getD_get, h3]
  by_cases e : k < i ∨ ms.length ≤ k + i
  · rw [if_pos e]
  · rw [if_neg e]; congr 1; omega

theorem turn_law {n i : Nat} (h : i ≤ n) (hn : n < 1000000000) : IntKind.i64.wrap ((n : Int) - 1 - (i : Int) - 1) = (n : Int) - 1 - ((i + 1 : Nat) : Int) := by
  rw [wrap_i64 (by omega) (by omega)]; omega

theorem len1 {n : Nat} (h : n ≠ 0) (hn : n < 1000000000) : IntKind.i64.wrap ((n : Int) - 1) = ((n - 1 : Nat) : Int) := by
  rw [wrap_i64 (by omega) (by omega)]; omega

theorem turn_law2 {m a b : Nat} (h : b = a + 1) (ha : a < m) (hm : m < 1000000000) : IntKind.i64.wrap ((m : Int) - 1 - (a : Int) - 1) = (m : Int) - 1 - (b : Int) := by
  subst h; exact turn_law (by omega) hm

/-! ### thinned -/
/-- The marks ahead of the last one, from behind, but for the first j of these. -/
def rr (ms : List Mark) (j : Nat) : List Mark := ms.dropLast.reverse.drop j
theorem rr_cons {ms : List Mark} {j : Nat} (h : j + 1 < ms.length) : rr ms j = ms.getD (ms.length - 1 - 1 - j) m0 :: rr ms (j + 1) := by
  unfold rr
  have hl : j < ms.dropLast.reverse.length := by simp; omega
  rw [List.drop_eq_getElem_cons hl, List.getElem_reverse, List.getElem_dropLast, getD_get]
  simp only [List.length_dropLast]
theorem rr_end {ms : List Mark} {j : Nat} (h : ms.length ≤ j + 1) : rr ms j = [] := by
  unfold rr
  apply List.drop_eq_nil_of_le
  simp; omega
theorem thinL_eq {ms : List Mark} (h : ms.length ≠ 0) : thinL ms = (ms.getD (ms.length - 1) m0 :: thinR (lastT ms) (lastT ms) (rr ms 0)).reverse := by
  obtain ⟨A, a, rfl⟩ := snoc_of (l := ms) (by omega)
  simp [thinL, rr, lastT, tm]
/-- K has been kept of the last mark and j more; q: where the last one of these stands. -/
structure Kept (ms K : List Mark) (j q : Nat) : Prop where
  pos : 0 < K.length
  small : K.length ≤ j + 1
  last : K.getD (K.length - 1) m0 = ms.getD q m0
  hi : q < ms.length
  lo : ms.length ≤ q + j + 1
  rest : ms.getD (ms.length - 1) m0 :: thinR (lastT ms) (lastT ms) (rr ms 0) = K ++ thinR (lastT ms) (tm ms q) (rr ms j)
theorem Kept.zero {ms : List Mark} (h : ms.length ≠ 0) : Kept ms [ms.getD (ms.length - 1) m0] 0 (ms.length - 1) :=
  ⟨by simp, by simp, by simp, by omega, by omega, by rw [lastT_some h]; rfl⟩
theorem tm_mono {ms : List Mark} (hR : Rise ms) {i j : Nat} (hij : i ≤ j) (hj : j < ms.length) : tm ms i ≤ tm ms j := by
  rcases Nat.lt_or_ge i j with h | h
  · have := (List.pairwise_iff_getElem.1 hR.1) i j (by omega) hj h
    rw [tm_get (by omega), tm_get hj] at this; omega
  · have : i = j := by omega
    subst this; exact Int.le_refl _
theorem tm_range {ms : List Mark} (hR : Rise ms) {j : Nat} (hj : j < ms.length) : 0 ≤ tm ms j ∧ tm ms j ≤ 4611686018427387904 := by
  have := hR.2 _ (List.getElem_mem hj)
  rw [tm_get hj] at this; exact this
theorem gap_eq {ms : List Mark} (hR : Rise ms) {p q : Nat} (hpq : p ≤ q) (hq : q < ms.length) : IntKind.u64.wrap (tm ms q - tm ms p) = tm ms q - tm ms p := by
  have h1 := tm_mono hR hpq hq
  have h2 := tm_range hR hq
  have h3 := tm_range hR (j := p) (by omega)
  exact wrap_u64_id (by omega) (by omega)
theorem near_eq {ms : List Mark} (hR : Rise ms) {q : Nat} (hq : q < ms.length) : IntKind.u64.wrap (IntKind.u64.wrap (2 + lastT ms) - tm ms q) = 2 + lastT ms - tm ms q := by
  have h1 := lastT_le hR hq
  have h2 := tm_range hR hq
  have h3 := tm_range hR (j := ms.length - 1) (by omega)
  rw [lastT_some (by omega)] at h3
  rw [wrap_u64_id (n := 2 + lastT ms) (by omega) (by omega), wrap_u64_id (by omega) (by omega)]
theorem Kept.skip {ms K : List Mark} {j q : Nat} (h : Kept ms K j q) (hR : Rise ms) (hj : j + 2 < ms.length)
    (hc : decide (IntKind.u64.wrap (tm ms q - tm ms (ms.length - 1 - 1 - j - 1)) ≤ IntKind.u64.wrap (IntKind.u64.wrap (2 + lastT ms) - tm ms q)) = true) : Kept ms K (j + 1) q := by
  have hlo := h.lo
  rw [gap_eq hR (by omega) h.hi, near_eq hR h.hi, decide_eq_true_eq] at hc
  refine ⟨h.pos, by have := h.small; omega, h.last, h.hi, by omega, ?_⟩
  rw [h.rest, rr_cons (by omega), rr_cons (j := j + 1) (by omega)]
  have e : ms.length - 1 - 1 - j - 1 = ms.length - 1 - 1 - (j + 1) := by omega
  rw [e] at hc
  conv => lhs; unfold thinR
  rw [if_pos (show tm ms q - (ms.getD (ms.length - 1 - 1 - (j + 1)) m0).t ≤ _ from hc)]
theorem Kept.keep {ms K : List Mark} {j q : Nat} (h : Kept ms K j q) (hR : Rise ms) (hj : j + 1 < ms.length)
    (hc : j + 2 < ms.length → decide (IntKind.u64.wrap (tm ms q - tm ms (ms.length - 1 - 1 - j - 1)) ≤ IntKind.u64.wrap (IntKind.u64.wrap (2 + lastT ms) - tm ms q)) = false) :
    Kept ms (K ++ [ms.getD (ms.length - 1 - 1 - j) m0]) (j + 1) (ms.length - 1 - 1 - j) := by
  have hlo := h.lo
  refine ⟨by simp, by have := h.small; simp; omega, by simp, by omega, by omega, ?_⟩
  rw [h.rest, rr_cons hj]
  rcases Nat.lt_or_ge (j + 2) ms.length with h2 | h2
  · have hc := hc h2
    rw [gap_eq hR (by omega) h.hi, near_eq hR h.hi, decide_eq_false_iff_not] at hc
    rw [rr_cons (j := j + 1) (by omega)]
    have e : ms.length - 1 - 1 - j - 1 = ms.length - 1 - 1 - (j + 1) := by omega
    rw [e] at hc
    conv => lhs; unfold thinR
    rw [if_neg (show ¬ tm ms q - (ms.getD (ms.length - 1 - 1 - (j + 1)) m0).t ≤ _ from hc), List.append_assoc]
    rfl
  · rw [rr_end (j := j + 1) (by omega)]
    simp [thinR]
theorem Kept.done {ms K : List Mark} {j q : Nat} (h : Kept ms K j q) (hj : ms.length ≤ j + 1) : thinL ms = K.reverse := by
  rw [thinL_eq (by have := h.hi; omega), h.rest, rr_end hj]
  simp [thinR]
theorem Kept.behind {ms K : List Mark} {j q : Nat} (h : Kept ms K j q) : tm K (K.length - 1) = tm ms q := by
  unfold tm; rw [h.last]

theorem last_at {ms : List Mark} (h : ms.length ≠ 0) {w : World} {b off : Nat} (hr : Row w b off (flat cm ms)) : w.cell? ⟨b, off + (ms.length - 1) * 2 + 0, none⟩ = some (.int .u64 (lastT ms)) := by
  rw [← lastT_some h]; exact mark_t hr (by omega)
theorem Kept.at_ {ms K : List Mark} {j q : Nat} (h : Kept ms K j q) {w : World} {b off : Nat} (hr : Row w b off (flat cm K)) : w.cell? ⟨b, off + (K.length - 1) * 2 + 0, none⟩ = some (.int .u64 (tm ms q)) := by
  rw [← h.behind]; exact mark_t hr (by have := h.pos; omega)

/-! ### rows -/
theorem vec_some {T s : Nat} {v : Value} {n : Nat} {xs : List Value} {G : Heap} (h : Vec T s v n xs G) (hn : n ≠ 0) :
    ∃ b cap sp, v = .slice (some ⟨b, 0, none⟩) n cap ∧ G = [(b, blk (xs ++ sp) T)] ∧ (xs ++ sp).length = cap * s ∧ n ≤ cap ∧ cap ≤ maxLen := by
  cases h with
  | nil => exact absurd rfl hn
  | row b _ cap _ sp h1 h2 h3 h4 => exact ⟨b, cap, sp, rfl, rfl, h2, h4, h3⟩
theorem vec_marks {b cap : Nat} {ms : List Mark} {sp : List Value} (h2 : (flat cm ms ++ sp).length = cap * 2) (h4 : ms.length ≤ cap) (h3 : cap ≤ maxLen) :
    Vec 56 2 (.slice (some ⟨b, 0, none⟩) ms.length cap) ms.length (flat cm ms) [(b, blk (flat cm ms ++ sp) 56)] :=
  .row b _ cap _ sp (flat_len cm_len ms) h2 h3 h4
/-- A line on the heap: its two fields, and its marks. -/
def LineH (b : Nat) (cap : Int) (ms : List Mark) (H : Heap) : Prop := ∃ v G, H = (b, blk [v, .int .i64 cap] 53) :: G ∧ Vec 56 2 v ms.length (flat cm ms) G
theorem marks_some {v : Value} {ms : List Mark} {G : Heap} (h : Vec 56 2 v ms.length (flat cm ms) G) (hn : ms.length ≠ 0) :
    ∃ b cap sp, v = .slice (some ⟨b, 0, none⟩) ms.length cap ∧ G = [(b, blk (flat cm ms ++ sp) 56)] ∧ (flat cm ms ++ sp).length = cap * 2 ∧ ms.length ≤ cap ∧ cap ≤ maxLen := vec_some h hn

/-! ### the loop of 'thin' -/
/-- What the iterator's heap holds: the loop's record, the slice, its row; the rest. -/
abbrev bwH (lb bx bm m c : Nat) (rec : Loop) (ms : List Mark) (sp : List Value) (T : Heap) : Heap :=
  (lb, .loop rec) :: (bx, blk [.slice (some ⟨bm, 0, none⟩) m c] 51) :: (bm, blk (flat cm ms ++ sp) 56) :: T
structure TS where
  j : Nat
  K : List Mark
  b : Nat
  c : Nat
  sp : List Value
  q : Nat
def TS.ok (ms : List Mark) (s : TS) : Prop := Kept ms s.K s.j s.q ∧ (flat cm s.K ++ s.sp).length = s.c * 2 ∧ s.K.length ≤ s.c ∧ s.c ≤ maxLen
abbrev thinHs (b4 b3 b1 b : Nat) (lT : Int) (line : List Value) (s : TS) : Heap :=
  [(b4, blk [.slice (some ⟨s.b, 0, none⟩) s.K.length s.c] 51), (b3, blk [.int .u64 lT] 23), (b1, blk [.pointer (some ⟨b, 0, none⟩)] 25), (b, blk line 53), (s.b, blk (flat cm s.K ++ s.sp) 56)]
theorem cut0 {b c n : Nat} : Value.slice (some ⟨b, cutAt 0 0 2 c, none⟩) (n - 0) (c - 0) = .slice (some ⟨b, 0, none⟩) n c := by simp [cutAt]

/-! ### cut -/
theorem putL_right (X Y vs : List Value) {off : Nat} (h : X.length ≤ off) : putL (X ++ Y) off vs = X ++ putL Y (off - X.length) vs := by
  unfold putL
  rw [List.take_append, List.drop_append, List.take_of_length_le h, List.drop_of_length_le (by omega), List.nil_append, List.append_assoc, List.append_assoc, List.append_assoc]
  have : off + vs.length - X.length = off - X.length + vs.length := by omega
  rw [this]
theorem flat_take1 (ms : List Mark) : ms.take 1 ++ ms.drop 1 = ms := List.take_append_drop 1 ms
theorem flat_split (ms : List Mark) (j : Nat) : flat cm ms = flat cm (ms.take j) ++ flat cm (ms.drop j) := by rw [← flat_append, List.take_append_drop]
theorem src_drop {w : World} {b j c : Nat} {ms : List Mark} {sp : List Value} (hr : Row w b 0 (flat cm ms ++ sp)) (hj : j ≤ ms.length) (hc : ms.length ≤ c) : Row w b (cutAt 0 j 2 c) (flat cm (ms.drop j)) := by
  have h1 := hr.cut (l := j) (k := ms.length - j) (s := 2) (c := c) (by omega)
  have hl : (flat cm (ms.take j)).length = j * 2 := by rw [flat_len cm_len, List.length_take]; congr 1; omega
  have hl2 : (flat cm (ms.drop j)).length = (ms.length - j) * 2 := by rw [flat_len cm_len, List.length_drop]
  rw [flat_split ms j, List.append_assoc, ← hl, List.drop_left, ← hl2, List.take_left] at h1
  exact h1
theorem del_law (ms : List Mark) (sp zs : List Value) {j : Nat} (h1 : 1 ≤ ms.length) (hj : j ≤ ms.length) :
    ∃ sp', putL (putL (flat cm ms ++ sp) (1 * 2) (flat cm (ms.drop j))) ((1 + (ms.length - j)) * 2) zs = flat cm (ms.take 1 ++ ms.drop j) ++ sp' := by
  have hl : (flat cm (ms.take 1)).length = 1 * 2 := by rw [flat_len cm_len, List.length_take]; congr 1; omega
  have hl2 : (flat cm (ms.drop j)).length = (ms.length - j) * 2 := by rw [flat_len cm_len, List.length_drop]
  rw [flat_split ms 1, List.append_assoc, putL_right _ _ _ (by omega), hl, Nat.sub_self]
  have : putL (flat cm (ms.drop 1) ++ sp) 0 (flat cm (ms.drop j)) = flat cm (ms.drop j) ++ (flat cm (ms.drop 1) ++ sp).drop (0 + (flat cm (ms.drop j)).length) := by simp [putL]
  rw [this, ← List.append_assoc, ← flat_append, putL_right _ _ _ (by rw [flat_append, List.length_append, hl, hl2]; omega)]
  exact ⟨_, rfl⟩
theorem del_fits (ms : List Mark) (sp : List Value) {j : Nat} (hj : j ≤ ms.length) (h1 : 1 ≤ j) : 1 * 2 + (flat cm (ms.drop j)).length ≤ (flat cm ms ++ sp).length := by
  rw [flat_len cm_len, List.length_append, flat_len cm_len, List.length_drop]; omega
theorem cut_on {b l c n k m : Nat} (h : l < c) (hk : n - l = k) (hm : l * 2 = m) : Value.slice (some ⟨b, cutAt 0 l 2 c, none⟩) (n - l) (c - l) = .slice (some ⟨b, m, none⟩) k (c - l) := by
  rw [cutAt, if_neg (by omega), hk, Nat.zero_add, hm]
theorem ones_flat (ms : List Mark) : ones (flat cm ms) = true := by
  refine List.all_eq_true.2 fun x hx => ?_
  obtain ⟨m, _, hm⟩ := List.mem_flatMap.1 hx
  simp only [cm, List.mem_cons, List.not_mem_nil, or_false] at hm
  rcases hm with rfl | rfl <;> rfl

/-! ### one more -/
theorem rise_snoc {ms : List Mark} {mk : Mark} (h : Rise ms) (h0 : 0 ≤ mk.t) (h1 : mk.t ≤ 4611686018427387904) (hl : ms.length ≠ 0 → lastT ms < mk.t) : Rise (ms ++ [mk]) := by
  refine ⟨List.pairwise_append.2 ⟨h.1, by simp, ?_⟩, ?_⟩
  · intro a ha b hb
    have : b = mk := by simpa using hb
    subst this
    obtain ⟨k, hk, rfl⟩ := List.getElem_of_mem ha
    have h2 := lastT_le h hk
    have := hl (by omega)
    rw [tm_get hk]; omega
  · intro m hm
    rcases List.mem_append.1 hm with hm | hm
    · exact h.2 m hm
    · have : m = mk := by simpa using hm
      subst this; exact ⟨h0, h1⟩
/-- What is answered. -/
def addErr (ms : List Mark) (t : Int) : Int := if 4611686018427387904 < t then 1 else if ms.length = 0 then (if t = 0 then 0 else 1) else if t ≤ lastT ms then 10 else 0
def addM (cap : Nat) (ms : List Mark) (mk : Mark) : List Mark := cutL cap (thinL (ms ++ [mk]))
theorem thinL_pos {ms : List Mark} (h : ms.length ≠ 0) : 1 ≤ (thinL ms).length := by rw [thinL_eq h]; simp
theorem thinL_le (ms : List Mark) : (thinL ms).length ≤ ms.length := (thinL_sub ms).length_le
theorem cutL_all {cap : Nat} {ms : List Mark} (h : ms.length ≤ cap) : cutL cap ms = ms := by
  rw [cutL, show ms.length - cap = 0 by omega, Nat.add_zero, List.take_append_drop]
theorem addErr_far {ms : List Mark} {t : Int} (h : 4611686018427387904 < t) : addErr ms t = 1 := by simp [addErr, h]
theorem addErr_first {ms : List Mark} {t : Int} (h : ¬ 4611686018427387904 < t) (hz : ms.length = 0) (ht : t ≠ 0) : addErr ms t = 1 := by simp [addErr, h, hz, ht]
theorem addErr_same {ms : List Mark} {t : Int} (h : ¬ 4611686018427387904 < t) (hz : ms.length ≠ 0) (ht : t ≤ lastT ms) : addErr ms t = 10 := by simp [addErr, h, hz, ht]
theorem addErr_ok {ms : List Mark} {t : Int} (h : ¬ 4611686018427387904 < t) (h2 : ms.length = 0 → t = 0) (h3 : ms.length ≠ 0 → ¬ t ≤ lastT ms) : addErr ms t = 0 := by
  unfold addErr
  rw [if_neg h]
  split
  · rw [if_pos (h2 ‹_›)]
  · rw [if_neg (h3 ‹_›)]

/-- Bytes that can be read, in none of the blocks 'bs'. -/
def BytS (w : World) (bs : List Nat) (a : Option Addr) (l : List Int) : Prop := (a = none ∧ l = []) ∨ ∃ b off, a = some ⟨b, off, none⟩ ∧ b ∉ bs ∧ Row w b off (l.map (.int .u8))
theorem BytS.later {w0 w : World} {bs : List Nat} {H : Heap} {a : Option Addr} {l : List Int} (h : BytS w0 bs a l) (hw : St w0 bs H w) : BytW w a l := by
  rcases h with h | ⟨b, off, ha, hb, hr⟩
  · exact .inl h
  · exact .inr ⟨b, off, ha, row_old hr hb w hw⟩
theorem LineH.lineW {b : Nat} {cap : Int} {ms : List Mark} {G H : Heap} {w0 w : World} {bs : List Nat} (h : LineH b cap ms G) (hw : St w0 bs H w) (hs : ∀ x ∈ G, x ∈ H) : LineW w b cap ms := by
  obtain ⟨v, G', rfl, hV⟩ := h
  obtain ⟨a, c, rfl, hl, hc, hE⟩ := hV.gives cm_len (by decide)
  refine ⟨a, c, ?_, hc, ?_, hE.els hw fun x hx => hs x (.tail _ hx)⟩
  · rw [cell_blk (hw.holds _ (hs _ (.head _)))]; rfl
  · rw [cell_blk (hw.holds _ (hs _ (.head _)))]; rfl
/-- What an addition leaves. -/
def Added (b : Nat) (cap : Int) (ms : List Mark) (t : Int) (l : List Int) (G : Heap) (v : Value) (H : Heap) : Prop :=
  v = .int .i64 (addErr ms t) ∧ ((addErr ms t ≠ 0 ∧ H = G) ∨ (addErr ms t = 0 ∧ ∃ mk G' D', mk.t = t ∧ mk.l = l ∧ mk.l.length ≤ mk.c ∧ H = G' ++ D' ∧ LineH b cap (addM cap.toNat ms mk) G' ∧ Byt l (.slice mk.a l.length mk.c) D'))
theorem line_cut {b b9 c9 : Nat} {cap : Int} {ms tt : List Mark} {mk : Mark} {sp8 : List Value} (hT : thinL (ms ++ [mk]) = tt) (ho : cap.toNat < tt.length) (h2 : 1 ≤ cap.toNat) (hcl : tt.length ≤ c9) (hmx : c9 ≤ maxLen)
    (hsp : (flat cm (tt.take 1 ++ tt.drop (1 + (tt.length - cap.toNat))) ++ sp8).length = c9 * 2) :
    LineH b cap (addM cap.toNat ms mk) [(b, blk [.slice (some ⟨b9, 0, none⟩) (1 + (tt.length - (1 + (tt.length - cap.toNat)))) c9, .int .i64 cap] 53), (b9, blk (flat cm (tt.take 1 ++ tt.drop (1 + (tt.length - cap.toNat))) ++ sp8) 56)] := by
  have hl : (tt.take 1 ++ tt.drop (1 + (tt.length - cap.toNat))).length = 1 + (tt.length - (1 + (tt.length - cap.toNat))) := by
    rw [List.length_append, List.length_take, List.length_drop]; omega
  refine ⟨_, _, rfl, ?_⟩
  unfold addM cutL
  rw [hT, ← hl]
  exact vec_marks hsp (by rw [hl]; omega) hmx
end Go.Proofs.Ytkifhldkhemdlaa
