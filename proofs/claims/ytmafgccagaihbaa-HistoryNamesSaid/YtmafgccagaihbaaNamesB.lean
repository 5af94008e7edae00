/- Names of places: what is found, what is laid. Plain lists. -/
import Derived.Test.YtmafgccagaihbaaNames
import Derived.Test.YtmafgccagaihbaaVvV
namespace Go.Proofs.Ytmafgccagaihbaa
open Go Go.VV

def AtOk (x : Nm) : Prop := 0 ≤ x.at_ ∧ x.at_ < 65536
def key (x : Nm) : Int := x.bank * 65536 + x.at_
def keyB (bank at_ : Int) : Int := bank * 65536 + at_
theorem ones_N (x : Nm) : ones (cN x) = true := rfl
def cmpI (a b : Int) : Int := if a < b then -1 else if b < a then 1 else 0
theorem cmp_lt {a b : Int} (h : a < b) : cmpI a b = -1 := by unfold cmpI; rw [if_pos h]
theorem cmp_gt {a b : Int} (h : b < a) : cmpI a b = 1 := by unfold cmpI; rw [if_neg (by omega), if_pos h]
theorem cmp_eq {a b : Int} (h : a = b) : cmpI a b = 0 := by unfold cmpI; rw [if_neg (by omega), if_neg (by omega)]
theorem key_cmp {x y : Nm} (hx : AtOk x) (hy : AtOk y) : (if cmpI x.bank y.bank ≠ 0 then cmpI x.bank y.bank else cmpI x.at_ y.at_) = cmpI (key x) (key y) := by
  unfold AtOk at hx hy
  rcases Int.lt_trichotomy x.bank y.bank with h | h | h
  · rw [cmp_lt h, if_pos (by decide), cmp_lt (by unfold key; omega)]
  · rw [cmp_eq h, if_neg (by decide)]
    rcases Int.lt_trichotomy x.at_ y.at_ with h2 | h2 | h2
    · rw [cmp_lt h2, cmp_lt (by unfold key; omega)]
    · rw [cmp_eq h2, cmp_eq (by unfold key; omega)]
    · rw [cmp_gt h2, cmp_gt (by unfold key; omega)]
  · rw [cmp_gt h, if_pos (by decide), cmp_gt (by unfold key; omega)]

abbrev Srt (P : List Nm) : Prop := P.Pairwise fun a b => key a < key b
def cnt : List Nm → Int → Nat
  | [], _ => 0
  | x :: P, t => if key x < t then cnt P t + 1 else 0
theorem cnt_le : ∀ (P : List Nm) (t : Int), cnt P t ≤ P.length
  | [], _ => Nat.le_refl 0
  | x :: P, t => by
    have := cnt_le P t
    unfold cnt
    split <;> simp <;> omega
theorem cnt_iff : ∀ {P : List Nm} {t : Int}, Srt P → ∀ {k : Nat} {y : Nm}, P[k]? = some y → (key y < t ↔ k < cnt P t)
  | [], _, _, k, y, h => by simp at h
  | x :: P, t, hs, 0, y, h => by
    simp only [List.getElem?_cons_zero, Option.some.injEq] at h
    subst h
    unfold cnt
    split <;> simp_all
  | x :: P, t, hs, k + 1, y, h => by
    rw [List.getElem?_cons_succ] at h
    have hs' := List.pairwise_cons.1 hs
    have ih := cnt_iff (t := t) hs'.2 h
    have hxy := hs'.1 y (List.mem_of_getElem? h)
    unfold cnt
    split
    · rw [ih]; omega
    · constructor
      · intro h2; omega
      · intro h2; omega
def fnd (P : List Nm) (t : Int) : Bool := match P[cnt P t]? with
  | some y => key y == t
  | none => false
theorem fnd_no {P : List Nm} {t : Int} (h : P.length ≤ cnt P t) : fnd P t = false := by unfold fnd; rw [List.getElem?_eq_none h]
theorem fnd_at {P : List Nm} {t : Int} {y : Nm} (h : P[cnt P t]? = some y) : fnd P t = (key y == t) := by unfold fnd; rw [h]
theorem fnd_iff {P : List Nm} {t : Int} (hs : Srt P) : fnd P t = true ↔ ∃ y ∈ P, key y = t := by
  constructor
  · intro h
    unfold fnd at h
    split at h
    · rename_i y hy; exact ⟨y, List.mem_of_getElem? hy, by simpa using h⟩
    · cases h
  · rintro ⟨y, hy, rfl⟩
    obtain ⟨k, hk⟩ := List.getElem?_of_mem hy
    have h1 := (not_congr (cnt_iff (t := key y) hs hk)).1 (by omega)
    have h2 : k ≤ cnt P (key y) := by
      rcases Nat.lt_or_ge (cnt P (key y)) k with h3 | h3
      · have hlt : cnt P (key y) < P.length := by
          have := (List.getElem?_eq_some_iff.1 hk).1; omega
        have h4 := (not_congr (cnt_iff (t := key y) hs (get_some hlt))).2 (by omega)
        have hk2 := List.getElem?_eq_some_iff.1 hk
        have h5 := List.pairwise_iff_getElem.1 hs _ _ hlt hk2.1 h3
        rw [hk2.2] at h5
        omega
      · exact h3
    have : k = cnt P (key y) := by omega
    subst this
    rw [fnd_at hk]; simp
def ins (P : List Nm) (x : Nm) : List Nm := P.take (cnt P (key x)) ++ x :: P.drop (cnt P (key x))
theorem ins_len (P : List Nm) (x : Nm) : (ins P x).length = P.length + 1 := by
  have := cnt_le P (key x)
  simp [ins]; omega
theorem ins_perm (P : List Nm) (x : Nm) : (ins P x).Perm (x :: P) := by
  unfold ins
  refine List.perm_middle.trans ?_
  rw [List.take_append_drop]
theorem take_lt {P : List Nm} {t : Int} (hs : Srt P) : ∀ y ∈ P.take (cnt P t), key y < t := fun y hy => by
  obtain ⟨k, hk⟩ := List.getElem?_of_mem hy
  rw [List.getElem?_take] at hk
  split at hk
  · rename_i h; exact (cnt_iff hs hk).2 h
  · cases hk
theorem drop_ge {P : List Nm} {t : Int} (hs : Srt P) : ∀ y ∈ P.drop (cnt P t), ¬ key y < t := fun y hy => by
  obtain ⟨k, hk⟩ := List.getElem?_of_mem hy
  rw [List.getElem?_drop] at hk
  exact (not_congr (cnt_iff hs hk)).2 (by omega)
theorem ins_srt {P : List Nm} {x : Nm} (hs : Srt P) (hf : fnd P (key x) = false) : Srt (ins P x) := by
  have h1 := take_lt (t := key x) hs
  have h2 := drop_ge (t := key x) hs
  have hno : ∀ y ∈ P, key y ≠ key x := fun y hy h => by
    have := (fnd_iff (t := key x) hs).2 ⟨y, hy, h⟩
    rw [hf] at this; cases this
  unfold ins
  rw [Srt, List.pairwise_append]
  refine ⟨hs.sublist (List.take_sublist _ _), ?_, ?_⟩
  · rw [List.pairwise_cons]
    refine ⟨fun y hy => ?_, hs.sublist (List.drop_sublist _ _)⟩
    have := h2 y hy
    have := hno y (List.mem_of_mem_drop hy)
    omega
  · intro a ha b hb
    have := h1 a ha
    rcases List.mem_cons.1 hb with rfl | hb
    · exact this
    · have := h2 b hb; omega

/-! ### the document's list -/
def badN (x : Nm) : Bool := decide (x.name.size < 1) || decide (x.name.size > 16) || decide (x.bank < 0) || decide (x.bank ≥ 512)
def addE (P : List Nm) (x : Nm) : Int := if badN x = true then 1 else if fnd P (key x) = true then 10 else if P.length ≥ 64 then 8 else 0
def addP (P : List Nm) (x : Nm) : List Nm := if addE P x = 0 then ins P x else P
def addW (W : List Nm) (x : Nm) (e : Int) : List Nm := if e = 0 then W ++ [x] else W
structure Tw (P W : List Nm) : Prop where
  srt : Srt P
  perm : P.Perm W
  ok : ∀ y ∈ P, AtOk y
  len : P.length ≤ 64
theorem Tw.start : Tw [] [] := ⟨List.Pairwise.nil, .refl _, (fun _ h => by cases h), Nat.zero_le _⟩
theorem Tw.step {P W : List Nm} (h : Tw P W) {x : Nm} (hx : AtOk x) : Tw (addP P x) (addW W x (addE P x)) := by
  unfold addP addW
  by_cases he : addE P x = 0
  · rw [if_pos he, if_pos he]
    have hf : fnd P (key x) = false ∧ ¬ P.length ≥ 64 := by
      unfold addE at he
      split at he
      · omega
      · split at he
        · omega
        · split at he
          · omega
          · rename_i h2 h3; exact ⟨by simpa using h2, h3⟩
    refine ⟨ins_srt h.srt hf.1, ?_, ?_, ?_⟩
    · exact (ins_perm P x).trans ((h.perm.cons x).trans (List.perm_append_comm (l₁ := [x])))
    · intro y hy
      rcases List.mem_cons.1 ((ins_perm P x).mem_iff.1 hy) with rfl | hy
      · exact hx
      · exact h.ok y hy
    · rw [ins_len]; omega
  · rw [if_neg he, if_neg he]; exact h
theorem Tw.key_inj {P W : List Nm} (h : Tw P W) {x y : Nm} (hx : x ∈ P) (hy : y ∈ P) (hk : key x = key y) : x = y := by
  obtain ⟨i, hi⟩ := List.getElem?_of_mem hx
  obtain ⟨j, hj⟩ := List.getElem?_of_mem hy
  obtain ⟨hi1, hi2⟩ := List.getElem?_eq_some_iff.1 hi
  obtain ⟨hj1, hj2⟩ := List.getElem?_eq_some_iff.1 hj
  rcases Nat.lt_trichotomy i j with h1 | h1 | h1
  · have := List.pairwise_iff_getElem.1 h.srt _ _ hi1 hj1 h1
    rw [hi2, hj2] at this; omega
  · subst h1; rw [← hi2, ← hj2]
  · have := List.pairwise_iff_getElem.1 h.srt _ _ hj1 hi1 h1
    rw [hi2, hj2] at this; omega
/-- Which element is told: below 0: none. -/
def idxN (P : List Nm) (bank at_ : Int) : Int := if fnd P (keyB bank at_) = true then (cnt P (keyB bank at_) : Int) else (cnt P (keyB bank at_) : Int) - 1
def findN (P : List Nm) (bank at_ : Int) : Option Nm := if idxN P bank at_ < 0 then none else match P[(idxN P bank at_).toNat]? with
  | some y => if y.bank = bank then some y else none
  | none => none
def Cand (bank at_ : Int) (y : Nm) : Prop := y.bank = bank ∧ y.at_ ≤ at_
/-- The best one of some. -/
def Best (l : List Nm) (bank at_ : Int) (o : Option Nm) : Prop := match o with
  | none => ∀ y ∈ l, ¬ Cand bank at_ y
  | some z => z ∈ l ∧ Cand bank at_ z ∧ ∀ y ∈ l, Cand bank at_ y → y.at_ ≤ z.at_
theorem idx_lt {P : List Nm} (bank at_ : Int) : (idxN P bank at_).toNat < P.length ∨ idxN P bank at_ < 0 := by
  have h1 := cnt_le P (keyB bank at_)
  unfold idxN
  by_cases hf : fnd P (keyB bank at_) = true
  · rw [if_pos hf]
    left
    rcases Nat.lt_or_ge (cnt P (keyB bank at_)) P.length with h2 | h2
    · omega
    · rw [fnd_no h2] at hf; cases hf
  · rw [if_neg hf]; omega
theorem find_best {P W : List Nm} (h : Tw P W) {bank at_ : Int} (ha : 0 ≤ at_ ∧ at_ < 65536) : Best P bank at_ (findN P bank at_) := by
  -- an element is no further than the place just if it stands no further than the index
  have key1 : ∀ (k : Nat) (y : Nm), P[k]? = some y → (key y ≤ keyB bank at_ ↔ (k : Int) ≤ idxN P bank at_) := fun k y hy => by
    have h1 := cnt_iff (t := keyB bank at_) h.srt hy
    unfold idxN
    by_cases hf : fnd P (keyB bank at_) = true
    · rw [if_pos hf]
      have hlt : cnt P (keyB bank at_) < P.length := by
        rcases Nat.lt_or_ge (cnt P (keyB bank at_)) P.length with h2 | h2
        · exact h2
        · rw [fnd_no h2] at hf; cases hf
      have hz := get_some hlt
      rw [fnd_at hz] at hf
      have hzk : key P[cnt P (keyB bank at_)] = keyB bank at_ := by simpa using hf
      constructor
      · intro hle
        by_cases he : key y = keyB bank at_
        · have := h.key_inj (List.mem_of_getElem? hy) (List.getElem_mem hlt) (by rw [he, hzk])
          rcases Nat.lt_trichotomy k (cnt P (keyB bank at_)) with h3 | h3 | h3
          · omega
          · omega
          · have hk2 := List.getElem?_eq_some_iff.1 hy
            have h5 := List.pairwise_iff_getElem.1 h.srt _ _ hlt hk2.1 h3
            rw [hk2.2] at h5; omega
        · have := h1.1 (by omega); omega
      · intro hle
        rcases Nat.lt_or_ge k (cnt P (keyB bank at_)) with h3 | h3
        · have := h1.2 h3; omega
        · have : k = cnt P (keyB bank at_) := by omega
          subst this
          rw [hz] at hy
          cases hy
          omega
    · rw [if_neg hf]
      constructor
      · intro hle
        have hne : key y ≠ keyB bank at_ := fun he => hf ((fnd_iff h.srt).2 ⟨y, List.mem_of_getElem? hy, he⟩)
        have := h1.1 (by omega); omega
      · intro hle
        have := h1.2 (by omega); omega
  have cand_le : ∀ y ∈ P, Cand bank at_ y → key y ≤ keyB bank at_ := fun y _ hc => by
    unfold Cand at hc; unfold key keyB; rw [hc.1]; omega
  unfold findN
  by_cases hi : idxN P bank at_ < 0
  · rw [if_pos hi]
    intro y hy hc
    obtain ⟨k, hk⟩ := List.getElem?_of_mem hy
    have := (key1 k y hk).1 (cand_le y hy hc)
    omega
  · rw [if_neg hi]
    have hlt : (idxN P bank at_).toNat < P.length := by
      rcases idx_lt (P := P) bank at_ with h2 | h2
      · exact h2
      · exact absurd h2 hi
    have hz := get_some hlt
    rw [hz]
    generalize P[(idxN P bank at_).toNat] = z at hz
    have hzm := List.mem_of_getElem? hz
    have hzo := h.ok z hzm
    have hzle : key z ≤ keyB bank at_ := (key1 _ z hz).2 (by omega)
    have upper : ∀ y ∈ P, Cand bank at_ y → key y ≤ key z := fun y hy hc => by
      obtain ⟨k, hk⟩ := List.getElem?_of_mem hy
      have h2 := (key1 k y hk).1 (cand_le y hy hc)
      rcases Nat.lt_or_ge k (idxN P bank at_).toNat with h3 | h3
      · have hk2 := List.getElem?_eq_some_iff.1 hk
        have hz2 := List.getElem?_eq_some_iff.1 hz
        have h5 := List.pairwise_iff_getElem.1 h.srt _ _ hk2.1 hz2.1 h3
        rw [hk2.2, hz2.2] at h5; omega
      · have : k = (idxN P bank at_).toNat := by omega
        rw [this, hz] at hk
        cases hk; omega
    unfold AtOk at hzo
    by_cases hb : z.bank = bank
    · simp only [hb, if_true]
      refine ⟨hzm, ⟨hb, ?_⟩, fun y hy hc => ?_⟩
      · unfold key keyB at hzle; rw [hb] at hzle; omega
      · have h2 := upper y hy hc
        unfold Cand at hc
        unfold key at h2; rw [hb, hc.1] at h2; omega
    · simp only [hb, if_false]
      intro y hy hc
      have h2 := upper y hy hc
      have hyo := h.ok y hy
      unfold AtOk at hyo
      unfold Cand at hc
      unfold key at h2 hzle
      unfold keyB at hzle
      rw [hc.1] at h2
      omega
/-- Two best ones of the same elements are one. -/
theorem best_one {P W : List Nm} (h : Tw P W) {bank at_ : Int} {o p : Option Nm} (ho : Best P bank at_ o) (hp : Best W bank at_ p) : o = p := by
  cases o with
  | none =>
    cases p with
    | none => rfl
    | some z => exact absurd hp.2.1 (ho z (h.perm.mem_iff.2 hp.1))
  | some y =>
    cases p with
    | none => exact absurd ho.2.1 (hp y (h.perm.mem_iff.1 ho.1))
    | some z =>
      have h1 := ho.2.2 z (h.perm.mem_iff.2 hp.1) hp.2.1
      have h2 := hp.2.2 y (h.perm.mem_iff.1 ho.1) ho.2.1
      have hb1 := ho.2.1.1
      have hb2 := hp.2.1.1
      rw [h.key_inj ho.1 (h.perm.mem_iff.2 hp.1) (by unfold key; rw [hb1, hb2]; omega)]
theorem mid_law {lo hi : Nat} (h : hi ≤ 1000000000) (hl : lo ≤ hi) : IntKind.i64.wrap ((IntKind.u64.wrap (IntKind.i64.wrap ((lo : Int) + (hi : Int)))).fdiv (2 ^ min (1 : Int).toNat 64)) = (((lo + hi) / 2 : Nat) : Int) := by
  rw [wrap_i64 (n := (lo : Int) + hi) (by omega) (by omega), wrap_u64_id (by omega) (by omega)]
  have : (2 : Int) ^ min (1 : Int).toNat 64 = 2 := by decide
  rw [this, Int.fdiv_eq_ediv_of_nonneg _ (by omega), wrap_i64 (by omega) (by omega)]
  omega
theorem srch_lt {P : List Nm} {t : Int} (hs : Srt P) {k : Nat} {y : Nm} (hy : P[k]? = some y) (h : decide (cmpI (key y) t < 0) = true) : k + 1 ≤ cnt P t := by
  have h1 : key y < t := by
    unfold cmpI at h
    split at h
    · assumption
    · split at h <;> simp at h
  exact (cnt_iff hs hy).1 h1
theorem srch_ge {P : List Nm} {t : Int} (hs : Srt P) {k : Nat} {y : Nm} (hy : P[k]? = some y) (h : decide (cmpI (key y) t < 0) = false) : cnt P t ≤ k := by
  have h1 : ¬ key y < t := fun h2 => by rw [cmp_lt h2] at h; simp at h
  have := (not_congr (cnt_iff hs hy)).1 h1
  omega
theorem srch_hit {P : List Nm} {t : Int} {y : Nm} (hy : P[cnt P t]? = some y) : (cmpI (key y) t == 0) = fnd P t := by
  rw [fnd_at hy]
  unfold cmpI
  by_cases h1 : key y < t
  · rw [if_pos h1]; simp; omega
  · by_cases h2 : t < key y
    · rw [if_neg h1, if_pos h2]; simp; omega
    · rw [if_neg h1, if_neg h2]; simp; omega
/-- Two rows, one behind the other, whichever is laid first. -/
theorem put_two {Z A X Y : List Value} (hA : Z.take A.length = A) (_hl : A.length + X.length + Y.length ≤ Z.length) : putL (putL Z A.length X) (A.length + X.length) Y = A ++ X ++ Y ++ Z.drop (A.length + X.length + Y.length) := by
  have h1 : putL Z A.length X = A ++ X ++ Z.drop (A.length + X.length) := by unfold putL; rw [hA]
  rw [h1]
  unfold putL
  have h2 : (A ++ X).length = A.length + X.length := by simp
  rw [← h2, List.take_left, List.append_assoc (A ++ X), ← List.drop_drop, List.drop_left, List.drop_drop]
  simp [List.append_assoc, Nat.add_assoc]
theorem put_two' {Z A X Y : List Value} (hA : Z.take A.length = A) (hl : A.length + X.length + Y.length ≤ Z.length) : putL (putL Z (A.length + X.length) Y) A.length X = A ++ X ++ Y ++ Z.drop (A.length + X.length + Y.length) := by
  unfold putL
  have h0 : (Z.take (A.length + X.length)).length = A.length + X.length := by rw [List.length_take]; omega
  have h1 : (Z.take (A.length + X.length) ++ Y ++ Z.drop (A.length + X.length + Y.length)).take A.length = A := by
    rw [List.append_assoc, List.take_append_of_le_length (by omega), List.take_take, Nat.min_eq_left (by omega), hA]
  have h2 : (Z.take (A.length + X.length) ++ Y ++ Z.drop (A.length + X.length + Y.length)).drop (A.length + X.length) = Y ++ Z.drop (A.length + X.length + Y.length) := by
    rw [List.append_assoc, List.drop_append, h0, Nat.sub_self, List.drop_of_length_le (by omega), List.nil_append, List.drop_zero]
  rw [h1, h2]
  simp [List.append_assoc]
theorem vec_ins {P : List Nm} {k : Nat} {x : Nm} {b cap : Nat} {L S : List Value} (hk : k ≤ P.length) (hL : L = flat cN (P.take k) ++ cN x ++ flat cN (P.drop k) ++ S) (hz : L.length = cap * 3) (hle : P.length + 1 ≤ cap) (hm : cap ≤ maxLen) :
    Vec 86 3 (.slice (some ⟨b, 0, none⟩) (P.length + 1) cap) (P.length + 1) (flat cN (P.take k ++ x :: P.drop k)) [(b, blk L 86)] := by
  have e : flat cN (P.take k) ++ cN x ++ flat cN (P.drop k) = flat cN (P.take k ++ x :: P.drop k) := by rw [flat_append, flat_cons, List.append_assoc]
  rw [e] at hL
  subst hL
  exact .row b _ cap _ S (by rw [flat_len cN_len]; simp; omega) hz hm hle
theorem take_len {P : List Nm} {k : Nat} (hk : k ≤ P.length) : (flat cN (P.take k)).length = k * 3 := by rw [flat_len cN_len, List.length_take, Nat.min_eq_left hk]
theorem drop_len (P : List Nm) (k : Nat) : (flat cN (P.drop k)).length = (P.length - k) * 3 := by rw [flat_len cN_len, List.length_drop]
theorem ins_new {P : List Nm} {k : Nat} {x : Nm} {s9 : List Value} {c9 : Nat} (hk : k < P.length) (hz : (flat cN (P.take k) ++ s9).length = c9 * 3) (hle : P.length + 1 ≤ c9) :
    ∃ S, putL (putL (flat cN (P.take k) ++ s9) (k * 3) (cN x)) ((k + 1) * 3) (flat cN (P.drop k)) = flat cN (P.take k) ++ cN x ++ flat cN (P.drop k) ++ S := by
  have hA := take_len (P := P) (k := k) (by omega)
  have h := put_two (Z := flat cN (P.take k) ++ s9) (A := flat cN (P.take k)) (X := cN x) (Y := flat cN (P.drop k)) List.take_left (by rw [hA, cN_len, drop_len, hz]; omega)
  rw [hA, cN_len, show k * 3 + 3 = (k + 1) * 3 by omega] at h
  exact ⟨_, h⟩
theorem ins_old {P : List Nm} {k : Nat} {x : Nm} {sp : List Value} {cap : Nat} (hk : k < P.length) (hz : (flat cN P ++ sp).length = cap * 3) (hle : P.length + 1 ≤ cap) :
    ∃ S, putL (putL (flat cN P ++ sp) ((k + 1) * 3) (flat cN (P.drop k))) (k * 3) (cN x) = flat cN (P.take k) ++ cN x ++ flat cN (P.drop k) ++ S := by
  have hA := take_len (P := P) (k := k) (by omega)
  have hP : flat cN P ++ sp = flat cN (P.take k) ++ (flat cN (P.drop k) ++ sp) := by rw [← List.append_assoc, ← flat_append, List.take_append_drop]
  have h := put_two' (Z := flat cN P ++ sp) (A := flat cN (P.take k)) (X := cN x) (Y := flat cN (P.drop k)) (by rw [hP, List.take_left]) (by rw [hA, cN_len, drop_len, hz]; omega)
  rw [hA, cN_len, show k * 3 + 3 = (k + 1) * 3 by omega] at h
  exact ⟨_, h⟩
theorem row_drop_at {w : World} {b : Nat} {P : List Nm} {sp : List Value} {k cap : Nat} (h : Row w b 0 (flat cN P ++ sp)) (hk : k < P.length) (hc : P.length ≤ cap) : Row w b (k * 3) (flat cN (P.drop k)) := by
  have := row_dropE (j := k) (cp := cap) cN_len h (by omega) hc
  rwa [cutAt, if_neg (by omega), Nat.zero_add] at this
theorem putL_len3 {l vs : List Value} {o n : Nat} (hl : l.length = n) (h : o + vs.length ≤ n) : (putL l o vs).length = n := by rw [putL_len (by omega), hl]
def BadP (x : Nm) : Prop := x.name.size < 1 ∨ 16 < x.name.size ∨ x.bank < 0 ∨ 512 ≤ x.bank
theorem add_bad {P : List Nm} {x : Nm} (h : BadP x) : addE P x = 1 ∧ addP P x = P := by
  have hb : badN x = true := by
    unfold BadP at h
    simp only [badN, Bool.or_eq_true, decide_eq_true_eq]
    omega
  have h1 : addE P x = 1 := by unfold addE; rw [if_pos hb]
  exact ⟨h1, by unfold addP; rw [h1, if_neg (by decide)]⟩
theorem add_good {x : Nm} (h : ¬ BadP x) : badN x = false := by
  unfold BadP at h
  cases hb : badN x
  · rfl
  · simp only [badN, Bool.or_eq_true, decide_eq_true_eq] at hb
    omega
theorem add_same {P : List Nm} {x : Nm} (h : ¬ BadP x) (hf : fnd P (key x) = true) : addE P x = 10 ∧ addP P x = P := by
  have h1 : addE P x = 10 := by unfold addE; rw [if_neg (by rw [add_good h]; decide), if_pos hf]
  exact ⟨h1, by unfold addP; rw [h1, if_neg (by decide)]⟩
theorem add_full {P : List Nm} {x : Nm} (h : ¬ BadP x) (hf : fnd P (key x) = false) (hl : P.length ≥ 64) : addE P x = 8 ∧ addP P x = P := by
  have h1 : addE P x = 8 := by unfold addE; rw [if_neg (by rw [add_good h]; decide), if_neg (by rw [hf]; decide), if_pos hl]
  exact ⟨h1, by unfold addP; rw [h1, if_neg (by decide)]⟩
theorem add_ok {P : List Nm} {x : Nm} (h : ¬ BadP x) (hf : fnd P (key x) = false) (hl : ¬ P.length ≥ 64) : addE P x = 0 ∧ addP P x = ins P x := by
  have h1 : addE P x = 0 := by unfold addE; rw [if_neg (by rw [add_good h]; decide), if_neg (by rw [hf]; decide), if_neg hl]
  exact ⟨h1, by unfold addP; rw [h1, if_pos rfl]⟩
def NamH (b : Nat) (P : List Nm) (H : Heap) : Prop := ∃ v G, H = (b, blk [v] 48) :: G ∧ Vec 86 3 v P.length (flat cN P) G
theorem NamH.start (b : Nat) : NamH b [] [(b, blk [.slice none 0 0] 48)] := ⟨_, [], rfl, .nil⟩
structure NamW (w : World) (b : Nat) (P : List Nm) : Prop where
  list : ∃ a c, w.cell? ⟨b, 0, none⟩ = some (.slice a P.length c) ∧ P.length ≤ c ∧ Els w cN a P
theorem NamH.namW {b : Nat} {P : List Nm} {G H : Heap} {w0 w : World} {ms : List Nat} (h : NamH b P G) (hw : St w0 ms H w) (hs : ∀ x ∈ G, x ∈ H) : NamW w b P := by
  obtain ⟨v, G', rfl, hV⟩ := h
  obtain ⟨a, c, rfl, _, hc, hg⟩ := hV.gives cN_len (by decide)
  exact ⟨a, c, by rw [cell_blk (hw.holds _ (hs _ (.head _)))]; rfl, hc, hg.els hw fun x hx => hs x (.tail _ hx)⟩
theorem idxN_t {P : List Nm} {bank at_ : Int} (h : fnd P (keyB bank at_) = true) : idxN P bank at_ = (cnt P (keyB bank at_) : Int) := by unfold idxN; rw [if_pos h]
theorem idxN_f {P : List Nm} {bank at_ : Int} (h : fnd P (keyB bank at_) = false) : idxN P bank at_ = (cnt P (keyB bank at_) : Int) - 1 := by unfold idxN; rw [if_neg (by rw [h]; decide)]
theorem findN_neg {P : List Nm} {bank at_ : Int} (h : idxN P bank at_ < 0) : findN P bank at_ = none := by unfold findN; rw [if_pos h]
theorem findN_at {P : List Nm} {bank at_ : Int} {m : Nat} {y : Nm} (h : idxN P bank at_ = (m : Int)) (hy : P[m]? = some y) : findN P bank at_ = if y.bank = bank then some y else none := by
  unfold findN; rw [if_neg (by omega), h, Int.toNat_natCast, hy]
theorem findN_yes {P : List Nm} {bank at_ : Int} {m : Nat} {y : Nm} (h : idxN P bank at_ = (m : Int)) (hy : P[m]? = some y) (hb : y.bank = bank) : findN P bank at_ = some y := by rw [findN_at h hy, if_pos hb]
theorem findN_no {P : List Nm} {bank at_ : Int} {m : Nat} {y : Nm} (h : idxN P bank at_ = (m : Int)) (hy : P[m]? = some y) (hb : ¬ y.bank = bank) : findN P bank at_ = none := by rw [findN_at h hy, if_neg hb]
def findV (o : Option Nm) (at_ : Int) : Value := match o with
  | some y => .tuple #[.string y.name, .int .u16 (at_ - y.at_), .bool true]
  | none => .tuple #[.string (.mk #[]), .int .u16 0, .bool false]
end Go.Proofs.Ytmafgccagaihbaa
