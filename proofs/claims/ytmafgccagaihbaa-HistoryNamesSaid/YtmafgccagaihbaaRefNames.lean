/- The document's list of names, as its functions go through it. Plain lists. -/
import Derived.Test.YtmafgccagaihbaaNamesB
import Derived.Test.YtmafgccagaihbaaVvZ
import Derived.Test.YtmafgccagaihbaaVvY
namespace Go.Proofs.Ytmafgccagaihbaa
open Go Go.VV

theorem key_bank {x y : Nm} (hx : AtOk x) (hy : AtOk y) (h : key x = key y) : x.bank = y.bank ∧ x.at_ = y.at_ := by
  unfold AtOk at hx hy; unfold key at h; omega
theorem Tw.wlen {P W : List Nm} (h : Tw P W) : W.length = P.length := h.perm.length_eq.symm
theorem Tw.same {P W : List Nm} (h : Tw P W) {x y : Nm} (hx : ¬ BadP x) {k : Nat} (hg : W[k]? = some y) (hb : y.bank = x.bank) (ha : y.at_ = x.at_) : addE P x = 10 :=
  (add_same hx ((fnd_iff h.srt).2 ⟨y, h.perm.mem_iff.2 (List.mem_of_getElem? hg), by unfold key; rw [hb, ha]⟩)).1
theorem Tw.nosame {P W : List Nm} (h : Tw P W) {x : Nm} (hx : AtOk x) (hno : ∀ y ∈ W, ¬ (y.bank = x.bank ∧ y.at_ = x.at_)) : fnd P (key x) = false := by
  cases hf : fnd P (key x) with
  | false => rfl
  | true =>
    obtain ⟨y, hy, hk⟩ := (fnd_iff h.srt).1 hf
    exact absurd (key_bank (h.ok y hy) hx hk) (hno y (h.perm.mem_iff.1 hy))
theorem Tw.full {P W : List Nm} (h : Tw P W) {x : Nm} (hx : AtOk x) (hb : ¬ BadP x) (hno : ∀ y ∈ W, ¬ (y.bank = x.bank ∧ y.at_ = x.at_)) (hl : 64 ≤ W.length) : addE P x = 8 :=
  (add_full hb (h.nosame hx hno) (by rw [← h.wlen]; exact hl)).1
theorem Tw.fits {P W : List Nm} (h : Tw P W) {x : Nm} (hx : AtOk x) (hb : ¬ BadP x) (hno : ∀ y ∈ W, ¬ (y.bank = x.bank ∧ y.at_ = x.at_)) (hl : ¬ 64 ≤ W.length) : addE P x = 0 :=
  (add_ok hb (h.nosame hx hno) (by rw [← h.wlen]; exact hl)).1
theorem no_step {W : List Nm} {k : Nat} {x y : Nm} (hg : W[k]? = some y) (h : ∀ z ∈ W.take k, ¬ (z.bank = x.bank ∧ z.at_ = x.at_)) (hy : ¬ (y.bank = x.bank ∧ y.at_ = x.at_)) : ∀ z ∈ W.take (k + 1), ¬ (z.bank = x.bank ∧ z.at_ = x.at_) := fun z hz => by
  rw [get_part hg] at hz
  rcases List.mem_append.1 hz with hz | hz
  · exact h z hz
  · rw [List.mem_singleton.1 hz]; exact hy

/-- The answer of the document's Add. -/
def RAdd (a : Option Addr) (c : Nat) (P W : List Nm) (x : Nm) (v : Value) (H : Heap) : Prop :=
  (addE P x ≠ 0 ∧ v = .tuple #[.slice a W.length c, .int .i64 (addE P x)] ∧ H = []) ∨ (addE P x = 0 ∧ ∃ u, v = .tuple #[u, .int .i64 0] ∧ Vec 52 3 u (W ++ [x]).length (flat cN (W ++ [x])) H)

/-- The best one of the first k, by its number. -/
def IdxOk (W : List Nm) (bank at_ : Int) (k : Nat) (o : Int) : Prop :=
  (o = -1 ∧ ∀ y ∈ W.take k, ¬ Cand bank at_ y) ∨ (∃ (j : Nat) (z : Nm), o = (j : Int) ∧ j < k ∧ W[j]? = some z ∧ Cand bank at_ z ∧ ∀ y ∈ W.take k, Cand bank at_ y → y.at_ ≤ z.at_)
theorem IdxOk.start (W : List Nm) (bank at_ : Int) : IdxOk W bank at_ 0 (-1) := .inl ⟨rfl, fun y hy => by simp at hy⟩
section
variable {W : List Nm} {bank at_ : Int} {k : Nat} {o : Int} {y : Nm}
theorem IdxOk.pass (h : IdxOk W bank at_ k o) (hg : W[k]? = some y) (hc : ¬ Cand bank at_ y) : IdxOk W bank at_ (k + 1) o := by
  unfold IdxOk
  rw [get_part hg]
  rcases h with ⟨rfl, h⟩ | ⟨j, z, rfl, hj, hz, hcz, h⟩
  · refine .inl ⟨rfl, fun q hq => ?_⟩
    rcases List.mem_append.1 hq with hq | hq
    · exact h q hq
    · rw [List.mem_singleton.1 hq]; exact hc
  · refine .inr ⟨j, z, rfl, by omega, hz, hcz, fun q hq hcq => ?_⟩
    rcases List.mem_append.1 hq with hq | hq
    · exact h q hq hcq
    · rw [List.mem_singleton.1 hq] at hcq; exact absurd hcq hc
theorem IdxOk.first (h : IdxOk W bank at_ k (-1)) (hg : W[k]? = some y) (hc : Cand bank at_ y) : IdxOk W bank at_ (k + 1) k := by
  unfold IdxOk
  rw [get_part hg]
  rcases h with ⟨_, h⟩ | ⟨j, z, hj, _⟩
  · refine .inr ⟨k, y, rfl, by omega, hg, hc, fun q hq hcq => ?_⟩
    rcases List.mem_append.1 hq with hq | hq
    · exact absurd hcq (h q hq)
    · rw [List.mem_singleton.1 hq]; exact Int.le_refl _
  · omega
theorem IdxOk.more {j : Nat} {z : Nm} (hz : W[j]? = some z) (hmax : ∀ q ∈ W.take k, Cand bank at_ q → q.at_ ≤ z.at_) (hg : W[k]? = some y) (hc : Cand bank at_ y) (hgt : z.at_ < y.at_) : IdxOk W bank at_ (k + 1) k := by
  unfold IdxOk
  rw [get_part hg]
  refine .inr ⟨k, y, rfl, by omega, hg, hc, fun q hq hcq => ?_⟩
  rcases List.mem_append.1 hq with hq | hq
  · have := hmax q hq hcq; omega
  · rw [List.mem_singleton.1 hq]; exact Int.le_refl _
theorem IdxOk.less {j : Nat} {z : Nm} (hj : j < k) (hz : W[j]? = some z) (hcz : Cand bank at_ z) (hmax : ∀ q ∈ W.take k, Cand bank at_ q → q.at_ ≤ z.at_) (hg : W[k]? = some y) (hgt : ¬ z.at_ < y.at_) : IdxOk W bank at_ (k + 1) j := by
  unfold IdxOk
  rw [get_part hg]
  refine .inr ⟨j, z, rfl, by omega, hz, hcz, fun q hq hcq => ?_⟩
  rcases List.mem_append.1 hq with hq | hq
  · exact hmax q hq hcq
  · rw [List.mem_singleton.1 hq]; omega
end
/-- Both find one. -/
theorem find_one {P W : List Nm} (h : Tw P W) {bank at_ : Int} (ha : 0 ≤ at_ ∧ at_ < 65536) {o : Int} (ho : IdxOk W bank at_ W.length o) :
    (findN P bank at_ = none ∧ o = -1) ∨ ∃ (j : Nat) (z : Nm), o = (j : Int) ∧ W[j]? = some z ∧ findN P bank at_ = some z := by
  have hb := find_best h (bank := bank) ha
  unfold IdxOk at ho
  rw [List.take_length] at ho
  rcases ho with ⟨rfl, ho⟩ | ⟨j, z, rfl, hj, hz, hcz, hmax⟩
  · exact .inl ⟨best_one h hb (p := none) ho, rfl⟩
  · exact .inr ⟨j, z, rfl, hz, best_one h hb (p := some z) ⟨List.mem_of_getElem? hz, hcz, hmax⟩⟩
theorem cN_of (cs : List Value) (h : Cks [.int .i64, .int .u16, .str] cs) : ∃ x, cs = cN x ∧ AtOk x := by
  obtain ⟨b, _, rfl, _, h1⟩ := ck_i h
  obtain ⟨t, _, rfl, ht, h2⟩ := ck_i h1
  obtain ⟨s, _, rfl, _, h3⟩ := ck_s h2
  obtain rfl := ck_0 h3
  exact ⟨⟨b, t, s⟩, rfl, wf_u16 ht⟩
theorem addW_no {W : List Nm} {x : Nm} {e : Int} (h : e ≠ 0) : addW W x e = W := by unfold addW; rw [if_neg h]
theorem addW_yes {W : List Nm} {x : Nm} {e : Int} (h : e = 0) : addW W x e = W ++ [x] := by unfold addW; rw [if_pos h]
end Go.Proofs.Ytmafgccagaihbaa
