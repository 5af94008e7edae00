/- Places of one bank that are named: what is found near them. Plain lists. -/
import Derived.Test.YtmafgccagaihbaaNamesB
import Derived.Test.YtmafgccagaihbaaVvU
namespace Go.Proofs.Ytmafgccagaihbaa
open Go Go.VV

def nmL (i : Nat) : List UInt8 := [97, UInt8.ofNat (97 + i % 26)]
def xN (bank : Int) (l : List Int) (i : Nat) : Nm := ⟨bank, l.getD i 0, bs (nmL i)⟩
structure Nr (bank : Int) (l : List Int) (P : List Nm) (n : Nat) : Prop where
  srt : Srt P
  ok : ∀ y ∈ P, AtOk y
  len : P.length ≤ n
  all : ∀ y ∈ P, y.bank = bank ∧ y.name.size = 2 ∧ ∃ i, i < n ∧ y.at_ = l.getD i 0
  has : ∀ i, i < n → ∃ y ∈ P, y.at_ = l.getD i 0
theorem Nr.start (bank : Int) (l : List Int) : Nr bank l [] 0 := ⟨List.Pairwise.nil, (fun _ h => by cases h), Nat.le_refl _, (fun _ h => by cases h), fun i h => by omega⟩
theorem xN_good {bank : Int} (hb : 0 ≤ bank ∧ bank < 256) (l : List Int) (i : Nat) : ¬ BadP (xN bank l i) := by
  unfold BadP xN
  have : (bs (nmL i)).size = 2 := rfl
  dsimp only
  omega
theorem Nr.step {bank : Int} {l : List Int} {P : List Nm} {n : Nat} (h : Nr bank l P n) (hb : 0 ≤ bank ∧ bank < 256) (hl : 0 ≤ l.getD n 0 ∧ l.getD n 0 < 65536) (hn : n < 60) : Nr bank l (addP P (xN bank l n)) (n + 1) := by
  have hg := xN_good hb l n
  cases hf : fnd P (key (xN bank l n)) with
  | true =>
    rw [(add_same hg hf).2]
    refine ⟨h.srt, h.ok, by have := h.len; omega, fun y hy => ?_, fun i hi => ?_⟩
    · obtain ⟨h1, h2, i, h3, h4⟩ := h.all y hy; exact ⟨h1, h2, i, by omega, h4⟩
    · rcases Nat.lt_or_ge i n with h1 | h1
      · exact h.has i h1
      · have : i = n := by omega
        subst this
        obtain ⟨y, hy, hk⟩ := (fnd_iff h.srt).1 hf
        refine ⟨y, hy, ?_⟩
        have hb2 := (h.all y hy).1
        have ho := h.ok y hy
        unfold AtOk at ho
        unfold key xN at hk
        rw [hb2] at hk
        dsimp only at hk
        omega
  | false =>
    have hlen := h.len
    rw [(add_ok hg hf (by omega)).2]
    have hm : ∀ y, y ∈ ins P (xN bank l n) ↔ y = xN bank l n ∨ y ∈ P := fun y => by rw [(ins_perm P _).mem_iff, List.mem_cons]
    refine ⟨ins_srt h.srt hf, fun y hy => ?_, by rw [ins_len]; omega, fun y hy => ?_, fun i hi => ?_⟩
    · rcases (hm y).1 hy with rfl | hy
      · exact hl
      · exact h.ok y hy
    · rcases (hm y).1 hy with rfl | hy
      · exact ⟨rfl, rfl, n, by omega, rfl⟩
      · obtain ⟨h1, h2, i, h3, h4⟩ := h.all y hy; exact ⟨h1, h2, i, by omega, h4⟩
    · rcases Nat.lt_or_ge i n with h1 | h1
      · obtain ⟨y, hy, h2⟩ := h.has i h1; exact ⟨y, (hm y).2 (.inr hy), h2⟩
      · have : i = n := by omega
        subst this
        exact ⟨_, (hm _).2 (.inl rfl), rfl⟩
theorem Nr.tw {bank : Int} {l : List Int} {P : List Nm} {n : Nat} (h : Nr bank l P n) (hn : n ≤ 60) : Tw P P := ⟨h.srt, .refl _, h.ok, by have := h.len; omega⟩
theorem Nr.best {bank : Int} {l : List Int} {P : List Nm} {n : Nat} (h : Nr bank l P n) (hn : n ≤ 60) (b at_ : Int) (ha : 0 ≤ at_ ∧ at_ < 65536) : Best P b at_ (findN P b at_) := find_best (h.tw hn) ha
/-- A place that has a name is found by it. -/
theorem Nr.at {bank : Int} {l : List Int} {P : List Nm} {n : Nat} (h : Nr bank l P n) (hn : n ≤ 60) {i : Nat} (hi : i < n) (hl : 0 ≤ l.getD i 0 ∧ l.getD i 0 < 65536) :
    ∃ y, findN P bank (l.getD i 0) = some y ∧ y ∈ P ∧ y.at_ = l.getD i 0 ∧ y.name.size = 2 := by
  have hb := h.best hn bank _ hl
  obtain ⟨z, hz, hza⟩ := h.has i hi
  cases hf : findN P bank (l.getD i 0) with
  | none => rw [hf] at hb; exact absurd ⟨(h.all z hz).1, by omega⟩ (hb z hz)
  | some y =>
    rw [hf] at hb
    have h1 := hb.2.2 z hz ⟨(h.all z hz).1, by omega⟩
    have h2 := hb.2.1.2
    exact ⟨y, rfl, hb.1, by omega, (h.all y hb.1).2.1⟩
/-- So is each place behind it, up to the next one. -/
theorem Nr.near {bank : Int} {l : List Int} {P : List Nm} {n : Nat} (h : Nr bank l P n) (hn : n ≤ 60) {p by_ : Int} {y : Nm} (hp : 0 ≤ p) (hy : y ∈ P) (hya : y.at_ = p) (hb0 : 0 ≤ by_) (hq : p + by_ < 65536)
    (hno : ∀ j, j < n → ¬ (p < l.getD j 0 ∧ l.getD j 0 - p ≤ by_)) : findN P bank (p + by_) = some y := by
  have hb := h.best hn bank (p + by_) ⟨by omega, hq⟩
  have hc : Cand bank (p + by_) y := ⟨(h.all y hy).1, by omega⟩
  cases hf : findN P bank (p + by_) with
  | none => rw [hf] at hb; exact absurd hc (hb y hy)
  | some z =>
    rw [hf] at hb
    have h1 := hb.2.2 y hy hc
    have h2 := hb.2.1.2
    obtain ⟨hzb, _, j, hj, hzj⟩ := h.all z hb.1
    have h3 := hno j hj
    have hza : z.at_ = p := by omega
    rw [(h.tw hn).key_inj hb.1 hy (by unfold key; rw [hzb, (h.all y hy).1, hza, hya])]
/-- In another bank it isn't. -/
theorem Nr.other_none {bank other : Int} {l : List Int} {P : List Nm} {n : Nat} (h : Nr bank l P n) (hn : n ≤ 60) (hf : findN P other 65535 = none) : ¬ (other = bank ∧ 0 < n) := by
  rintro ⟨rfl, h0⟩
  have hb := h.best hn other 65535 ⟨by decide, by decide⟩
  rw [hf] at hb
  obtain ⟨y, hy, _⟩ := h.has 0 h0
  have ho := h.ok y hy
  exact hb y hy ⟨(h.all y hy).1, by unfold AtOk at ho; omega⟩
theorem Nr.other_some {bank other : Int} {l : List Int} {P : List Nm} {n : Nat} (h : Nr bank l P n) (hn : n ≤ 60) {y : Nm} (hf : findN P other 65535 = some y) : other = bank ∧ 0 < n := by
  have hb := h.best hn other 65535 ⟨by decide, by decide⟩
  rw [hf] at hb
  obtain ⟨h1, _, i, h2, _⟩ := h.all y hb.1
  have := hb.2.1.1
  exact ⟨by omega, by omega⟩
theorem nm_byte (i : Nat) : IntKind.u8.wrap (97 + ((i % 26 : Nat) : Int)) = ((UInt8.ofNat (97 + i % 26)).toNat : Int) := by
  have h : i % 26 < 26 := Nat.mod_lt _ (by decide)
  rw [wrap_u8, UInt8.toNat_ofNat']
  omega
end Go.Proofs.Ytmafgccagaihbaa
