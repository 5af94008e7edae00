/- What three bytes begin with: sizes, kinds, numbers. Plain lists. -/
import Derived.Test.YtmihilhmdcndfaaOpsT
namespace Go.Proofs.Ytmihilhmdcndfaa
open Go Go.VV

theorem dcd_beh {a b c : Int} (h : a = 203) : dcd a b c = behS b := by unfold dcd; rw [if_pos h]
theorem dcd_plain {a b c : Int} {m : Nat} {o : Opr} (ha : a = (m : Int)) (h : ¬ a = 203) (ho : tabP[m]? = some o) : dcd a b c = numO o b (b + 256 * c) := by
  unfold dcd
  rw [if_neg h, ha, Int.toNat_natCast, List.getD_eq_getElem?_getD, ho]; rfl
theorem numO_2 {o : Opr} (h : o.size = 2) (b w : Int) : numO o b w = ⟨o.kind, o.x, o.y, o.size, b⟩ := by unfold numO; rw [if_pos h]
theorem numO_3 {o : Opr} (h : o.size = 3) (b w : Int) : numO o b w = ⟨o.kind, o.x, o.y, o.size, w⟩ := by unfold numO; rw [if_neg (by omega), if_pos h]
theorem numO_1 {o : Opr} (h : ¬ o.size = 2) (h3 : ¬ o.size = 3) (b w : Int) : numO o b w = o := by unfold numO; rw [if_neg h, if_neg h3]
theorem or_law {b c : Int} (hb : 0 ≤ b ∧ b < 256) (hc : 0 ≤ c ∧ c < 256) : bor .u16 b (shl .u16 c 8) = b + 256 * c := by
  obtain ⟨m, rfl⟩ : ∃ m : Nat, b = m := ⟨b.toNat, by omega⟩
  obtain ⟨n, rfl⟩ : ∃ n : Nat, c = n := ⟨c.toNat, by omega⟩
  have h1 : shl .u16 (n : Int) 8 = ((n * 256 : Nat) : Int) := by
    unfold shl
    have : (min (8 : Int).toNat IntKind.u16.bits) = 8 := by decide
    rw [this, wrap_u16]; omega
  rw [h1]
  unfold bor
  have h2 : (BitVec.ofInt IntKind.u16.bits (m : Int) ||| BitVec.ofInt IntKind.u16.bits ((n * 256 : Nat) : Int)).toNat = n * 256 + m := by
    have e1 : BitVec.ofInt IntKind.u16.bits (m : Int) = BitVec.ofNat 16 m := by simp [IntKind.bits]
    have e2 : BitVec.ofInt IntKind.u16.bits ((n * 256 : Nat) : Int) = BitVec.ofNat 16 (n * 256) := by simp only [IntKind.bits]; exact BitVec.ofInt_natCast ..
    rw [e1, e2]
    have e3 : (BitVec.ofNat 16 m ||| BitVec.ofNat 16 (n * 256)).toNat = (m % 65536) ||| (n * 256 % 65536) := by simp
    have e4 : m % 65536 = m := by omega
    have e5 : n * 256 % 65536 = n * 256 := by omega
    have e6 : n * 256 ||| m = n * 256 + m := by
      have := Nat.shiftLeft_add_eq_or_of_lt (i := 8) (b := m) (by omega) n
      rw [Nat.shiftLeft_eq] at this
      simpa using this.symm
    exact e3.trans (by rw [e4, e5, Nat.or_comm, e6])
  rw [h2, wrap_u16]; omega
/-- What holds of all 256 rows of the table. -/
def rowOk (o : Opr) : Bool := decide (1 ≤ o.kind ∧ o.kind ≤ 46 ∧ 1 ≤ o.size ∧ o.size ≤ 3 ∧ 0 ≤ o.n ∧ o.n < 256)
theorem rows_ok : tabP.all rowOk = true := by kernel_rfl
theorem row_ok {m : Nat} {o : Opr} (h : tabP[m]? = some o) : 1 ≤ o.kind ∧ o.kind ≤ 46 ∧ 1 ≤ o.size ∧ o.size ≤ 3 ∧ 0 ≤ o.n ∧ o.n < 256 :=
  of_decide_eq_true (List.all_eq_true.1 rows_ok o (List.mem_of_getElem? h))
theorem tab_some {a : Int} (h0 : 0 ≤ a) (h : a < 256) : ∃ m : Nat, ∃ o, a = (m : Int) ∧ m < 256 ∧ tabP[m]? = some o :=
  ⟨a.toNat, _, by omega, by omega, tabP_get (by omega)⟩
structure Fine (a : Int) (o : Opr) : Prop where
  kind : 1 ≤ o.kind ∧ o.kind ≤ 46
  size : 1 ≤ o.size ∧ o.size ≤ 3
  num : 0 ≤ o.n ∧ o.n < 65536
  small : o.size = 3 ∨ o.n < 256
theorem beh_fine {b : Int} (hb : 0 ≤ b ∧ b < 256) : Fine 203 (behS b) := by
  unfold behS
  split <;> exact ⟨⟨by dsimp only; omega, by dsimp only; omega⟩, ⟨by dsimp only; omega, by dsimp only; omega⟩, ⟨by dsimp only; omega, by dsimp only; omega⟩, .inr (by dsimp only; omega)⟩
theorem dcd_fine {a b c : Int} (ha : 0 ≤ a ∧ a < 256) (hb : 0 ≤ b ∧ b < 256) (hc : 0 ≤ c ∧ c < 256) : Fine a (dcd a b c) := by
  by_cases h : a = 203
  · rw [dcd_beh h, h]; exact beh_fine hb
  · obtain ⟨m, o, hm, _, ho⟩ := tab_some ha.1 ha.2
    have hr := row_ok ho
    rw [dcd_plain hm h ho]
    by_cases h2 : o.size = 2
    · rw [numO_2 h2]; exact ⟨⟨hr.1, hr.2.1⟩, ⟨hr.2.2.1, hr.2.2.2.1⟩, ⟨hb.1, by dsimp only; omega⟩, .inr hb.2⟩
    · by_cases h3 : o.size = 3
      · rw [numO_3 h3]; exact ⟨⟨hr.1, hr.2.1⟩, ⟨hr.2.2.1, hr.2.2.2.1⟩, ⟨by dsimp only; omega, by dsimp only; omega⟩, .inl h3⟩
      · rw [numO_1 h2 h3]; exact ⟨⟨hr.1, hr.2.1⟩, ⟨hr.2.2.1, hr.2.2.2.1⟩, ⟨hr.2.2.2.2.1, by omega⟩, .inr hr.2.2.2.2.2⟩
/-- What stands behind an order plays no part. -/
theorem dcd_behind1 {a b c d : Int} (ha : 0 ≤ a ∧ a < 256) (h : ¬ (dcd a b c).size > 1) : dcd a d c = dcd a b c := by
  by_cases h2 : a = 203
  · rw [dcd_beh h2] at h; exact absurd (by unfold behS; split <;> (dsimp only; omega)) h
  · obtain ⟨m, o, hm, _, ho⟩ := tab_some ha.1 ha.2
    rw [dcd_plain hm h2 ho] at h
    have hs : (numO o b (b + 256 * c)).size = o.size := rfl
    rw [hs] at h
    rw [dcd_plain hm h2 ho, dcd_plain hm h2 ho, numO_1 (by omega) (by omega), numO_1 (by omega) (by omega)]
theorem dcd_behind2 {a b c d : Int} (ha : 0 ≤ a ∧ a < 256) (h : ¬ (dcd a b c).size > 2) : dcd a b d = dcd a b c := by
  by_cases h2 : a = 203
  · rw [dcd_beh h2, dcd_beh h2]
  · obtain ⟨m, o, hm, _, ho⟩ := tab_some ha.1 ha.2
    rw [dcd_plain hm h2 ho] at h
    have hs : (numO o b (b + 256 * c)).size = o.size := rfl
    rw [hs] at h
    rw [dcd_plain hm h2 ho, dcd_plain hm h2 ho]
    by_cases h3 : o.size = 2
    · rw [numO_2 h3, numO_2 h3]
    · rw [numO_1 h3 (by omega), numO_1 h3 (by omega)]
theorem lveq_cO (o : Opr) : lveq (cO o) (cO o) = true := by simp [lveq, veq, cO]
theorem lveq_iff (o p : Opr) : lveq (cO o) (cO p) = decide (o = p) := by
  obtain ⟨a, b, c, d, e⟩ := o
  obtain ⟨a2, b2, c2, d2, e2⟩ := p
  simp only [lveq, veq, cO, Opr.mk.injEq, Bool.decide_and, Bool.and_true]
  rfl
theorem cO_of (cs : List Value) (h : Cks [.int .i64, .int .i64, .int .i64, .int .i64, .int .u16] cs) : ∃ x, cs = cO x ∧ (0 ≤ x.n ∧ x.n < 65536) := by
  obtain ⟨a, _, rfl, _, h1⟩ := ck_i h
  obtain ⟨b, _, rfl, _, h2⟩ := ck_i h1
  obtain ⟨c, _, rfl, _, h3⟩ := ck_i h2
  obtain ⟨d, _, rfl, _, h4⟩ := ck_i h3
  obtain ⟨e, _, rfl, he, h5⟩ := ck_i h4
  obtain rfl := ck_0 h5
  exact ⟨⟨a, b, c, d, e⟩, rfl, wf_u16 he⟩
end Go.Proofs.Ytmihilhmdcndfaa
