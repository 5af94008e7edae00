/- How a line of marks stands in memory. Plain lemmas; no program. -/
import Derived.Test.YtkifhldkhemdlaaMath
import Derived.Test.YtkifhldkhemdlaaVvM
namespace Go.Proofs.Ytkifhldkhemdlaa
open Go Go.VV

def m0 : Mark := ⟨0, none, 0, []⟩
def tm (ms : List Mark) (k : Nat) : Int := (ms.getD k m0).t
theorem tm_get {ms : List Mark} {k : Nat} (hk : k < ms.length) : ms[k].t = tm ms k := by simp [tm, hk]
theorem getD_get {ms : List Mark} {k : Nat} (hk : k < ms.length) : ms[k] = ms.getD k m0 := by simp [hk]

/-- What can be read of a line. -/
def LineW (w : World) (b : Nat) (cap : Int) (ms : List Mark) : Prop :=
  ∃ a c, w.cell? ⟨b, 0, none⟩ = some (.slice a ms.length c) ∧ ms.length ≤ c ∧ w.cell? ⟨b, 1, none⟩ = some (.int .i64 cap) ∧ Els w cm a ms
theorem LineW.later0 {w0 w : World} {H : Heap} {b : Nat} {cap : Int} {ms : List Mark} (h : LineW w0 b cap ms) (hw : St w0 [] H w) : LineW w b cap ms := by
  obtain ⟨a, c, h0, hc, h1, hE⟩ := h
  exact ⟨a, c, at_old h0 (by simp) w hw, hc, at_old h1 (by simp) w hw, hE.later0 hw⟩
/-- Bytes that can be read; a nil slice has none. -/
def BytW (w : World) (a : Option Addr) (l : List Int) : Prop := (a = none ∧ l = []) ∨ ∃ b off, a = some ⟨b, off, none⟩ ∧ Row w b off (l.map (.int .u8))
theorem BytW.later0 {w0 w : World} {H : Heap} {a : Option Addr} {l : List Int} (h : BytW w0 a l) (hw : St w0 [] H w) : BytW w a l := by
  rcases h with h | ⟨b, off, ha, hr⟩
  · exact .inl h
  · exact .inr ⟨b, off, ha, row_old hr (by simp) w hw⟩
theorem BytW.ns {w : World} {a : Option Addr} {l : List Int} (h : BytW w a l) : Ns w .u8 a l := by
  rcases h with ⟨_, rfl⟩ | ⟨b, off, ha, hr⟩
  · exact Ns.nil _ _ _
  · exact fun _ => ⟨b, off, ha, hr⟩
/-- Bytes of one's own. -/
abbrev Byt (l : List Int) (v : Value) (G : Heap) : Prop := Vec 5 1 v l.length (l.map (.int .u8)) G
theorem Byt.slice {l : List Int} {v : Value} {G : Heap} (h : Byt l v G) : ∃ a c, v = .slice a l.length c ∧ l.length ≤ c ∧ ∀ (w0 w : World) (ms : List Nat) (H : Heap), St w0 ms H w → (∀ x ∈ G, x ∈ H) → BytW w a l := by
  unfold Byt at h
  generalize hx : l.map (Value.int .u8) = xs at h
  generalize hn : l.length = n at h ⊢
  cases h with
  | nil => exact ⟨none, 0, rfl, Nat.le_refl _, fun _ _ _ _ _ _ => .inl ⟨rfl, List.eq_nil_of_length_eq_zero hn⟩⟩
  | row b _ cap _ sp h1 h2 h3 h4 =>
    refine ⟨_, cap, rfl, h4, fun w0 w ms H hw hs => .inr ⟨b, 0, rfl, ?_⟩⟩
    rw [hx]
    exact (Row.all (hw.holds _ (hs _ (.head _)))).left
/-- Each mark's bytes can be read. -/
def DatW (w : World) (ms : List Mark) : Prop := ∀ m ∈ ms, m.l.length ≤ m.c ∧ m.l.length ≤ 140737488355328 ∧ BytW w m.a m.l
theorem DatW.later0 {w0 w : World} {H : Heap} {ms : List Mark} (h : DatW w0 ms) (hw : St w0 [] H w) : DatW w ms := fun m hm => ⟨(h m hm).1, (h m hm).2.1, (h m hm).2.2.later0 hw⟩
/-- The same of a heap. -/
def DatH (D : Heap) (ms : List Mark) : Prop := ∀ m ∈ ms, m.l.length ≤ m.c ∧ m.l.length ≤ 140737488355328 ∧ ∀ (w0 w : World) (ms : List Nat) (H : Heap), St w0 ms H w → (∀ x ∈ D, x ∈ H) → BytW w m.a m.l
theorem DatH.sub {D : Heap} {a b : List Mark} (h : DatH D b) (hs : a.Sublist b) : DatH D a := fun m hm => h m (hs.subset hm)
theorem DatH.more {D D' : Heap} {ms : List Mark} (h : DatH D ms) (hs : ∀ x ∈ D, x ∈ D') : DatH D' ms := fun m hm => ⟨(h m hm).1, (h m hm).2.1, fun w0 w ms H hw hx => (h m hm).2.2 w0 w ms H hw fun x hx' => hx x (hs x hx')⟩
theorem DatH.datW {D H : Heap} {ms : List Mark} {w0 w : World} {bs : List Nat} (h : DatH D ms) (hw : St w0 bs H w) (hs : ∀ x ∈ D, x ∈ H) : DatW w ms := fun m hm => ⟨(h m hm).1, (h m hm).2.1, (h m hm).2.2 w0 w bs H hw hs⟩

theorem mark_t {w : World} {b off : Nat} {ms : List Mark} (hr : Row w b off (flat cm ms)) {k : Nat} (hk : k < ms.length) : w.cell? ⟨b, off + k * 2 + 0, none⟩ = some (.int .u64 (tm ms k)) := by
  have := Row.nth cm_len hr hk 0 _ rfl
  rw [tm_get hk] at this
  exact this
theorem mark_d {w : World} {b off : Nat} {ms : List Mark} (hr : Row w b off (flat cm ms)) {k : Nat} (hk : k < ms.length) :
    w.cell? ⟨b, off + k * 2 + 1, none⟩ = some (.slice (ms.getD k m0).a (ms.getD k m0).l.length (ms.getD k m0).c) := by
  have := Row.nth cm_len hr hk 1 _ rfl
  rw [getD_get hk] at this
  exact this
theorem mark_row {w : World} {b off : Nat} {ms : List Mark} (hr : Row w b off (flat cm ms)) {k : Nat} (hk : k < ms.length) : Row w b (off + k * 2) (cm (ms.getD k m0)) := by
  have := Row.nth cm_len hr hk
  rw [getD_get hk] at this
  exact this
/-- The last one's time. -/
def lastT (ms : List Mark) : Int := if ms.length = 0 then 0 else tm ms (ms.length - 1)
theorem last_none {ms : List Mark} (h : ms.length = 0) : (Value.tuple #[.int .u64 (lastT ms), .bool (decide (ms.length ≠ 0))]) = .tuple #[.int .u64 0, .bool false] := by simp [lastT, h]
theorem last_some {ms : List Mark} (h : ms.length ≠ 0) : (Value.tuple #[.int .u64 (lastT ms), .bool (decide (ms.length ≠ 0))]) = .tuple #[.int .u64 (tm ms (ms.length - 1)), .bool true] := by simp [lastT, h]
theorem lastT_some {ms : List Mark} (h : ms.length ≠ 0) : tm ms (ms.length - 1) = lastT ms := by simp [lastT, h]

def cmpI (a b : Int) : Int := if a < b then -1 else if a > b then 1 else 0
theorem cmp_lt {a b : Int} (h : decide (a < b) = true) : (-1 : Int) = cmpI a b := by simp at h; simp [cmpI, h]
theorem cmp_gt {a b : Int} (h : decide (a < b) = false) (h2 : decide (b < a) = true) : (1 : Int) = cmpI a b := by simp at h h2; simp [cmpI, h2]; omega
theorem cmp_eq {a b : Int} (h : decide (a < b) = false) (h2 : decide (b < a) = false) : (0 : Int) = cmpI a b := by simp at h h2; simp [cmpI]; omega

/-- The middle. -/
theorem mid_law {lo hi : Nat} (h : hi ≤ 1000000000) (hl : lo ≤ hi) : IntKind.i64.wrap ((IntKind.u64.wrap (IntKind.i64.wrap ((lo : Int) + (hi : Int)))).fdiv (2 ^ min (1 : Int).toNat 64)) = (((lo + hi) / 2 : Nat) : Int) := by
  rw [wrap_i64 (n := (lo : Int) + hi) (by omega) (by omega), wrap_u64_id (by omega) (by omega)]
  have : (2 : Int) ^ min (1 : Int).toNat 64 = 2 := by decide
  rw [this, Int.fdiv_eq_ediv_of_nonneg _ (by omega), wrap_i64 (by omega) (by omega)]
  omega
theorem srch_lt {ms : List Mark} (hR : Rise ms) {x : Int} {k : Nat} (hk : k < ms.length) (h : decide (cmpI (tm ms k) x < 0) = true) : k < cntLt ms x := by
  rw [← cntLt_iff hR.1 x hk, tm_get hk]
  simp [cmpI] at h
  split at h
  · assumption
  · split at h <;> omega
theorem srch_ge {ms : List Mark} (hR : Rise ms) {x : Int} {k : Nat} (hk : k < ms.length) (h : decide (cmpI (tm ms k) x < 0) = false) : cntLt ms x ≤ k := by
  have := cntLt_iff hR.1 x hk
  rw [tm_get hk] at this
  by_cases h2 : tm ms k < x
  · simp [cmpI, h2] at h
  · omega
theorem srch_hit {ms : List Mark} (hR : Rise ms) {x : Int} (hk : cntLt ms x < ms.length) : (cmpI (tm ms (cntLt ms x)) x == 0) = foundL ms x := by
  have h1 := found_iff hR.1 x hk
  rw [tm_get hk] at h1
  have h2 : cmpI (tm ms (cntLt ms x)) x = 0 ↔ tm ms (cntLt ms x) = x := by
    unfold cmpI
    split
    · constructor <;> intro <;> omega
    · split
      · constructor <;> intro <;> omega
      · constructor <;> intro <;> omega
  rw [Bool.eq_iff_iff, beq_iff_eq, h2, h1]
theorem bef_hit {ms : List Mark} (hR : Rise ms) {x : Int} (h : foundL ms x = true) : ((cntLt ms x : Nat) : Int) = bef ms x := by
  rw [bef, cntLe_eq hR.1, h]; simp
theorem bef_miss {ms : List Mark} (hR : Rise ms) (hl : ms.length < 1000000000) {x : Int} (h : foundL ms x = false) : IntKind.i64.wrap (((cntLt ms x : Nat) : Int) - 1) = bef ms x := by
  have := cntLt_le ms x
  rw [wrap_i64 (by omega) (by omega), bef, cntLe_eq hR.1, h]; simp
theorem bef_lt {ms : List Mark} {x : Int} (h : ¬ bef ms x < 0) : (bef ms x).toNat < ms.length ∧ ((bef ms x).toNat : Int) = bef ms x := by
  have := cntLe_le ms x
  unfold bef at *
  omega
/-- The mark ahead of a time. -/
def befM (ms : List Mark) (x : Int) : Mark := if bef ms x < 0 then m0 else ms.getD (bef ms x).toNat m0
theorem befM_none {ms : List Mark} {x : Int} (h : bef ms x < 0) : befM ms x = m0 := by simp [befM, h]
theorem befM_some {ms : List Mark} {x : Int} (h : ¬ bef ms x < 0) : ms.getD (bef ms x).toNat m0 = befM ms x := by simp [befM, h]
theorem befM_mem {ms : List Mark} {x : Int} (h : ¬ bef ms x < 0) : befM ms x ∈ ms := by
  have := (bef_lt h).1
  rw [← befM_some h]
  simp [this]
def times (ms : List Mark) : List Int := ms.map (·.t)
theorem times_len (ms : List Mark) : (times ms).length = ms.length := by simp [times]
theorem times_snoc {ms : List Mark} {k : Nat} (hk : k < ms.length) : (times (ms.take (k + 1))).map (Value.int .u64) = (times (ms.take k)).map (.int .u64) ++ [.int .u64 (tm ms k)] := by
  rw [List.take_succ_eq_append_getElem hk, times, List.map_append, List.map_append, tm_get' hk]
  rfl
where tm_get' {ms : List Mark} {k : Nat} (hk : k < ms.length) : [ms[k]].map (·.t) = [tm ms k] := by simp [tm, hk]
end Go.Proofs.Ytkifhldkhemdlaa
namespace Go.Proofs.Ytkifhldkhemdlaa
open Go Go.VV
theorem same_step {l1 l2 : List Int} {k : Nat} (hj : ∀ j, j < k → l1.getD j 0 = l2.getD j 0) (h : l1.getD k 0 = l2.getD k 0) : ∀ j, j < k + 1 → l1.getD j 0 = l2.getD j 0 := fun j hjk => by
  rcases Nat.lt_or_ge j k with h1 | h1
  · exact hj j h1
  · have : j = k := by omega
    subst this; exact h
theorem same_len {l1 l2 : List Int} (h : l1.length ≠ l2.length) : decide (l1 = l2) = false := by
  simp only [decide_eq_false_iff_not]
  intro he; subst he; exact h rfl
theorem same_no {l1 l2 : List Int} {k : Nat} (h : l1.getD k 0 ≠ l2.getD k 0) : decide (l1 = l2) = false := by
  simp only [decide_eq_false_iff_not]
  intro he; subst he; exact h rfl
theorem same_yes {l1 l2 : List Int} {k : Nat} (h : l1.length = l2.length) (hj : ∀ j, j < k → l1.getD j 0 = l2.getD j 0) (hk : l1.length ≤ k) : decide (l1 = l2) = true := by
  simp only [decide_eq_true_eq]
  apply List.ext_getElem h
  intro j h1 h2
  have := hj j (by omega)
  simpa [h1, h2] using this
/-- What it costs to come to a time. -/
def costI (ms : List Mark) (x : Int) : Int := if bef ms x < 0 then 0 else min x (lastT ms) - (befM ms x).t
theorem lastT_le {ms : List Mark} (hR : Rise ms) {k : Nat} (hk : k < ms.length) : tm ms k ≤ lastT ms := by
  rw [lastT, if_neg (by omega)]
  rcases Nat.lt_or_ge k (ms.length - 1) with h | h
  · have := (List.pairwise_iff_getElem.1 hR.1) k (ms.length - 1) hk (by omega) h
    rw [tm_get hk, tm_get (by omega)] at this
    omega
  · have : k = ms.length - 1 := by omega
    subst this; exact Int.le_refl _
theorem bef_time {ms : List Mark} (hR : Rise ms) {x : Int} (h : ¬ bef ms x < 0) : (befM ms x).t ≤ x ∧ 0 ≤ (befM ms x).t ∧ (befM ms x).t ≤ lastT ms ∧ lastT ms ≤ 4611686018427387904 := by
  obtain ⟨h1, h2⟩ := bef_lt h
  have h3 := (cntLe_iff hR.1 x h1).2 (by unfold bef at *; omega)
  have h4 := hR.2 ms[(bef ms x).toNat] (List.getElem_mem _)
  have h5 := lastT_le hR h1
  have h6 : lastT ms ≤ 4611686018427387904 := by
    rw [lastT, if_neg (by omega), ← tm_get (by omega)]
    exact (hR.2 _ (List.getElem_mem _)).2
  rw [← befM_some h]
  rw [tm_get h1] at h3 h4
  unfold tm at h3 h4 h5
  exact ⟨h3, h4.1, h5, h6⟩
theorem cost_law {ms : List Mark} (hR : Rise ms) {x : Int} (h : ¬ bef ms x < 0) : costI ms x = IntKind.u64.wrap (min x (lastT ms) - tm ms (bef ms x).toNat) := by
  obtain ⟨h1, h2, h3, h4⟩ := bef_time hR h
  rw [costI, if_neg h]
  unfold tm
  rw [befM_some h, wrap_u64_id (by omega) (by omega)]
end Go.Proofs.Ytkifhldkhemdlaa
namespace Go.Proofs.Ytkifhldkhemdlaa
open Go Go.VV
theorem Before_none {ms : List Mark} {x : Int} (h : bef ms x < 0) : Value.tuple #[.int .u64 0, .slice none 0 0, .bool false] = .tuple #[.int .u64 (befM ms x).t, .slice none 0 0, .bool (decide (0 ≤ bef ms x))] := by
  rw [befM_none h]; simp [m0]; exact h
theorem Before_some {ms : List Mark} {x : Int} (h : ¬ bef ms x < 0) (dv : Value) : Value.tuple #[.int .u64 (tm ms (bef ms x).toNat), dv, .bool true] = .tuple #[.int .u64 (befM ms x).t, dv, .bool (decide (0 ≤ bef ms x))] := by
  rw [← befM_some h]; simp [tm]; omega
theorem Cost_none {ms : List Mark} {x : Int} (h : bef ms x < 0) : Value.tuple #[.int .u64 0, .bool false] = .tuple #[.int .u64 (costI ms x), .bool (decide (0 ≤ bef ms x))] := by
  simp [costI, h]
theorem Cost_some {ms : List Mark} (hR : Rise ms) {x : Int} (h : ¬ bef ms x < 0) : Value.tuple #[.int .u64 (IntKind.u64.wrap (min x (lastT ms) - tm ms (bef ms x).toNat)), .bool true] = .tuple #[.int .u64 (costI ms x), .bool (decide (0 ≤ bef ms x))] := by
  rw [← cost_law hR h]; simp; omega
end Go.Proofs.Ytkifhldkhemdlaa
