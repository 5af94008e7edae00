/- Marks in time: which ones stay, which one is ahead of a time. Plain lists. -/
import Derived.Test.YtkifhldkhemdlaaVvL
namespace Go.Proofs.Ytkifhldkhemdlaa
open Go Go.VV

structure Mark where
  t : Int
  a : Option Addr
  c : Nat
  l : List Int
def cm (m : Mark) : List Value := [.int .u64 m.t, .slice m.a m.l.length m.c]
theorem cm_len (m : Mark) : (cm m).length = 2 := rfl

/-- They rise, and none is beyond 2^62. -/
def Rise (ms : List Mark) : Prop := ms.Pairwise (fun x y => x.t < y.t) ∧ ∀ m ∈ ms, 0 ≤ m.t ∧ m.t ≤ 4611686018427387904
theorem Rise.sub {a b : List Mark} (h : Rise b) (hs : a.Sublist b) : Rise a := ⟨h.1.sublist hs, fun m hm => h.2 m (hs.subset hm)⟩
theorem Rise.nil : Rise [] := ⟨.nil, fun _ h => by cases h⟩

/-- The marks ahead of the last one, from behind: 'last', and the last one that is kept. -/
def thinR (last : Int) : Int → List Mark → List Mark
  | _, [] => []
  | _, [m] => [m]
  | behind, m :: p :: r => if behind - p.t ≤ 2 + last - behind then thinR last behind (p :: r) else m :: thinR last m.t (p :: r)
def thinL (ms : List Mark) : List Mark :=
  match ms.reverse with
  | [] => []
  | z :: r => (z :: thinR z.t z.t r).reverse
def cutL (cap : Nat) (ms : List Mark) : List Mark := ms.take 1 ++ ms.drop (1 + (ms.length - cap))

theorem thinR_sub (last : Int) : ∀ (r : List Mark) (b : Int), (thinR last b r).Sublist r
  | [], _ => List.Sublist.refl _
  | [m], _ => List.Sublist.refl _
  | m :: p :: r, b => by
    unfold thinR
    split
    · exact (thinR_sub last (p :: r) b).cons m
    · exact (thinR_sub last (p :: r) m.t).cons_cons m
theorem thinL_sub (ms : List Mark) : (thinL ms).Sublist ms := by
  unfold thinL
  cases h : ms.reverse with
  | nil => simp
  | cons z r =>
    have : ms = (z :: r).reverse := by rw [← h, List.reverse_reverse]
    rw [this]
    exact ((thinR_sub z.t r z.t).cons_cons z).reverse
theorem cutL_sub (cap : Nat) (ms : List Mark) : (cutL cap ms).Sublist ms := by
  unfold cutL
  have : ms = ms.take 1 ++ ms.drop 1 := (List.take_append_drop 1 ms).symm
  conv => rhs; rw [this]
  refine (List.Sublist.refl _).append ?_
  rw [← List.drop_drop]
  exact List.drop_sublist _ _

/-! ### which one is ahead of a time -/
def cntLt (ms : List Mark) (x : Int) : Nat := (ms.filter (fun m => decide (m.t < x))).length
def cntLe (ms : List Mark) (x : Int) : Nat := (ms.filter (fun m => decide (m.t ≤ x))).length
theorem cntLt_le (ms : List Mark) (x : Int) : cntLt ms x ≤ ms.length := List.length_filter_le _ _
theorem cntLe_le (ms : List Mark) (x : Int) : cntLe ms x ≤ ms.length := List.length_filter_le _ _
theorem cntLt_iff {ms : List Mark} (h : ms.Pairwise (fun x y => x.t < y.t)) (x : Int) : ∀ {k : Nat} (hk : k < ms.length), ms[k].t < x ↔ k < cntLt ms x := by
  induction ms with
  | nil => intro k hk; simp at hk
  | cons m ms ih =>
    intro k hk
    rw [List.pairwise_cons] at h
    unfold cntLt
    by_cases hm : m.t < x
    · rw [List.filter_cons_of_pos (by simpa using hm)]
      cases k with
      | zero => simp [hm]
      | succ k =>
        have := ih h.2 (k := k) (by simpa using hk)
        simp only [List.getElem_cons_succ, List.length_cons, Nat.add_lt_add_iff_right]
        exact this
    · rw [List.filter_cons_of_neg (by simpa using hm)]
      have h0 : ms.filter (fun m => decide (m.t < x)) = [] := by
        rw [List.filter_eq_nil_iff]
        intro y hy
        have := h.1 y hy
        simp; omega
      rw [h0]
      cases k with
      | zero => simp; omega
      | succ k =>
        have := h.1 (ms[k]'(by simpa using hk)) (List.getElem_mem _)
        simp; omega
theorem cntLe_iff {ms : List Mark} (h : ms.Pairwise (fun x y => x.t < y.t)) (x : Int) : ∀ {k : Nat} (hk : k < ms.length), ms[k].t ≤ x ↔ k < cntLe ms x := by
  intro k hk
  have h1 := cntLt_iff h (x + 1) hk
  have h2 : cntLt ms (x + 1) = cntLe ms x := by
    unfold cntLt cntLe
    congr 2
    funext m
    simp only [decide_eq_decide]
    omega
  rw [h2] at h1
  rw [← h1]
  omega
theorem lt_le (ms : List Mark) (x : Int) : cntLt ms x ≤ cntLe ms x := by
  unfold cntLt cntLe
  induction ms with
  | nil => simp
  | cons m ms ih =>
    simp only [List.filter_cons]
    split <;> split <;> simp_all <;> omega
/-- What is found, and where. -/
def foundL (ms : List Mark) (x : Int) : Bool := decide (cntLt ms x < cntLe ms x)
theorem found_iff {ms : List Mark} (h : ms.Pairwise (fun x y => x.t < y.t)) (x : Int) (hk : cntLt ms x < ms.length) : ms[cntLt ms x].t = x ↔ foundL ms x = true := by
  have h1 := cntLt_iff h x hk
  have h2 := cntLe_iff h x hk
  simp only [foundL, decide_eq_true_eq]
  omega
theorem found_end {ms : List Mark} {x : Int} (hk : ¬ cntLt ms x < ms.length) : foundL ms x = false := by
  have := cntLe_le ms x
  simp only [foundL, decide_eq_false_iff_not]
  omega
theorem cntLe_eq {ms : List Mark} (h : ms.Pairwise (fun x y => x.t < y.t)) (x : Int) : cntLe ms x = cntLt ms x + (if foundL ms x then 1 else 0) := by
  have h0 := lt_le ms x
  have hl := cntLe_le ms x
  simp only [foundL, decide_eq_true_eq]
  split
  · rename_i hlt
    have hk : cntLt ms x < ms.length := by omega
    by_cases h2 : cntLt ms x + 1 < cntLe ms x
    · exfalso
      have hk2 : cntLt ms x + 1 < ms.length := by omega
      have a1 := cntLt_iff h x hk
      have a2 := cntLe_iff h x hk2
      have a3 := (List.pairwise_iff_getElem.1 h) _ _ hk hk2 (by omega)
      omega
    · omega
  · omega
/-- The place of the last mark that isn't behind a time. -/
def bef (ms : List Mark) (x : Int) : Int := (cntLe ms x : Int) - 1
end Go.Proofs.Ytkifhldkhemdlaa
