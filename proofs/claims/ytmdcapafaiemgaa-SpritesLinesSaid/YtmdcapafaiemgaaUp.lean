/- The document's line: the uppermost sprite, a place's shade; it is the program's. No program. -/
import Derived.Test.YtmdcapafaiemgaaSort
namespace Go.Proofs.Ytmdcapafaiemgaa
open Go Go.VV

theorem up_range {q : Int → Bool} {xk : Int → Int} {l : List Int} (hl : ∀ n ∈ l, 0 ≤ n ∧ n < 40) : -1 ≤ upper q xk l ∧ upper q xk l < 40 := by
  suffices h : ∀ (l : List Int) (b : Int), (∀ n ∈ l, 0 ≤ n ∧ n < 40) → -1 ≤ b ∧ b < 40 → -1 ≤ l.foldl (upStep q xk) b ∧ l.foldl (upStep q xk) b < 40 from h l (-1) hl (by omega)
  intro l
  induction l with
  | nil => exact fun b _ h => h
  | cons a l ih =>
    intro b hl hb
    refine ih _ (fun n hn => hl n (by simp [hn])) ?_
    have := hl a (by simp)
    unfold upStep; split <;> omega
theorem take_range {l : List Int} (hl : ∀ n ∈ l, 0 ≤ n ∧ n < 40) (k : Nat) : ∀ n ∈ l.take k, 0 ≤ n ∧ n < 40 := fun n hn => hl n (List.mem_of_mem_take hn)
theorem up_next {q : Int → Bool} {xk : Int → Int} {l : List Int} {k : Nat} (hk : k < l.length) : upper q xk (l.take (k + 1)) = upStep q xk (upper q xk (l.take k)) (l.getD k 0) := by
  rw [List.take_succ_eq_append_getElem hk, upper_snoc, List.getD_eq_getElem?_getD, List.getElem?_eq_getElem hk]; rfl
theorem up_yes {q : Int → Bool} {xk : Int → Int} {l : List Int} {k : Nat} (hk : k < l.length) (h : q (l.getD k 0) = true) (h2 : upper q xk (l.take k) < 0 ∨ xk (l.getD k 0) < xk (upper q xk (l.take k))) : l.getD k 0 = upper q xk (l.take (k + 1)) := by
  rw [up_next hk, upStep, if_pos ⟨h, h2⟩]
theorem up_no {q : Int → Bool} {xk : Int → Int} {l : List Int} {k : Nat} (hk : k < l.length) (h : ¬ (q (l.getD k 0) = true ∧ (upper q xk (l.take k) < 0 ∨ xk (l.getD k 0) < xk (upper q xk (l.take k))))) : upper q xk (l.take k) = upper q xk (l.take (k + 1)) := by
  rw [up_next hk, upStep, if_neg h]
theorem upper_congr {q q' : Int → Bool} {xk : Int → Int} {l : List Int} (h : ∀ n ∈ l, q n = q' n) : upper q xk l = upper q' xk l := by
  suffices hh : ∀ (l : List Int) (b : Int), (∀ n ∈ l, q n = q' n) → l.foldl (upStep q xk) b = l.foldl (upStep q' xk) b from hh l (-1) h
  intro l
  induction l with
  | nil => exact fun _ _ => rfl
  | cons a l ih =>
    intro b hl
    rw [List.foldl_cons, List.foldl_cons]
    have : upStep q xk b a = upStep q' xk b a := by unfold upStep; rw [hl a (by simp)]
    rw [this]
    exact ih _ (fun n hn => hl n (by simp [hn]))

def qR (l oam : List Int) (c x line : Int) (n : Int) : Bool := spDot l oam c n x line != 0
def upS (l oam : List Int) (c x line : Int) : Int := upper (qR l oam c x line) (fun n => oB oam n 1) (scan oam c line)
theorem upS_range (l oam : List Int) (c x line : Int) : -1 ≤ upS l oam c x line ∧ upS l oam c x line < 40 := up_range scan_range
def refS (l oam : List Int) (c bk f s2 line : Int) (bl : List Int) (i : Nat) : Int :=
  if rBit c 1 = 0 ∨ upS l oam c i line < 0 then shd bk (bl.getD i 0) else
  if rBit (oB oam (upS l oam c i line) 3) 7 = 1 ∧ bl.getD i 0 % 4 ≠ 0 then shd bk (bl.getD i 0) else
  if rBit (oB oam (upS l oam c i line) 3) 4 = 1 then shd s2 (spDot l oam c (upS l oam c i line) i line) else shd f (spDot l oam c (upS l oam c i line) i line)
theorem ref_1 {l oam : List Int} {c bk f s2 line : Int} {bl : List Int} {i : Nat} (h : rBit c 1 = 0 ∨ upS l oam c i line < 0) : shd bk (bl.getD i 0) = refS l oam c bk f s2 line bl i := by rw [refS, if_pos h]
theorem ref_2 {l oam : List Int} {c bk f s2 line : Int} {bl : List Int} {i : Nat} (h : ¬ (rBit c 1 = 0 ∨ upS l oam c i line < 0)) (h2 : rBit (oB oam (upS l oam c i line) 3) 7 = 1 ∧ bl.getD i 0 % 4 ≠ 0) : shd bk (bl.getD i 0) = refS l oam c bk f s2 line bl i := by rw [refS, if_neg h, if_pos h2]
theorem ref_3 {l oam : List Int} {c bk f s2 line : Int} {bl : List Int} {i : Nat} (h : ¬ (rBit c 1 = 0 ∨ upS l oam c i line < 0)) (h2 : ¬ (rBit (oB oam (upS l oam c i line) 3) 7 = 1 ∧ bl.getD i 0 % 4 ≠ 0)) {b : Bool} (h3 : (rBit (oB oam (upS l oam c i line) 3) 4 == 1) = b) :
    (bif b then shd s2 (spDot l oam c (upS l oam c i line) i line) else shd f (spDot l oam c (upS l oam c i line) i line)) = refS l oam c bk f s2 line bl i := by
  rw [refS, if_neg h, if_neg h2]
  subst h3
  by_cases h : rBit (oB oam (upS l oam c i line) 3) 4 = 1
  · simp [h]
  · have h1 : (rBit (oB oam (upS l oam c i line) 3) 4 == 1) = false := by simpa using h
    rw [if_neg h, h1]; rfl
theorem hit_q (l oam : List Int) (c x line : Int) {n : Int} (h : 0 ≤ n ∧ n < 40) : hit l c x line (sp oam n) = qR l oam c x line n := by
  unfold hit qR
  rw [← spDot_in (by omega)]; rfl
theorem ref_eq (l oam : List Int) (c bk f s2 line : Int) (bl : List Int) (i : Nat) : refS l oam c bk f s2 line bl i = lineS l oam c bk f s2 line bl i := by
  unfold lineS refS
  by_cases hc : rBit c 1 = 1
  · have hs : shownS oam c line = (scan oam c line).map (sp oam) := by rw [shownS, if_pos hc]
    rw [hs, upper_law oam (hit l c i line) (scan oam c line) (fun n hn => (scan_range n hn).1)]
    have hu : upper (fun n => hit l c i line (sp oam n)) (fun n => oB oam n 1) (scan oam c line) = upS l oam c i line := upper_congr fun n hn => hit_q l oam c i line (scan_range n hn)
    rw [hu]
    have hr := upS_range l oam c i line
    generalize upS l oam c i line = u at *
    by_cases h0 : u < 0
    · rw [if_pos h0, if_pos (.inr h0)]; rfl
    · rw [if_neg h0, if_neg (by omega)]
      have e : sDot l c (sp oam u).y (sp oam u).x (sp oam u).t (sp oam u).h i line = spDot l oam c u i line := spDot_in (by omega)
      simp only [seenS, e]
      rfl
  · have hc0 : rBit c 1 = 0 := by rcases rBit_01 c 1 with h | h <;> omega
    have hs : shownS oam c line = [] := by rw [shownS, if_neg hc]
    rw [if_pos (.inl hc0), hs]; rfl

/-! ### no sprites -/
theorem bandn2 {c : Int} (hc : 0 ≤ c ∧ c < 256) : (0 ≤ bandn .u8 c 2 ∧ bandn .u8 c 2 < 256) ∧ rBit (bandn .u8 c 2) 1 = 0 := by
  have := byte_all (p := fun h => decide (0 ≤ bandn .u8 h 2 ∧ bandn .u8 h 2 < 256) && decide (rBit (bandn .u8 h 2) 1 = 0) = true) (by decide +kernel) hc.1 hc.2
  simp only [Bool.and_eq_true, decide_eq_true_eq] at this
  exact this
theorem line_off (l oam : List Int) {c bk f s2 line : Int} {bl : List Int} (h : rBit c 1 = 0) : lineL l oam c bk f s2 line bl = (List.range 160).map (fun i => Value.int .u8 (shd bk (bl.getD i 0))) := by
  have hs : shownS oam c line = [] := by rw [shownS, if_neg (by omega)]
  unfold lineL lineS
  rw [hs]; rfl
theorem line_none {l oam : List Int} {c bk f s2 line : Int} {bl : List Int} (h : shownS oam c line = []) : lineL l oam c bk f s2 line bl = (List.range 160).map (fun i => Value.int .u8 (shd bk (bl.getD i 0))) := by
  unfold lineL lineS
  rw [h]; rfl
theorem line_nil (l : List Int) {c bk f s2 line : Int} (bl : List Int) (h : 0 ≤ line) : lineL l [] c bk f s2 line bl = (List.range 160).map (fun i => Value.int .u8 (shd bk (bl.getD i 0))) := by
  refine line_none ?_
  unfold shownS
  split
  · have hf : (List.range 40).filter (hasB [] c line) = [] := by
      rw [List.filter_eq_nil_iff]
      intro n _
      have hg := hgt_two c
      simp [hasB, oB]; omega
    simp [scan, scanK, hf]
  · rfl
theorem shds_get {bk : Int} {bl : List Int} {k : Nat} (h : k < 160) : ((List.range 160).map (fun i => Value.int .u8 (shd bk (bl.getD i 0))))[k]? = some (.int .u8 (shd bk (bl.getD k 0))) := by
  rw [List.getElem?_map, List.getElem?_range h]; rfl
theorem shds_ones (bk : Int) (bl : List Int) : ones ((List.range 160).map (fun i => Value.int .u8 (shd bk (bl.getD i 0)))) = true := by
  refine List.all_eq_true.2 fun x hx => ?_
  obtain ⟨i, _, rfl⟩ := List.mem_map.1 hx; rfl
end Go.Proofs.Ytmdcapafaiemgaa
