/- The document's line: the uppermost sprite, a place's shade; it is the program's. No program. -/
import Derived.Test.YtmdcapafaiemgaaSort
namespace Go.Proofs.Ytmdcapafaiemgaa
open Go Go.VV

theorem up_range {q : Int → Bool} {xk : Int → Int} {l : List Int} (hl : ∀ n ∈ l, 0 ≤ n ∧ n < 40) : -1 ≤ upper q xk l ∧ upper q xk l < 40 := by
  suffices h : ∀ (l : List Int) (b : Int), (∀ n ∈ l, 0 ≤ n ∧ n < 40) → -1 ≤ b ∧ b < 40 → -1 ≤ l.foldl (upStep q xk) b ∧ l.foldl (upStep q xk) b < 40 from h l (-1) hl (by omega)
  intro l
  induction l with
  | nil => exact fun b _ h => h
  | cons a l ih =>
    intro b hl hb
    refine ih _ (fun n hn => hl n (by simp [hn])) ?_
    have := hl a (by simp)
    unfold upStep; split <;> omega
theorem take_range {l : List Int} (hl : ∀ n ∈ l, 0 ≤ n ∧ n < 40) (k : Nat) : ∀ n ∈ l.take k, 0 ≤ n ∧ n < 40 := fun n hn => hl n (List.mem_of_mem_take hn)
theorem up_next {q : Int → Bool} {xk : Int → Int} {l : List Int} {k : Nat} (hk : k < l.length) : upper q xk (l.take (k + 1)) = upStep q xk (upper q xk (l.take k)) (l.getD k 0) := by
  rw [List.take_succ_eq_append_getElem hk, upper_snoc, List.getD_eq_getElem?_getD, List.getElem?_eq_getElem hk]; rfl
theorem up_yes {q : Int → Bool} {xk : Int → Int} {l : List Int} {k : Nat} (hk : k < l.length) (h : q (l.getD k 0) = true) (h2 : upper q xk (l.take k) < 0 ∨ xk (l.getD k 0) < xk (upper q xk (l.take k))) : l.getD k 0 = upper q xk (l.take (k + 1)) := by
  rw [up_next hk, upStep, if_pos ⟨h, h2⟩]
theorem up_no {q : Int → Bool} {xk : Int → Int} {l : List Int} {k : Nat} (hk : k < l.length) (h : ¬ (q (l.getD k 0) = true ∧ (upper q xk (l.take k) < 0 ∨ xk (l.getD k 0) < xk (upper q xk (l.take k))))) : upper q xk (l.take k) = upper q xk (l.take (k + 1)) := by
  rw [up_next hk, upStep, if_neg h]
theorem upper_congr {q q' : Int → Bool} {xk : Int → Int} {l : List Int} (h : ∀ n ∈ l, q n = q' n) : upper q xk l = upper q' xk l := by
  suffices hh : ∀ (l : List Int) (b : Int), (∀ n ∈ l, q n = q' n) → l.foldl (upStep q xk) b = l.foldl (upStep q' xk) b from hh l (-1) h
  intro l
  induction l with
  | nil => exact fun _ _ => rfl
  | cons a l ih =>
    intro b hl
    rw [List.foldl_cons, List.foldl_cons]
    have : upStep q xk b a = upStep q' xk b a := by unfold upStep; rw [hl a (by simp)]
    rw [this]
    exact ih _ (fun n hn => hl n (by simp [hn]))

def qR (l oam : List Int) (c x line : Int) (n : Int) : Bool := spDot l oam c n x line != 0
def upS (l oam : List Int) (c x line : Int) : Int := upper (qR l oam c x line) (fun n => oB oam n 1) (scan oam c line)
theorem upS_range (l oam : List Int) (c x line : Int) : -1 ≤ upS l oam c x line ∧ upS l oam c x line < 40 := up_range scan_range
def refS (l oam : List Int) (c bk f s2 line : Int) (bl : List Int) (i : Nat) : Int :=
  if rBit c 1 = 0 ∨ upS l oam c i line < 0 then shd bk (bl.getD i 0) else
  if rBit (oB oam (upS l oam c i line) 3) 7 = 1 ∧ bl.getD i 0 % 4 ≠ 0 then shd bk (bl.getD i 0) else
  if rBit (oB oam (upS l oam c i line) 3) 4 = 1 then shd s2 (spDot l oam c (upS l oam c i line) i line) else shd f (spDot l oam c (upS l oam c i line) i line)
theorem ref_1 {l oam : List Int} {c bk f s2 line : Int} {bl : List Int} {i : Nat} (h : rBit c 1 = 0 ∨ upS l oam c i line < 0) : shd bk (bl.getD i 0) = refS l oam c bk f s2 line bl i := by rw [refS, if_pos h]
theorem ref_2 {l oam : List Int} {c bk f s2 line : Int} {bl : List Int} {i : Nat} (h : ¬ (rBit c 1 = 0 ∨ upS l oam c i line < 0)) (h2 : rBit (oB oam (upS l oam c i line) 3) 7 = 1 ∧ bl.getD i 0 % 4 ≠ 0) : shd bk (bl.getD i 0) = refS l oam c bk f s2 line bl i := by rw [refS, if_neg h, if_pos h2]
theorem ref_3 {l oam : List Int} {c bk f s2 line : Int} {bl : List Int} {i : Nat} (h : ¬ (rBit c 1 = 0 ∨ upS l oam c i line < 0)) (h2 : ¬ (rBit (oB oam (upS l oam c i line) 3) 7 = 1 ∧ bl.getD i 0 % 4 ≠ 0)) {b : Bool} (h3 : (rBit (oB oam (upS l oam c i line) 3) 4 == 1) = b) :
    (bif b then shd s2 (spDot l oam c (upS l oam c i line) i line) else shd f (spDot l oam c (upS l oam c i line) i line)) = refS l oam c bk f s2 line bl i := by
  rw [refS, if_neg h, if_neg h2]
  subst h3
  by_cases h : rBit (oB oam (upS l oam c i line) 3) 4 = 1
  · simp [h]
  · have h1 : (rBit (oB oam (upS l oam c i line) 3) 4 == 1) = false := by simpa using h
    rw [if_neg h, h1]; rfl
theorem hit_q (l oam : List Int) (c x line : Int) {n : Int} (h : 0 ≤ n ∧ n < 40) : hit l c x line (sp oam n) = qR l oam c x line n := by
  unfold hit qR
  rw [← spDot_in (by omega)]; rfl
theorem ref_eq (l oam : List Int) (c bk f s2 line : Int) (bl : List Int) (i : Nat) : refS l oam c bk f s2 line bl i = lineS l oam c bk f s2 line bl i := by
  unfold lineS refS
  by_cases hc : rBit c 1 = 1
  · have hs : shownS oam c line = (scan oam c line).map (sp oam) := by rw [shownS, if_pos hc]
    rw [hs, upper_law oam (hit l c i line) (scan oam c line) (fun n hn => (scan_range n hn).1)]
    have hu : upper (fun n => hit l c i line (sp oam n)) (fun n => oB oam n 1) (scan oam c line) = upS l oam c i line := upper_congr fun n hn => hit_q l oam c i line (scan_range n hn)
    rw [hu]
    have hr := upS_range l oam c i line
    generalize upS l oam c i line = u at *
    by_cases h0 : u < 0
    · rw [if_pos h0, if_pos (.inr h0)]; rfl
    · rw [if_neg h0, if_neg (by omega)]
      have e : sDot l c (sp oam u).y (sp oam u).x (sp oam u).t (sp oam u).h i line = spDot l oam c u i line := spDot_in (by omega)
      simp only [seenS, e]
      rfl
  · have hc0 : rBit c 1 = 0 := by rcases rBit_01 c 1 with h | h <;> omega
    have hs : shownS oam c line = [] := by rw [shownS, if_neg hc]
    rw [if_pos (.inl hc0), hs]; rfl

/-! ### no sprites -/
theorem bandn2 {c : Int} (hc : 0 ≤ c ∧ c < 256) : (0 ≤ bandn .u8 c 2 ∧ bandn .u8 c 2 < 256) ∧ rBit (bandn .u8 c 2) 1 = 0 := by
  have := byte_all (p := fun h => decide (0 ≤ bandn .u8 h 2 ∧ bandn .u8 h 2 < 256) && decide (rBit (bandn .u8 h 2) 1 = 0) = true) (by decide +kernel) hc.1 hc.2
  simp only [Bool.and_eq_true, decide_eq_true_eq] at this
  exact this
theorem line_off (l oam : List Int) {c bk f s2 line : Int} {bl : List Int} (h : rBit c 1 = 0) : lineL l oam c bk f s2 line bl = (List.range 160).map (fun i => Value.int .u8 (shd bk (bl.getD i 0))) := by
  have hs : shownS oam c line = [] := by rw [shownS, if_neg (by omega)]
  unfold lineL lineS
  rw [hs]; rfl
theorem line_none {l oam : List Int} {c bk f s2 line : Int} {bl : List Int} (h : shownS oam c line = []) : lineL l oam c bk f s2 line bl = (List.range 160).map (fun i => Value.int .u8 (shd bk (bl.getD i 0))) := by
  unfold lineL lineS
  rw [h]; rfl
theorem line_nil (l : List Int) {c bk f s2 line : Int} (bl : List Int) (h : 0 ≤ line) : lineL l [] c bk f s2 line bl = (List.range 160).map (fun i => Value.int .u8 (shd bk (bl.getD i 0))) := by
  refine line_none ?_
  unfold shownS
  split
  · have hf : (List.range 40).filter (hasB [] c line) = [] := by
      rw [List.filter_eq_nil_iff]
      intro n _
      have hg := hgt_two c
      simp [hasB, oB]; omega
    simp [scan, scanK, hf]
  · rfl
theorem shds_get {bk : Int} {bl : List Int} {k : Nat} (h : k < 160) : ((List.range 160).map (fun i => Value.int .u8 (shd bk (bl.getD i 0))))[k]? = some (.int .u8 (shd bk (bl.getD k 0))) := by
  rw [List.getElem?_map, List.getElem?_range h]; rfl
theorem shds_ones (bk : Int) (bl : List Int) : ones ((List.range 160).map (fun i => Value.int .u8 (shd bk (bl.getD i 0)))) = true := by
  refine List.all_eq_true.2 fun x hx => ?_
  obtain ⟨i, _, rfl⟩ := List.mem_map.1 hx; rfl

/-! ### two sprites on one line -/
theorem bor2 {c : Int} (hc : 0 ≤ c ∧ c < 256) : (0 ≤ bor .u8 c 2 ∧ bor .u8 c 2 < 256) ∧ rBit (bor .u8 c 2) 1 = 1 := by
  have := byte_all (p := fun h => decide (0 ≤ bor .u8 h 2 ∧ bor .u8 h 2 < 256) && decide (rBit (bor .u8 h 2) 1 = 1) = true) (by decide +kernel) hc.1 hc.2
  simp only [Bool.and_eq_true, decide_eq_true_eq] at this
  exact this
theorem band127 {c : Int} (hc : 0 ≤ c ∧ c < 256) : 0 ≤ band .u8 c 127 ∧ band .u8 c 127 < 256 := by
  have := byte_all (p := fun h => decide (0 ≤ band .u8 h 127 ∧ band .u8 h 127 < 256) = true) (by decide +kernel) hc.1 hc.2
  simpa using this
theorem scanK_stop {oam : List Int} {c line : Int} {k m : Nat} (h : ∀ n, k ≤ n → hasB oam c line n = false) (hm : k ≤ m) : scanK oam c line m = scanK oam c line k := by
  induction m with
  | zero => have : k = 0 := by omega
            subst this; rfl
  | succ m ih =>
    by_cases hk : k = m + 1
    · subst hk; rfl
    · rw [scanK_no (h m (by omega)), ih (by omega)]
theorem has_none {oam : List Int} {c line : Int} {n : Nat} (hl : 0 ≤ line) (h : oam.length ≤ 4 * n) : hasB oam c line n = false := by
  have hg := hgt_two c
  have e : oB oam (n : Int) 0 = 0 := by simp [oB, List.getD_eq_getElem?_getD, List.getElem?_eq_none h]
  simp [hasB, e]; omega
theorem has_16 {oam : List Int} {c line : Int} {n : Nat} (hl : 0 ≤ line ∧ line < 8) (h : oB oam (n : Int) 0 = 16) : hasB oam c line n = true := by
  have hg := hgt_two c
  simp [hasB, h]; omega
theorem scan_two {c line x1 t1 h1 x2 t2 h2 : Int} (hl : 0 ≤ line ∧ line < 8) : scan [16, x1, t1, h1, 16, x2, t2, h2] c line = [0, 1] := by
  unfold scan
  rw [scanK_stop (k := 2) (fun n hn => has_none hl.1 (by simp; omega)) (by omega), scanK_yes (has_16 hl (by simp [oB])), scanK_yes (k := 0) (has_16 hl (by simp [oB]))]
  rfl
theorem scan_one {c line x1 t1 h1 : Int} (hl : 0 ≤ line ∧ line < 8) : scan [16, x1, t1, h1] c line = [0] := by
  unfold scan
  rw [scanK_stop (k := 1) (fun n hn => has_none hl.1 (by simp; omega)) (by omega), scanK_yes (k := 0) (has_16 hl (by simp [oB]))]
  rfl
theorem isort_two (a b : Sp) : isort [a, b] = if b.x < a.x then [b, a] else [a, b] := by
  simp only [isort, List.foldl_cons, List.foldl_nil, insB, List.reverse_nil, List.reverse_cons, List.nil_append]
  split <;> simp
theorem zeros_getD (i : Nat) : (List.replicate 160 (0 : Int)).getD i 0 = 0 := by
  rw [List.getD_eq_getElem?_getD, List.getElem?_replicate]; split <;> rfl
/-- What is seen, where all that is below is 0, of one sprite. -/
def lone (l : List Int) (c bk f s2 x line : Int) (s : Sp) : Int :=
  if hit l c x line s = true then (if rBit s.h 4 = 1 then shd s2 (sDot l c s.y s.x s.t s.h x line) else shd f (sDot l c s.y s.x s.t s.h x line)) else shd bk 0
theorem seen_lone {l : List Int} {c bk f s2 x line : Int} {s : Sp} (h : hit l c x line s = true) : seenS l c bk f s2 x line 0 (some s) = lone l c bk f s2 x line s := by simp [seenS, lone, h]
theorem line_one {l : List Int} {c bk f s2 line x1 t1 h1 : Int} (hc1 : rBit c 1 = 1) (hl : 0 ≤ line ∧ line < 8) (i : Nat) :
    lineS l [16, x1, t1, h1] c bk f s2 line (List.replicate 160 0) i = lone l c bk f s2 i line ⟨0, 0, x1 - 8, t1, h1⟩ := by
  unfold lineS
  rw [shownS, if_pos hc1, scan_one hl, zeros_getD]
  have e : [0].map (sp [16, x1, t1, h1]) = [⟨0, 0, x1 - 8, t1, h1⟩] := by simp [sp, oB]
  rw [e]
  show seenS l c bk f s2 i line 0 (List.find? _ [_]) = _
  rw [List.find?_cons]
  cases hq : hit l c i line ⟨0, 0, x1 - 8, t1, h1⟩ with
  | true => exact seen_lone hq
  | false => simp [seenS, lone, hq]
theorem lone_n {l : List Int} {c bk f s2 x line : Int} (n m y x0 t h : Int) : lone l c bk f s2 x line ⟨n, y, x0, t, h⟩ = lone l c bk f s2 x line ⟨m, y, x0, t, h⟩ := rfl
theorem line_two {l : List Int} {c bk f s2 line x1 t1 h1 x2 t2 h2 : Int} (hc1 : rBit c 1 = 1) (hl : 0 ≤ line ∧ line < 8) (i : Nat) :
    lineS l [16, x1, t1, h1, 16, x2, t2, h2] c bk f s2 line (List.replicate 160 0) i =
      if hit l c i line ⟨0, 0, x2 - 8, t2, h2⟩ = true ∧ (¬ hit l c i line ⟨0, 0, x1 - 8, t1, h1⟩ = true ∨ x2 < x1) then lone l c bk f s2 i line ⟨0, 0, x2 - 8, t2, h2⟩ else lone l c bk f s2 i line ⟨0, 0, x1 - 8, t1, h1⟩ := by
  unfold lineS
  rw [shownS, if_pos hc1, scan_two hl, zeros_getD]
  have e : [0, 1].map (sp [16, x1, t1, h1, 16, x2, t2, h2]) = [⟨0, 0, x1 - 8, t1, h1⟩, ⟨1, 0, x2 - 8, t2, h2⟩] := by simp [sp, oB]
  rw [e, isort_two]
  have hx : x2 - 8 < x1 - 8 ↔ x2 < x1 := by omega
  have hh : hit l c i line ⟨1, 0, x2 - 8, t2, h2⟩ = hit l c i line ⟨0, 0, x2 - 8, t2, h2⟩ := rfl
  have h1' := @seen_lone l c bk f s2 i line ⟨0, 0, x1 - 8, t1, h1⟩
  have h2' := @seen_lone l c bk f s2 i line ⟨1, 0, x2 - 8, t2, h2⟩
  rw [hh, lone_n 1 0] at h2'
  simp only [hx]
  by_cases hlt : x2 < x1
  · rw [if_pos hlt, List.find?_cons, List.find?_cons, hh]
    cases ha : hit l c i line ⟨0, 0, x1 - 8, t1, h1⟩ <;> cases hb : hit l c i line ⟨0, 0, x2 - 8, t2, h2⟩
    · simp [seenS, lone, ha]
    · simp only [h2' hb]; simp [hlt]
    · simp only [h1' ha]; simp
    · simp only [h2' hb]; simp [hlt]
  · rw [if_neg hlt, List.find?_cons, List.find?_cons, hh]
    cases ha : hit l c i line ⟨0, 0, x1 - 8, t1, h1⟩ <;> cases hb : hit l c i line ⟨0, 0, x2 - 8, t2, h2⟩
    · simp [seenS, lone, ha]
    · simp only [h2' hb]; simp
    · simp only [h1' ha]; simp
    · simp only [h1' ha]; simp [hlt]
theorem dot_0 {l : List Int} {c x line x1 t1 h1 x2 t2 h2 : Int} : (spDot l [16, x1, t1, h1, 16, x2, t2, h2] c 0 x line != 0) = hit l c x line ⟨0, 0, x1 - 8, t1, h1⟩ := by
  simp [spDot, oB, hit]
theorem dot_1 {l : List Int} {c x line x1 t1 h1 x2 t2 h2 : Int} : (spDot l [16, x1, t1, h1, 16, x2, t2, h2] c 1 x line != 0) = hit l c x line ⟨0, 0, x2 - 8, t2, h2⟩ := by
  simp [spDot, oB, hit]
theorem left_yes {l : List Int} {c bk f s2 line x1 t1 h1 x2 t2 h2 : Int} (hc1 : rBit c 1 = 1) (hl : 0 ≤ line ∧ line < 8) (i : Nat) (h : (spDot l [16, x1, t1, h1, 16, x2, t2, h2] c 1 i line != 0) = true) (h' : (spDot l [16, x1, t1, h1, 16, x2, t2, h2] c 0 i line != 0) = false ∨ x2 < x1) :
    lineS l [16, x1, t1, h1, 16, x2, t2, h2] c bk f s2 line (List.replicate 160 0) i = lineS l [16, x2, t2, h2] c bk f s2 line (List.replicate 160 0) i := by
  rw [dot_1] at h
  rw [dot_0] at h'
  rw [line_two hc1 hl, line_one hc1 hl, if_pos ⟨h, by rcases h' with h' | h' <;> simp [h']⟩]
theorem left_no {l : List Int} {c bk f s2 line x1 t1 h1 x2 t2 h2 : Int} (hc1 : rBit c 1 = 1) (hl : 0 ≤ line ∧ line < 8) (i : Nat) (h : (spDot l [16, x1, t1, h1, 16, x2, t2, h2] c 1 i line != 0) = false ∨ ((spDot l [16, x1, t1, h1, 16, x2, t2, h2] c 0 i line != 0) = true ∧ ¬ x2 < x1)) :
    lineS l [16, x1, t1, h1, 16, x2, t2, h2] c bk f s2 line (List.replicate 160 0) i = lineS l [16, x1, t1, h1] c bk f s2 line (List.replicate 160 0) i := by
  rw [dot_1, dot_0] at h
  rw [line_two hc1 hl, line_one hc1 hl, if_neg (by rcases h with h | ⟨h, h'⟩ <;> simp_all)]
theorem lineL_get (l oam : List Int) (c bk f s2 line : Int) (bl : List Int) {k : Nat} (h : k < 160) : (lineL l oam c bk f s2 line bl)[k]? = some (.int .u8 (lineS l oam c bk f s2 line bl k)) := by
  unfold lineL
  rw [List.getElem?_map, List.getElem?_range h]; rfl
theorem lineL_len (l oam : List Int) (c bk f s2 line : Int) (bl : List Int) : (lineL l oam c bk f s2 line bl).length = 160 := by simp [lineL]
theorem lineL_ones (l oam : List Int) (c bk f s2 line : Int) (bl : List Int) : ones (lineL l oam c bk f s2 line bl) = true := by
  refine List.all_eq_true.2 fun x hx => ?_
  obtain ⟨i, _, rfl⟩ := List.mem_map.1 hx; rfl
theorem zeros_byts : Byts (List.replicate 160 (0 : Int)) := by
  intro x hx
  obtain ⟨_, rfl⟩ := List.mem_replicate.1 hx
  omega
end Go.Proofs.Ytmdcapafaiemgaa
