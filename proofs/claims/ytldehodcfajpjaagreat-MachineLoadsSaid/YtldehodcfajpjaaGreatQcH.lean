/- What three bytes begin with: sizes, kinds, numbers. Plain lists. -/
import Derived.Test.YtldehodcfajpjaaGreatQcG
set_option linter.unusedSimpArgs false
set_option linter.unusedVariables false
set_option maxRecDepth 100000
namespace Go.Proofs.YtldehodcfajpjaaGreat
open Go Go.VV
structure Sp where
 n : Int
 y : Int
 x : Int
 t : Int
 h : Int
def spc (s : Sp) : List Value := [.int .i64 s.n, .int .i64 s.y, .int .i64 s.x, .int .i64 s.t, .int .u8 s.h]
theorem spc_len (s : Sp) : (spc s).length = 5 := rfl
def sp (oam : List Int) (n : Int) : Sp := ⟨n, oB oam n 0 - 16, oB oam n 1 - 8, oB oam n 2, oB oam n 3⟩
def cmpI (a b : Int) : Int := if a < b then -1 else if b < a then 1 else 0
theorem cmpI_lt (a b : Int) : decide (cmpI a b < 0) = decide (a < b) := by
 unfold cmpI; split
 ·simp_all
 ·split <;> simp_all
def insB (e : Sp) : List Sp → List Sp → List Sp
 | [], B => e :: B
 | a :: ra, B => if e.x < a.x then insB e ra (a :: B) else (a :: ra).reverse ++ e :: B
def isort (l : List Sp) : List Sp := l.foldl (fun S e => insB e S.reverse []) []
theorem insB_step (e a : Sp) (A B : List Sp) (h : e.x < a.x) : insB e (A ++ [a]).reverse B = insB e A.reverse (a :: B) := by simp [insB, h]
theorem insB_stop (e a : Sp) (A B : List Sp) (h : ¬ e.x < a.x) : insB e (A ++ [a]).reverse B = (A ++ [a]) ++ e :: B := by simp [insB, h]
theorem insB_len (e : Sp) (ra B : List Sp) : (insB e ra B).length = ra.length + 1 + B.length := by
 induction ra generalizing B with
 | nil => simp [insB]; omega
 | cons a ra ih =>
  simp only [insB]
  split
  ·rw [ih]; simp; omega
  ·simp; omega
theorem isort_snoc (l : List Sp) (e : Sp) : isort (l ++ [e]) = insB e (isort l).reverse [] := by simp [isort]
theorem isort_len (l : List Sp) : (isort l).length = l.length := by
 suffices h : ∀ (l S : List Sp), (l.foldl (fun S e => insB e S.reverse []) S).length = S.length + l.length by simpa [isort] using h l []
 intro l
 induction l with
 | nil => simp
 | cons a l ih => intro S; rw [List.foldl_cons, ih, insB_len]; simp; omega
theorem isort_one (l : List Sp) : isort (l.take 1) ++ l.drop 1 = l := by
 cases l with
 | nil => rfl
 | cons a l => simp [isort, insB]
theorem isort_next {l : List Sp} {i : Nat} (hi : i < l.length) : isort (l.take (i + 1)) = insB l[i] (isort (l.take i)).reverse [] := by
 rw [List.take_succ_eq_append_getElem hi, isort_snoc]
theorem insB_split (e : Sp) (ra B : List Sp) : ∃ A M, ra.reverse = A ++ M ∧ insB e ra B = A ++ e :: (M ++ B) ∧ (∀ b ∈ M, e.x < b.x) ∧ (A = [] ∨ ∃ A' a, A = A' ++ [a] ∧ ¬ e.x < a.x) := by
 induction ra generalizing B with
 | nil => exact ⟨[], [], rfl, rfl, by simp, .inl rfl⟩
 | cons a ra ih =>
  by_cases h : e.x < a.x
  ·obtain ⟨A, M, h1, h2, h3, h4⟩ := ih (a :: B)
   refine ⟨A, M ++ [a], by rw [List.reverse_cons, h1, List.append_assoc], by simp only [insB, if_pos h, h2]; simp, ?_, h4⟩
   intro b hb
   rcases List.mem_append.1 hb with hb | hb
   ·exact h3 b hb
   ·simp only [List.mem_singleton] at hb; subst hb; exact h
  ·exact ⟨(a :: ra).reverse, [], by simp, by simp [insB, h], by simp, .inr ⟨ra.reverse, a, by simp, h⟩⟩
theorem isort_end {l : List Sp} {i : Nat} (h : l.length ≤ i) : isort (l.take i) ++ l.drop i = isort l := by
 rw [List.take_of_length_le h, List.drop_eq_nil_of_le h, List.append_nil]
theorem ins_done {e : Sp} {A B R S : List Sp} (h : A = [] ∨ ∃ A' x, A = A' ++ [x] ∧ ¬ e.x < x.x) (hI : insB e A.reverse B = insB e S.reverse []) : A ++ e :: (B ++ R) = insB e S.reverse [] ++ R := by
 rw [← hI]
 rcases h with rfl | ⟨A', x, rfl, hx⟩
 ·simp [insB]
 ·rw [insB_stop e x A' B hx]; simp
def SpOk (s : Sp) : Prop := (-16 ≤ s.y ∧ s.y ≤ 240) ∧ (-8 ≤ s.x ∧ s.x ≤ 248) ∧ (0 ≤ s.t ∧ s.t < 256) ∧ (0 ≤ s.h ∧ s.h < 256)
theorem sp_ok {oam : List Int} (ho : Byts oam) (n : Int) : SpOk (sp oam n) := by
 have h0 := oB_byte ho n 0
 have h1 := oB_byte ho n 1
 have h2 := oB_byte ho n 2
 have h3 := oB_byte ho n 3
 unfold SpOk sp
 simp only
 omega
def hit (l : List Int) (c x line : Int) (s : Sp) : Bool := sDot l c s.y s.x s.t s.h x line != 0
def seenS (l : List Int) (c bk f s2 x line below : Int) : Option Sp → Int
 | none => shd bk below
 | some s => if rBit s.h 7 = 1 ∧ below % 4 ≠ 0 then shd bk below else if rBit s.h 4 = 1 then shd s2 (sDot l c s.y s.x s.t s.h x line) else shd f (sDot l c s.y s.x s.t s.h x line)
theorem find_here {q : Sp → Bool} {l : List Sp} {k : Nat} {s : Sp} (h : (l.take k).find? q = none) (hs : l[k]? = some s) (hq : q s = true) : l.find? q = some s := by
 obtain ⟨hk, he⟩ := List.getElem?_eq_some_iff.1 hs
 rw [split_at hk, List.find?_append, h, he]
 simp [hq]
theorem find_on {q : Sp → Bool} {l : List Sp} {k : Nat} {s : Sp} (h : (l.take k).find? q = none) (hs : l[k]? = some s) (hq : q s = false) : (l.take (k + 1)).find? q = none := by
 obtain ⟨hk, he⟩ := List.getElem?_eq_some_iff.1 hs
 rw [List.take_succ_eq_append_getElem hk, List.find?_append, h, he]
 simp [hq]
theorem bit7_band {h : Int} (hh : 0 ≤ h ∧ h < 256) : (band .u8 h 128 != 0) = decide (rBit h 7 = 1) := by
 refine byte_all (p := fun c => (band .u8 c 128 != 0) = decide (rBit c 7 = 1)) ?_ hh.1 hh.2
 decide +kernel
theorem bit4_band {h : Int} (hh : 0 ≤ h ∧ h < 256) : (band .u8 h 16 != 0) = decide (rBit h 4 = 1) := by
 refine byte_all (p := fun c => (band .u8 c 16 != 0) = decide (rBit c 4 = 1)) ?_ hh.1 hh.2
 decide +kernel
theorem band3 {h : Int} (hh : 0 ≤ h ∧ h < 256) : (band .u8 h 3 != 0) = decide (h % 4 ≠ 0) := by
 refine byte_all (p := fun c => (band .u8 c 3 != 0) = decide (c % 4 ≠ 0)) ?_ hh.1 hh.2
 decide +kernel
theorem sDot_four (l : List Int) (c y x0 t h X L : Int) : 0 ≤ sDot l c y x0 t h X L ∧ sDot l c y x0 t h X L < 256 := by
 unfold sDot
 split
 ·omega
 ·have h4 : ∀ a b d, 0 ≤ tDot l a b d ∧ tDot l a b d < 4 := fun a b d => by
   unfold tDot
   split
   ·omega
   ·have := rBit_01 (vAt l (16 * a + 2 * (d % 8))) (7 - b % 8)
    have := rBit_01 (vAt l (16 * a + 2 * (d % 8) + 1)) (7 - b % 8)
    omega
  have := h4 (if hgt c = 16 then t / 2 * 2 + (if rBit h 6 = 1 then hgt c - 1 - (L - y) else L - y) / 8 else t) (if rBit h 5 = 1 then 7 - (X - x0) else X - x0) (if rBit h 6 = 1 then hgt c - 1 - (L - y) else L - y)
  show 0 ≤ tDot _ _ _ _ ∧ tDot _ _ _ _ < 256
  omega
theorem shade_far {l : List Int} {c bk f s2 x line below : Int} {L : List Sp} {s : Sp} {k : Nat} (hs : L[k]? = some s) (ho : SpOk s) (hb : 0 ≤ below ∧ below < 256) (hn : (L.take k).find? (hit l c x line) = none) (h0 : (sDot l c s.y s.x s.t s.h x line == 0) = false)
  (h1 : (band .u8 s.h 128 != 0) = true) (h2 : (band .u8 below 3 != 0) = true) : shd bk below = seenS l c bk f s2 x line below (L.find? (hit l c x line)) := by
 rw [find_here hn hs (by simp [hit, bne, h0])]
 rw [bit7_band ho.2.2.2, decide_eq_true_eq] at h1
 rw [band3 hb, decide_eq_true_eq] at h2
 simp [seenS, h1, h2]
theorem shade_near {l : List Int} {c bk f s2 x line below : Int} {L : List Sp} {s : Sp} {k : Nat} {b4 : Bool} (hs : L[k]? = some s) (ho : SpOk s) (hb : 0 ≤ below ∧ below < 256) (hn : (L.take k).find? (hit l c x line) = none) (h0 : (sDot l c s.y s.x s.t s.h x line == 0) = false)
  (h1 : (band .u8 s.h 128 != 0) = false ∨ (band .u8 below 3 != 0) = false) (h4 : (band .u8 s.h 16 != 0) = b4) :
  (bif b4 then shd s2 (sDot l c s.y s.x s.t s.h x line) else shd f (sDot l c s.y s.x s.t s.h x line)) = seenS l c bk f s2 x line below (L.find? (hit l c x line)) := by
 rw [find_here hn hs (by simp [hit, bne, h0])]
 rw [bit7_band ho.2.2.2, decide_eq_false_iff_not, band3 hb, decide_eq_false_iff_not] at h1
 rw [bit4_band ho.2.2.2] at h4
 have : ¬ (rBit s.h 7 = 1 ∧ below % 4 ≠ 0) := by rcases h1 with h1 | h1 <;> simp_all
 simp only [seenS, if_neg this]
 subst h4
 by_cases h : rBit s.h 4 = 1 <;> simp [h]
theorem shade_none {l : List Int} {c bk f s2 x line below : Int} {L : List Sp} {k : Nat} (hk : L.length ≤ k) (hn : (L.take k).find? (hit l c x line) = none) : shd bk below = seenS l c bk f s2 x line below (L.find? (hit l c x line)) := by
 rw [List.take_of_length_le hk] at hn
 rw [hn]; rfl
theorem scan_range {oam : List Int} {c line : Int} : ∀ n ∈ scan oam c line, 0 ≤ n ∧ n < 40 := by
 intro n hn
 have := List.mem_of_mem_take hn
 simp only [scanK, List.mem_map, List.mem_filter, List.mem_range] at this
 obtain ⟨m, ⟨h1, _⟩, rfl⟩ := this
 omega
theorem scan_ten (oam : List Int) (c line : Int) : (scan oam c line).length ≤ 10 := by rw [scan_len]; omega
def shownS (oam : List Int) (c line : Int) : List Sp := if rBit c 1 = 1 then (scan oam c line).map (sp oam) else []
theorem band2 {h : Int} (hh : 0 ≤ h ∧ h < 256) : (band .u8 h 2 != 0) = decide (rBit h 1 = 1) := by
 refine byte_all (p := fun c => (band .u8 c 2 != 0) = decide (rBit c 1 = 1)) ?_ hh.1 hh.2
 decide +kernel
theorem shown_yes {oam : List Int} {c line : Int} (hc : 0 ≤ c ∧ c < 256) (h : (band .u8 c 2 != 0) = true) : shownS oam c line = (scan oam c line).map (sp oam) := by
 rw [band2 hc, decide_eq_true_eq] at h; rw [shownS, if_pos h]
theorem shown_no {oam : List Int} {c line : Int} (hc : 0 ≤ c ∧ c < 256) (h : (band .u8 c 2 != 0) = false) : shownS oam c line = [] := by
 rw [band2 hc, decide_eq_false_iff_not] at h; rw [shownS, if_neg h]
theorem shown_ten (oam : List Int) (c line : Int) : (shownS oam c line).length ≤ 10 := by
 unfold shownS; split
 ·rw [List.length_map]; exact scan_ten _ _ _
 ·simp
theorem shown_ok {oam : List Int} (ho : Byts oam) (c line : Int) : ∀ s ∈ isort (shownS oam c line), SpOk s := by
 have key : ∀ l : List Sp, (∀ s ∈ l, SpOk s) → ∀ s ∈ isort l, SpOk s := by
  intro l
  suffices h : ∀ (l S : List Sp), (∀ s ∈ S, SpOk s) → (∀ s ∈ l, SpOk s) → ∀ s ∈ l.foldl (fun S e => insB e S.reverse []) S, SpOk s from h l [] y_z
  intro l
  induction l with
  | nil => exact fun S hS _ => hS
  | cons a l ih =>
   intro S hS hl
   refine ih _ ?_ (fun s hs => hl s (by simp [hs]))
   obtain ⟨A, M, h1, h2, _, _⟩ := insB_split a S.reverse []
   simp only [h2]
   rw [List.reverse_reverse] at h1
   intro s hs
   simp only [List.append_nil, List.mem_append, List.mem_cons] at hs
   rcases hs with hs | rfl | hs
   ·exact hS s (by rw [h1]; simp [hs])
   ·exact hl s y_z
   ·exact hS s (by rw [h1]; simp [hs])
 refine key _ ?_
 unfold shownS; split
 ·intro s hs
  obtain ⟨n, _, rfl⟩ := List.mem_map.1 hs
  exact sp_ok ho n
 ·simp
theorem flat_next {oam : List Int} {l : List Int} {k : Nat} (hk : k < l.length) : flat spc ((l.take (k + 1)).map (sp oam)) = flat spc ((l.take k).map (sp oam)) ++ spc (sp oam (l.getD k 0)) := by
 rw [List.take_succ_eq_append_getElem hk, List.map_append, List.map_cons, List.map_nil, flat_snoc, List.getD_eq_getElem?_getD, List.getElem?_eq_getElem hk]; rfl
def lineS (l oam : List Int) (c bk f s2 line : Int) (bl : List Int) (i : Nat) : Int := seenS l c bk f s2 i line (bl.getD i 0) ((isort (shownS oam c line)).find? (hit l c i line))
def lineL (l oam : List Int) (c bk f s2 line : Int) (bl : List Int) : List Value := (List.range 160).map (fun i => Value.int .u8 (lineS l oam c bk f s2 line bl i))
theorem getD_mem {l : List Int} {k : Nat} (h : k < l.length) : l.getD k 0 ∈ l := by
 rw [List.getD_eq_getElem?_getD, List.getElem?_eq_getElem h]; exact List.getElem_mem h
structure PU where
 V : List Int
 O : List Int
 R : List Int
 line : Int
 dot : Int
 own : Int
 frames : Int
 sig : Bool
 P : List Int
def cU (u : PU) : List Value := u.V.map (.int .u8) ++ (u.O.map (.int .u8) ++ (u.R.map (.int .u8) ++ ([.int .i64 u.line, .int .i64 u.dot, .int .i64 u.own, .int .i64 u.frames, .bool u.sig] ++ u.P.map (.int .u8))))
abbrev PU.r (u : PU) (j : Nat) : Int := u.R.getD j 0
structure PU.Wf (u : PU) : Prop where
 lV : u.V.length = 8192
 lO : u.O.length = 160
 lR : u.R.length = 12
 lP : u.P.length = 23040
 bV : Byts u.V
 bO : Byts u.O
 bR : Byts u.R
 bP : Byts u.P
 line : 0 ≤ u.line ∧ u.line ≤ 154
 dot : 0 ≤ u.dot ∧ u.dot ≤ 114
 own : 0 ≤ u.own ∧ u.own ≤ 600
 frames : 0 ≤ u.frames ∧ u.frames < 65536
 how : band .u8 (u.R.getD 1 0) 120 = u.R.getD 1 0
structure PU.Ok (u : PU) : Prop where
 wf : u.Wf
 line : u.line < 154
 dot : u.dot < 114
 own : u.own ≤ 255 + u.line + (if 63 ≤ u.dot then 1 else 0)
theorem cU_len {u : PU} (h : u.Wf) : (cU u).length = 31409 := by
 simp [cU, h.lV, h.lO, h.lR, h.lP]
section
variable {u : PU}
theorem cU_V (h : u.Wf) {j : Nat} (hj : j < 8192) : (cU u)[j]? = some (.int .u8 (u.V.getD j 0)) := get_left (map_at (by rw [h.lV]; exact hj))
theorem cU_O (h : u.Wf) {j : Nat} (hj : j < 160) : (cU u)[8192 + j]? = some (.int .u8 (u.O.getD j 0)) :=
 get_right (n := j) y_b6 (get_left (map_at (by rw [h.lO]; exact hj)))
theorem cU_R (h : u.Wf) {j : Nat} (hj : j < 12) : (cU u)[8352 + j]? = some (.int .u8 (u.R.getD j 0)) :=
 get_right (n := 160 + j) y_bd (get_right (n := j) y_b7 (get_left (map_at y_cP)))
theorem cU_five (h : u.Wf) {j : Nat} {v : Value} (hv : ([.int .i64 u.line, .int .i64 u.dot, .int .i64 u.own, .int .i64 u.frames, .bool u.sig] : List Value)[j]? = some v) : (cU u)[8364 + j]? = some v :=
 get_right (n := 172 + j) y_bd (get_right (n := 12 + j) y_bM (get_right (n := j) y_bR (get_left hv)))
theorem cU_line (h : u.Wf) : (cU u)[8364]? = some (.int .i64 u.line) := cU_five h (j := 0) rfl
theorem cU_dot (h : u.Wf) : (cU u)[8365]? = some (.int .i64 u.dot) := cU_five h (j := 1) rfl
theorem cU_own (h : u.Wf) : (cU u)[8366]? = some (.int .i64 u.own) := cU_five h (j := 2) rfl
theorem cU_frames (h : u.Wf) : (cU u)[8367]? = some (.int .i64 u.frames) := cU_five h (j := 3) rfl
theorem cU_sig (h : u.Wf) : (cU u)[8368]? = some (.bool u.sig) := cU_five h (j := 4) rfl
theorem rowV {w : World} {b : Nat} (hr : Row w b 0 (cU u)) : Row w b 0 (u.V.map (.int .u8)) := hr.left
theorem rowO (h : u.Wf) {w : World} {b : Nat} (hr : Row w b 0 (cU u)) : Row w b 8192 (u.O.map (.int .u8)) :=
 (hr.right (n := 8192) y_b6).left
theorem rowR (h : u.Wf) {w : World} {b : Nat} (hr : Row w b 0 (cU u)) : Row w b 8352 (u.R.map (.int .u8)) :=
 ((hr.right (n := 8192) y_b6).right (n := 8352) y_b7).left
theorem rowP (h : u.Wf) {w : World} {b : Nat} (hr : Row w b 0 (cU u)) : Row w b 8369 (u.P.map (.int .u8)) :=
 (((hr.right (n := 8192) y_b6).right (n := 8352) y_b7).right (n := 8364) y_bR).right (n := 8369) rfl
theorem putU_V (h : u.Wf) {j : Nat} (hj : j < 8192) (x : Int) : putL (cU u) j [.int .u8 x] = cU { u with V := u.V.set j x } := by
 unfold cU
 rw [putL_left (by simp [h.lV]; omega), putL_int .u8 (by rw [h.lV]; exact hj)]
theorem putU_O (h : u.Wf) {j : Nat} (hj : j < 160) (x : Int) : putL (cU u) (8192 + j) [.int .u8 x] = cU { u with O := u.O.set j x } := by
 unfold cU
 rw [putL_right (n := j) y_b6 y_dq, putL_left y_dq, putL_int .u8 (by rw [h.lO]; exact hj)]
theorem putU_R (h : u.Wf) {j : Nat} (hj : j < 12) (x : Int) : putL (cU u) (8352 + j) [.int .u8 x] = cU { u with R := u.R.set j x } := by
 unfold cU
 rw [putL_right (n := 160 + j) y_bd y_cS, putL_right (n := j) y_b7 y_cD, putL_left y_cD, putL_int .u8 y_cP]
theorem putU_five (h : u.Wf) {j : Nat} {v : Value} (hj : j < 5) : putL (cU u) (8364 + j) [v] = u.V.map (.int .u8) ++ (u.O.map (.int .u8) ++ (u.R.map (.int .u8) ++ (putL [.int .i64 u.line, .int .i64 u.dot, .int .i64 u.own, .int .i64 u.frames, .bool u.sig] j [v] ++ u.P.map (.int .u8)))) := by
 unfold cU
 rw [putL_right (n := 172 + j) y_bd y_cS, putL_right (n := 12 + j) y_bM y_cD, putL_right (n := j) y_bR y_bz, putL_left y_bz]
theorem putU_line (h : u.Wf) (x : Int) : putL (cU u) 8364 [.int .i64 x] = cU { u with line := x } := putU_five h (j := 0) y_c
theorem putU_dot (h : u.Wf) (x : Int) : putL (cU u) 8365 [.int .i64 x] = cU { u with dot := x } := putU_five h (j := 1) y_c
theorem putU_own (h : u.Wf) (x : Int) : putL (cU u) 8366 [.int .i64 x] = cU { u with own := x } := putU_five h (j := 2) y_c
theorem putU_frames (h : u.Wf) (x : Int) : putL (cU u) 8367 [.int .i64 x] = cU { u with frames := x } := putU_five h (j := 3) y_c
theorem putU_sig (h : u.Wf) (x : Bool) : putL (cU u) 8368 [.bool x] = cU { u with sig := x } := putU_five h (j := 4) y_c
theorem putU_P (h : u.Wf) {j : Nat} {r : List Int} (hj : j + r.length ≤ 23040) : putL (cU u) (8369 + j) (r.map (.int .u8)) = cU { u with P := putI u.P j r } := by
 unfold cU
 rw [putL_right (n := 177 + j) y_bd (by simp [h.lO, h.lR, h.lP]; omega), putL_right (n := 17 + j) y_bM (by simp [h.lR, h.lP]; omega), putL_right (n := 5 + j) y_bA y_dp, putL_right (n := j) y_z y_dp, putI_map]
end
def litU (u : PU) : Bool := decide (128 ≤ u.r 0)
def modeU (u : PU) : Int := if litU u = true then (if 144 ≤ u.line then 1 else if u.dot < 20 then 2 else if u.dot < 63 then 3 else 0) else 0
def foundU (u : PU) : Bool := litU u && (u.line == u.r 5)
def modeBit (m : Int) : Int := if m = 0 then 8 else if m = 1 then 16 else if m = 2 then 32 else 0
def sigU (u : PU) : Bool := litU u && ((band .u8 (u.r 1) (modeBit (modeU u)) != 0) || ((band .u8 (u.r 1) 64 != 0) && foundU u))
def askU (u : PU) : PU := { u with sig := sigU u }
def askV (u : PU) : Int := if sigU u = true ∧ u.sig = false then 2 else 0
def viewU (u : PU) : Vw := ⟨u.r 0, u.r 3, u.r 2, u.r 11, u.r 10⟩
def belowU (u : PU) : List Int := tLine u.V (viewU u) u.line u.own
def rowU (u : PU) : List Int := (List.range 160).map (lineS u.V u.O (u.r 0) (u.r 7) (u.r 8) (u.r 9) u.line (belowU u))
def paintU (u : PU) : PU := { u with P := putI u.P (u.line.toNat * 160) (rowU u), own := if tSeen (viewU u) u.line = true then u.own + 1 else u.own }
def nextU (u : PU) : PU := if u.line = 143 then { u with dot := 0, line := 144, frames := (u.frames + 1) % 65536 } else if u.line = 153 then { u with dot := 0, line := 0, own := 0 } else { u with dot := 0, line := u.line + 1 }
def nextV (u : PU) : Int := if u.line = 143 then 1 else 0
def oneU (u : PU) : PU := { u with dot := u.dot + 1 }
def stepU (u : PU) : PU := if u.dot = 62 ∧ u.line < 144 then paintU (oneU u) else if u.dot = 113 then nextU (oneU u) else oneU u
def stepV (u : PU) : Int := if u.dot = 113 ∧ u.line = 143 then 1 else 0
def tickU (u : PU) : PU := if litU u = true then askU (stepU u) else u
def tickV (u : PU) : Int := if litU u = true then stepV u + askV (stepU u) else 0
def zeroU : PU := ⟨List.replicate 8192 0, List.replicate 160 0, List.replicate 12 0, 0, 0, 0, 0, false, List.replicate 23040 0⟩
theorem byts_rep (n : Nat) : Byts (List.replicate n 0) := fun x hx => by rw [(List.mem_replicate.1 hx).2]; omega
theorem zeroU_wf : zeroU.Wf := by
 refine ⟨List.length_replicate, List.length_replicate, List.length_replicate, List.length_replicate, byts_rep _, byts_rep _, byts_rep _, byts_rep _, ?_, ?_, ?_, ?_, ?_⟩ <;> decide +kernel
theorem zeroU_ok : zeroU.Ok := ⟨zeroU_wf, y_eK, y_eK, y_eK⟩
section
variable {u : PU}
theorem PU.Wf.look (h : u.Wf) (j : Nat) : 0 ≤ u.r j ∧ u.r j < 256 := h.bR.get j
theorem viewU_ok (h : u.Wf) : (viewU u).Ok := ⟨h.look 0, h.look 3, h.look 2, h.look 11, h.look 10⟩
theorem lit_law (h : u.Wf) : (band .u8 (u.r 0) 128 != 0) = litU u := by
 have := byte_all (p := fun c => (band .u8 c 128 != 0) = decide (128 ≤ c)) y_A (h.look 0).1 (h.look 0).2
 exact this
theorem mode_range (u : PU) : 0 ≤ modeU u ∧ modeU u < 4 := by
 unfold modeU; repeat' split
 all_goals omega
theorem rowU_len (u : PU) : (rowU u).length = 160 := by simp [rowU]
theorem mb_at (u : PU) : ([.int .u8 8, .int .u8 16, .int .u8 32, .int .u8 0] : List Value)[0 + (modeU u).toNat]? = some (.int .u8 (modeBit (modeU u))) := by
 obtain ⟨h1, h2⟩ := mode_range u
 rcases (show modeU u = 0 ∨ modeU u = 1 ∨ modeU u = 2 ∨ modeU u = 3 by omega) with h | h | h | h <;> rw [h] <;> rfl
theorem ask_put (h : u.Wf) {X : Bool} (hX : X = sigU u) : putL (cU u) 8368 [.bool X] = cU (askU u) := by subst hX; exact putU_sig h _
theorem PU.Wf.sig_ (h : u.Wf) (x : Bool) : ({ u with sig := x } : PU).Wf := ⟨h.lV, h.lO, h.lR, h.lP, h.bV, h.bO, h.bR, h.bP, h.line, h.dot, h.own, h.frames, h.how⟩
theorem PU.Wf.ask (h : u.Wf) : (askU u).Wf := h.sig_ _
theorem PU.Wf.dot_ (h : u.Wf) {x : Int} (hx : 0 ≤ x ∧ x ≤ 114) : ({ u with dot := x } : PU).Wf := ⟨h.lV, h.lO, h.lR, h.lP, h.bV, h.bO, h.bR, h.bP, h.line, hx, h.own, h.frames, h.how⟩
theorem PU.Wf.line_ (h : u.Wf) {x : Int} (hx : 0 ≤ x ∧ x ≤ 154) : ({ u with line := x } : PU).Wf := ⟨h.lV, h.lO, h.lR, h.lP, h.bV, h.bO, h.bR, h.bP, hx, h.dot, h.own, h.frames, h.how⟩
theorem PU.Wf.own_ (h : u.Wf) {x : Int} (hx : 0 ≤ x ∧ x ≤ 600) : ({ u with own := x } : PU).Wf := ⟨h.lV, h.lO, h.lR, h.lP, h.bV, h.bO, h.bR, h.bP, h.line, h.dot, hx, h.frames, h.how⟩
theorem PU.Wf.frames_ (h : u.Wf) {x : Int} (hx : 0 ≤ x ∧ x < 65536) : ({ u with frames := x } : PU).Wf := ⟨h.lV, h.lO, h.lR, h.lP, h.bV, h.bO, h.bR, h.bP, h.line, h.dot, h.own, hx, h.how⟩
theorem byts_set {l : List Int} (h : Byts l) (j : Nat) {x : Int} (hx : 0 ≤ x ∧ x < 256) : Byts (l.set j x) := fun y hy => by
 rcases List.mem_or_eq_of_mem_set hy with hy | rfl
 ·exact h y hy
 ·exact hx
theorem byts_put {l r : List Int} (h : Byts l) (hr : Byts r) (o : Nat) : Byts (putI l o r) := fun y hy => by
 unfold putI at hy
 rcases List.mem_append.1 hy with hy | hy
 ·rcases List.mem_append.1 hy with hy | hy
  ·exact h y (List.mem_of_mem_take hy)
  ·exact hr y hy
 ·exact h y (List.mem_of_mem_drop hy)
theorem PU.Wf.V_ (h : u.Wf) (j : Nat) {x : Int} (hx : 0 ≤ x ∧ x < 256) : ({ u with V := u.V.set j x } : PU).Wf := ⟨by simpa using h.lV, h.lO, h.lR, h.lP, byts_set h.bV j hx, h.bO, h.bR, h.bP, h.line, h.dot, h.own, h.frames, h.how⟩
theorem PU.Wf.O_ (h : u.Wf) (j : Nat) {x : Int} (hx : 0 ≤ x ∧ x < 256) : ({ u with O := u.O.set j x } : PU).Wf := ⟨h.lV, by simpa using h.lO, h.lR, h.lP, h.bV, byts_set h.bO j hx, h.bR, h.bP, h.line, h.dot, h.own, h.frames, h.how⟩
theorem PU.Wf.R_ (h : u.Wf) (j : Nat) {x : Int} (hx : 0 ≤ x ∧ x < 256) (hj : j = 1 → band .u8 x 120 = x) : ({ u with R := u.R.set j x } : PU).Wf :=
 ⟨h.lV, h.lO, by simpa using h.lR, h.lP, h.bV, h.bO, byts_set h.bR j hx, h.bP, h.line, h.dot, h.own, h.frames, by
  by_cases h1 : j = 1
  ·subst h1
   have : (u.R.set 1 x).getD 1 0 = x := by rw [List.getD_eq_getElem?_getD, List.getElem?_set_self (by rw [h.lR]; decide)]; rfl
   show band .u8 ((u.R.set 1 x).getD 1 0) 120 = (u.R.set 1 x).getD 1 0
   rw [this]; exact hj rfl
  ·have : (u.R.set j x).getD 1 0 = u.R.getD 1 0 := by rw [List.getD_eq_getElem?_getD, List.getElem?_set_ne h1, ← List.getD_eq_getElem?_getD]
   show band .u8 ((u.R.set j x).getD 1 0) 120 = (u.R.set j x).getD 1 0
   rw [this]; exact h.how⟩
theorem PU.Wf.P_ (h : u.Wf) (j : Nat) {r : List Int} (hr : Byts r) (hj : j + r.length ≤ 23040) : ({ u with P := putI u.P j r } : PU).Wf :=
 ⟨h.lV, h.lO, h.lR, by show (putI u.P j r).length = 23040; rw [putI_len (by rw [h.lP]; exact hj), h.lP], h.bV, h.bO, h.bR, byts_put h.bP hr j, h.line, h.dot, h.own, h.frames, h.how⟩
def placeV (b : Nat) (a : Int) : Value :=
 if 32768 ≤ a ∧ a < 40960 then .tuple #[.pointer (some ⟨b, 0 + (a - 32768).toNat, none⟩), .int .i64 3]
 else if 65024 ≤ a ∧ a < 65184 then .tuple #[.pointer (some ⟨b, 8192 + (a - 65024).toNat, none⟩), .int .i64 2] else .tuple #[.pointer none, .int .i64 0]
def numU (a : Int) : Int := if a < 65344 ∨ 65355 < a ∨ a = 65350 then -1 else a - 65344
theorem addr_ways {a : Int} (_h : 0 ≤ a ∧ a < 65536) : (∃ j : Nat, j < 8192 ∧ a = 32768 + j) ∨ (∃ j : Nat, j < 160 ∧ a = 65024 + j) ∨ (¬ (32768 ≤ a ∧ a < 40960) ∧ ¬ (65024 ≤ a ∧ a < 65184)) := by
 by_cases h1 : 32768 ≤ a ∧ a < 40960
 ·exact .inl ⟨(a - 32768).toNat, y_D, y_D⟩
 ·by_cases h2 : 65024 ≤ a ∧ a < 65184
  ·exact .inr (.inl ⟨(a - 65024).toNat, y_D, y_D⟩)
  ·exact .inr (.inr ⟨h1, h2⟩)
theorem place_V {b j : Nat} (hj : j < 8192) : placeV b (32768 + j) = .tuple #[.pointer (some ⟨b, 0 + j, none⟩), .int .i64 3] := by
 unfold placeV
 rw [if_pos o_m, show ((32768 : Int) + j - 32768).toNat = j by omega]
theorem place_O {b j : Nat} (hj : j < 160) : placeV b (65024 + j) = .tuple #[.pointer (some ⟨b, 8192 + j, none⟩), .int .i64 2] := by
 unfold placeV
 rw [if_neg o_m, if_pos o_m, show ((65024 : Int) + j - 65024).toNat = j by omega]
theorem place_no {b : Nat} {a : Int} (h : ¬ (32768 ≤ a ∧ a < 40960) ∧ ¬ (65024 ≤ a ∧ a < 65184)) : placeV b a = .tuple #[.pointer none, .int .i64 0] := by
 unfold placeV
 rw [if_neg h.1, if_neg h.2]
theorem num_range (a : Int) : numU a = -1 ∨ (0 ≤ numU a ∧ numU a < 12 ∧ numU a ≠ 6) := by unfold numU; split <;> omega
theorem rowU_vals (u : PU) : lineL u.V u.O (u.r 0) (u.r 7) (u.r 8) (u.r 9) u.line (belowU u) = (rowU u).map (.int .u8) := by simp [lineL, rowU]
theorem shd_four (p c : Int) : 0 ≤ shd p c ∧ shd p c < 4 := by unfold shd; omega
theorem seenS_four (l : List Int) (c bk f s2 x line below : Int) (o : Option Sp) : 0 ≤ seenS l c bk f s2 x line below o ∧ seenS l c bk f s2 x line below o < 4 := by
 unfold seenS
 split
 ·exact shd_four _ _
 ·split
  ·exact shd_four _ _
  ·split <;> exact shd_four _ _
theorem rowU_byts (u : PU) : Byts (rowU u) := fun x hx => by
 obtain ⟨k, _, rfl⟩ := List.mem_map.1 hx
 have := seenS_four u.V (u.r 0) (u.r 7) (u.r 8) (u.r 9) k u.line ((belowU u).getD k 0) ((isort (shownS u.O (u.r 0) u.line)).find? (hit u.V (u.r 0) k u.line))
 unfold lineS; omega
theorem step_paint (h1 : u.dot = 62) (h2 : u.line < 144) : stepU u = paintU (oneU u) := by unfold stepU; rw [if_pos ⟨h1, h2⟩]
theorem step_next (h1 : u.dot = 113) : stepU u = nextU (oneU u) := by unfold stepU; rw [if_neg o_m, if_pos h1]
theorem step_one (h1 : ¬ (u.dot = 62 ∧ u.line < 144)) (h2 : ¬ u.dot = 113) : stepU u = oneU u := by unfold stepU; rw [if_neg h1, if_neg h2]
theorem PU.Wf.one (h : u.Wf) (hd : u.dot < 114) : (oneU u).Wf := h.dot_ (by have := h.dot; omega)
theorem PU.Wf.paint (h : u.Wf) (hl : u.line < 144) (ho : u.own < 600) : (paintU u).Wf := by
 have h1 := h.P_ (u.line.toNat * 160) (rowU_byts u) (by rw [rowU_len]; have := h.line; omega)
 unfold paintU
 by_cases hs : tSeen (viewU u) u.line = true
 ·rw [if_pos hs]; exact h1.own_ (by have := h.own; omega)
 ·rw [if_neg hs]; exact h1
theorem next_1 (h : u.line = 143) : nextU u = { u with dot := 0, line := 144, frames := (u.frames + 1) % 65536 } := by unfold nextU; rw [if_pos h]
theorem next_2 (h : u.line = 153) : nextU u = { u with dot := 0, line := 0, own := 0 } := by unfold nextU; rw [if_neg o_m, if_pos h]
theorem next_3 (h1 : ¬ u.line = 143) (h2 : ¬ u.line = 153) : nextU u = { u with dot := 0, line := u.line + 1 } := by unfold nextU; rw [if_neg h1, if_neg h2]
theorem PU.Wf.next (h : u.Wf) (hl : u.line < 154) : (nextU u).Wf := by
 have hb := h.line
 by_cases h1 : u.line = 143
 ·rw [next_1 h1]; exact ((h.dot_ (x := 0) y_c).line_ (x := 144) y_c).frames_ o_m
 ·by_cases h2 : u.line = 153
  ·rw [next_2 h2]; exact ((h.dot_ (x := 0) y_c).line_ (x := 0) y_c).own_ y_c
  ·rw [next_3 h1 h2]; exact (h.dot_ (x := 0) y_c).line_ o_m
theorem PU.Ok.own599 (h : u.Ok) : u.own < 600 := by
 have := h.own; have := h.line; split at * <;> omega
theorem PU.Ok.step (h : u.Ok) : (stepU u).Wf := by
 have hd := h.dot
 by_cases h1 : u.dot = 62 ∧ u.line < 144
 ·rw [step_paint h1.1 h1.2]; exact (h.wf.one hd).paint h1.2 h.own599
 ·by_cases h2 : u.dot = 113
  ·rw [step_next h2]; exact (h.wf.one hd).next h.line
  ·rw [step_one h1 h2]; exact h.wf.one hd
theorem PU.Ok.tick (h : u.Ok) : (tickU u).Ok := by
 unfold tickU
 by_cases hl : litU u = true
 ·rw [if_pos hl]
  have hs := h.step
  have hd := h.dot
  have hn := h.line
  have ho := h.own
  have hz := h.wf.dot
  have hy := h.wf.line
  refine ⟨hs.ask, ?_, ?_, ?_⟩
  all_goals
   show _
   unfold askU
   by_cases h1 : u.dot = 62 ∧ u.line < 144
   ·rw [step_paint h1.1 h1.2]
    simp only [paintU, oneU]
    split at ho <;> (try split) <;> (try split) <;> omega
   ·by_cases h2 : u.dot = 113
    ·rw [step_next h2]
     unfold nextU oneU
     dsimp only
     by_cases h3 : u.line = 143
     ·rw [if_pos h3]; dsimp only; split at ho <;> (try split) <;> omega
     ·rw [if_neg h3]
      by_cases h4 : u.line = 153
      ·rw [if_pos h4]; dsimp only; (try split) <;> omega
      ·rw [if_neg h4]; dsimp only; split at ho <;> (try split) <;> omega
    ·rw [step_one h1 h2]
     unfold oneU
     dsimp only
     split at ho <;> (try split) <;> omega
 ·rw [if_neg hl]; exact h
theorem bor_ask {x y : Int} (hx : x = 0 ∨ x = 1) (hy : y = 0 ∨ y = 2) : bor .u8 x y = x + y := by
 rcases hx with rfl | rfl <;> rcases hy with rfl | rfl <;> decide
theorem askV_two (u : PU) : askV u = 0 ∨ askV u = 2 := by unfold askV; split <;> simp
theorem stepV_one (u : PU) : stepV u = 0 ∨ stepV u = 1 := by unfold stepV; split <;> simp
theorem sig_1 (h1 : litU u = false) : false = sigU u := by unfold sigU; rw [h1]; rfl
theorem sig_2 (h1 : litU u = true) (h2 : (band .u8 (u.r 1) (modeBit (modeU u)) != 0) = true) : true = sigU u := by unfold sigU; rw [h1, h2]; rfl
theorem sig_3 (h1 : litU u = true) (h2 : (band .u8 (u.r 1) (modeBit (modeU u)) != 0) = false) (h3 : (band .u8 (u.r 1) 64 != 0) = false) : false = sigU u := by unfold sigU; rw [h1, h2, h3]; rfl
theorem sig_4 (h1 : litU u = true) (h2 : (band .u8 (u.r 1) (modeBit (modeU u)) != 0) = false) (h3 : (band .u8 (u.r 1) 64 != 0) = true) : foundU u = sigU u := by unfold sigU; rw [h1, h2, h3]; rfl
theorem paint_yes (h : tSeen (viewU u) u.line = true) : paintU u = { u with P := putI u.P (u.line.toNat * 160) (rowU u), own := u.own + 1 } := by unfold paintU; rw [if_pos h]
theorem paint_no (h : tSeen (viewU u) u.line = false) : paintU u = { u with P := putI u.P (u.line.toNat * 160) (rowU u) } := by unfold paintU; rw [if_neg (by rw [h]; decide)]
end
theorem get0 {w : World} {b j : Nat} {l : List Value} {v : Value} (h : Row w b 0 l) (hv : l[j]? = some v) : w.cell? ⟨b, j, none⟩ = some v := by
 simpa using h j v hv
def statU (u : PU) : Int := bor .u8 (bor .u8 128 (u.r 1)) (modeU u)
def peekU (u : PU) (a : Int) : Int :=
 if 32768 ≤ a ∧ a < 40960 then u.V.getD (a - 32768).toNat 0 else if 65024 ≤ a ∧ a < 65184 then u.O.getD (a - 65024).toNat 0
 else if numU a = -1 then 255 else if numU a = 4 then u.line % 256 else if numU a = 1 then (if foundU u = true then bor .u8 (statU u) 4 else statU u) else u.r (numU a).toNat
def readU (u : PU) (a : Int) : Int :=
 if (32768 ≤ a ∧ a < 40960 ∧ 3 ≤ modeU u) ∨ (65024 ≤ a ∧ a < 65184 ∧ 2 ≤ modeU u) then 255 else peekU u a
def setU (u : PU) (n : Int) (x : Int) : PU := if n = 1 then { u with R := u.R.set 1 (band .u8 x 120) } else if n = 4 then u else { u with R := u.R.set n.toNat x }
def offU (was : Bool) (u : PU) : PU := if was = true ∧ litU u = false then { u with line := 0, dot := 0, own := 0 } else u
def putU (u : PU) (n : Int) (x : Int) : PU := offU (litU u) (setU u n x)
def writeU (u : PU) (a x : Int) : PU :=
 if 32768 ≤ a ∧ a < 40960 then (if modeU u < 3 then { u with V := u.V.set (a - 32768).toNat x } else u)
 else if 65024 ≤ a ∧ a < 65184 then (if modeU u < 2 then { u with O := u.O.set (a - 65024).toNat x } else u)
 else if numU a = -1 then u else askU (putU u (numU a) x)
def writeV (u : PU) (a x : Int) : Int :=
 if 32768 ≤ a ∧ a < 40960 then 0 else if 65024 ≤ a ∧ a < 65184 then 0 else if numU a = -1 then 0 else askV (putU u (numU a) x)
def spriteU (u : PU) (n x : Int) : PU := if 0 ≤ n ∧ n < 160 then { u with O := u.O.set n.toNat x } else u
section
variable {u : PU} {x : Int}
theorem band120 (hx : 0 ≤ x ∧ x < 256) : 0 ≤ band .u8 x 120 ∧ band .u8 x 120 < 256 ∧ band .u8 (band .u8 x 120) 120 = band .u8 x 120 :=
 byte_all (p := fun x => 0 ≤ band .u8 x 120 ∧ band .u8 x 120 < 256 ∧ band .u8 (band .u8 x 120) 120 = band .u8 x 120) y_A hx.1 hx.2
theorem PU.Wf.set1 (h : u.Wf) (hx : 0 ≤ x ∧ x < 256) : ({ u with R := u.R.set 1 (band .u8 x 120) } : PU).Wf := h.R_ 1 ⟨(band120 hx).1, (band120 hx).2.1⟩ fun _ => (band120 hx).2.2
theorem PU.Wf.setn (h : u.Wf) (hx : 0 ≤ x ∧ x < 256) {n : Int} (_hn : 0 ≤ n) (h1 : ¬ n = 1) : ({ u with R := u.R.set n.toNat x } : PU).Wf := h.R_ n.toNat hx fun h2 => absurd h2 o_m
theorem PU.Wf.zero (h : u.Wf) : ({ u with line := 0, dot := 0, own := 0 } : PU).Wf := ((h.line_ (x := 0) y_c).dot_ (x := 0) y_c).own_ (x := 0) y_c
theorem set_1 {n : Int} (h : n = 1) : setU u n x = { u with R := u.R.set 1 (band .u8 x 120) } := by unfold setU; rw [if_pos h]
theorem set_4 {n : Int} (h : n = 4) : setU u n x = u := by unfold setU; rw [if_neg o_m, if_pos h]
theorem set_n {n : Int} (h1 : ¬ n = 1) (h4 : ¬ n = 4) : setU u n x = { u with R := u.R.set n.toNat x } := by unfold setU; rw [if_neg h1, if_neg h4]
theorem PU.Wf.set (h : u.Wf) (hx : 0 ≤ x ∧ x < 256) {n : Int} (hn : 0 ≤ n) : (setU u n x).Wf := by
 by_cases h1 : n = 1
 ·rw [set_1 h1]; exact h.set1 hx
 ·by_cases h4 : n = 4
  ·rw [set_4 h4]; exact h
  ·rw [set_n h1 h4]; exact h.setn hx hn h1
theorem off_yes {was : Bool} (h1 : was = true) (h2 : litU u = false) : offU was u = { u with line := 0, dot := 0, own := 0 } := by unfold offU; rw [if_pos ⟨h1, h2⟩]
theorem off_no {was : Bool} (h : was = false ∨ litU u = true) : offU was u = u := by
 unfold offU; rw [if_neg]; rintro ⟨h1, h2⟩; rcases h with h | h <;> simp_all
theorem PU.Wf.off (h : u.Wf) (was : Bool) : (offU was u).Wf := by
 unfold offU; split
 ·exact h.zero
 ·exact h
theorem write_V (b : Int) {j : Nat} (hj : j < 8192) : writeU u (32768 + j) b = if modeU u < 3 then { u with V := u.V.set j b } else u := by
 unfold writeU
 rw [if_pos o_m, show ((32768 : Int) + j - 32768).toNat = j by omega]
theorem write_O (b : Int) {j : Nat} (hj : j < 160) : writeU u (65024 + j) b = if modeU u < 2 then { u with O := u.O.set j b } else u := by
 unfold writeU
 rw [if_neg o_m, if_pos o_m, show ((65024 : Int) + j - 65024).toNat = j by omega]
theorem write_no {a : Int} (b : Int) (h : ¬ (32768 ≤ a ∧ a < 40960) ∧ ¬ (65024 ≤ a ∧ a < 65184)) (hn : numU a = -1) : writeU u a b = u := by
 unfold writeU; rw [if_neg h.1, if_neg h.2, if_pos hn]
theorem write_R {a : Int} (b : Int) (h : ¬ (32768 ≤ a ∧ a < 40960) ∧ ¬ (65024 ≤ a ∧ a < 65184)) (hn : ¬ numU a = -1) : writeU u a b = askU (putU u (numU a) b) := by
 unfold writeU; rw [if_neg h.1, if_neg h.2, if_neg hn]
theorem wv_V (b : Int) {j : Nat} (hj : j < 8192) : writeV u (32768 + j) b = 0 := by unfold writeV; rw [if_pos o_m]
theorem wv_O (b : Int) {j : Nat} (hj : j < 160) : writeV u (65024 + j) b = 0 := by unfold writeV; rw [if_neg o_m, if_pos o_m]
theorem wv_no {a : Int} (b : Int) (h : ¬ (32768 ≤ a ∧ a < 40960) ∧ ¬ (65024 ≤ a ∧ a < 65184)) (hn : numU a = -1) : writeV u a b = 0 := by
 unfold writeV; rw [if_neg h.1, if_neg h.2, if_pos hn]
theorem wv_R {a : Int} (b : Int) (h : ¬ (32768 ≤ a ∧ a < 40960) ∧ ¬ (65024 ≤ a ∧ a < 65184)) (hn : ¬ numU a = -1) : writeV u a b = askV (putU u (numU a) b) := by
 unfold writeV; rw [if_neg h.1, if_neg h.2, if_neg hn]
theorem peek_V {j : Nat} (hj : j < 8192) : peekU u (32768 + j) = u.V.getD j 0 := by
 unfold peekU; rw [if_pos o_m, show ((32768 : Int) + j - 32768).toNat = j by omega]
theorem peek_O {j : Nat} (hj : j < 160) : peekU u (65024 + j) = u.O.getD j 0 := by
 unfold peekU; rw [if_neg o_m, if_pos o_m, show ((65024 : Int) + j - 65024).toNat = j by omega]
theorem peek_R {a : Int} (h : ¬ (32768 ≤ a ∧ a < 40960) ∧ ¬ (65024 ≤ a ∧ a < 65184)) :
  peekU u a = if numU a = -1 then 255 else if numU a = 4 then u.line % 256 else if numU a = 1 then (if foundU u = true then bor .u8 (statU u) 4 else statU u) else u.r (numU a).toNat := by
 unfold peekU; rw [if_neg h.1, if_neg h.2]
theorem read_V {j : Nat} (hj : j < 8192) : readU u (32768 + j) = if 3 ≤ modeU u then 255 else peekU u (32768 + j) := by
 unfold readU; by_cases h : 3 ≤ modeU u
 ·rw [if_pos o_m, if_pos h]
 ·rw [if_neg o_m, if_neg h]
theorem read_O {j : Nat} (hj : j < 160) : readU u (65024 + j) = if 2 ≤ modeU u then 255 else peekU u (65024 + j) := by
 unfold readU; by_cases h : 2 ≤ modeU u
 ·rw [if_pos o_m, if_pos h]
 ·rw [if_neg o_m, if_neg h]
theorem read_no {a : Int} (h : ¬ (32768 ≤ a ∧ a < 40960) ∧ ¬ (65024 ≤ a ∧ a < 65184)) : readU u a = peekU u a := by
 unfold readU; rw [if_neg o_m]
theorem PU.Ok.ask (h : u.Ok) : (askU u).Ok := ⟨h.wf.ask, h.line, h.dot, h.own⟩
theorem PU.Ok.write (h : u.Ok) {a : Int} (hx : 0 ≤ x ∧ x < 256) : (writeU u a x).Ok := by
 have hl := h.line; have hd := h.dot; have ho := h.own
 unfold writeU
 split
 ·split
  ·exact ⟨h.wf.V_ _ hx, hl, hd, ho⟩
  ·exact h
 ·split
  ·split
   ·exact ⟨h.wf.O_ _ hx, hl, hd, ho⟩
   ·exact h
  ·split
   ·exact h
   ·rename_i hn
    have hr := num_range a
    refine PU.Ok.ask ?_
    have hs : (setU u (numU a) x).Ok := by
     refine ⟨h.wf.set hx o_m, ?_, ?_, ?_⟩ <;> (unfold setU; split; · assumption) <;> split <;> assumption
    unfold putU offU
    split
    ·exact ⟨hs.wf.zero, by show (0 : Int) < 154; decide, by show (0 : Int) < 114; decide, by show (0 : Int) ≤ 255 + 0 + (if (63 : Int) ≤ 0 then 1 else 0); decide⟩
    ·exact hs
theorem PU.Ok.sprite (h : u.Ok) (n : Int) (hx : 0 ≤ x ∧ x < 256) : (spriteU u n x).Ok := by
 have hl := h.line; have hd := h.dot; have ho := h.own
 unfold spriteU
 split
 ·exact ⟨h.wf.O_ _ hx, hl, hd, ho⟩
 ·exact h
end
structure Opr where
 kind : Int
 x : Int
 y : Int
 size : Int
 n : Int
 deriving DecidableEq
def cO (o : Opr) : List Value := [.int .i64 o.kind, .int .i64 o.x, .int .i64 o.y, .int .i64 o.size, .int .u16 o.n]
theorem cO_len (o : Opr) : (cO o).length = 5 := rfl
theorem aggE {l : List Value} {o : Opr} (h : l = cO o) : Value.agg l.toArray = .agg (cO o).toArray := by rw [h]
def o0 : Opr := ⟨0, 0, 0, 0, 0⟩
def cW (s : List UInt8) : List Value := [.string (bs s)]
def digW : List UInt8 := [48, 49, 50, 51, 52, 53, 54, 55, 56, 57, 97, 98, 99, 100, 101, 102]
def dig (m : Nat) : UInt8 := digW.getD m 0
def hexL (n : Nat) (many : Nat) : List UInt8 := (List.range many).reverse.map fun i => dig (n / 16 ^ i % 16)
def h2 (o : Opr) : List UInt8 := hexL o.n.toNat 2
def h4 (o : Opr) : List UInt8 := hexL o.n.toNat 4
structure Pq where
 at_ : Nat
 by_ : Nat
 many : Nat
 kind : Int
 size : Int
 x : Option (List Int)
def PL : List Pq := [⟨0, 1, 1, 1, 1, none⟩, ⟨8, 1, 1, 40, 3, none⟩, ⟨16, 1, 1, 2, 2, none⟩, ⟨24, 1, 1, 23, 2, some [4]⟩, ⟨32, 8, 4, 23, 2, some [0, 1, 2, 3]⟩, ⟨1, 16, 4, 9, 3, some [0, 1, 2, 3]⟩, ⟨9, 16, 4, 16, 1, some [0, 1, 2, 3]⟩, ⟨2, 16, 4, 33, 1, some [0, 1, 2, 3]⟩, ⟨10, 16, 4, 32, 1, some [0, 1, 2, 3]⟩, ⟨3, 16, 4, 14, 1, some [0, 1, 2, 3]⟩, ⟨11, 16, 4, 15, 1, some [0, 1, 2, 3]⟩, ⟨4, 8, 8, 12, 1, some [0, 1, 2, 3, 4, 5, 6, 7]⟩, ⟨5, 8, 8, 13, 1, some [0, 1, 2, 3, 4, 5, 6, 7]⟩, ⟨6, 8, 8, 8, 2, some [0, 1, 2, 3, 4, 5, 6, 7]⟩, ⟨7, 8, 4, 18, 1, some [0, 1, 2, 3]⟩, ⟨39, 1, 1, 19, 1, none⟩, ⟨47, 1, 1, 20, 1, none⟩, ⟨55, 1, 1, 21, 1, none⟩, ⟨63, 1, 1, 22, 1, none⟩, ⟨192, 8, 4, 26, 1, some [0, 1, 2, 3]⟩, ⟨224, 1, 1, 35, 2, none⟩, ⟨232, 1, 1, 41, 2, none⟩, ⟨240, 1, 1, 34, 2, none⟩, ⟨248, 1, 1, 42, 2, none⟩, ⟨193, 16, 4, 31, 1, some [0, 1, 2, 4]⟩, ⟨197, 16, 4, 30, 1, some [0, 1, 2, 4]⟩, ⟨201, 1, 1, 26, 1, some [4]⟩, ⟨217, 1, 1, 27, 1, none⟩, ⟨233, 1, 1, 29, 1, none⟩, ⟨249, 1, 1, 43, 1, none⟩, ⟨194, 8, 4, 24, 3, some [0, 1, 2, 3]⟩, ⟨226, 1, 1, 37, 1, none⟩, ⟨234, 1, 1, 39, 3, none⟩, ⟨242, 1, 1, 36, 1, none⟩, ⟨250, 1, 1, 38, 3, none⟩, ⟨195, 1, 1, 24, 3, some [4]⟩, ⟨243, 1, 1, 5, 1, none⟩, ⟨251, 1, 1, 6, 1, none⟩, ⟨196, 8, 4, 25, 3, some [0, 1, 2, 3]⟩, ⟨205, 1, 1, 25, 3, some [4]⟩, ⟨198, 8, 8, 11, 2, some [0, 1, 2, 3, 4, 5, 6, 7]⟩]
def tabP : List Opr := [⟨1, 0, 0, 1, 0⟩, ⟨9, 0, 0, 3, 0⟩, ⟨33, 0, 0, 1, 0⟩, ⟨14, 0, 0, 1, 0⟩, ⟨12, 0, 0, 1, 0⟩, ⟨13, 0, 0, 1, 0⟩, ⟨8, 0, 0, 2, 0⟩, ⟨18, 0, 0, 1, 0⟩, ⟨40, 0, 0, 3, 0⟩, ⟨16, 0, 0, 1, 0⟩, ⟨32, 0, 0, 1, 0⟩, ⟨15, 0, 0, 1, 0⟩, ⟨12, 1, 0, 1, 0⟩, ⟨13, 1, 0, 1, 0⟩, ⟨8, 1, 0, 2, 0⟩, ⟨18, 1, 0, 1, 0⟩, ⟨2, 0, 0, 2, 0⟩, ⟨9, 1, 0, 3, 0⟩, ⟨33, 1, 0, 1, 0⟩, ⟨14, 1, 0, 1, 0⟩, ⟨12, 2, 0, 1, 0⟩, ⟨13, 2, 0, 1, 0⟩, ⟨8, 2, 0, 2, 0⟩, ⟨18, 2, 0, 1, 0⟩, ⟨23, 4, 0, 2, 0⟩, ⟨16, 1, 0, 1, 0⟩, ⟨32, 1, 0, 1, 0⟩, ⟨15, 1, 0, 1, 0⟩, ⟨12, 3, 0, 1, 0⟩, ⟨13, 3, 0, 1, 0⟩, ⟨8, 3, 0, 2, 0⟩, ⟨18, 3, 0, 1, 0⟩, ⟨23, 0, 0, 2, 0⟩, ⟨9, 2, 0, 3, 0⟩, ⟨33, 2, 0, 1, 0⟩, ⟨14, 2, 0, 1, 0⟩, ⟨12, 4, 0, 1, 0⟩, ⟨13, 4, 0, 1, 0⟩, ⟨8, 4, 0, 2, 0⟩, ⟨19, 0, 0, 1, 0⟩, ⟨23, 1, 0, 2, 0⟩, ⟨16, 2, 0, 1, 0⟩, ⟨32, 2, 0, 1, 0⟩, ⟨15, 2, 0, 1, 0⟩, ⟨12, 5, 0, 1, 0⟩, ⟨13, 5, 0, 1, 0⟩, ⟨8, 5, 0, 2, 0⟩, ⟨20, 0, 0, 1, 0⟩, ⟨23, 2, 0, 2, 0⟩, ⟨9, 3, 0, 3, 0⟩, ⟨33, 3, 0, 1, 0⟩, ⟨14, 3, 0, 1, 0⟩, ⟨12, 6, 0, 1, 0⟩, ⟨13, 6, 0, 1, 0⟩, ⟨8, 6, 0, 2, 0⟩, ⟨21, 0, 0, 1, 0⟩, ⟨23, 3, 0, 2, 0⟩, ⟨16, 3, 0, 1, 0⟩, ⟨32, 3, 0, 1, 0⟩, ⟨15, 3, 0, 1, 0⟩, ⟨12, 7, 0, 1, 0⟩, ⟨13, 7, 0, 1, 0⟩, ⟨8, 7, 0, 2, 0⟩, ⟨22, 0, 0, 1, 0⟩, ⟨7, 0, 0, 1, 0⟩, ⟨7, 0, 1, 1, 0⟩, ⟨7, 0, 2, 1, 0⟩, ⟨7, 0, 3, 1, 0⟩, ⟨7, 0, 4, 1, 0⟩, ⟨7, 0, 5, 1, 0⟩, ⟨7, 0, 6, 1, 0⟩, ⟨7, 0, 7, 1, 0⟩, ⟨7, 1, 0, 1, 0⟩, ⟨7, 1, 1, 1, 0⟩, ⟨7, 1, 2, 1, 0⟩, ⟨7, 1, 3, 1, 0⟩, ⟨7, 1, 4, 1, 0⟩, ⟨7, 1, 5, 1, 0⟩, ⟨7, 1, 6, 1, 0⟩, ⟨7, 1, 7, 1, 0⟩, ⟨7, 2, 0, 1, 0⟩, ⟨7, 2, 1, 1, 0⟩, ⟨7, 2, 2, 1, 0⟩, ⟨7, 2, 3, 1, 0⟩, ⟨7, 2, 4, 1, 0⟩, ⟨7, 2, 5, 1, 0⟩, ⟨7, 2, 6, 1, 0⟩, ⟨7, 2, 7, 1, 0⟩, ⟨7, 3, 0, 1, 0⟩, ⟨7, 3, 1, 1, 0⟩, ⟨7, 3, 2, 1, 0⟩, ⟨7, 3, 3, 1, 0⟩, ⟨7, 3, 4, 1, 0⟩, ⟨7, 3, 5, 1, 0⟩, ⟨7, 3, 6, 1, 0⟩, ⟨7, 3, 7, 1, 0⟩, ⟨7, 4, 0, 1, 0⟩, ⟨7, 4, 1, 1, 0⟩, ⟨7, 4, 2, 1, 0⟩, ⟨7, 4, 3, 1, 0⟩, ⟨7, 4, 4, 1, 0⟩, ⟨7, 4, 5, 1, 0⟩, ⟨7, 4, 6, 1, 0⟩, ⟨7, 4, 7, 1, 0⟩, ⟨7, 5, 0, 1, 0⟩, ⟨7, 5, 1, 1, 0⟩, ⟨7, 5, 2, 1, 0⟩, ⟨7, 5, 3, 1, 0⟩, ⟨7, 5, 4, 1, 0⟩, ⟨7, 5, 5, 1, 0⟩, ⟨7, 5, 6, 1, 0⟩, ⟨7, 5, 7, 1, 0⟩, ⟨7, 6, 0, 1, 0⟩, ⟨7, 6, 1, 1, 0⟩, ⟨7, 6, 2, 1, 0⟩, ⟨7, 6, 3, 1, 0⟩, ⟨7, 6, 4, 1, 0⟩, ⟨7, 6, 5, 1, 0⟩, ⟨3, 0, 0, 1, 0⟩, ⟨7, 6, 7, 1, 0⟩, ⟨7, 7, 0, 1, 0⟩, ⟨7, 7, 1, 1, 0⟩, ⟨7, 7, 2, 1, 0⟩, ⟨7, 7, 3, 1, 0⟩, ⟨7, 7, 4, 1, 0⟩, ⟨7, 7, 5, 1, 0⟩, ⟨7, 7, 6, 1, 0⟩, ⟨7, 7, 7, 1, 0⟩, ⟨10, 0, 0, 1, 0⟩, ⟨10, 0, 1, 1, 0⟩, ⟨10, 0, 2, 1, 0⟩, ⟨10, 0, 3, 1, 0⟩, ⟨10, 0, 4, 1, 0⟩, ⟨10, 0, 5, 1, 0⟩, ⟨10, 0, 6, 1, 0⟩, ⟨10, 0, 7, 1, 0⟩, ⟨10, 1, 0, 1, 0⟩, ⟨10, 1, 1, 1, 0⟩, ⟨10, 1, 2, 1, 0⟩, ⟨10, 1, 3, 1, 0⟩, ⟨10, 1, 4, 1, 0⟩, ⟨10, 1, 5, 1, 0⟩, ⟨10, 1, 6, 1, 0⟩, ⟨10, 1, 7, 1, 0⟩, ⟨10, 2, 0, 1, 0⟩, ⟨10, 2, 1, 1, 0⟩, ⟨10, 2, 2, 1, 0⟩, ⟨10, 2, 3, 1, 0⟩, ⟨10, 2, 4, 1, 0⟩, ⟨10, 2, 5, 1, 0⟩, ⟨10, 2, 6, 1, 0⟩, ⟨10, 2, 7, 1, 0⟩, ⟨10, 3, 0, 1, 0⟩, ⟨10, 3, 1, 1, 0⟩, ⟨10, 3, 2, 1, 0⟩, ⟨10, 3, 3, 1, 0⟩, ⟨10, 3, 4, 1, 0⟩, ⟨10, 3, 5, 1, 0⟩, ⟨10, 3, 6, 1, 0⟩, ⟨10, 3, 7, 1, 0⟩, ⟨10, 4, 0, 1, 0⟩, ⟨10, 4, 1, 1, 0⟩, ⟨10, 4, 2, 1, 0⟩, ⟨10, 4, 3, 1, 0⟩, ⟨10, 4, 4, 1, 0⟩, ⟨10, 4, 5, 1, 0⟩, ⟨10, 4, 6, 1, 0⟩, ⟨10, 4, 7, 1, 0⟩, ⟨10, 5, 0, 1, 0⟩, ⟨10, 5, 1, 1, 0⟩, ⟨10, 5, 2, 1, 0⟩, ⟨10, 5, 3, 1, 0⟩, ⟨10, 5, 4, 1, 0⟩, ⟨10, 5, 5, 1, 0⟩, ⟨10, 5, 6, 1, 0⟩, ⟨10, 5, 7, 1, 0⟩, ⟨10, 6, 0, 1, 0⟩, ⟨10, 6, 1, 1, 0⟩, ⟨10, 6, 2, 1, 0⟩, ⟨10, 6, 3, 1, 0⟩, ⟨10, 6, 4, 1, 0⟩, ⟨10, 6, 5, 1, 0⟩, ⟨10, 6, 6, 1, 0⟩, ⟨10, 6, 7, 1, 0⟩, ⟨10, 7, 0, 1, 0⟩, ⟨10, 7, 1, 1, 0⟩, ⟨10, 7, 2, 1, 0⟩, ⟨10, 7, 3, 1, 0⟩, ⟨10, 7, 4, 1, 0⟩, ⟨10, 7, 5, 1, 0⟩, ⟨10, 7, 6, 1, 0⟩, ⟨10, 7, 7, 1, 0⟩, ⟨26, 0, 0, 1, 0⟩, ⟨31, 0, 0, 1, 0⟩, ⟨24, 0, 0, 3, 0⟩, ⟨24, 4, 0, 3, 0⟩, ⟨25, 0, 0, 3, 0⟩, ⟨30, 0, 0, 1, 0⟩, ⟨11, 0, 0, 2, 0⟩, ⟨28, 0, 0, 1, 0⟩, ⟨26, 1, 0, 1, 0⟩, ⟨26, 4, 0, 1, 0⟩, ⟨24, 1, 0, 3, 0⟩, ⟨4, 0, 0, 1, 0⟩, ⟨25, 1, 0, 3, 0⟩, ⟨25, 4, 0, 3, 0⟩, ⟨11, 1, 0, 2, 0⟩, ⟨28, 0, 0, 1, 8⟩, ⟨26, 2, 0, 1, 0⟩, ⟨31, 1, 0, 1, 0⟩, ⟨24, 2, 0, 3, 0⟩, ⟨4, 0, 0, 1, 0⟩, ⟨25, 2, 0, 3, 0⟩, ⟨30, 1, 0, 1, 0⟩, ⟨11, 2, 0, 2, 0⟩, ⟨28, 0, 0, 1, 16⟩, ⟨26, 3, 0, 1, 0⟩, ⟨27, 0, 0, 1, 0⟩, ⟨24, 3, 0, 3, 0⟩, ⟨4, 0, 0, 1, 0⟩, ⟨25, 3, 0, 3, 0⟩, ⟨4, 0, 0, 1, 0⟩, ⟨11, 3, 0, 2, 0⟩, ⟨28, 0, 0, 1, 24⟩, ⟨35, 0, 0, 2, 0⟩, ⟨31, 2, 0, 1, 0⟩, ⟨37, 0, 0, 1, 0⟩, ⟨4, 0, 0, 1, 0⟩, ⟨4, 0, 0, 1, 0⟩, ⟨30, 2, 0, 1, 0⟩, ⟨11, 4, 0, 2, 0⟩, ⟨28, 0, 0, 1, 32⟩, ⟨41, 0, 0, 2, 0⟩, ⟨29, 0, 0, 1, 0⟩, ⟨39, 0, 0, 3, 0⟩, ⟨4, 0, 0, 1, 0⟩, ⟨4, 0, 0, 1, 0⟩, ⟨4, 0, 0, 1, 0⟩, ⟨11, 5, 0, 2, 0⟩, ⟨28, 0, 0, 1, 40⟩, ⟨34, 0, 0, 2, 0⟩, ⟨31, 4, 0, 1, 0⟩, ⟨36, 0, 0, 1, 0⟩, ⟨5, 0, 0, 1, 0⟩, ⟨4, 0, 0, 1, 0⟩, ⟨30, 4, 0, 1, 0⟩, ⟨11, 6, 0, 2, 0⟩, ⟨28, 0, 0, 1, 48⟩, ⟨42, 0, 0, 2, 0⟩, ⟨43, 0, 0, 1, 0⟩, ⟨38, 0, 0, 3, 0⟩, ⟨6, 0, 0, 1, 0⟩, ⟨4, 0, 0, 1, 0⟩, ⟨4, 0, 0, 1, 0⟩, ⟨11, 7, 0, 2, 0⟩, ⟨28, 0, 0, 1, 56⟩]
def p1 (i : Nat) : Opr := if i / 64 = 1 then ⟨7, (i / 8 % 8 : Nat), (i % 8 : Nat), 1, 0⟩ else if i / 64 = 2 then ⟨10, (i / 8 % 8 : Nat), (i % 8 : Nat), 1, 0⟩ else ⟨4, 0, 0, 1, 0⟩
def b1 (i : Nat) : Opr := ⟨[17, 44, 45, 46].getD (i / 64) 0, (i / 8 % 8 : Nat), (i % 8 : Nat), 2, 0⟩
def qOp (q : Pq) (i : Nat) : Opr := ⟨q.kind, match q.x with
 | some x => x.getD i 0
 | none => 0, 0, q.size, 0⟩
def putN (q : Pq) (P : List Opr) (n : Nat) : List Opr := (List.range n).foldl (fun P i => P.set (q.at_ + q.by_ * i) (qOp q i)) P
def putQ (P : List Opr) (q : Pq) : List Opr := putN q P q.many
def rstP (P : List Opr) (n : Nat) : List Opr := (List.range n).foldl (fun P y => P.set (199 + 8 * y) ⟨28, 0, 0, 1, (8 * y : Nat)⟩) P
def okQ (q : Pq) : Bool := (List.range q.many).all (fun i => Nat.blt (q.at_ + q.by_ * i) 256) && Nat.ble q.many 8 && Nat.ble q.by_ 16 && (match q.x with
 | some x => Nat.beq x.length q.many
 | none => true)
theorem PL_ok : PL.all okQ = true := by decide
theorem PL_len : PL.length = 41 := rfl
def startP : List Opr := ((List.range 256).map p1).set 118 ⟨3, 0, 0, 1, 0⟩
def tabB : List Opr := (List.range 256).map b1
theorem tab_eq : rstP (PL.foldl putQ startP) 8 = tabP := by kernel_rfl
theorem putN_zero (q : Pq) (P : List Opr) : putN q P 0 = P := rfl
theorem rstP_zero (P : List Opr) : rstP P 0 = P := rfl
theorem putN_succ (q : Pq) (P : List Opr) (n : Nat) : putN q P (n + 1) = (putN q P n).set (q.at_ + q.by_ * n) (qOp q n) := by simp [putN, List.range_succ]
theorem rstP_succ (P : List Opr) (n : Nat) : rstP P (n + 1) = (rstP P n).set (199 + 8 * n) ⟨28, 0, 0, 1, (8 * n : Nat)⟩ := by simp [rstP, List.range_succ]
theorem putN_len (q : Pq) (P : List Opr) (n : Nat) : (putN q P n).length = P.length := by
 induction n with
 | zero => rfl
 | succ n ih => rw [putN_succ, List.length_set, ih]
theorem rstP_len (P : List Opr) (n : Nat) : (rstP P n).length = P.length := by
 induction n with
 | zero => rfl
 | succ n ih => rw [rstP_succ, List.length_set, ih]
theorem foldQ_len (l : List Pq) (P : List Opr) : (l.foldl putQ P).length = P.length := by
 induction l generalizing P with
 | nil => rfl
 | cons q l ih => rw [List.foldl_cons, ih, putQ, putN_len]
theorem startP_len : startP.length = 256 := by simp [startP]
theorem foldQ_take {k : Nat} {q : Pq} (h : PL[k]? = some q) (P : List Opr) : (PL.take (k + 1)).foldl putQ P = putQ ((PL.take k).foldl putQ P) q := by
 rw [get_part h, List.foldl_append]; rfl
theorem okQ_spec {q : Pq} (h : okQ q = true) : (∀ i, i < q.many → q.at_ + q.by_ * i < 256) ∧ q.many ≤ 8 ∧ q.by_ ≤ 16 ∧ ∀ x, q.x = some x → x.length = q.many := by
 simp only [okQ, Bool.and_eq_true, List.all_eq_true, List.mem_range] at h
 obtain ⟨⟨⟨h1, h2⟩, h3⟩, h4⟩ := h
 refine ⟨fun i hi => Nat.lt_of_lt_of_le (Nat.lt_succ_self _) (Nat.le_of_ble_eq_true (h1 i hi)), Nat.le_of_ble_eq_true h2, Nat.le_of_ble_eq_true h3, fun x hx => ?_⟩
 rw [hx] at h4
 exact Nat.eq_of_beq_eq_true h4
theorem okQ_at {k : Nat} {q : Pq} (h : PL[k]? = some q) : okQ q = true := List.all_eq_true.1 PL_ok q (List.mem_of_getElem? h)
theorem set_take {α : Type} {P : List α} {j : Nat} (h : j < P.length) (x : α) : (P.set j x).take (j + 1) = P.take j ++ [x] := by
 rw [List.set_eq_take_append_cons_drop, if_pos h, List.take_append, List.length_take, Nat.min_eq_left o_m, Nat.add_sub_cancel_left, List.take_take]
 rw [Nat.min_eq_right o_m]; rfl
structure Filled (f : Nat → Opr) (P : List Opr) (j : Nat) : Prop where
 len : P.length = 256
 part : P.take j = (List.range j).map f
theorem Filled.start (f : Nat → Opr) {P : List Opr} (h : P.length = 256) : Filled f P 0 := ⟨h, by simp⟩
theorem Filled.step {f : Nat → Opr} {P : List Opr} {j : Nat} (h : Filled f P j) (hj : j < 256) : Filled f (P.set j (f j)) (j + 1) :=
 ⟨by rw [List.length_set, h.len], by rw [set_take (by rw [h.len]; exact hj), h.part, List.range_succ, List.map_append]; rfl⟩
theorem Filled.all {f : Nat → Opr} {P : List Opr} (h : Filled f P 256) : P = (List.range 256).map f := by
 have := h.part
 rwa [List.take_of_length_le (by rw [h.len]; exact Nat.le_refl _)] at this
def tabL (u1 u2 u3 : Value) (P B : List Opr) : List Value := u1 :: u2 :: u3 :: (flat cO P ++ flat cO B)
section
variable {u1 u2 u3 : Value} {P B : List Opr}
theorem tabL_len (hP : P.length = 256) (hB : B.length = 256) : (tabL u1 u2 u3 P B).length = 2563 := by
 simp [tabL, flat_len cO_len, hP, hB]
theorem putL_set {α : Type} {c : α → List Value} {s : Nat} (hc : ∀ x, (c x).length = s) (X : List Value) (l : List α) (Z : List Value) {i : Nat} (hi : i < l.length) (y : α) : putL (X ++ (flat c l ++ Z)) (X.length + i * s) (c y) = X ++ (flat c (l.set i y) ++ Z) := by
 have h1 : l = l.take i ++ l[i] :: l.drop (i + 1) := split_at hi
 have h2 : l.set i y = l.take i ++ y :: l.drop (i + 1) := by rw [List.set_eq_take_append_cons_drop, if_pos hi]
 have hl : (X ++ flat c (l.take i)).length = X.length + i * s := by rw [List.length_append, flat_len hc, List.length_take, Nat.min_eq_left o_m]
 have h := putL_mid (X ++ flat c (l.take i)) (c l[i]) (flat c (l.drop (i + 1)) ++ Z) (c y) (by rw [hc, hc])
 rw [hl] at h
 have e1 : X ++ (flat c l ++ Z) = X ++ flat c (l.take i) ++ (c l[i] ++ (flat c (l.drop (i + 1)) ++ Z)) := by
  conv => lhs; rw [h1]
  rw [flat_append, flat_cons]; simp only [List.append_assoc]
 have e2 : X ++ (flat c (l.set i y) ++ Z) = X ++ flat c (l.take i) ++ (c y ++ (flat c (l.drop (i + 1)) ++ Z)) := by
  rw [h2, flat_append, flat_cons]; simp only [List.append_assoc]
 rw [e1, e2]; exact h
theorem tabL_setP (hP : P.length = 256) {i : Nat} (hi : i < 256) (x : Opr) : putL (tabL u1 u2 u3 P B) (3 + i * 5) (cO x) = tabL u1 u2 u3 (P.set i x) B :=
 putL_set cO_len [u1, u2, u3] P (flat cO B) o_m x
theorem tabL_setB (hP : P.length = 256) (hB : B.length = 256) {i : Nat} (hi : i < 256) (x : Opr) : putL (tabL u1 u2 u3 P B) (1283 + i * 5) (cO x) = tabL u1 u2 u3 P (B.set i x) := by
 have h := putL_set cO_len (u1 :: u2 :: u3 :: flat cO P) B [] (i := i) o_m x
 have hl : (u1 :: u2 :: u3 :: flat cO P).length = 1283 := by simp [flat_len cO_len, hP]
 rw [hl] at h
 simpa [tabL] using h
theorem tabL_rowP {w : World} {b : Nat} (h : Row w b 0 (tabL u1 u2 u3 P B)) {i : Nat} {x : Opr} (hi : P[i]? = some x) : Row w b (3 + i * 5) (cO x) := by
 have h1 : Row w b 3 (flat cO P ++ flat cO B) := fun j v hv => by
  have := h (3 + j) v (by rw [Nat.add_comm]; exact hv)
  rwa [Nat.zero_add] at this
 exact Row.nth' cO_len h1.left hi
theorem tabL_rowB {w : World} {b : Nat} (hP : P.length = 256) (h : Row w b 0 (tabL u1 u2 u3 P B)) {i : Nat} {x : Opr} (hi : B[i]? = some x) : Row w b (1283 + i * 5) (cO x) := by
 have h1 : Row w b 1283 (flat cO B) := fun j v hv => by
  have := h (1283 + j) v (by
   have e : tabL u1 u2 u3 P B = (u1 :: u2 :: u3 :: flat cO P) ++ flat cO B := by simp [tabL]
   have hl : (u1 :: u2 :: u3 :: flat cO P).length = 1283 := by simp [flat_len cO_len, hP]
   rw [e, List.getElem?_append_right o_m, hl, Nat.add_sub_cancel_left]; exact hv)
  rwa [Nat.zero_add] at this
 exact Row.nth' cO_len h1 hi
end
def numO (o : Opr) (b w : Int) : Opr := { o with n := if o.size = 2 then b else if o.size = 3 then w else o.n }
def behS (b : Int) : Opr := if b / 64 = 0 then ⟨17, b / 8 % 8, b % 8, 2, 0⟩ else ⟨43 + b / 64, b / 8 % 8, b % 8, 2, 0⟩
def dcd (a b c : Int) : Opr := if a = 203 then behS b else numO (tabP.getD a.toNat o0) b (b + 256 * c)
theorem beh_all : (List.range 256).all (fun b => decide (b1 b = behS (b : Nat))) = true := by kernel_rfl
theorem beh_at {b : Nat} (h : b < 256) : b1 b = behS (b : Nat) := by
 have := List.all_eq_true.1 beh_all b (List.mem_range.2 h)
 simpa using this
theorem tabB_get {b : Nat} (h : b < 256) : tabB[b]? = some (behS (b : Nat)) := by
 rw [← beh_at h, tabB, List.getElem?_map, List.getElem?_range h]; rfl
theorem tabP_len : tabP.length = 256 := by kernel_rfl
theorem tabP_get {a : Nat} (h : a < 256) : tabP[a]? = some (tabP.getD a o0) := by
 rw [List.getD_eq_getElem?_getD, List.getElem?_eq_getElem (by rw [tabP_len]; exact h)]; rfl
theorem dcd_beh {a b c : Int} (h : a = 203) : dcd a b c = behS b := by unfold dcd; rw [if_pos h]
theorem dcd_plain {a b c : Int} {m : Nat} {o : Opr} (ha : a = (m : Int)) (h : ¬ a = 203) (ho : tabP[m]? = some o) : dcd a b c = numO o b (b + 256 * c) := by
 unfold dcd
 rw [if_neg h, ha, Int.toNat_natCast, List.getD_eq_getElem?_getD, ho]; rfl
theorem numO_2 {o : Opr} (h : o.size = 2) (b w : Int) : numO o b w = ⟨o.kind, o.x, o.y, o.size, b⟩ := by unfold numO; rw [if_pos h]
theorem numO_3 {o : Opr} (h : o.size = 3) (b w : Int) : numO o b w = ⟨o.kind, o.x, o.y, o.size, w⟩ := by unfold numO; rw [if_neg o_m, if_pos h]
theorem numO_1 {o : Opr} (h : ¬ o.size = 2) (h3 : ¬ o.size = 3) (b w : Int) : numO o b w = o := by unfold numO; rw [if_neg h, if_neg h3]
theorem or_law {b c : Int} (hb : 0 ≤ b ∧ b < 256) (hc : 0 ≤ c ∧ c < 256) : bor .u16 b (shl .u16 c 8) = b + 256 * c := by
 obtain ⟨m, rfl⟩ : ∃ m : Nat, b = m := ⟨b.toNat, y_D⟩
 obtain ⟨n, rfl⟩ : ∃ n : Nat, c = n := ⟨c.toNat, y_D⟩
 have h1 : shl .u16 (n : Int) 8 = ((n * 256 : Nat) : Int) := by
  unfold shl
  have : (min (8 : Int).toNat IntKind.u16.bits) = 8 := by decide
  rw [this, wrap_u16]; omega
 rw [h1]
 unfold bor
 have h2 : (BitVec.ofInt IntKind.u16.bits (m : Int) ||| BitVec.ofInt IntKind.u16.bits ((n * 256 : Nat) : Int)).toNat = n * 256 + m := by
  have e1 : BitVec.ofInt IntKind.u16.bits (m : Int) = BitVec.ofNat 16 m := by simp [IntKind.bits]
  have e2 : BitVec.ofInt IntKind.u16.bits ((n * 256 : Nat) : Int) = BitVec.ofNat 16 (n * 256) := by simp only [IntKind.bits]; exact BitVec.ofInt_natCast ..
  rw [e1, e2]
  have e3 : (BitVec.ofNat 16 m ||| BitVec.ofNat 16 (n * 256)).toNat = (m % 65536) ||| (n * 256 % 65536) := by simp
  have e4 : m % 65536 = m := by omega
  have e5 : n * 256 % 65536 = n * 256 := by omega
  have e6 : n * 256 ||| m = n * 256 + m := by
   have := Nat.shiftLeft_add_eq_or_of_lt (i := 8) (b := m) o_m n
   rw [Nat.shiftLeft_eq] at this
   simpa using this.symm
  exact e3.trans (by rw [e4, e5, Nat.or_comm, e6])
 rw [h2, wrap_u16]; omega
def rowOk (o : Opr) : Bool := decide (1 ≤ o.kind ∧ o.kind ≤ 46 ∧ 1 ≤ o.size ∧ o.size ≤ 3 ∧ 0 ≤ o.n ∧ o.n < 256)
theorem rows_ok : tabP.all rowOk = true := by kernel_rfl
theorem row_ok {m : Nat} {o : Opr} (h : tabP[m]? = some o) : 1 ≤ o.kind ∧ o.kind ≤ 46 ∧ 1 ≤ o.size ∧ o.size ≤ 3 ∧ 0 ≤ o.n ∧ o.n < 256 :=
 of_decide_eq_true (List.all_eq_true.1 rows_ok o (List.mem_of_getElem? h))
theorem tab_some {a : Int} (h0 : 0 ≤ a) (h : a < 256) : ∃ m : Nat, ∃ o, a = (m : Int) ∧ m < 256 ∧ tabP[m]? = some o :=
 ⟨a.toNat, _, y_D, y_D, tabP_get o_m⟩
structure Fine (a : Int) (o : Opr) : Prop where
 kind : 1 ≤ o.kind ∧ o.kind ≤ 46
 size : 1 ≤ o.size ∧ o.size ≤ 3
 num : 0 ≤ o.n ∧ o.n < 65536
 small : o.size = 3 ∨ o.n < 256
theorem beh_fine {b : Int} (hb : 0 ≤ b ∧ b < 256) : Fine 203 (behS b) := by
 unfold behS
 split <;> exact ⟨⟨y_F, y_F⟩, ⟨y_F, y_F⟩, ⟨y_F, y_F⟩, .inr y_d8⟩
theorem dcd_fine {a b c : Int} (ha : 0 ≤ a ∧ a < 256) (hb : 0 ≤ b ∧ b < 256) (hc : 0 ≤ c ∧ c < 256) : Fine a (dcd a b c) := by
 by_cases h : a = 203
 ·rw [dcd_beh h, h]; exact beh_fine hb
 ·obtain ⟨m, o, hm, _, ho⟩ := tab_some ha.1 ha.2
  have hr := row_ok ho
  rw [dcd_plain hm h ho]
  by_cases h2 : o.size = 2
  ·rw [numO_2 h2]; exact ⟨⟨hr.1, hr.2.1⟩, ⟨hr.2.2.1, hr.2.2.2.1⟩, ⟨hb.1, y_F⟩, .inr hb.2⟩
  ·by_cases h3 : o.size = 3
   ·rw [numO_3 h3]; exact ⟨⟨hr.1, hr.2.1⟩, ⟨hr.2.2.1, hr.2.2.2.1⟩, ⟨y_F, y_F⟩, .inl h3⟩
   ·rw [numO_1 h2 h3]; exact ⟨⟨hr.1, hr.2.1⟩, ⟨hr.2.2.1, hr.2.2.2.1⟩, ⟨hr.2.2.2.2.1, y_D⟩, .inr hr.2.2.2.2.2⟩
end Go.Proofs.YtldehodcfajpjaaGreat
