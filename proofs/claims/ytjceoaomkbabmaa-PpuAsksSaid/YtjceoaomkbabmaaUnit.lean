/- The unit that makes the picture: what it is, and what it does. Plain definitions and laws, no program. -/
import Derived.Test.YtjceoaomkbabmaaTiles
import Derived.Test.YtjceoaomkbabmaaSort
import Derived.Test.YtjceoaomkbabmaaVvO
namespace Go.Proofs.Ytjceoaomkbabmaa
open Go Go.VV

structure PU where
  V : List Int
  O : List Int
  R : List Int
  line : Int
  dot : Int
  own : Int
  frames : Int
  sig : Bool
  P : List Int
def cU (u : PU) : List Value := u.V.map (.int .u8) ++ (u.O.map (.int .u8) ++ (u.R.map (.int .u8) ++ ([.int .i64 u.line, .int .i64 u.dot, .int .i64 u.own, .int .i64 u.frames, .bool u.sig] ++ u.P.map (.int .u8))))
abbrev PU.r (u : PU) (j : Nat) : Int := u.R.getD j 0
structure PU.Wf (u : PU) : Prop where
  lV : u.V.length = 8192
  lO : u.O.length = 160
  lR : u.R.length = 12
  lP : u.P.length = 23040
  bV : Byts u.V
  bO : Byts u.O
  bR : Byts u.R
  bP : Byts u.P
  line : 0 ≤ u.line ∧ u.line ≤ 154
  dot : 0 ≤ u.dot ∧ u.dot ≤ 114
  own : 0 ≤ u.own ∧ u.own ≤ 600
  frames : 0 ≤ u.frames ∧ u.frames < 65536
  how : band .u8 (u.R.getD 1 0) 120 = u.R.getD 1 0
structure PU.Ok (u : PU) : Prop where
  wf : u.Wf
  line : u.line < 154
  dot : u.dot < 114
  own : u.own ≤ 255 + u.line + (if 63 ≤ u.dot then 1 else 0)
theorem cU_len {u : PU} (h : u.Wf) : (cU u).length = 31409 := by
  simp [cU, h.lV, h.lO, h.lR, h.lP]
section
variable {u : PU}
theorem cU_V (h : u.Wf) {j : Nat} (hj : j < 8192) : (cU u)[j]? = some (.int .u8 (u.V.getD j 0)) := get_left (map_at (by rw [h.lV]; exact hj))
theorem cU_O (h : u.Wf) {j : Nat} (hj : j < 160) : (cU u)[8192 + j]? = some (.int .u8 (u.O.getD j 0)) :=
  get_right (n := j) (by rw [List.length_map, h.lV]) (get_left (map_at (by rw [h.lO]; exact hj)))
theorem cU_R (h : u.Wf) {j : Nat} (hj : j < 12) : (cU u)[8352 + j]? = some (.int .u8 (u.R.getD j 0)) :=
  get_right (n := 160 + j) (by rw [List.length_map, h.lV]; omega) (get_right (n := j) (by rw [List.length_map, h.lO]) (get_left (map_at (by rw [h.lR]; exact hj))))
theorem cU_five (h : u.Wf) {j : Nat} {v : Value} (hv : ([.int .i64 u.line, .int .i64 u.dot, .int .i64 u.own, .int .i64 u.frames, .bool u.sig] : List Value)[j]? = some v) : (cU u)[8364 + j]? = some v :=
  get_right (n := 172 + j) (by rw [List.length_map, h.lV]; omega) (get_right (n := 12 + j) (by rw [List.length_map, h.lO]; omega) (get_right (n := j) (by rw [List.length_map, h.lR]) (get_left hv)))
theorem cU_line (h : u.Wf) : (cU u)[8364]? = some (.int .i64 u.line) := cU_five h (j := 0) rfl
theorem cU_dot (h : u.Wf) : (cU u)[8365]? = some (.int .i64 u.dot) := cU_five h (j := 1) rfl
theorem cU_own (h : u.Wf) : (cU u)[8366]? = some (.int .i64 u.own) := cU_five h (j := 2) rfl
theorem cU_frames (h : u.Wf) : (cU u)[8367]? = some (.int .i64 u.frames) := cU_five h (j := 3) rfl
theorem cU_sig (h : u.Wf) : (cU u)[8368]? = some (.bool u.sig) := cU_five h (j := 4) rfl
theorem rowV {w : World} {b : Nat} (hr : Row w b 0 (cU u)) : Row w b 0 (u.V.map (.int .u8)) := hr.left
theorem rowO (h : u.Wf) {w : World} {b : Nat} (hr : Row w b 0 (cU u)) : Row w b 8192 (u.O.map (.int .u8)) :=
  (hr.right (n := 8192) (by rw [List.length_map, h.lV])).left
theorem rowR (h : u.Wf) {w : World} {b : Nat} (hr : Row w b 0 (cU u)) : Row w b 8352 (u.R.map (.int .u8)) :=
  ((hr.right (n := 8192) (by rw [List.length_map, h.lV])).right (n := 8352) (by rw [List.length_map, h.lO])).left
theorem rowP (h : u.Wf) {w : World} {b : Nat} (hr : Row w b 0 (cU u)) : Row w b 8369 (u.P.map (.int .u8)) :=
  (((hr.right (n := 8192) (by rw [List.length_map, h.lV])).right (n := 8352) (by rw [List.length_map, h.lO])).right (n := 8364) (by rw [List.length_map, h.lR])).right (n := 8369) rfl
theorem putU_V (h : u.Wf) {j : Nat} (hj : j < 8192) (x : Int) : putL (cU u) j [.int .u8 x] = cU { u with V := u.V.set j x } := by
  unfold cU
  rw [putL_left (by simp [h.lV]; omega), putL_int .u8 (by rw [h.lV]; exact hj)]
theorem putU_O (h : u.Wf) {j : Nat} (hj : j < 160) (x : Int) : putL (cU u) (8192 + j) [.int .u8 x] = cU { u with O := u.O.set j x } := by
  unfold cU
  rw [putL_right (n := j) (by rw [List.length_map, h.lV]) (by simp [h.lO]; omega), putL_left (by simp [h.lO]; omega), putL_int .u8 (by rw [h.lO]; exact hj)]
theorem putU_R (h : u.Wf) {j : Nat} (hj : j < 12) (x : Int) : putL (cU u) (8352 + j) [.int .u8 x] = cU { u with R := u.R.set j x } := by
  unfold cU
  rw [putL_right (n := 160 + j) (by rw [List.length_map, h.lV]; omega) (by simp [h.lO, h.lR]; omega), putL_right (n := j) (by rw [List.length_map, h.lO]) (by simp [h.lR]; omega), putL_left (by simp [h.lR]; omega), putL_int .u8 (by rw [h.lR]; exact hj)]
theorem putU_five (h : u.Wf) {j : Nat} {v : Value} (hj : j < 5) : putL (cU u) (8364 + j) [v] = u.V.map (.int .u8) ++ (u.O.map (.int .u8) ++ (u.R.map (.int .u8) ++ (putL [.int .i64 u.line, .int .i64 u.dot, .int .i64 u.own, .int .i64 u.frames, .bool u.sig] j [v] ++ u.P.map (.int .u8)))) := by
  unfold cU
  rw [putL_right (n := 172 + j) (by rw [List.length_map, h.lV]; omega) (by simp [h.lO, h.lR]; omega), putL_right (n := 12 + j) (by rw [List.length_map, h.lO]; omega) (by simp [h.lR]; omega), putL_right (n := j) (by rw [List.length_map, h.lR]) (by simp; omega), putL_left (by simp; omega)]
theorem putU_line (h : u.Wf) (x : Int) : putL (cU u) 8364 [.int .i64 x] = cU { u with line := x } := putU_five h (j := 0) (by decide)
theorem putU_dot (h : u.Wf) (x : Int) : putL (cU u) 8365 [.int .i64 x] = cU { u with dot := x } := putU_five h (j := 1) (by decide)
theorem putU_own (h : u.Wf) (x : Int) : putL (cU u) 8366 [.int .i64 x] = cU { u with own := x } := putU_five h (j := 2) (by decide)
theorem putU_frames (h : u.Wf) (x : Int) : putL (cU u) 8367 [.int .i64 x] = cU { u with frames := x } := putU_five h (j := 3) (by decide)
theorem putU_sig (h : u.Wf) (x : Bool) : putL (cU u) 8368 [.bool x] = cU { u with sig := x } := putU_five h (j := 4) (by decide)
theorem putU_P (h : u.Wf) {j : Nat} {r : List Int} (hj : j + r.length ≤ 23040) : putL (cU u) (8369 + j) (r.map (.int .u8)) = cU { u with P := putI u.P j r } := by
  unfold cU
  rw [putL_right (n := 177 + j) (by rw [List.length_map, h.lV]; omega) (by simp [h.lO, h.lR, h.lP]; omega), putL_right (n := 17 + j) (by rw [List.length_map, h.lO]; omega) (by simp [h.lR, h.lP]; omega), putL_right (n := 5 + j) (by rw [List.length_map, h.lR]; omega) (by simp [h.lP]; omega), putL_right (n := j) (by simp) (by simp [h.lP]; omega), putI_map]
end
/-! ### what it does -/
def litU (u : PU) : Bool := decide (128 ≤ u.r 0)
def modeU (u : PU) : Int := if litU u = true then (if 144 ≤ u.line then 1 else if u.dot < 20 then 2 else if u.dot < 63 then 3 else 0) else 0
def foundU (u : PU) : Bool := litU u && (u.line == u.r 5)
def modeBit (m : Int) : Int := if m = 0 then 8 else if m = 1 then 16 else if m = 2 then 32 else 0
def sigU (u : PU) : Bool := litU u && ((band .u8 (u.r 1) (modeBit (modeU u)) != 0) || ((band .u8 (u.r 1) 64 != 0) && foundU u))
def askU (u : PU) : PU := { u with sig := sigU u }
def askV (u : PU) : Int := if sigU u = true ∧ u.sig = false then 2 else 0
def viewU (u : PU) : Vw := ⟨u.r 0, u.r 3, u.r 2, u.r 11, u.r 10⟩
def belowU (u : PU) : List Int := tLine u.V (viewU u) u.line u.own
def rowU (u : PU) : List Int := (List.range 160).map (lineS u.V u.O (u.r 0) (u.r 7) (u.r 8) (u.r 9) u.line (belowU u))
def paintU (u : PU) : PU := { u with P := putI u.P (u.line.toNat * 160) (rowU u), own := if tSeen (viewU u) u.line = true then u.own + 1 else u.own }
def nextU (u : PU) : PU := if u.line = 143 then { u with dot := 0, line := 144, frames := (u.frames + 1) % 65536 } else if u.line = 153 then { u with dot := 0, line := 0, own := 0 } else { u with dot := 0, line := u.line + 1 }
def nextV (u : PU) : Int := if u.line = 143 then 1 else 0
def oneU (u : PU) : PU := { u with dot := u.dot + 1 }
def stepU (u : PU) : PU := if u.dot = 62 ∧ u.line < 144 then paintU (oneU u) else if u.dot = 113 then nextU (oneU u) else oneU u
def stepV (u : PU) : Int := if u.dot = 113 ∧ u.line = 143 then 1 else 0
def tickU (u : PU) : PU := if litU u = true then askU (stepU u) else u
def tickV (u : PU) : Int := if litU u = true then stepV u + askV (stepU u) else 0
def zeroU : PU := ⟨List.replicate 8192 0, List.replicate 160 0, List.replicate 12 0, 0, 0, 0, 0, false, List.replicate 23040 0⟩
theorem byts_rep (n : Nat) : Byts (List.replicate n 0) := fun x hx => by rw [(List.mem_replicate.1 hx).2]; omega
theorem zeroU_wf : zeroU.Wf := by
  refine ⟨List.length_replicate, List.length_replicate, List.length_replicate, List.length_replicate, byts_rep _, byts_rep _, byts_rep _, byts_rep _, ?_, ?_, ?_, ?_, ?_⟩ <;> decide +kernel
theorem zeroU_ok : zeroU.Ok := ⟨zeroU_wf, by decide, by decide, by decide⟩
section
variable {u : PU}
theorem PU.Wf.look (h : u.Wf) (j : Nat) : 0 ≤ u.r j ∧ u.r j < 256 := h.bR.get j
theorem viewU_ok (h : u.Wf) : (viewU u).Ok := ⟨h.look 0, h.look 3, h.look 2, h.look 11, h.look 10⟩
theorem lit_law (h : u.Wf) : (band .u8 (u.r 0) 128 != 0) = litU u := by
  have := byte_all (p := fun c => (band .u8 c 128 != 0) = decide (128 ≤ c)) (by decide +kernel) (h.look 0).1 (h.look 0).2
  exact this
theorem mode_range (u : PU) : 0 ≤ modeU u ∧ modeU u < 4 := by
  unfold modeU; repeat' split
  all_goals omega
theorem rowU_len (u : PU) : (rowU u).length = 160 := by simp [rowU]
theorem mb_at (u : PU) : ([.int .u8 8, .int .u8 16, .int .u8 32, .int .u8 0] : List Value)[0 + (modeU u).toNat]? = some (.int .u8 (modeBit (modeU u))) := by
  obtain ⟨h1, h2⟩ := mode_range u
  rcases (show modeU u = 0 ∨ modeU u = 1 ∨ modeU u = 2 ∨ modeU u = 3 by omega) with h | h | h | h <;> rw [h] <;> rfl
theorem ask_put (h : u.Wf) {X : Bool} (hX : X = sigU u) : putL (cU u) 8368 [.bool X] = cU (askU u) := by subst hX; exact putU_sig h _
theorem PU.Wf.sig_ (h : u.Wf) (x : Bool) : ({ u with sig := x } : PU).Wf := ⟨h.lV, h.lO, h.lR, h.lP, h.bV, h.bO, h.bR, h.bP, h.line, h.dot, h.own, h.frames, h.how⟩
theorem PU.Wf.ask (h : u.Wf) : (askU u).Wf := h.sig_ _
theorem PU.Wf.dot_ (h : u.Wf) {x : Int} (hx : 0 ≤ x ∧ x ≤ 114) : ({ u with dot := x } : PU).Wf := ⟨h.lV, h.lO, h.lR, h.lP, h.bV, h.bO, h.bR, h.bP, h.line, hx, h.own, h.frames, h.how⟩
theorem PU.Wf.line_ (h : u.Wf) {x : Int} (hx : 0 ≤ x ∧ x ≤ 154) : ({ u with line := x } : PU).Wf := ⟨h.lV, h.lO, h.lR, h.lP, h.bV, h.bO, h.bR, h.bP, hx, h.dot, h.own, h.frames, h.how⟩
theorem PU.Wf.own_ (h : u.Wf) {x : Int} (hx : 0 ≤ x ∧ x ≤ 600) : ({ u with own := x } : PU).Wf := ⟨h.lV, h.lO, h.lR, h.lP, h.bV, h.bO, h.bR, h.bP, h.line, h.dot, hx, h.frames, h.how⟩
theorem PU.Wf.frames_ (h : u.Wf) {x : Int} (hx : 0 ≤ x ∧ x < 65536) : ({ u with frames := x } : PU).Wf := ⟨h.lV, h.lO, h.lR, h.lP, h.bV, h.bO, h.bR, h.bP, h.line, h.dot, h.own, hx, h.how⟩
theorem byts_set {l : List Int} (h : Byts l) (j : Nat) {x : Int} (hx : 0 ≤ x ∧ x < 256) : Byts (l.set j x) := fun y hy => by
  rcases List.mem_or_eq_of_mem_set hy with hy | rfl
  · exact h y hy
  · exact hx
theorem byts_put {l r : List Int} (h : Byts l) (hr : Byts r) (o : Nat) : Byts (putI l o r) := fun y hy => by
  unfold putI at hy
  rcases List.mem_append.1 hy with hy | hy
  · rcases List.mem_append.1 hy with hy | hy
    · exact h y (List.mem_of_mem_take hy)
    · exact hr y hy
  · exact h y (List.mem_of_mem_drop hy)
theorem PU.Wf.V_ (h : u.Wf) (j : Nat) {x : Int} (hx : 0 ≤ x ∧ x < 256) : ({ u with V := u.V.set j x } : PU).Wf := ⟨by simpa using h.lV, h.lO, h.lR, h.lP, byts_set h.bV j hx, h.bO, h.bR, h.bP, h.line, h.dot, h.own, h.frames, h.how⟩
theorem PU.Wf.O_ (h : u.Wf) (j : Nat) {x : Int} (hx : 0 ≤ x ∧ x < 256) : ({ u with O := u.O.set j x } : PU).Wf := ⟨h.lV, by simpa using h.lO, h.lR, h.lP, h.bV, byts_set h.bO j hx, h.bR, h.bP, h.line, h.dot, h.own, h.frames, h.how⟩
theorem PU.Wf.R_ (h : u.Wf) (j : Nat) {x : Int} (hx : 0 ≤ x ∧ x < 256) (hj : j = 1 → band .u8 x 120 = x) : ({ u with R := u.R.set j x } : PU).Wf :=
  ⟨h.lV, h.lO, by simpa using h.lR, h.lP, h.bV, h.bO, byts_set h.bR j hx, h.bP, h.line, h.dot, h.own, h.frames, by
    by_cases h1 : j = 1
    · subst h1
      have : (u.R.set 1 x).getD 1 0 = x := by rw [List.getD_eq_getElem?_getD, List.getElem?_set_self (by rw [h.lR]; decide)]; rfl
      show band .u8 ((u.R.set 1 x).getD 1 0) 120 = (u.R.set 1 x).getD 1 0
      rw [this]; exact hj rfl
    · have : (u.R.set j x).getD 1 0 = u.R.getD 1 0 := by rw [List.getD_eq_getElem?_getD, List.getElem?_set_ne h1, ← List.getD_eq_getElem?_getD]
      show band .u8 ((u.R.set j x).getD 1 0) 120 = (u.R.set j x).getD 1 0
      rw [this]; exact h.how⟩
theorem PU.Wf.P_ (h : u.Wf) (j : Nat) {r : List Int} (hr : Byts r) (hj : j + r.length ≤ 23040) : ({ u with P := putI u.P j r } : PU).Wf :=
  ⟨h.lV, h.lO, h.lR, by show (putI u.P j r).length = 23040; rw [putI_len (by rw [h.lP]; exact hj), h.lP], h.bV, h.bO, h.bR, byts_put h.bP hr j, h.line, h.dot, h.own, h.frames, h.how⟩
/-! ### places -/
def placeV (b : Nat) (a : Int) : Value :=
  if 32768 ≤ a ∧ a < 40960 then .tuple #[.pointer (some ⟨b, 0 + (a - 32768).toNat, none⟩), .int .i64 3]
  else if 65024 ≤ a ∧ a < 65184 then .tuple #[.pointer (some ⟨b, 8192 + (a - 65024).toNat, none⟩), .int .i64 2] else .tuple #[.pointer none, .int .i64 0]
def numU (a : Int) : Int := if a < 65344 ∨ 65355 < a ∨ a = 65350 then -1 else a - 65344
theorem addr_ways {a : Int} (_h : 0 ≤ a ∧ a < 65536) : (∃ j : Nat, j < 8192 ∧ a = 32768 + j) ∨ (∃ j : Nat, j < 160 ∧ a = 65024 + j) ∨ (¬ (32768 ≤ a ∧ a < 40960) ∧ ¬ (65024 ≤ a ∧ a < 65184)) := by
  by_cases h1 : 32768 ≤ a ∧ a < 40960
  · exact .inl ⟨(a - 32768).toNat, by omega, by omega⟩
  · by_cases h2 : 65024 ≤ a ∧ a < 65184
    · exact .inr (.inl ⟨(a - 65024).toNat, by omega, by omega⟩)
    · exact .inr (.inr ⟨h1, h2⟩)
theorem place_V {b j : Nat} (hj : j < 8192) : placeV b (32768 + j) = .tuple #[.pointer (some ⟨b, 0 + j, none⟩), .int .i64 3] := by
  unfold placeV
  rw [if_pos (by omega), show ((32768 : Int) + j - 32768).toNat = j by omega]
theorem place_O {b j : Nat} (hj : j < 160) : placeV b (65024 + j) = .tuple #[.pointer (some ⟨b, 8192 + j, none⟩), .int .i64 2] := by
  unfold placeV
  rw [if_neg (by omega), if_pos (by omega), show ((65024 : Int) + j - 65024).toNat = j by omega]
theorem place_no {b : Nat} {a : Int} (h : ¬ (32768 ≤ a ∧ a < 40960) ∧ ¬ (65024 ≤ a ∧ a < 65184)) : placeV b a = .tuple #[.pointer none, .int .i64 0] := by
  unfold placeV
  rw [if_neg h.1, if_neg h.2]
theorem num_range (a : Int) : numU a = -1 ∨ (0 ≤ numU a ∧ numU a < 12 ∧ numU a ≠ 6) := by unfold numU; split <;> omega
/-! ### a step of it -/
theorem rowU_vals (u : PU) : lineL u.V u.O (u.r 0) (u.r 7) (u.r 8) (u.r 9) u.line (belowU u) = (rowU u).map (.int .u8) := by simp [lineL, rowU]
theorem shd_four (p c : Int) : 0 ≤ shd p c ∧ shd p c < 4 := by unfold shd; omega
theorem seenS_four (l : List Int) (c bk f s2 x line below : Int) (o : Option Sp) : 0 ≤ seenS l c bk f s2 x line below o ∧ seenS l c bk f s2 x line below o < 4 := by
  unfold seenS
  split
  · exact shd_four _ _
  · split
    · exact shd_four _ _
    · split <;> exact shd_four _ _
theorem rowU_byts (u : PU) : Byts (rowU u) := fun x hx => by
  obtain ⟨k, _, rfl⟩ := List.mem_map.1 hx
  have := seenS_four u.V (u.r 0) (u.r 7) (u.r 8) (u.r 9) k u.line ((belowU u).getD k 0) ((isort (shownS u.O (u.r 0) u.line)).find? (hit u.V (u.r 0) k u.line))
  unfold lineS; omega
theorem step_paint (h1 : u.dot = 62) (h2 : u.line < 144) : stepU u = paintU (oneU u) := by unfold stepU; rw [if_pos ⟨h1, h2⟩]
theorem step_next (h1 : u.dot = 113) : stepU u = nextU (oneU u) := by unfold stepU; rw [if_neg (by omega), if_pos h1]
theorem step_one (h1 : ¬ (u.dot = 62 ∧ u.line < 144)) (h2 : ¬ u.dot = 113) : stepU u = oneU u := by unfold stepU; rw [if_neg h1, if_neg h2]
theorem PU.Wf.one (h : u.Wf) (hd : u.dot < 114) : (oneU u).Wf := h.dot_ (by have := h.dot; omega)
theorem PU.Wf.paint (h : u.Wf) (hl : u.line < 144) (ho : u.own < 600) : (paintU u).Wf := by
  have h1 := h.P_ (u.line.toNat * 160) (rowU_byts u) (by rw [rowU_len]; have := h.line; omega)
  unfold paintU
  by_cases hs : tSeen (viewU u) u.line = true
  · rw [if_pos hs]; exact h1.own_ (by have := h.own; omega)
  · rw [if_neg hs]; exact h1
theorem next_1 (h : u.line = 143) : nextU u = { u with dot := 0, line := 144, frames := (u.frames + 1) % 65536 } := by unfold nextU; rw [if_pos h]
theorem next_2 (h : u.line = 153) : nextU u = { u with dot := 0, line := 0, own := 0 } := by unfold nextU; rw [if_neg (by omega), if_pos h]
theorem next_3 (h1 : ¬ u.line = 143) (h2 : ¬ u.line = 153) : nextU u = { u with dot := 0, line := u.line + 1 } := by unfold nextU; rw [if_neg h1, if_neg h2]
theorem PU.Wf.next (h : u.Wf) (hl : u.line < 154) : (nextU u).Wf := by
  have hb := h.line
  by_cases h1 : u.line = 143
  · rw [next_1 h1]; exact ((h.dot_ (x := 0) (by decide)).line_ (x := 144) (by decide)).frames_ (by omega)
  · by_cases h2 : u.line = 153
    · rw [next_2 h2]; exact ((h.dot_ (x := 0) (by decide)).line_ (x := 0) (by decide)).own_ (by decide)
    · rw [next_3 h1 h2]; exact (h.dot_ (x := 0) (by decide)).line_ (by omega)
theorem PU.Ok.own599 (h : u.Ok) : u.own < 600 := by
  have := h.own; have := h.line; split at * <;> omega
theorem PU.Ok.step (h : u.Ok) : (stepU u).Wf := by
  have hd := h.dot
  by_cases h1 : u.dot = 62 ∧ u.line < 144
  · rw [step_paint h1.1 h1.2]; exact (h.wf.one hd).paint h1.2 h.own599
  · by_cases h2 : u.dot = 113
    · rw [step_next h2]; exact (h.wf.one hd).next h.line
    · rw [step_one h1 h2]; exact h.wf.one hd
theorem PU.Ok.tick (h : u.Ok) : (tickU u).Ok := by
  unfold tickU
  by_cases hl : litU u = true
  · rw [if_pos hl]
    have hs := h.step
    have hd := h.dot
    have hn := h.line
    have ho := h.own
    have hz := h.wf.dot
    have hy := h.wf.line
    refine ⟨hs.ask, ?_, ?_, ?_⟩
    all_goals
      show _
      unfold askU
      by_cases h1 : u.dot = 62 ∧ u.line < 144
      · rw [step_paint h1.1 h1.2]
        simp only [paintU, oneU]
        split at ho <;> (try split) <;> (try split) <;> omega
      · by_cases h2 : u.dot = 113
        · rw [step_next h2]
          unfold nextU oneU
          dsimp only
          by_cases h3 : u.line = 143
          · rw [if_pos h3]; dsimp only; split at ho <;> (try split) <;> omega
          · rw [if_neg h3]
            by_cases h4 : u.line = 153
            · rw [if_pos h4]; dsimp only; (try split) <;> omega
            · rw [if_neg h4]; dsimp only; split at ho <;> (try split) <;> omega
        · rw [step_one h1 h2]
          unfold oneU
          dsimp only
          split at ho <;> (try split) <;> omega
  · rw [if_neg hl]; exact h
theorem bor_ask {x y : Int} (hx : x = 0 ∨ x = 1) (hy : y = 0 ∨ y = 2) : bor .u8 x y = x + y := by
  rcases hx with rfl | rfl <;> rcases hy with rfl | rfl <;> decide
theorem askV_two (u : PU) : askV u = 0 ∨ askV u = 2 := by unfold askV; split <;> simp
theorem stepV_one (u : PU) : stepV u = 0 ∨ stepV u = 1 := by unfold stepV; split <;> simp
theorem sig_1 (h1 : litU u = false) : false = sigU u := by unfold sigU; rw [h1]; rfl
theorem sig_2 (h1 : litU u = true) (h2 : (band .u8 (u.r 1) (modeBit (modeU u)) != 0) = true) : true = sigU u := by unfold sigU; rw [h1, h2]; rfl
theorem sig_3 (h1 : litU u = true) (h2 : (band .u8 (u.r 1) (modeBit (modeU u)) != 0) = false) (h3 : (band .u8 (u.r 1) 64 != 0) = false) : false = sigU u := by unfold sigU; rw [h1, h2, h3]; rfl
theorem sig_4 (h1 : litU u = true) (h2 : (band .u8 (u.r 1) (modeBit (modeU u)) != 0) = false) (h3 : (band .u8 (u.r 1) 64 != 0) = true) : foundU u = sigU u := by unfold sigU; rw [h1, h2, h3]; rfl
theorem paint_yes (h : tSeen (viewU u) u.line = true) : paintU u = { u with P := putI u.P (u.line.toNat * 160) (rowU u), own := u.own + 1 } := by unfold paintU; rw [if_pos h]
theorem paint_no (h : tSeen (viewU u) u.line = false) : paintU u = { u with P := putI u.P (u.line.toNat * 160) (rowU u) } := by unfold paintU; rw [if_neg (by rw [h]; decide)]
end
end Go.Proofs.Ytjceoaomkbabmaa
