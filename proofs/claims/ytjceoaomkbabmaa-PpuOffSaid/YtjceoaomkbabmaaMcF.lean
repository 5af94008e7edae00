/- The contracts of a line of tiles, as the program draws it. -/
import Derived.Test.YtjceoaomkbabmaaMcA
import Derived.Test.YtjceoaomkbabmaaMcB
import Derived.Test.YtjceoaomkbabmaaMcC
import Derived.Test.YtjceoaomkbabmaaMcD
import Derived.Test.YtjceoaomkbabmaaMcE
import Derived.Test.YtjceoaomkbabmaaProg
namespace Go.Proofs.Ytjceoaomkbabmaa
open Go Go.VV

structure PU where
  V : List Int
  O : List Int
  R : List Int
  line : Int
  dot : Int
  own : Int
  frames : Int
  sig : Bool
  P : List Int
def cU (u : PU) : List Value := u.V.map (.int .u8) ++ (u.O.map (.int .u8) ++ (u.R.map (.int .u8) ++ ([.int .i64 u.line, .int .i64 u.dot, .int .i64 u.own, .int .i64 u.frames, .bool u.sig] ++ u.P.map (.int .u8))))
abbrev PU.r (u : PU) (j : Nat) : Int := u.R.getD j 0
structure PU.Wf (u : PU) : Prop where
  lV : u.V.length = 8192
  lO : u.O.length = 160
  lR : u.R.length = 12
  lP : u.P.length = 23040
  bV : Byts u.V
  bO : Byts u.O
  bR : Byts u.R
  bP : Byts u.P
  line : 0 ≤ u.line ∧ u.line ≤ 154
  dot : 0 ≤ u.dot ∧ u.dot ≤ 114
  own : 0 ≤ u.own ∧ u.own ≤ 600
  frames : 0 ≤ u.frames ∧ u.frames < 65536
  how : band .u8 (u.R.getD 1 0) 120 = u.R.getD 1 0
structure PU.Ok (u : PU) : Prop where
  wf : u.Wf
  line : u.line < 154
  dot : u.dot < 114
  own : u.own ≤ 255 + u.line + (if 63 ≤ u.dot then 1 else 0)
theorem cU_len {u : PU} (h : u.Wf) : (cU u).length = 31409 := by
  simp [cU, h.lV, h.lO, h.lR, h.lP]
section
variable {u : PU}
theorem cU_V (h : u.Wf) {j : Nat} (hj : j < 8192) : (cU u)[j]? = some (.int .u8 (u.V.getD j 0)) := get_left (map_at (by rw [h.lV]; exact hj))
theorem cU_O (h : u.Wf) {j : Nat} (hj : j < 160) : (cU u)[8192 + j]? = some (.int .u8 (u.O.getD j 0)) :=
  get_right (n := j) (by rw [List.length_map, h.lV]) (get_left (map_at (by rw [h.lO]; exact hj)))
theorem cU_R (h : u.Wf) {j : Nat} (hj : j < 12) : (cU u)[8352 + j]? = some (.int .u8 (u.R.getD j 0)) :=
  get_right (n := 160 + j) (by rw [List.length_map, h.lV]; omega) (get_right (n := j) (by rw [List.length_map, h.lO]) (get_left (map_at (by rw [h.lR]; exact hj))))
theorem cU_five (h : u.Wf) {j : Nat} {v : Value} (hv : ([.int .i64 u.line, .int .i64 u.dot, .int .i64 u.own, .int .i64 u.frames, .bool u.sig] : List Value)[j]? = some v) : (cU u)[8364 + j]? = some v :=
  get_right (n := 172 + j) (by rw [List.length_map, h.lV]; omega) (get_right (n := 12 + j) (by rw [List.length_map, h.lO]; omega) (get_right (n := j) (by rw [List.length_map, h.lR]) (get_left hv)))
theorem cU_line (h : u.Wf) : (cU u)[8364]? = some (.int .i64 u.line) := cU_five h (j := 0) rfl
theorem cU_dot (h : u.Wf) : (cU u)[8365]? = some (.int .i64 u.dot) := cU_five h (j := 1) rfl
theorem cU_own (h : u.Wf) : (cU u)[8366]? = some (.int .i64 u.own) := cU_five h (j := 2) rfl
theorem cU_frames (h : u.Wf) : (cU u)[8367]? = some (.int .i64 u.frames) := cU_five h (j := 3) rfl
theorem cU_sig (h : u.Wf) : (cU u)[8368]? = some (.bool u.sig) := cU_five h (j := 4) rfl
theorem rowV {w : World} {b : Nat} (hr : Row w b 0 (cU u)) : Row w b 0 (u.V.map (.int .u8)) := hr.left
theorem rowO (h : u.Wf) {w : World} {b : Nat} (hr : Row w b 0 (cU u)) : Row w b 8192 (u.O.map (.int .u8)) :=
  (hr.right (n := 8192) (by rw [List.length_map, h.lV])).left
theorem rowR (h : u.Wf) {w : World} {b : Nat} (hr : Row w b 0 (cU u)) : Row w b 8352 (u.R.map (.int .u8)) :=
  ((hr.right (n := 8192) (by rw [List.length_map, h.lV])).right (n := 8352) (by rw [List.length_map, h.lO])).left
theorem rowP (h : u.Wf) {w : World} {b : Nat} (hr : Row w b 0 (cU u)) : Row w b 8369 (u.P.map (.int .u8)) :=
  (((hr.right (n := 8192) (by rw [List.length_map, h.lV])).right (n := 8352) (by rw [List.length_map, h.lO])).right (n := 8364) (by rw [List.length_map, h.lR])).right (n := 8369) rfl
theorem putU_V (h : u.Wf) {j : Nat} (hj : j < 8192) (x : Int) : putL (cU u) j [.int .u8 x] = cU { u with V := u.V.set j x } := by
  unfold cU
  rw [putL_left (by simp [h.lV]; omega), putL_int .u8 (by rw [h.lV]; exact hj)]
theorem putU_O (h : u.Wf) {j : Nat} (hj : j < 160) (x : Int) : putL (cU u) (8192 + j) [.int .u8 x] = cU { u with O := u.O.set j x } := by
  unfold cU
  rw [putL_right (n := j) (by rw [List.length_map, h.lV]) (by simp [h.lO]; omega), putL_left (by simp [h.lO]; omega), putL_int .u8 (by rw [h.lO]; exact hj)]
theorem putU_R (h : u.Wf) {j : Nat} (hj : j < 12) (x : Int) : putL (cU u) (8352 + j) [.int .u8 x] = cU { u with R := u.R.set j x } := by
  unfold cU
  rw [putL_right (n := 160 + j) (by rw [List.length_map, h.lV]; omega) (by simp [h.lO, h.lR]; omega), putL_right (n := j) (by rw [List.length_map, h.lO]) (by simp [h.lR]; omega), putL_left (by simp [h.lR]; omega), putL_int .u8 (by rw [h.lR]; exact hj)]
theorem putU_five (h : u.Wf) {j : Nat} {v : Value} (hj : j < 5) : putL (cU u) (8364 + j) [v] = u.V.map (.int .u8) ++ (u.O.map (.int .u8) ++ (u.R.map (.int .u8) ++ (putL [.int .i64 u.line, .int .i64 u.dot, .int .i64 u.own, .int .i64 u.frames, .bool u.sig] j [v] ++ u.P.map (.int .u8)))) := by
  unfold cU
  rw [putL_right (n := 172 + j) (by rw [List.length_map, h.lV]; omega) (by simp [h.lO, h.lR]; omega), putL_right (n := 12 + j) (by rw [List.length_map, h.lO]; omega) (by simp [h.lR]; omega), putL_right (n := j) (by rw [List.length_map, h.lR]) (by simp; omega), putL_left (by simp; omega)]
theorem putU_line (h : u.Wf) (x : Int) : putL (cU u) 8364 [.int .i64 x] = cU { u with line := x } := putU_five h (j := 0) (by decide)
theorem putU_dot (h : u.Wf) (x : Int) : putL (cU u) 8365 [.int .i64 x] = cU { u with dot := x } := putU_five h (j := 1) (by decide)
theorem putU_own (h : u.Wf) (x : Int) : putL (cU u) 8366 [.int .i64 x] = cU { u with own := x } := putU_five h (j := 2) (by decide)
theorem putU_frames (h : u.Wf) (x : Int) : putL (cU u) 8367 [.int .i64 x] = cU { u with frames := x } := putU_five h (j := 3) (by decide)
theorem putU_sig (h : u.Wf) (x : Bool) : putL (cU u) 8368 [.bool x] = cU { u with sig := x } := putU_five h (j := 4) (by decide)
theorem putU_P (h : u.Wf) {j : Nat} {r : List Int} (hj : j + r.length ≤ 23040) : putL (cU u) (8369 + j) (r.map (.int .u8)) = cU { u with P := putI u.P j r } := by
  unfold cU
  rw [putL_right (n := 177 + j) (by rw [List.length_map, h.lV]; omega) (by simp [h.lO, h.lR, h.lP]; omega), putL_right (n := 17 + j) (by rw [List.length_map, h.lO]; omega) (by simp [h.lR, h.lP]; omega), putL_right (n := 5 + j) (by rw [List.length_map, h.lR]; omega) (by simp [h.lP]; omega), putL_right (n := j) (by simp) (by simp [h.lP]; omega), putI_map]
end
/-! ### what it does -/
def litU (u : PU) : Bool := decide (128 ≤ u.r 0)
def modeU (u : PU) : Int := if litU u = true then (if 144 ≤ u.line then 1 else if u.dot < 20 then 2 else if u.dot < 63 then 3 else 0) else 0
def foundU (u : PU) : Bool := litU u && (u.line == u.r 5)
def modeBit (m : Int) : Int := if m = 0 then 8 else if m = 1 then 16 else if m = 2 then 32 else 0
def sigU (u : PU) : Bool := litU u && ((band .u8 (u.r 1) (modeBit (modeU u)) != 0) || ((band .u8 (u.r 1) 64 != 0) && foundU u))
def askU (u : PU) : PU := { u with sig := sigU u }
def askV (u : PU) : Int := if sigU u = true ∧ u.sig = false then 2 else 0
def viewU (u : PU) : Vw := ⟨u.r 0, u.r 3, u.r 2, u.r 11, u.r 10⟩
def belowU (u : PU) : List Int := tLine u.V (viewU u) u.line u.own
def rowU (u : PU) : List Int := (List.range 160).map (lineS u.V u.O (u.r 0) (u.r 7) (u.r 8) (u.r 9) u.line (belowU u))
def paintU (u : PU) : PU := { u with P := putI u.P (u.line.toNat * 160) (rowU u), own := if tSeen (viewU u) u.line = true then u.own + 1 else u.own }
def nextU (u : PU) : PU := if u.line = 143 then { u with dot := 0, line := 144, frames := (u.frames + 1) % 65536 } else if u.line = 153 then { u with dot := 0, line := 0, own := 0 } else { u with dot := 0, line := u.line + 1 }
def nextV (u : PU) : Int := if u.line = 143 then 1 else 0
def oneU (u : PU) : PU := { u with dot := u.dot + 1 }
def stepU (u : PU) : PU := if u.dot = 62 ∧ u.line < 144 then paintU (oneU u) else if u.dot = 113 then nextU (oneU u) else oneU u
def stepV (u : PU) : Int := if u.dot = 113 ∧ u.line = 143 then 1 else 0
def tickU (u : PU) : PU := if litU u = true then askU (stepU u) else u
def tickV (u : PU) : Int := if litU u = true then stepV u + askV (stepU u) else 0
def zeroU : PU := ⟨List.replicate 8192 0, List.replicate 160 0, List.replicate 12 0, 0, 0, 0, 0, false, List.replicate 23040 0⟩
theorem byts_rep (n : Nat) : Byts (List.replicate n 0) := fun x hx => by rw [(List.mem_replicate.1 hx).2]; omega
theorem zeroU_wf : zeroU.Wf := by
  refine ⟨List.length_replicate, List.length_replicate, List.length_replicate, List.length_replicate, byts_rep _, byts_rep _, byts_rep _, byts_rep _, ?_, ?_, ?_, ?_, ?_⟩ <;> decide +kernel
theorem zeroU_ok : zeroU.Ok := ⟨zeroU_wf, by decide, by decide, by decide⟩
section
variable {u : PU}
theorem PU.Wf.look (h : u.Wf) (j : Nat) : 0 ≤ u.r j ∧ u.r j < 256 := h.bR.get j
theorem viewU_ok (h : u.Wf) : (viewU u).Ok := ⟨h.look 0, h.look 3, h.look 2, h.look 11, h.look 10⟩
theorem lit_law (h : u.Wf) : (band .u8 (u.r 0) 128 != 0) = litU u := by
  have := byte_all (p := fun c => (band .u8 c 128 != 0) = decide (128 ≤ c)) (by decide +kernel) (h.look 0).1 (h.look 0).2
  exact this
theorem mode_range (u : PU) : 0 ≤ modeU u ∧ modeU u < 4 := by
  unfold modeU; repeat' split
  all_goals omega
theorem rowU_len (u : PU) : (rowU u).length = 160 := by simp [rowU]
theorem mb_at (u : PU) : ([.int .u8 8, .int .u8 16, .int .u8 32, .int .u8 0] : List Value)[0 + (modeU u).toNat]? = some (.int .u8 (modeBit (modeU u))) := by
  obtain ⟨h1, h2⟩ := mode_range u
  rcases (show modeU u = 0 ∨ modeU u = 1 ∨ modeU u = 2 ∨ modeU u = 3 by omega) with h | h | h | h <;> rw [h] <;> rfl
theorem ask_put (h : u.Wf) {X : Bool} (hX : X = sigU u) : putL (cU u) 8368 [.bool X] = cU (askU u) := by subst hX; exact putU_sig h _
theorem PU.Wf.sig_ (h : u.Wf) (x : Bool) : ({ u with sig := x } : PU).Wf := ⟨h.lV, h.lO, h.lR, h.lP, h.bV, h.bO, h.bR, h.bP, h.line, h.dot, h.own, h.frames, h.how⟩
theorem PU.Wf.ask (h : u.Wf) : (askU u).Wf := h.sig_ _
theorem PU.Wf.dot_ (h : u.Wf) {x : Int} (hx : 0 ≤ x ∧ x ≤ 114) : ({ u with dot := x } : PU).Wf := ⟨h.lV, h.lO, h.lR, h.lP, h.bV, h.bO, h.bR, h.bP, h.line, hx, h.own, h.frames, h.how⟩
theorem PU.Wf.line_ (h : u.Wf) {x : Int} (hx : 0 ≤ x ∧ x ≤ 154) : ({ u with line := x } : PU).Wf := ⟨h.lV, h.lO, h.lR, h.lP, h.bV, h.bO, h.bR, h.bP, hx, h.dot, h.own, h.frames, h.how⟩
theorem PU.Wf.own_ (h : u.Wf) {x : Int} (hx : 0 ≤ x ∧ x ≤ 600) : ({ u with own := x } : PU).Wf := ⟨h.lV, h.lO, h.lR, h.lP, h.bV, h.bO, h.bR, h.bP, h.line, h.dot, hx, h.frames, h.how⟩
theorem PU.Wf.frames_ (h : u.Wf) {x : Int} (hx : 0 ≤ x ∧ x < 65536) : ({ u with frames := x } : PU).Wf := ⟨h.lV, h.lO, h.lR, h.lP, h.bV, h.bO, h.bR, h.bP, h.line, h.dot, h.own, hx, h.how⟩
theorem byts_set {l : List Int} (h : Byts l) (j : Nat) {x : Int} (hx : 0 ≤ x ∧ x < 256) : Byts (l.set j x) := fun y hy => by
  rcases List.mem_or_eq_of_mem_set hy with hy | rfl
  · exact h y hy
  · exact hx
theorem byts_put {l r : List Int} (h : Byts l) (hr : Byts r) (o : Nat) : Byts (putI l o r) := fun y hy => by
  unfold putI at hy
  rcases List.mem_append.1 hy with hy | hy
  · rcases List.mem_append.1 hy with hy | hy
    · exact h y (List.mem_of_mem_take hy)
    · exact hr y hy
  · exact h y (List.mem_of_mem_drop hy)
theorem PU.Wf.V_ (h : u.Wf) (j : Nat) {x : Int} (hx : 0 ≤ x ∧ x < 256) : ({ u with V := u.V.set j x } : PU).Wf := ⟨by simpa using h.lV, h.lO, h.lR, h.lP, byts_set h.bV j hx, h.bO, h.bR, h.bP, h.line, h.dot, h.own, h.frames, h.how⟩
theorem PU.Wf.O_ (h : u.Wf) (j : Nat) {x : Int} (hx : 0 ≤ x ∧ x < 256) : ({ u with O := u.O.set j x } : PU).Wf := ⟨h.lV, by simpa using h.lO, h.lR, h.lP, h.bV, byts_set h.bO j hx, h.bR, h.bP, h.line, h.dot, h.own, h.frames, h.how⟩
theorem PU.Wf.R_ (h : u.Wf) (j : Nat) {x : Int} (hx : 0 ≤ x ∧ x < 256) (hj : j = 1 → band .u8 x 120 = x) : ({ u with R := u.R.set j x } : PU).Wf :=
  ⟨h.lV, h.lO, by simpa using h.lR, h.lP, h.bV, h.bO, byts_set h.bR j hx, h.bP, h.line, h.dot, h.own, h.frames, by
    by_cases h1 : j = 1
    · subst h1
      have : (u.R.set 1 x).getD 1 0 = x := by rw [List.getD_eq_getElem?_getD, List.getElem?_set_self (by rw [h.lR]; decide)]; rfl
      show band .u8 ((u.R.set 1 x).getD 1 0) 120 = (u.R.set 1 x).getD 1 0
      rw [this]; exact hj rfl
    · have : (u.R.set j x).getD 1 0 = u.R.getD 1 0 := by rw [List.getD_eq_getElem?_getD, List.getElem?_set_ne h1, ← List.getD_eq_getElem?_getD]
      show band .u8 ((u.R.set j x).getD 1 0) 120 = (u.R.set j x).getD 1 0
      rw [this]; exact h.how⟩
theorem PU.Wf.P_ (h : u.Wf) (j : Nat) {r : List Int} (hr : Byts r) (hj : j + r.length ≤ 23040) : ({ u with P := putI u.P j r } : PU).Wf :=
  ⟨h.lV, h.lO, h.lR, by show (putI u.P j r).length = 23040; rw [putI_len (by rw [h.lP]; exact hj), h.lP], h.bV, h.bO, h.bR, byts_put h.bP hr j, h.line, h.dot, h.own, h.frames, h.how⟩
/-! ### places -/
def placeV (b : Nat) (a : Int) : Value :=
  if 32768 ≤ a ∧ a < 40960 then .tuple #[.pointer (some ⟨b, 0 + (a - 32768).toNat, none⟩), .int .i64 3]
  else if 65024 ≤ a ∧ a < 65184 then .tuple #[.pointer (some ⟨b, 8192 + (a - 65024).toNat, none⟩), .int .i64 2] else .tuple #[.pointer none, .int .i64 0]
def numU (a : Int) : Int := if a < 65344 ∨ 65355 < a ∨ a = 65350 then -1 else a - 65344
theorem addr_ways {a : Int} (_h : 0 ≤ a ∧ a < 65536) : (∃ j : Nat, j < 8192 ∧ a = 32768 + j) ∨ (∃ j : Nat, j < 160 ∧ a = 65024 + j) ∨ (¬ (32768 ≤ a ∧ a < 40960) ∧ ¬ (65024 ≤ a ∧ a < 65184)) := by
  by_cases h1 : 32768 ≤ a ∧ a < 40960
  · exact .inl ⟨(a - 32768).toNat, by omega, by omega⟩
  · by_cases h2 : 65024 ≤ a ∧ a < 65184
    · exact .inr (.inl ⟨(a - 65024).toNat, by omega, by omega⟩)
    · exact .inr (.inr ⟨h1, h2⟩)
theorem place_V {b j : Nat} (hj : j < 8192) : placeV b (32768 + j) = .tuple #[.pointer (some ⟨b, 0 + j, none⟩), .int .i64 3] := by
  unfold placeV
  rw [if_pos (by omega), show ((32768 : Int) + j - 32768).toNat = j by omega]
theorem place_O {b j : Nat} (hj : j < 160) : placeV b (65024 + j) = .tuple #[.pointer (some ⟨b, 8192 + j, none⟩), .int .i64 2] := by
  unfold placeV
  rw [if_neg (by omega), if_pos (by omega), show ((65024 : Int) + j - 65024).toNat = j by omega]
theorem place_no {b : Nat} {a : Int} (h : ¬ (32768 ≤ a ∧ a < 40960) ∧ ¬ (65024 ≤ a ∧ a < 65184)) : placeV b a = .tuple #[.pointer none, .int .i64 0] := by
  unfold placeV
  rw [if_neg h.1, if_neg h.2]
theorem num_range (a : Int) : numU a = -1 ∨ (0 ≤ numU a ∧ numU a < 12 ∧ numU a ≠ 6) := by unfold numU; split <;> omega
/-! ### a step of it -/
theorem rowU_vals (u : PU) : lineL u.V u.O (u.r 0) (u.r 7) (u.r 8) (u.r 9) u.line (belowU u) = (rowU u).map (.int .u8) := by simp [lineL, rowU]
theorem shd_four (p c : Int) : 0 ≤ shd p c ∧ shd p c < 4 := by unfold shd; omega
theorem seenS_four (l : List Int) (c bk f s2 x line below : Int) (o : Option Sp) : 0 ≤ seenS l c bk f s2 x line below o ∧ seenS l c bk f s2 x line below o < 4 := by
  unfold seenS
  split
  · exact shd_four _ _
  · split
    · exact shd_four _ _
    · split <;> exact shd_four _ _
theorem rowU_byts (u : PU) : Byts (rowU u) := fun x hx => by
  obtain ⟨k, _, rfl⟩ := List.mem_map.1 hx
  have := seenS_four u.V (u.r 0) (u.r 7) (u.r 8) (u.r 9) k u.line ((belowU u).getD k 0) ((isort (shownS u.O (u.r 0) u.line)).find? (hit u.V (u.r 0) k u.line))
  unfold lineS; omega
theorem step_paint (h1 : u.dot = 62) (h2 : u.line < 144) : stepU u = paintU (oneU u) := by unfold stepU; rw [if_pos ⟨h1, h2⟩]
theorem step_next (h1 : u.dot = 113) : stepU u = nextU (oneU u) := by unfold stepU; rw [if_neg (by omega), if_pos h1]
theorem step_one (h1 : ¬ (u.dot = 62 ∧ u.line < 144)) (h2 : ¬ u.dot = 113) : stepU u = oneU u := by unfold stepU; rw [if_neg h1, if_neg h2]
theorem PU.Wf.one (h : u.Wf) (hd : u.dot < 114) : (oneU u).Wf := h.dot_ (by have := h.dot; omega)
theorem PU.Wf.paint (h : u.Wf) (hl : u.line < 144) (ho : u.own < 600) : (paintU u).Wf := by
  have h1 := h.P_ (u.line.toNat * 160) (rowU_byts u) (by rw [rowU_len]; have := h.line; omega)
  unfold paintU
  by_cases hs : tSeen (viewU u) u.line = true
  · rw [if_pos hs]; exact h1.own_ (by have := h.own; omega)
  · rw [if_neg hs]; exact h1
theorem next_1 (h : u.line = 143) : nextU u = { u with dot := 0, line := 144, frames := (u.frames + 1) % 65536 } := by unfold nextU; rw [if_pos h]
theorem next_2 (h : u.line = 153) : nextU u = { u with dot := 0, line := 0, own := 0 } := by unfold nextU; rw [if_neg (by omega), if_pos h]
theorem next_3 (h1 : ¬ u.line = 143) (h2 : ¬ u.line = 153) : nextU u = { u with dot := 0, line := u.line + 1 } := by unfold nextU; rw [if_neg h1, if_neg h2]
theorem PU.Wf.next (h : u.Wf) (hl : u.line < 154) : (nextU u).Wf := by
  have hb := h.line
  by_cases h1 : u.line = 143
  · rw [next_1 h1]; exact ((h.dot_ (x := 0) (by decide)).line_ (x := 144) (by decide)).frames_ (by omega)
  · by_cases h2 : u.line = 153
    · rw [next_2 h2]; exact ((h.dot_ (x := 0) (by decide)).line_ (x := 0) (by decide)).own_ (by decide)
    · rw [next_3 h1 h2]; exact (h.dot_ (x := 0) (by decide)).line_ (by omega)
theorem PU.Ok.own599 (h : u.Ok) : u.own < 600 := by
  have := h.own; have := h.line; split at * <;> omega
theorem PU.Ok.step (h : u.Ok) : (stepU u).Wf := by
  have hd := h.dot
  by_cases h1 : u.dot = 62 ∧ u.line < 144
  · rw [step_paint h1.1 h1.2]; exact (h.wf.one hd).paint h1.2 h.own599
  · by_cases h2 : u.dot = 113
    · rw [step_next h2]; exact (h.wf.one hd).next h.line
    · rw [step_one h1 h2]; exact h.wf.one hd
theorem PU.Ok.tick (h : u.Ok) : (tickU u).Ok := by
  unfold tickU
  by_cases hl : litU u = true
  · rw [if_pos hl]
    have hs := h.step
    have hd := h.dot
    have hn := h.line
    have ho := h.own
    have hz := h.wf.dot
    have hy := h.wf.line
    refine ⟨hs.ask, ?_, ?_, ?_⟩
    all_goals
      show _
      unfold askU
      by_cases h1 : u.dot = 62 ∧ u.line < 144
      · rw [step_paint h1.1 h1.2]
        simp only [paintU, oneU]
        split at ho <;> (try split) <;> (try split) <;> omega
      · by_cases h2 : u.dot = 113
        · rw [step_next h2]
          unfold nextU oneU
          dsimp only
          by_cases h3 : u.line = 143
          · rw [if_pos h3]; dsimp only; split at ho <;> (try split) <;> omega
          · rw [if_neg h3]
            by_cases h4 : u.line = 153
            · rw [if_pos h4]; dsimp only; (try split) <;> omega
            · rw [if_neg h4]; dsimp only; split at ho <;> (try split) <;> omega
        · rw [step_one h1 h2]
          unfold oneU
          dsimp only
          split at ho <;> (try split) <;> omega
  · rw [if_neg hl]; exact h
theorem bor_ask {x y : Int} (hx : x = 0 ∨ x = 1) (hy : y = 0 ∨ y = 2) : bor .u8 x y = x + y := by
  rcases hx with rfl | rfl <;> rcases hy with rfl | rfl <;> decide
theorem askV_two (u : PU) : askV u = 0 ∨ askV u = 2 := by unfold askV; split <;> simp
theorem stepV_one (u : PU) : stepV u = 0 ∨ stepV u = 1 := by unfold stepV; split <;> simp
theorem sig_1 (h1 : litU u = false) : false = sigU u := by unfold sigU; rw [h1]; rfl
theorem sig_2 (h1 : litU u = true) (h2 : (band .u8 (u.r 1) (modeBit (modeU u)) != 0) = true) : true = sigU u := by unfold sigU; rw [h1, h2]; rfl
theorem sig_3 (h1 : litU u = true) (h2 : (band .u8 (u.r 1) (modeBit (modeU u)) != 0) = false) (h3 : (band .u8 (u.r 1) 64 != 0) = false) : false = sigU u := by unfold sigU; rw [h1, h2, h3]; rfl
theorem sig_4 (h1 : litU u = true) (h2 : (band .u8 (u.r 1) (modeBit (modeU u)) != 0) = false) (h3 : (band .u8 (u.r 1) 64 != 0) = true) : foundU u = sigU u := by unfold sigU; rw [h1, h2, h3]; rfl
theorem paint_yes (h : tSeen (viewU u) u.line = true) : paintU u = { u with P := putI u.P (u.line.toNat * 160) (rowU u), own := u.own + 1 } := by unfold paintU; rw [if_pos h]
theorem paint_no (h : tSeen (viewU u) u.line = false) : paintU u = { u with P := putI u.P (u.line.toNat * 160) (rowU u) } := by unfold paintU; rw [if_neg (by rw [h]; decide)]
end
end Go.Proofs.Ytjceoaomkbabmaa
namespace Go.Proofs.Ytjceoaomkbabmaa
open Go Go.VV

theorem get0 {w : World} {b j : Nat} {l : List Value} {v : Value} (h : Row w b 0 l) (hv : l[j]? = some v) : w.cell? ⟨b, j, none⟩ = some v := by
  simpa using h j v hv
def statU (u : PU) : Int := bor .u8 (bor .u8 128 (u.r 1)) (modeU u)
def peekU (u : PU) (a : Int) : Int :=
  if 32768 ≤ a ∧ a < 40960 then u.V.getD (a - 32768).toNat 0 else if 65024 ≤ a ∧ a < 65184 then u.O.getD (a - 65024).toNat 0
  else if numU a = -1 then 255 else if numU a = 4 then u.line % 256 else if numU a = 1 then (if foundU u = true then bor .u8 (statU u) 4 else statU u) else u.r (numU a).toNat
def readU (u : PU) (a : Int) : Int :=
  if (32768 ≤ a ∧ a < 40960 ∧ 3 ≤ modeU u) ∨ (65024 ≤ a ∧ a < 65184 ∧ 2 ≤ modeU u) then 255 else peekU u a
/-- A byte from ff40 on is set. -/
def setU (u : PU) (n : Int) (x : Int) : PU := if n = 1 then { u with R := u.R.set 1 (band .u8 x 120) } else if n = 4 then u else { u with R := u.R.set n.toNat x }
def offU (was : Bool) (u : PU) : PU := if was = true ∧ litU u = false then { u with line := 0, dot := 0, own := 0 } else u
def putU (u : PU) (n : Int) (x : Int) : PU := offU (litU u) (setU u n x)
def writeU (u : PU) (a x : Int) : PU :=
  if 32768 ≤ a ∧ a < 40960 then (if modeU u < 3 then { u with V := u.V.set (a - 32768).toNat x } else u)
  else if 65024 ≤ a ∧ a < 65184 then (if modeU u < 2 then { u with O := u.O.set (a - 65024).toNat x } else u)
  else if numU a = -1 then u else askU (putU u (numU a) x)
def writeV (u : PU) (a x : Int) : Int :=
  if 32768 ≤ a ∧ a < 40960 then 0 else if 65024 ≤ a ∧ a < 65184 then 0 else if numU a = -1 then 0 else askV (putU u (numU a) x)
def spriteU (u : PU) (n x : Int) : PU := if 0 ≤ n ∧ n < 160 then { u with O := u.O.set n.toNat x } else u
theorem vOk (a : Int) {j : Nat} (h : a = 32768 + j) : (a - 32768).toNat = j := by omega
section
variable {u : PU} {x : Int}
theorem band120 (hx : 0 ≤ x ∧ x < 256) : 0 ≤ band .u8 x 120 ∧ band .u8 x 120 < 256 ∧ band .u8 (band .u8 x 120) 120 = band .u8 x 120 :=
  byte_all (p := fun x => 0 ≤ band .u8 x 120 ∧ band .u8 x 120 < 256 ∧ band .u8 (band .u8 x 120) 120 = band .u8 x 120) (by decide +kernel) hx.1 hx.2
theorem PU.Wf.set1 (h : u.Wf) (hx : 0 ≤ x ∧ x < 256) : ({ u with R := u.R.set 1 (band .u8 x 120) } : PU).Wf := h.R_ 1 ⟨(band120 hx).1, (band120 hx).2.1⟩ fun _ => (band120 hx).2.2
theorem PU.Wf.setn (h : u.Wf) (hx : 0 ≤ x ∧ x < 256) {n : Int} (_hn : 0 ≤ n) (h1 : ¬ n = 1) : ({ u with R := u.R.set n.toNat x } : PU).Wf := h.R_ n.toNat hx fun h2 => absurd h2 (by omega)
theorem PU.Wf.zero (h : u.Wf) : ({ u with line := 0, dot := 0, own := 0 } : PU).Wf := ((h.line_ (x := 0) (by decide)).dot_ (x := 0) (by decide)).own_ (x := 0) (by decide)
theorem set_1 {n : Int} (h : n = 1) : setU u n x = { u with R := u.R.set 1 (band .u8 x 120) } := by unfold setU; rw [if_pos h]
theorem set_4 {n : Int} (h : n = 4) : setU u n x = u := by unfold setU; rw [if_neg (by omega), if_pos h]
theorem set_n {n : Int} (h1 : ¬ n = 1) (h4 : ¬ n = 4) : setU u n x = { u with R := u.R.set n.toNat x } := by unfold setU; rw [if_neg h1, if_neg h4]
theorem PU.Wf.set (h : u.Wf) (hx : 0 ≤ x ∧ x < 256) {n : Int} (hn : 0 ≤ n) : (setU u n x).Wf := by
  by_cases h1 : n = 1
  · rw [set_1 h1]; exact h.set1 hx
  · by_cases h4 : n = 4
    · rw [set_4 h4]; exact h
    · rw [set_n h1 h4]; exact h.setn hx hn h1
theorem off_yes {was : Bool} (h1 : was = true) (h2 : litU u = false) : offU was u = { u with line := 0, dot := 0, own := 0 } := by unfold offU; rw [if_pos ⟨h1, h2⟩]
theorem off_no {was : Bool} (h : was = false ∨ litU u = true) : offU was u = u := by
  unfold offU; rw [if_neg]; rintro ⟨h1, h2⟩; rcases h with h | h <;> simp_all
theorem PU.Wf.off (h : u.Wf) (was : Bool) : (offU was u).Wf := by
  unfold offU; split
  · exact h.zero
  · exact h
theorem write_V (b : Int) {j : Nat} (hj : j < 8192) : writeU u (32768 + j) b = if modeU u < 3 then { u with V := u.V.set j b } else u := by
  unfold writeU
  rw [if_pos (by omega), show ((32768 : Int) + j - 32768).toNat = j by omega]
theorem write_O (b : Int) {j : Nat} (hj : j < 160) : writeU u (65024 + j) b = if modeU u < 2 then { u with O := u.O.set j b } else u := by
  unfold writeU
  rw [if_neg (by omega), if_pos (by omega), show ((65024 : Int) + j - 65024).toNat = j by omega]
theorem write_no {a : Int} (b : Int) (h : ¬ (32768 ≤ a ∧ a < 40960) ∧ ¬ (65024 ≤ a ∧ a < 65184)) (hn : numU a = -1) : writeU u a b = u := by
  unfold writeU; rw [if_neg h.1, if_neg h.2, if_pos hn]
theorem write_R {a : Int} (b : Int) (h : ¬ (32768 ≤ a ∧ a < 40960) ∧ ¬ (65024 ≤ a ∧ a < 65184)) (hn : ¬ numU a = -1) : writeU u a b = askU (putU u (numU a) b) := by
  unfold writeU; rw [if_neg h.1, if_neg h.2, if_neg hn]
theorem wv_V (b : Int) {j : Nat} (hj : j < 8192) : writeV u (32768 + j) b = 0 := by unfold writeV; rw [if_pos (by omega)]
theorem wv_O (b : Int) {j : Nat} (hj : j < 160) : writeV u (65024 + j) b = 0 := by unfold writeV; rw [if_neg (by omega), if_pos (by omega)]
theorem wv_no {a : Int} (b : Int) (h : ¬ (32768 ≤ a ∧ a < 40960) ∧ ¬ (65024 ≤ a ∧ a < 65184)) (hn : numU a = -1) : writeV u a b = 0 := by
  unfold writeV; rw [if_neg h.1, if_neg h.2, if_pos hn]
theorem wv_R {a : Int} (b : Int) (h : ¬ (32768 ≤ a ∧ a < 40960) ∧ ¬ (65024 ≤ a ∧ a < 65184)) (hn : ¬ numU a = -1) : writeV u a b = askV (putU u (numU a) b) := by
  unfold writeV; rw [if_neg h.1, if_neg h.2, if_neg hn]
theorem peek_V {j : Nat} (hj : j < 8192) : peekU u (32768 + j) = u.V.getD j 0 := by
  unfold peekU; rw [if_pos (by omega), show ((32768 : Int) + j - 32768).toNat = j by omega]
theorem peek_O {j : Nat} (hj : j < 160) : peekU u (65024 + j) = u.O.getD j 0 := by
  unfold peekU; rw [if_neg (by omega), if_pos (by omega), show ((65024 : Int) + j - 65024).toNat = j by omega]
theorem peek_R {a : Int} (h : ¬ (32768 ≤ a ∧ a < 40960) ∧ ¬ (65024 ≤ a ∧ a < 65184)) :
    peekU u a = if numU a = -1 then 255 else if numU a = 4 then u.line % 256 else if numU a = 1 then (if foundU u = true then bor .u8 (statU u) 4 else statU u) else u.r (numU a).toNat := by
  unfold peekU; rw [if_neg h.1, if_neg h.2]
theorem read_V {j : Nat} (hj : j < 8192) : readU u (32768 + j) = if 3 ≤ modeU u then 255 else peekU u (32768 + j) := by
  unfold readU; by_cases h : 3 ≤ modeU u
  · rw [if_pos (by omega), if_pos h]
  · rw [if_neg (by omega), if_neg h]
theorem read_O {j : Nat} (hj : j < 160) : readU u (65024 + j) = if 2 ≤ modeU u then 255 else peekU u (65024 + j) := by
  unfold readU; by_cases h : 2 ≤ modeU u
  · rw [if_pos (by omega), if_pos h]
  · rw [if_neg (by omega), if_neg h]
theorem read_no {a : Int} (h : ¬ (32768 ≤ a ∧ a < 40960) ∧ ¬ (65024 ≤ a ∧ a < 65184)) : readU u a = peekU u a := by
  unfold readU; rw [if_neg (by omega)]
theorem PU.Ok.ask (h : u.Ok) : (askU u).Ok := ⟨h.wf.ask, h.line, h.dot, h.own⟩
theorem PU.Ok.write (h : u.Ok) {a : Int} (hx : 0 ≤ x ∧ x < 256) : (writeU u a x).Ok := by
  have hl := h.line; have hd := h.dot; have ho := h.own
  unfold writeU
  split
  · split
    · exact ⟨h.wf.V_ _ hx, hl, hd, ho⟩
    · exact h
  · split
    · split
      · exact ⟨h.wf.O_ _ hx, hl, hd, ho⟩
      · exact h
    · split
      · exact h
      · rename_i hn
        have hr := num_range a
        refine PU.Ok.ask ?_
        have hs : (setU u (numU a) x).Ok := by
          refine ⟨h.wf.set hx (by omega), ?_, ?_, ?_⟩ <;> (unfold setU; split; · assumption) <;> split <;> assumption
        unfold putU offU
        split
        · exact ⟨hs.wf.zero, by show (0 : Int) < 154; decide, by show (0 : Int) < 114; decide, by show (0 : Int) ≤ 255 + 0 + (if (63 : Int) ≤ 0 then 1 else 0); decide⟩
        · exact hs
theorem PU.Ok.sprite (h : u.Ok) (n : Int) (hx : 0 ≤ x ∧ x < 256) : (spriteU u n x).Ok := by
  have hl := h.line; have hd := h.dot; have ho := h.own
  unfold spriteU
  split
  · exact ⟨h.wf.O_ _ hx, hl, hd, ho⟩
  · exact h
end
end Go.Proofs.Ytjceoaomkbabmaa
namespace Go.Proofs.Ytjceoaomkbabmaa
open Go Go.VV Go.Proofs
set_option linter.unusedSimpArgs false
set_option linter.unusedVariables false
set_option maxRecDepth 100000
theorem call_10 : callable Try.prog 10 = true := by kernel_rfl
theorem call_11 : callable Try.prog 11 = true := by kernel_rfl
theorem call_12 : callable Try.prog 12 = true := by kernel_rfl
theorem call_13 : callable Try.prog 13 = true := by kernel_rfl
theorem call_14 : callable Try.prog 14 = true := by kernel_rfl
theorem call_15 : callable Try.prog 15 = true := by kernel_rfl
theorem call_16 : callable Try.prog 16 = true := by kernel_rfl
theorem call_17 : callable Try.prog 17 = true := by kernel_rfl
theorem call_18 : callable Try.prog 18 = true := by kernel_rfl
theorem call_19 : callable Try.prog 19 = true := by kernel_rfl
theorem call_20 : callable Try.prog 20 = true := by kernel_rfl
theorem call_21 : callable Try.prog 21 = true := by kernel_rfl
theorem call_22 : callable Try.prog 22 = true := by kernel_rfl
theorem call_23 : callable Try.prog 23 = true := by kernel_rfl
theorem call_24 : callable Try.prog 24 = true := by kernel_rfl
theorem call_25 : callable Try.prog 25 = true := by kernel_rfl
theorem call_26 : callable Try.prog 26 = true := by kernel_rfl
theorem call_27 : callable Try.prog 27 = true := by kernel_rfl
theorem call_28 : callable Try.prog 28 = true := by kernel_rfl
theorem call_29 : callable Try.prog 29 = true := by kernel_rfl
theorem call_30 : callable Try.prog 30 = true := by kernel_rfl
theorem call_31 : callable Try.prog 31 = true := by kernel_rfl
theorem call_32 : callable Try.prog 32 = true := by kernel_rfl
theorem call_33 : callable Try.prog 33 = true := by kernel_rfl
theorem call_34 : callable Try.prog 34 = true := by kernel_rfl
theorem call_35 : callable Try.prog 35 = true := by kernel_rfl
theorem call_36 : callable Try.prog 36 = true := by kernel_rfl
theorem call_37 : callable Try.prog 37 = true := by kernel_rfl
theorem call_38 : callable Try.prog 38 = true := by kernel_rfl
theorem call_39 : callable Try.prog 39 = true := by kernel_rfl
theorem call_40 : callable Try.prog 40 = true := by kernel_rfl
theorem call_41 : callable Try.prog 41 = true := by kernel_rfl
theorem call_42 : callable Try.prog 42 = true := by kernel_rfl
theorem call_43 : callable Try.prog 43 = true := by kernel_rfl
theorem call_44 : callable Try.prog 44 = true := by kernel_rfl
theorem call_45 : callable Try.prog 45 = true := by kernel_rfl
theorem call_46 : callable Try.prog 46 = true := by kernel_rfl
theorem call_47 : callable Try.prog 47 = true := by kernel_rfl
theorem call_48 : callable Try.prog 48 = true := by kernel_rfl
theorem call_49 : callable Try.prog 49 = true := by kernel_rfl
theorem call_50 : callable Try.prog 50 = true := by kernel_rfl
theorem call_51 : callable Try.prog 51 = true := by kernel_rfl
theorem call_52 : callable Try.prog 52 = true := by kernel_rfl
theorem call_53 : callable Try.prog 53 = true := by kernel_rfl
theorem call_54 : callable Try.prog 54 = true := by kernel_rfl
theorem call_55 : callable Try.prog 55 = true := by kernel_rfl
theorem call_56 : callable Try.prog 56 = true := by kernel_rfl
theorem call_57 : callable Try.prog 57 = true := by kernel_rfl
theorem call_58 : callable Try.prog 58 = true := by kernel_rfl
theorem call_59 : callable Try.prog 59 = true := by kernel_rfl
theorem call_60 : callable Try.prog 60 = true := by kernel_rfl
theorem call_61 : callable Try.prog 61 = true := by kernel_rfl
theorem call_62 : callable Try.prog 62 = true := by kernel_rfl
theorem call_63 : callable Try.prog 63 = true := by kernel_rfl
theorem call_64 : callable Try.prog 64 = true := by kernel_rfl
theorem call_65 : callable Try.prog 65 = true := by kernel_rfl
theorem call_66 : callable Try.prog 66 = true := by kernel_rfl
theorem call_67 : callable Try.prog 67 = true := by kernel_rfl
theorem call_68 : callable Try.prog 68 = true := by kernel_rfl
theorem call_69 : callable Try.prog 69 = true := by kernel_rfl
theorem call_70 : callable Try.prog 70 = true := by kernel_rfl
theorem call_71 : callable Try.prog 71 = true := by kernel_rfl
theorem call_72 : callable Try.prog 72 = true := by kernel_rfl
theorem call_73 : callable Try.prog 73 = true := by kernel_rfl
theorem call_74 : callable Try.prog 74 = true := by kernel_rfl
theorem call_75 : callable Try.prog 75 = true := by kernel_rfl
theorem call_76 : callable Try.prog 76 = true := by kernel_rfl
theorem call_77 : callable Try.prog 77 = true := by kernel_rfl
theorem call_78 : callable Try.prog 78 = true := by kernel_rfl
theorem call_79 : callable Try.prog 79 = true := by kernel_rfl
theorem call_80 : callable Try.prog 80 = true := by kernel_rfl
theorem call_81 : callable Try.prog 81 = true := by kernel_rfl
theorem call_82 : callable Try.prog 82 = true := by kernel_rfl
theorem call_83 : callable Try.prog 83 = true := by kernel_rfl
theorem call_84 : callable Try.prog 84 = true := by kernel_rfl
theorem call_85 : callable Try.prog 85 = true := by kernel_rfl
theorem call_86 : callable Try.prog 86 = true := by kernel_rfl
theorem call_88 : callable Try.prog 88 = true := by kernel_rfl
theorem call_89 : callable Try.prog 89 = true := by kernel_rfl

end Go.Proofs.Ytjceoaomkbabmaa
namespace Go.Proofs.Ytjceoaomkbabmaa
open Go Go.VV Go.Proofs
set_option linter.unusedSimpArgs false
set_option linter.unusedVariables false
set_option maxRecDepth 100000
theorem lit_fn (b : Nat) (u : PU) (hu : u.Wf) (w : World) (hr : Row w b 0 (cU u)) : Does Try.prog 31 [.pointer (some ⟨b, 0, none⟩)] w [] (fun v H => H = [] ∧ v = .bool (litU u)) := by
  refine does_of Try.func31 rfl rfl rfl (St.refl w) ?_
  refine c_seq ?_
  refine c_region ?_
  refine l_l rfl rfl rfl ?_
  refine l_nil ?_
  refine c_seq ?_
  refine c_region ?_
  refine l_l rfl rfl rfl ?_
  refine l_l rfl rfl rfl ?_
  refine l_l (light_fa rfl rfl) rfl rfl ?_
  refine l_l (by first | exact idx_array1 0 rfl rfl rfl rfl (by decide) | exact idx_slice1 0 rfl rfl rfl rfl (by decide) | exact idx_array 0 rfl rfl rfl rfl (by decide) | exact idx_slice 0 rfl rfl rfl rfl (by decide)) rfl rfl ?_
  refine l_x (x_load rfl rfl (at_old (get0 hr (cU_R hu (j := 0) (by decide))) (by simp))) rfl rfl ?_
  rintro _ _ ⟨rfl, rfl⟩
  refine l_l rfl rfl rfl ?_
  refine l_l rfl rfl rfl ?_
  refine l_l rfl rfl rfl ?_
  refine l_nil ?_
  refine c_ret ?_
  exact l_end0 (fun _ _ => rets_v rfl) ⟨rfl, congrArg _ (lit_law hu)⟩

theorem mode_fn (b : Nat) (u : PU) (hu : u.Wf) (w : World) (hr : Row w b 0 (cU u)) : Does Try.prog 16 [.pointer (some ⟨b, 0, none⟩)] w [] (fun v H => H = [] ∧ v = .int .i64 (modeU u)) := by
  refine does_of Try.func16 rfl rfl rfl (St.refl w) ?_
  refine c_seq ?_
  refine c_region ?_
  refine l_l rfl rfl rfl ?_
  refine l_nil ?_
  refine c_seq ?_
  refine c_block ?_
  refine c_seq ?_
  refine c_region ?_
  refine l_l rfl rfl rfl ?_
  refine l_l rfl rfl rfl ?_
  refine l_l rfl rfl rfl ?_
  refine l_l rfl rfl rfl ?_
  refine l_x (x_val call_31 rfl (fun w hw => lit_fn b u hu w (row_old hr (by simp) w hw))) rfl rfl ?_
  rintro _ _ ⟨rfl, rfl⟩
  refine l_l rfl rfl rfl ?_
  refine l_l rfl rfl rfl ?_
  refine l_l rfl rfl rfl ?_
  refine l_nil ?_
  refine c_cond rfl (fun h1 => ?_) (fun h1 => ?_)
  · refine c_seq ?_
    refine c_region ?_
    refine l_l rfl rfl rfl ?_
    refine l_nil ?_
    refine c_ret ?_
    exact l_end0 (fun _ _ => rets_v rfl) ⟨rfl, congrArg _ (by unfold modeU; simp_all <;> omega)⟩
  · refine c_seq ?_
    refine c_region ?_
    refine l_l rfl rfl rfl ?_
    refine l_l rfl rfl rfl ?_
    refine l_l (light_fa rfl rfl) rfl rfl ?_
    refine l_x (x_load rfl rfl (at_old (get0 hr (cU_line hu)) (by simp))) rfl rfl ?_
    rintro _ _ ⟨rfl, rfl⟩
    refine l_l rfl rfl rfl ?_
    refine l_l rfl rfl rfl ?_
    refine l_nil ?_
    refine c_cond rfl (fun h2 => ?_) (fun h2 => ?_)
    · refine c_seq ?_
      refine c_region ?_
      refine l_l rfl rfl rfl ?_
      refine l_nil ?_
      refine c_ret ?_
      exact l_end0 (fun _ _ => rets_v rfl) ⟨rfl, congrArg _ (by unfold modeU; simp_all <;> omega)⟩
    · refine c_seq ?_
      refine c_region ?_
      refine l_l rfl rfl rfl ?_
      refine l_l rfl rfl rfl ?_
      refine l_l (light_fa rfl rfl) rfl rfl ?_
      refine l_x (x_load rfl rfl (at_old (get0 hr (cU_dot hu)) (by simp))) rfl rfl ?_
      rintro _ _ ⟨rfl, rfl⟩
      refine l_l rfl rfl rfl ?_
      refine l_l rfl rfl rfl ?_
      refine l_nil ?_
      refine c_cond rfl (fun h3 => ?_) (fun h3 => ?_)
      · refine c_seq ?_
        refine c_region ?_
        refine l_l rfl rfl rfl ?_
        refine l_nil ?_
        refine c_ret ?_
        exact l_end0 (fun _ _ => rets_v rfl) ⟨rfl, congrArg _ (by unfold modeU; simp_all <;> omega)⟩
      · refine c_seq ?_
        refine c_region ?_
        refine l_l rfl rfl rfl ?_
        refine l_l rfl rfl rfl ?_
        refine l_l (light_fa rfl rfl) rfl rfl ?_
        refine l_x (x_load rfl rfl (at_old (get0 hr (cU_dot hu)) (by simp))) rfl rfl ?_
        rintro _ _ ⟨rfl, rfl⟩
        refine l_l rfl rfl rfl ?_
        refine l_l rfl rfl rfl ?_
        refine l_nil ?_
        refine c_cond rfl (fun h4 => ?_) (fun h4 => ?_)
        · refine c_seq ?_
          refine c_region ?_
          refine l_l rfl rfl rfl ?_
          refine l_nil ?_
          refine c_ret ?_
          exact l_end0 (fun _ _ => rets_v rfl) ⟨rfl, congrArg _ (by unfold modeU; simp_all <;> omega)⟩
        · refine c_skip ?_
          refine c_seq ?_
          refine c_region ?_
          refine l_l rfl rfl rfl ?_
          refine l_nil ?_
          refine c_ret ?_
          exact l_end0 (fun _ _ => rets_v rfl) ⟨rfl, congrArg _ (by unfold modeU; simp_all <;> omega)⟩

theorem found_fn (b : Nat) (u : PU) (hu : u.Wf) (w : World) (hr : Row w b 0 (cU u)) : Does Try.prog 35 [.pointer (some ⟨b, 0, none⟩)] w [] (fun v H => H = [] ∧ v = .bool (foundU u)) := by
  have h5 : 0 ≤ u.R.getD 5 0 ∧ u.R.getD 5 0 < 256 := hu.look 5
  refine does_of Try.func35 rfl rfl rfl (St.refl w) ?_
  refine c_seq ?_
  refine c_region ?_
  refine l_l rfl rfl rfl ?_
  refine l_nil ?_
  refine c_seq ?_
  refine c_draw _ [1, 7, 8, 9, 10, 11, 12] (.step true 0 (.step false 1 (.step true 2 (.step true 3 (.step true 4 (.step true 5 (.step true 6 (.step true 7 (.step true 8 (.step true 9 (.step true 10 (.step true 11 (.step true 12 (.step true 13 (.step true 14 (.step true 15 .done)))))))))))))))) rfl (by kernel_rfl) (by kernel_rfl) (fun _ h => h) ?_
  refine d_light rfl rfl rfl rfl rfl ?_
  refine d_x rfl (x_val call_31 rfl (fun w hw => lit_fn b u hu w (row_old hr (by simp) w hw))) rfl rfl (by intro _ _ _ hK x hx; obtain ⟨rfl, rfl⟩ := hK; repeat (first | exact hx | exact List.mem_append_left _ hx | refine List.mem_append_right _ ?_ | refine .tail _ ?_)) ?_
  rintro _ _ ⟨rfl, rfl⟩
  refine d_bool rfl rfl rfl rfl (fun h1 => ?_) (fun h1 => ?_)
  · refine d_light rfl rfl rfl rfl rfl ?_
    refine d_light rfl rfl rfl rfl rfl ?_
    refine d_light rfl (light_fa rfl rfl) rfl rfl rfl ?_
    refine d_load rfl rfl rfl (s_old (get0 hr (cU_line hu)) (by simp)) rfl rfl ?_
    refine d_light rfl rfl rfl rfl rfl ?_
    refine d_light rfl rfl rfl rfl rfl ?_
    refine d_light rfl (light_fa rfl rfl) rfl rfl rfl ?_
    refine d_light rfl (by first | exact idx_array1 5 rfl rfl rfl rfl (by decide) | exact idx_slice1 5 rfl rfl rfl rfl (by decide) | exact idx_array 5 rfl rfl rfl rfl (by decide) | exact idx_slice 5 rfl rfl rfl rfl (by decide)) rfl rfl rfl ?_
    refine d_load rfl rfl rfl (s_old (get0 hr (cU_R hu (j := 5) (by decide))) (by simp)) rfl rfl ?_
    refine d_as (v := (.int .i64 (u.R.getD 5 0))) rfl rfl rfl rfl rfl (congrArg _ (wrap_i64 (by omega) (by omega))) ?_
    refine d_light rfl rfl rfl rfl rfl ?_
    refine d_light rfl rfl rfl rfl rfl ?_
    refine d_light rfl rfl rfl rfl rfl ?_
    refine d_nil ?_
    refine c_ret ?_
    exact l_end0 (fun _ _ => rets_v rfl) ⟨rfl, congrArg _ (by unfold foundU; simp_all)⟩
  · refine d_pass rfl rfl rfl ?_
    refine d_pass rfl rfl rfl ?_
    refine d_pass rfl rfl rfl ?_
    refine d_pass rfl rfl rfl ?_
    refine d_pass rfl rfl rfl ?_
    refine d_pass rfl rfl rfl ?_
    refine d_pass rfl rfl rfl ?_
    refine d_pass rfl rfl rfl ?_
    refine d_pass rfl rfl rfl ?_
    refine d_pass rfl rfl rfl ?_
    refine d_pass rfl rfl rfl ?_
    refine d_light rfl rfl rfl rfl rfl ?_
    refine d_light rfl rfl rfl rfl rfl ?_
    refine d_nil ?_
    refine c_ret ?_
    exact l_end0 (fun _ _ => rets_v rfl) ⟨rfl, congrArg _ (by unfold foundU; simp_all)⟩

theorem line_fnU (b : Nat) (u : PU) (hu : u.Wf) (w : World) (hr : Row w b 0 (cU u)) : Does Try.prog 14 [.pointer (some ⟨b, 0, none⟩)] w [] (fun v H => H = [] ∧ v = .int .i64 u.line) := by
  refine does_of Try.func14 rfl rfl rfl (St.refl w) ?_
  refine c_seq ?_
  refine c_region ?_
  refine l_l rfl rfl rfl ?_
  refine l_nil ?_
  refine c_seq ?_
  refine c_seq ?_
  refine c_region ?_
  refine l_l rfl rfl rfl ?_
  refine l_l rfl rfl rfl ?_
  refine l_nil ?_
  refine c_false rfl ?_
  refine c_skip ?_
  refine c_seq ?_
  refine c_region ?_
  refine l_l rfl rfl rfl ?_
  refine l_l rfl rfl rfl ?_
  refine l_l (light_fa rfl rfl) rfl rfl ?_
  refine l_x (x_load rfl rfl (at_old (get0 hr (cU_line hu)) (by simp))) rfl rfl ?_
  rintro _ _ ⟨rfl, rfl⟩
  refine l_l rfl rfl rfl ?_
  refine l_nil ?_
  refine c_ret ?_
  exact l_end0 (fun _ _ => rets_v rfl) ⟨rfl, rfl⟩

theorem dot_fnU (b : Nat) (u : PU) (hu : u.Wf) (w : World) (hr : Row w b 0 (cU u)) : Does Try.prog 15 [.pointer (some ⟨b, 0, none⟩)] w [] (fun v H => H = [] ∧ v = .int .i64 u.dot) := by
  refine does_of Try.func15 rfl rfl rfl (St.refl w) ?_
  refine c_seq ?_
  refine c_region ?_
  refine l_l rfl rfl rfl ?_
  refine l_nil ?_
  refine c_seq ?_
  refine c_seq ?_
  refine c_region ?_
  refine l_l rfl rfl rfl ?_
  refine l_l rfl rfl rfl ?_
  refine l_nil ?_
  refine c_false rfl ?_
  refine c_skip ?_
  refine c_seq ?_
  refine c_region ?_
  refine l_l rfl rfl rfl ?_
  refine l_l rfl rfl rfl ?_
  refine l_l (light_fa rfl rfl) rfl rfl ?_
  refine l_x (x_load rfl rfl (at_old (get0 hr (cU_dot hu)) (by simp))) rfl rfl ?_
  rintro _ _ ⟨rfl, rfl⟩
  refine l_l rfl rfl rfl ?_
  refine l_nil ?_
  refine c_ret ?_
  exact l_end0 (fun _ _ => rets_v rfl) ⟨rfl, rfl⟩

theorem frames_fnU (b : Nat) (u : PU) (hu : u.Wf) (w : World) (hr : Row w b 0 (cU u)) : Does Try.prog 41 [.pointer (some ⟨b, 0, none⟩)] w [] (fun v H => H = [] ∧ v = .int .i64 u.frames) := by
  refine does_of Try.func41 rfl rfl rfl (St.refl w) ?_
  refine c_seq ?_
  refine c_region ?_
  refine l_l rfl rfl rfl ?_
  refine l_nil ?_
  refine c_seq ?_
  refine c_seq ?_
  refine c_region ?_
  refine l_l rfl rfl rfl ?_
  refine l_l rfl rfl rfl ?_
  refine l_nil ?_
  refine c_false rfl ?_
  refine c_skip ?_
  refine c_seq ?_
  refine c_region ?_
  refine l_l rfl rfl rfl ?_
  refine l_l rfl rfl rfl ?_
  refine l_l (light_fa rfl rfl) rfl rfl ?_
  refine l_x (x_load rfl rfl (at_old (get0 hr (cU_frames hu)) (by simp))) rfl rfl ?_
  rintro _ _ ⟨rfl, rfl⟩
  refine l_l rfl rfl rfl ?_
  refine l_nil ?_
  refine c_ret ?_
  exact l_end0 (fun _ _ => rets_v rfl) ⟨rfl, rfl⟩

theorem place_fn (b : Nat) (a : Int) (ha : 0 ≤ a ∧ a < 65536) (w : World) : Does Try.prog 29 [.pointer (some ⟨b, 0, none⟩), .int .u16 a] w [] (fun v H => H = [] ∧ v = placeV b a) := by
  refine does_of Try.func29 rfl rfl rfl (St.refl w) ?_
  refine c_seq ?_
  refine c_region ?_
  refine l_l rfl rfl rfl ?_
  refine l_l rfl rfl rfl ?_
  refine l_nil ?_
  refine c_seq ?_
  refine c_block ?_
  refine c_seq ?_
  refine c_region ?_
  refine l_l rfl rfl rfl ?_
  refine l_l rfl rfl rfl ?_
  refine l_b rfl rfl rfl (fun h1 => ?_) (fun h1 => ?_)
  · refine l_l rfl rfl rfl ?_
    refine l_l rfl rfl rfl ?_
    refine l_l rfl rfl rfl ?_
    refine l_l rfl rfl rfl ?_
    refine l_nil ?_
    refine c_cond rfl (fun h2 => ?_) (fun h2 => ?_)
    · refine c_seq ?_
      refine c_region ?_
      refine l_l rfl rfl rfl ?_
      refine l_l rfl rfl rfl ?_
      refine l_as (v := (.int .u16 (a - 32768))) rfl rfl rfl (congrArg _ (wrap_u16_id (by (try simp only [decide_eq_true_eq, decide_eq_false_iff_not, beq_iff_eq, beq_eq_false_iff_ne, bne_iff_ne, bne_eq_false_iff_eq, ne_eq] at *); omega) (by (try simp only [decide_eq_true_eq, decide_eq_false_iff_not, beq_iff_eq, beq_eq_false_iff_ne, bne_iff_ne, bne_eq_false_iff_eq, ne_eq] at *); omega))) ?_
      refine l_l rfl rfl rfl ?_
      refine l_l (light_fa rfl rfl) rfl rfl ?_
      refine l_l (idx_array1 (a - 32768).toNat rfl rfl rfl (by (try simp only [decide_eq_true_eq, decide_eq_false_iff_not, beq_iff_eq, beq_eq_false_iff_ne, bne_iff_ne, bne_eq_false_iff_eq, ne_eq] at *); omega) (by (try simp only [decide_eq_true_eq, decide_eq_false_iff_not, beq_iff_eq, beq_eq_false_iff_ne, bne_iff_ne, bne_eq_false_iff_eq, ne_eq] at *); omega)) rfl rfl ?_
      refine l_l rfl rfl rfl ?_
      refine l_l rfl rfl rfl ?_
      refine l_nil ?_
      refine c_ret ?_
      exact l_end0 (fun _ _ => rets_v2 rfl rfl) ⟨rfl, by unfold placeV; rw [if_pos (by (try simp only [decide_eq_true_eq, decide_eq_false_iff_not, beq_iff_eq, beq_eq_false_iff_ne, bne_iff_ne, bne_eq_false_iff_eq, ne_eq] at *); omega)]⟩
    · refine c_seq ?_
      refine c_region ?_
      refine l_l rfl rfl rfl ?_
      refine l_l rfl rfl rfl ?_
      refine l_b rfl rfl rfl (fun h3 => ?_) (fun h3 => ?_)
      · refine l_l rfl rfl rfl ?_
        refine l_l rfl rfl rfl ?_
        refine l_l rfl rfl rfl ?_
        refine l_l rfl rfl rfl ?_
        refine l_nil ?_
        refine c_cond rfl (fun h4 => ?_) (fun h4 => ?_)
        · refine c_seq ?_
          refine c_region ?_
          refine l_l rfl rfl rfl ?_
          refine l_l rfl rfl rfl ?_
          refine l_as (v := (.int .u16 (a - 65024))) rfl rfl rfl (congrArg _ (wrap_u16_id (by (try simp only [decide_eq_true_eq, decide_eq_false_iff_not, beq_iff_eq, beq_eq_false_iff_ne, bne_iff_ne, bne_eq_false_iff_eq, ne_eq] at *); omega) (by (try simp only [decide_eq_true_eq, decide_eq_false_iff_not, beq_iff_eq, beq_eq_false_iff_ne, bne_iff_ne, bne_eq_false_iff_eq, ne_eq] at *); omega))) ?_
          refine l_l rfl rfl rfl ?_
          refine l_l (light_fa rfl rfl) rfl rfl ?_
          refine l_l (idx_array1 (a - 65024).toNat rfl rfl rfl (by (try simp only [decide_eq_true_eq, decide_eq_false_iff_not, beq_iff_eq, beq_eq_false_iff_ne, bne_iff_ne, bne_eq_false_iff_eq, ne_eq] at *); omega) (by (try simp only [decide_eq_true_eq, decide_eq_false_iff_not, beq_iff_eq, beq_eq_false_iff_ne, bne_iff_ne, bne_eq_false_iff_eq, ne_eq] at *); omega)) rfl rfl ?_
          refine l_l rfl rfl rfl ?_
          refine l_l rfl rfl rfl ?_
          refine l_nil ?_
          refine c_ret ?_
          exact l_end0 (fun _ _ => rets_v2 rfl rfl) ⟨rfl, by unfold placeV; rw [if_neg (by (try simp only [decide_eq_true_eq, decide_eq_false_iff_not, beq_iff_eq, beq_eq_false_iff_ne, bne_iff_ne, bne_eq_false_iff_eq, ne_eq] at *); omega), if_pos (by (try simp only [decide_eq_true_eq, decide_eq_false_iff_not, beq_iff_eq, beq_eq_false_iff_ne, bne_iff_ne, bne_eq_false_iff_eq, ne_eq] at *); omega)]⟩
        · refine c_skip ?_
          refine c_seq ?_
          refine c_region ?_
          refine l_l rfl rfl rfl ?_
          refine l_l rfl rfl rfl ?_
          refine l_nil ?_
          refine c_ret ?_
          exact l_end0 (fun _ _ => rets_v2 rfl rfl) ⟨rfl, by unfold placeV; rw [if_neg (by (try simp only [decide_eq_true_eq, decide_eq_false_iff_not, beq_iff_eq, beq_eq_false_iff_ne, bne_iff_ne, bne_eq_false_iff_eq, ne_eq] at *); omega), if_neg (by (try simp only [decide_eq_true_eq, decide_eq_false_iff_not, beq_iff_eq, beq_eq_false_iff_ne, bne_iff_ne, bne_eq_false_iff_eq, ne_eq] at *); omega)]⟩
      · refine l_p rfl rfl ?_
        refine l_p rfl rfl ?_
        refine l_l rfl rfl rfl ?_
        refine l_l rfl rfl rfl ?_
        refine l_nil ?_
        refine c_false rfl ?_
        refine c_skip ?_
        refine c_seq ?_
        refine c_region ?_
        refine l_l rfl rfl rfl ?_
        refine l_l rfl rfl rfl ?_
        refine l_nil ?_
        refine c_ret ?_
        exact l_end0 (fun _ _ => rets_v2 rfl rfl) ⟨rfl, by unfold placeV; rw [if_neg (by (try simp only [decide_eq_true_eq, decide_eq_false_iff_not, beq_iff_eq, beq_eq_false_iff_ne, bne_iff_ne, bne_eq_false_iff_eq, ne_eq] at *); omega), if_neg (by (try simp only [decide_eq_true_eq, decide_eq_false_iff_not, beq_iff_eq, beq_eq_false_iff_ne, bne_iff_ne, bne_eq_false_iff_eq, ne_eq] at *); omega)]⟩
  · refine l_p rfl rfl ?_
    refine l_p rfl rfl ?_
    refine l_l rfl rfl rfl ?_
    refine l_l rfl rfl rfl ?_
    refine l_nil ?_
    refine c_false rfl ?_
    refine c_seq ?_
    refine c_region ?_
    refine l_l rfl rfl rfl ?_
    refine l_l rfl rfl rfl ?_
    refine l_b rfl rfl rfl (fun h5 => ?_) (fun h5 => ?_)
    · refine l_l rfl rfl rfl ?_
      refine l_l rfl rfl rfl ?_
      refine l_l rfl rfl rfl ?_
      refine l_l rfl rfl rfl ?_
      refine l_nil ?_
      refine c_cond rfl (fun h6 => ?_) (fun h6 => ?_)
      · refine c_seq ?_
        refine c_region ?_
        refine l_l rfl rfl rfl ?_
        refine l_l rfl rfl rfl ?_
        refine l_as (v := (.int .u16 (a - 65024))) rfl rfl rfl (congrArg _ (wrap_u16_id (by (try simp only [decide_eq_true_eq, decide_eq_false_iff_not, beq_iff_eq, beq_eq_false_iff_ne, bne_iff_ne, bne_eq_false_iff_eq, ne_eq] at *); omega) (by (try simp only [decide_eq_true_eq, decide_eq_false_iff_not, beq_iff_eq, beq_eq_false_iff_ne, bne_iff_ne, bne_eq_false_iff_eq, ne_eq] at *); omega))) ?_
        refine l_l rfl rfl rfl ?_
        refine l_l (light_fa rfl rfl) rfl rfl ?_
        refine l_l (idx_array1 (a - 65024).toNat rfl rfl rfl (by (try simp only [decide_eq_true_eq, decide_eq_false_iff_not, beq_iff_eq, beq_eq_false_iff_ne, bne_iff_ne, bne_eq_false_iff_eq, ne_eq] at *); omega) (by (try simp only [decide_eq_true_eq, decide_eq_false_iff_not, beq_iff_eq, beq_eq_false_iff_ne, bne_iff_ne, bne_eq_false_iff_eq, ne_eq] at *); omega)) rfl rfl ?_
        refine l_l rfl rfl rfl ?_
        refine l_l rfl rfl rfl ?_
        refine l_nil ?_
        refine c_ret ?_
        exact l_end0 (fun _ _ => rets_v2 rfl rfl) ⟨rfl, by unfold placeV; rw [if_neg (by (try simp only [decide_eq_true_eq, decide_eq_false_iff_not, beq_iff_eq, beq_eq_false_iff_ne, bne_iff_ne, bne_eq_false_iff_eq, ne_eq] at *); omega), if_pos (by (try simp only [decide_eq_true_eq, decide_eq_false_iff_not, beq_iff_eq, beq_eq_false_iff_ne, bne_iff_ne, bne_eq_false_iff_eq, ne_eq] at *); omega)]⟩
      · refine c_skip ?_
        refine c_seq ?_
        refine c_region ?_
        refine l_l rfl rfl rfl ?_
        refine l_l rfl rfl rfl ?_
        refine l_nil ?_
        refine c_ret ?_
        exact l_end0 (fun _ _ => rets_v2 rfl rfl) ⟨rfl, by unfold placeV; rw [if_neg (by (try simp only [decide_eq_true_eq, decide_eq_false_iff_not, beq_iff_eq, beq_eq_false_iff_ne, bne_iff_ne, bne_eq_false_iff_eq, ne_eq] at *); omega), if_neg (by (try simp only [decide_eq_true_eq, decide_eq_false_iff_not, beq_iff_eq, beq_eq_false_iff_ne, bne_iff_ne, bne_eq_false_iff_eq, ne_eq] at *); omega)]⟩
    · refine l_p rfl rfl ?_
      refine l_p rfl rfl ?_
      refine l_l rfl rfl rfl ?_
      refine l_l rfl rfl rfl ?_
      refine l_nil ?_
      refine c_false rfl ?_
      refine c_skip ?_
      refine c_seq ?_
      refine c_region ?_
      refine l_l rfl rfl rfl ?_
      refine l_l rfl rfl rfl ?_
      refine l_nil ?_
      refine c_ret ?_
      exact l_end0 (fun _ _ => rets_v2 rfl rfl) ⟨rfl, by unfold placeV; rw [if_neg (by (try simp only [decide_eq_true_eq, decide_eq_false_iff_not, beq_iff_eq, beq_eq_false_iff_ne, bne_iff_ne, bne_eq_false_iff_eq, ne_eq] at *); omega), if_neg (by (try simp only [decide_eq_true_eq, decide_eq_false_iff_not, beq_iff_eq, beq_eq_false_iff_ne, bne_iff_ne, bne_eq_false_iff_eq, ne_eq] at *); omega)]⟩

theorem number_fn (a : Int) (ha : 0 ≤ a ∧ a < 65536) (w : World) : Does Try.prog 30 [.int .u16 a] w [] (fun v H => H = [] ∧ v = .int .i64 (numU a)) := by
  refine does_of Try.func30 rfl rfl rfl (St.refl w) ?_
  refine c_seq ?_
  refine c_region ?_
  refine l_l rfl rfl rfl ?_
  refine l_nil ?_
  refine c_seq ?_
  refine c_region ?_
  refine l_l rfl rfl rfl ?_
  refine l_as (v := (.int .i64 (a))) rfl rfl rfl (congrArg _ (wrap_i64 (by omega) (by omega))) ?_
  refine l_as (v := (.int .i64 (a - 65344))) rfl rfl rfl (congrArg _ (wrap_i64 (by omega) (by omega))) ?_
  refine l_l rfl rfl rfl ?_
  refine l_nil ?_
  refine c_seq ?_
  refine c_seq ?_
  refine c_region ?_
  refine l_l rfl rfl rfl ?_
  refine l_l rfl rfl rfl ?_
  refine l_b rfl rfl rfl (fun h1 => ?_) (fun h1 => ?_)
  · refine l_p rfl rfl ?_
    refine l_p rfl rfl ?_
    refine l_l rfl rfl rfl ?_
    refine l_l rfl rfl rfl ?_
    refine l_p rfl rfl ?_
    refine l_p rfl rfl ?_
    refine l_l rfl rfl rfl ?_
    refine l_nil ?_
    refine c_true rfl ?_
    refine c_seq ?_
    refine c_region ?_
    refine l_l rfl rfl rfl ?_
    refine l_nil ?_
    refine c_ret ?_
    exact l_end0 (fun _ _ => rets_v rfl) ⟨rfl, congrArg _ (by unfold numU; rw [if_pos (by (try simp only [decide_eq_true_eq, decide_eq_false_iff_not, beq_iff_eq, beq_eq_false_iff_ne, bne_iff_ne, bne_eq_false_iff_eq, ne_eq] at *); omega)])⟩
  · refine l_l rfl rfl rfl ?_
    refine l_l rfl rfl rfl ?_
    refine l_l rfl rfl rfl ?_
    refine l_b rfl rfl rfl (fun h2 => ?_) (fun h2 => ?_)
    · refine l_p rfl rfl ?_
      refine l_p rfl rfl ?_
      refine l_l rfl rfl rfl ?_
      refine l_nil ?_
      refine c_true rfl ?_
      refine c_seq ?_
      refine c_region ?_
      refine l_l rfl rfl rfl ?_
      refine l_nil ?_
      refine c_ret ?_
      exact l_end0 (fun _ _ => rets_v rfl) ⟨rfl, congrArg _ (by unfold numU; rw [if_pos (by (try simp only [decide_eq_true_eq, decide_eq_false_iff_not, beq_iff_eq, beq_eq_false_iff_ne, bne_iff_ne, bne_eq_false_iff_eq, ne_eq] at *); omega)])⟩
    · refine l_l rfl rfl rfl ?_
      refine l_l rfl rfl rfl ?_
      refine l_l rfl rfl rfl ?_
      refine l_nil ?_
      refine c_cond rfl (fun h3 => ?_) (fun h3 => ?_)
      · refine c_seq ?_
        refine c_region ?_
        refine l_l rfl rfl rfl ?_
        refine l_nil ?_
        refine c_ret ?_
        exact l_end0 (fun _ _ => rets_v rfl) ⟨rfl, congrArg _ (by unfold numU; rw [if_pos (by (try simp only [decide_eq_true_eq, decide_eq_false_iff_not, beq_iff_eq, beq_eq_false_iff_ne, bne_iff_ne, bne_eq_false_iff_eq, ne_eq] at *); omega)])⟩
      · refine c_skip ?_
        refine c_seq ?_
        refine c_region ?_
        refine l_l rfl rfl rfl ?_
        refine l_l rfl rfl rfl ?_
        refine l_nil ?_
        refine c_ret ?_
        exact l_end0 (fun _ _ => rets_v rfl) ⟨rfl, congrArg _ (by unfold numU; rw [if_neg (by (try simp only [decide_eq_true_eq, decide_eq_false_iff_not, beq_iff_eq, beq_eq_false_iff_ne, bne_iff_ne, bne_eq_false_iff_eq, ne_eq] at *); omega)])⟩

theorem ask_fn (b : Nat) (u : PU) (hu : u.Wf) (w : World) (hst : St w [b] [(b, blk (cU u) 60)] w) : Does Try.prog 32 [.pointer (some ⟨b, 0, none⟩)] w [b] (fun v H => v = .int .u8 (askV u) ∧ H = [(b, blk (cU (askU u)) 60)]) := by
  have hmr := mode_range u
  refine does_of Try.func32 rfl rfl rfl hst ?_
  refine c_seq ?_
  refine c_region ?_
  refine l_l rfl rfl rfl ?_
  refine l_nil ?_
  refine c_seq ?_
  refine c_region ?_
  refine l_l rfl rfl rfl ?_
  refine l_l rfl rfl rfl ?_
  refine l_l (light_fa rfl rfl) rfl rfl ?_
  refine l_x (x_load rfl rfl (at_own (by repeat (first | exact .head _ | refine .tail _ ?_ | refine List.mem_append_right _ ?_)) (cU_sig hu))) rfl rfl ?_
  rintro _ _ ⟨rfl, rfl⟩
  refine l_l rfl rfl rfl ?_
  refine l_nil ?_
  refine c_seq ?_
  refine c_region ?_
  refine l_l (light_array (l := [.int .u8 8, .int .u8 16, .int .u8 32, .int .u8 0]) rfl rfl rfl (by kernel_rfl)) rfl rfl ?_
  refine l_x (x_alloc rfl) rfl rfl ?_
  rintro _ _ ⟨b4, rfl, rfl⟩
  refine l_x (by first | exact x_store 0 rfl rfl rfl rfl rfl rfl (by first | rfl | exact Nat.le_of_ble_eq_true rfl | (simp; done)) | exact x_store 1 rfl rfl rfl rfl rfl rfl (by first | rfl | exact Nat.le_of_ble_eq_true rfl | (simp; done)) | exact x_store 2 rfl rfl rfl rfl rfl rfl (by first | rfl | exact Nat.le_of_ble_eq_true rfl | (simp; done)) | exact x_store 3 rfl rfl rfl rfl rfl rfl (by first | rfl | exact Nat.le_of_ble_eq_true rfl | (simp; done))) rfl rfl ?_
  rintro _ _ ⟨rfl, rfl⟩
  refine l_nil ?_
  refine c_seq ?_
  refine c_region ?_
  refine l_l rfl rfl rfl ?_
  refine l_l rfl rfl rfl ?_
  refine l_l (light_fa rfl rfl) rfl rfl ?_
  refine l_l (by first | exact idx_array1 1 rfl rfl rfl rfl (by decide) | exact idx_slice1 1 rfl rfl rfl rfl (by decide) | exact idx_array 1 rfl rfl rfl rfl (by decide) | exact idx_slice 1 rfl rfl rfl rfl (by decide)) rfl rfl ?_
  refine l_x (x_load rfl rfl (at_own (by repeat (first | exact .head _ | refine .tail _ ?_ | refine List.mem_append_right _ ?_)) (cU_R hu (j := 1) (by decide)))) rfl rfl ?_
  rintro _ _ ⟨rfl, rfl⟩
  refine l_l rfl rfl rfl ?_
  refine l_nil ?_
  refine c_seq ?_
  refine c_region ?_
  refine l_l rfl rfl rfl ?_
  refine l_l rfl rfl rfl ?_
  refine l_x (x_val call_31 rfl (fun w hw => lit_fn b u hu w (row_own (by repeat (first | exact .head _ | refine .tail _ ?_ | refine List.mem_append_right _ ?_)) w hw))) rfl rfl ?_
  rintro _ _ ⟨rfl, rfl⟩
  refine l_b rfl rfl rfl (fun h1 => ?_) (fun h1 => ?_)
  · refine l_l rfl rfl rfl ?_
    refine l_l rfl rfl rfl ?_
    refine l_x (x_val call_16 rfl (fun w hw => mode_fn b u hu w (row_own (by repeat (first | exact .head _ | refine .tail _ ?_ | refine List.mem_append_right _ ?_)) w hw))) rfl rfl ?_
    rintro _ _ ⟨rfl, rfl⟩
    refine l_l (idx_array1 (modeU u).toNat rfl rfl rfl (by omega) (by omega)) rfl rfl ?_
    refine l_x (x_load rfl rfl (at_own (by repeat (first | exact .head _ | refine .tail _ ?_ | refine List.mem_append_right _ ?_)) (mb_at u))) rfl rfl ?_
    rintro _ _ ⟨rfl, rfl⟩
    refine l_l rfl rfl rfl ?_
    refine l_l rfl rfl rfl ?_
    refine l_b rfl rfl rfl (fun h2 => ?_) (fun h2 => ?_)
    · refine l_p rfl rfl ?_
      refine l_p rfl rfl ?_
      refine l_p rfl rfl ?_
      refine l_p rfl rfl ?_
      refine l_p rfl rfl ?_
      refine l_p rfl rfl ?_
      refine l_p rfl rfl ?_
      refine l_l rfl rfl rfl ?_
      refine l_l rfl rfl rfl ?_
      refine l_l rfl rfl rfl ?_
      refine l_l (light_fa rfl rfl) rfl rfl ?_
      refine l_x (x_storeTo (l' := cU (askU u)) 1 rfl rfl rfl rfl rfl rfl (by rw [cU_len hu]; simp only [List.length_cons, List.length_nil]; (try simp only [decide_eq_true_eq, decide_eq_false_iff_not, beq_iff_eq, beq_eq_false_iff_ne, bne_iff_ne, bne_eq_false_iff_eq, ne_eq] at *); omega) (ask_put hu (sig_2 h1 h2))) rfl rfl ?_
      rintro _ _ ⟨rfl, rfl⟩
      simp only [List.set_cons_zero, List.set_cons_succ]
      refine l_nil ?_
      refine c_seq ?_
      refine c_seq ?_
      refine c_region ?_
      refine l_l rfl rfl rfl ?_
      refine l_l rfl rfl rfl ?_
      refine l_l (light_fa rfl rfl) rfl rfl ?_
      refine l_x (x_load rfl rfl (at_own (by repeat (first | exact .head _ | refine .tail _ ?_ | refine List.mem_append_right _ ?_)) (cU_sig hu.ask))) rfl rfl ?_
      rintro _ _ ⟨rfl, rfl⟩
      refine l_b rfl rfl rfl (fun h3 => ?_) (fun h3 => ?_)
      · refine l_l rfl rfl rfl ?_
        refine l_l rfl rfl rfl ?_
        refine l_l rfl rfl rfl ?_
        refine l_nil ?_
        refine c_cond rfl (fun h4 => ?_) (fun h4 => ?_)
        · refine c_seq ?_
          refine c_region ?_
          refine l_l rfl rfl rfl ?_
          refine l_nil ?_
          refine c_ret ?_
          exact l_end (fun _ _ => rets_v rfl) (List.sublist_cons_self _ _) ⟨congrArg _ (by unfold askV; have h9 : (askU u).sig = sigU u := rfl; simp_all), rfl⟩
        · refine c_skip ?_
          refine c_seq ?_
          refine c_region ?_
          refine l_l rfl rfl rfl ?_
          refine l_nil ?_
          refine c_ret ?_
          exact l_end (fun _ _ => rets_v rfl) (List.sublist_cons_self _ _) ⟨congrArg _ (by unfold askV; have h9 : (askU u).sig = sigU u := rfl; simp_all), rfl⟩
      · refine l_p rfl rfl ?_
        refine l_p rfl rfl ?_
        refine l_l rfl rfl rfl ?_
        refine l_nil ?_
        refine c_false rfl ?_
        refine c_skip ?_
        refine c_seq ?_
        refine c_region ?_
        refine l_l rfl rfl rfl ?_
        refine l_nil ?_
        refine c_ret ?_
        exact l_end (fun _ _ => rets_v rfl) (List.sublist_cons_self _ _) ⟨congrArg _ (by unfold askV; have h9 : (askU u).sig = sigU u := rfl; simp_all), rfl⟩
    · refine l_l rfl rfl rfl ?_
      refine l_l rfl rfl rfl ?_
      refine l_l rfl rfl rfl ?_
      refine l_b rfl rfl rfl (fun h5 => ?_) (fun h5 => ?_)
      · refine l_l rfl rfl rfl ?_
        refine l_x (x_val call_35 rfl (fun w hw => found_fn b u hu w (row_own (by repeat (first | exact .head _ | refine .tail _ ?_ | refine List.mem_append_right _ ?_)) w hw))) rfl rfl ?_
        rintro _ _ ⟨rfl, rfl⟩
        refine l_l rfl rfl rfl ?_
        refine l_l rfl rfl rfl ?_
        refine l_l rfl rfl rfl ?_
        refine l_l rfl rfl rfl ?_
        refine l_l (light_fa rfl rfl) rfl rfl ?_
        refine l_x (x_storeTo (l' := cU (askU u)) 1 rfl rfl rfl rfl rfl rfl (by rw [cU_len hu]; simp only [List.length_cons, List.length_nil]; (try simp only [decide_eq_true_eq, decide_eq_false_iff_not, beq_iff_eq, beq_eq_false_iff_ne, bne_iff_ne, bne_eq_false_iff_eq, ne_eq] at *); omega) (ask_put hu (sig_4 h1 h2 h5))) rfl rfl ?_
        rintro _ _ ⟨rfl, rfl⟩
        simp only [List.set_cons_zero, List.set_cons_succ]
        refine l_nil ?_
        refine c_seq ?_
        refine c_seq ?_
        refine c_region ?_
        refine l_l rfl rfl rfl ?_
        refine l_l rfl rfl rfl ?_
        refine l_l (light_fa rfl rfl) rfl rfl ?_
        refine l_x (x_load rfl rfl (at_own (by repeat (first | exact .head _ | refine .tail _ ?_ | refine List.mem_append_right _ ?_)) (cU_sig hu.ask))) rfl rfl ?_
        rintro _ _ ⟨rfl, rfl⟩
        refine l_b rfl rfl rfl (fun h6 => ?_) (fun h6 => ?_)
        · refine l_l rfl rfl rfl ?_
          refine l_l rfl rfl rfl ?_
          refine l_l rfl rfl rfl ?_
          refine l_nil ?_
          refine c_cond rfl (fun h7 => ?_) (fun h7 => ?_)
          · refine c_seq ?_
            refine c_region ?_
            refine l_l rfl rfl rfl ?_
            refine l_nil ?_
            refine c_ret ?_
            exact l_end (fun _ _ => rets_v rfl) (List.sublist_cons_self _ _) ⟨congrArg _ (by unfold askV; have h9 : (askU u).sig = sigU u := rfl; simp_all), rfl⟩
          · refine c_skip ?_
            refine c_seq ?_
            refine c_region ?_
            refine l_l rfl rfl rfl ?_
            refine l_nil ?_
            refine c_ret ?_
            exact l_end (fun _ _ => rets_v rfl) (List.sublist_cons_self _ _) ⟨congrArg _ (by unfold askV; have h9 : (askU u).sig = sigU u := rfl; simp_all), rfl⟩
        · refine l_p rfl rfl ?_
          refine l_p rfl rfl ?_
          refine l_l rfl rfl rfl ?_
          refine l_nil ?_
          refine c_false rfl ?_
          refine c_skip ?_
          refine c_seq ?_
          refine c_region ?_
          refine l_l rfl rfl rfl ?_
          refine l_nil ?_
          refine c_ret ?_
          exact l_end (fun _ _ => rets_v rfl) (List.sublist_cons_self _ _) ⟨congrArg _ (by unfold askV; have h9 : (askU u).sig = sigU u := rfl; simp_all), rfl⟩
      · refine l_p rfl rfl ?_
        refine l_p rfl rfl ?_
        refine l_l rfl rfl rfl ?_
        refine l_l rfl rfl rfl ?_
        refine l_l rfl rfl rfl ?_
        refine l_l rfl rfl rfl ?_
        refine l_l (light_fa rfl rfl) rfl rfl ?_
        refine l_x (x_storeTo (l' := cU (askU u)) 1 rfl rfl rfl rfl rfl rfl (by rw [cU_len hu]; simp only [List.length_cons, List.length_nil]; (try simp only [decide_eq_true_eq, decide_eq_false_iff_not, beq_iff_eq, beq_eq_false_iff_ne, bne_iff_ne, bne_eq_false_iff_eq, ne_eq] at *); omega) (ask_put hu (sig_3 h1 h2 h5))) rfl rfl ?_
        rintro _ _ ⟨rfl, rfl⟩
        simp only [List.set_cons_zero, List.set_cons_succ]
        refine l_nil ?_
        refine c_seq ?_
        refine c_seq ?_
        refine c_region ?_
        refine l_l rfl rfl rfl ?_
        refine l_l rfl rfl rfl ?_
        refine l_l (light_fa rfl rfl) rfl rfl ?_
        refine l_x (x_load rfl rfl (at_own (by repeat (first | exact .head _ | refine .tail _ ?_ | refine List.mem_append_right _ ?_)) (cU_sig hu.ask))) rfl rfl ?_
        rintro _ _ ⟨rfl, rfl⟩
        refine l_b rfl rfl rfl (fun h8 => ?_) (fun h8 => ?_)
        · refine l_l rfl rfl rfl ?_
          refine l_l rfl rfl rfl ?_
          refine l_l rfl rfl rfl ?_
          refine l_nil ?_
          refine c_cond rfl (fun h9 => ?_) (fun h9 => ?_)
          · refine c_seq ?_
            refine c_region ?_
            refine l_l rfl rfl rfl ?_
            refine l_nil ?_
            refine c_ret ?_
            exact l_end (fun _ _ => rets_v rfl) (List.sublist_cons_self _ _) ⟨congrArg _ (by unfold askV; have h9 : (askU u).sig = sigU u := rfl; simp_all), rfl⟩
          · refine c_skip ?_
            refine c_seq ?_
            refine c_region ?_
            refine l_l rfl rfl rfl ?_
            refine l_nil ?_
            refine c_ret ?_
            exact l_end (fun _ _ => rets_v rfl) (List.sublist_cons_self _ _) ⟨congrArg _ (by unfold askV; have h9 : (askU u).sig = sigU u := rfl; simp_all), rfl⟩
        · refine l_p rfl rfl ?_
          refine l_p rfl rfl ?_
          refine l_l rfl rfl rfl ?_
          refine l_nil ?_
          refine c_false rfl ?_
          refine c_skip ?_
          refine c_seq ?_
          refine c_region ?_
          refine l_l rfl rfl rfl ?_
          refine l_nil ?_
          refine c_ret ?_
          exact l_end (fun _ _ => rets_v rfl) (List.sublist_cons_self _ _) ⟨congrArg _ (by unfold askV; have h9 : (askU u).sig = sigU u := rfl; simp_all), rfl⟩
  · refine l_p rfl rfl ?_
    refine l_p rfl rfl ?_
    refine l_p rfl rfl ?_
    refine l_p rfl rfl ?_
    refine l_p rfl rfl ?_
    refine l_p rfl rfl ?_
    refine l_p rfl rfl ?_
    refine l_p rfl rfl ?_
    refine l_p rfl rfl ?_
    refine l_p rfl rfl ?_
    refine l_p rfl rfl ?_
    refine l_p rfl rfl ?_
    refine l_p rfl rfl ?_
    refine l_p rfl rfl ?_
    refine l_p rfl rfl ?_
    refine l_p rfl rfl ?_
    refine l_l rfl rfl rfl ?_
    refine l_l rfl rfl rfl ?_
    refine l_l (light_fa rfl rfl) rfl rfl ?_
    refine l_x (x_storeTo (l' := cU (askU u)) 1 rfl rfl rfl rfl rfl rfl (by rw [cU_len hu]; simp only [List.length_cons, List.length_nil]; (try simp only [decide_eq_true_eq, decide_eq_false_iff_not, beq_iff_eq, beq_eq_false_iff_ne, bne_iff_ne, bne_eq_false_iff_eq, ne_eq] at *); omega) (ask_put hu (sig_1 h1))) rfl rfl ?_
    rintro _ _ ⟨rfl, rfl⟩
    simp only [List.set_cons_zero, List.set_cons_succ]
    refine l_nil ?_
    refine c_seq ?_
    refine c_seq ?_
    refine c_region ?_
    refine l_l rfl rfl rfl ?_
    refine l_l rfl rfl rfl ?_
    refine l_l (light_fa rfl rfl) rfl rfl ?_
    refine l_x (x_load rfl rfl (at_own (by repeat (first | exact .head _ | refine .tail _ ?_ | refine List.mem_append_right _ ?_)) (cU_sig hu.ask))) rfl rfl ?_
    rintro _ _ ⟨rfl, rfl⟩
    refine l_b rfl rfl rfl (fun h10 => ?_) (fun h10 => ?_)
    · refine l_l rfl rfl rfl ?_
      refine l_l rfl rfl rfl ?_
      refine l_l rfl rfl rfl ?_
      refine l_nil ?_
      refine c_cond rfl (fun h11 => ?_) (fun h11 => ?_)
      · refine c_seq ?_
        refine c_region ?_
        refine l_l rfl rfl rfl ?_
        refine l_nil ?_
        refine c_ret ?_
        exact l_end (fun _ _ => rets_v rfl) (List.sublist_cons_self _ _) ⟨congrArg _ (by unfold askV; have h9 : (askU u).sig = sigU u := rfl; simp_all), rfl⟩
      · refine c_skip ?_
        refine c_seq ?_
        refine c_region ?_
        refine l_l rfl rfl rfl ?_
        refine l_nil ?_
        refine c_ret ?_
        exact l_end (fun _ _ => rets_v rfl) (List.sublist_cons_self _ _) ⟨congrArg _ (by unfold askV; have h9 : (askU u).sig = sigU u := rfl; simp_all), rfl⟩
    · refine l_p rfl rfl ?_
      refine l_p rfl rfl ?_
      refine l_l rfl rfl rfl ?_
      refine l_nil ?_
      refine c_false rfl ?_
      refine c_skip ?_
      refine c_seq ?_
      refine c_region ?_
      refine l_l rfl rfl rfl ?_
      refine l_nil ?_
      refine c_ret ?_
      exact l_end (fun _ _ => rets_v rfl) (List.sublist_cons_self _ _) ⟨congrArg _ (by unfold askV; have h9 : (askU u).sig = sigU u := rfl; simp_all), rfl⟩

end Go.Proofs.Ytjceoaomkbabmaa
namespace Go.Proofs.Ytjceoaomkbabmaa
open Go Go.VV Go.Proofs
set_option linter.unusedSimpArgs false
set_option linter.unusedVariables false
set_option maxRecDepth 100000
theorem within_fn (n fr mn : Int) (w : World) :
    Does Try.prog 73 [.int .i64 n, .int .i64 fr, .int .i64 mn] w [] (fun v H => H = [] ∧ v = .bool (decide (fr ≤ n) && decide (n < IntKind.i64.wrap (fr + mn)))) := by
  refine does_of Try.func73 rfl rfl rfl (St.refl w) ?_
  refine c_seq ?_
  refine c_region ?_
  refine l_l rfl rfl rfl ?_
  refine l_nil ?_
  refine c_seq ?_
  refine c_region ?_
  refine l_l rfl rfl rfl ?_
  refine l_l rfl rfl rfl ?_
  refine l_l rfl rfl rfl ?_
  refine l_b rfl rfl rfl (fun h1 => ?_) (fun h1 => ?_)
  · refine l_l rfl rfl rfl ?_
    refine l_l rfl rfl rfl ?_
    refine l_l rfl rfl rfl ?_
    refine l_l rfl rfl rfl ?_
    refine l_l rfl rfl rfl ?_
    refine l_l rfl rfl rfl ?_
    refine l_l rfl rfl rfl ?_
    refine l_nil ?_
    refine c_ret ?_
    exact l_end0 (fun _ _ => rets_v rfl) ⟨rfl, by (simp_all; try omega)⟩
  · refine l_p rfl rfl ?_
    refine l_p rfl rfl ?_
    refine l_p rfl rfl ?_
    refine l_p rfl rfl ?_
    refine l_p rfl rfl ?_
    refine l_l rfl rfl rfl ?_
    refine l_l rfl rfl rfl ?_
    refine l_nil ?_
    refine c_ret ?_
    exact l_end0 (fun _ _ => rets_v rfl) ⟨rfl, by (simp_all; try omega)⟩

theorem height_fn (c b f s : Int) (hc : 0 ≤ c ∧ c < 256) (w : World) :
    Does Try.prog 74 [.agg #[.int .u8 c, .int .u8 b, .int .u8 f, .int .u8 s]] w [] (fun v H => H = [] ∧ v = .int .i64 (hgt c)) := by
  refine does_of Try.func74 rfl rfl rfl (St.refl w) ?_
  refine c_seq ?_
  refine c_region ?_
  refine l_x (x_box rfl rfl) rfl rfl ?_
  rintro _ _ ⟨b1, rfl, rfl⟩
  refine l_l rfl rfl rfl ?_
  refine l_nil ?_
  refine c_seq ?_
  refine c_seq ?_
  refine c_region ?_
  refine l_l (light_fa rfl rfl) rfl rfl ?_
  refine l_x (x_load rfl rfl (at_own (by repeat (first | exact .head _ | refine .tail _ ?_ | refine List.mem_append_right _ ?_)) (by rfl))) rfl rfl ?_
  rintro _ _ ⟨rfl, rfl⟩
  refine l_l rfl rfl rfl ?_
  refine l_l rfl rfl rfl ?_
  refine l_nil ?_
  refine c_cond rfl (fun h1 => ?_) (fun h1 => ?_)
  · refine c_seq ?_
    refine c_region ?_
    refine l_l rfl rfl rfl ?_
    refine l_nil ?_
    refine c_ret ?_
    exact l_end0 (fun _ _ => rets_v rfl) ⟨rfl, congrArg _ (phgt_law hc (b := true) h1)⟩
  · refine c_skip ?_
    refine c_seq ?_
    refine c_region ?_
    refine l_l rfl rfl rfl ?_
    refine l_nil ?_
    refine c_ret ?_
    exact l_end0 (fun _ _ => rets_v rfl) ⟨rfl, congrArg _ (phgt_law hc (b := false) h1)⟩

theorem mod_fn (n by_ : Int) (hb : 0 < by_ ∧ by_ ≤ 65536) (w : World) :
    Does Try.prog 82 [.int .i64 n, .int .i64 by_] w [] (fun v H => H = [] ∧ v = .int .i64 (n % by_)) := by
  refine does_of Try.func82 rfl rfl rfl (St.refl w) ?_
  refine c_seq ?_
  refine c_region ?_
  refine l_l rfl rfl rfl ?_
  refine l_nil ?_
  refine c_seq ?_
  refine c_region ?_
  refine l_l rfl rfl rfl ?_
  refine l_l rfl rfl rfl ?_
  refine l_l (rem_pos rfl rfl (by omega)) rfl rfl ?_
  refine l_l rfl rfl rfl ?_
  refine l_l rfl rfl rfl ?_
  refine l_l rfl rfl rfl ?_
  refine l_l (rem_pos rfl rfl (by omega)) rfl rfl ?_
  refine l_l rfl rfl rfl ?_
  refine l_nil ?_
  refine c_ret ?_
  exact l_end0 (fun _ _ => rets_v rfl) ⟨rfl, congrArg _ (mod_law hb)⟩

theorem bit_fn (x n : Int) (hx : 0 ≤ x ∧ x < 256) (hn : 0 ≤ n ∧ n ≤ 65536) (w : World) :
    Does Try.prog 67 [.int .u8 x, .int .i64 n] w [] (fun v H => H = [] ∧ v = .int .i64 (rBit x n)) := by
  refine does_of Try.func67 rfl rfl rfl (St.refl w) ?_
  refine c_seq ?_
  refine c_region ?_
  refine l_l rfl rfl rfl ?_
  refine l_nil ?_
  refine c_seq ?_
  refine c_region ?_
  refine l_l rfl rfl rfl ?_
  refine l_l rfl rfl rfl ?_
  refine l_l rfl rfl rfl ?_
  refine l_nil ?_
  refine c_seq ?_
  refine c_seq ?_
  refine c_region ?_
  refine l_l rfl rfl rfl ?_
  refine l_nil ?_
  refine c_block ?_
  refine c_loop (σ := Nat) [5, 6, 9, 10, 11, 12, 13, 14, 15] (fun k => [(5, .int .i64 (x / 2 ^ k)), (6, .int .i64 k)]) (fun _ => []) (fun k => (k : Int) ≤ n) (fun k => (n - k).toNat) 0 ?_ ?_ ?_ ?_
  · show ((0 : Nat) : Int) ≤ n; omega
  · exact .cons (congrArg _ (bit0_law hx)) (.cons rfl .nil)
  · exact fun _ h => h.sub (List.nil_sublist _)
  · intro k y hk
    refine c_seq ?_
    refine c_seq ?_
    refine c_region ?_
    refine l_l rfl rfl rfl ?_
    refine l_l rfl rfl rfl ?_
    refine l_l rfl rfl rfl ?_
    refine l_nil ?_
    refine c_cond rfl (fun h1 => ?_) (fun h1 => ?_)
    · refine c_skip ?_
      refine c_seq ?_
      refine c_block ?_
      refine c_region ?_
      refine l_l rfl rfl rfl ?_
      refine l_l rfl rfl rfl ?_
      refine l_l rfl rfl rfl ?_
      refine l_nil ?_
      refine c_region ?_
      refine l_l rfl rfl rfl ?_
      refine l_l rfl rfl rfl ?_
      refine l_l rfl rfl rfl ?_
      refine l_nil ?_
      exact ⟨k + 1, by simp at *; omega, by simp at *; omega, .cons (congrArg _ (half_law hx k)) (.cons (congrArg _ (succ_law (by simp at *; omega))) .nil), (by repeat (first | exact Agree.refl _ _ | exact Agree.mix rfl | refine Agree.put rfl ?_ | refine Agree.keep rfl ?_)), fun _ h => h⟩
    · refine c_exit rfl ?_
      refine c_seq ?_
      refine c_region ?_
      refine l_l rfl rfl rfl ?_
      refine l_l rfl rfl rfl ?_
      refine l_l rfl rfl rfl ?_
      refine l_nil ?_
      refine c_ret ?_
      exact l_end0 (fun _ _ => rets_v rfl) ⟨rfl, congrArg _ (bit_law hx (by simp at *; omega))⟩

theorem rheight_fn (c b f s : Int) (hc : 0 ≤ c ∧ c < 256) (w : World) :
    Does Try.prog 79 [.agg #[.int .u8 c, .int .u8 b, .int .u8 f, .int .u8 s]] w [] (fun v H => H = [] ∧ v = .int .i64 (hgt c)) := by
  refine does_of Try.func79 rfl rfl rfl (St.refl w) ?_
  refine c_seq ?_
  refine c_region ?_
  refine l_x (x_box rfl rfl) rfl rfl ?_
  rintro _ _ ⟨b1, rfl, rfl⟩
  refine l_l rfl rfl rfl ?_
  refine l_nil ?_
  refine c_seq ?_
  refine c_seq ?_
  refine c_region ?_
  refine l_l (light_fa rfl rfl) rfl rfl ?_
  refine l_x (x_load rfl rfl (at_own (by repeat (first | exact .head _ | refine .tail _ ?_ | refine List.mem_append_right _ ?_)) (by rfl))) rfl rfl ?_
  rintro _ _ ⟨rfl, rfl⟩
  refine l_x (x_val call_67 rfl (fun w hw => bit_fn c 2 hc ⟨by decide, by decide⟩ w)) rfl rfl ?_
  rintro _ _ ⟨rfl, rfl⟩
  refine l_l rfl rfl rfl ?_
  refine l_nil ?_
  refine c_cond rfl (fun h1 => ?_) (fun h1 => ?_)
  · refine c_seq ?_
    refine c_region ?_
    refine l_l rfl rfl rfl ?_
    refine l_nil ?_
    refine c_ret ?_
    exact l_end0 (fun _ _ => rets_v rfl) ⟨rfl, by simp_all [hgt]⟩
  · refine c_skip ?_
    refine c_seq ?_
    refine c_region ?_
    refine l_l rfl rfl rfl ?_
    refine l_nil ?_
    refine c_ret ?_
    exact l_end0 (fun _ _ => rets_v rfl) ⟨rfl, by simp_all [hgt]⟩

theorem rat_fn (a : Option Addr) (cap : Nat) (l : List Int) (n : Int) (w : World) (hB : Ns w .u8 a l) :
    Does Try.prog 88 [.slice a l.length cap, .int .i64 n] w [] (fun v H => H = [] ∧ v = .int .u8 (vAt l n)) := by
  refine does_of Try.func88 rfl rfl rfl (St.refl w) ?_
  refine c_seq ?_
  refine c_region ?_
  refine l_l rfl rfl rfl ?_
  refine l_nil ?_
  refine c_seq ?_
  refine c_seq ?_
  refine c_region ?_
  refine l_l rfl rfl rfl ?_
  refine l_l rfl rfl rfl ?_
  refine l_b rfl rfl rfl (fun h1 => ?_) (fun h1 => ?_)
  · refine l_p rfl rfl ?_
    refine l_p rfl rfl ?_
    refine l_p rfl rfl ?_
    refine l_p rfl rfl ?_
    refine l_l rfl rfl rfl ?_
    refine l_l rfl rfl rfl ?_
    refine l_p rfl rfl ?_
    refine l_p rfl rfl ?_
    refine l_l rfl rfl rfl ?_
    refine l_nil ?_
    refine c_true rfl ?_
    refine c_seq ?_
    refine c_region ?_
    refine l_l rfl rfl rfl ?_
    refine l_nil ?_
    refine c_ret ?_
    exact l_end0 (fun _ _ => rets_v rfl) ⟨rfl, congrArg _ (at_none (by simp at *; omega))⟩
  · refine l_l rfl rfl rfl ?_
    refine l_l rfl rfl rfl ?_
    refine l_l (by first | exact light_len rfl rfl | exact light_lens rfl rfl | rfl) rfl rfl ?_
    refine l_l rfl rfl rfl ?_
    refine l_l rfl rfl rfl ?_
    refine l_b rfl rfl rfl (fun h2 => ?_) (fun h2 => ?_)
    · refine l_p rfl rfl ?_
      refine l_p rfl rfl ?_
      refine l_l rfl rfl rfl ?_
      refine l_nil ?_
      refine c_true rfl ?_
      refine c_seq ?_
      refine c_region ?_
      refine l_l rfl rfl rfl ?_
      refine l_nil ?_
      refine c_ret ?_
      exact l_end0 (fun _ _ => rets_v rfl) ⟨rfl, congrArg _ (at_none (by simp at *; omega))⟩
    · refine l_l rfl rfl rfl ?_
      refine l_l rfl rfl rfl ?_
      refine l_l rfl rfl rfl ?_
      refine l_nil ?_
      refine c_cond rfl (fun h3 => ?_) (fun h3 => ?_)
      · refine c_seq ?_
        refine c_region ?_
        refine l_l rfl rfl rfl ?_
        refine l_nil ?_
        refine c_ret ?_
        exact l_end0 (fun _ _ => rets_v rfl) ⟨rfl, congrArg _ (at_none (by simp at *; omega))⟩
      · refine c_skip ?_
        refine c_seq ?_
        obtain ⟨b, off, rfl, hr⟩ := hB.row (i := n.toNat) (by simp at *; omega)
        refine c_region ?_
        refine l_l rfl rfl rfl ?_
        refine l_l rfl rfl rfl ?_
        refine l_l (idx_slice1 n.toNat rfl rfl rfl (by simp at *; omega) (by simp at *; omega)) rfl rfl ?_
        refine l_x (x_load rfl rfl (at_old (hr.int (by simp at *; omega)) (by simp))) rfl rfl ?_
        rintro _ _ ⟨rfl, rfl⟩
        refine l_l rfl rfl rfl ?_
        refine l_nil ?_
        refine c_ret ?_
        exact l_end0 (fun _ _ => rets_v rfl) ⟨rfl, congrArg _ (at_some (by simp at *; omega))⟩

theorem at_fn (a : Option Addr) (cap : Nat) (l : List Int) (n : Int) (hn : 0 ≤ n) (w : World) (hB : Ns w .u8 a l) :
    Does Try.prog 83 [.slice a l.length cap, .int .i64 n] w [] (fun v H => H = [] ∧ v = .int .u8 (vAt l n)) := by
  refine does_of Try.func83 rfl rfl rfl (St.refl w) ?_
  refine c_seq ?_
  refine c_region ?_
  refine l_l rfl rfl rfl ?_
  refine l_nil ?_
  refine c_seq ?_
  refine c_seq ?_
  refine c_region ?_
  refine l_l rfl rfl rfl ?_
  refine l_l rfl rfl rfl ?_
  refine l_l (by first | exact light_len rfl rfl | exact light_lens rfl rfl | rfl) rfl rfl ?_
  refine l_l (light_min rfl rfl) rfl rfl ?_
  refine l_l rfl rfl rfl ?_
  refine l_nil ?_
  refine c_cond rfl (fun h1 => ?_) (fun h1 => ?_)
  · refine c_seq ?_
    refine c_region ?_
    refine l_l rfl rfl rfl ?_
    refine l_nil ?_
    refine c_ret ?_
    exact l_end0 (fun _ _ => rets_v rfl) ⟨rfl, congrArg _ (at_none (by simp at *; omega))⟩
  · refine c_skip ?_
    refine c_seq ?_
    obtain ⟨b, off, rfl, hr⟩ := hB.row (i := n.toNat) (by simp at *; omega)
    refine c_region ?_
    refine l_l rfl rfl rfl ?_
    refine l_l rfl rfl rfl ?_
    refine l_l (idx_slice1 n.toNat rfl rfl rfl (by simp at *; omega) (by simp at *; omega)) rfl rfl ?_
    refine l_x (x_load rfl rfl (at_old (hr.int (by simp at *; omega)) (by simp))) rfl rfl ?_
    rintro _ _ ⟨rfl, rfl⟩
    refine l_l rfl rfl rfl ?_
    refine l_nil ?_
    refine c_ret ?_
    exact l_end0 (fun _ _ => rets_v rfl) ⟨rfl, congrArg _ (at_some (by simp at *; omega))⟩

theorem rdot_fn (a : Option Addr) (cap : Nat) (l : List Int) (hl : Byts l) (tile x y : Int) (w : World) (hB : Ns w .u8 a l) :
    Does Try.prog 80 [.slice a l.length cap, .int .i64 tile, .int .i64 x, .int .i64 y] w [] (fun v H => H = [] ∧ v = .int .u8 (tDot l tile x y)) := by
  refine does_of Try.func80 rfl rfl rfl (St.refl w) ?_
  refine c_seq ?_
  refine c_region ?_
  refine l_l rfl rfl rfl ?_
  refine l_nil ?_
  refine c_seq ?_
  refine c_seq ?_
  refine c_region ?_
  refine l_l rfl rfl rfl ?_
  refine l_l rfl rfl rfl ?_
  refine l_b rfl rfl rfl (fun h1 => ?_) (fun h1 => ?_)
  · refine l_p rfl rfl ?_
    refine l_p rfl rfl ?_
    refine l_l rfl rfl rfl ?_
    refine l_nil ?_
    refine c_true rfl ?_
    refine c_seq ?_
    refine c_region ?_
    refine l_l rfl rfl rfl ?_
    refine l_nil ?_
    refine c_ret ?_
    exact l_end0 (fun _ _ => rets_v rfl) ⟨rfl, congrArg _ (dot_none (by simp at *; omega))⟩
  · refine l_l rfl rfl rfl ?_
    refine l_l rfl rfl rfl ?_
    refine l_l rfl rfl rfl ?_
    refine l_nil ?_
    refine c_cond rfl (fun h2 => ?_) (fun h2 => ?_)
    · refine c_seq ?_
      refine c_region ?_
      refine l_l rfl rfl rfl ?_
      refine l_nil ?_
      refine c_ret ?_
      exact l_end0 (fun _ _ => rets_v rfl) ⟨rfl, congrArg _ (dot_none (by simp at *; omega))⟩
    · refine c_skip ?_
      refine c_seq ?_
      refine c_region ?_
      refine l_l rfl rfl rfl ?_
      refine l_l rfl rfl rfl ?_
      refine l_l rfl rfl rfl ?_
      refine l_x (x_val call_82 rfl (fun w hw => mod_fn _ 8 ⟨by decide, by decide⟩ w)) rfl rfl ?_
      rintro _ _ ⟨rfl, rfl⟩
      refine l_l rfl rfl rfl ?_
      refine l_l rfl rfl rfl ?_
      refine l_l rfl rfl rfl ?_
      refine l_nil ?_
      refine c_seq ?_
      refine c_region ?_
      refine l_l rfl rfl rfl ?_
      refine l_x (x_val call_82 rfl (fun w hw => mod_fn _ 8 ⟨by decide, by decide⟩ w)) rfl rfl ?_
      rintro _ _ ⟨rfl, rfl⟩
      refine l_l rfl rfl rfl ?_
      refine l_l rfl rfl rfl ?_
      refine l_nil ?_
      refine c_seq ?_
      refine c_region ?_
      refine l_l rfl rfl rfl ?_
      refine l_l rfl rfl rfl ?_
      refine l_x (x_val call_88 rfl (fun w hw => rat_fn _ _ l _ w (hB.later0 hw))) rfl rfl ?_
      rintro _ _ ⟨rfl, rfl⟩
      refine l_l rfl rfl rfl ?_
      refine l_x (x_val call_67 rfl (fun w hw => bit_fn _ _ (vAt_byte hl _) (by rw [rn_law]; omega) w)) rfl rfl ?_
      rintro _ _ ⟨rfl, rfl⟩
      refine l_l rfl rfl rfl ?_
      refine l_l rfl rfl rfl ?_
      refine l_l rfl rfl rfl ?_
      refine l_x (x_val call_88 rfl (fun w hw => rat_fn _ _ l _ w (hB.later0 hw))) rfl rfl ?_
      rintro _ _ ⟨rfl, rfl⟩
      refine l_l rfl rfl rfl ?_
      refine l_x (x_val call_67 rfl (fun w hw => bit_fn _ _ (vAt_byte hl _) (by rw [rn_law]; omega) w)) rfl rfl ?_
      rintro _ _ ⟨rfl, rfl⟩
      refine l_l rfl rfl rfl ?_
      refine l_l rfl rfl rfl ?_
      refine l_l rfl rfl rfl ?_
      refine l_l rfl rfl rfl ?_
      refine l_nil ?_
      refine c_ret ?_
      exact l_end0 (fun _ _ => rets_v rfl) ⟨rfl, congrArg _ (rdot_law _ _ (by simp at *; omega))⟩

theorem dot_fn (a : Option Addr) (cap : Nat) (l : List Int) (hl : Byts l) (tile x y : Int) (w : World) (hB : Ns w .u8 a l) :
    Does Try.prog 84 [.slice a l.length cap, .int .i64 tile, .int .i64 x, .int .i64 y] w [] (fun v H => H = [] ∧ v = .int .u8 (tDot l tile x y)) := by
  refine does_of Try.func84 rfl rfl rfl (St.refl w) ?_
  refine c_seq ?_
  refine c_region ?_
  refine l_l rfl rfl rfl ?_
  refine l_nil ?_
  refine c_seq ?_
  refine c_seq ?_
  refine c_region ?_
  refine l_l rfl rfl rfl ?_
  refine l_l rfl rfl rfl ?_
  refine l_b rfl rfl rfl (fun h1 => ?_) (fun h1 => ?_)
  · refine l_p rfl rfl ?_
    refine l_p rfl rfl ?_
    refine l_l rfl rfl rfl ?_
    refine l_nil ?_
    refine c_true rfl ?_
    refine c_seq ?_
    refine c_region ?_
    refine l_l rfl rfl rfl ?_
    refine l_nil ?_
    refine c_ret ?_
    exact l_end0 (fun _ _ => rets_v rfl) ⟨rfl, congrArg _ (dot_none (by simp at *; omega))⟩
  · refine l_l rfl rfl rfl ?_
    refine l_l rfl rfl rfl ?_
    refine l_l rfl rfl rfl ?_
    refine l_nil ?_
    refine c_cond rfl (fun h2 => ?_) (fun h2 => ?_)
    · refine c_seq ?_
      refine c_region ?_
      refine l_l rfl rfl rfl ?_
      refine l_nil ?_
      refine c_ret ?_
      exact l_end0 (fun _ _ => rets_v rfl) ⟨rfl, congrArg _ (dot_none (by simp at *; omega))⟩
    · refine c_skip ?_
      refine c_seq ?_
      refine c_region ?_
      refine l_l rfl rfl rfl ?_
      refine l_l rfl rfl rfl ?_
      refine l_l rfl rfl rfl ?_
      refine l_l rfl rfl rfl ?_
      refine l_l rfl rfl rfl ?_
      refine l_l rfl rfl rfl ?_
      refine l_l rfl rfl rfl ?_
      refine l_nil ?_
      refine c_seq ?_
      refine c_region ?_
      refine l_l rfl rfl rfl ?_
      refine l_l rfl rfl rfl ?_
      refine l_l rfl rfl rfl ?_
      refine l_l rfl rfl rfl ?_
      refine l_nil ?_
      refine c_seq ?_
      refine c_draw _ [] (.step true 0 (.step true 1 (.step true 3 (.step true 6 (.step true 7 (.step true 8 (.step true 10 (.step false 2 (.step true 4 (.step true 5 (.step false 9 (.step true 11 (.step true 12 (.step true 13 (.step true 14 (.step true 15 .done)))))))))))))))) rfl (by kernel_rfl) (by kernel_rfl) (fun _ h => h) ?_
      refine d_light rfl rfl rfl rfl rfl ?_
      refine d_light rfl rfl rfl rfl rfl ?_
      refine d_light rfl rfl rfl rfl rfl ?_
      refine d_light rfl rfl rfl rfl rfl ?_
      refine d_light rfl rfl rfl rfl rfl ?_
      refine d_light rfl rfl rfl rfl rfl ?_
      refine d_light rfl rfl rfl rfl rfl ?_
      refine d_x rfl (x_val call_83 rfl (fun w hw => at_fn _ _ l _ (line_ok y (by simp at *; omega)) w (hB.later0 hw))) rfl rfl (by intro h; cases h) ?_
      rintro _ _ ⟨rfl, rfl⟩
      refine d_light rfl (shr_pos rfl rfl (n_ok x)) rfl rfl rfl ?_
      refine d_light rfl rfl rfl rfl rfl ?_
      refine d_x rfl (x_val call_83 rfl (fun w hw => at_fn _ _ l _ (line1_ok y (by simp at *; omega)) w (hB.later0 hw))) rfl rfl (by intro h; cases h) ?_
      rintro _ _ ⟨rfl, rfl⟩
      refine d_light rfl (shr_pos rfl rfl (n_ok x)) rfl rfl rfl ?_
      refine d_light rfl rfl rfl rfl rfl ?_
      refine d_light rfl (shl_pos rfl rfl (by decide)) rfl rfl rfl ?_
      refine d_light rfl rfl rfl rfl rfl ?_
      refine d_light rfl rfl rfl rfl rfl ?_
      refine d_nil ?_
      refine c_ret ?_
      exact l_end0 (fun _ _ => rets_v rfl) ⟨rfl, congrArg _ (pdot_law hl _ _ (by simp at *; omega))⟩

theorem shade_fn (p c : Int) (hp : 0 ≤ p ∧ p < 256) (hc : 0 ≤ c ∧ c < 256) (w : World) :
    Does Try.prog 78 [.int .u8 p, .int .u8 c] w [] (fun v H => H = [] ∧ v = .int .u8 (shd p c)) := by
  refine does_of Try.func78 rfl rfl rfl (St.refl w) ?_
  refine c_seq ?_
  refine c_region ?_
  refine l_l rfl rfl rfl ?_
  refine l_nil ?_
  refine c_seq ?_
  refine c_region ?_
  refine l_l rfl rfl rfl ?_
  refine l_l rfl rfl rfl ?_
  refine l_l rfl rfl rfl ?_
  refine l_l rfl rfl rfl ?_
  refine l_l rfl rfl rfl ?_
  refine l_l rfl rfl rfl ?_
  refine l_l rfl rfl rfl ?_
  refine l_nil ?_
  refine c_ret ?_
  exact l_end0 (fun _ _ => rets_v rfl) ⟨rfl, congrArg _ (pshd_law hp hc)⟩

theorem rshade_fn (p c : Int) (hp : 0 ≤ p ∧ p < 256) (hc : 0 ≤ c ∧ c < 256) (w : World) :
    Does Try.prog 65 [.int .u8 p, .int .u8 c] w [] (fun v H => H = [] ∧ v = .int .u8 (shd p c)) := by
  refine does_of Try.func65 rfl rfl rfl (St.refl w) ?_
  refine c_seq ?_
  refine c_region ?_
  refine l_l rfl rfl rfl ?_
  refine l_nil ?_
  refine c_seq ?_
  refine c_region ?_
  refine l_l rfl rfl rfl ?_
  refine l_l rfl rfl rfl ?_
  refine l_l rfl rfl rfl ?_
  refine l_l rfl rfl rfl ?_
  refine l_l rfl rfl rfl ?_
  refine l_nil ?_
  refine c_seq ?_
  refine c_region ?_
  refine l_l rfl rfl rfl ?_
  refine l_l rfl rfl rfl ?_
  refine l_x (x_val call_67 rfl (fun w hw => bit_fn _ _ hp (by have := rmod_ok c hc; have := rmod_ok2 c hc; omega) w)) rfl rfl ?_
  rintro _ _ ⟨rfl, rfl⟩
  refine l_l rfl rfl rfl ?_
  refine l_l rfl rfl rfl ?_
  refine l_l rfl rfl rfl ?_
  refine l_x (x_val call_67 rfl (fun w hw => bit_fn _ _ hp (by have := rmod_ok c hc; have := rmod_ok2 c hc; omega) w)) rfl rfl ?_
  rintro _ _ ⟨rfl, rfl⟩
  refine l_l rfl rfl rfl ?_
  refine l_l rfl rfl rfl ?_
  refine l_l rfl rfl rfl ?_
  refine l_l rfl rfl rfl ?_
  refine l_nil ?_
  refine c_ret ?_
  exact l_end0 (fun _ _ => rets_v rfl) ⟨rfl, congrArg _ (rshd_law hp hc)⟩

end Go.Proofs.Ytjceoaomkbabmaa
namespace Go.Proofs.Ytjceoaomkbabmaa
open Go Go.VV Go.Proofs
set_option linter.unusedSimpArgs false
set_option linter.unusedVariables false
set_option maxRecDepth 100000
theorem num_fn (v : Vw) (hv : v.Ok) (b : Int) (hb : 0 ≤ b ∧ b < 256) (w : World) :
    Does Try.prog 85 [.agg (cV v).toArray, .int .u8 b] w [] (fun v' H => H = [] ∧ v' = .int .i64 (tNum v.c b)) := by
  refine does_of Try.func85 rfl rfl rfl (St.refl w) ?_
  refine c_seq ?_
  refine c_region ?_
  refine l_x (x_box rfl rfl) rfl rfl ?_
  rintro _ _ ⟨b2, rfl, rfl⟩
  refine l_l rfl rfl rfl ?_
  refine l_nil ?_
  refine c_seq ?_
  refine c_seq ?_
  refine c_region ?_
  refine l_l (light_fa rfl rfl) rfl rfl ?_
  refine l_x (x_load rfl rfl (at_own (by repeat (first | exact .head _ | refine .tail _ ?_ | refine List.mem_append_right _ ?_)) (by rfl))) rfl rfl ?_
  rintro _ _ ⟨rfl, rfl⟩
  refine l_l rfl rfl rfl ?_
  refine l_l rfl rfl rfl ?_
  refine l_nil ?_
  refine c_cond rfl (fun h1 => ?_) (fun h1 => ?_)
  · refine c_seq ?_
    refine c_region ?_
    refine l_l rfl rfl rfl ?_
    refine l_l rfl rfl rfl ?_
    refine l_l rfl rfl rfl ?_
    refine l_nil ?_
    refine c_ret ?_
    exact l_end0 (fun _ _ => rets_v rfl) ⟨rfl, congrArg _ (num_yes hv.c hb h1)⟩
  · refine c_skip ?_
    refine c_seq ?_
    refine c_region ?_
    refine l_l rfl rfl rfl ?_
    refine l_l rfl rfl rfl ?_
    refine l_l rfl rfl rfl ?_
    refine l_l rfl rfl rfl ?_
    refine l_l rfl rfl rfl ?_
    refine l_nil ?_
    refine c_ret ?_
    exact l_end0 (fun _ _ => rets_v rfl) ⟨rfl, congrArg _ (num_no hv.c hb h1)⟩

theorem spot_fn (a : Option Addr) (cap : Nat) (l : List Int) (hl : Byts l)(v : Vw) (hv : v.Ok) (n bit px py : Int) (hbit : (band .u8 v.c bit != 0) = decide (rBit v.c n = 1)) (hpx : 0 ≤ px ∧ px < 256) (hpy : 0 ≤ py ∧ py < 256) (w : World) (hB : Ns w .u8 a l) :
    Does Try.prog 72 [.agg (cV v).toArray, .slice a l.length cap, .int .u8 bit, .int .u8 px, .int .u8 py] w [] (fun v' H => H = [] ∧ v' = .int .u8 (tSpot l v.c n px py)) := by
  obtain ⟨hvc, hvx, hvy, hwx, hwy⟩ := id hv
  refine does_of Try.func72 rfl rfl rfl (St.refl w) ?_
  refine c_seq ?_
  refine c_region ?_
  refine l_x (x_box rfl rfl) rfl rfl ?_
  rintro _ _ ⟨b5, rfl, rfl⟩
  refine l_l rfl rfl rfl ?_
  refine l_nil ?_
  refine c_seq ?_
  refine c_region ?_
  refine l_l rfl rfl rfl ?_
  refine l_nil ?_
  refine c_seq ?_
  refine c_seq ?_
  refine c_region ?_
  refine l_l (light_fa rfl rfl) rfl rfl ?_
  refine l_x (x_load rfl rfl (at_own (by repeat (first | exact .head _ | refine .tail _ ?_ | refine List.mem_append_right _ ?_)) (by rfl))) rfl rfl ?_
  rintro _ _ ⟨rfl, rfl⟩
  refine l_l rfl rfl rfl ?_
  refine l_l rfl rfl rfl ?_
  refine l_l rfl rfl rfl ?_
  refine l_nil ?_
  refine c_cond rfl (fun h1 => ?_) (fun h1 => ?_)
  · refine c_region ?_
    refine l_l rfl rfl rfl ?_
    refine l_nil ?_
    refine c_seq ?_
    refine c_region ?_
    refine l_l rfl rfl rfl ?_
    refine l_l rfl rfl rfl ?_
    refine l_l rfl rfl rfl ?_
    refine l_as (v := (.int .u8 (py / 8))) rfl rfl rfl (congrArg _ (u8_eighth hpy)) ?_
    refine l_as (v := (.int .i64 (py / 8))) rfl rfl rfl (congrArg _ (wrap_i64 (by omega) (by omega))) ?_
    refine l_as (v := (.int .i64 (32 * (py / 8)))) rfl rfl rfl (congrArg _ (wrap_i64 (by omega) (by omega))) ?_
    refine l_as (v := (.int .i64 (7168 + 32 * (py / 8)))) rfl rfl rfl (congrArg _ (wrap_i64 (by omega) (by omega))) ?_
    refine l_l rfl rfl rfl ?_
    refine l_as (v := (.int .u8 (px / 8))) rfl rfl rfl (congrArg _ (u8_eighth hpx)) ?_
    refine l_as (v := (.int .i64 (px / 8))) rfl rfl rfl (congrArg _ (wrap_i64 (by omega) (by omega))) ?_
    refine l_as (v := (.int .i64 (7168 + 32 * (py / 8) + px / 8))) rfl rfl rfl (congrArg _ (wrap_i64 (by omega) (by omega))) ?_
    refine l_x (x_val call_83 rfl (fun w hw => at_fn _ _ l _ (by omega) w (hB.later0 hw))) rfl rfl ?_
    rintro _ _ ⟨rfl, rfl⟩
    refine l_l rfl rfl rfl ?_
    refine l_nil ?_
    refine c_seq ?_
    refine c_region ?_
    refine l_l rfl rfl rfl ?_
    refine l_x (x_loadA rfl rfl rfl (by first | exact row_own (by repeat (first | exact .head _ | refine .tail _ ?_ | refine List.mem_append_right _ ?_)) | exact row_own_at (by repeat (first | exact .head _ | refine .tail _ ?_ | refine List.mem_append_right _ ?_)) _ 5 rfl)) rfl rfl ?_
    rintro _ _ ⟨rfl, rfl⟩
    refine l_l rfl rfl rfl ?_
    refine l_x (x_val call_85 rfl (fun w hw => num_fn v hv _ (vAt_byte hl _) w)) rfl rfl ?_
    rintro _ _ ⟨rfl, rfl⟩
    refine l_l rfl rfl rfl ?_
    refine l_as (v := (.int .i64 (px))) rfl rfl rfl (congrArg _ (wrap_i64 (by omega) (by omega))) ?_
    refine l_l rfl rfl rfl ?_
    refine l_as (v := (.int .i64 (py))) rfl rfl rfl (congrArg _ (wrap_i64 (by omega) (by omega))) ?_
    refine l_x (x_val call_84 rfl (fun w hw => dot_fn _ _ l hl _ _ _ w (hB.later0 hw))) rfl rfl ?_
    rintro _ _ ⟨rfl, rfl⟩
    refine l_l rfl rfl rfl ?_
    refine l_nil ?_
    refine c_ret ?_
    exact l_end0 (fun _ _ => rets_v rfl) ⟨rfl, congrArg _ (tSpot_yes (by have h9 := hbit.symm.trans h1; simpa using h9)).symm⟩
  · refine c_skip ?_
    refine c_seq ?_
    refine c_region ?_
    refine l_l rfl rfl rfl ?_
    refine l_l rfl rfl rfl ?_
    refine l_l rfl rfl rfl ?_
    refine l_as (v := (.int .u8 (py / 8))) rfl rfl rfl (congrArg _ (u8_eighth hpy)) ?_
    refine l_as (v := (.int .i64 (py / 8))) rfl rfl rfl (congrArg _ (wrap_i64 (by omega) (by omega))) ?_
    refine l_as (v := (.int .i64 (32 * (py / 8)))) rfl rfl rfl (congrArg _ (wrap_i64 (by omega) (by omega))) ?_
    refine l_as (v := (.int .i64 (6144 + 32 * (py / 8)))) rfl rfl rfl (congrArg _ (wrap_i64 (by omega) (by omega))) ?_
    refine l_l rfl rfl rfl ?_
    refine l_as (v := (.int .u8 (px / 8))) rfl rfl rfl (congrArg _ (u8_eighth hpx)) ?_
    refine l_as (v := (.int .i64 (px / 8))) rfl rfl rfl (congrArg _ (wrap_i64 (by omega) (by omega))) ?_
    refine l_as (v := (.int .i64 (6144 + 32 * (py / 8) + px / 8))) rfl rfl rfl (congrArg _ (wrap_i64 (by omega) (by omega))) ?_
    refine l_x (x_val call_83 rfl (fun w hw => at_fn _ _ l _ (by omega) w (hB.later0 hw))) rfl rfl ?_
    rintro _ _ ⟨rfl, rfl⟩
    refine l_l rfl rfl rfl ?_
    refine l_nil ?_
    refine c_seq ?_
    refine c_region ?_
    refine l_l rfl rfl rfl ?_
    refine l_x (x_loadA rfl rfl rfl (by first | exact row_own (by repeat (first | exact .head _ | refine .tail _ ?_ | refine List.mem_append_right _ ?_)) | exact row_own_at (by repeat (first | exact .head _ | refine .tail _ ?_ | refine List.mem_append_right _ ?_)) _ 5 rfl)) rfl rfl ?_
    rintro _ _ ⟨rfl, rfl⟩
    refine l_l rfl rfl rfl ?_
    refine l_x (x_val call_85 rfl (fun w hw => num_fn v hv _ (vAt_byte hl _) w)) rfl rfl ?_
    rintro _ _ ⟨rfl, rfl⟩
    refine l_l rfl rfl rfl ?_
    refine l_as (v := (.int .i64 (px))) rfl rfl rfl (congrArg _ (wrap_i64 (by omega) (by omega))) ?_
    refine l_l rfl rfl rfl ?_
    refine l_as (v := (.int .i64 (py))) rfl rfl rfl (congrArg _ (wrap_i64 (by omega) (by omega))) ?_
    refine l_x (x_val call_84 rfl (fun w hw => dot_fn _ _ l hl _ _ _ w (hB.later0 hw))) rfl rfl ?_
    rintro _ _ ⟨rfl, rfl⟩
    refine l_l rfl rfl rfl ?_
    refine l_nil ?_
    refine c_ret ?_
    exact l_end0 (fun _ _ => rets_v rfl) ⟨rfl, congrArg _ (tSpot_no (by have h9 := hbit.symm.trans h1; simpa using h9)).symm⟩

theorem win_fn (a : Option Addr) (cap : Nat) (l : List Int) (hl : Byts l)(v : Vw) (hv : v.Ok)(x y : Int) (w : World) (hB : Ns w .u8 a l) :
    Does Try.prog 56 [.agg (cV v).toArray, .slice a l.length cap, .int .i64 x, .int .i64 y] w [] (fun v' H => H = [] ∧ v' = .int .u8 (tWin l v x y)) := by
  refine does_of Try.func56 rfl rfl rfl (St.refl w) ?_
  refine c_seq ?_
  refine c_region ?_
  refine l_x (x_box rfl rfl) rfl rfl ?_
  rintro _ _ ⟨b4, rfl, rfl⟩
  refine l_l rfl rfl rfl ?_
  refine l_nil ?_
  refine c_seq ?_
  refine c_region ?_
  refine l_x (x_loadA rfl rfl rfl (by first | exact row_own (by repeat (first | exact .head _ | refine .tail _ ?_ | refine List.mem_append_right _ ?_)) | exact row_own_at (by repeat (first | exact .head _ | refine .tail _ ?_ | refine List.mem_append_right _ ?_)) _ 5 rfl)) rfl rfl ?_
  rintro _ _ ⟨rfl, rfl⟩
  refine l_l rfl rfl rfl ?_
  refine l_l rfl rfl rfl ?_
  refine l_as (v := (.int .u8 (x % 256))) rfl rfl rfl (congrArg _ (wrap_u8 _)) ?_
  refine l_l rfl rfl rfl ?_
  refine l_as (v := (.int .u8 (y % 256))) rfl rfl rfl (congrArg _ (wrap_u8 _)) ?_
  refine l_x (x_val call_72 rfl (fun w hw => spot_fn _ _ l hl v hv 6 64 _ _ (bitOf6 hv.c) (mod256 _) (mod256 _) w (hB.later0 hw))) rfl rfl ?_
  rintro _ _ ⟨rfl, rfl⟩
  refine l_l rfl rfl rfl ?_
  refine l_nil ?_
  refine c_ret ?_
  exact l_end0 (fun _ _ => rets_v rfl) ⟨rfl, rfl⟩

theorem back_fn (a : Option Addr) (cap : Nat) (l : List Int) (hl : Byts l)(v : Vw) (hv : v.Ok)(x y : Int) (w : World) (hB : Ns w .u8 a l) :
    Does Try.prog 57 [.agg (cV v).toArray, .slice a l.length cap, .int .i64 x, .int .i64 y] w [] (fun v' H => H = [] ∧ v' = .int .u8 (tBack l v x y)) := by
  refine does_of Try.func57 rfl rfl rfl (St.refl w) ?_
  refine c_seq ?_
  refine c_region ?_
  refine l_x (x_box rfl rfl) rfl rfl ?_
  rintro _ _ ⟨b4, rfl, rfl⟩
  refine l_l rfl rfl rfl ?_
  refine l_nil ?_
  refine c_seq ?_
  refine c_region ?_
  refine l_x (x_loadA rfl rfl rfl (by first | exact row_own (by repeat (first | exact .head _ | refine .tail _ ?_ | refine List.mem_append_right _ ?_)) | exact row_own_at (by repeat (first | exact .head _ | refine .tail _ ?_ | refine List.mem_append_right _ ?_)) _ 5 rfl)) rfl rfl ?_
  rintro _ _ ⟨rfl, rfl⟩
  refine l_l rfl rfl rfl ?_
  refine l_l rfl rfl rfl ?_
  refine l_as (v := (.int .u8 (x % 256))) rfl rfl rfl (congrArg _ (wrap_u8 _)) ?_
  refine l_l (light_fa rfl rfl) rfl rfl ?_
  refine l_x (x_load rfl rfl (at_own (by repeat (first | exact .head _ | refine .tail _ ?_ | refine List.mem_append_right _ ?_)) (by rfl))) rfl rfl ?_
  rintro _ _ ⟨rfl, rfl⟩
  refine l_as (v := (.int .u8 ((x + v.sx) % 256))) rfl rfl rfl (congrArg _ (by rw [wrap_u8]; omega)) ?_
  refine l_l rfl rfl rfl ?_
  refine l_as (v := (.int .u8 (y % 256))) rfl rfl rfl (congrArg _ (wrap_u8 _)) ?_
  refine l_l (light_fa rfl rfl) rfl rfl ?_
  refine l_x (x_load rfl rfl (at_own (by repeat (first | exact .head _ | refine .tail _ ?_ | refine List.mem_append_right _ ?_)) (by rfl))) rfl rfl ?_
  rintro _ _ ⟨rfl, rfl⟩
  refine l_as (v := (.int .u8 ((y + v.sy) % 256))) rfl rfl rfl (congrArg _ (by rw [wrap_u8]; omega)) ?_
  refine l_x (x_val call_72 rfl (fun w hw => spot_fn _ _ l hl v hv 3 8 _ _ (bitOf3 hv.c) (mod256 _) (mod256 _) w (hB.later0 hw))) rfl rfl ?_
  rintro _ _ ⟨rfl, rfl⟩
  refine l_l rfl rfl rfl ?_
  refine l_nil ?_
  refine c_ret ?_
  exact l_end0 (fun _ _ => rets_v rfl) ⟨rfl, rfl⟩

theorem tline_fn (a : Option Addr) (cap : Nat) (l : List Int) (hl : Byts l)(v : Vw) (hv : v.Ok) (line own : Int) (w : World) (hB : Ns w .u8 a l) :
    Does Try.prog 46 [.agg (cV v).toArray, .slice a l.length cap, .int .i64 line, .int .i64 own] w [] (fun v' H => H = [] ∧ v' = .tuple #[.agg ((tLine l v line own).map (.int .u8)).toArray, .bool (tSeen v line)]) := by
  obtain ⟨hvc, hvx, hvy, hwx, hwy⟩ := id hv
  refine does_of Try.func46 rfl rfl rfl (St.refl w) ?_
  refine c_seq ?_
  refine c_region ?_
  refine l_x (x_box rfl rfl) rfl rfl ?_
  rintro _ _ ⟨b4, rfl, rfl⟩
  refine l_x (x_alloc (l := List.replicate 160 (.int .u8 0)) (by kernel_rfl)) rfl rfl ?_
  rintro _ _ ⟨b8, rfl, rfl⟩
  refine l_l rfl rfl rfl ?_
  refine l_nil ?_
  refine c_seq ?_
  refine c_region ?_
  refine l_x (x_alloc (l := List.replicate 160 (.int .u8 0)) (by kernel_rfl)) rfl rfl ?_
  rintro _ _ ⟨b10, rfl, rfl⟩
  refine l_nil ?_
  refine c_seq ?_
  refine c_seq ?_
  refine c_region ?_
  refine l_l (light_fa rfl rfl) rfl rfl ?_
  refine l_x (x_load rfl rfl (at_own (by repeat (first | exact .head _ | refine .tail _ ?_ | refine List.mem_append_right _ ?_)) (by rfl))) rfl rfl ?_
  rintro _ _ ⟨rfl, rfl⟩
  refine l_l rfl rfl rfl ?_
  refine l_l rfl rfl rfl ?_
  refine l_nil ?_
  refine c_cond rfl (fun h1 => ?_) (fun h1 => ?_)
  · refine c_seq ?_
    refine c_region ?_
    refine l_x (x_loadA rfl rfl rfl (row_own (.head _))) rfl rfl ?_
    rintro _ _ ⟨rfl, rfl⟩
    refine l_x (x_store (vs := List.replicate 160 (.int .u8 0)) (l := List.replicate 160 (.int .u8 0)) 1 rfl rfl rfl (by kernel_rfl) (by kernel_rfl) rfl (by simp)) rfl rfl ?_
    rintro _ _ ⟨rfl, rfl⟩
    refine l_l rfl rfl rfl ?_
    refine l_nil ?_
    refine c_ret ?_
    exact l_end0 (fun w hw => rets_cell2 (l := List.replicate 160 (.int .u8 0)) rfl rfl (by kernel_rfl) (row_own (.tail _ (.head _)) w hw) rfl) ⟨rfl, by rw [tLine_off (bit0_off hv.c h1), tSeen_off (bit0_off hv.c h1), List.map_replicate]⟩
  · refine c_skip ?_
    refine c_keep [11, 19, 20, 21, 22, 23, 24, 25, 26, 27, 28, 29, 30, 31, 32, 33, 34] [(11, .bool (tSeen v line))] ?_ (fun y4 => ?_)
    · refine c_region ?_
      refine l_l (light_fa rfl rfl) rfl rfl ?_
      refine l_x (x_load rfl rfl (at_own (by repeat (first | exact .head _ | refine .tail _ ?_ | refine List.mem_append_right _ ?_)) (by rfl))) rfl rfl ?_
      rintro _ _ ⟨rfl, rfl⟩
      refine l_l rfl rfl rfl ?_
      refine l_l rfl rfl rfl ?_
      refine l_b rfl rfl rfl (fun h2 => ?_) (fun h2 => ?_)
      · refine l_l (light_fa rfl rfl) rfl rfl ?_
        refine l_x (x_load rfl rfl (at_own (by repeat (first | exact .head _ | refine .tail _ ?_ | refine List.mem_append_right _ ?_)) (by rfl))) rfl rfl ?_
        rintro _ _ ⟨rfl, rfl⟩
        refine l_as (v := (.int .i64 (v.wy))) rfl rfl rfl (congrArg _ (wrap_i64 (by omega) (by omega))) ?_
        refine l_l rfl rfl rfl ?_
        refine l_l rfl rfl rfl ?_
        refine l_l rfl rfl rfl ?_
        refine l_b rfl rfl rfl (fun h3 => ?_) (fun h3 => ?_)
        · refine l_l (light_fa rfl rfl) rfl rfl ?_
          refine l_x (x_load rfl rfl (at_own (by repeat (first | exact .head _ | refine .tail _ ?_ | refine List.mem_append_right _ ?_)) (by rfl))) rfl rfl ?_
          rintro _ _ ⟨rfl, rfl⟩
          refine l_l rfl rfl rfl ?_
          refine l_l rfl rfl rfl ?_
          refine l_l rfl rfl rfl ?_
          refine l_nil ?_
          exact ⟨.cons (congrArg _ (seen_c hv h1 h2 h3)) .nil, (by repeat (first | exact Agree.refl _ _ | exact Agree.mix rfl | refine Agree.put rfl ?_ | refine Agree.keep rfl ?_)), fun _ h => h⟩
        · refine l_p rfl rfl ?_
          refine l_p rfl rfl ?_
          refine l_p rfl rfl ?_
          refine l_l rfl rfl rfl ?_
          refine l_l rfl rfl rfl ?_
          refine l_nil ?_
          exact ⟨.cons (congrArg _ (seen_b h3)) .nil, (by repeat (first | exact Agree.refl _ _ | exact Agree.mix rfl | refine Agree.put rfl ?_ | refine Agree.keep rfl ?_)), fun _ h => h⟩
      · refine l_p rfl rfl ?_
        refine l_p rfl rfl ?_
        refine l_p rfl rfl ?_
        refine l_p rfl rfl ?_
        refine l_p rfl rfl ?_
        refine l_l rfl rfl rfl ?_
        refine l_l rfl rfl rfl ?_
        refine l_p rfl rfl ?_
        refine l_p rfl rfl ?_
        refine l_p rfl rfl ?_
        refine l_l rfl rfl rfl ?_
        refine l_l rfl rfl rfl ?_
        refine l_nil ?_
        exact ⟨.cons (congrArg _ (seen_a hv h2)) .nil, (by repeat (first | exact Agree.refl _ _ | exact Agree.mix rfl | refine Agree.put rfl ?_ | refine Agree.keep rfl ?_)), fun _ h => h⟩
    · refine c_seq ?_
      refine c_seq ?_
      have h1on := bit0_on hv.c h1
      refine c_region ?_
      refine l_l rfl rfl rfl ?_
      refine l_nil ?_
      refine c_block ?_
      refine c_loop (σ := Nat) [12, 13, 35, 36, 37, 38, 39, 40, 41, 42, 43, 44, 45, 46, 47, 48, 49, 50, 51, 52, 53, 54, 55, 56, 57, 58, 59, 60, 61, 62, 63] (fun k => [(35, .int .i64 k)]) (fun k => [(b10, blk (upTo .u8 (tPix l v line own) 160 k) 43), (b8, blk (List.replicate 160 (.int .u8 0)) 43), (b4, blk (cV v) 72)]) (fun k => k ≤ 160) (fun k => 160 - k) 0 ?_ ?_ ?_ ?_
      · show 0 ≤ 160; omega
      · exact .cons rfl .nil
      · exact fun w h => by rw [← upTo_zero]; exact h
      · intro k y hk
        refine c_seq ?_
        refine c_region ?_
        refine l_l rfl rfl rfl ?_
        refine l_nil ?_
        refine c_seq ?_
        refine c_cond rfl (fun h4 => ?_) (fun h4 => ?_)
        · refine c_skip ?_
          refine c_seq ?_
          refine c_block ?_
          refine c_seq ?_
          refine c_region ?_
          refine l_l rfl rfl rfl ?_
          refine l_l rfl rfl rfl ?_
          refine l_nil ?_
          refine c_seq ?_
          refine c_region ?_
          refine l_l rfl rfl rfl ?_
          refine l_as (v := (.int .i64 ((k : Int) + 7))) rfl rfl rfl (congrArg _ (wrap_i64 (by omega) (by omega))) ?_
          refine l_l (light_fa rfl rfl) rfl rfl ?_
          refine l_x (x_load rfl rfl (at_own (by repeat (first | exact .head _ | refine .tail _ ?_ | refine List.mem_append_right _ ?_)) (by rfl))) rfl rfl ?_
          rintro _ _ ⟨rfl, rfl⟩
          refine l_as (v := (.int .i64 (v.wx))) rfl rfl rfl (congrArg _ (wrap_i64 (by omega) (by omega))) ?_
          refine l_as (v := (.int .i64 ((k : Int) + 7 - v.wx))) rfl rfl rfl (congrArg _ (wrap_i64 (by omega) (by omega))) ?_
          refine l_l rfl rfl rfl ?_
          refine l_nil ?_
          refine c_seq ?_
          refine c_seq ?_
          refine c_region ?_
          refine l_l rfl rfl rfl ?_
          refine l_b rfl rfl rfl (fun h5 => ?_) (fun h5 => ?_)
          · refine l_l rfl rfl rfl ?_
            refine l_l rfl rfl rfl ?_
            refine l_l rfl rfl rfl ?_
            refine l_nil ?_
            refine c_cond rfl (fun h6 => ?_) (fun h6 => ?_)
            · refine c_seq ?_
              refine c_region ?_
              refine l_l rfl rfl rfl ?_
              refine l_x (x_loadA rfl rfl rfl (by first | exact row_own (by repeat (first | exact .head _ | refine .tail _ ?_ | refine List.mem_append_right _ ?_)) | exact row_own_at (by repeat (first | exact .head _ | refine .tail _ ?_ | refine List.mem_append_right _ ?_)) _ 5 rfl)) rfl rfl ?_
              rintro _ _ ⟨rfl, rfl⟩
              refine l_l rfl rfl rfl ?_
              refine l_l rfl rfl rfl ?_
              refine l_l rfl rfl rfl ?_
              refine l_x (x_val call_56 rfl (fun w hw => win_fn _ _ l hl v hv _ _ w (hB.later0 hw))) rfl rfl ?_
              rintro _ _ ⟨rfl, rfl⟩
              refine l_l (idx_array0 k rfl rfl rfl rfl (by (try simp only [decide_eq_true_eq, decide_eq_false_iff_not, beq_iff_eq, beq_eq_false_iff_ne, bne_iff_ne, bne_eq_false_iff_eq, ne_eq] at *); omega)) rfl rfl ?_
              refine l_x (x_store 0 rfl rfl rfl rfl rfl rfl (by rw [upTo_len (by (try simp only [decide_eq_true_eq, decide_eq_false_iff_not, beq_iff_eq, beq_eq_false_iff_ne, bne_iff_ne, bne_eq_false_iff_eq, ne_eq] at *); omega)]; simp only [List.length_cons, List.length_nil]; (try simp only [decide_eq_true_eq, decide_eq_false_iff_not, beq_iff_eq, beq_eq_false_iff_ne, bne_iff_ne, bne_eq_false_iff_eq, ne_eq] at *); omega)) rfl rfl ?_
              rintro _ _ ⟨rfl, rfl⟩
              rw [List.set_cons_zero, upTo_put (f := tPix l v line own) (by (try simp only [decide_eq_true_eq, decide_eq_false_iff_not, beq_iff_eq, beq_eq_false_iff_ne, bne_iff_ne, bne_eq_false_iff_eq, ne_eq] at *); omega) _ (pix_win h1on (by simpa using h5) (by simpa using h6))]
              refine l_nil ?_
              refine c_exit rfl ?_
              refine c_region ?_
              refine l_as (v := (.int .i64 ((k + 1 : Nat) : Int))) rfl rfl rfl (congrArg _ (succ_law (by omega))) ?_
              refine l_l rfl rfl rfl ?_
              refine l_nil ?_
              exact ⟨k + 1, by (try simp only [decide_eq_true_eq, decide_eq_false_iff_not, beq_iff_eq, beq_eq_false_iff_ne, bne_iff_ne, bne_eq_false_iff_eq, ne_eq] at *); omega, by (try simp only [decide_eq_true_eq, decide_eq_false_iff_not, beq_iff_eq, beq_eq_false_iff_ne, bne_iff_ne, bne_eq_false_iff_eq, ne_eq] at *); omega, .cons rfl .nil, (by repeat (first | exact Agree.refl _ _ | exact Agree.mix rfl | refine Agree.put rfl ?_ | refine Agree.keep rfl ?_)), fun _ h => h⟩
            · refine c_skip ?_
              refine c_region ?_
              refine l_l rfl rfl rfl ?_
              refine l_x (x_loadA rfl rfl rfl (by first | exact row_own (by repeat (first | exact .head _ | refine .tail _ ?_ | refine List.mem_append_right _ ?_)) | exact row_own_at (by repeat (first | exact .head _ | refine .tail _ ?_ | refine List.mem_append_right _ ?_)) _ 5 rfl)) rfl rfl ?_
              rintro _ _ ⟨rfl, rfl⟩
              refine l_l rfl rfl rfl ?_
              refine l_l rfl rfl rfl ?_
              refine l_l rfl rfl rfl ?_
              refine l_x (x_val call_57 rfl (fun w hw => back_fn _ _ l hl v hv _ _ w (hB.later0 hw))) rfl rfl ?_
              rintro _ _ ⟨rfl, rfl⟩
              refine l_l (idx_array0 k rfl rfl rfl rfl (by (try simp only [decide_eq_true_eq, decide_eq_false_iff_not, beq_iff_eq, beq_eq_false_iff_ne, bne_iff_ne, bne_eq_false_iff_eq, ne_eq] at *); omega)) rfl rfl ?_
              refine l_x (x_store 0 rfl rfl rfl rfl rfl rfl (by rw [upTo_len (by (try simp only [decide_eq_true_eq, decide_eq_false_iff_not, beq_iff_eq, beq_eq_false_iff_ne, bne_iff_ne, bne_eq_false_iff_eq, ne_eq] at *); omega)]; simp only [List.length_cons, List.length_nil]; (try simp only [decide_eq_true_eq, decide_eq_false_iff_not, beq_iff_eq, beq_eq_false_iff_ne, bne_iff_ne, bne_eq_false_iff_eq, ne_eq] at *); omega)) rfl rfl ?_
              rintro _ _ ⟨rfl, rfl⟩
              rw [List.set_cons_zero, upTo_put (f := tPix l v line own) (by (try simp only [decide_eq_true_eq, decide_eq_false_iff_not, beq_iff_eq, beq_eq_false_iff_ne, bne_iff_ne, bne_eq_false_iff_eq, ne_eq] at *); omega) _ (pix_back h1on (by intro h0; have h1 := h0.2; simp at h6; omega))]
              refine l_nil ?_
              refine c_region ?_
              refine l_as (v := (.int .i64 ((k + 1 : Nat) : Int))) rfl rfl rfl (congrArg _ (succ_law (by omega))) ?_
              refine l_l rfl rfl rfl ?_
              refine l_nil ?_
              exact ⟨k + 1, by (try simp only [decide_eq_true_eq, decide_eq_false_iff_not, beq_iff_eq, beq_eq_false_iff_ne, bne_iff_ne, bne_eq_false_iff_eq, ne_eq] at *); omega, by (try simp only [decide_eq_true_eq, decide_eq_false_iff_not, beq_iff_eq, beq_eq_false_iff_ne, bne_iff_ne, bne_eq_false_iff_eq, ne_eq] at *); omega, .cons rfl .nil, (by repeat (first | exact Agree.refl _ _ | exact Agree.mix rfl | refine Agree.put rfl ?_ | refine Agree.keep rfl ?_)), fun _ h => h⟩
          · refine l_p rfl rfl ?_
            refine l_p rfl rfl ?_
            refine l_l rfl rfl rfl ?_
            refine l_nil ?_
            refine c_false rfl ?_
            refine c_skip ?_
            refine c_region ?_
            refine l_l rfl rfl rfl ?_
            refine l_x (x_loadA rfl rfl rfl (by first | exact row_own (by repeat (first | exact .head _ | refine .tail _ ?_ | refine List.mem_append_right _ ?_)) | exact row_own_at (by repeat (first | exact .head _ | refine .tail _ ?_ | refine List.mem_append_right _ ?_)) _ 5 rfl)) rfl rfl ?_
            rintro _ _ ⟨rfl, rfl⟩
            refine l_l rfl rfl rfl ?_
            refine l_l rfl rfl rfl ?_
            refine l_l rfl rfl rfl ?_
            refine l_x (x_val call_57 rfl (fun w hw => back_fn _ _ l hl v hv _ _ w (hB.later0 hw))) rfl rfl ?_
            rintro _ _ ⟨rfl, rfl⟩
            refine l_l (idx_array0 k rfl rfl rfl rfl (by (try simp only [decide_eq_true_eq, decide_eq_false_iff_not, beq_iff_eq, beq_eq_false_iff_ne, bne_iff_ne, bne_eq_false_iff_eq, ne_eq] at *); omega)) rfl rfl ?_
            refine l_x (x_store 0 rfl rfl rfl rfl rfl rfl (by rw [upTo_len (by (try simp only [decide_eq_true_eq, decide_eq_false_iff_not, beq_iff_eq, beq_eq_false_iff_ne, bne_iff_ne, bne_eq_false_iff_eq, ne_eq] at *); omega)]; simp only [List.length_cons, List.length_nil]; (try simp only [decide_eq_true_eq, decide_eq_false_iff_not, beq_iff_eq, beq_eq_false_iff_ne, bne_iff_ne, bne_eq_false_iff_eq, ne_eq] at *); omega)) rfl rfl ?_
            rintro _ _ ⟨rfl, rfl⟩
            rw [List.set_cons_zero, upTo_put (f := tPix l v line own) (by (try simp only [decide_eq_true_eq, decide_eq_false_iff_not, beq_iff_eq, beq_eq_false_iff_ne, bne_iff_ne, bne_eq_false_iff_eq, ne_eq] at *); omega) _ (pix_back h1on (by intro h0; rw [h0.1] at h5; cases h5))]
            refine l_nil ?_
            refine c_region ?_
            refine l_as (v := (.int .i64 ((k + 1 : Nat) : Int))) rfl rfl rfl (congrArg _ (succ_law (by omega))) ?_
            refine l_l rfl rfl rfl ?_
            refine l_nil ?_
            exact ⟨k + 1, by (try simp only [decide_eq_true_eq, decide_eq_false_iff_not, beq_iff_eq, beq_eq_false_iff_ne, bne_iff_ne, bne_eq_false_iff_eq, ne_eq] at *); omega, by (try simp only [decide_eq_true_eq, decide_eq_false_iff_not, beq_iff_eq, beq_eq_false_iff_ne, bne_iff_ne, bne_eq_false_iff_eq, ne_eq] at *); omega, .cons rfl .nil, (by repeat (first | exact Agree.refl _ _ | exact Agree.mix rfl | refine Agree.put rfl ?_ | refine Agree.keep rfl ?_)), fun _ h => h⟩
        · refine c_exit rfl ?_
          refine c_seq ?_
          obtain rfl : k = 160 := by (try simp only [decide_eq_true_eq, decide_eq_false_iff_not, beq_iff_eq, beq_eq_false_iff_ne, bne_iff_ne, bne_eq_false_iff_eq, ne_eq] at *); omega
          refine c_region ?_
          refine l_x (x_loadA rfl rfl (by rw [upTo_len (Nat.le_refl _)]; rfl) (row_own (.head _))) rfl rfl ?_
          rintro _ _ ⟨rfl, rfl⟩
          refine l_l rfl rfl rfl ?_
          refine l_x (x_store (vs := (upTo .u8 (tPix l v line own) 160 160)) (l := List.replicate 160 (.int .u8 0)) 1 rfl rfl rfl (by rw [upTo_len (Nat.le_refl _)]; rfl) (upTo_ones _ _ _ _) rfl (by rw [upTo_len (Nat.le_refl _)]; simp)) rfl rfl ?_
          rintro _ _ ⟨rfl, rfl⟩
          rw [putL_all (by rw [upTo_len (Nat.le_refl _)]; simp)]
          refine l_l rfl rfl rfl ?_
          refine l_nil ?_
          refine c_ret ?_
          exact l_end0 (fun w hw => rets_cell2 (l := (upTo .u8 (tPix l v line own) 160 160)) rfl rfl (by rw [upTo_len (Nat.le_refl _)]; rfl) (row_own (.tail _ (.head _)) w hw) rfl) ⟨rfl, by rw [tLine_vals]⟩

end Go.Proofs.Ytjceoaomkbabmaa
