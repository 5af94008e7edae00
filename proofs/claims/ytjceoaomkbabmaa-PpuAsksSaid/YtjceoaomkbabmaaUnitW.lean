/- The unit that makes the picture: reading and writing. Plain definitions and laws, no program. -/
import Derived.Test.YtjceoaomkbabmaaUnit
namespace Go.Proofs.Ytjceoaomkbabmaa
open Go Go.VV

theorem get0 {w : World} {b j : Nat} {l : List Value} {v : Value} (h : Row w b 0 l) (hv : l[j]? = some v) : w.cell? ⟨b, j, none⟩ = some v := by
  simpa using h j v hv
def statU (u : PU) : Int := bor .u8 (bor .u8 128 (u.r 1)) (modeU u)
def peekU (u : PU) (a : Int) : Int :=
  if 32768 ≤ a ∧ a < 40960 then u.V.getD (a - 32768).toNat 0 else if 65024 ≤ a ∧ a < 65184 then u.O.getD (a - 65024).toNat 0
  else if numU a = -1 then 255 else if numU a = 4 then u.line % 256 else if numU a = 1 then (if foundU u = true then bor .u8 (statU u) 4 else statU u) else u.r (numU a).toNat
def readU (u : PU) (a : Int) : Int :=
  if (32768 ≤ a ∧ a < 40960 ∧ 3 ≤ modeU u) ∨ (65024 ≤ a ∧ a < 65184 ∧ 2 ≤ modeU u) then 255 else peekU u a
/-- A byte from ff40 on is set. -/
def setU (u : PU) (n : Int) (x : Int) : PU := if n = 1 then { u with R := u.R.set 1 (band .u8 x 120) } else if n = 4 then u else { u with R := u.R.set n.toNat x }
def offU (was : Bool) (u : PU) : PU := if was = true ∧ litU u = false then { u with line := 0, dot := 0, own := 0 } else u
def putU (u : PU) (n : Int) (x : Int) : PU := offU (litU u) (setU u n x)
def writeU (u : PU) (a x : Int) : PU :=
  if 32768 ≤ a ∧ a < 40960 then (if modeU u < 3 then { u with V := u.V.set (a - 32768).toNat x } else u)
  else if 65024 ≤ a ∧ a < 65184 then (if modeU u < 2 then { u with O := u.O.set (a - 65024).toNat x } else u)
  else if numU a = -1 then u else askU (putU u (numU a) x)
def writeV (u : PU) (a x : Int) : Int :=
  if 32768 ≤ a ∧ a < 40960 then 0 else if 65024 ≤ a ∧ a < 65184 then 0 else if numU a = -1 then 0 else askV (putU u (numU a) x)
def spriteU (u : PU) (n x : Int) : PU := if 0 ≤ n ∧ n < 160 then { u with O := u.O.set n.toNat x } else u
theorem vOk (a : Int) {j : Nat} (h : a = 32768 + j) : (a - 32768).toNat = j := by omega
section
variable {u : PU} {x : Int}
theorem band120 (hx : 0 ≤ x ∧ x < 256) : 0 ≤ band .u8 x 120 ∧ band .u8 x 120 < 256 ∧ band .u8 (band .u8 x 120) 120 = band .u8 x 120 :=
  byte_all (p := fun x => 0 ≤ band .u8 x 120 ∧ band .u8 x 120 < 256 ∧ band .u8 (band .u8 x 120) 120 = band .u8 x 120) (by decide +kernel) hx.1 hx.2
theorem PU.Wf.set1 (h : u.Wf) (hx : 0 ≤ x ∧ x < 256) : ({ u with R := u.R.set 1 (band .u8 x 120) } : PU).Wf := h.R_ 1 ⟨(band120 hx).1, (band120 hx).2.1⟩ fun _ => (band120 hx).2.2
theorem PU.Wf.setn (h : u.Wf) (hx : 0 ≤ x ∧ x < 256) {n : Int} (_hn : 0 ≤ n) (h1 : ¬ n = 1) : ({ u with R := u.R.set n.toNat x } : PU).Wf := h.R_ n.toNat hx fun h2 => absurd h2 (by omega)
theorem PU.Wf.zero (h : u.Wf) : ({ u with line := 0, dot := 0, own := 0 } : PU).Wf := ((h.line_ (x := 0) (by decide)).dot_ (x := 0) (by decide)).own_ (x := 0) (by decide)
theorem set_1 {n : Int} (h : n = 1) : setU u n x = { u with R := u.R.set 1 (band .u8 x 120) } := by unfold setU; rw [if_pos h]
theorem set_4 {n : Int} (h : n = 4) : setU u n x = u := by unfold setU; rw [if_neg (by omega), if_pos h]
theorem set_n {n : Int} (h1 : ¬ n = 1) (h4 : ¬ n = 4) : setU u n x = { u with R := u.R.set n.toNat x } := by unfold setU; rw [if_neg h1, if_neg h4]
theorem PU.Wf.set (h : u.Wf) (hx : 0 ≤ x ∧ x < 256) {n : Int} (hn : 0 ≤ n) : (setU u n x).Wf := by
  by_cases h1 : n = 1
  · rw [set_1 h1]; exact h.set1 hx
  · by_cases h4 : n = 4
    · rw [set_4 h4]; exact h
    · rw [set_n h1 h4]; exact h.setn hx hn h1
theorem off_yes {was : Bool} (h1 : was = true) (h2 : litU u = false) : offU was u = { u with line := 0, dot := 0, own := 0 } := by unfold offU; rw [if_pos ⟨h1, h2⟩]
theorem off_no {was : Bool} (h : was = false ∨ litU u = true) : offU was u = u := by
  unfold offU; rw [if_neg]; rintro ⟨h1, h2⟩; rcases h with h | h <;> simp_all
theorem PU.Wf.off (h : u.Wf) (was : Bool) : (offU was u).Wf := by
  unfold offU; split
  · exact h.zero
  · exact h
theorem write_V (b : Int) {j : Nat} (hj : j < 8192) : writeU u (32768 + j) b = if modeU u < 3 then { u with V := u.V.set j b } else u := by
  unfold writeU
  rw [if_pos (by omega), show ((32768 : Int) + j - 32768).toNat = j by omega]
theorem write_O (b : Int) {j : Nat} (hj : j < 160) : writeU u (65024 + j) b = if modeU u < 2 then { u with O := u.O.set j b } else u := by
  unfold writeU
  rw [if_neg (by omega), if_pos (by omega), show ((65024 : Int) + j - 65024).toNat = j by omega]
theorem write_no {a : Int} (b : Int) (h : ¬ (32768 ≤ a ∧ a < 40960) ∧ ¬ (65024 ≤ a ∧ a < 65184)) (hn : numU a = -1) : writeU u a b = u := by
  unfold writeU; rw [if_neg h.1, if_neg h.2, if_pos hn]
theorem write_R {a : Int} (b : Int) (h : ¬ (32768 ≤ a ∧ a < 40960) ∧ ¬ (65024 ≤ a ∧ a < 65184)) (hn : ¬ numU a = -1) : writeU u a b = askU (putU u (numU a) b) := by
  unfold writeU; rw [if_neg h.1, if_neg h.2, if_neg hn]
theorem wv_V (b : Int) {j : Nat} (hj : j < 8192) : writeV u (32768 + j) b = 0 := by unfold writeV; rw [if_pos (by omega)]
theorem wv_O (b : Int) {j : Nat} (hj : j < 160) : writeV u (65024 + j) b = 0 := by unfold writeV; rw [if_neg (by omega), if_pos (by omega)]
theorem wv_no {a : Int} (b : Int) (h : ¬ (32768 ≤ a ∧ a < 40960) ∧ ¬ (65024 ≤ a ∧ a < 65184)) (hn : numU a = -1) : writeV u a b = 0 := by
  unfold writeV; rw [if_neg h.1, if_neg h.2, if_pos hn]
theorem wv_R {a : Int} (b : Int) (h : ¬ (32768 ≤ a ∧ a < 40960) ∧ ¬ (65024 ≤ a ∧ a < 65184)) (hn : ¬ numU a = -1) : writeV u a b = askV (putU u (numU a) b) := by
  unfold writeV; rw [if_neg h.1, if_neg h.2, if_neg hn]
theorem peek_V {j : Nat} (hj : j < 8192) : peekU u (32768 + j) = u.V.getD j 0 := by
  unfold peekU; rw [if_pos (by omega), show ((32768 : Int) + j - 32768).toNat = j by omega]
theorem peek_O {j : Nat} (hj : j < 160) : peekU u (65024 + j) = u.O.getD j 0 := by
  unfold peekU; rw [if_neg (by omega), if_pos (by omega), show ((65024 : Int) + j - 65024).toNat = j by omega]
theorem peek_R {a : Int} (h : ¬ (32768 ≤ a ∧ a < 40960) ∧ ¬ (65024 ≤ a ∧ a < 65184)) :
    peekU u a = if numU a = -1 then 255 else if numU a = 4 then u.line % 256 else if numU a = 1 then (if foundU u = true then bor .u8 (statU u) 4 else statU u) else u.r (numU a).toNat := by
  unfold peekU; rw [if_neg h.1, if_neg h.2]
theorem read_V {j : Nat} (hj : j < 8192) : readU u (32768 + j) = if 3 ≤ modeU u then 255 else peekU u (32768 + j) := by
  unfold readU; by_cases h : 3 ≤ modeU u
  · rw [if_pos (by omega), if_pos h]
  · rw [if_neg (by omega), if_neg h]
theorem read_O {j : Nat} (hj : j < 160) : readU u (65024 + j) = if 2 ≤ modeU u then 255 else peekU u (65024 + j) := by
  unfold readU; by_cases h : 2 ≤ modeU u
  · rw [if_pos (by omega), if_pos h]
  · rw [if_neg (by omega), if_neg h]
theorem read_no {a : Int} (h : ¬ (32768 ≤ a ∧ a < 40960) ∧ ¬ (65024 ≤ a ∧ a < 65184)) : readU u a = peekU u a := by
  unfold readU; rw [if_neg (by omega)]
theorem PU.Ok.ask (h : u.Ok) : (askU u).Ok := ⟨h.wf.ask, h.line, h.dot, h.own⟩
theorem PU.Ok.write (h : u.Ok) {a : Int} (hx : 0 ≤ x ∧ x < 256) : (writeU u a x).Ok := by
  have hl := h.line; have hd := h.dot; have ho := h.own
  unfold writeU
  split
  · split
    · exact ⟨h.wf.V_ _ hx, hl, hd, ho⟩
    · exact h
  · split
    · split
      · exact ⟨h.wf.O_ _ hx, hl, hd, ho⟩
      · exact h
    · split
      · exact h
      · rename_i hn
        have hr := num_range a
        refine PU.Ok.ask ?_
        have hs : (setU u (numU a) x).Ok := by
          refine ⟨h.wf.set hx (by omega), ?_, ?_, ?_⟩ <;> (unfold setU; split; · assumption) <;> split <;> assumption
        unfold putU offU
        split
        · exact ⟨hs.wf.zero, by show (0 : Int) < 154; decide, by show (0 : Int) < 114; decide, by show (0 : Int) ≤ 255 + 0 + (if (63 : Int) ≤ 0 then 1 else 0); decide⟩
        · exact hs
theorem PU.Ok.sprite (h : u.Ok) (n : Int) (hx : 0 ≤ x ∧ x < 256) : (spriteU u n x).Ok := by
  have hl := h.line; have hd := h.dot; have ho := h.own
  unfold spriteU
  split
  · exact ⟨h.wf.O_ _ hx, hl, hd, ho⟩
  · exact h
end
end Go.Proofs.Ytjceoaomkbabmaa
