/- The unit that makes the picture, as the document holds it: where what stands, and its own ways of reckoning. Plain definitions and laws, no program. -/
import Derived.Test.YtjceoaomkbabmaaMcJ
import Derived.Test.YtjceoaomkbabmaaMcK
namespace Go.Proofs.Ytjceoaomkbabmaa
open Go Go.VV

structure PU.Ln (u : PU) : Prop where
  lV : u.V.length = 8192
  lO : u.O.length = 160
  lR : u.R.length = 12
  lP : u.P.length = 23040
theorem PU.Wf.ln {u : PU} (h : u.Wf) : u.Ln := ⟨h.lV, h.lO, h.lR, h.lP⟩
section
variable {u : PU}
theorem nU_len (h : u.Ln) : (cU u).length = 31409 := by simp [cU, h.lV, h.lO, h.lR, h.lP]
theorem nU_R (h : u.Ln) {j : Nat} (hj : j < 12) : (cU u)[8352 + j]? = some (.int .u8 (u.R.getD j 0)) :=
  get_right (n := 160 + j) (by rw [List.length_map, h.lV]; omega) (get_right (n := j) (by rw [List.length_map, h.lO]) (get_left (map_at (by rw [h.lR]; exact hj))))
theorem nU_five (h : u.Ln) {j : Nat} {v : Value} (hv : ([.int .i64 u.line, .int .i64 u.dot, .int .i64 u.own, .int .i64 u.frames, .bool u.sig] : List Value)[j]? = some v) : (cU u)[8364 + j]? = some v :=
  get_right (n := 172 + j) (by rw [List.length_map, h.lV]; omega) (get_right (n := 12 + j) (by rw [List.length_map, h.lO]; omega) (get_right (n := j) (by rw [List.length_map, h.lR]) (get_left hv)))
theorem cutU_V (h : u.Ln) {j : Nat} {r : List Int} (hj : j + r.length ≤ 8192) : putL (cU u) j (r.map (.int .u8)) = cU { u with V := putI u.V j r } := by
  unfold cU
  rw [putL_left (by simp [h.lV]; omega), putI_map]
theorem cutU_O (h : u.Ln) {j : Nat} {r : List Int} (hj : j + r.length ≤ 160) : putL (cU u) (8192 + j) (r.map (.int .u8)) = cU { u with O := putI u.O j r } := by
  unfold cU
  rw [putL_right (n := j) (by rw [List.length_map, h.lV]) (by simp [h.lO]; omega), putL_left (by simp [h.lO]; omega), putI_map]
theorem cutU_R (h : u.Ln) {j : Nat} {r : List Int} (hj : j + r.length ≤ 12) : putL (cU u) (8352 + j) (r.map (.int .u8)) = cU { u with R := putI u.R j r } := by
  unfold cU
  rw [putL_right (n := 160 + j) (by rw [List.length_map, h.lV]; omega) (by simp [h.lO, h.lR]; omega), putL_right (n := j) (by rw [List.length_map, h.lO]) (by simp [h.lR]; omega), putL_left (by simp [h.lR]; omega), putI_map]
theorem cutU_five (h : u.Ln) {j : Nat} {v : Value} (hj : j < 5) : putL (cU u) (8364 + j) [v] = u.V.map (.int .u8) ++ (u.O.map (.int .u8) ++ (u.R.map (.int .u8) ++ (putL [.int .i64 u.line, .int .i64 u.dot, .int .i64 u.own, .int .i64 u.frames, .bool u.sig] j [v] ++ u.P.map (.int .u8)))) := by
  unfold cU
  rw [putL_right (n := 172 + j) (by rw [List.length_map, h.lV]; omega) (by simp [h.lO, h.lR]; omega), putL_right (n := 12 + j) (by rw [List.length_map, h.lO]; omega) (by simp [h.lR]; omega), putL_right (n := j) (by rw [List.length_map, h.lR]) (by simp; omega), putL_left (by simp; omega)]
theorem cutU_P (h : u.Ln) {j : Nat} {r : List Int} (hj : j + r.length ≤ 23040) : putL (cU u) (8369 + j) (r.map (.int .u8)) = cU { u with P := putI u.P j r } := by
  unfold cU
  rw [putL_right (n := 177 + j) (by rw [List.length_map, h.lV]; omega) (by simp [h.lO, h.lR, h.lP]; omega), putL_right (n := 17 + j) (by rw [List.length_map, h.lO]; omega) (by simp [h.lR, h.lP]; omega), putL_right (n := 5 + j) (by rw [List.length_map, h.lR]; omega) (by simp [h.lP]; omega), putL_right (n := j) (by simp) (by simp [h.lP]; omega), putI_map]
theorem cU_ones (u : PU) : ones (cU u) = true := by
  unfold cU
  simp only [ones, List.all_append, Bool.and_eq_true]
  exact ⟨ones_int _ _, ones_int _ _, ones_int _ _, rfl, ones_int _ _⟩
end
/-! ### the steps -/
section
variable {l : List Int} (hl : l.length = 31408)
def z1 (l : List Int) : PU := { zeroU with V := l.take 8192 }
def z2 (l : List Int) : PU := { z1 l with O := (l.drop 8192).take 160 }
def z3 (l : List Int) : PU := { z2 l with R := (l.drop 8352).take 6 ++ List.replicate 6 0 }
def rZ (l : List Int) : List Int := (l.drop 8352).take 6 ++ 0 :: (l.drop 8358).take 5
def z4 (l : List Int) : PU := { z3 l with R := rZ l }
def z5 (l : List Int) : PU := { z4 l with line := l.getD 8356 0, dot := l.getD 8363 0, own := l.getD 8364 0 }
def z6 (l : List Int) : PU := { z5 l with frames := l.getD 8365 0 + 256 * l.getD 8366 0, sig := l.getD 8367 0 == 1 }
def z7 (l : List Int) : PU := { z6 l with R := decR l }
def pZ (l : List Int) (i : Nat) : List Int := (l.drop 8368).take (i * 160) ++ List.replicate (23040 - i * 160) 0
def z8 (l : List Int) (i : Nat) : PU := { z7 l with P := pZ l i }
theorem z0_ln : zeroU.Ln := zeroU_wf.ln
include hl
theorem z1_ln : (z1 l).Ln := ⟨by simp [z1, hl], List.length_replicate, List.length_replicate, List.length_replicate⟩
theorem z2_ln : (z2 l).Ln := ⟨(z1_ln hl).lV, by simp [z2, hl], (z1_ln hl).lR, (z1_ln hl).lP⟩
theorem z3_ln : (z3 l).Ln := ⟨(z2_ln hl).lV, (z2_ln hl).lO, by simp [z3, hl], (z2_ln hl).lP⟩
theorem rZ_len : (rZ l).length = 12 := by simp [rZ, hl]
theorem decR_len : (decR l).length = 12 := by
  have := rZ_len hl; unfold rZ at this; simpa [decR] using this
theorem z4_ln : (z4 l).Ln := ⟨(z3_ln hl).lV, (z3_ln hl).lO, rZ_len hl, (z3_ln hl).lP⟩
theorem z5_ln : (z5 l).Ln := ⟨(z4_ln hl).lV, (z4_ln hl).lO, (z4_ln hl).lR, (z4_ln hl).lP⟩
theorem z6_ln : (z6 l).Ln := ⟨(z4_ln hl).lV, (z4_ln hl).lO, (z4_ln hl).lR, (z4_ln hl).lP⟩
theorem z7_ln : (z7 l).Ln := ⟨(z4_ln hl).lV, (z4_ln hl).lO, decR_len hl, (z4_ln hl).lP⟩
theorem pZ_len {i : Nat} (hi : i ≤ 144) : (pZ l i).length = 23040 := by simp [pZ, hl]; omega
theorem z8_ln {i : Nat} (hi : i ≤ 144) : (z8 l i).Ln := ⟨(z7_ln hl).lV, (z7_ln hl).lO, (z7_ln hl).lR, pZ_len hl hi⟩
theorem p_1 : putL (cU zeroU) 0 ((l.map (.int .u8)).take 8192) = cU (z1 l) := by
  rw [← List.map_take, cutU_V z0_ln (by simp; omega), putI_all (by rw [z0_ln.lV]; simp [hl])]; rfl
theorem p_2 : putL (cU (z1 l)) 8192 (((l.drop 8192).map (.int .u8)).take 160) = cU (z2 l) := by
  rw [← List.map_take]
  have := cutU_O (z1_ln hl) (j := 0) (r := (l.drop 8192).take 160) (by simp [hl])
  rw [Nat.add_zero] at this
  rw [this, putI_all (by rw [(z1_ln hl).lO]; simp [hl])]; rfl
theorem p_3 : putL (cU (z2 l)) 8352 (((l.drop 8352).map (.int .u8)).take 6) = cU (z3 l) := by
  rw [← List.map_take]
  have := cutU_R (z2_ln hl) (j := 0) (r := (l.drop 8352).take 6) (by simp; omega)
  rw [Nat.add_zero] at this
  rw [this]
  have h2 : putI (z2 l).R 0 ((l.drop 8352).take 6) = (l.drop 8352).take 6 ++ List.replicate 6 0 := by
    unfold putI
    have h3 : (z2 l).R = List.replicate 12 0 := rfl
    rw [h3]
    simp [hl]
  rw [h2]; rfl
theorem p_4 : putL (cU (z3 l)) 8359 ((((l.drop 8358).take 5).map (.int .u8)).take 5) = cU (z4 l) := by
  rw [← List.map_take, List.take_take]
  have := cutU_R (z3_ln hl) (j := 7) (r := (l.drop 8358).take 5) (by simp; omega)
  rw [show 8352 + 7 = 8359 by rfl] at this
  rw [show min 5 5 = 5 by rfl, this]
  have h2 : putI (z3 l).R 7 ((l.drop 8358).take 5) = rZ l := by
    have h3 : (z3 l).R = (l.drop 8352).take 6 ++ [0] ++ List.replicate 5 0 := by rw [List.append_assoc]; rfl
    have h5 : ((l.drop 8358).take 5).length = 5 := by simp [hl]
    rw [h3, putI_mid (by simp [hl]), h5]
    simp [rZ]
  rw [h2]; rfl
theorem at_4 : (cU (z4 l))[8352 + 4]? = some (.int .u8 (l.getD 8356 0)) := by
  rw [nU_R (z4_ln hl) (by decide)]
  have : (z4 l).R.getD 4 0 = l.getD 8356 0 := by
    show (rZ l).getD 4 0 = _
    unfold rZ
    have h4 : ((l.drop 8352).take 6).length = 6 := by simp [hl]
    rw [List.getD_eq_getElem?_getD, List.getElem?_append_left (by rw [h4]; decide), ← List.getD_eq_getElem?_getD, getD_take _ (by decide), getD_drop]
  rw [this]
theorem at_1 : (cU (z7 l))[8352 + 1]? = some (.int .u8 (l.getD 8353 0)) := by
  rw [nU_R (z7_ln hl) (by decide)]
  have : (z7 l).R.getD 1 0 = l.getD 8353 0 := by
    show (decR l).getD 1 0 = _
    unfold decR
    have h4 : ((l.drop 8352).take 6).length = 6 := by simp [hl]
    rw [List.getD_eq_getElem?_getD, List.getElem?_set_ne (by decide), List.getElem?_append_left (by rw [h4]; decide), ← List.getD_eq_getElem?_getD, getD_take _ (by decide), getD_drop]
  rw [this]
theorem p_5a : putL (cU (z4 l)) 8364 [.int .i64 (l.getD 8356 0)] = cU { z4 l with line := l.getD 8356 0 } := cutU_five (z4_ln hl) (j := 0) (by decide)
theorem p_5b : putL (cU { z4 l with line := l.getD 8356 0 }) 8365 [.int .i64 (l.getD 8363 0)] = cU { z4 l with line := l.getD 8356 0, dot := l.getD 8363 0 } :=
  cutU_five (u := { z4 l with line := l.getD 8356 0 }) ⟨(z4_ln hl).lV, (z4_ln hl).lO, (z4_ln hl).lR, (z4_ln hl).lP⟩ (j := 1) (by decide)
theorem p_5c : putL (cU { z4 l with line := l.getD 8356 0, dot := l.getD 8363 0 }) 8366 [.int .i64 (l.getD 8364 0)] = cU (z5 l) :=
  cutU_five (u := { z4 l with line := l.getD 8356 0, dot := l.getD 8363 0 }) ⟨(z4_ln hl).lV, (z4_ln hl).lO, (z4_ln hl).lR, (z4_ln hl).lP⟩ (j := 2) (by decide)
theorem p_6a : putL (cU (z5 l)) 8367 [.int .i64 (l.getD 8365 0 + 256 * l.getD 8366 0)] = cU { z5 l with frames := l.getD 8365 0 + 256 * l.getD 8366 0 } := cutU_five (z5_ln hl) (j := 3) (by decide)
theorem p_6b : putL (cU { z5 l with frames := l.getD 8365 0 + 256 * l.getD 8366 0 }) 8368 [.bool (l.getD 8367 0 == 1)] = cU (z6 l) :=
  cutU_five (u := { z5 l with frames := l.getD 8365 0 + 256 * l.getD 8366 0 }) ⟨(z4_ln hl).lV, (z4_ln hl).lO, (z4_ln hl).lR, (z4_ln hl).lP⟩ (j := 4) (by decide)
theorem p_7 : putL (cU (z6 l)) 8356 [.int .u8 0] = cU (z7 l) := by
  have := cutU_R (z6_ln hl) (j := 4) (r := [0]) (by simp)
  rw [show 8352 + 4 = 8356 by rfl] at this
  rw [show ([.int .u8 0] : List Value) = [0].map (.int .u8) by rfl, this, putI_one (by rw [(z6_ln hl).lR]; decide)]; rfl
theorem at_line : (cU (z7 l))[8364]? = some (.int .i64 (l.getD 8356 0)) := nU_five (z7_ln hl) (j := 0) rfl
theorem at_dot : (cU (z7 l))[8365]? = some (.int .i64 (l.getD 8363 0)) := nU_five (z7_ln hl) (j := 1) rfl
omit hl in
theorem p_80 : cU (z7 l) = cU (z8 l 0) := by
  have : pZ l 0 = (z7 l).P := by
    unfold pZ
    rw [Nat.zero_mul, List.take_zero, List.nil_append, Nat.sub_zero]; rfl
  unfold z8; rw [this]
theorem p_8 {i : Nat} (hi : i < 144) : putL (cU (z8 l i)) (8369 + i * 160) (((l.drop (8368 + i * 160)).map (.int .u8)).take 160) = cU (z8 l (i + 1)) := by
  rw [← List.map_take, cutU_P (z8_ln hl (by omega)) (by simp; omega)]
  have : putI (pZ l i) (i * 160) ((l.drop (8368 + i * 160)).take 160) = pZ l (i + 1) := by
    unfold pZ
    have h2 : ((l.drop (8368 + i * 160)).take 160).length = 160 := by simp [hl]; omega
    rw [putI_mid (by simp [hl]; omega), h2, List.drop_replicate, show 23040 - i * 160 - 160 = 23040 - (i + 1) * 160 by omega, ← take_rows, List.drop_drop]
  show cU { z8 l i with P := putI (pZ l i) (i * 160) _ } = _
  rw [this]; rfl
theorem z8_all : z8 l 144 = decU l := by
  have : pZ l 144 = l.drop 8368 := by unfold pZ; rw [List.take_of_length_le (by simp [hl])]; simp
  unfold z8; rw [this]; rfl
theorem decE_no (h : okE l = false) : 5 = decE l := by unfold decE; rw [if_neg (by omega), if_neg (by rw [h]; decide)]
theorem decE_yes (h : okE l = true) : 0 = decE l := by unfold decE; rw [if_neg (by omega), if_pos h]
end
section
variable {l : List Int}
theorem decE_len (h : l.length ≠ 31408) : 6 = decE l := by unfold decE; rw [if_pos h]
theorem ok_1 (h : 154 ≤ l.getD 8356 0) : okE l = false := by unfold okE; rw [decide_eq_false (by omega)]; rfl
theorem ok_2 (h : 114 ≤ l.getD 8363 0) : okE l = false := by unfold okE; rw [decide_eq_false (p := l.getD 8363 0 < 114) (by omega)]; simp
theorem ok_3 (h : (bandn .u8 (l.getD 8353 0) 120 != 0) = true) : okE l = false := by unfold okE; rw [show (bandn .u8 (l.getD 8353 0) 120 == 0) = false by simpa using h]; simp
theorem ok_4 (h : 1 < l.getD 8367 0) : okE l = false := by unfold okE; rw [decide_eq_false (p := l.getD 8367 0 ≤ 1) (by omega)]; simp
theorem all_any (l : List Int) : l.all (fun x => decide (x ≤ 3)) = !(l.any fun x => decide (3 < x)) := by
  induction l with
  | nil => rfl
  | cons x l ih =>
    rw [List.all_cons, List.any_cons, ih, Bool.not_or]
    congr 1
    by_cases h : x ≤ 3
    · have h2 : ¬ 3 < x := by omega
      simp [h, h2]
    · have h2 : 3 < x := by omega
      simp [h, h2]
theorem ok_5 (h : ((l.drop 8368).any fun x => decide (3 < x)) = true) : okE l = false := by unfold okE; rw [all_any, h]; simp
theorem ok_6 (h1 : l.getD 8356 0 < 154) (h2 : l.getD 8363 0 < 114) (h3 : (bandn .u8 (l.getD 8353 0) 120 != 0) = false) (h4 : l.getD 8367 0 ≤ 1) (h5 : ((l.drop 8368).any fun x => decide (3 < x)) = false) : okE l = true := by
  unfold okE
  rw [all_any, h5, decide_eq_true h1, decide_eq_true h2, decide_eq_true h4, show (bandn .u8 (l.getD 8353 0) 120 == 0) = true by simpa using h3]; rfl
theorem decTo_0 {u : PU} (h : 0 = decE l) : decTo u l = decU l := by unfold decTo; rw [if_pos h.symm]
theorem decTo_no {u : PU} {e : Int} (h : e = decE l) (h0 : e ≠ 0) : decTo u l = u := by unfold decTo; rw [if_neg (by omega)]
end
end Go.Proofs.Ytjceoaomkbabmaa
namespace Go.Proofs.Ytjceoaomkbabmaa
open Go Go.VV

def cW (bv bs : Nat) (u : PU) : List Value := [.slice (some ⟨bv, 0, none⟩) 8192 8192, .slice (some ⟨bs, 0, none⟩) 160 160] ++ (u.R.map (.int .u8) ++ ([.int .i64 u.line, .int .i64 u.dot, .int .i64 u.own, .int .i64 u.frames, .bool u.sig] ++ u.P.map (.int .u8)))
abbrev RH (b bv bs : Nat) (u : PU) : Heap := [(b, blk (cW bv bs u) 48), (bv, blk (u.V.map (.int .u8)) 5), (bs, blk (u.O.map (.int .u8)) 5)]
structure RRow (w : World) (b bv bs : Nat) (u : PU) : Prop where
  r : Row w b 0 (cW bv bs u)
  v : Row w bv 0 (u.V.map (.int .u8))
  s : Row w bs 0 (u.O.map (.int .u8))
theorem RRow.of {w0 w : World} {ms : List Nat} {H : Heap} {b bv bs : Nat} {u : PU} (h : St w0 ms H w) (h1 : (b, blk (cW bv bs u) 48) ∈ H) (h2 : (bv, blk (u.V.map (.int .u8)) 5) ∈ H) (h3 : (bs, blk (u.O.map (.int .u8)) 5) ∈ H) : RRow w b bv bs u :=
  ⟨row_own h1 w h, row_own h2 w h, row_own h3 w h⟩
theorem RRow.later {w0 w : World} {H : Heap} {b bv bs : Nat} {u : PU} (h : RRow w0 b bv bs u) (hw : St w0 [] H w) : RRow w b bv bs u :=
  ⟨row_old h.r (by simp) w hw, row_old h.v (by simp) w hw, row_old h.s (by simp) w hw⟩
section
variable {u : PU} {bv bs : Nat}
theorem cW_len (h : u.Wf) : (cW bv bs u).length = 23059 := by simp [cW, h.lR, h.lP]
theorem cW_V (h : u.Wf) : (cW bv bs u)[0]? = some (.slice (some ⟨bv, 0, none⟩) u.V.length 8192) := by rw [h.lV]; rfl
theorem cW_O (h : u.Wf) : (cW bv bs u)[1]? = some (.slice (some ⟨bs, 0, none⟩) u.O.length 160) := by rw [h.lO]; rfl
theorem cW_R (h : u.Wf) {j : Nat} (hj : j < 12) : (cW bv bs u)[2 + j]? = some (.int .u8 (u.R.getD j 0)) := get_right rfl (get_left (map_at (by rw [h.lR]; exact hj)))
theorem cW_five (h : u.Wf) {j : Nat} {v : Value} (hv : ([.int .i64 u.line, .int .i64 u.dot, .int .i64 u.own, .int .i64 u.frames, .bool u.sig] : List Value)[j]? = some v) : (cW bv bs u)[14 + j]? = some v :=
  get_right (n := 12 + j) (by simp; omega) (get_right (n := j) (by rw [List.length_map, h.lR]) (get_left hv))
theorem cW_line (h : u.Wf) : (cW bv bs u)[14]? = some (.int .i64 u.line) := cW_five h (j := 0) rfl
theorem cW_dot (h : u.Wf) : (cW bv bs u)[15]? = some (.int .i64 u.dot) := cW_five h (j := 1) rfl
theorem cW_own (h : u.Wf) : (cW bv bs u)[16]? = some (.int .i64 u.own) := cW_five h (j := 2) rfl
theorem cW_frames (h : u.Wf) : (cW bv bs u)[17]? = some (.int .i64 u.frames) := cW_five h (j := 3) rfl
theorem cW_sig (h : u.Wf) : (cW bv bs u)[18]? = some (.bool u.sig) := cW_five h (j := 4) rfl
theorem rowWP (h : u.Wf) {w : World} {b : Nat} (hr : Row w b 0 (cW bv bs u)) {i : Nat} (_hi : i < 144) : Row w b (19 + i * 160) (((u.P.drop (i * 160)).take 160).map (.int .u8)) := fun j v hv => by
  have h1 : Row w b 19 (u.P.map (.int .u8)) := ((hr.right (n := 2) rfl).right (n := 14) (by rw [List.length_map, h.lR])).right (n := 19) rfl
  have := h1 (i * 160 + j) v (by
    rw [List.getElem?_map] at hv ⊢
    rw [List.getElem?_take] at hv
    split at hv
    · rw [List.getElem?_drop] at hv; exact hv
    · simp at hv)
  rw [Nat.add_assoc]; exact this
theorem putW_R (h : u.Wf) {j : Nat} (hj : j < 12) (x : Int) : putL (cW bv bs u) (2 + j) [.int .u8 x] = cW bv bs { u with R := u.R.set j x } := by
  unfold cW
  rw [putL_right (o := 2 + j) (n := j) rfl (by simp [h.lR]; omega), putL_left (by simp [h.lR]; omega), putL_int .u8 (by rw [h.lR]; exact hj)]
theorem putW_five (h : u.Wf) {j : Nat} {v : Value} (hj : j < 5) : putL (cW bv bs u) (14 + j) [v] = [.slice (some ⟨bv, 0, none⟩) 8192 8192, .slice (some ⟨bs, 0, none⟩) 160 160] ++ (u.R.map (.int .u8) ++ (putL [.int .i64 u.line, .int .i64 u.dot, .int .i64 u.own, .int .i64 u.frames, .bool u.sig] j [v] ++ u.P.map (.int .u8))) := by
  unfold cW
  rw [putL_right (n := 12 + j) (by simp; omega) (by simp [h.lR]; omega), putL_right (n := j) (by rw [List.length_map, h.lR]) (by simp; omega), putL_left (by simp; omega)]
theorem putW_line (h : u.Wf) (x : Int) : putL (cW bv bs u) 14 [.int .i64 x] = cW bv bs { u with line := x } := putW_five h (j := 0) (by decide)
theorem putW_dot (h : u.Wf) (x : Int) : putL (cW bv bs u) 15 [.int .i64 x] = cW bv bs { u with dot := x } := putW_five h (j := 1) (by decide)
theorem putW_own (h : u.Wf) (x : Int) : putL (cW bv bs u) 16 [.int .i64 x] = cW bv bs { u with own := x } := putW_five h (j := 2) (by decide)
theorem putW_frames (h : u.Wf) (x : Int) : putL (cW bv bs u) 17 [.int .i64 x] = cW bv bs { u with frames := x } := putW_five h (j := 3) (by decide)
theorem putW_sig (h : u.Wf) (x : Bool) : putL (cW bv bs u) 18 [.bool x] = cW bv bs { u with sig := x } := putW_five h (j := 4) (by decide)
theorem putW_P (h : u.Wf) {j : Nat} {r : List Int} (hj : j + r.length ≤ 23040) : putL (cW bv bs u) (19 + j) (r.map (.int .u8)) = cW bv bs { u with P := putI u.P j r } := by
  unfold cW
  rw [putL_right (n := 17 + j) (by simp; omega) (by simp [h.lR, h.lP]; omega), putL_right (n := 5 + j) (by rw [List.length_map, h.lR]; omega) (by simp [h.lP]; omega), putL_right (n := j) (by simp) (by simp [h.lP]; omega), putI_map]
/-! ### its ways of reckoning -/
def shutU (u : PU) (a : Int) : Bool := decide ((32768 ≤ a ∧ a < 40960 ∧ modeU u = 3) ∨ (65024 ≤ a ∧ a < 65184 ∧ 2 ≤ modeU u))
theorem read_yes {a : Int} (h : shutU u a = true) : readU u a = 255 := by
  have := of_decide_eq_true h
  unfold readU; rw [if_pos (by omega)]
theorem read_open {a : Int} (h : shutU u a = false) : readU u a = peekU u a := by
  have := of_decide_eq_false h
  have := mode_range u
  unfold readU; rw [if_neg (by omega)]
theorem numU_no {a : Int} (h : a < 65344 ∨ 65355 < a ∨ a = 65350) : numU a = -1 := by unfold numU; rw [if_pos h]
theorem numU_yes {a : Int} (h : ¬ (a < 65344 ∨ 65355 < a ∨ a = 65350)) : numU a = a - 65344 := by unfold numU; rw [if_neg h]
theorem peek_byte {a : Int} (h : ¬ (32768 ≤ a ∧ a < 40960) ∧ ¬ (65024 ≤ a ∧ a < 65184)) (h2 : ¬ (a < 65344 ∨ 65355 < a ∨ a = 65350)) (h3 : a ≠ 65348) (h4 : a ≠ 65345) : peekU u a = u.r (a - 65344).toNat := by
  rw [peek_R h, numU_yes h2, if_neg (by omega), if_neg (by omega), if_neg (by omega)]
theorem peek_line (hu : u.Wf) {a : Int} (h : a = 65348) : peekU u a = u.line := by
  have := hu.line
  subst h
  show u.line % 256 = _
  omega
theorem write_no' {a : Int} (x : Int) (h : ¬ (32768 ≤ a ∧ a < 40960) ∧ ¬ (65024 ≤ a ∧ a < 65184)) (h2 : ¬ (a < 65344 ∨ 65355 < a ∨ a = 65350)) : writeU u a x = askU (putU u (a - 65344) x) := by
  rw [write_R x h (by rw [numU_yes h2]; omega), numU_yes h2]
theorem wv_no' {a : Int} (x : Int) (h : ¬ (32768 ≤ a ∧ a < 40960) ∧ ¬ (65024 ≤ a ∧ a < 65184)) (h2 : ¬ (a < 65344 ∨ 65355 < a ∨ a = 65350)) : writeV u a x = askV (putU u (a - 65344) x) := by
  rw [wv_R x h (by rw [numU_yes h2]; omega), numU_yes h2]
theorem shut_V {a : Int} (b : Int) (h1 : shutU u a = true) : writeU u a b = u ∧ writeV u a b = 0 := by
  have := of_decide_eq_true h1
  rcases this with ⟨h2, h3, h4⟩ | ⟨h2, h3, h4⟩
  · exact ⟨by unfold writeU; rw [if_pos ⟨h2, h3⟩, if_neg (by omega)], by unfold writeV; rw [if_pos ⟨h2, h3⟩]⟩
  · exact ⟨by unfold writeU; rw [if_neg (by omega), if_pos ⟨h2, h3⟩, if_neg (by omega)], by unfold writeV; rw [if_neg (by omega), if_pos ⟨h2, h3⟩]⟩
theorem w_V {a : Int} (b : Int) (h1 : shutU u a = false) (h2 : 32768 ≤ a ∧ a < 40960) : writeU u a b = { u with V := u.V.set (a - 32768).toNat b } ∧ writeV u a b = 0 := by
  have := of_decide_eq_false h1
  have := mode_range u
  exact ⟨by unfold writeU; rw [if_pos h2, if_pos (by omega)], by unfold writeV; rw [if_pos h2]⟩
theorem w_O {a : Int} (b : Int) (h1 : shutU u a = false) (h2 : 65024 ≤ a ∧ a < 65184) : writeU u a b = { u with O := u.O.set (a - 65024).toNat b } ∧ writeV u a b = 0 := by
  have := of_decide_eq_false h1
  exact ⟨by unfold writeU; rw [if_neg (by omega), if_pos h2, if_pos (by omega)], by unfold writeV; rw [if_neg (by omega), if_pos h2]⟩
theorem bit_b {c : Int} (hc : 0 ≤ c ∧ c < 256) : (band .u8 c 64 != 0) = decide (rBit c 6 = 1) ∧ (band .u8 c 8 != 0) = decide (rBit c 3 = 1) ∧ (band .u8 c 16 != 0) = decide (rBit c 4 = 1) ∧ (band .u8 c 32 != 0) = decide (rBit c 5 = 1) ∧ (band .u8 c 0 != 0) = false :=
  byte_all (p := fun c => (band .u8 c 64 != 0) = decide (rBit c 6 = 1) ∧ (band .u8 c 8 != 0) = decide (rBit c 3 = 1) ∧ (band .u8 c 16 != 0) = decide (rBit c 4 = 1) ∧ (band .u8 c 32 != 0) = decide (rBit c 5 = 1) ∧ (band .u8 c 0 != 0) = false) (by decide +kernel) hc.1 hc.2
def anyU (u : PU) : Bool := (decide (rBit (u.r 1) 6 = 1) && decide (u.line = u.r 5)) || (decide (rBit (u.r 1) 3 = 1) && decide (modeU u = 0)) || (decide (rBit (u.r 1) 4 = 1) && decide (modeU u = 1)) || (decide (rBit (u.r 1) 5 = 1) && decide (modeU u = 2))
theorem sig_any (h : u.Wf) : sigU u = (anyU u && litU u) := by
  obtain ⟨h6, h3, h4, h5, h0⟩ := bit_b (h.look 1)
  unfold sigU anyU foundU
  cases hl : litU u with
  | false => simp
  | true =>
    obtain ⟨m1, m2⟩ := mode_range u
    rw [h6, show (u.line == u.r 5) = decide (u.line = u.r 5) from rfl]
    have key : ∀ m : Int, m = 0 ∨ m = 1 ∨ m = 2 ∨ m = 3 → (true && ((band .u8 (u.r 1) (modeBit m) != 0) || (decide (rBit (u.r 1) 6 = 1) && (true && decide (u.line = u.r 5))))) =
        (((decide (rBit (u.r 1) 6 = 1) && decide (u.line = u.r 5)) || (decide (rBit (u.r 1) 3 = 1) && decide (m = 0)) || (decide (rBit (u.r 1) 4 = 1) && decide (m = 1)) || (decide (rBit (u.r 1) 5 = 1) && decide (m = 2))) && true) := by
      intro m hm
      rcases hm with rfl | rfl | rfl | rfl
      · rw [show modeBit 0 = 8 from rfl, h3]
        generalize decide (rBit (u.r 1) 6 = 1) = x6
        generalize decide (rBit (u.r 1) 3 = 1) = x3
        generalize decide (rBit (u.r 1) 4 = 1) = x4
        generalize decide (rBit (u.r 1) 5 = 1) = x5
        generalize decide (u.line = u.r 5) = q
        revert x6 x3 x4 x5 q; decide
      · rw [show modeBit 1 = 16 from rfl, h4]
        generalize decide (rBit (u.r 1) 6 = 1) = x6
        generalize decide (rBit (u.r 1) 3 = 1) = x3
        generalize decide (rBit (u.r 1) 4 = 1) = x4
        generalize decide (rBit (u.r 1) 5 = 1) = x5
        generalize decide (u.line = u.r 5) = q
        revert x6 x3 x4 x5 q; decide
      · rw [show modeBit 2 = 32 from rfl, h5]
        generalize decide (rBit (u.r 1) 6 = 1) = x6
        generalize decide (rBit (u.r 1) 3 = 1) = x3
        generalize decide (rBit (u.r 1) 4 = 1) = x4
        generalize decide (rBit (u.r 1) 5 = 1) = x5
        generalize decide (u.line = u.r 5) = q
        revert x6 x3 x4 x5 q; decide
      · rw [show modeBit 3 = 0 from rfl, h0]
        generalize decide (rBit (u.r 1) 6 = 1) = x6
        generalize decide (rBit (u.r 1) 3 = 1) = x3
        generalize decide (rBit (u.r 1) 4 = 1) = x4
        generalize decide (rBit (u.r 1) 5 = 1) = x5
        generalize decide (u.line = u.r 5) = q
        revert x6 x3 x4 x5 q; decide
    exact key (modeU u) (by omega)
theorem sig_no (h : u.Wf) (hn : anyU u = false) : false = sigU u := by rw [sig_any h, hn]; rfl
theorem sig_yes (h : u.Wf) (hn : anyU u = true) : litU u = sigU u := by rw [sig_any h, hn]; rfl
theorem told_law {x : Int} (hx : 0 ≤ x ∧ x < 256) : x / 8 % 16 * 8 = band .u8 x 120 := byte_all (p := fun x => x / 8 % 16 * 8 = band .u8 x 120) (by decide +kernel) hx.1 hx.2
theorem stat_all : ∀ c : Fin 256, ∀ m : Fin 4, band .u8 (c.val : Int) 120 = c.val → bor .u8 (bor .u8 128 c.val) m.val = 128 + c.val + m.val ∧ bor .u8 (bor .u8 (bor .u8 128 c.val) m.val) 4 = 128 + c.val + m.val + 4 ∧ 128 + (c.val : Int) + m.val + 4 < 256 := by decide +kernel
theorem stat_law (h : u.Wf) : statU u = 128 + u.r 1 + modeU u ∧ bor .u8 (statU u) 4 = 128 + u.r 1 + modeU u + 4 ∧ 128 + u.r 1 + modeU u + 4 < 256 := by
  have hb := h.look 1
  obtain ⟨m1, m2⟩ := mode_range u
  have := stat_all ⟨(u.r 1).toNat, by omega⟩ ⟨(modeU u).toNat, by omega⟩ (by
    show band .u8 (((u.r 1).toNat : Nat) : Int) 120 = (((u.r 1).toNat : Nat) : Int)
    rw [Int.toNat_of_nonneg hb.1]; exact h.how)
  simp only [Int.toNat_of_nonneg hb.1, Int.toNat_of_nonneg m1] at this
  exact this
theorem peek_found (h : u.Wf) {a : Int} (ha : a = 65345) (hf : foundU u = true) : peekU u a = 128 + u.r 1 + modeU u + 4 := by
  subst ha
  show (if foundU u = true then bor .u8 (statU u) 4 else statU u) = _
  rw [if_pos hf, (stat_law h).2.1]
theorem peek_not (h : u.Wf) {a : Int} (ha : a = 65345) (hf : foundU u = false) : peekU u a = 128 + u.r 1 + modeU u := by
  subst ha
  show (if foundU u = true then bor .u8 (statU u) 4 else statU u) = _
  rw [if_neg (by rw [hf]; decide), (stat_law h).1]
end
end Go.Proofs.Ytjceoaomkbabmaa
