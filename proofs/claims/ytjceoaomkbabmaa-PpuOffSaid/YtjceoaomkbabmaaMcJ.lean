/- The unit that makes the picture: all of it as bytes, and back. Plain definitions and laws, no program. -/
import Derived.Test.YtjceoaomkbabmaaMcF
import Derived.Test.YtjceoaomkbabmaaMcI
namespace Go.Proofs.Ytjceoaomkbabmaa
open Go Go.VV

def boolI (b : Bool) : Int := if b = true then 1 else 0
def r4 (u : PU) : List Int := u.R.set 4 u.line
def regsE (u : PU) : List Int := (r4 u).take 6 ++ (r4 u).drop 7
def tailE (u : PU) : List Int := [u.dot, u.own % 256, u.frames % 256, u.frames / 256, boolI u.sig]
def headE (u : PU) : List Int := u.V ++ u.O ++ regsE u ++ tailE u
def encU (u : PU) : List Int := headE u ++ u.P
def rowAt (u : PU) (n : Int) : List Int := if 0 ≤ n ∧ n < 144 then (u.P.drop (n.toNat * 160)).take 160 else List.replicate 160 0
/-- A segment of bytes, as a slice. -/
structure Sg where
  a : Option Addr
  c : Nat
  l : List Int
def cSg (s : Sg) : List Value := [.slice s.a s.l.length s.c]
theorem cSg_len (s : Sg) : (cSg s).length = 1 := rfl
def catS (l : List Sg) : List Int := l.flatMap (·.l)
theorem catS_snoc (l : List Sg) (i : Nat) {s : Sg} (h : l[i]? = some s) : catS (l.take (i + 1)) = catS (l.take i) ++ s.l := by
  rw [get_part h]; simp [catS]
theorem catS_le (l : List Sg) (i : Nat) : (catS (l.take i)).length ≤ (catS l).length := by
  conv => rhs; rw [← List.take_append_drop i l]
  simp only [catS, List.flatMap_append, List.length_append]; omega
section
variable {u : PU}
theorem r4_len (h : u.Wf) : (r4 u).length = 12 := by simp [r4, h.lR]
theorem regsE_len (h : u.Wf) : (regsE u).length = 11 := by simp [regsE, r4_len h]
theorem headE_len (h : u.Wf) : (headE u).length = 8368 := by simp [headE, regsE_len h, tailE, h.lV, h.lO]
theorem encU_len (h : u.Wf) : (encU u).length = 31408 := by simp [encU, headE_len h, h.lP]
/-- The four segments that all but the picture begins with. -/
def segsE (u : PU) (b b3 : Nat) : List Sg := [⟨some ⟨b, 0, none⟩, 8192, u.V⟩, ⟨some ⟨b, 8192, none⟩, 160, u.O⟩, ⟨some ⟨b3, 0, none⟩, 12, (r4 u).take 6⟩, ⟨some ⟨b3, 7, none⟩, 5, (r4 u).drop 7⟩]
theorem segsE_cat (u : PU) (b b3 : Nat) : catS (segsE u b b3) = u.V ++ u.O ++ regsE u := by simp [catS, segsE, regsE]
theorem segsE_len (h : u.Wf) (b b3 : Nat) : (catS (segsE u b b3)).length = 8363 := by rw [segsE_cat]; simp [regsE_len h, h.lV, h.lO]
theorem row_takeI {w : World} {b off : Nat} {l : List Int} (h : Row w b off (l.map (.int .u8))) (n : Nat) : Row w b off ((l.take n).map (.int .u8)) := fun j v hv => h j v (by
  rw [List.getElem?_map, List.getElem?_take] at hv
  split at hv
  · rw [List.getElem?_map]; exact hv
  · simp at hv)
theorem row_dropI {w : World} {b off : Nat} {l : List Int} (h : Row w b off (l.map (.int .u8))) (n : Nat) : Row w b (off + n) ((l.drop n).map (.int .u8)) := fun j v hv => by
  have := h (n + j) v (by
    rw [List.getElem?_map, List.getElem?_drop] at hv
    rw [List.getElem?_map]; exact hv)
  rwa [← Nat.add_assoc] at this
theorem segsE_ok (h : u.Wf) {w : World} {b b3 : Nat} (hr : Row w b 0 (cU u)) (h3 : Row w b3 0 ((r4 u).map (.int .u8))) : ∀ s ∈ segsE u b b3, Ns w .u8 s.a s.l ∧ s.l.length ≤ s.c := by
  intro s hs
  simp only [segsE, List.mem_cons, List.not_mem_nil, or_false] at hs
  rcases hs with rfl | rfl | rfl | rfl
  · exact ⟨Ns.of (rowV hr), by rw [h.lV]; exact Nat.le_refl _⟩
  · exact ⟨Ns.of (rowO h hr), by rw [h.lO]; exact Nat.le_refl _⟩
  · exact ⟨Ns.of (row_takeI h3 6), by simp [r4_len h]⟩
  · exact ⟨Ns.of (by simpa using row_dropI h3 7), by simp [r4_len h]⟩
theorem rowAt_len (h : u.Wf) (n : Int) : (rowAt u n).length = 160 := by
  unfold rowAt; split
  · have := h.lP; simp; omega
  · simp
theorem rowAt_in {n : Int} (hn : 0 ≤ n ∧ n < 144) : rowAt u n = (u.P.drop (n.toNat * 160)).take 160 := by unfold rowAt; rw [if_pos hn]
theorem rowAt_out {n : Int} (hn : ¬ (0 ≤ n ∧ n < 144)) : rowAt u n = List.replicate 160 0 := by unfold rowAt; rw [if_neg hn]
theorem rowPi (h : u.Wf) {w : World} {b : Nat} (hr : Row w b 0 (cU u)) {i : Nat} (_hi : i < 144) : Row w b (8369 + i * 160) (((u.P.drop (i * 160)).take 160).map (.int .u8)) := fun j v hv => by
  have := rowP h hr (i * 160 + j) v (by
    rw [List.getElem?_map] at hv ⊢
    rw [List.getElem?_take] at hv
    split at hv
    · rw [List.getElem?_drop] at hv; exact hv
    · simp at hv)
  rw [Nat.add_assoc]; exact this
theorem take_rows (l : List Int) (i : Nat) : l.take (i * 160) ++ (l.drop (i * 160)).take 160 = l.take ((i + 1) * 160) := by
  rw [Nat.add_mul, Nat.one_mul, List.take_add]
end
/-! ### of bytes -/
def decR (l : List Int) : List Int := ((l.drop 8352).take 6 ++ 0 :: (l.drop 8358).take 5).set 4 0
def decU (l : List Int) : PU := ⟨l.take 8192, (l.drop 8192).take 160, decR l, l.getD 8356 0, l.getD 8363 0, l.getD 8364 0, l.getD 8365 0 + 256 * l.getD 8366 0, l.getD 8367 0 == 1, l.drop 8368⟩
def okE (l : List Int) : Bool := decide (l.getD 8356 0 < 154) && decide (l.getD 8363 0 < 114) && (bandn .u8 (l.getD 8353 0) 120 == 0) && decide (l.getD 8367 0 ≤ 1) && (l.drop 8368).all (fun x => decide (x ≤ 3))
def decE (l : List Int) : Int := if l.length ≠ 31408 then 6 else if okE l = true then 0 else 5
def decTo (u : PU) (l : List Int) : PU := if decE l = 0 then decU l else u
end Go.Proofs.Ytjceoaomkbabmaa
