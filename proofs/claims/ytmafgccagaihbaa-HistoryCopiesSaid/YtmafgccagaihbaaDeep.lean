/- Many calls, and returns from them. Plain lists. -/
import Derived.Test.YtmafgccagaihbaaHist
import Derived.Test.YtmafgccagaihbaaVvS
namespace Go.Proofs.Ytmafgccagaihbaa
open Go Go.VV

def rst (i : Nat) : Cll := ⟨2, 0, i, 8, ((i : Int) + 1) % 65536⟩
def cr (j : Nat) : List Cll := ((List.range j).map rst).drop (j - 256)
def rstS (j : Nat) : Stp := ⟨j, 0, 1, 0, j, 28, 0, 0, 1, 0, true, 8⟩
def retS (j : Int) : Stp := ⟨j, 0, 1, 0, 0, 26, 4, 0, 1, 0, true, 0⟩
theorem rstS_ok {j : Nat} (h : j < 600) : StpOk (rstS j) := ⟨⟨by simp [rstS], by simp only [rstS]; omega⟩, by simp [rstS]⟩
theorem retS_ok (j : Int) : StpOk (retS j) := ⟨by simp [retS], by simp [retS]⟩
theorem cr_len (j : Nat) : (cr j).length = min j 256 := by simp [cr]; omega
theorem cr_step (j : Nat) : noteC (cr j) (rstS j) = cr (j + 1) := by
  have h1 : noteC (cr j) (rstS j) = layC (cr j) (rst j) := by simp [noteC, callOf, rstS, rst, backOf]
  rw [h1, layC, List.length_append, List.length_singleton, cr_len]
  have h2 : cr j ++ [rst j] = ((List.range (j + 1)).map rst).drop (j - 256) := by
    rw [List.range_succ, List.map_append, List.map_singleton, List.drop_append_of_le_length (by simp)]
    rfl
  rw [h2, List.drop_drop, cr, show j - 256 + (min j 256 + 1 - 256) = j + 1 - 256 by omega]
theorem ret_step (cs : List Cll) (i : Nat) (j : Int) : noteC (cs.take (cs.length - i)) (retS j) = cs.take (cs.length - (i + 1)) := by
  have h1 : ∀ l, noteC l (retS j) = l.dropLast := fun l => by simp [noteC, callOf, retS, retsB]
  rw [h1, List.dropLast_eq_take, List.take_take, List.length_take, show min (min (cs.length - i) cs.length - 1) (cs.length - i) = cs.length - (i + 1) by omega]
theorem cr_get {j i : Nat} (h : i < min j 256) : (cr j)[i]? = some (rst (j - 256 + i)) := by
  rw [cr, List.getElem?_drop, List.getElem?_map, List.getElem?_range (by omega)]; rfl
theorem crt_get {j m i : Nat} (h : i < min (min j 256) m) : ((cr j).take m)[i]? = some (rst (j - 256 + i)) := by
  rw [List.getElem?_take, if_pos (by omega), cr_get (by omega)]
theorem toN_600 {x : Int} (h : 0 ≤ x) : x.tmod 600 = ((x.toNat % 600 : Nat) : Int) := by
  rw [Int.tmod_eq_emod_of_nonneg h]; omega
end Go.Proofs.Ytmafgccagaihbaa
