/- Calls behind steps, and behind further calls and returns. Plain lists. -/
import Derived.Test.YtmafgccagaihbaaDeep
namespace Go.Proofs.Ytmafgccagaihbaa
open Go Go.VV

def kp (keep : Int) : Nat := (max 1 (min keep 32)).toNat
theorem kp_ok (keep : Int) : 1 ≤ kp keep ∧ kp keep ≤ 32 := by unfold kp; omega
theorem noteC_le (cs : List Cll) (s : Stp) : (noteC cs s).length ≤ cs.length + 1 := by
  unfold noteC
  split
  · unfold layC; rw [List.length_drop, List.length_append, List.length_singleton]; omega
  · split
    · rw [List.length_dropLast]; omega
    · omega
theorem foldC_le : ∀ (l : List Stp) (cs : List Cll), (l.foldl noteC cs).length ≤ cs.length + l.length
  | [], cs => by simp
  | s :: l, cs => by
    have h1 := foldC_le l (noteC cs s)
    have h2 := noteC_le cs s
    rw [List.foldl_cons, List.length_cons]; omega
theorem callsL_le (l : List Stp) : (callsL l).length ≤ l.length := by
  have := foldC_le l []
  simpa [callsL] using this
theorem callsL_take {l : List Stp} {k : Nat} {s : Stp} (h : l[k]? = some s) : noteC (callsL (l.take k)) s = callsL (l.take (k + 1)) := by
  rw [get_part h, callsL_snoc]
theorem ring_take {keep : Nat} {ring : List Rcd} {l : List Stp} {k : Nat} {s : Stp} (h : l[k]? = some s) (hR : RingOk keep ring (l.take k)) (h1 : 1 ≤ keep) (h2 : keep ≤ 32) :
    RingOk keep (ring.set (k % keep) (recOf s)) (l.take (k + 1)) := by
  obtain ⟨hk, _⟩ := List.getElem?_eq_some_iff.1 h
  have := hR.step h1 h2 s
  rw [List.length_take, Nat.min_eq_left (by omega)] at this
  rwa [get_part h]

/-- A call, or a return. -/
def upS (up : Bool) : Stp := ⟨0, 0, 1, 0, 5, if up then 25 else 26, 4, 0, if up then 3 else 1, 0, true, 9⟩
def xC : Cll := ⟨1, 0, 5, 9, 8⟩
def deepC (cs : List Cll) (d : Nat) : List Cll := cs ++ List.replicate d xC
theorem deepC_len (cs : List Cll) (d : Nat) : (deepC cs d).length = cs.length + d := by simp [deepC]
theorem upS_ok (up : Bool) : StpOk (upS up) := by cases up <;> exact ⟨by simp [upS], by simp [upS]⟩
theorem deep_up {cs : List Cll} {d : Nat} (h : cs.length + d < 256) : noteC (deepC cs d) (upS true) = deepC cs (d + 1) := by
  have h1 : noteC (deepC cs d) (upS true) = layC (deepC cs d) xC := by simp [noteC, callOf, upS, xC, backOf]
  rw [h1, lay_no (by rw [List.length_append, deepC_len, List.length_singleton]; omega)]
  simp only [deepC, List.append_assoc, List.replicate_succ']
theorem deep_down (cs : List Cll) (d : Nat) : noteC (deepC cs (d + 1)) (upS false) = deepC cs d := by
  have h1 : ∀ l, noteC l (upS false) = l.dropLast := fun l => by simp [noteC, callOf, upS, retsB]
  rw [h1]
  simp only [deepC, List.replicate_succ', ← List.append_assoc, List.dropLast_concat]
theorem deep_zero (cs : List Cll) : deepC cs 0 = cs := by simp [deepC]
end Go.Proofs.Ytmafgccagaihbaa
