/- One cell of a block of one's own turns. Plain lemmas; no program. -/
import Derived.Test.YtjceoaomkbabmaaVvU
import Derived.Laws.World
namespace Go.VV
open Go

theorem setCell_heap {w : World} {b off : Nat} {l : List Value} {T : TypeId} {fr : Nat × Nat} (h : w.heap[b]? = some (.cells l.toArray T fr)) (v : Value) : (w.setCell ⟨b, off, none⟩ v).heap[b]? = some (.cells (l.set off v).toArray T fr) := by
  unfold World.setCell
  simp only
  rw [Array.getElem?_modify, if_pos rfl, h]
  simp
theorem setCell_otherB {w : World} {a : Addr} {v : Value} (k : Nat) (hk : k ≠ a.block) : (w.setCell a v).heap[k]? = w.heap[k]? := by
  unfold World.setCell
  simp only
  rw [Array.getElem?_modify, if_neg (Ne.symm hk)]
theorem St.setCell {w0 w : World} {ms : List Nat} {R : Heap} {b off : Nat} {l : List Value} {T : TypeId} (h : St w0 ms ((b, blk l T) :: R) w) (v : Value) : St w0 ms ((b, blk (l.set off v) T) :: R) (w.setCell ⟨b, off, none⟩ v) :=
  h.turn rfl rfl rfl (by simp) (fun k hk => setCell_otherB k hk) (setCell_heap (h.holds (b, _) (.head _)) v)
theorem frozen_blk {w : World} {b off : Nat} {l : List Value} {T : TypeId} (h : w.heap[b]? = some (blk l T)) : w.frozen? ⟨b, off, none⟩ = false := by
  simp [World.frozen?, h]
/-- Behind a call of the very blocks that it turned. -/
theorem St.after {w0 w w' : World} {ms : List Nat} {A B : Heap} (h : St w0 ms A w) (h' : St w (A.map (·.1)) B w') : St w0 ms B w' := by
  have h1 : St w0 ms (A ++ []) w := by simpa using h
  have := h1.call (F := A) (ms2 := A.map (·.1)) (fun b hb => mem_fst hb) h'
  simpa using this
end Go.VV
