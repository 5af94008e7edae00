/- Elements of slices that are read: cells and rows of one element. Plain lemmas; no program. -/
import Derived.Test.YtmafgccagaihbaaVvQ
namespace Go.VV
open Go

/-- Readable wherever the blocks 'G' are as they are. -/
def RowsIn (G : Heap) (b off : Nat) (xs : List Value) : Prop := ∀ w : World, (∀ x ∈ G, w.heap[x.1]? = some x.2) → Row w b off xs
theorem RowsIn.row {G H : Heap} {b off : Nat} {xs : List Value} (h : RowsIn G b off xs) (hs : ∀ x ∈ G, x ∈ H) {w0 : World} {ms : List Nat} : ∀ w, St w0 ms H w → Row w b off xs :=
  fun w hw => h w fun x hx => hw.holds x (hs x hx)
theorem RowsIn.srow {Γ : Ctx} {G F : Heap} {b off : Nat} {xs : List Value} (h : RowsIn G b off xs) (hs : ∀ x ∈ G, x ∈ F) : ∀ w, Stood Γ F w → Row w b off xs :=
  fun w ⟨_, hw, hF⟩ => h.row (fun x hx => hF x (hs x hx)) w hw
section
variable {α : Type} {c : α → List Value} {s : Nat}
theorem Row.at {w : World} {b off : Nat} {l : List α} {i : Nat} {x : α} (h : Row w b off (flat c l)) (hc : ∀ x, (c x).length = s) (hi : l[i]? = some x) (j : Nat) {v : Value} (hv : (c x)[j]? = some v) :
    w.cell? ⟨b, off + i * s + j, none⟩ = some v := Row.nth' hc h hi j v hv
/-- .. a part of one. -/
theorem Row.part {w : World} {b off : Nat} {l : List α} {i : Nat} {x : α} (h : Row w b off (flat c l)) (hc : ∀ x, (c x).length = s) (hi : l[i]? = some x) (j n : Nat) {v : List Value} (hv : spine (((c x).drop j).take n) = some v) :
    Row w b (off + i * s + j) v := (Row.nth' hc h hi).seg j n hv
theorem Vec.rows {T n : Nat} {v : Value} {G : Heap} {l : List α} (h : Vec T s v n (flat c l) G) (hc : ∀ x, (c x).length = s) (hs : 0 < s) :
    ∃ a cp, v = .slice a n cp ∧ l.length = n ∧ n ≤ cp ∧ (0 < l.length → ∃ b, a = some ⟨b, 0, none⟩ ∧ RowsIn G b 0 (flat c l)) := by
  have hl := h.len
  rw [flat_len hc] at hl
  have hn : l.length = n := Nat.eq_of_mul_eq_mul_right hs hl
  generalize hx : flat c l = xs at h
  cases h with
  | nil => exact ⟨none, 0, rfl, hn, Nat.le_refl _, fun h0 => by omega⟩
  | row b _ cap _ sp h1 h2 h3 h4 =>
    refine ⟨_, cap, rfl, hn, h4, fun _ => ⟨b, rfl, fun w hw => ?_⟩⟩
    exact (Row.all (w := w) (b := b) (hw _ (.head _))).left
theorem get_part {l : List α} {i k : Nat} {x : α} (h : l[i]? = some x) : (l.take (i + 1)) = l.take i ++ [x] := by
  rw [List.take_add_one, h]; rfl
theorem get_some {l : List α} {i : Nat} (h : i < l.length) : l[i]? = some l[i] := List.getElem?_eq_getElem h
end
/-- What lies behind lies apart. -/
theorem St.apart {w0 w : World} {ms : List Nat} {F R : Heap} (h : St w0 ms (F ++ R) w) {b : Nat} {o : Obj} (hm : (b, o) ∈ R) : b ∉ F.map (·.1) := fun hb => by
  have hn := h.nodup
  rw [List.map_append, List.nodup_append] at hn
  exact hn.2.2 _ hb _ (List.mem_map.2 ⟨_, hm, rfl⟩) rfl
end Go.VV
