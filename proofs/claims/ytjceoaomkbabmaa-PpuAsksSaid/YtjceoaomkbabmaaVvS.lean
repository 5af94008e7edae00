/- Elements of slices that are read: cells and rows of one element. Plain lemmas; no program. -/
import Derived.Test.YtjceoaomkbabmaaVvQ
namespace Go.VV
open Go

/-- Readable wherever the blocks 'G' are as they are. -/
def RowsIn (G : Heap) (b off : Nat) (xs : List Value) : Prop := ∀ w : World, (∀ x ∈ G, w.heap[x.1]? = some x.2) → Row w b off xs
theorem RowsIn.row {G H : Heap} {b off : Nat} {xs : List Value} (h : RowsIn G b off xs) (hs : ∀ x ∈ G, x ∈ H) {w0 : World} {ms : List Nat} : ∀ w, St w0 ms H w → Row w b off xs :=
  fun w hw => h w fun x hx => hw.holds x (hs x hx)
theorem RowsIn.srow {Γ : Ctx} {G F : Heap} {b off : Nat} {xs : List Value} (h : RowsIn G b off xs) (hs : ∀ x ∈ G, x ∈ F) : ∀ w, Stood Γ F w → Row w b off xs :=
  fun w ⟨_, hw, hF⟩ => h.row (fun x hx => hF x (hs x hx)) w hw
section
variable {α : Type} {c : α → List Value} {s : Nat}
theorem Row.at {w : World} {b off : Nat} {l : List α} {i : Nat} {x : α} (h : Row w b off (flat c l)) (hc : ∀ x, (c x).length = s) (hi : l[i]? = some x) (j : Nat) {v : Value} (hv : (c x)[j]? = some v) :
    w.cell? ⟨b, off + i * s + j, none⟩ = some v := Row.nth' hc h hi j v hv
/-- .. a part of one. -/
theorem Row.part {w : World} {b off : Nat} {l : List α} {i : Nat} {x : α} (h : Row w b off (flat c l)) (hc : ∀ x, (c x).length = s) (hi : l[i]? = some x) (j n : Nat) {v : List Value} (hv : spine (((c x).drop j).take n) = some v) :
    Row w b (off + i * s + j) v := (Row.nth' hc h hi).seg j n hv
theorem Vec.rows {T n : Nat} {v : Value} {G : Heap} {l : List α} (h : Vec T s v n (flat c l) G) (hc : ∀ x, (c x).length = s) (hs : 0 < s) :
    ∃ a cp, v = .slice a n cp ∧ l.length = n ∧ n ≤ cp ∧ (0 < l.length → ∃ b, a = some ⟨b, 0, none⟩ ∧ RowsIn G b 0 (flat c l)) := by
  have hl := h.len
  rw [flat_len hc] at hl
  have hn : l.length = n := Nat.eq_of_mul_eq_mul_right hs hl
  generalize hx : flat c l = xs at h
  cases h with
  | nil => exact ⟨none, 0, rfl, hn, Nat.le_refl _, fun h0 => by omega⟩
  | row b _ cap _ sp h1 h2 h3 h4 =>
    refine ⟨_, cap, rfl, hn, h4, fun _ => ⟨b, rfl, fun w hw => ?_⟩⟩
    exact (Row.all (w := w) (b := b) (hw _ (.head _))).left
theorem get_part {l : List α} {i : Nat} {x : α} (h : l[i]? = some x) : (l.take (i + 1)) = l.take i ++ [x] := by
  rw [List.take_add_one, h]; rfl
theorem get_some {l : List α} {i : Nat} (h : i < l.length) : l[i]? = some l[i] := List.getElem?_eq_getElem h
end
/-! ### a slice that is only read from here on: nil, or a part of a row -/
section
variable {α : Type} {c : α → List Value} {s : Nat}
def Seg (c : α → List Value) (l : List α) (v : Value) (G : Heap) : Prop :=
  (v = .slice none 0 0 ∧ l = [] ∧ G = []) ∨ ∃ b off cp, v = .slice (some ⟨b, off, none⟩) l.length cp ∧ l.length ≤ cp ∧ RowsIn G b off (flat c l)
theorem Seg.nil : Seg c [] (.slice none 0 0) [] := .inl ⟨rfl, rfl, rfl⟩
theorem Seg.of {l : List α} {b off n cp : Nat} {G : Heap} (hn : n = l.length) (h : l.length ≤ cp) (hr : RowsIn G b off (flat c l)) : Seg c l (.slice (some ⟨b, off, none⟩) n cp) G := by
  subst hn; exact .inr ⟨b, off, cp, rfl, h, hr⟩
theorem Seg.slice {l : List α} {v : Value} {G : Heap} (h : Seg c l v G) : ∃ a cp, v = .slice a l.length cp ∧ l.length ≤ cp ∧ (0 < l.length → ∃ b off, a = some ⟨b, off, none⟩ ∧ RowsIn G b off (flat c l)) := by
  rcases h with ⟨rfl, rfl, rfl⟩ | ⟨b, off, cp, rfl, h1, h2⟩
  · exact ⟨none, 0, rfl, Nat.le_refl _, fun h => by simp at h⟩
  · exact ⟨_, cp, rfl, h1, fun _ => ⟨b, off, rfl, h2⟩⟩
theorem RowsIn.left {G : Heap} {b off : Nat} {xs ys : List Value} (h : RowsIn G b off (xs ++ ys)) : RowsIn G b off xs := fun w hw => (h w hw).left
theorem RowsIn.own (b : Nat) (xs : List Value) (T : TypeId) : RowsIn [(b, blk xs T)] b 0 xs := fun w hw => Row.all (w := w) (b := b) (hw _ (.head _))
theorem RowsIn.dropE {G : Heap} {b off j cp : Nat} {l : List α} (h : RowsIn G b off (flat c l)) (hc : ∀ x, (c x).length = s) (hj : j ≤ l.length) (hcp : l.length ≤ cp) : RowsIn G b (cutAt off j s cp) (flat c (l.drop j)) :=
  fun w hw => row_dropE hc (sp := []) (by rw [List.append_nil]; exact h w hw) hj hcp
theorem RowsIn.takeE {G : Heap} {b off : Nat} {l : List α} (h : RowsIn G b off (flat c l)) (j : Nat) : RowsIn G b off (flat c (l.take j)) := fun w hw => by
  have h1 : flat c l = flat c (l.take j) ++ flat c (l.drop j) := by rw [← flat_append, List.take_append_drop]
  have h2 := h w hw
  rw [h1] at h2
  exact h2.left
end
/-- s[:h], whatever s is. -/
theorem cut_pre {P : Program} {e : Env} {d : Option Nat} {ty : TypeId} {pos : String} {af : Array Edge} {g : Option (Nat × Bool)} {t : TypeId} {x hi : Operand} {a : Option Addr} {n c el s : Nat} {jh : Int} (h : Nat)
    (hx : vnf (ev e x) = some (.slice a n c)) (hu : slcP P t = some (el, s)) (hhi : bndF e (some hi) = some (some jh)) (hh : jh = (h : Int)) (h2 : h ≤ c) :
    light P e ⟨d, .slice t x none (some hi) none, ty, pos, af, g⟩ = some (.slice a h c) := by
  obtain ⟨g1, g2⟩ := slcP_spec hu
  have hx := vnf_eq hx
  refine light_of_pure ?_ rfl
  have hb := bounds_run (e := e) (lo := none) (hi := some hi) (isS := true) (n := n) (c := c) (jl := none) (jh := some jh) 0 h rfl hhi rfl (by simpa using hh) (Nat.zero_le _) h2
  rw [Option.map_none] at hb
  simp only [execOp, hx, Instr.sliceAt, Instr.slice, bind_assoc, pure_underlying g1, Option.map_none, hb, pure_pure, pure_size g2]
  have : (if c = 0 then a else a.map (·.add (0 * s))) = a := by
    split
    · rfl
    · cases a <;> simp [Addr.add]
  rw [this]; rfl
/-- What lies behind lies apart. -/
theorem St.apart {w0 w : World} {ms : List Nat} {F R : Heap} (h : St w0 ms (F ++ R) w) {b : Nat} {o : Obj} (hm : (b, o) ∈ R) : b ∉ F.map (·.1) := fun hb => by
  have hn := h.nodup
  rw [List.map_append, List.nodup_append] at hn
  exact hn.2.2 _ hb _ (List.mem_map.2 ⟨_, hm, rfl⟩) rfl
end Go.VV
