/- Heaps in parts: some of the parts, in another order. Plain lemmas; no program. -/
import Derived.Test.YtjceoaomkbabmaaVvM
namespace Go.VV
open Go

/-- Parts, one behind the other. -/
def fl : List Heap → Heap
  | [] => []
  | [a] => a
  | a :: b :: r => a ++ fl (b :: r)
theorem fl_cons (a : Heap) (cs : List Heap) : fl (a :: cs) = a ++ fl cs := by
  cases cs with
  | nil => simp [fl]
  | cons b r => rfl
theorem fl_eq : ∀ (cs : List Heap), fl cs = cs.flatten
  | [] => rfl
  | a :: cs => by rw [fl_cons, fl_eq cs, List.flatten_cons]

theorem flatten_perm {α : Type} {a b : List (List α)} (h : a.Perm b) : a.flatten.Perm b.flatten := by
  induction h with
  | nil => exact .refl _
  | cons x _ ih => simpa using ih.append_left x
  | swap x y l =>
    simp only [List.flatten_cons]
    rw [← List.append_assoc, ← List.append_assoc]
    exact List.Perm.append_right _ List.perm_append_comm
  | trans _ _ ih1 ih2 => exact ih1.trans ih2
theorem flatten_sub {α : Type} {a b : List (List α)} (h : a.Sublist b) : a.flatten.Sublist b.flatten := by
  induction h with
  | slnil => exact .refl _
  | cons x _ ih => rw [List.flatten_cons]; exact ih.trans (List.sublist_append_right _ _)
  | cons_cons x _ ih => rw [List.flatten_cons, List.flatten_cons]; exact (List.Sublist.refl _).append ih

/-- Numbers, each at most once, of what there are. -/
def ixB (n : Nat) : List Nat → Bool
  | [] => true
  | i :: r => Nat.blt i n && !(r.any (Nat.beq i)) && ixB n r
theorem ix_perm {α : Type} : ∀ (ix : List Nat) (cs : List α), ixB cs.length ix = true → ∃ rest, cs.Perm (ix.filterMap (cs[·]?) ++ rest) := by
  intro ix cs h
  have hnd : ix.Nodup ∧ ∀ i ∈ ix, i < cs.length := by
    induction ix with
    | nil => exact ⟨List.nodup_nil, fun _ h => by cases h⟩
    | cons i r ih =>
      simp only [ixB, Bool.and_eq_true, Bool.not_eq_true'] at h
      obtain ⟨⟨h1, h2⟩, h3⟩ := h
      obtain ⟨g1, g2⟩ := ih h3
      refine ⟨List.nodup_cons.2 ⟨fun hm => ?_, g1⟩, fun j hj => ?_⟩
      · have : r.any (Nat.beq i) = true := List.any_eq_true.2 ⟨i, hm, Nat.beq_refl i⟩
        rw [this] at h2; cases h2
      · rcases List.mem_cons.1 hj with rfl | hj
        · exact Nat.lt_of_lt_of_le (Nat.lt_succ_self _) (Nat.le_of_ble_eq_true h1)
        · exact g2 j hj
  have hall : cs = (List.range cs.length).filterMap (cs[·]?) := by
    clear h hnd
    induction cs with
    | nil => rfl
    | cons x L ih =>
      rw [List.length_cons, List.range_succ_eq_map, List.filterMap_cons]
      simp only [List.getElem?_cons_zero, List.filterMap_map, Function.comp_def, List.getElem?_cons_succ]
      rw [← ih]
  refine ⟨((List.range cs.length).filter (fun i => !ix.contains i)).filterMap (cs[·]?), ?_⟩
  conv => lhs; rw [hall]
  rw [← List.filterMap_append]
  refine List.Perm.filterMap _ ?_
  rw [List.perm_ext_iff_of_nodup List.nodup_range (List.nodup_append.2 ⟨hnd.1, List.nodup_range.filter _, fun a ha b hb => by rintro rfl; simp at hb; exact hb.2 ha⟩)]
  intro a
  simp only [List.mem_range, List.mem_append, List.mem_filter, Bool.not_eq_true', List.contains_eq_mem, decide_eq_false_iff_not]
  constructor
  · intro ha
    by_cases hm : a ∈ ix
    · exact .inl hm
    · exact .inr ⟨ha, hm⟩
  · rintro (hm | hm)
    · exact hnd.2 a hm
    · exact hm.1

/-- Some of the parts, in another order. -/
theorem St.fl {w0 w : World} {ms : List Nat} (cs : List Heap) (ix : List Nat) (hp : ixB cs.length ix = true) (h : St w0 ms (VV.fl cs) w) : St w0 ms (VV.fl (ix.filterMap (cs[·]?))) w := by
  obtain ⟨rest, hr⟩ := ix_perm ix cs hp
  rw [fl_eq] at h ⊢
  exact (h.perm (flatten_perm hr)).sub (by rw [List.flatten_append]; exact List.sublist_append_left _ _)
/-- .. out of nested parts. -/
theorem St.as {w0 w : World} {ms : List Nat} {L L' : Heap} (h : St w0 ms L w) (he : L = L') : St w0 ms L' w := he ▸ h
end Go.VV
