/- What is peeked. Plain definitions and laws, no program. -/
import Derived.Test.YtldehodcfajpjaaGreatQcM
set_option linter.unusedSimpArgs false
set_option linter.unusedVariables false
set_option maxRecDepth 100000
namespace Go.VV
open Go Go.RowKit
section
variable {ops : Array Oper} {md : Region.Mode} {need : Nat → Bool}
def ancOf (md : Region.Mode) (anc : List Nat) (l : List Edge) : Nat := l.foldr (fun e m => bif Region.binds md e then Nat.lor (Nat.lor m (1 <<< e.on)) (anc.getD e.on 0) else m) 0
def ancOk (md : Region.Mode) (ops : Array Oper) (anc : List Nat) : Bool :=
 (List.range ops.size).all fun j => match ops[j]? with
  | some oj => Nat.beq (anc.getD j 0) (ancOf md anc oj.after.toList) && oj.after.toList.all fun e => !Region.binds md e || Nat.blt e.on j
  | none => true
theorem ancOf_bit {anc : List Nat} {i : Nat} : ∀ {l : List Edge}, (ancOf md anc l).testBit i = true → ∃ e ∈ l, Region.binds md e = true ∧ (e.on = i ∨ (anc.getD e.on 0).testBit i = true)
 | [], h => by simp [ancOf] at h
 | e :: l, h => by
  have ih := ancOf_bit (anc := anc) (i := i) (l := l)
  simp only [ancOf, List.foldr_cons] at h ih
  cases hb : Region.binds md e
  ·rw [hb, cond_false] at h
   obtain ⟨x, hx, h2⟩ := ih h
   exact ⟨x, .tail _ hx, h2⟩
  ·rw [hb, cond_true] at h
   have h3 : (List.foldr (fun e m => bif Region.binds md e then Nat.lor (Nat.lor m (1 <<< e.on)) (anc.getD e.on 0) else m) 0 l ||| (1 <<< e.on) ||| (anc.getD e.on 0)).testBit i = true := h
   rw [Nat.testBit_or, Nat.testBit_or, Bool.or_eq_true, Bool.or_eq_true] at h3
   rcases h3 with (h3 | h3) | h3
   ·obtain ⟨x, hx, h2⟩ := ih h3
    exact ⟨x, .tail _ hx, h2⟩
   ·refine ⟨e, .head _, hb, .inl ?_⟩
    rw [Nat.testBit_shiftLeft] at h3
    simp only [Bool.and_eq_true, decide_eq_true_eq] at h3
    have h4 : i - e.on = 0 := by
     rcases Nat.eq_zero_or_pos (i - e.on) with h5 | h5
     ·exact h5
     ·have := h3.2
      rw [Nat.testBit_one_eq_true_iff_self_eq_zero] at this
      exact this
    omega
   ·exact ⟨e, .head _, hb, .inr h3⟩
theorem waits_mono {i : Nat} : ∀ {f g j : Nat}, f ≤ g → waits md ops i f j = true → waits md ops i g j = true
 | 0, _, _, _, h => by simp [waits] at h
 | f + 1, 0, _, hle, _ => by omega
 | f + 1, g + 1, j, hle, h => by
  simp only [waits] at h ⊢
  split at h
  ·rename_i oj hoj
   obtain ⟨e, he, hb⟩ := Array.any_eq_true'.1 h
   refine Array.any_eq_true'.2 ⟨e, he, ?_⟩
   simp only [Bool.and_eq_true, Bool.or_eq_true] at hb ⊢
   exact ⟨hb.1, hb.2.imp id fun h2 => waits_mono (by omega) h2⟩
  ·cases h
theorem waits_anc {anc : List Nat} (hA : ancOk md ops anc = true) {i : Nat} : ∀ (n j : Nat), j < n → j < ops.size → (anc.getD j 0).testBit i = true → waits md ops i (j + 1) j = true
 | 0, _, h, _, _ => by omega
 | n + 1, j, hj, hs, hb => by
  have h1 := List.all_eq_true.1 hA j (List.mem_range.2 hs)
  have hoj : ops[j]? = some ops[j] := by simp [hs]
  rw [hoj] at h1
  simp only [Bool.and_eq_true] at h1
  obtain ⟨h2, h3⟩ := h1
  rw [Nat.eq_of_beq_eq_true h2] at hb
  obtain ⟨e, he, hbe, hor⟩ := ancOf_bit hb
  have h4 := List.all_eq_true.1 h3 e he
  rw [hbe, Bool.not_true, Bool.false_or] at h4
  have hlt : e.on < j := by simpa [Nat.blt_eq] using h4
  simp only [waits, hoj]
  refine Array.any_eq_true'.2 ⟨e, by simpa using he, ?_⟩
  rw [hbe, Bool.true_and, Bool.or_eq_true]
  rcases hor with rfl | hor
  ·exact .inl (by simp)
  ·exact .inr (waits_mono (by omega) (waits_anc hA n e.on (by omega) (by omega) hor))
def keepF (ops : Array Oper) (need : Nat → Bool) (anc : List Nat) (listed : Array Bool) (i : Nat) : Bool :=
 (List.range ops.size).all fun j => Nat.beq j i || need j || (anc.getD j 0).testBit i || listed.getD j true
theorem keepF_ok {anc : List Nat} (hA : ancOk md ops anc = true) {listed : Array Bool} {i : Nat} (h : keepF ops need anc listed i = true) : keepB md ops need listed i = true := by
 refine List.all_eq_true.2 fun j hj => ?_
 have h1 := List.all_eq_true.1 h j hj
 have hs := List.mem_range.1 hj
 simp only [Bool.or_eq_true] at h1 ⊢
 rcases h1 with ((h1 | h1) | h1) | h1
 ·exact .inl (.inl (.inl (by rw [Nat.eq_of_beq_eq_true h1]; simp)))
 ·exact .inr h1
 ·exact .inl (.inr (waits_mono (by omega) (waits_anc hA (j + 1) j (by omega) hs h1)))
 ·exact .inl (.inl (.inr h1))
def planF (md : Region.Mode) (ops : Array Oper) (need : Nat → Bool) (anc : List Nat) : Plan → Nat → Bool → Array Bool → Bool → Bool
 | .done, _, top, listed, _ => top && (Region.ready md ops listed).isEmpty
 | .step true i r, fuel + 1, top, listed, s => top && (!(looksAt ops i) || (s && keepF ops need anc listed i)) && (Region.ready md ops listed).contains i && Region.free md ops listed i && planF md ops need anc r fuel true (listed.setIfInBounds i true) s
 | .step false i r, fuel + 1, top, listed, s => top && (Region.ready md ops listed == [i]) && planF md ops need anc r fuel true (listed.setIfInBounds i true) (s && need i)
 | .fork i r o, fuel + 1, top, listed, s => (!top || Region.ready md ops listed == i :: o.heads) && (Region.ready md ops listed).contains i && planF md ops need anc r fuel true (listed.setIfInBounds i true) (s && need i) && planF md ops need anc o (fuel + 1) false listed s
 | .stop, _, top, _, _ => !top
 | .step _ _ _, 0, _, _, _ => false
 | .fork _ _ _, 0, _, _, _ => false
theorem planF_ok {anc : List Nat} (hA : ancOk md ops anc = true) : ∀ (pl : Plan) (fuel : Nat) (top : Bool) (listed : Array Bool) (s : Bool), planF md ops need anc pl fuel top listed s = true → planB md ops need pl fuel top listed s = true
 | .done, _, _, _, _, h => h
 | .stop, _, _, _, _, h => h
 | .step true i r, fuel + 1, top, listed, s, h => by
  simp only [planF, planB, Bool.and_eq_true, Bool.or_eq_true] at h ⊢
  exact ⟨⟨⟨⟨h.1.1.1.1, h.1.1.1.2.imp id fun h2 => ⟨h2.1, keepF_ok hA h2.2⟩⟩, h.1.1.2⟩, h.1.2⟩, planF_ok hA r fuel _ _ _ h.2⟩
 | .step false i r, fuel + 1, top, listed, s, h => by
  simp only [planF, planB, Bool.and_eq_true] at h ⊢
  exact ⟨h.1, planF_ok hA r fuel _ _ _ h.2⟩
 | .fork i r o, fuel + 1, top, listed, s, h => by
  simp only [planF, planB, Bool.and_eq_true] at h ⊢
  exact ⟨⟨h.1.1, planF_ok hA r fuel _ _ _ h.1.2⟩, planF_ok hA o (fuel + 1) _ _ _ h.2⟩
 | .step true _ _, 0, _, _, _, h => by simp [planF] at h
 | .step false _ _, 0, _, _, _, h => by simp [planF] at h
 | .fork _ _ _, 0, _, _, _, h => by simp [planF] at h
end
section
variable {Γ : Ctx} {k : Kont} {e : Env} {H : Heap}
theorem c_drawF {id : Nat} {l : List Oper} (F : Heap) (need anc : List Nat) (pl : Plan) (hm : Γ.P.follows .mixedOrders = true) (hs : plainOps l.toArray = true) (hA : ancOk .any l.toArray anc = true)
  (hB : planF .any l.toArray (fun i => need.any (Nat.beq i)) anc pl l.toArray.size true (Array.replicate l.toArray.size false) true = true)
  (hF : ∀ x ∈ F, x ∈ H) (h : L2 Γ l (Stood Γ F) need pl k e H) : C Γ (.region id l.toArray true) k e H :=
 c_draw F need pl hm hs (planF_ok hA pl _ _ _ _ hB) hF h
end
end Go.VV
namespace Go.Proofs.YtldehodcfajpjaaGreat
open Go Go.VV Go.Proofs
theorem call_35 : callable Tryz.prog 35 = true := by kernel_rfl
end Go.Proofs.YtldehodcfajpjaaGreat
namespace Go.Proofs.YtldehodcfajpjaaGreat
open Go Go.VV
section
variable {m : Mm} {a : Int}
theorem pict_work (h : 49152 ≤ a ∧ a < 65024) : pictured a = false := decide_eq_false o_m
theorem peek_work (h : 49152 ≤ a ∧ a < 65024) : peekM a m = m.work.getD (a % 8192).toNat 0 := by
 unfold peekM
 rw [if_neg o_m, pict_work h, if_neg y_c, if_neg o_m, if_pos o_m]
theorem peek_rom (h : a < 32768) : peekM a m = m.rom.getD (romB a m.bk).toNat 0 := if_pos h
end
end Go.Proofs.YtldehodcfajpjaaGreat
