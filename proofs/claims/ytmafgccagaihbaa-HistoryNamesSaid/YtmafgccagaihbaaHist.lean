/- What steps leave: calls, and the last steps. Plain lists. -/
import Derived.Test.YtmafgccagaihbaaVvQ
namespace Go.Proofs.Ytmafgccagaihbaa
open Go Go.VV

structure Stp where
  n : Int
  bank : Int
  what : Int
  dn : Int
  at_ : Int
  kind : Int
  x : Int
  y : Int
  size : Int
  m : Int
  taken : Bool
  to : Int
def cD (s : Stp) : List Value := [.int .i64 s.what, .int .i64 s.dn, .int .u16 s.at_, .int .i64 s.kind, .int .i64 s.x, .int .i64 s.y, .int .i64 s.size, .int .u16 s.m, .bool s.taken]
def cS (s : Stp) : List Value := [.int .u64 s.n, .int .i64 s.bank, .int .i64 s.what, .int .i64 s.dn, .int .u16 s.at_, .int .i64 s.kind, .int .i64 s.x, .int .i64 s.y, .int .i64 s.size, .int .u16 s.m, .bool s.taken, .int .u16 s.to]
theorem cS_len (s : Stp) : (cS s).length = 12 := rfl
def ksS : List CK := [.int .u64, .int .i64, .int .i64, .int .i64, .int .u16, .int .i64, .int .i64, .int .i64, .int .i64, .int .u16, .bool, .int .u16]
structure StpOk (s : Stp) : Prop where
  at0 : 0 ≤ s.at_ ∧ s.at_ < 65536
  size : -9223372036854775808 ≤ s.size ∧ s.size ≤ 9223372036854775807
theorem cS_of (cs : List Value) (h0 : Cks ksS cs) : ∃ s, cs = cS s ∧ StpOk s := by
  obtain ⟨n, _, rfl, _, h1⟩ := ck_i h0
  obtain ⟨b, _, rfl, _, h2⟩ := ck_i h1
  obtain ⟨w, _, rfl, _, h3⟩ := ck_i h2
  obtain ⟨d, _, rfl, _, h4⟩ := ck_i h3
  obtain ⟨a, _, rfl, ha, h5⟩ := ck_i h4
  obtain ⟨k, _, rfl, _, h6⟩ := ck_i h5
  obtain ⟨x, _, rfl, _, h7⟩ := ck_i h6
  obtain ⟨y, _, rfl, _, h8⟩ := ck_i h7
  obtain ⟨z, _, rfl, hz, h9⟩ := ck_i h8
  obtain ⟨m, _, rfl, _, h10⟩ := ck_i h9
  obtain ⟨t, _, rfl, h11⟩ := ck_b h10
  obtain ⟨to, _, rfl, _, h12⟩ := ck_i h11
  obtain rfl := ck_0 h12
  exact ⟨⟨n, b, w, d, a, k, x, y, z, m, t, to⟩, rfl, ⟨wf_u16 ha, wf_i64 hz⟩⟩

structure Cll where
  kind : Int
  bank : Int
  at_ : Int
  to : Int
  back : Int
def cC (c : Cll) : List Value := [.int .i64 c.kind, .int .i64 c.bank, .int .u16 c.at_, .int .u16 c.to, .int .u16 c.back]
theorem cC_len (c : Cll) : (cC c).length = 5 := rfl
def c0 : Cll := ⟨0, 0, 0, 0, 0⟩
structure Rcd where
  n : Int
  what : Int
  bank : Int
  at_ : Int
  kind : Int
  x : Int
  y : Int
  size : Int
  m : Int
def cR (r : Rcd) : List Value := [.int .u64 r.n, .int .i64 r.what, .int .i64 r.bank, .int .u16 r.at_, .int .i64 r.kind, .int .i64 r.x, .int .i64 r.y, .int .i64 r.size, .int .u16 r.m]
theorem cR_len (r : Rcd) : (cR r).length = 9 := rfl
def r0 : Rcd := ⟨0, 0, 0, 0, 0, 0, 0, 0, 0⟩
def recOf (s : Stp) : Rcd := ⟨s.n, s.what, s.bank, s.at_, s.kind, s.x, s.y, s.size, s.m⟩

/-! ### calls -/
def backOf (s : Stp) : Int := (s.at_ + s.size) % 65536
def callOf (s : Stp) : Option Cll :=
  if s.what = 2 then some ⟨3, s.bank, s.at_, s.to, s.at_⟩
  else if s.what = 1 ∧ s.kind = 25 ∧ s.taken = true then some ⟨1, s.bank, s.at_, s.to, backOf s⟩
  else if s.what = 1 ∧ s.kind = 28 then some ⟨2, s.bank, s.at_, s.to, backOf s⟩ else none
def retsB (s : Stp) : Bool := decide (s.what = 1) && ((decide (s.kind = 26) && s.taken) || decide (s.kind = 27))
def layC (cs : List Cll) (c : Cll) : List Cll := (cs ++ [c]).drop ((cs ++ [c]).length - 256)
def noteC (cs : List Cll) (s : Stp) : List Cll :=
  match callOf s with
  | some c => layC cs c
  | none => if retsB s = true then cs.dropLast else cs
def callsL (l : List Stp) : List Cll := l.foldl noteC []
theorem callsL_snoc (l : List Stp) (s : Stp) : callsL (l ++ [s]) = noteC (callsL l) s := by simp [callsL]
theorem layC_len (cs : List Cll) (c : Cll) : (layC cs c).length ≤ 256 := by unfold layC; rw [List.length_drop]; omega
theorem noteC_len {cs : List Cll} (h : cs.length ≤ 256) (s : Stp) : (noteC cs s).length ≤ 256 := by
  unfold noteC
  split
  · exact layC_len _ _
  · split
    · rw [List.length_dropLast]; omega
    · exact h
theorem foldC_len : ∀ (l : List Stp) {cs : List Cll}, cs.length ≤ 256 → (l.foldl noteC cs).length ≤ 256
  | [], _, h => h
  | s :: l, _, h => foldC_len l (noteC_len h s)
theorem callsL_len (l : List Stp) : (callsL l).length ≤ 256 := foldC_len l (by simp)
theorem back_law {s : Stp} (_h : StpOk s) : IntKind.u16.wrap (s.at_ + IntKind.u16.wrap s.size) = backOf s := by
  rw [wrap_u16, wrap_u16, backOf]; omega

/-! ### records -/
def RingOk (keep : Nat) (ring : List Rcd) (l : List Stp) : Prop := ring.length = 32 ∧ ∀ i, (hi : i < l.length) → l.length ≤ i + keep → ring[i % keep]? = some (recOf l[i])
theorem RingOk.start (keep : Nat) {ring : List Rcd} (h : ring.length = 32) : RingOk keep ring [] := ⟨h, fun i hi => by simp at hi⟩
theorem RingOk.step {keep : Nat} {ring : List Rcd} {l : List Stp} (h : RingOk keep ring l) (h1 : 1 ≤ keep) (h2 : keep ≤ 32) (s : Stp) : RingOk keep (ring.set (l.length % keep) (recOf s)) (l ++ [s]) := by
  refine ⟨by rw [List.length_set]; exact h.1, fun i hi hk => ?_⟩
  rw [List.length_append, List.length_singleton] at hi hk
  rw [List.getElem?_set]
  rcases Nat.lt_or_ge i l.length with hl | hl
  · have hne : ¬ l.length % keep = i % keep := fun he => by
      -- both lie in a window shorter than 'keep'
      have h5 : (l.length - i) % keep = 0 := by
        rw [Nat.sub_mod_eq_zero_of_mod_eq he]
      have h6 : l.length - i < keep := by omega
      rw [Nat.mod_eq_of_lt h6] at h5
      omega
    rw [if_neg hne, h.2 i hl (by omega), List.getElem_append_left hl]
  · have : i = l.length := by omega
    subst this
    have hm : l.length % keep < 32 := Nat.lt_of_lt_of_le (Nat.mod_lt _ (by omega)) h2
    rw [if_pos rfl, if_pos (by rw [h.1]; exact hm)]
    simp
/-- The last ones. -/
def lastL (l : List Stp) (keep : Nat) : List Stp := l.drop (l.length - keep)
theorem lastL_len (l : List Stp) (keep : Nat) : (lastL l keep).length = min l.length keep := by unfold lastL; rw [List.length_drop]; omega

/-! ### how it stands in memory -/
def hC (v : Value) (ring : List Rcd) (keep noted : Int) : List Value := v :: (flat cR ring ++ [.int .i64 keep, .int .i64 noted])
def HistH (b : Nat) (keep noted : Nat) (cs : List Cll) (ring : List Rcd) (H : Heap) : Prop :=
  ∃ v G, H = (b, blk (hC v ring keep noted) 77) :: G ∧ Vec 35 5 v cs.length (flat cC cs) G ∧ ring.length = 32
section
variable {v u : Value} {ring : List Rcd} {k n m : Int} (hr : ring.length = 32)
include hr
theorem hC_len : (hC v ring k n).length = 291 := by simp [hC, flat_len cR_len, hr]
theorem hC_keep : (hC v ring k n)[289]? = some (.int .i64 k) := by
  unfold hC
  rw [List.getElem?_cons_succ, List.getElem?_append_right (by rw [flat_len cR_len, hr]; omega), flat_len cR_len, hr]; rfl
theorem hC_noted : (hC v ring k n)[290]? = some (.int .i64 n) := by
  unfold hC
  rw [List.getElem?_cons_succ, List.getElem?_append_right (by rw [flat_len cR_len, hr]; omega), flat_len cR_len, hr]; rfl
theorem hC_setn : putL (hC v ring k n) 290 [.int .i64 m] = hC v ring k m := by
  have h := putL_mid (v :: (flat cR ring ++ [.int .i64 k])) [Value.int .i64 n] [] [.int .i64 m] rfl
  have hl : (v :: (flat cR ring ++ [Value.int .i64 k])).length = 290 := by simp [flat_len cR_len, hr]
  rw [hl] at h
  simpa [hC] using h
theorem hC_setr {i : Nat} (hi : i < 32) (r : Rcd) : putL (hC v ring k n) (1 + i * 9) (cR r) = hC v (ring.set i r) k n := by
  have h1 : ring = ring.take i ++ ring[i] :: ring.drop (i + 1) := split_at (by omega)
  have h2 : ring.set i r = ring.take i ++ r :: ring.drop (i + 1) := by rw [List.set_eq_take_append_cons_drop, if_pos (by omega)]
  have hl : (v :: flat cR (ring.take i)).length = 1 + i * 9 := by simp [flat_len cR_len, hr]; omega
  have h := putL_mid (v :: flat cR (ring.take i)) (cR ring[i]) (flat cR (ring.drop (i + 1)) ++ [.int .i64 k, .int .i64 n]) (cR r) rfl
  rw [hl] at h
  have hf : flat cR ring = flat cR (ring.take i) ++ (cR ring[i] ++ flat cR (ring.drop (i + 1))) := by
    conv => lhs; rw [h1]
    rw [flat_append, flat_cons]
  have e1 : hC v ring k n = v :: flat cR (ring.take i) ++ (cR ring[i] ++ (flat cR (ring.drop (i + 1)) ++ [.int .i64 k, .int .i64 n])) := by
    unfold hC; rw [hf]; simp only [List.append_assoc, List.cons_append]
  have e2 : hC v (ring.set i r) k n = v :: flat cR (ring.take i) ++ (cR r ++ (flat cR (ring.drop (i + 1)) ++ [.int .i64 k, .int .i64 n])) := by
    unfold hC; rw [h2, flat_append, flat_cons]; simp only [List.append_assoc, List.cons_append]
  rw [e1, e2]; exact h
omit hr in
theorem hC_row {w : World} {b : Nat} (h : Row w b 0 (hC v ring k n)) {i : Nat} {r : Rcd} (hi : ring[i]? = some r) : Row w b (1 + i * 9) (cR r) := by
  have h1 : Row w b 1 (flat cR ring ++ [.int .i64 k, .int .i64 n]) := fun j x hx => by
    have := h (1 + j) x (by unfold hC; rw [Nat.add_comm, List.getElem?_cons_succ]; exact hx)
    rwa [Nat.zero_add] at this
  exact Row.nth' cR_len h1.left hi
end
theorem hC_setv {v u : Value} {ring : List Rcd} {k n : Int} : putL (hC v ring k n) 0 [u] = hC u ring k n := by simp [putL, hC]
def orderC (cs : List Cll) (s : Stp) : List Cll :=
  if s.kind = 25 then (if s.taken = true then layC cs ⟨1, s.bank, s.at_, s.to, backOf s⟩ else cs)
  else if s.kind = 28 then layC cs ⟨2, s.bank, s.at_, s.to, backOf s⟩
  else if s.kind = 26 then (if s.taken = true then cs.dropLast else cs)
  else if s.kind = 27 then cs.dropLast else cs
theorem noteC_2 {s : Stp} (h : s.what = 2) (cs : List Cll) : noteC cs s = layC cs ⟨3, s.bank, s.at_, s.to, s.at_⟩ := by
  simp [noteC, callOf, h]
theorem noteC_1 {s : Stp} (h : s.what = 1) (cs : List Cll) : noteC cs s = orderC cs s := by
  have h2 : ¬ s.what = 2 := by omega
  unfold noteC callOf orderC retsB
  rw [if_neg h2]
  simp only [h, true_and, decide_true, Bool.true_and]
  by_cases h25 : s.kind = 25
  · have : ¬ s.kind = 28 := by omega
    by_cases ht : s.taken = true <;> simp [h25, ht]
  · by_cases h28 : s.kind = 28
    · simp [h28]
    · by_cases h26 : s.kind = 26
      · by_cases ht : s.taken = true <;> simp [h26, ht]
      · by_cases h27 : s.kind = 27 <;> simp [h25, h28, h26, h27]
theorem noteC_0 {s : Stp} (h1 : ¬ s.what = 1) (h2 : ¬ s.what = 2) (cs : List Cll) : noteC cs s = cs := by
  simp [noteC, callOf, retsB, h1, h2]
theorem ones_C (c : Cll) : ones (cC c) = true := rfl
theorem ones_R (c : Rcd) : ones (cR c) = true := rfl
end Go.Proofs.Ytmafgccagaihbaa
namespace Go.Proofs.Ytmafgccagaihbaa
open Go Go.VV
theorem cut_onE {b l c n s k : Nat} (h : l < c) (hk : n - l = k) : Value.slice (some ⟨b, cutAt 0 l s c, none⟩) (n - l) (c - l) = .slice (some ⟨b, l * s, none⟩) k (c - l) := by
  rw [cutAt, if_neg (by omega), hk, Nat.zero_add]
theorem lay_no {cs : List Cll} {x : Cll} (h : (cs ++ [x]).length ≤ 256) : layC cs x = cs ++ [x] := by
  unfold layC; rw [show (cs ++ [x]).length - 256 = 0 by omega, List.drop_zero]
theorem lay_yes {cs : List Cll} {x : Cll} (h : cs.length ≤ 256) (h2 : 256 < (cs ++ [x]).length) : layC cs x = (cs ++ [x]).drop 1 := by
  unfold layC
  rw [List.length_append, List.length_singleton] at *
  rw [show cs.length + 1 - 256 = 1 by omega]
end Go.Proofs.Ytmafgccagaihbaa
namespace Go.Proofs.Ytmafgccagaihbaa
open Go Go.VV
structure HistW (w : World) (b keep noted : Nat) (cs : List Cll) (ring : List Rcd) : Prop where
  calls : ∃ a c, w.cell? ⟨b, 0, none⟩ = some (.slice a cs.length c) ∧ cs.length ≤ c ∧ (a = none → c = 0) ∧ SlW w cC a cs ∧ Row w b 0 (hC (.slice a cs.length c) ring keep noted)
  keep : w.cell? ⟨b, 289, none⟩ = some (.int .i64 keep)
  noted : w.cell? ⟨b, 290, none⟩ = some (.int .i64 noted)
  len : ring.length = 32
  row : ∀ i r, ring[i]? = some r → Row w b (1 + i * 9) (cR r)
theorem HistH.histW {b keep noted : Nat} {cs : List Cll} {ring : List Rcd} {G H : Heap} {w0 w : World} {bs : List Nat} (h : HistH b keep noted cs ring G) (hw : St w0 bs H w) (hs : ∀ x ∈ G, x ∈ H) : HistW w b keep noted cs ring := by
  obtain ⟨v, G', rfl, hV, hr⟩ := h
  obtain ⟨a, c, rfl, hl, hc, _, hz, hE⟩ := hV.slw cC_len (by decide)
  have h0 := hw.holds _ (hs _ (.head _))
  have hrow := Row.all h0
  refine ⟨⟨a, c, ?_, hc, hz, hE w fun x hx => hw.holds x (hs x (.tail _ hx)), hrow⟩, ?_, ?_, hr, fun i r hi => hC_row hrow hi⟩
  · rw [cell_blk h0]; rfl
  · rw [cell_blk h0]; simpa using hC_keep hr
  · rw [cell_blk h0]; simpa using hC_noted hr
theorem HistW.later0 {w0 w : World} {H : Heap} {b keep noted : Nat} {cs : List Cll} {ring : List Rcd} (h : HistW w0 b keep noted cs ring) (hw : St w0 [] H w) : HistW w b keep noted cs ring := by
  obtain ⟨⟨a, c, h0, hc, hz, hE, hA⟩, h1, h2, h3, h4⟩ := h
  exact ⟨⟨a, c, at_old h0 (by simp) w hw, hc, hz, hE.later0 hw, row_old hA (by simp) w hw⟩, at_old h1 (by simp) w hw, at_old h2 (by simp) w hw, h3, fun i r hi => row_old (h4 i r hi) (by simp) w hw⟩
theorem mod_law {n k : Nat} : (n : Int).tmod (k : Int) = ((n % k : Nat) : Int) := by
  rw [Int.tmod_eq_emod_of_nonneg (by omega)]; simp
theorem ord_25t {s : Stp} (h : s.kind = 25) (ht : s.taken = true) (cs : List Cll) : orderC cs s = layC cs ⟨1, s.bank, s.at_, s.to, backOf s⟩ := by simp [orderC, h, ht]
theorem ord_25f {s : Stp} (h : s.kind = 25) (ht : s.taken = false) (cs : List Cll) : orderC cs s = cs := by simp [orderC, h, ht]
theorem ord_28 {s : Stp} (h : s.kind = 28) (cs : List Cll) : orderC cs s = layC cs ⟨2, s.bank, s.at_, s.to, backOf s⟩ := by simp [orderC, h]
theorem ord_26t {s : Stp} (h : s.kind = 26) (ht : s.taken = true) (cs : List Cll) : orderC cs s = cs.dropLast := by simp [orderC, h, ht]
theorem ord_26f {s : Stp} (h : s.kind = 26) (ht : s.taken = false) (cs : List Cll) : orderC cs s = cs := by simp [orderC, h, ht]
theorem ord_27 {s : Stp} (h : s.kind = 27) (cs : List Cll) : orderC cs s = cs.dropLast := by simp [orderC, h]
theorem ord_no {s : Stp} (h1 : ¬ s.kind = 25) (h2 : ¬ s.kind = 28) (h3 : ¬ s.kind = 26) (h4 : ¬ s.kind = 27) (cs : List Cll) : orderC cs s = cs := by simp [orderC, h1, h2, h3, h4]
theorem pop_law {cs : List Cll} {sc : List Value} (h : cs.length ≠ 0) : ∃ sp', flat cC cs ++ sc = flat cC cs.dropLast ++ sp' := by
  obtain ⟨A, a, rfl⟩ := snoc_of (l := cs) (by omega)
  exact ⟨cC a ++ sc, by rw [flat_snoc, List.dropLast_concat, List.append_assoc]⟩
theorem pop_zero {cs : List Cll} (h : cs.length = 0) : cs.dropLast = cs := by
  rw [List.eq_nil_of_length_eq_zero h]; rfl
/-- The one behind the last one, out. -/
theorem pop_vec {cs : List Cll} {bc cc : Nat} {sc : List Value} (h : cs.length ≠ 0) (hz : (flat cC cs ++ sc).length = cc * 5) (hl : cs.length ≤ cc) (hx : cc ≤ maxLen) :
    Vec 35 5 (.slice (some ⟨bc, 0, none⟩) cs.dropLast.length cc) cs.dropLast.length (flat cC cs.dropLast) [(bc, blk (flat cC cs ++ sc) 35)] := by
  obtain ⟨sp', hs⟩ := pop_law (sc := sc) h
  rw [hs] at hz ⊢
  exact Vec.all_ cC_len hz (by rw [List.length_dropLast]; omega) hx
theorem ones_hC {a : Option Addr} {m c : Nat} {ring : List Rcd} {k n : Int} : ones (hC (.slice a m c) ring k n) = true := by
  have h1 := List.all_eq_true.1 (ones_flat_of ones_R ring)
  refine List.all_eq_true.2 fun x hx => ?_
  unfold hC at hx
  rcases List.mem_cons.1 hx with rfl | hx
  · rfl
  · rcases List.mem_append.1 hx with hx | hx
    · exact h1 x hx
    · simp at hx; rcases hx with rfl | rfl <;> rfl
end Go.Proofs.Ytmafgccagaihbaa
