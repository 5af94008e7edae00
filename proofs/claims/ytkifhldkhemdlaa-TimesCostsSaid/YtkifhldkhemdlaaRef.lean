/- The reference's line of marks: what it keeps, and that two lines say the same. Plain lemmas; no program. -/
import Derived.Test.YtkifhldkhemdlaaInv
import Derived.Test.YtkifhldkhemdlaaVvP
namespace Go.Proofs.Ytkifhldkhemdlaa
open Go Go.VV

/-! ### two lists of marks that say the same -/
def ky (m : Mark) : Int × List Int := (m.t, m.l)
def Tw (ms ws : List Mark) : Prop := ms.map ky = ws.map ky
theorem Tw.len {ms ws : List Mark} (h : Tw ms ws) : ms.length = ws.length := by
  have := congrArg List.length h
  rwa [List.length_map, List.length_map] at this
theorem Tw.cons {m w : Mark} {ms ws : List Mark} : Tw (m :: ms) (w :: ws) ↔ (m.t = w.t ∧ m.l = w.l) ∧ Tw ms ws := by
  simp [Tw, ky]
theorem Tw.app {a b c d : List Mark} (h : Tw a b) (h2 : Tw c d) : Tw (a ++ c) (b ++ d) := by
  unfold Tw at *
  rw [List.map_append, List.map_append, h, h2]
theorem Tw.one {m w : Mark} (h : m.t = w.t) (h2 : m.l = w.l) : Tw [m] [w] := by simp [Tw, ky, h, h2]
theorem Tw.rev {a b : List Mark} (h : Tw a b) : Tw a.reverse b.reverse := by
  unfold Tw at *; rw [List.map_reverse, List.map_reverse, h]
theorem Tw.take {a b : List Mark} (h : Tw a b) (n : Nat) : Tw (a.take n) (b.take n) := by
  unfold Tw at *; rw [List.map_take, List.map_take, h]
theorem Tw.drop {a b : List Mark} (h : Tw a b) (n : Nat) : Tw (a.drop n) (b.drop n) := by
  unfold Tw at *; rw [List.map_drop, List.map_drop, h]
theorem Tw.at {ms ws : List Mark} (h : Tw ms ws) (k : Nat) : (ms.getD k m0).t = (ws.getD k m0).t ∧ (ms.getD k m0).l = (ws.getD k m0).l := by
  have h1 : (ms.map ky)[k]? = (ws.map ky)[k]? := by rw [h]
  rw [List.getElem?_map, List.getElem?_map] at h1
  rw [List.getD_eq_getElem?_getD, List.getD_eq_getElem?_getD]
  cases hx : ms[k]? <;> cases hy : ws[k]? <;> rw [hx, hy] at h1 <;> simp [ky] at h1 ⊢
  exact h1
theorem Tw.tm {ms ws : List Mark} (h : Tw ms ws) (k : Nat) : tm ms k = tm ws k := (h.at k).1
theorem Tw.last {ms ws : List Mark} (h : Tw ms ws) : lastT ms = lastT ws := by
  unfold lastT; rw [h.len, h.tm]
theorem Tw.le {ms ws : List Mark} (h : Tw ms ws) (x : Int) : cntLe ms x = cntLe ws x := by
  have key : ∀ l : List Mark, cntLe l x = ((l.map ky).filter (fun p => decide (p.1 ≤ x))).length := fun l => by
    rw [List.filter_map, List.length_map]; rfl
  rw [key, key, h]
theorem Tw.bef {ms ws : List Mark} (h : Tw ms ws) (x : Int) : bef ms x = bef ws x := by unfold Go.Proofs.Ytkifhldkhemdlaa.bef; rw [h.le]
theorem Tw.befT {ms ws : List Mark} (h : Tw ms ws) (x : Int) : (befM ms x).t = (befM ws x).t := by
  unfold befM; rw [h.bef]; split
  · rfl
  · exact (h.at _).1
theorem Tw.befL {ms ws : List Mark} (h : Tw ms ws) (x : Int) : (befM ms x).l = (befM ws x).l := by
  unfold befM; rw [h.bef]; split
  · rfl
  · exact (h.at _).2
theorem Tw.rise {ms ws : List Mark} (h : Tw ms ws) (hR : Rise ms) : Rise ws := by
  have key : ∀ l : List Mark, Rise l ↔ (l.map ky).Pairwise (fun x y => x.1 < y.1) ∧ ∀ p ∈ l.map ky, 0 ≤ p.1 ∧ p.1 ≤ 4611686018427387904 := fun l => by
    unfold Rise
    rw [List.pairwise_map]
    simp [ky]
  rw [key] at hR ⊢
  rwa [← h]
theorem Tw.err {ms ws : List Mark} (h : Tw ms ws) (t : Int) : addErr ms t = addErr ws t := by
  unfold addErr; rw [h.len, h.last]
theorem thinR_tw (last : Int) : ∀ {r r' : List Mark} (b : Int), Tw r r' → Tw (thinR last b r) (thinR last b r')
  | [], [], _, h => h
  | [], _ :: _, _, h => by have := h.len; simp at this
  | _ :: _, [], _, h => by have := h.len; simp at this
  | [_], [_], _, h => h
  | [_], _ :: _ :: _, _, h => by have := h.len; simp at this
  | _ :: _ :: _, [_], _, h => by have := h.len; simp at this
  | m :: p :: r, m' :: p' :: r', b, h => by
    have h1 := Tw.cons.1 h
    have h2 := Tw.cons.1 h1.2
    unfold thinR
    rw [← h2.1.1]
    split
    · exact thinR_tw last b h1.2
    · rw [← h1.1.1]
      exact Tw.cons.2 ⟨h1.1, thinR_tw last m.t h1.2⟩
theorem thinL_tw {ms ws : List Mark} (h : Tw ms ws) : Tw (thinL ms) (thinL ws) := by
  have hr := h.rev
  unfold thinL
  cases hx : ms.reverse with
  | nil =>
    cases hy : ws.reverse with
    | nil => exact rfl
    | cons _ _ => rw [hx, hy] at hr; have := hr.len; simp at this
  | cons z r =>
    cases hy : ws.reverse with
    | nil => rw [hx, hy] at hr; have := hr.len; simp at this
    | cons z' r' =>
      rw [hx, hy] at hr
      have h1 := Tw.cons.1 hr
      simp only []
      rw [← h1.1.1]
      exact (Tw.cons.2 ⟨h1.1, thinR_tw z.t z.t h1.2⟩).rev
theorem addM_tw {cap : Nat} {ms ws : List Mark} {mk mk' : Mark} (h : Tw ms ws) (ht : mk.t = mk'.t) (hl : mk.l = mk'.l) : Tw (addM cap ms mk) (addM cap ws mk') := by
  have h1 := thinL_tw (h.app (Tw.one ht hl))
  unfold addM cutL
  rw [h1.len]
  exact (h1.take _).app (h1.drop _)

/-! ### the reference's thinning -/
/-- 'A' is still to be looked at, 'K' stays. -/
structure RI (tt : List Mark) (at_ : Int) (A K : List Mark) : Prop where
  pos : 0 < K.length
  rest : tt = (thinR at_ (tm K 0) A.reverse).reverse ++ K
  rise : Rise (A ++ K)
  last : lastT (A ++ K) = at_
theorem RI.start {ws : List Mark} {mk : Mark} (hR : Rise (ws ++ [mk])) : RI (thinL (ws ++ [mk])) mk.t ws [mk] := by
  refine ⟨by simp, ?_, hR, lastT_snoc ws mk⟩
  unfold thinL
  rw [List.reverse_append]
  simp [tm]
theorem RI.done {tt A K : List Mark} {x : Int} (h : RI tt x A K) (hA : A.length ≤ 1) : tt = A ++ K := by
  rw [h.rest]
  match A, hA with
  | [], _ => simp [thinR]
  | [m], _ => simp [thinR]
theorem tm_mid (A K : List Mark) : tm (A ++ K) A.length = tm K 0 := by
  unfold tm; rw [List.getD_eq_getElem?_getD, List.getD_eq_getElem?_getD, List.getElem?_append_right (Nat.le_refl _), Nat.sub_self]
theorem snoc2 {A : List Mark} (h : 2 ≤ A.length) : ∃ B p m, A = B ++ [p] ++ [m] := by
  obtain ⟨B, m, rfl⟩ := snoc_of (l := A) (by omega)
  obtain ⟨C, p, rfl⟩ := snoc_of (l := B) (by simp at h; omega)
  exact ⟨C, p, m, rfl⟩
theorem tm_ahead (B K : List Mark) (p m : Mark) : tm (B ++ [p] ++ [m] ++ K) ((B ++ [p] ++ [m]).length - 2) = p.t := by
  have : (B ++ [p] ++ [m]).length - 2 = B.length := by simp
  rw [this]; simp [tm]
theorem rcond {tt A K : List Mark} {x : Int} (h : RI tt x A K) (hA : 2 ≤ A.length) :
    decide (IntKind.u64.wrap (tm (A ++ K) A.length - tm (A ++ K) (A.length - 2)) ≤ IntKind.u64.wrap (IntKind.u64.wrap (2 + x) - tm (A ++ K) A.length)) =
    decide (tm K 0 - tm (A ++ K) (A.length - 2) ≤ 2 + x - tm K 0) := by
  have hp := h.pos
  have h1 : A.length < (A ++ K).length := by simp; omega
  have h2 := tm_lt h.rise (i := A.length - 2) (j := A.length) (by omega) h1
  have h3 := h.rise.2 (A ++ K)[A.length] (List.getElem_mem h1)
  have h4 := h.rise.2 ((A ++ K)[A.length - 2]'(by omega)) (List.getElem_mem (by omega))
  rw [tm_get] at h3 h4
  have h5 := lastT_le h.rise h1
  rw [h.last] at h5
  have h6 := lastT_some (ms := A ++ K) (by omega)
  have h7 := h.rise.2 ((A ++ K)[(A ++ K).length - 1]'(by omega)) (List.getElem_mem (by omega))
  rw [tm_get, h6, h.last] at h7
  rw [tm_mid] at *
  rw [wrap_u64_id (by omega) (by omega), wrap_u64_id (n := 2 + x) (by omega) (by omega), wrap_u64_id (by omega) (by omega)]
/-- One that goes. -/
theorem RI.drop {tt A K : List Mark} {x : Int} (h : RI tt x A K) (hA : 2 ≤ A.length) (hc : tm K 0 - tm (A ++ K) (A.length - 2) ≤ 2 + x - tm K 0) :
    RI tt x A.dropLast K ∧ (A ++ K).eraseIdx (A.length - 1) = A.dropLast ++ K := by
  obtain ⟨B, p, m, rfl⟩ := snoc2 hA
  rw [tm_ahead] at hc
  have e : (B ++ [p] ++ [m]).dropLast = B ++ [p] := by rw [List.dropLast_concat]
  have e2 : (B ++ [p] ++ [m]).length - 1 = (B ++ [p]).length := by simp
  have e3 : (B ++ [p] ++ [m] ++ K).eraseIdx ((B ++ [p]).length) = B ++ [p] ++ K := by
    rw [List.append_assoc (B ++ [p]), List.eraseIdx_append_of_length_le (Nat.le_refl _)]
    simp
  rw [e, e2, e3]
  have hsub : (B ++ [p] ++ K).Sublist (B ++ [p] ++ [m] ++ K) := by
    exact (List.sublist_append_left _ _).append (List.Sublist.refl K)
  refine ⟨⟨h.pos, ?_, h.rise.sub hsub, ?_⟩, rfl⟩
  · rw [h.rest]
    have : (B ++ [p] ++ [m]).reverse = m :: p :: B.reverse := by simp
    rw [this]
    have : (B ++ [p]).reverse = p :: B.reverse := by simp
    rw [this]
    conv => lhs; unfold thinR
    rw [if_pos hc]
  · rw [← h.last]
    have hp := h.pos
    obtain ⟨K', z, rfl⟩ := snoc_of hp
    rw [← List.append_assoc, lastT_snoc, ← List.append_assoc, lastT_snoc]
/-- One that stays. -/
theorem RI.keep {tt A K : List Mark} {x : Int} (h : RI tt x A K) (hA : 2 ≤ A.length) (hc : ¬ tm K 0 - tm (A ++ K) (A.length - 2) ≤ 2 + x - tm K 0) :
    ∃ m, RI tt x A.dropLast (m :: K) ∧ A ++ K = A.dropLast ++ (m :: K) := by
  obtain ⟨B, p, m, rfl⟩ := snoc2 hA
  rw [tm_ahead] at hc
  have e : (B ++ [p] ++ [m]).dropLast = B ++ [p] := by rw [List.dropLast_concat]
  have e3 : B ++ [p] ++ [m] ++ K = B ++ [p] ++ (m :: K) := by simp
  rw [e]
  refine ⟨m, ⟨by simp, ?_, by rw [← e3]; exact h.rise, by rw [← e3]; exact h.last⟩, e3⟩
  rw [h.rest]
  have : (B ++ [p] ++ [m]).reverse = m :: p :: B.reverse := by simp
  rw [this]
  have : (B ++ [p]).reverse = p :: B.reverse := by simp
  rw [this]
  conv => lhs; unfold thinR
  rw [if_neg hc]
  simp [tm]
/-- The cut, mark by mark. -/
theorem cutL_step {cap : Nat} {ms : List Mark} (hc : 1 ≤ cap) (h : cap < ms.length) : cutL cap (ms.eraseIdx 1) = cutL cap ms := by
  match ms, h with
  | [], h => simp at h
  | [m], h => simp at h; omega
  | m :: p :: r, h =>
    simp only [List.length_cons] at h
    unfold cutL
    simp only [List.eraseIdx_cons_succ, List.eraseIdx_cons_zero, List.length_cons, List.take_succ_cons, List.take_zero]
    congr 1
    have e1 : 1 + (r.length + 1 - cap) = (r.length + 1 - cap) + 1 := by omega
    have e2 : 1 + (r.length + 1 + 1 - cap) = (r.length + 1 - cap) + 1 + 1 := by omega
    rw [e1, e2]
    simp
theorem erase_len {ms : List Mark} {k : Nat} (h : k < ms.length) : (ms.eraseIdx k).length = ms.length - 1 := by
  rw [List.length_eraseIdx, if_pos h]
theorem erase_flat (ms : List Mark) {k : Nat} (h : k < ms.length) : flat cm (ms.take k) ++ flat cm (ms.drop (k + 1)) = flat cm (ms.eraseIdx k) := by
  rw [← flat_append, List.eraseIdx_eq_take_drop_succ]

/-! ### how it stands in memory -/
structure RLineW (w : World) (b : Nat) (cap : Int) (lack : Bool) (ws : List Mark) : Prop where
  el : ∃ a c, w.cell? ⟨b, 0, none⟩ = some (.slice a ws.length c) ∧ ws.length ≤ c ∧ Els w cm a ws
  cap : w.cell? ⟨b, 1, none⟩ = some (.int .i64 cap)
  lack : w.cell? ⟨b, 2, none⟩ = some (.bool lack)
def RLineH (b : Nat) (cap : Int) (lack : Bool) (ws : List Mark) (H : Heap) : Prop := ∃ v G, H = (b, blk [v, .int .i64 cap, .bool lack] 47) :: G ∧ Vec 60 2 v ws.length (flat cm ws) G
theorem RLineH.lineW {b : Nat} {cap : Int} {lack : Bool} {ws : List Mark} {G H : Heap} {w0 w : World} {bs : List Nat} (h : RLineH b cap lack ws G) (hw : St w0 bs H w) (hs : ∀ x ∈ G, x ∈ H) : RLineW w b cap lack ws := by
  obtain ⟨v, G', rfl, hV⟩ := h
  obtain ⟨a, c, rfl, hl, hc, hE⟩ := hV.gives cm_len (by decide)
  refine ⟨⟨a, c, ?_, hc, hE.els hw fun x hx => hs x (.tail _ hx)⟩, ?_, ?_⟩
  · rw [cell_blk (hw.holds _ (hs _ (.head _)))]; rfl
  · rw [cell_blk (hw.holds _ (hs _ (.head _)))]; rfl
  · rw [cell_blk (hw.holds _ (hs _ (.head _)))]; rfl
theorem RLineW.later0 {w0 w : World} {H : Heap} {b : Nat} {cap : Int} {lack : Bool} {ws : List Mark} (h : RLineW w0 b cap lack ws) (hw : St w0 [] H w) : RLineW w b cap lack ws := by
  obtain ⟨⟨a, c, h0, hc, hE⟩, h1, h2⟩ := h
  exact ⟨⟨a, c, at_old h0 (by simp) w hw, hc, hE.later0 hw⟩, at_old h1 (by simp) w hw, at_old h2 (by simp) w hw⟩
theorem vec_or {T s : Nat} {v : Value} {n : Nat} {xs : List Value} {G : Heap} (h : Vec T s v n xs G) :
    (v = .slice none 0 0 ∧ n = 0 ∧ xs = [] ∧ G = []) ∨ ∃ b cap sp, v = .slice (some ⟨b, 0, none⟩) n cap ∧ G = [(b, blk (xs ++ sp) T)] ∧ (xs ++ sp).length = cap * s ∧ n ≤ cap ∧ cap ≤ maxLen := by
  cases h with
  | nil => exact .inl ⟨rfl, rfl, rfl, rfl⟩
  | row b _ cap _ sp h1 h2 h3 h4 => exact .inr ⟨b, cap, sp, rfl, rfl, h2, h4, h3⟩
def RAdded (b : Nat) (cap : Int) (lack : Bool) (ws : List Mark) (t : Int) (l : List Int) (G : Heap) (v : Value) (H : Heap) : Prop :=
  v = .int .i64 (addErr ws t) ∧ ((addErr ws t ≠ 0 ∧ H = G) ∨ (addErr ws t = 0 ∧ ∃ mk G' D', mk.t = t ∧ mk.l = l ∧ mk.l.length ≤ mk.c ∧ H = G' ++ D' ∧
    RLineH b cap (lack || decide (cap.toNat < (thinL (ws ++ [mk])).length)) (addM cap.toNat ws mk) G' ∧ Byt l (.slice mk.a l.length mk.c) D'))

/-! ### which one is ahead, one after the other -/
theorem befr_no {ws : List Mark} {x : Int} {k : Nat} (hk : k < ws.length) (h : ¬ tm ws k ≤ x) : bef (ws.take (k + 1)) x = bef (ws.take k) x := by
  have : decide (ws[k].t ≤ x) = false := decide_eq_false (by rw [tm_get hk]; exact h)
  unfold bef cntLe
  rw [List.take_succ_eq_append_getElem hk, List.filter_append, List.filter_cons_of_neg (by simp [this])]
  simp
theorem befr_yes {ws : List Mark} (hR : Rise ws) {x : Int} {k : Nat} (hk : k < ws.length) (h : tm ws k ≤ x) : bef (ws.take (k + 1)) x = k := by
  have hall : (ws.take (k + 1)).filter (fun m => decide (m.t ≤ x)) = ws.take (k + 1) := by
    rw [List.filter_eq_self]
    intro m hm
    obtain ⟨i, hi, rfl⟩ := List.getElem_of_mem hm
    have hi' : i < k + 1 := by rw [List.length_take] at hi; omega
    rw [List.getElem_take, tm_get (by omega)]
    have : tm ws i ≤ tm ws k := by
      rcases Nat.lt_or_ge i k with h1 | h1
      · exact Int.le_of_lt (tm_lt hR h1 hk)
      · rw [show i = k by omega]; exact Int.le_refl _
    simp; omega
  unfold bef cntLe
  rw [hall, List.length_take]; omega
end Go.Proofs.Ytkifhldkhemdlaa
namespace Go.Proofs.Ytkifhldkhemdlaa
open Go Go.VV
structure RS where
  am : Option Addr
  c : Nat
  v : Value
  G : Heap
  D : Heap
structure RT where
  A : List Mark
  K : List Mark
  v : Value
  G : Heap
structure RU where
  ws : List Mark
  v : Value
  G : Heap
  lk : Bool
theorem vec_m60 {b cap : Nat} {ms : List Mark} {sp : List Value} (h2 : (flat cm ms ++ sp).length = cap * 2) (h4 : ms.length ≤ cap) (h3 : cap ≤ maxLen) :
    Vec 60 2 (.slice (some ⟨b, 0, none⟩) ms.length cap) ms.length (flat cm ms) [(b, blk (flat cm ms ++ sp) 60)] :=
  .row b _ cap _ sp (flat_len cm_len ms) h2 h3 h4
theorem vec_as {T s n n' : Nat} {v : Value} {xs xs' : List Value} {G : Heap} (h : Vec T s v n xs G) (hn : n = n') (hx : xs = xs') : Vec T s v n' xs' G := by subst hn hx; exact h
structure CI (cap : Nat) (tt : List Mark) (lack : Bool) (cur : List Mark) (lk : Bool) : Prop where
  pos : 0 < cur.length
  eq : cutL cap cur = cutL cap tt
  lk : (lk = lack ∧ cur = tt) ∨ (lk = true ∧ cap < tt.length)
theorem CI.start {cap : Nat} {tt : List Mark} {lack : Bool} (h : 0 < tt.length) : CI cap tt lack tt lack := ⟨h, rfl, .inl ⟨rfl, rfl⟩⟩
theorem CI.step {cap : Nat} {tt : List Mark} {lack : Bool} {cur : List Mark} {lk : Bool} (h : CI cap tt lack cur lk) (hc : 2 ≤ cap) (hl : cap < cur.length) : CI cap tt lack (cur.eraseIdx 1) true := by
  refine ⟨by rw [erase_len (by omega)]; omega, by rw [cutL_step (by omega) hl]; exact h.eq, .inr ⟨rfl, ?_⟩⟩
  rcases h.lk with ⟨_, h1⟩ | ⟨_, h1⟩
  · rw [← h1]; exact hl
  · exact h1
theorem CI.done {cap : Nat} {tt : List Mark} {lack : Bool} {cur : List Mark} {lk : Bool} (h : CI cap tt lack cur lk) (hl : cur.length ≤ cap) : cutL cap tt = cur ∧ lk = (lack || decide (cap < tt.length)) := by
  refine ⟨by rw [← h.eq, cutL_all hl], ?_⟩
  rcases h.lk with ⟨h1, h2⟩ | ⟨h1, h2⟩
  · subst h2
    rw [h1, decide_eq_false (by omega), Bool.or_false]
  · rw [h1, decide_eq_true h2, Bool.or_true]
theorem cut0' (b off k c : Nat) : Value.slice (some ⟨b, cutAt off 0 2 c, none⟩) (k - 0) (c - 0) = .slice (some ⟨b, off, none⟩) k c := by
  simp only [cutAt, Nat.zero_mul, Nat.add_zero, ite_self, Nat.sub_zero]
theorem row_take {w : World} {b off k : Nat} {ws : List Mark} (hr : Row w b off (flat cm ws)) (hk : k ≤ ws.length) : Row w b off (flat cm (ws.take k)) := by
  have : flat cm ws = flat cm (ws.take k) ++ flat cm (ws.drop k) := by rw [← flat_append, List.take_append_drop]
  rw [this] at hr
  exact hr.left
theorem row_drop {w : World} {b off j c : Nat} {ws : List Mark} (hr : Row w b off (flat cm ws)) (hj : j ≤ ws.length) (hc : ws.length ≤ c) : Row w b (cutAt off j 2 c) (flat cm (ws.drop j)) := by
  have h1 := hr.cut (l := j) (k := ws.length - j) (s := 2) (c := c) (by omega)
  have hl : (flat cm (ws.take j)).length = j * 2 := by rw [flat_len cm_len, List.length_take]; congr 1; omega
  have hl2 : (flat cm (ws.drop j)).length = (ws.length - j) * 2 := by rw [flat_len cm_len, List.length_drop]
  have e : flat cm ws = flat cm (ws.take j) ++ flat cm (ws.drop j) := by rw [← flat_append, List.take_append_drop]
  rw [e, ← hl, List.drop_left, ← hl2, List.take_length] at h1
  exact h1
theorem down_law {A : List Mark} (h : 2 ≤ A.length) (hl : A.length < 1000000000) : IntKind.i64.wrap ((A.length : Int) - 1 - 1) = ((A.dropLast.length : Int) - 1) := by
  rw [wrap_i64 (by omega) (by omega), List.length_dropLast]; omega
end Go.Proofs.Ytkifhldkhemdlaa
namespace Go.Proofs.Ytkifhldkhemdlaa
open Go Go.VV
/-- Two lines side by side: the program's and the reference's. -/
structure PJ (b b2 : Nat) (cap : Int) (t : Int) (ms ws : List Mark) (lack : Bool) (G G2 D : Heap) : Prop where
  line : LineH b cap ms G
  ref : RLineH b2 cap lack ws G2
  dat : DatH D ms
  dat2 : DatH D ws
  rise : Rise ms
  len : ms.length ≤ cap.toNat
  tw : Tw ms ws
  lo : 0 ≤ t
theorem PJ.rise2 {b b2 : Nat} {cap t : Int} {ms ws : List Mark} {lack : Bool} {G G2 D : Heap} (h : PJ b b2 cap t ms ws lack G G2 D) : Rise ws := h.tw.rise h.rise
structure PS where
  k : Nat
  t : Int
  ms : List Mark
  ws : List Mark
  lack : Bool
  G : Heap
  G2 : Heap
  D : Heap
theorem PJ.start (b b2 : Nat) (cap : Int) : PJ b b2 cap 0 [] [] false [(b, blk [.slice none 0 0, .int .i64 cap] 53)] [(b2, blk [.slice none 0 0, .int .i64 cap, .bool false] 47)] [] :=
  ⟨⟨_, [], rfl, .nil⟩, ⟨_, [], rfl, .nil⟩, fun _ h => (by cases h), fun _ h => (by cases h), Rise.nil, Nat.zero_le _, rfl, Int.le_refl _⟩
theorem dat_add {cap : Nat} {ms : List Mark} {mk : Mark} {D D' : Heap} {l : List Int} (h : DatH D ms) (hl : mk.l = l) (hlen : l.length ≤ 140737488355328) (hlc : mk.l.length ≤ mk.c) (hB : Byt l (.slice mk.a l.length mk.c) D') : DatH (D' ++ D) (addM cap ms mk) := by
  have hD : DatH (D' ++ D) (ms ++ [mk]) := fun m hm => by
    rcases List.mem_append.1 hm with hm | hm
    · exact (h.more fun x hx => List.mem_append_right _ hx) m hm
    · have : m = mk := by simpa using hm
      subst this
      obtain ⟨a, c, hs, _, hW⟩ := hB.slice
      cases hs
      exact ⟨hlc, by rw [hl]; exact hlen, fun w0 w bs H hw hx => by rw [hl]; exact hW w0 w bs H hw fun x hx' => hx x (List.mem_append_left _ hx')⟩
  exact hD.sub (addM_sub cap ms mk)
theorem addErr_rise {ms : List Mark} {mk : Mark} (hR : Rise ms) (h0 : 0 ≤ mk.t) (h : addErr ms mk.t = 0) : Rise (ms ++ [mk]) := by
  unfold addErr at h
  split at h
  · cases h
  · split at h
    · exact rise_snoc hR h0 (by omega) (fun hl => by omega)
    · split at h
      · cases h
      · exact rise_snoc hR h0 (by omega) (fun _ => by omega)
/-- Both are added to. -/
theorem PJ.step {b b2 : Nat} {cap t t' : Int} {ms ws : List Mark} {lack lack' : Bool} {G G2 D G' G2' D1 D2 : Heap} {mk mk' : Mark} {l : List Int} (h : PJ b b2 cap t ms ws lack G G2 D) (hc : 2 ≤ cap) (ht0 : 0 ≤ t') (herr : addErr ms t' = 0)
    (e1 : mk.t = t') (e2 : mk'.t = t') (f1 : mk.l = l) (f2 : mk'.l = l) (hlen : l.length ≤ 140737488355328) (g1 : mk.l.length ≤ mk.c) (g2 : mk'.l.length ≤ mk'.c)
    (hL : LineH b cap (addM cap.toNat ms mk) G') (hL2 : RLineH b2 cap lack' (addM cap.toNat ws mk') G2') (hB : Byt l (.slice mk.a l.length mk.c) D1) (hB2 : Byt l (.slice mk'.a l.length mk'.c) D2) :
    PJ b b2 cap t' (addM cap.toNat ms mk) (addM cap.toNat ws mk') lack' G' G2' (D2 ++ (D1 ++ D)) :=
  ⟨hL, hL2, (dat_add h.dat f1 hlen g1 hB).more fun _ hx => List.mem_append_right _ hx,
    (dat_add h.dat2 f2 hlen g2 hB2).more fun x hx => by
      rcases List.mem_append.1 hx with h1 | h1
      · exact List.mem_append_left _ h1
      · exact List.mem_append_right _ (List.mem_append_right _ h1),
    (addErr_rise h.rise (by omega) (by rw [e1]; exact herr)).sub (addM_sub _ _ _), cutL_len (by omega) _, addM_tw h.tw (by rw [e1, e2]) (by rw [f1, f2]), ht0⟩
theorem PJ.stay {b b2 : Nat} {cap t t' : Int} {ms ws : List Mark} {lack : Bool} {G G2 D : Heap} (h : PJ b b2 cap t ms ws lack G G2 D) (ht0 : 0 ≤ t') : PJ b b2 cap t' ms ws lack G G2 D :=
  ⟨h.line, h.ref, h.dat, h.dat2, h.rise, h.len, h.tw, ht0⟩
theorem tw_hit {ms ws : List Mark} (h : Tw ms ws) {x : Int} (hb : ¬ bef ws x < 0) : (befM ms x).t = tm ws (bef ws x).toNat := by
  have h0 : 0 ≤ bef ms x := by rw [h.bef]; omega
  rw [befM_tm h0, h.bef, h.tm]
theorem len_eq {n m : Nat} (h : n = m) : (decide (n ≠ 0) == decide (0 < (m : Int))) = true := by
  subst h
  by_cases h0 : n = 0
  · subst h0; rfl
  · rw [decide_eq_true h0, decide_eq_true (by omega)]; rfl
theorem step8 {t x : Int} (h0 : 0 ≤ t) (h1 : t ≤ 1000000) (hx : 0 ≤ x ∧ x < 256) : IntKind.u64.wrap (t + IntKind.u64.wrap (x.tmod 8)) = t + x % 8 := by
  rw [Int.tmod_eq_emod_of_nonneg hx.1, wrap_u64_id (n := x % 8) (by omega) (by omega), wrap_u64_id (by omega) (by omega)]
end Go.Proofs.Ytkifhldkhemdlaa
