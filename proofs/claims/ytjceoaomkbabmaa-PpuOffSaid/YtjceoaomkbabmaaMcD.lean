/- The sprites of a line, in order; the uppermost one: plain definitions and laws. No program. -/
import Derived.Test.YtjceoaomkbabmaaMcB
import Derived.Test.YtjceoaomkbabmaaMcC
namespace Go.Proofs.Ytjceoaomkbabmaa
open Go Go.VV

/-- How tiles are seen. -/
structure Vw where
  c : Int
  sx : Int
  sy : Int
  wx : Int
  wy : Int
def cV (v : Vw) : List Value := [.int .u8 v.c, .int .u8 v.sx, .int .u8 v.sy, .int .u8 v.wx, .int .u8 v.wy]
theorem cV_len (v : Vw) : (cV v).length = 5 := rfl
structure Vw.Ok (v : Vw) : Prop where
  c : 0 ≤ v.c ∧ v.c < 256
  sx : 0 ≤ v.sx ∧ v.sx < 256
  sy : 0 ≤ v.sy ∧ v.sy < 256
  wx : 0 ≤ v.wx ∧ v.wx < 256
  wy : 0 ≤ v.wy ∧ v.wy < 256
def tNum (c b : Int) : Int := if rBit c 4 = 1 then b else if 127 < b then b else 256 + b
def tSpot (l : List Int) (c n px py : Int) : Int := tDot l (tNum c (vAt l ((if rBit c n = 1 then 7168 else 6144) + 32 * (py / 8) + px / 8))) px py
def tBack (l : List Int) (v : Vw) (x y : Int) : Int := tSpot l v.c 3 ((x + v.sx) % 256) ((y + v.sy) % 256)
def tWin (l : List Int) (v : Vw) (x y : Int) : Int := tSpot l v.c 6 (x % 256) (y % 256)
def tSeen (v : Vw) (line : Int) : Bool := decide (rBit v.c 0 = 1) && (decide (rBit v.c 5 = 1) && (decide (v.wy ≤ line) && decide (v.wx ≤ 166)))
def tPix (l : List Int) (v : Vw) (line own : Int) (x : Nat) : Int :=
  if rBit v.c 0 = 1 then (if tSeen v line = true ∧ 0 ≤ (x : Int) + 7 - v.wx then tWin l v ((x : Int) + 7 - v.wx) own else tBack l v x line) else 0
def tLine (l : List Int) (v : Vw) (line own : Int) : List Int := (List.range 160).map (tPix l v line own)
theorem tLine_len (l : List Int) (v : Vw) (line own : Int) : (tLine l v line own).length = 160 := by simp [tLine]
theorem tLine_vals (l : List Int) (v : Vw) (line own : Int) : (tLine l v line own).map (Value.int .u8) = upTo .u8 (tPix l v line own) 160 160 := by simp [tLine, upTo_all, List.map_map, Function.comp_def]
theorem tDot4 (l : List Int) (t x y : Int) : 0 ≤ tDot l t x y ∧ tDot l t x y < 4 := by
  unfold tDot
  have h1 := rBit_01 (vAt l (16 * t + 2 * (y % 8))) (7 - x % 8)
  have h2 := rBit_01 (vAt l (16 * t + 2 * (y % 8) + 1)) (7 - x % 8)
  split <;> omega
theorem tPix_four (l : List Int) (v : Vw) (line own : Int) (x : Nat) : 0 ≤ tPix l v line own x ∧ tPix l v line own x < 4 := by
  unfold tPix tWin tBack tSpot
  split
  · split <;> exact tDot4 _ _ _ _
  · omega
theorem tLine_byts (l : List Int) (v : Vw) (line own : Int) : Byts (tLine l v line own) := fun x hx => by
  obtain ⟨k, _, rfl⟩ := List.mem_map.1 hx
  have := tPix_four l v line own k
  omega
/-! bits of a byte -/
theorem bitOf0 {c : Int} (hc : 0 ≤ c ∧ c < 256) : (band .u8 c 1 == 0) = decide (rBit c 0 = 0) :=
  byte_all (p := fun c => (band .u8 c 1 == 0) = decide (rBit c 0 = 0)) (by decide +kernel) hc.1 hc.2
theorem bitOf3 {c : Int} (hc : 0 ≤ c ∧ c < 256) : (band .u8 c 8 != 0) = decide (rBit c 3 = 1) :=
  byte_all (p := fun c => (band .u8 c 8 != 0) = decide (rBit c 3 = 1)) (by decide +kernel) hc.1 hc.2
theorem bitOf4 {c : Int} (hc : 0 ≤ c ∧ c < 256) : (band .u8 c 16 != 0) = decide (rBit c 4 = 1) :=
  byte_all (p := fun c => (band .u8 c 16 != 0) = decide (rBit c 4 = 1)) (by decide +kernel) hc.1 hc.2
theorem byte_num {b : Int} (hb : 0 ≤ b ∧ b < 256) : IntKind.i64.wrap (256 + IntKind.i64.wrap (IntKind.i8.wrap b)) = if 127 < b then b else 256 + b :=
  byte_all (p := fun b => IntKind.i64.wrap (256 + IntKind.i64.wrap (IntKind.i8.wrap b)) = if 127 < b then b else 256 + b) (by decide +kernel) hb.1 hb.2
theorem tNum_range {c b : Int} (hb : 0 ≤ b ∧ b < 256) : 0 ≤ tNum c b ∧ tNum c b < 384 := by unfold tNum; split <;> (try split) <;> omega
theorem tNum_yes {c b : Int} (h : rBit c 4 = 1) : tNum c b = b := by unfold tNum; rw [if_pos h]
theorem tNum_no {c b : Int} (h : ¬ rBit c 4 = 1) : tNum c b = if 127 < b then b else 256 + b := by unfold tNum; rw [if_neg h]
theorem rBit_ne {c n : Int} (h : ¬ rBit c n = 1) : rBit c n = 0 := by have := rBit_01 c n; omega
theorem tSpot_at {l : List Int} {c n px py : Int} {b : Bool} (h : decide (rBit c n = 1) = b) : tSpot l c n px py = tDot l (tNum c (vAt l ((bif b then 7168 else 6144) + 32 * (py / 8) + px / 8))) px py := by
  unfold tSpot; subst h; by_cases h : rBit c n = 1 <;> simp [h]
theorem pix_off {l : List Int} {v : Vw} {line own : Int} (x : Nat) (h : rBit v.c 0 = 0) : tPix l v line own x = 0 := by unfold tPix; rw [if_neg (by omega)]
theorem pix_win {l : List Int} {v : Vw} {line own : Int} {x : Nat} (h : rBit v.c 0 = 1) (hs : tSeen v line = true) (hx : 0 ≤ (x : Int) + 7 - v.wx) : tWin l v ((x : Int) + 7 - v.wx) own = tPix l v line own x := by
  unfold tPix; rw [if_pos h, if_pos ⟨hs, hx⟩]
theorem pix_back {l : List Int} {v : Vw} {line own : Int} {x : Nat} (h : rBit v.c 0 = 1) (hs : ¬ (tSeen v line = true ∧ 0 ≤ (x : Int) + 7 - v.wx)) : tBack l v x line = tPix l v line own x := by
  unfold tPix; rw [if_pos h, if_neg hs]
theorem tLine_off {l : List Int} {v : Vw} {line own : Int} (h : rBit v.c 0 = 0) : tLine l v line own = List.replicate 160 0 := by
  refine List.eq_replicate_iff.2 ⟨tLine_len _ _ _ _, fun x hx => ?_⟩
  obtain ⟨k, _, rfl⟩ := List.mem_map.1 hx
  exact pix_off _ h
theorem tSeen_off {v : Vw} {line : Int} (h : rBit v.c 0 = 0) : tSeen v line = false := by unfold tSeen; rw [h]; rfl
theorem num_yes {c b : Int} (hc : 0 ≤ c ∧ c < 256) (hb : 0 ≤ b ∧ b < 256) (h : (band .u8 c 16 != 0) = true) : IntKind.i64.wrap b = tNum c b := by
  rw [bitOf4 hc] at h
  rw [wrap_i64 (by omega) (by omega), tNum_yes (by simpa using h)]
theorem num_no {c b : Int} (hc : 0 ≤ c ∧ c < 256) (hb : 0 ≤ b ∧ b < 256) (h : (band .u8 c 16 != 0) = false) : IntKind.i64.wrap (256 + IntKind.i64.wrap (IntKind.i8.wrap b)) = tNum c b := by
  rw [bitOf4 hc] at h
  rw [byte_num hb, tNum_no (by simpa using h)]
theorem tSpot_yes {l : List Int} {c n px py : Int} (h : rBit c n = 1) : tSpot l c n px py = tDot l (tNum c (vAt l (7168 + 32 * (py / 8) + px / 8))) px py := by unfold tSpot; rw [if_pos h]
theorem tSpot_no {l : List Int} {c n px py : Int} (h : ¬ rBit c n = 1) : tSpot l c n px py = tDot l (tNum c (vAt l (6144 + 32 * (py / 8) + px / 8))) px py := by unfold tSpot; rw [if_neg h]
theorem u8_eighth {x : Int} (h : 0 ≤ x ∧ x < 256) : IntKind.u8.wrap (x.tdiv 8) = x / 8 := by
  rw [Int.tdiv_eq_ediv_of_nonneg h.1, wrap_u8_id (by omega) (by omega)]
theorem i64_eighth {x : Int} (h : 0 ≤ x ∧ x < 256) : IntKind.i64.wrap (x.tdiv 8) = x / 8 := by
  rw [Int.tdiv_eq_ediv_of_nonneg h.1, wrap_i64 (by omega) (by omega)]
theorem mod256 (x : Int) : 0 ≤ x % 256 ∧ x % 256 < 256 := by omega
theorem seen_a {v : Vw} {line : Int} (hv : v.Ok) (h : (band .u8 v.c 32 != 0) = false) : false = tSeen v line := by
  rw [bitOf5 hv.c] at h
  unfold tSeen; rw [h]; simp
theorem seen_b {v : Vw} {line : Int} (h : decide (v.wy ≤ line) = false) : false = tSeen v line := by
  unfold tSeen; rw [h]; simp
theorem seen_c {v : Vw} {line : Int} (hv : v.Ok) (h0 : (band .u8 v.c 1 == 0) = false) (h : (band .u8 v.c 32 != 0) = true) (h2 : decide (v.wy ≤ line) = true) : decide (v.wx ≤ 166) = tSeen v line := by
  rw [bitOf5 hv.c] at h
  rw [bitOf0 hv.c] at h0
  have h1 : rBit v.c 0 = 1 := by have := rBit_01 v.c 0; simp at h0; omega
  unfold tSeen; rw [h, h2, h1]; simp
theorem bit0_on {c : Int} (hc : 0 ≤ c ∧ c < 256) (h0 : (band .u8 c 1 == 0) = false) : rBit c 0 = 1 := by
  rw [bitOf0 hc] at h0
  have := rBit_01 c 0
  simp at h0; omega
theorem bit0_off {c : Int} (hc : 0 ≤ c ∧ c < 256) (h0 : (band .u8 c 1 == 0) = true) : rBit c 0 = 0 := by
  rw [bitOf0 hc] at h0; simpa using h0
end Go.Proofs.Ytjceoaomkbabmaa
namespace Go.Proofs.Ytjceoaomkbabmaa
open Go Go.VV

/-- A sprite: its number, top, left, tile, and how it is seen. -/
structure Sp where
  n : Int
  y : Int
  x : Int
  t : Int
  h : Int
def spc (s : Sp) : List Value := [.int .i64 s.n, .int .i64 s.y, .int .i64 s.x, .int .i64 s.t, .int .u8 s.h]
theorem spc_len (s : Sp) : (spc s).length = 5 := rfl
theorem spc_ones (s : Sp) : ones (spc s) = true := rfl
def sp (oam : List Int) (n : Int) : Sp := ⟨n, oB oam n 0 - 16, oB oam n 1 - 8, oB oam n 2, oB oam n 3⟩
def cmpI (a b : Int) : Int := if a < b then -1 else if b < a then 1 else 0
theorem cmpI_lt (a b : Int) : decide (cmpI a b < 0) = decide (a < b) := by
  unfold cmpI; split
  · simp_all
  · split <;> simp_all

/-- The element 'e' goes leftward, past those that are greater: 'ra' is what is left of it, from the right; 'B' what it has passed. -/
def insB (e : Sp) : List Sp → List Sp → List Sp
  | [], B => e :: B
  | a :: ra, B => if e.x < a.x then insB e ra (a :: B) else (a :: ra).reverse ++ e :: B
def isort (l : List Sp) : List Sp := l.foldl (fun S e => insB e S.reverse []) []
theorem insB_step (e a : Sp) (A B : List Sp) (h : e.x < a.x) : insB e (A ++ [a]).reverse B = insB e A.reverse (a :: B) := by simp [insB, h]
theorem insB_stop (e a : Sp) (A B : List Sp) (h : ¬ e.x < a.x) : insB e (A ++ [a]).reverse B = (A ++ [a]) ++ e :: B := by simp [insB, h]
theorem insB_len (e : Sp) (ra B : List Sp) : (insB e ra B).length = ra.length + 1 + B.length := by
  induction ra generalizing B with
  | nil => simp [insB]; omega
  | cons a ra ih =>
    simp only [insB]
    split
    · rw [ih]; simp; omega
    · simp; omega
theorem isort_snoc (l : List Sp) (e : Sp) : isort (l ++ [e]) = insB e (isort l).reverse [] := by simp [isort]
theorem isort_len (l : List Sp) : (isort l).length = l.length := by
  suffices h : ∀ (l S : List Sp), (l.foldl (fun S e => insB e S.reverse []) S).length = S.length + l.length by simpa [isort] using h l []
  intro l
  induction l with
  | nil => simp
  | cons a l ih => intro S; rw [List.foldl_cons, ih, insB_len]; simp; omega
theorem isort_one (l : List Sp) : isort (l.take 1) ++ l.drop 1 = l := by
  cases l with
  | nil => rfl
  | cons a l => simp [isort, insB]
theorem isort_next {l : List Sp} {i : Nat} (hi : i < l.length) : isort (l.take (i + 1)) = insB l[i] (isort (l.take i)).reverse [] := by
  rw [List.take_succ_eq_append_getElem hi, isort_snoc]

/-! ### what insertion does -/
theorem insB_split (e : Sp) (ra B : List Sp) : ∃ A M, ra.reverse = A ++ M ∧ insB e ra B = A ++ e :: (M ++ B) ∧ (∀ b ∈ M, e.x < b.x) ∧ (A = [] ∨ ∃ A' a, A = A' ++ [a] ∧ ¬ e.x < a.x) := by
  induction ra generalizing B with
  | nil => exact ⟨[], [], rfl, rfl, by simp, .inl rfl⟩
  | cons a ra ih =>
    by_cases h : e.x < a.x
    · obtain ⟨A, M, h1, h2, h3, h4⟩ := ih (a :: B)
      refine ⟨A, M ++ [a], by rw [List.reverse_cons, h1, List.append_assoc], by simp only [insB, if_pos h, h2]; simp, ?_, h4⟩
      intro b hb
      rcases List.mem_append.1 hb with hb | hb
      · exact h3 b hb
      · simp only [List.mem_singleton] at hb; subst hb; exact h
    · exact ⟨(a :: ra).reverse, [], by simp, by simp [insB, h], by simp, .inr ⟨ra.reverse, a, by simp, h⟩⟩
def Sorted (l : List Sp) : Prop := l.Pairwise (fun a b => a.x ≤ b.x)
theorem ins_sorted {S : List Sp} (e : Sp) (hS : Sorted S) : ∃ A M, S = A ++ M ∧ insB e S.reverse [] = A ++ e :: M ∧ (∀ b ∈ M, e.x < b.x) ∧ (∀ a ∈ A, a.x ≤ e.x) := by
  obtain ⟨A, M, h1, h2, h3, h4⟩ := insB_split e S.reverse []
  rw [List.reverse_reverse] at h1
  refine ⟨A, M, h1, by simpa using h2, h3, ?_⟩
  rcases h4 with rfl | ⟨A', a, rfl, h⟩
  · simp
  · intro b hb
    rw [h1, Sorted, List.append_assoc, List.pairwise_append] at hS
    rcases List.mem_append.1 hb with hb | hb
    · have := hS.2.2 b hb a (by simp); omega
    · simp only [List.mem_singleton] at hb; subst hb; omega
theorem ins_keeps {S : List Sp} (e : Sp) (hS : Sorted S) : Sorted (insB e S.reverse []) := by
  obtain ⟨A, M, h1, h2, h3, h4⟩ := ins_sorted e hS
  rw [h2, Sorted, List.pairwise_append]
  rw [h1, Sorted, List.pairwise_append] at hS
  refine ⟨hS.1, List.pairwise_cons.2 ⟨fun b hb => by have := h3 b hb; omega, hS.2.1⟩, fun a ha b hb => ?_⟩
  rcases List.mem_cons.1 hb with rfl | hb
  · exact h4 a ha
  · exact hS.2.2 a ha b hb
theorem isort_sorted (l : List Sp) : Sorted (isort l) := by
  suffices h : ∀ (l S : List Sp), Sorted S → Sorted (l.foldl (fun S e => insB e S.reverse []) S) by exact h l [] List.Pairwise.nil
  intro l
  induction l with
  | nil => exact fun _ h => h
  | cons a l ih => exact fun S h => ih _ (ins_keeps a h)

/-- The first one that is met, when one more has come in. -/
theorem find_ins {S : List Sp} (e : Sp) (hS : Sorted S) (q : Sp → Bool) : (insB e S.reverse []).find? q =
    match S.find? q with
    | none => if q e = true then some e else none
    | some b => if q e = true ∧ e.x < b.x then some e else some b := by
  obtain ⟨A, M, h1, h2, h3, h4⟩ := ins_sorted e hS
  rw [h2, h1, List.find?_append, List.find?_append, List.find?_cons]
  cases hA : A.find? q with
  | some b =>
    have := h4 b (List.mem_of_find?_eq_some hA)
    simp only [Option.some_or]
    rw [if_neg (by omega)]
  | none =>
    simp only [Option.none_or]
    cases hq : q e with
    | true =>
      cases hM : M.find? q with
      | none => simp
      | some b =>
        have := h3 b (List.mem_of_find?_eq_some hM)
        simp [this]
    | false =>
      cases hM : M.find? q <;> simp

/-! ### the document's uppermost one -/
def upStep (q : Int → Bool) (xk : Int → Int) (best n : Int) : Int := if q n = true ∧ (best < 0 ∨ xk n < xk best) then n else best
def upper (q : Int → Bool) (xk : Int → Int) (l : List Int) : Int := l.foldl (upStep q xk) (-1)
theorem upper_snoc (q : Int → Bool) (xk : Int → Int) (l : List Int) (n : Int) : upper q xk (l ++ [n]) = upStep q xk (upper q xk l) n := by simp [upper]
theorem upper_law (oam : List Int) (q : Sp → Bool) (l : List Int) (hl : ∀ n ∈ l, 0 ≤ n) :
    (isort (l.map (sp oam))).find? q = (if upper (fun n => q (sp oam n)) (fun n => oB oam n 1) l < 0 then none else some (sp oam (upper (fun n => q (sp oam n)) (fun n => oB oam n 1) l))) := by
  suffices h : ∀ (r : List Int), (∀ n ∈ r.reverse, 0 ≤ n) → (isort (r.reverse.map (sp oam))).find? q =
      (if upper (fun n => q (sp oam n)) (fun n => oB oam n 1) r.reverse < 0 then none else some (sp oam (upper (fun n => q (sp oam n)) (fun n => oB oam n 1) r.reverse))) by
    have := h l.reverse (by simpa using hl)
    rwa [List.reverse_reverse] at this
  intro r
  induction r with
  | nil => intro _; rfl
  | cons n r ih =>
    intro hr
    have hn : 0 ≤ n := hr n (by simp)
    have ih := ih (fun m hm => hr m (by simp at hm ⊢; exact .inl hm))
    rw [List.reverse_cons, List.map_append, List.map_cons, List.map_nil, isort_snoc, find_ins _ (isort_sorted _), ih, upper_snoc]
    generalize upper (fun n => q (sp oam n)) (fun n => oB oam n 1) r.reverse = u
    unfold upStep
    have hnn : ¬ n < 0 := by omega
    have e1 : (sp oam n).x < (sp oam u).x ↔ oB oam n 1 < oB oam u 1 := by simp only [sp]; omega
    by_cases hu : u < 0 <;> by_cases hq : q (sp oam n) = true <;> by_cases hx : oB oam n 1 < oB oam u 1 <;> simp [hu, hq, hx, e1, hnn]
theorem isort_end {l : List Sp} {i : Nat} (h : l.length ≤ i) : isort (l.take i) ++ l.drop i = isort l := by
  rw [List.take_of_length_le h, List.drop_eq_nil_of_le h, List.append_nil]
theorem ins_done {e : Sp} {A B R S : List Sp} (h : A = [] ∨ ∃ A' x, A = A' ++ [x] ∧ ¬ e.x < x.x) (hI : insB e A.reverse B = insB e S.reverse []) : A ++ e :: (B ++ R) = insB e S.reverse [] ++ R := by
  rw [← hI]
  rcases h with rfl | ⟨A', x, rfl, hx⟩
  · simp [insB]
  · rw [insB_stop e x A' B hx]; simp

/-! ### a place's shade -/
def SpOk (s : Sp) : Prop := (-16 ≤ s.y ∧ s.y ≤ 240) ∧ (-8 ≤ s.x ∧ s.x ≤ 248) ∧ (0 ≤ s.t ∧ s.t < 256) ∧ (0 ≤ s.h ∧ s.h < 256)
theorem sp_ok {oam : List Int} (ho : Byts oam) (n : Int) : SpOk (sp oam n) := by
  have h0 := oB_byte ho n 0
  have h1 := oB_byte ho n 1
  have h2 := oB_byte ho n 2
  have h3 := oB_byte ho n 3
  unfold SpOk sp
  simp only
  omega
def hit (l : List Int) (c x line : Int) (s : Sp) : Bool := sDot l c s.y s.x s.t s.h x line != 0
/-- What is seen: of the sprite that is hit, if there is one. -/
def seenS (l : List Int) (c bk f s2 x line below : Int) : Option Sp → Int
  | none => shd bk below
  | some s => if rBit s.h 7 = 1 ∧ below % 4 ≠ 0 then shd bk below else if rBit s.h 4 = 1 then shd s2 (sDot l c s.y s.x s.t s.h x line) else shd f (sDot l c s.y s.x s.t s.h x line)
theorem find_here {q : Sp → Bool} {l : List Sp} {k : Nat} {s : Sp} (h : (l.take k).find? q = none) (hs : l[k]? = some s) (hq : q s = true) : l.find? q = some s := by
  obtain ⟨hk, he⟩ := List.getElem?_eq_some_iff.1 hs
  rw [split_at hk, List.find?_append, h, he]
  simp [hq]
theorem find_on {q : Sp → Bool} {l : List Sp} {k : Nat} {s : Sp} (h : (l.take k).find? q = none) (hs : l[k]? = some s) (hq : q s = false) : (l.take (k + 1)).find? q = none := by
  obtain ⟨hk, he⟩ := List.getElem?_eq_some_iff.1 hs
  rw [List.take_succ_eq_append_getElem hk, List.find?_append, h, he]
  simp [hq]
theorem bit7_band {h : Int} (hh : 0 ≤ h ∧ h < 256) : (band .u8 h 128 != 0) = decide (rBit h 7 = 1) := by
  refine byte_all (p := fun c => (band .u8 c 128 != 0) = decide (rBit c 7 = 1)) ?_ hh.1 hh.2
  decide +kernel
theorem bit4_band {h : Int} (hh : 0 ≤ h ∧ h < 256) : (band .u8 h 16 != 0) = decide (rBit h 4 = 1) := by
  refine byte_all (p := fun c => (band .u8 c 16 != 0) = decide (rBit c 4 = 1)) ?_ hh.1 hh.2
  decide +kernel
theorem band3 {h : Int} (hh : 0 ≤ h ∧ h < 256) : (band .u8 h 3 != 0) = decide (h % 4 ≠ 0) := by
  refine byte_all (p := fun c => (band .u8 c 3 != 0) = decide (c % 4 ≠ 0)) ?_ hh.1 hh.2
  decide +kernel
theorem sDot_four (l : List Int) (c y x0 t h X L : Int) : 0 ≤ sDot l c y x0 t h X L ∧ sDot l c y x0 t h X L < 256 := by
  unfold sDot
  split
  · omega
  · have h4 : ∀ a b d, 0 ≤ tDot l a b d ∧ tDot l a b d < 4 := fun a b d => by
      unfold tDot
      split
      · omega
      · have := rBit_01 (vAt l (16 * a + 2 * (d % 8))) (7 - b % 8)
        have := rBit_01 (vAt l (16 * a + 2 * (d % 8) + 1)) (7 - b % 8)
        omega
    have := h4 (if hgt c = 16 then t / 2 * 2 + (if rBit h 6 = 1 then hgt c - 1 - (L - y) else L - y) / 8 else t) (if rBit h 5 = 1 then 7 - (X - x0) else X - x0) (if rBit h 6 = 1 then hgt c - 1 - (L - y) else L - y)
    show 0 ≤ tDot _ _ _ _ ∧ tDot _ _ _ _ < 256
    omega
/-- The program's tests, one by one. -/
theorem shade_far {l : List Int} {c bk f s2 x line below : Int} {L : List Sp} {s : Sp} {k : Nat} (hs : L[k]? = some s) (ho : SpOk s) (hb : 0 ≤ below ∧ below < 256) (hn : (L.take k).find? (hit l c x line) = none) (h0 : (sDot l c s.y s.x s.t s.h x line == 0) = false)
    (h1 : (band .u8 s.h 128 != 0) = true) (h2 : (band .u8 below 3 != 0) = true) : shd bk below = seenS l c bk f s2 x line below (L.find? (hit l c x line)) := by
  rw [find_here hn hs (by simp [hit, bne, h0])]
  rw [bit7_band ho.2.2.2, decide_eq_true_eq] at h1
  rw [band3 hb, decide_eq_true_eq] at h2
  simp [seenS, h1, h2]
theorem shade_near {l : List Int} {c bk f s2 x line below : Int} {L : List Sp} {s : Sp} {k : Nat} {b4 : Bool} (hs : L[k]? = some s) (ho : SpOk s) (hb : 0 ≤ below ∧ below < 256) (hn : (L.take k).find? (hit l c x line) = none) (h0 : (sDot l c s.y s.x s.t s.h x line == 0) = false)
    (h1 : (band .u8 s.h 128 != 0) = false ∨ (band .u8 below 3 != 0) = false) (h4 : (band .u8 s.h 16 != 0) = b4) :
    (bif b4 then shd s2 (sDot l c s.y s.x s.t s.h x line) else shd f (sDot l c s.y s.x s.t s.h x line)) = seenS l c bk f s2 x line below (L.find? (hit l c x line)) := by
  rw [find_here hn hs (by simp [hit, bne, h0])]
  rw [bit7_band ho.2.2.2, decide_eq_false_iff_not, band3 hb, decide_eq_false_iff_not] at h1
  rw [bit4_band ho.2.2.2] at h4
  have : ¬ (rBit s.h 7 = 1 ∧ below % 4 ≠ 0) := by rcases h1 with h1 | h1 <;> simp_all
  simp only [seenS, if_neg this]
  subst h4
  by_cases h : rBit s.h 4 = 1 <;> simp [h]
theorem shade_none {l : List Int} {c bk f s2 x line below : Int} {L : List Sp} {k : Nat} (hk : L.length ≤ k) (hn : (L.take k).find? (hit l c x line) = none) : shd bk below = seenS l c bk f s2 x line below (L.find? (hit l c x line)) := by
  rw [List.take_of_length_le hk] at hn
  rw [hn]; rfl
theorem scan_range {oam : List Int} {c line : Int} : ∀ n ∈ scan oam c line, 0 ≤ n ∧ n < 40 := by
  intro n hn
  have := List.mem_of_mem_take hn
  simp only [scanK, List.mem_map, List.mem_filter, List.mem_range] at this
  obtain ⟨m, ⟨h1, _⟩, rfl⟩ := this
  omega
theorem scan_ten (oam : List Int) (c line : Int) : (scan oam c line).length ≤ 10 := by rw [scan_len]; omega
/-- The sprites that a line shows. -/
def shownS (oam : List Int) (c line : Int) : List Sp := if rBit c 1 = 1 then (scan oam c line).map (sp oam) else []
theorem band2 {h : Int} (hh : 0 ≤ h ∧ h < 256) : (band .u8 h 2 != 0) = decide (rBit h 1 = 1) := by
  refine byte_all (p := fun c => (band .u8 c 2 != 0) = decide (rBit c 1 = 1)) ?_ hh.1 hh.2
  decide +kernel
theorem shown_yes {oam : List Int} {c line : Int} (hc : 0 ≤ c ∧ c < 256) (h : (band .u8 c 2 != 0) = true) : shownS oam c line = (scan oam c line).map (sp oam) := by
  rw [band2 hc, decide_eq_true_eq] at h; rw [shownS, if_pos h]
theorem shown_no {oam : List Int} {c line : Int} (hc : 0 ≤ c ∧ c < 256) (h : (band .u8 c 2 != 0) = false) : shownS oam c line = [] := by
  rw [band2 hc, decide_eq_false_iff_not] at h; rw [shownS, if_neg h]
theorem shown_ten (oam : List Int) (c line : Int) : (shownS oam c line).length ≤ 10 := by
  unfold shownS; split
  · rw [List.length_map]; exact scan_ten _ _ _
  · simp
theorem shown_ok {oam : List Int} (ho : Byts oam) (c line : Int) : ∀ s ∈ isort (shownS oam c line), SpOk s := by
  have key : ∀ l : List Sp, (∀ s ∈ l, SpOk s) → ∀ s ∈ isort l, SpOk s := by
    intro l
    suffices h : ∀ (l S : List Sp), (∀ s ∈ S, SpOk s) → (∀ s ∈ l, SpOk s) → ∀ s ∈ l.foldl (fun S e => insB e S.reverse []) S, SpOk s from h l [] (by simp)
    intro l
    induction l with
    | nil => exact fun S hS _ => hS
    | cons a l ih =>
      intro S hS hl
      refine ih _ ?_ (fun s hs => hl s (by simp [hs]))
      obtain ⟨A, M, h1, h2, _, _⟩ := insB_split a S.reverse []
      simp only [h2]
      rw [List.reverse_reverse] at h1
      intro s hs
      simp only [List.append_nil, List.mem_append, List.mem_cons] at hs
      rcases hs with hs | rfl | hs
      · exact hS s (by rw [h1]; simp [hs])
      · exact hl s (by simp)
      · exact hS s (by rw [h1]; simp [hs])
  refine key _ ?_
  unfold shownS; split
  · intro s hs
    obtain ⟨n, _, rfl⟩ := List.mem_map.1 hs
    exact sp_ok ho n
  · simp
theorem flat_next {oam : List Int} {l : List Int} {k : Nat} (hk : k < l.length) : flat spc ((l.take (k + 1)).map (sp oam)) = flat spc ((l.take k).map (sp oam)) ++ spc (sp oam (l.getD k 0)) := by
  rw [List.take_succ_eq_append_getElem hk, List.map_append, List.map_cons, List.map_nil, flat_snoc, List.getD_eq_getElem?_getD, List.getElem?_eq_getElem hk]; rfl
def lineS (l oam : List Int) (c bk f s2 line : Int) (bl : List Int) (i : Nat) : Int := seenS l c bk f s2 i line (bl.getD i 0) ((isort (shownS oam c line)).find? (hit l c i line))
def lineL (l oam : List Int) (c bk f s2 line : Int) (bl : List Int) : List Value := (List.range 160).map (fun i => Value.int .u8 (lineS l oam c bk f s2 line bl i))
def undV (b : List Int) (i : Nat) : Int := if 0 < b.length then b.getD (i % b.length) 0 else 0
def undL (b : List Int) : List Int := (List.range 160).map (undV b)
theorem undL_len (b : List Int) : (undL b).length = 160 := by simp [undL]
theorem undL_byts {b : List Int} (hb : Byts b) : Byts (undL b) := by
  intro x hx
  simp only [undL, List.mem_map] at hx
  obtain ⟨i, _, rfl⟩ := hx
  unfold undV; split
  · exact hb.get _
  · omega
theorem und_law {b : List Int} {k : Nat} (h : 0 < b.length) : (k : Int).tmod (b.length : Int) = ((k % b.length : Nat) : Int) := by
  rw [Int.tmod_eq_emod_of_nonneg (by omega)]; rfl
theorem und_yes {b : List Int} {k : Nat} (h : 0 < b.length) : b.getD (k % b.length) 0 = undV b k := by rw [undV, if_pos h]
theorem und_no {b : List Int} {k : Nat} (h : ¬ 0 < b.length) : undV b k = 0 := by rw [undV, if_neg h]
theorem und_all (b : List Int) : (List.range 160).map (fun i => Value.int .u8 (undV b i)) = (undL b).map (.int .u8) := by simp [undL]
theorem getD_mem {l : List Int} {k : Nat} (h : k < l.length) : l.getD k 0 ∈ l := by
  rw [List.getD_eq_getElem?_getD, List.getElem?_eq_getElem h]; exact List.getElem_mem h
end Go.Proofs.Ytjceoaomkbabmaa
