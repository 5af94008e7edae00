/- Numbers' digits, laid from behind. Plain laws, no program's code. -/
import Derived.Test.YtiadmbhafplepaaDoorYB
import Derived.Test.YtiadmbhafplepaaDoorYC
namespace Go.Proofs.YtiadmbhafplepaaDoor
open Go Go.VV

structure Cd where
  op : Int
  n : Int
deriving DecidableEq
def cCd (c : Cd) : List Value := [.int .i64 c.op, .int .i64 c.n]
theorem cCd_len (c : Cd) : (cCd c).length = 2 := rfl
abbrev Tx := List UInt8
structure Sg where
  text : Tx
  op : Int
  bind : Int
deriving DecidableEq
/-- All signs: longer ones first. -/
def sgs : List Sg := [⟨[124, 124], 7, 1⟩, ⟨[38, 38], 8, 2⟩, ⟨[61, 61], 12, 6⟩, ⟨[33, 61], 13, 6⟩, ⟨[60, 61], 15, 7⟩, ⟨[62, 61], 17, 7⟩, ⟨[60, 60], 18, 8⟩, ⟨[62, 62], 19, 8⟩,
  ⟨[124], 9, 3⟩, ⟨[94], 10, 4⟩, ⟨[38], 11, 5⟩, ⟨[60], 14, 7⟩, ⟨[62], 16, 7⟩, ⟨[43], 20, 9⟩, ⟨[45], 21, 9⟩, ⟨[42], 22, 10⟩, ⟨[47], 23, 10⟩, ⟨[37], 24, 10⟩]
def nms : List Tx := [[97], [102], [98], [99], [100], [101], [104], [108], [97, 102], [98, 99], [100, 101], [104, 108], [115, 112], [112, 99], [97, 100, 100, 114], [118, 97, 108, 117, 101], [107, 105, 110, 100], [98, 97, 110, 107]]
/-- Spaces passed over. -/
def spc : Tx → Tx
  | [] => []
  | c :: t => if c = 32 then spc t else c :: t
def sgn (t : Tx) : Option Sg := sgs.find? fun s => s.text.isPrefixOf t
def small (c : UInt8) : Bool := decide (97 ≤ c.toNat ∧ c.toNat ≤ 122)
/-- A digit's value. -/
def digV (base : Nat) (c : UInt8) : Option Nat :=
  if 48 ≤ c.toNat ∧ c.toNat ≤ 57 then some (c.toNat - 48)
  else if base = 16 ∧ 97 ≤ c.toNat ∧ c.toNat ≤ 102 then some (c.toNat - 87)
  else if base = 16 ∧ 65 ≤ c.toNat ∧ c.toNat ≤ 70 then some (c.toNat - 55) else none
def numL (base : Nat) : Tx → Nat → Nat × Tx
  | [], n => (n, [])
  | c :: t, n => match digV base c with
    | none => (n, c :: t)
    | some d => numL base t (min (n * base + d) 1099511627776)
/-- What comes of reading: what is left of the text, and the orders; or where it doesn't go on, and the error. -/
inductive Rs
  | ok (rest : Tx) (out : List Cd)
  | no (rest : Tx) (e : Int)
  | dry
deriving DecidableEq
def numR (base : Nat) (t at_ : Tx) (out : List Cd) : Rs :=
  if (numL base t 0).2.length = t.length then .no t 11 else if 2147483647 < (numL base t 0).1 then .no at_ 11 else .ok (numL base t 0).2 (out ++ [⟨1, (numL base t 0).1⟩])
def nameR (t : Tx) (out : List Cd) : Rs :=
  match nms.findIdx? (fun x => x == t.takeWhile small) with
  | none => .no t 11
  | some i => .ok (t.dropWhile small) (out ++ [⟨2, i⟩])
inductive Md
  | thing (d : Nat) (t : Tx) (out : List Cd)
  | whole (b : Int) (d : Nat) (t : Tx) (out : List Cd)
  | loop (b : Int) (d : Nat) (t : Tx) (out : List Cd)
  | closed (by_ : UInt8) (d : Nat) (t : Tx) (out : List Cd)
/-- An order behind what was read. -/
def Rs.put (r : Rs) (op : Int) : Rs := match r with
  | .ok t out => .ok t (out ++ [⟨op, 0⟩])
  | .no t e => .no t e
  | .dry => .dry
def pre1 (c : UInt8) : Option Int := if c = 45 then some 4 else if c = 33 then some 5 else if c = 126 then some 6 else none
def run : Nat → Md → Rs
  | 0, _ => .dry
  | n + 1, .thing d t out => match spc t with
    | [] => .no [] 11
    | c :: u => match pre1 c with
      | some op => if d = 20 then .no (c :: u) 12 else (run n (.thing (d + 1) u out)).put op
      | none =>
        if c = 40 then (if d = 20 then .no (c :: u) 12 else run n (.closed 41 (d + 1) u out))
        else if c = 91 then (if d = 20 then .no (c :: u) 12 else (run n (.closed 93 (d + 1) u out)).put 3)
        else if c = 36 then numR 16 u (c :: u) out
        else if small c = true then nameR (c :: u) out
        else numR 10 (c :: u) (c :: u) out
  | n + 1, .whole b d t out => match run n (.thing d t out) with
    | .ok r o => run n (.loop b d r o)
    | x => x
  | n + 1, .loop b d t out => match sgn (spc t) with
    | none => .ok (spc t) out
    | some s => if s.bind < b then .ok (spc t) out else match run n (.whole (s.bind + 1) d ((spc t).drop s.text.length) out) with
      | .ok r o => run n (.loop b d r (o ++ [⟨s.op, 0⟩]))
      | x => x
  | n + 1, .closed by_ d t out => match run n (.whole 0 d t out) with
    | .ok r o => match spc r with
      | [] => .no [] 11
      | c :: u => if c = by_ then .ok u o else .no (c :: u) 11
    | x => x
def Md.text : Md → Tx
  | .thing _ t _ => t
  | .whole _ _ t _ => t
  | .loop _ _ t _ => t
  | .closed _ _ t _ => t
/-- How deep a run's own calls go at most. -/
def Md.need : Md → Nat
  | .thing _ t _ => 4 * t.length + 1
  | .whole _ _ t _ => 4 * t.length + 2
  | .loop _ _ t _ => 4 * t.length + 1
  | .closed _ _ t _ => 4 * t.length + 3
/-- The orders, the place, the error. -/
def parseT (t : Tx) : List Cd × Int × Int :=
  if 300 < t.length then ([], 0, 8) else match run (4 * t.length + 2) (.whole 0 0 t []) with
    | .ok r o => if spc r = [] then (o, 0, 0) else ([], (t.length : Int) - (spc r).length, 11)
    | .no r e => ([], (t.length : Int) - r.length, e)
    | .dry => ([], 0, 0)
theorem awake_parse : parseT [97, 61, 61, 36, 49, 50] = ([⟨2, 0⟩, ⟨1, 18⟩, ⟨12, 0⟩], 0, 0) := by decide +kernel
theorem names_parse : ∀ i : Fin 18, parseT (nms.getD i.val []) = ([⟨2, i.val⟩], 0, 0) := by decide +kernel
end Go.Proofs.YtiadmbhafplepaaDoor
namespace Go.Proofs.YtiadmbhafplepaaDoor
open Go Go.VV

theorem spc_suf : ∀ t : Tx, ∃ p, t = p ++ spc t
  | [] => ⟨[], rfl⟩
  | c :: t => by
    unfold spc
    split
    · obtain ⟨p, hp⟩ := spc_suf t
      exact ⟨c :: p, by rw [List.cons_append, ← hp]⟩
    · exact ⟨[], rfl⟩
theorem spc_idem : ∀ t : Tx, spc (spc t) = spc t
  | [] => rfl
  | c :: t => by
    by_cases h : c = 32
    · have e : spc (c :: t) = spc t := if_pos h
      rw [e]; exact spc_idem t
    · have e : spc (c :: t) = c :: t := if_neg h
      rw [e]; exact e
theorem spc_head {c : UInt8} {t u : Tx} (h : spc t = c :: u) : c ≠ 32 := by
  intro hc
  have := spc_idem t
  rw [h] at this
  rw [show spc (c :: u) = spc u from if_pos hc] at this
  obtain ⟨p, hp⟩ := spc_suf u
  rw [this] at hp
  have := congrArg List.length hp
  simp at this
  omega
theorem numL_suf (base : Nat) : ∀ (t : Tx) (n : Nat), ∃ p, t = p ++ (numL base t n).2
  | [], n => ⟨[], rfl⟩
  | c :: t, n => by
    unfold numL
    split
    · exact ⟨[], rfl⟩
    · obtain ⟨p, hp⟩ := numL_suf base t (min (n * base + _) 1099511627776)
      exact ⟨c :: p, by rw [List.cons_append, ← hp]⟩
theorem sgs_pos : ∀ s ∈ sgs, s.text ≠ [] ∧ 1 ≤ s.bind := by decide
theorem sgn_spec {t : Tx} {s : Sg} (h : sgn t = some s) : s ∈ sgs ∧ ∃ u, t = s.text ++ u := by
  unfold sgn at h
  refine ⟨List.mem_of_find?_eq_some h, ?_⟩
  have := List.find?_some h
  obtain ⟨u, hu⟩ := List.isPrefixOf_iff_prefix.1 this
  exact ⟨u, hu.symm⟩
theorem nms_pos : ∀ x ∈ nms, x ≠ [] := by decide
theorem nameR_ok {t r : Tx} {out o : List Cd} (h : nameR t out = .ok r o) : ∃ p, t = p ++ r ∧ p ≠ [] := by
  unfold nameR at h
  split at h
  · cases h
  · rename_i i hi
    cases h
    refine ⟨t.takeWhile small, List.takeWhile_append_dropWhile.symm, ?_⟩
    have h1 := List.findIdx?_eq_some_iff_getElem.1 hi
    obtain ⟨hl, h2, _⟩ := h1
    have h3 := nms_pos _ (List.getElem_mem hl)
    rwa [eq_of_beq h2] at h3
theorem nameR_no {t r : Tx} {out : List Cd} {e : Int} (h : nameR t out = .no r e) : r = t ∧ e = 11 := by
  unfold nameR at h
  split at h <;> cases h
  exact ⟨rfl, rfl⟩
theorem nameR_dry {t : Tx} {out : List Cd} : nameR t out ≠ .dry := by
  unfold nameR; split <;> (intro h; cases h)
theorem numR_ok {base : Nat} {t a r : Tx} {out o : List Cd} (h : numR base t a out = .ok r o) : ∃ p, t = p ++ r ∧ p ≠ [] := by
  unfold numR at h
  split at h
  · cases h
  · rename_i hn
    split at h <;> cases h
    obtain ⟨p, hp⟩ := numL_suf base t 0
    refine ⟨p, hp, fun h0 => hn ?_⟩
    subst h0
    exact (congrArg List.length hp).symm
theorem numR_no {base : Nat} {t a r : Tx} {out : List Cd} {e : Int} (h : numR base t a out = .no r e) : (r = t ∨ r = a) ∧ e = 11 := by
  unfold numR at h
  split at h
  · cases h; exact ⟨.inl rfl, rfl⟩
  · split at h <;> cases h
    exact ⟨.inr rfl, rfl⟩
theorem numR_dry {base : Nat} {t a : Tx} {out : List Cd} : numR base t a out ≠ .dry := by
  unfold numR; repeat' split
  all_goals (intro h; cases h)
theorem put_ok {r : Rs} {op : Int} {t : Tx} {o : List Cd} (h : r.put op = .ok t o) : ∃ o', r = .ok t o' ∧ o = o' ++ [⟨op, 0⟩] := by
  cases r with
  | ok t' o' => cases h; exact ⟨o', rfl, rfl⟩
  | no => cases h
  | dry => cases h
theorem put_no {r : Rs} {op : Int} {t : Tx} {e : Int} (h : r.put op = .no t e) : r = .no t e := by
  cases r with
  | ok t' o' => cases h
  | no => cases h; rfl
  | dry => cases h
theorem put_dry {r : Rs} {op : Int} (h : r.put op = .dry) : r = .dry := by
  cases r with
  | ok t' o' => cases h
  | no => cases h
  | dry => rfl
/-! a run's equations -/
theorem run_thing (n d : Nat) (t : Tx) (out : List Cd) : run (n + 1) (.thing d t out) = match spc t with
    | [] => .no [] 11
    | c :: u => match pre1 c with
      | some op => if d = 20 then .no (c :: u) 12 else (run n (.thing (d + 1) u out)).put op
      | none =>
        if c = 40 then (if d = 20 then .no (c :: u) 12 else run n (.closed 41 (d + 1) u out))
        else if c = 91 then (if d = 20 then .no (c :: u) 12 else (run n (.closed 93 (d + 1) u out)).put 3)
        else if c = 36 then numR 16 u (c :: u) out
        else if small c = true then nameR (c :: u) out
        else numR 10 (c :: u) (c :: u) out := rfl
theorem run_whole (n : Nat) (b : Int) (d : Nat) (t : Tx) (out : List Cd) : run (n + 1) (.whole b d t out) = match run n (.thing d t out) with
    | .ok r o => run n (.loop b d r o)
    | x => x := rfl
theorem run_loop (n : Nat) (b : Int) (d : Nat) (t : Tx) (out : List Cd) : run (n + 1) (.loop b d t out) = match sgn (spc t) with
    | none => .ok (spc t) out
    | some s => if s.bind < b then .ok (spc t) out else match run n (.whole (s.bind + 1) d ((spc t).drop s.text.length) out) with
      | .ok r o => run n (.loop b d r (o ++ [⟨s.op, 0⟩]))
      | x => x := rfl
theorem run_closed (n : Nat) (by_ : UInt8) (d : Nat) (t : Tx) (out : List Cd) : run (n + 1) (.closed by_ d t out) = match run n (.whole 0 d t out) with
    | .ok r o => match spc r with
      | [] => .no [] 11
      | c :: u => if c = by_ then .ok u o else .no (c :: u) 11
    | x => x := rfl
/-- What is left is an end of the text; of a thing, and of what is closed, something was taken. -/
def Md.eats : Md → Bool
  | .thing .. => true
  | .whole .. => true
  | .closed .. => true
  | .loop .. => false
theorem suf_trans {a b c : Tx} (h : ∃ p, a = p ++ b) (h2 : ∃ p, b = p ++ c) : ∃ p, a = p ++ c := by
  obtain ⟨p, rfl⟩ := h
  obtain ⟨q, rfl⟩ := h2
  exact ⟨p ++ q, by rw [List.append_assoc]⟩
theorem suf_cons {c : UInt8} {a b : Tx} (h : ∃ p, a = p ++ b) : ∃ p, c :: a = p ++ b ∧ p ≠ [] := by
  obtain ⟨p, rfl⟩ := h
  exact ⟨c :: p, rfl, by simp⟩
theorem suf_ne {a b c : Tx} (h : ∃ p, a = p ++ b) (h2 : ∃ p, b = p ++ c ∧ p ≠ []) : ∃ p, a = p ++ c ∧ p ≠ [] := by
  obtain ⟨p, rfl⟩ := h
  obtain ⟨q, rfl, hq⟩ := h2
  exact ⟨p ++ q, by rw [List.append_assoc], by simp [hq]⟩
theorem suf_ne2 {a b c : Tx} (h : ∃ p, a = p ++ b ∧ p ≠ []) (h2 : ∃ p, b = p ++ c) : ∃ p, a = p ++ c ∧ p ≠ [] := by
  obtain ⟨p, rfl, hp⟩ := h
  obtain ⟨q, rfl⟩ := h2
  exact ⟨p ++ q, by rw [List.append_assoc], by simp [hp]⟩
theorem suf_of {a b : Tx} (h : ∃ p, a = p ++ b ∧ p ≠ []) : ∃ p, a = p ++ b := h.elim fun p hp => ⟨p, hp.1⟩
theorem suf_len {a b : Tx} (h : ∃ p, a = p ++ b) : b.length ≤ a.length := by
  obtain ⟨p, rfl⟩ := h
  simp
theorem suf_lt {a b : Tx} (h : ∃ p, a = p ++ b ∧ p ≠ []) : b.length < a.length := by
  obtain ⟨p, rfl, hp⟩ := h
  have := List.length_pos_iff.2 hp
  simp; omega
theorem run_eats : ∀ (n : Nat) (m : Md), (∀ r o, run n m = .ok r o → (∃ p, m.text = p ++ r) ∧ (m.eats = true → ∃ p, m.text = p ++ r ∧ p ≠ [])) ∧ (∀ r e, run n m = .no r e → ∃ p, m.text = p ++ r)
  | 0, _ => ⟨fun _ _ h => (by cases h), fun _ _ h => by cases h⟩
  | n + 1, .thing d t out => by
    have both : (∀ r o, run (n + 1) (.thing d t out) = .ok r o → ∃ p, t = p ++ r ∧ p ≠ []) ∧ (∀ r e, run (n + 1) (.thing d t out) = .no r e → ∃ p, t = p ++ r) := by
      rw [run_thing]
      have hs := spc_suf t
      cases hc : spc t with
      | nil => exact ⟨fun _ _ h => (by cases h), fun _ _ h => by cases h; exact ⟨t, by simp⟩⟩
      | cons c u =>
        rw [hc] at hs
        have hu : ∃ p, t = p ++ u ∧ p ≠ [] := suf_ne hs (suf_cons ⟨[], rfl⟩)
        have ih := fun m => run_eats n m
        dsimp only
        cases hp : pre1 c with
        | some op =>
          dsimp only
          split
          · exact ⟨fun _ _ h => (by cases h), fun _ _ h => by cases h; exact hs⟩
          · refine ⟨fun r o h => ?_, fun r e h => ?_⟩
            · obtain ⟨o', h', -⟩ := put_ok h
              exact suf_ne2 hu (((ih _).1 _ _ h').1)
            · exact suf_trans (suf_of hu) ((ih _).2 _ _ (put_no h))
        | none =>
          dsimp only
          split
          · split
            · exact ⟨fun _ _ h => (by cases h), fun _ _ h => by cases h; exact hs⟩
            · exact ⟨fun r o h => suf_ne2 hu (((ih _).1 _ _ h).1), fun r e h => suf_trans (suf_of hu) ((ih _).2 _ _ h)⟩
          · split
            · split
              · exact ⟨fun _ _ h => (by cases h), fun _ _ h => by cases h; exact hs⟩
              · refine ⟨fun r o h => ?_, fun r e h => ?_⟩
                · obtain ⟨o', h', -⟩ := put_ok h
                  exact suf_ne2 hu (((ih _).1 _ _ h').1)
                · exact suf_trans (suf_of hu) ((ih _).2 _ _ (put_no h))
            · split
              · refine ⟨fun r o h => suf_ne2 hu (suf_of (numR_ok h)), fun r e h => ?_⟩
                rcases (numR_no h).1 with rfl | rfl
                · exact suf_of hu
                · exact hs
              · split
                · exact ⟨fun r o h => suf_ne hs (nameR_ok h), fun r e h => by rw [(nameR_no h).1]; exact hs⟩
                · refine ⟨fun r o h => suf_ne hs (numR_ok h), fun r e h => ?_⟩
                  rcases (numR_no h).1 with rfl | rfl <;> exact hs
    exact ⟨fun r o h => ⟨suf_of (both.1 r o h), fun _ => both.1 r o h⟩, both.2⟩
  | n + 1, .whole b d t out => by
    rw [run_whole]
    have h1 := run_eats n (.thing d t out)
    cases hr : run n (.thing d t out) with
    | dry => exact ⟨fun _ _ h => (by cases h), fun _ _ h => by cases h⟩
    | no r e => exact ⟨fun _ _ h => (by cases h), fun _ _ h => by cases h; exact h1.2 _ _ hr⟩
    | ok r o =>
      have h2 := (h1.1 _ _ hr).2 rfl
      have h3 := run_eats n (.loop b d r o)
      exact ⟨fun r' o' h => ⟨suf_of (suf_ne2 h2 (h3.1 _ _ h).1), fun _ => suf_ne2 h2 (h3.1 _ _ h).1⟩, fun r' e h => suf_of (suf_ne2 h2 (h3.2 _ _ h))⟩
  | n + 1, .loop b d t out => by
    rw [run_loop]
    have hs := spc_suf t
    cases hg : sgn (spc t) with
    | none => exact ⟨fun _ _ h => by cases h; exact ⟨hs, fun h => by cases h⟩, fun _ _ h => by cases h⟩
    | some s =>
      dsimp only
      split
      · exact ⟨fun _ _ h => by cases h; exact ⟨hs, fun h => by cases h⟩, fun _ _ h => by cases h⟩
      · have hd : ∃ p, spc t = p ++ (spc t).drop s.text.length := ⟨(spc t).take s.text.length, (List.take_append_drop _ _).symm⟩
        have h1 := run_eats n (.whole (s.bind + 1) d ((spc t).drop s.text.length) out)
        cases hr : run n (.whole (s.bind + 1) d ((spc t).drop s.text.length) out) with
        | dry => exact ⟨fun _ _ h => (by cases h), fun _ _ h => by cases h⟩
        | no r e => exact ⟨fun _ _ h => (by cases h), fun _ _ h => by cases h; exact suf_trans (suf_trans hs hd) (h1.2 _ _ hr)⟩
        | ok r o =>
          have h2 := suf_trans (suf_trans hs hd) (h1.1 _ _ hr).1
          have h3 := run_eats n (.loop b d r (o ++ [⟨s.op, 0⟩]))
          exact ⟨fun r' o' h => ⟨suf_trans h2 (h3.1 _ _ h).1, fun h => by cases h⟩, fun r' e h => suf_trans h2 (h3.2 _ _ h)⟩
  | n + 1, .closed by_ d t out => by
    rw [run_closed]
    have h1 := run_eats n (.whole 0 d t out)
    cases hr : run n (.whole 0 d t out) with
    | dry => exact ⟨fun _ _ h => (by cases h), fun _ _ h => by cases h⟩
    | no r e => exact ⟨fun _ _ h => (by cases h), fun _ _ h => by cases h; exact h1.2 _ _ hr⟩
    | ok r o =>
      have h2 := (h1.1 _ _ hr).1
      have hs := spc_suf r
      dsimp only
      cases hc : spc r with
      | nil => exact ⟨fun _ _ h => (by cases h), fun _ _ h => by cases h; exact ⟨t, by simp [Md.text]⟩⟩
      | cons c u =>
        rw [hc] at hs
        have h3 : ∃ p, t = p ++ u ∧ p ≠ [] := suf_ne (suf_trans h2 hs) (suf_cons ⟨[], rfl⟩)
        dsimp only
        split
        · exact ⟨fun _ _ h => by cases h; exact ⟨suf_of h3, fun _ => h3⟩, fun _ _ h => by cases h⟩
        · exact ⟨fun _ _ h => (by cases h), fun _ _ h => by cases h; exact suf_trans h2 hs⟩
/-- It isn't left unfinished. -/
theorem run_ends : ∀ (n : Nat) (m : Md), m.need ≤ n → run n m ≠ .dry
  | 0, m, h => by cases m <;> simp [Md.need] at h
  | n + 1, .thing d t out, h => by
    simp only [Md.need] at h
    rw [run_thing]
    have hs := suf_len (spc_suf t)
    cases hc : spc t with
    | nil => intro h; cases h
    | cons c u =>
      rw [hc, List.length_cons] at hs
      dsimp only
      cases hp : pre1 c with
      | some op =>
        dsimp only
        split
        · intro h; cases h
        · exact fun h' => run_ends n (.thing (d + 1) u out) (by simp only [Md.need]; omega) (put_dry h')
      | none =>
        dsimp only
        split
        · split
          · intro h; cases h
          · exact run_ends n _ (by simp only [Md.need]; omega)
        · split
          · split
            · intro h; cases h
            · exact fun h' => run_ends n (.closed 93 (d + 1) u out) (by simp only [Md.need]; omega) (put_dry h')
          · split
            · exact numR_dry
            · split
              · exact nameR_dry
              · exact numR_dry
  | n + 1, .whole b d t out, h => by
    simp only [Md.need] at h
    rw [run_whole]
    have h0 := run_ends n (.thing d t out) (by simp only [Md.need]; omega)
    have h1 := run_eats n (.thing d t out)
    cases hr : run n (.thing d t out) with
    | dry => exact absurd hr h0
    | no r e => intro h; cases h
    | ok r o =>
      have h2 := suf_lt ((h1.1 _ _ hr).2 rfl)
      exact run_ends n _ (by simp only [Md.need, Md.text] at h2 ⊢; omega)
  | n + 1, .loop b d t out, h => by
    simp only [Md.need] at h
    rw [run_loop]
    have hs := suf_len (spc_suf t)
    cases hg : sgn (spc t) with
    | none => intro h; cases h
    | some s =>
      dsimp only
      split
      · intro h; cases h
      · obtain ⟨hm, u, hu⟩ := sgn_spec hg
        have hp := List.length_pos_iff.2 (sgs_pos s hm).1
        have hl : ((spc t).drop s.text.length).length + 1 ≤ t.length := by
          rw [List.length_drop]
          have := congrArg List.length hu
          rw [List.length_append] at this
          omega
        have h0 := run_ends n (.whole (s.bind + 1) d ((spc t).drop s.text.length) out) (by simp only [Md.need]; omega)
        have h1 := run_eats n (.whole (s.bind + 1) d ((spc t).drop s.text.length) out)
        cases hr : run n (.whole (s.bind + 1) d ((spc t).drop s.text.length) out) with
        | dry => exact absurd hr h0
        | no r e => intro h; cases h
        | ok r o =>
          have h2 := suf_len (h1.1 _ _ hr).1
          exact run_ends n _ (by simp only [Md.need, Md.text] at h2 ⊢; omega)
  | n + 1, .closed by_ d t out, h => by
    simp only [Md.need] at h
    rw [run_closed]
    have h0 := run_ends n (.whole 0 d t out) (by simp only [Md.need]; omega)
    cases hr : run n (.whole 0 d t out) with
    | dry => exact absurd hr h0
    | no r e => intro h; cases h
    | ok r o =>
      dsimp only
      split
      · intro h; cases h
      · split <;> (intro h; cases h)
/-- More steps change nothing. -/
theorem run_more : ∀ (n : Nat) (m : Md), run n m ≠ .dry → run (n + 1) m = run n m
  | 0, m, h => absurd rfl h
  | n + 1, .thing d t out, h => by
    rw [run_thing] at h ⊢
    rw [run_thing]
    cases hc : spc t with
    | nil => rfl
    | cons c u =>
      rw [hc] at h
      dsimp only at h ⊢
      cases hp : pre1 c with
      | some op =>
        rw [hp] at h
        dsimp only at h ⊢
        by_cases hd : d = 20
        · rw [if_pos hd, if_pos hd]
        · rw [if_neg hd, if_neg hd]
          rw [if_neg hd] at h
          rw [run_more n _ (fun h' => h (by rw [h']; rfl))]
      | none =>
        rw [hp] at h
        dsimp only at h ⊢
        by_cases h1 : c = 40
        · rw [if_pos h1, if_pos h1]
          rw [if_pos h1] at h
          by_cases hd : d = 20
          · rw [if_pos hd, if_pos hd]
          · rw [if_neg hd, if_neg hd]
            rw [if_neg hd] at h
            exact run_more n _ h
        · rw [if_neg h1, if_neg h1]
          rw [if_neg h1] at h
          by_cases h2 : c = 91
          · rw [if_pos h2, if_pos h2]
            rw [if_pos h2] at h
            by_cases hd : d = 20
            · rw [if_pos hd, if_pos hd]
            · rw [if_neg hd, if_neg hd]
              rw [if_neg hd] at h
              rw [run_more n _ (fun h' => h (by rw [h']; rfl))]
          · rw [if_neg h2, if_neg h2]
  | n + 1, .whole b d t out, h => by
    rw [run_whole] at h ⊢
    rw [run_whole]
    have hn : run n (.thing d t out) ≠ .dry := fun h' => h (by rw [h'])
    rw [run_more n _ hn]
    cases hr : run n (.thing d t out) with
    | dry => rfl
    | no r e => rfl
    | ok r o =>
      rw [hr] at h
      exact run_more n _ h
  | n + 1, .loop b d t out, h => by
    rw [run_loop] at h ⊢
    rw [run_loop]
    cases hg : sgn (spc t) with
    | none => rfl
    | some s =>
      rw [hg] at h
      dsimp only at h ⊢
      by_cases hb : s.bind < b
      · rw [if_pos hb, if_pos hb]
      · rw [if_neg hb, if_neg hb]
        rw [if_neg hb] at h
        have hn : run n (.whole (s.bind + 1) d ((spc t).drop s.text.length) out) ≠ .dry := fun h' => h (by rw [h'])
        rw [run_more n _ hn]
        cases hr : run n (.whole (s.bind + 1) d ((spc t).drop s.text.length) out) with
        | dry => rfl
        | no r e => rfl
        | ok r o =>
          rw [hr] at h
          exact run_more n _ h
  | n + 1, .closed by_ d t out, h => by
    rw [run_closed] at h ⊢
    rw [run_closed]
    have hn : run n (.whole 0 d t out) ≠ .dry := fun h' => h (by rw [h'])
    rw [run_more n _ hn]
theorem run_le {n k : Nat} {m : Md} (h : run n m ≠ .dry) (hk : n ≤ k) : run k m = run n m := by
  induction k with
  | zero => rw [show n = 0 by omega]
  | succ k ih =>
    rcases Nat.lt_or_ge k n with h1 | h1
    · rw [show n = k + 1 by omega]
    · rw [run_more k m (by rw [ih h1]; exact h), ih h1]
end Go.Proofs.YtiadmbhafplepaaDoor
namespace Go.Proofs.YtiadmbhafplepaaDoor
open Go Go.VV

def Md.at_ : Md → Tx → Md
  | .thing d _ o, t => .thing d t o
  | .whole b d _ o, t => .whole b d t o
  | .loop b d _ o, t => .loop b d t o
  | .closed c d _ o, t => .closed c d t o
theorem app_inj {p x v y : Tx} (h : x ++ v = p ++ (y ++ v)) : x = p ++ y := by
  rw [← List.append_assoc] at h
  exact List.append_cancel_right h
theorem spc_app (x v : Tx) : spc (x ++ v) = if spc x = [] then spc v else spc x ++ v := by
  induction x with
  | nil => rfl
  | cons c t ih =>
    by_cases h : c = 32
    · have e1 : spc (c :: t) = spc t := if_pos h
      have e2 : spc (c :: t ++ v) = spc (t ++ v) := if_pos h
      rw [e1, e2, ih]
    · have e1 : spc (c :: t) = c :: t := if_neg h
      have e2 : spc (c :: t ++ v) = c :: (t ++ v) := if_neg h
      rw [e1, e2, if_neg (by simp)]; rfl
theorem spc_cut {x v y : Tx} (h : spc (x ++ v) = y ++ v) : spc x = y := by
  rw [spc_app] at h
  split at h
  · rename_i hx
    rw [hx]
    obtain ⟨p, hp⟩ := spc_suf v
    have h1 := congrArg List.length hp
    have h2 := congrArg List.length h
    simp at h1 h2
    exact (List.eq_nil_of_length_eq_zero (by omega)).symm
  · exact List.append_cancel_right h
/-- What is left, of which an end is v, is v and something ahead. -/
theorem spc_some {x v r : Tx} (h : ∃ p, spc (x ++ v) = p ++ (r ++ v)) : ∃ z, spc (x ++ v) = z ++ v ∧ spc x = z := by
  obtain ⟨p, hp⟩ := h
  have e : spc (x ++ v) = (p ++ r) ++ v := by rw [hp, List.append_assoc]
  exact ⟨p ++ r, e, spc_cut e⟩
theorem sgn_none {z v : Tx} (h : sgn (z ++ v) = none) : sgn z = none := by
  unfold sgn at h ⊢
  rw [List.find?_eq_none] at h ⊢
  intro s hs hp
  refine h s hs ?_
  obtain ⟨u, hu⟩ := List.isPrefixOf_iff_prefix.1 hp
  exact List.isPrefixOf_iff_prefix.2 ⟨u ++ v, by rw [← List.append_assoc, hu]⟩
theorem find_cut {l : List Sg} {z v : Tx} {s : Sg} (hl : s.text.length ≤ z.length) (h : l.find? (fun s => s.text.isPrefixOf (z ++ v)) = some s) : l.find? (fun s => s.text.isPrefixOf z) = some s := by
  induction l with
  | nil => cases h
  | cons a l ih =>
    rw [List.find?_cons] at h ⊢
    cases ha : a.text.isPrefixOf (z ++ v) with
    | true =>
      rw [ha] at h
      have hs : a = s := by simpa using h
      subst hs
      obtain ⟨u, hu⟩ := List.isPrefixOf_iff_prefix.1 ha
      obtain ⟨k, hk⟩ := List.prefix_of_prefix_length_le (List.prefix_append a.text u) (show z <+: a.text ++ u by rw [hu]; exact List.prefix_append z v) hl
      rw [show a.text.isPrefixOf z = true from List.isPrefixOf_iff_prefix.2 ⟨k, hk⟩]
    | false =>
      rw [ha] at h
      have : a.text.isPrefixOf z = false := by
        cases hz : a.text.isPrefixOf z with
        | false => rfl
        | true =>
          obtain ⟨u, hu⟩ := List.isPrefixOf_iff_prefix.1 hz
          rw [show a.text.isPrefixOf (z ++ v) = true from List.isPrefixOf_iff_prefix.2 ⟨u ++ v, by rw [← List.append_assoc, hu]⟩] at ha
          cases ha
      rw [this]
      exact ih h
theorem sgn_cut {z v : Tx} {s : Sg} (h : sgn (z ++ v) = some s) (hl : s.text.length ≤ z.length) : sgn z = some s := find_cut hl h
theorem sgn_nil : sgn [] = none := by decide
theorem numL_cut (base : Nat) : ∀ (x : Tx) {v y : Tx} {n k : Nat}, numL base (x ++ v) n = (k, y ++ v) → numL base x n = (k, y)
  | [], v, y, n, k, h => by
    rw [List.nil_append] at h
    have hy : y = [] := by
      obtain ⟨p, hp⟩ := numL_suf base v n
      rw [h] at hp
      have := congrArg List.length hp
      simp at this
      exact List.eq_nil_of_length_eq_zero (by omega)
    subst hy
    cases v with
    | nil => exact h
    | cons c t =>
      unfold numL at h ⊢
      cases hd : digV base c with
      | none => rw [hd] at h; cases h; rfl
      | some d =>
        rw [hd] at h
        obtain ⟨p, hp⟩ := numL_suf base t (min (n * base + d) 1099511627776)
        dsimp only at h
        rw [h] at hp
        have := congrArg List.length hp
        simp at this
        omega
  | c :: x, v, y, n, k, h => by
    rw [List.cons_append] at h
    unfold numL at h ⊢
    cases hd : digV base c with
    | none =>
      rw [hd] at h
      dsimp only at h ⊢
      have h1 := congrArg Prod.fst h
      have h2 := congrArg Prod.snd h
      dsimp only at h1 h2
      rw [← List.cons_append] at h2
      rw [h1, List.append_cancel_right h2]
    | some d =>
      rw [hd] at h
      exact numL_cut base x h
theorem drop_cut : ∀ (x : Tx) {v y : Tx}, (x ++ v).dropWhile small = y ++ v → x.dropWhile small = y ∧ x.takeWhile small = (x ++ v).takeWhile small
  | [], v, y, h => by
    rw [List.nil_append] at h ⊢
    have hy : y = [] := by
      have h1 := congrArg List.length (List.takeWhile_append_dropWhile (p := small) (l := v))
      rw [h] at h1
      simp at h1
      exact List.eq_nil_of_length_eq_zero (by omega)
    subst hy
    refine ⟨rfl, ?_⟩
    have h1 := congrArg List.length (List.takeWhile_append_dropWhile (p := small) (l := v))
    rw [h] at h1
    simp at h1
    rw [h1]; rfl
  | c :: x, v, y, h => by
    rw [List.cons_append, List.dropWhile_cons] at h
    rw [List.cons_append, List.dropWhile_cons, List.takeWhile_cons, List.takeWhile_cons]
    split at h
    · rename_i hc
      have := drop_cut x h
      rw [if_pos hc, if_pos hc, if_pos hc, this.1, this.2]
      exact ⟨rfl, rfl⟩
    · rename_i hc
      rw [if_neg hc, if_neg hc, if_neg hc]
      exact ⟨List.append_cancel_right h, rfl⟩
theorem numR_cut {base : Nat} {x v a b y : Tx} {out o : List Cd} (h : numR base (x ++ v) a out = .ok (y ++ v) o) : numR base x b out = .ok y o := by
  unfold numR at h ⊢
  split at h
  · cases h
  · rename_i h1
    split at h
    · cases h
    · rename_i h2
      generalize hq : numL base (x ++ v) 0 = q at h h1 h2
      obtain ⟨k, r⟩ := q
      injection h with h3 h4
      dsimp only at h1 h2 h3 h4
      subst h3
      have := numL_cut base x hq
      rw [this]
      dsimp only
      rw [if_neg (by intro h; exact h1 (by rw [List.length_append, List.length_append, h])), if_neg h2, h4]
theorem nameR_cut {x v y : Tx} {out o : List Cd} (h : nameR (x ++ v) out = .ok (y ++ v) o) : nameR x out = .ok y o := by
  unfold nameR at h ⊢
  split at h
  · cases h
  · rename_i i hi
    injection h with h1 h2
    have := drop_cut x h1
    rw [this.2, hi, this.1]
    exact congrArg _ h2
/-- What is left of a whole, or of what follows, begins with no sign that it takes. -/
theorem run_left : ∀ (n : Nat) (m : Md), match m with
    | .whole b _ _ _ => ∀ r o, run n m = .ok r o → spc r = r ∧ (∀ s, sgn r = some s → s.bind < b)
    | .loop b _ _ _ => ∀ r o, run n m = .ok r o → spc r = r ∧ (∀ s, sgn r = some s → s.bind < b)
    | _ => True
  | _, .thing .. => trivial
  | _, .closed .. => trivial
  | 0, .whole .. => fun _ _ h => by cases h
  | 0, .loop .. => fun _ _ h => by cases h
  | n + 1, .whole b d t out => fun r o h => by
    rw [run_whole] at h
    split at h
    · exact run_left n (.loop b d _ _) r o h
    · rename_i x hx
      exact absurd h (hx r o)
  | n + 1, .loop b d t out => fun r o h => by
    rw [run_loop] at h
    split at h
    · rename_i hg
      cases h
      exact ⟨spc_idem t, fun s hs => by rw [hg] at hs; cases hs⟩
    · rename_i s hg
      split at h
      · rename_i hb
        cases h
        exact ⟨spc_idem t, fun s' hs => by rw [hg] at hs; cases hs; exact hb⟩
      · split at h
        · exact run_left n (.loop b d _ _) r o h
        · rename_i x hx
          exact absurd h (hx r o)
theorem suf_app {a v : Tx} (h : ∃ p, a = p ++ v) : ∃ y, a = y ++ v := h
theorem whole0_none {n d : Nat} {t r : Tx} {out o : List Cd} (h : run n (.whole 0 d t out) = .ok r o) : spc r = r ∧ sgn r = none := by
  have h1 := run_left n (.whole 0 d t out) r o h
  refine ⟨h1.1, ?_⟩
  cases hg : sgn r with
  | none => rfl
  | some s =>
    have := h1.2 s hg
    have := (sgs_pos s (sgn_spec hg).1).2
    omega
def Md.loose : Md → Bool
  | .whole .. => true
  | .loop .. => true
  | _ => false
theorem run_pos {n : Nat} {m : Md} {x : Rs} (h : run n m = x) (hx : x ≠ .dry) : ∃ k, n = k + 1 := by
  cases n with
  | zero => exact absurd h.symm hx
  | succ k => exact ⟨k, rfl⟩
theorem loop_nil (n : Nat) (b : Int) (d : Nat) (o : List Cd) : run (n + 1) (.loop b d [] o) = .ok [] o := by
  rw [run_loop]
  rw [show spc [] = [] from rfl, sgn_nil]
/-- A sign that a loop takes, where v is left at last, doesn't reach into v. -/
theorem loop_took {n : Nat} {b : Int} {d : Nat} {y v : Tx} {out : List Cd} {x : Rs} (hs : spc (y ++ v) = y ++ v) (h : run n (.loop b d (y ++ v) out) = x)
    (hx : (∃ e, x = .no v e) ∨ (∃ z o, x = .ok (z ++ v) o ∧ sgn z = sgn (z ++ v))) : sgn y = sgn (y ++ v) := by
  obtain ⟨k, rfl⟩ := run_pos h (by rcases hx with ⟨e, rfl⟩ | ⟨z, o, rfl, -⟩ <;> (intro h; cases h))
  rw [run_loop, hs] at h
  cases hg : sgn (y ++ v) with
  | none => exact sgn_none hg
  | some s =>
    rw [hg] at h
    dsimp only at h
    split at h
    · rcases hx with ⟨e, rfl⟩ | ⟨z, o, rfl, hz⟩
      · cases h
      · injection h with h1 h2
        rw [List.append_cancel_right h1, hz, ← h1, hg]
    · obtain ⟨hm, u, hu⟩ := sgn_spec hg
      have hd : (y ++ v).drop s.text.length = u := by rw [hu, List.drop_left]
      have hv : ∃ p, u = p ++ v := by
        rw [hd] at h
        cases hr : run k (.whole (s.bind + 1) d u out) with
        | dry => rw [hr] at h; rcases hx with ⟨e, rfl⟩ | ⟨z, o, rfl, -⟩ <;> cases h
        | no r e' =>
          rw [hr] at h
          rcases hx with ⟨e, rfl⟩ | ⟨z, o, rfl, -⟩
          · cases h; exact (run_eats k _).2 _ _ hr
          · cases h
        | ok r o' =>
          rw [hr] at h
          dsimp only at h
          have h1 := ((run_eats k _).1 _ _ hr).1
          rcases hx with ⟨e, rfl⟩ | ⟨z, o, rfl, -⟩
          · exact suf_trans h1 ((run_eats k _).2 _ _ h)
          · exact suf_trans (suf_trans h1 ((run_eats k _).1 _ _ h).1) ⟨z, rfl⟩
      refine sgn_cut hg ?_
      obtain ⟨p, rfl⟩ := hv
      have := congrArg List.length hu
      simp at this
      omega
theorem cut_law (v : Tx) (hv : v ≠ []) : ∀ (n : Nat) (m : Md) (x : Tx), m.text = x ++ v →
    (∀ e, run n m = .no v e → run n (m.at_ x) = .no [] 11 ∨ (m.loose = true ∧ ∃ o, run n (m.at_ x) = .ok [] o)) ∧
    (∀ y o, run n m = .ok (y ++ v) o → (m.loose = true → sgn y = sgn (y ++ v)) → run n (m.at_ x) = .ok y o)
  | 0, m, x, _ => ⟨fun _ h => (by cases h), fun _ _ h => by cases h⟩
  | n + 1, .thing d t out, x, ht => by
    obtain rfl : t = x ++ v := ht
    show (∀ e, run (n + 1) (.thing d (x ++ v) out) = .no v e → run (n + 1) (.thing d x out) = .no [] 11 ∨ (false = true ∧ ∃ o, run (n + 1) (.thing d x out) = .ok [] o)) ∧ (∀ y o, run (n + 1) (.thing d (x ++ v) out) = .ok (y ++ v) o → (false = true → sgn y = sgn (y ++ v)) → run (n + 1) (.thing d x out) = .ok y o)
    have nil_ : spc x = [] → run (n + 1) (.thing d x out) = .no [] 11 := fun h => by rw [run_thing, h]
    have at_v : spc (x ++ v) = v → run (n + 1) (.thing d x out) = .no [] 11 := fun h => nil_ (spc_cut (y := []) h)
    have ih := fun m x => cut_law v hv n m x
    rw [run_thing n d (x ++ v)]
    cases hc : spc (x ++ v) with
    | nil => exact ⟨fun e h => (by cases h; exact absurd rfl hv), fun _ _ h => by cases h⟩
    | cons c u =>
      have hd : ∀ w, u = w ++ v → spc x = c :: w := fun w hw => spc_cut (by rw [hc, hw]; rfl)
      dsimp only
      cases hp : pre1 c with
      | some op =>
        dsimp only
        by_cases h20 : d = 20
        · rw [if_pos h20]
          exact ⟨fun e h => .inl (at_v (by rw [hc]; cases h; rfl)), fun _ _ h => by cases h⟩
        · rw [if_neg h20]
          refine ⟨fun e h => .inl ?_, fun y o h _ => ?_⟩
          · have h1 := put_no h
            obtain ⟨w, rfl⟩ := (run_eats n _).2 _ _ h1
            have h2 := ((ih (.thing (d + 1) (w ++ v) out) w rfl).1 e h1).resolve_right (fun h => by cases h.1)
            rw [run_thing, hd w rfl]
            dsimp only
            rw [hp]
            dsimp only
            rw [if_neg h20, show run n (.thing (d + 1) w out) = .no [] 11 from h2]; rfl
          · obtain ⟨o', h1, rfl⟩ := put_ok h
            obtain ⟨w, hw⟩ := suf_trans ((run_eats n _).1 _ _ h1).1 ⟨y, rfl⟩
            obtain rfl : u = w ++ v := hw
            have h2 := (ih (.thing (d + 1) (w ++ v) out) w rfl).2 y o' h1 (fun h => by cases h)
            rw [run_thing, hd w rfl]
            dsimp only
            rw [hp]
            dsimp only
            rw [if_neg h20, show run n (.thing (d + 1) w out) = .ok y o' from h2]; rfl
      | none =>
        dsimp only
        by_cases h40 : c = 40
        · rw [if_pos h40]
          by_cases h20 : d = 20
          · rw [if_pos h20]
            exact ⟨fun e h => .inl (at_v (by rw [hc]; cases h; rfl)), fun _ _ h => by cases h⟩
          · rw [if_neg h20]
            refine ⟨fun e h1 => .inl ?_, fun y o h1 _ => ?_⟩
            · obtain ⟨w, rfl⟩ := (run_eats n _).2 _ _ h1
              have h2 := ((ih (.closed 41 (d + 1) (w ++ v) out) w rfl).1 e h1).resolve_right (fun h => by cases h.1)
              rw [run_thing, hd w rfl]
              dsimp only
              rw [hp]
              dsimp only
              rw [if_pos h40, if_neg h20]; exact h2
            · obtain ⟨w, hw⟩ := suf_trans ((run_eats n _).1 _ _ h1).1 ⟨y, rfl⟩
              obtain rfl : u = w ++ v := hw
              have h2 := (ih (.closed 41 (d + 1) (w ++ v) out) w rfl).2 y o h1 (fun h => by cases h)
              rw [run_thing, hd w rfl]
              dsimp only
              rw [hp]
              dsimp only
              rw [if_pos h40, if_neg h20]; exact h2
        · rw [if_neg h40]
          by_cases h91 : c = 91
          · rw [if_pos h91]
            by_cases h20 : d = 20
            · rw [if_pos h20]
              exact ⟨fun e h => .inl (at_v (by rw [hc]; cases h; rfl)), fun _ _ h => by cases h⟩
            · rw [if_neg h20]
              refine ⟨fun e h => .inl ?_, fun y o h _ => ?_⟩
              · have h1 := put_no h
                obtain ⟨w, rfl⟩ := (run_eats n _).2 _ _ h1
                have h2 := ((ih (.closed 93 (d + 1) (w ++ v) out) w rfl).1 e h1).resolve_right (fun h => by cases h.1)
                rw [run_thing, hd w rfl]
                dsimp only
                rw [hp]
                dsimp only
                rw [if_neg h40, if_pos h91, if_neg h20, show run n (.closed 93 (d + 1) w out) = .no [] 11 from h2]; rfl
              · obtain ⟨o', h1, rfl⟩ := put_ok h
                obtain ⟨w, hw⟩ := suf_trans ((run_eats n _).1 _ _ h1).1 ⟨y, rfl⟩
                obtain rfl : u = w ++ v := hw
                have h2 := (ih (.closed 93 (d + 1) (w ++ v) out) w rfl).2 y o' h1 (fun h => by cases h)
                rw [run_thing, hd w rfl]
                dsimp only
                rw [hp]
                dsimp only
                rw [if_neg h40, if_pos h91, if_neg h20, show run n (.closed 93 (d + 1) w out) = .ok y o' from h2]; rfl
          · rw [if_neg h91]
            by_cases h36 : c = 36
            · rw [if_pos h36]
              refine ⟨fun e h => .inl ?_, fun y o h _ => ?_⟩
              · rcases (numR_no h).1 with h1 | h1
                · subst h1
                  rw [run_thing, hd [] rfl]
                  dsimp only
                  rw [hp]
                  dsimp only
                  rw [if_neg h40, if_neg h91, if_pos h36]
                  rfl
                · exact at_v (by rw [hc, h1])
              · obtain ⟨w, hw⟩ := suf_trans (suf_of (numR_ok h)) ⟨y, rfl⟩
                obtain rfl : u = w ++ v := hw
                rw [run_thing, hd w rfl]
                dsimp only
                rw [hp]
                dsimp only
                rw [if_neg h40, if_neg h91, if_pos h36]
                exact numR_cut h
            · rw [if_neg h36]
              by_cases hs : small c = true
              · rw [if_pos hs]
                refine ⟨fun e h => .inl (at_v (by rw [hc, (nameR_no h).1])), fun y o h _ => ?_⟩
                obtain ⟨z, hz1, hz2⟩ := spc_some (x := x) (v := v) (r := y) (by rw [hc]; exact suf_of (nameR_ok h))
                rw [hc] at hz1
                rw [hz1] at h
                have hn : z ≠ [] := by
                  rintro rfl
                  have := suf_lt (nameR_ok h)
                  simp at this
                  omega
                obtain ⟨c', z', rfl⟩ := List.exists_cons_of_ne_nil hn
                rw [List.cons_append] at hz1
                injection hz1 with h1 h2
                subst h1
                rw [run_thing, hz2]
                dsimp only
                rw [hp]
                dsimp only
                rw [if_neg h40, if_neg h91, if_neg h36, if_pos hs]
                exact nameR_cut h
              · rw [if_neg hs]
                refine ⟨fun e h => .inl (at_v (by rw [hc]; rcases (numR_no h).1 with h1 | h1 <;> rw [h1])), fun y o h _ => ?_⟩
                obtain ⟨z, hz1, hz2⟩ := spc_some (x := x) (v := v) (r := y) (by rw [hc]; exact suf_of (numR_ok h))
                rw [hc] at hz1
                rw [hz1] at h
                have hn : z ≠ [] := by
                  rintro rfl
                  have := suf_lt (numR_ok h)
                  simp at this
                  omega
                obtain ⟨c', z', rfl⟩ := List.exists_cons_of_ne_nil hn
                rw [List.cons_append] at hz1
                injection hz1 with h1 h2
                subst h1
                rw [run_thing, hz2]
                dsimp only
                rw [hp]
                dsimp only
                rw [if_neg h40, if_neg h91, if_neg h36, if_neg hs]
                exact numR_cut h
  | n + 1, .whole b d t out, x, ht => by
    obtain rfl : t = x ++ v := ht
    have ih := fun m x => cut_law v hv n m x
    show (∀ e, run (n + 1) (.whole b d (x ++ v) out) = .no v e → run (n + 1) (.whole b d x out) = .no [] 11 ∨ (true = true ∧ ∃ o, run (n + 1) (.whole b d x out) = .ok [] o)) ∧ (∀ y o, run (n + 1) (.whole b d (x ++ v) out) = .ok (y ++ v) o → (true = true → sgn y = sgn (y ++ v)) → run (n + 1) (.whole b d x out) = .ok y o)
    rw [run_whole, run_whole]
    cases hr : run n (.thing d (x ++ v) out) with
    | dry => exact ⟨fun _ h => (by cases h), fun _ _ h => by cases h⟩
    | no r e' =>
      refine ⟨fun e h => ?_, fun _ _ h => by cases h⟩
      cases h
      have h2 := ((ih (.thing d (x ++ v) out) x rfl).1 _ hr).resolve_right (fun h => by cases h.1)
      rw [show run n (.thing d x out) = .no [] 11 from h2]
      exact .inl rfl
    | ok r o' =>
      dsimp only
      refine ⟨fun e h => ?_, fun y o h hy => ?_⟩
      · obtain ⟨w, rfl⟩ := (run_eats n _).2 _ _ h
        have h2 := (ih (.thing d (x ++ v) out) x rfl).2 w o' hr (fun h => by cases h)
        rw [show run n (.thing d x out) = .ok w o' from h2]
        exact (ih (.loop b d (w ++ v) o') w rfl).1 e h
      · obtain ⟨w, hw⟩ := suf_trans ((run_eats n _).1 _ _ h).1 ⟨y, rfl⟩
        obtain rfl : r = w ++ v := hw
        have h2 := (ih (.thing d (x ++ v) out) x rfl).2 w o' hr (fun h => by cases h)
        rw [show run n (.thing d x out) = .ok w o' from h2]
        exact (ih (.loop b d (w ++ v) o') w rfl).2 y o h hy
  | n + 1, .loop b d t out, x, ht => by
    obtain rfl : t = x ++ v := ht
    have ih := fun m x => cut_law v hv n m x
    show (∀ e, run (n + 1) (.loop b d (x ++ v) out) = .no v e → run (n + 1) (.loop b d x out) = .no [] 11 ∨ (true = true ∧ ∃ o, run (n + 1) (.loop b d x out) = .ok [] o)) ∧ (∀ y o, run (n + 1) (.loop b d (x ++ v) out) = .ok (y ++ v) o → (true = true → sgn y = sgn (y ++ v)) → run (n + 1) (.loop b d x out) = .ok y o)
    rw [run_loop, run_loop]
    cases hg : sgn (spc (x ++ v)) with
    | none =>
      refine ⟨fun e h => (by cases h), fun y o h hy => ?_⟩
      injection h with h1 h2
      have hx := spc_cut h1
      rw [hx, hy rfl, ← h1, hg, h2]
    | some s =>
      dsimp only
      by_cases hb : s.bind < b
      · rw [if_pos hb]
        refine ⟨fun e h => (by cases h), fun y o h hy => ?_⟩
        injection h with h1 h2
        have hx := spc_cut h1
        rw [hx, hy rfl, ← h1, hg, h2]
        dsimp only
        rw [if_pos hb]
      · rw [if_neg hb]
        obtain ⟨hm, u, hu⟩ := sgn_spec hg
        rw [hu, List.drop_left]
        have cut : ∀ w, u = w ++ v → spc x = s.text ++ w ∧ sgn (spc x) = some s ∧ (spc x).drop s.text.length = w := fun w hw => by
          have e : spc (x ++ v) = (s.text ++ w) ++ v := by rw [hu, hw, List.append_assoc]
          have hx := spc_cut e
          refine ⟨hx, ?_, by rw [hx, List.drop_left]⟩
          rw [e] at hg
          rw [hx]
          exact sgn_cut hg (by simp)
        cases hr : run n (.whole (s.bind + 1) d u out) with
        | dry => exact ⟨fun _ h => (by cases h), fun _ _ h => by cases h⟩
        | no r e' =>
          refine ⟨fun e h => ?_, fun _ _ h => by cases h⟩
          cases h
          obtain ⟨w, rfl⟩ := (run_eats n _).2 _ _ hr
          obtain ⟨_, c2, c3⟩ := cut w rfl
          rw [c2]
          dsimp only
          rw [if_neg hb, c3]
          rcases (ih (.whole (s.bind + 1) d (w ++ v) out) w rfl).1 _ hr with h2 | ⟨-, o, h2⟩
          · rw [show run n (.whole (s.bind + 1) d w out) = .no [] 11 from h2]
            exact .inl rfl
          · have h3 : run n (.whole (s.bind + 1) d w out) = .ok [] o := h2
            obtain ⟨k, rfl⟩ := run_pos h3 (by intro h; cases h)
            rw [h3]
            exact .inr ⟨rfl, _, loop_nil k b d _⟩
        | ok r o' =>
          dsimp only
          have hl := run_left n (.whole (s.bind + 1) d u out) r o' hr
          refine ⟨fun e h => ?_, fun y o h hy => ?_⟩
          · obtain ⟨z, rfl⟩ := (run_eats n _).2 _ _ h
            obtain ⟨w, hw⟩ := suf_trans ((run_eats n _).1 _ _ hr).1 ⟨z, rfl⟩
            obtain rfl : u = w ++ v := hw
            obtain ⟨_, c2, c3⟩ := cut w rfl
            have hz := loop_took hl.1 h (.inl ⟨e, rfl⟩)
            have h2 := (ih (.whole (s.bind + 1) d (w ++ v) out) w rfl).2 z o' hr (fun _ => hz)
            rw [c2]
            dsimp only
            rw [if_neg hb, c3, show run n (.whole (s.bind + 1) d w out) = .ok z o' from h2]
            exact (ih (.loop b d (z ++ v) (o' ++ [⟨s.op, 0⟩])) z rfl).1 e h
          · obtain ⟨z, hz⟩ := suf_trans ((run_eats n _).1 _ _ h).1 ⟨y, rfl⟩
            obtain rfl : r = z ++ v := hz
            obtain ⟨w, hw⟩ := suf_trans ((run_eats n _).1 _ _ hr).1 ⟨z, rfl⟩
            obtain rfl : u = w ++ v := hw
            obtain ⟨_, c2, c3⟩ := cut w rfl
            have hz := loop_took hl.1 h (.inr ⟨y, o, rfl, hy rfl⟩)
            have h2 := (ih (.whole (s.bind + 1) d (w ++ v) out) w rfl).2 z o' hr (fun _ => hz)
            rw [c2]
            dsimp only
            rw [if_neg hb, c3, show run n (.whole (s.bind + 1) d w out) = .ok z o' from h2]
            exact (ih (.loop b d (z ++ v) (o' ++ [⟨s.op, 0⟩])) z rfl).2 y o h hy
  | n + 1, .closed by_ d t out, x, ht => by
    obtain rfl : t = x ++ v := ht
    have ih := fun m x => cut_law v hv n m x
    show (∀ e, run (n + 1) (.closed by_ d (x ++ v) out) = .no v e → run (n + 1) (.closed by_ d x out) = .no [] 11 ∨ (false = true ∧ ∃ o, run (n + 1) (.closed by_ d x out) = .ok [] o)) ∧ (∀ y o, run (n + 1) (.closed by_ d (x ++ v) out) = .ok (y ++ v) o → (false = true → sgn y = sgn (y ++ v)) → run (n + 1) (.closed by_ d x out) = .ok y o)
    rw [run_closed, run_closed]
    cases hr : run n (.whole 0 d (x ++ v) out) with
    | dry => exact ⟨fun _ h => (by cases h), fun _ _ h => by cases h⟩
    | no r e' =>
      refine ⟨fun e h => .inl ?_, fun _ _ h => by cases h⟩
      cases h
      rcases (ih (.whole 0 d (x ++ v) out) x rfl).1 _ hr with h2 | ⟨-, o, h2⟩
      · rw [show run n (.whole 0 d x out) = .no [] 11 from h2]
      · rw [show run n (.whole 0 d x out) = .ok [] o from h2]; rfl
    | ok r o' =>
      have hl := whole0_none hr
      dsimp only
      rw [hl.1]
      cases r with
      | nil => exact ⟨fun e h => (by cases h; exact absurd rfl hv), fun _ _ h => by cases h⟩
      | cons c u =>
        dsimp only
        by_cases hc : c = by_
        · rw [if_pos hc]
          refine ⟨fun e h => (by cases h), fun y o h _ => ?_⟩
          injection h with h1 h2
          subst h1
          have h2' := (ih (.whole 0 d (x ++ v) out) x rfl).2 (c :: y) o' hr (fun _ => by rw [List.cons_append, hl.2]; exact sgn_none (v := v) hl.2)
          rw [show run n (.whole 0 d x out) = .ok (c :: y) o' from h2']
          have hc32 : spc (c :: y) = c :: y := if_neg (spc_head hl.1)
          dsimp only
          rw [hc32]
          dsimp only
          rw [if_pos hc, h2]
        · rw [if_neg hc]
          refine ⟨fun e h => .inl ?_, fun _ _ h => by cases h⟩
          injection h with h1 h2
          subst h1
          have h2' := (ih (.whole 0 d (x ++ c :: u) out) x rfl).2 [] o' hr (fun _ => by rw [List.nil_append, hl.2, sgn_nil])
          rw [show run n (.whole 0 d x out) = .ok [] o' from h2']; rfl
end Go.Proofs.YtiadmbhafplepaaDoor
namespace Go.Proofs.YtiadmbhafplepaaDoor
open Go Go.VV

theorem run_err : ∀ (n : Nat) (m : Md) (r : Tx) (e : Int), run n m = .no r e → e = 11 ∨ (e = 12 ∧ r ≠ [])
  | 0, _, _, _, h => by cases h
  | n + 1, .thing d t out, r, e, h => by
    rw [run_thing] at h
    split at h
    · cases h; exact .inl rfl
    · split at h
      · split at h
        · cases h; exact .inr ⟨rfl, by simp⟩
        · exact run_err n _ r e (put_no h)
      · repeat' split at h
        all_goals first
          | (cases h; exact .inr ⟨rfl, by simp⟩)
          | exact run_err n _ r e h
          | exact run_err n _ r e (put_no h)
          | exact .inl (numR_no h).2
          | exact .inl (nameR_no h).2
  | n + 1, .whole b d t out, r, e, h => by
    rw [run_whole] at h
    split at h
    · exact run_err n _ r e h
    · exact run_err n _ r e h
  | n + 1, .loop b d t out, r, e, h => by
    rw [run_loop] at h
    split at h
    · cases h
    · split at h
      · cases h
      · split at h
        · exact run_err n _ r e h
        · exact run_err n _ r e h
  | n + 1, .closed by_ d t out, r, e, h => by
    rw [run_closed] at h
    split at h
    · split at h
      · cases h; exact .inl rfl
      · split at h
        · cases h
        · cases h; exact .inl rfl
    · exact run_err n _ r e h
theorem parse_ok {t r : Tx} {o : List Cd} (ht : t.length ≤ 300) (h : run (4 * t.length + 2) (.whole 0 0 t []) = .ok r o) : parseT t = if spc r = [] then (o, 0, 0) else ([], (t.length : Int) - (spc r).length, 11) := by
  unfold parseT
  rw [if_neg (by omega), h]
theorem parse_no {t r : Tx} {e : Int} (ht : t.length ≤ 300) (h : run (4 * t.length + 2) (.whole 0 0 t []) = .no r e) : parseT t = ([], (t.length : Int) - r.length, e) := by
  unfold parseT
  rw [if_neg (by omega), h]
theorem parse_ends (t : Tx) : run (4 * t.length + 2) (.whole 0 0 t []) ≠ .dry := run_ends _ _ (by simp [Md.need])
/-- How a text's beginning is read, from a run with more steps. -/
theorem parse_run {x : Tx} {n : Nat} {q : Rs} (h : run n (.whole 0 0 x []) = q) (hn : 4 * x.length + 2 ≤ n) : run (4 * x.length + 2) (.whole 0 0 x []) = q := by
  rw [← h, run_le (parse_ends x) hn]
structure Placed (t : Tx) : Prop where
  ok : (parseT t).2.2 = 0 → (parseT t).2.1 = 0
  at_ : (parseT t).2.2 ≠ 0 → 0 ≤ (parseT t).2.1 ∧ (parseT t).2.1 ≤ t.length
  cut : (parseT t).2.2 ≠ 0 → (parseT (t.take (parseT t).2.1.toNat)).2.2 = 0 ∨ ((parseT (t.take (parseT t).2.1.toNat)).2.2 = 11 ∧ (parseT (t.take (parseT t).2.1.toNat)).2.1 = (parseT t).2.1)
theorem places_law {t : Tx} (ht : t.length ≤ 300) : Placed t := by
  have key : ∀ (x v : Tx) (e : Int), t = x ++ v → e ≠ 0 → parseT t = ([], (t.length : Int) - v.length, e) → ((parseT x).2.2 = 0 ∨ ((parseT x).2.2 = 11 ∧ (parseT x).2.1 = x.length)) → Placed t := fun x v e hx he hp hc => by
    have hl := congrArg List.length hx
    rw [List.length_append] at hl
    have hn : (t.length : Int) - v.length = x.length := by omega
    rw [hn] at hp
    refine ⟨fun h => ?_, fun _ => ?_, fun _ => ?_⟩
    · rw [hp] at h; exact absurd h he
    · rw [hp]; dsimp only; omega
    · rw [hp]
      dsimp only
      rw [Int.toNat_natCast, show t.take x.length = x by rw [hx, List.take_left]]
      exact hc
  have hsub : ∀ x v : Tx, t = x ++ v → 4 * x.length + 2 ≤ 4 * t.length + 2 := fun x v h => by rw [h, List.length_append]; omega
  cases hr : run (4 * t.length + 2) (.whole 0 0 t []) with
  | dry => exact absurd hr (parse_ends t)
  | ok r o =>
    have hl := whole0_none hr
    have hp := parse_ok ht hr
    rw [hl.1] at hp
    by_cases hrn : r = []
    · rw [if_pos hrn] at hp
      exact ⟨fun _ => by rw [hp], fun h => by rw [hp] at h; exact absurd rfl h, fun h => by rw [hp] at h; exact absurd rfl h⟩
    · rw [if_neg hrn] at hp
      obtain ⟨⟨x, hx⟩, -⟩ := (run_eats _ _).1 _ _ hr
      have hx' : t = x ++ r := hx
      have h1 := (cut_law r hrn _ (.whole 0 0 t []) x hx').2 [] o hr (fun _ => by rw [List.nil_append, hl.2, sgn_nil])
      have h2 := parse_ok (by rw [hx', List.length_append] at ht; omega) (parse_run (x := x) h1 (hsub x r hx'))
      exact key x r 11 hx' (by decide) hp (.inl (by rw [h2]; rfl))
  | no r e =>
    have hp := parse_no ht hr
    have he := run_err _ _ _ _ hr
    obtain ⟨x, hx⟩ := (run_eats _ _).2 _ _ hr
    have hx' : t = x ++ r := hx
    have hxl : x.length ≤ 300 := by rw [hx', List.length_append] at ht; omega
    by_cases hrn : r = []
    · subst hrn
      rw [List.append_nil] at hx'
      subst hx'
      have h11 : e = 11 := he.resolve_right (fun h => h.2 rfl)
      subst h11
      exact key t [] 11 (by simp) (by decide) hp (.inr (by rw [hp]; exact ⟨rfl, by simp⟩))
    · have h0 : e ≠ 0 := by omega
      rcases (cut_law r hrn _ (.whole 0 0 t []) x hx').1 e hr with h1 | ⟨-, o, h1⟩
      · have h2 := parse_no hxl (parse_run (x := x) h1 (hsub x r hx'))
        exact key x r e hx' h0 hp (.inr (by rw [h2]; exact ⟨rfl, by simp⟩))
      · have h2 := parse_ok hxl (parse_run (x := x) h1 (hsub x r hx'))
        exact key x r e hx' h0 hp (.inl (by rw [h2]; rfl))
end Go.Proofs.YtiadmbhafplepaaDoor
namespace Go.Proofs.YtiadmbhafplepaaDoor
open Go Go.VV

def Md.up : Md → Nat → Tx → Md
  | .thing d _ o, k, t => .thing (d + k) t o
  | .whole b d _ o, k, t => .whole b (d + k) t o
  | .loop b d _ o, k, t => .loop b (d + k) t o
  | .closed c d _ o, k, t => .closed c (d + k) t o
/-- What ends digits, letters and signs. -/
def Ends (w : Tx) : Prop := ∀ c u, w = c :: u → c = 32 ∨ c = 41 ∨ c = 93
structure Stop (w : Tx) : Prop where
  head : Ends w
  none_ : sgn (spc w) = none
theorem sgs_stop : ∀ s ∈ sgs, ∀ c ∈ s.text, c ≠ 32 ∧ c ≠ 41 ∧ c ≠ 93 := by decide
theorem sgn_stop {z w : Tx} (hw : Ends w) : sgn (z ++ w) = sgn z := by
  cases hg : sgn (z ++ w) with
  | none => exact (sgn_none hg).symm
  | some s =>
    obtain ⟨hm, u, hu⟩ := sgn_spec hg
    refine (sgn_cut hg ?_).symm
    rcases Nat.lt_or_ge z.length s.text.length with h | h
    · exfalso
      cases w with
      | nil =>
        have := congrArg List.length hu
        simp at this
        omega
      | cons c w' =>
        have hc : c ∈ s.text := by
          have h1 : (z ++ c :: w')[z.length]? = some c := by simp
          rw [hu, List.getElem?_append_left h] at h1
          exact List.mem_of_getElem? h1
        have := sgs_stop s hm c hc
        rcases hw c w' rfl with rfl | rfl | rfl
        · exact this.1 rfl
        · exact this.2.1 rfl
        · exact this.2.2 rfl
    · exact h
theorem numL_stop (base : Nat) {w : Tx} (hw : Ends w) : ∀ (t : Tx) (n : Nat), numL base (t ++ w) n = ((numL base t n).1, (numL base t n).2 ++ w)
  | [], n => by
    cases w with
    | nil => rfl
    | cons c u =>
      have hd : digV base c = none := by
        rcases hw c u rfl with rfl | rfl | rfl
        · unfold digV; rw [if_neg (by decide), if_neg (fun h => absurd h.2 (by decide)), if_neg (fun h => absurd h.2 (by decide))]
        · unfold digV; rw [if_neg (by decide), if_neg (fun h => absurd h.2 (by decide)), if_neg (fun h => absurd h.2 (by decide))]
        · unfold digV; rw [if_neg (by decide), if_neg (fun h => absurd h.2 (by decide)), if_neg (fun h => absurd h.2 (by decide))]
      show numL base (c :: u) n = _
      have e : numL base (c :: u) n = (n, c :: u) := by unfold numL; rw [hd]
      rw [e]; rfl
  | c :: t, n => by
    rw [List.cons_append]
    unfold numL
    cases hd : digV base c with
    | none => rfl
    | some d => exact numL_stop base hw t _
theorem small_stop {w : Tx} (hw : Ends w) : ∀ t : Tx, (t ++ w).dropWhile small = t.dropWhile small ++ w ∧ (t ++ w).takeWhile small = t.takeWhile small
  | [] => by
    cases w with
    | nil => exact ⟨rfl, rfl⟩
    | cons c u =>
      have hd : small c = false := by rcases hw c u rfl with rfl | rfl | rfl <;> decide
      rw [List.nil_append, List.dropWhile_cons, List.takeWhile_cons, if_neg (by rw [hd]; decide), if_neg (by rw [hd]; decide)]
      exact ⟨rfl, rfl⟩
  | c :: t => by
    have ih := small_stop hw t
    rw [List.cons_append, List.dropWhile_cons, List.takeWhile_cons, List.dropWhile_cons, List.takeWhile_cons]
    split
    · rw [ih.1, ih.2]; exact ⟨rfl, rfl⟩
    · exact ⟨rfl, rfl⟩
def Rs.app (r : Rs) (w : Tx) : Rs := match r with
  | .ok t o => .ok (t ++ w) o
  | .no t e => .no (t ++ w) e
  | .dry => .dry
theorem numR_stop (base : Nat) {w : Tx} (hw : Ends w) (t a : Tx) (out : List Cd) : numR base (t ++ w) (a ++ w) out = (numR base t a out).app w := by
  unfold numR
  rw [numL_stop base hw]
  dsimp only
  by_cases h1 : (numL base t 0).2.length = t.length
  · rw [if_pos h1, if_pos (by rw [List.length_append, List.length_append, h1])]; rfl
  · rw [if_neg h1, if_neg (by rw [List.length_append, List.length_append]; omega)]
    split <;> rfl
theorem nameR_stop {w : Tx} (hw : Ends w) (t : Tx) (out : List Cd) : nameR (t ++ w) out = (nameR t out).app w := by
  unfold nameR
  rw [(small_stop hw t).1, (small_stop hw t).2]
  cases nms.findIdx? (fun x => x == t.takeWhile small) <;> rfl
theorem loop_spc (n : Nat) (b : Int) (d : Nat) (t : Tx) (o : List Cd) : run n (.loop b d (spc t) o) = run n (.loop b d t o) := by
  cases n with
  | zero => rfl
  | succ n => rw [run_loop, run_loop, spc_idem]
theorem thing_spc (n d : Nat) (t : Tx) (o : List Cd) : run n (.thing d (spc t) o) = run n (.thing d t o) := by
  cases n with
  | zero => rfl
  | succ n => rw [run_thing, run_thing, spc_idem]
/-- What is left when more stands behind. -/
def tailOf (m : Md) (r w : Tx) : Tx := if m.loose = true then (if r = [] then spc w else r ++ w) else r ++ w
theorem stop_law {w : Tx} (hw : Stop w) : ∀ (n : Nat) (m : Md) (k : Nat),
    (∀ r o, run n m = .ok r o → run n (m.up k (m.text ++ w)) = .ok (tailOf m r w) o ∨ (k ≠ 0 ∧ ∃ r', run n (m.up k (m.text ++ w)) = .no r' 12)) ∧
    (spc w = [] → ∀ r e, run n m = .no r e → ∃ r', run n (m.up 0 (m.text ++ w)) = .no r' e)
  | 0, _, _ => ⟨fun _ _ h => (by cases h), fun _ _ _ h => (by cases h)⟩
  | n + 1, .thing d t out, k => by
    have ih := fun m k => stop_law hw n m k
    show (∀ r o, run (n + 1) (.thing d t out) = .ok r o → run (n + 1) (.thing (d + k) (t ++ w) out) = .ok (r ++ w) o ∨ (k ≠ 0 ∧ ∃ r', run (n + 1) (.thing (d + k) (t ++ w) out) = .no r' 12)) ∧ (spc w = [] → ∀ r e, run (n + 1) (.thing d t out) = .no r e → ∃ r', run (n + 1) (.thing d (t ++ w) out) = .no r' e)
    rw [run_thing n d t, run_thing n (d + k), run_thing n d (t ++ w), spc_app]
    cases hc : spc t with
    | nil =>
      refine ⟨fun _ _ h => (by cases h), fun hs r e h => ?_⟩
      rw [if_pos rfl, hs]
      cases h
      exact ⟨_, rfl⟩
    | cons c u =>
      rw [if_neg (by simp), List.cons_append]
      dsimp only
      cases hp : pre1 c with
      | some op =>
        dsimp only
        by_cases h20 : d = 20
        · rw [if_pos h20, if_pos h20]
          exact ⟨fun _ _ h => (by cases h), fun _ r e h => by cases h; exact ⟨_, rfl⟩⟩
        · rw [if_neg h20, if_neg h20]
          refine ⟨fun r o h => ?_, fun hs r e h => ?_⟩
          · obtain ⟨o', h1, rfl⟩ := put_ok h
            by_cases hk : d + k = 20
            · rw [if_pos hk]; exact .inr ⟨by omega, _, rfl⟩
            · rw [if_neg hk]
              rcases (ih (.thing (d + 1) u out) k).1 r o' h1 with h2 | ⟨h0, r', h2⟩
              · have h3 : run n (.thing (d + 1 + k) (u ++ w) out) = .ok (r ++ w) o' := h2
                rw [show d + k + 1 = d + 1 + k by omega, h3]; exact .inl rfl
              · have h3 : run n (.thing (d + 1 + k) (u ++ w) out) = .no r' 12 := h2
                rw [show d + k + 1 = d + 1 + k by omega, h3]; exact .inr ⟨h0, _, rfl⟩
          · obtain ⟨r', h2⟩ := (ih (.thing (d + 1) u out) 0).2 hs r e (put_no h)
            have h3 : run n (.thing (d + 1) (u ++ w) out) = .no r' e := h2
            rw [h3]; exact ⟨_, rfl⟩
      | none =>
        dsimp only
        by_cases h40 : c = 40
        · rw [if_pos h40, if_pos h40, if_pos h40]
          by_cases h20 : d = 20
          · rw [if_pos h20, if_pos h20]
            exact ⟨fun _ _ h => (by cases h), fun _ r e h => by cases h; exact ⟨_, rfl⟩⟩
          · rw [if_neg h20, if_neg h20]
            refine ⟨fun r o h1 => ?_, fun hs r e h => ?_⟩
            · by_cases hk : d + k = 20
              · rw [if_pos hk]; exact .inr ⟨by omega, _, rfl⟩
              · rw [if_neg hk, show d + k + 1 = d + 1 + k by omega]
                exact (ih (.closed 41 (d + 1) u out) k).1 r o h1
            · exact (ih (.closed 41 (d + 1) u out) 0).2 hs r e h
        · rw [if_neg h40, if_neg h40, if_neg h40]
          by_cases h91 : c = 91
          · rw [if_pos h91, if_pos h91, if_pos h91]
            by_cases h20 : d = 20
            · rw [if_pos h20, if_pos h20]
              exact ⟨fun _ _ h => (by cases h), fun _ r e h => by cases h; exact ⟨_, rfl⟩⟩
            · rw [if_neg h20, if_neg h20]
              refine ⟨fun r o h => ?_, fun hs r e h => ?_⟩
              · obtain ⟨o', h1, rfl⟩ := put_ok h
                by_cases hk : d + k = 20
                · rw [if_pos hk]; exact .inr ⟨by omega, _, rfl⟩
                · rw [if_neg hk]
                  rcases (ih (.closed 93 (d + 1) u out) k).1 r o' h1 with h2 | ⟨h0, r', h2⟩
                  · have h3 : run n (.closed 93 (d + 1 + k) (u ++ w) out) = .ok (r ++ w) o' := h2
                    rw [show d + k + 1 = d + 1 + k by omega, h3]; exact .inl rfl
                  · have h3 : run n (.closed 93 (d + 1 + k) (u ++ w) out) = .no r' 12 := h2
                    rw [show d + k + 1 = d + 1 + k by omega, h3]; exact .inr ⟨h0, _, rfl⟩
              · obtain ⟨r', h2⟩ := (ih (.closed 93 (d + 1) u out) 0).2 hs r e (put_no h)
                have h3 : run n (.closed 93 (d + 1) (u ++ w) out) = .no r' e := h2
                rw [h3]; exact ⟨_, rfl⟩
          · rw [if_neg h91, if_neg h91, if_neg h91]
            by_cases h36 : c = 36
            · rw [if_pos h36, if_pos h36, ← List.cons_append, numR_stop 16 hw.head]
              exact ⟨fun r o h => by rw [h]; exact .inl rfl, fun _ r e h => by rw [h]; exact ⟨_, rfl⟩⟩
            · rw [if_neg h36, if_neg h36]
              by_cases hs : small c = true
              · rw [if_pos hs, if_pos hs, ← List.cons_append, nameR_stop hw.head]
                exact ⟨fun r o h => by rw [h]; exact .inl rfl, fun _ r e h => by rw [h]; exact ⟨_, rfl⟩⟩
              · rw [if_neg hs, if_neg hs, ← List.cons_append, numR_stop 10 hw.head]
                exact ⟨fun r o h => by rw [h]; exact .inl rfl, fun _ r e h => by rw [h]; exact ⟨_, rfl⟩⟩
  | n + 1, .whole b d t out, k => by
    have ih := fun m k => stop_law hw n m k
    show (∀ r o, run (n + 1) (.whole b d t out) = .ok r o → run (n + 1) (.whole b (d + k) (t ++ w) out) = .ok (if r = [] then spc w else r ++ w) o ∨ (k ≠ 0 ∧ ∃ r', run (n + 1) (.whole b (d + k) (t ++ w) out) = .no r' 12)) ∧ (spc w = [] → ∀ r e, run (n + 1) (.whole b d t out) = .no r e → ∃ r', run (n + 1) (.whole b d (t ++ w) out) = .no r' e)
    rw [run_whole n b d t, run_whole n b (d + k), run_whole n b d (t ++ w)]
    cases hr : run n (.thing d t out) with
    | dry => exact ⟨fun _ _ h => (by cases h), fun _ _ _ h => (by cases h)⟩
    | no r1 e1 =>
      refine ⟨fun _ _ h => (by cases h), fun hs r e h => ?_⟩
      obtain ⟨r', h2⟩ := (ih (.thing d t out) 0).2 hs r1 e1 hr
      have h3 : run n (.thing d (t ++ w) out) = .no r' e1 := h2
      cases h
      rw [h3]; exact ⟨_, rfl⟩
    | ok r1 o1 =>
      dsimp only
      refine ⟨fun r o h => ?_, fun hs r e h => ?_⟩
      · rcases (ih (.thing d t out) k).1 r1 o1 hr with h2 | ⟨h0, r', h2⟩
        · have h3 : run n (.thing (d + k) (t ++ w) out) = .ok (r1 ++ w) o1 := h2
          rw [h3]
          exact (ih (.loop b d r1 o1) k).1 r o h
        · have h3 : run n (.thing (d + k) (t ++ w) out) = .no r' 12 := h2
          rw [h3]; exact .inr ⟨h0, _, rfl⟩
      · have h2 := ((ih (.thing d t out) 0).1 r1 o1 hr).resolve_right (fun h => h.1 rfl)
        have h3 : run n (.thing d (t ++ w) out) = .ok (r1 ++ w) o1 := h2
        rw [h3]
        exact (ih (.loop b d r1 o1) 0).2 hs r e h
  | n + 1, .loop b d t out, k => by
    have ih := fun m k => stop_law hw n m k
    show (∀ r o, run (n + 1) (.loop b d t out) = .ok r o → run (n + 1) (.loop b (d + k) (t ++ w) out) = .ok (if r = [] then spc w else r ++ w) o ∨ (k ≠ 0 ∧ ∃ r', run (n + 1) (.loop b (d + k) (t ++ w) out) = .no r' 12)) ∧ (spc w = [] → ∀ r e, run (n + 1) (.loop b d t out) = .no r e → ∃ r', run (n + 1) (.loop b d (t ++ w) out) = .no r' e)
    rw [run_loop n b d t, run_loop n b (d + k), run_loop n b d (t ++ w), spc_app]
    by_cases hn : spc t = []
    · rw [if_pos hn, hn, hw.none_, sgn_nil]
      refine ⟨fun r o h => ?_, fun _ r e h => (by cases h)⟩
      cases h
      exact .inl rfl
    · rw [if_neg hn, sgn_stop hw.head]
      cases hg : sgn (spc t) with
      | none =>
        refine ⟨fun r o h => ?_, fun _ r e h => (by cases h)⟩
        injection h with h1 h2
        rw [← h1, if_neg hn, h2]
        exact .inl rfl
      | some s =>
        dsimp only
        by_cases hb : s.bind < b
        · rw [if_pos hb, if_pos hb, if_pos hb]
          refine ⟨fun r o h => ?_, fun _ r e h => (by cases h)⟩
          injection h with h1 h2
          rw [← h1, if_neg hn, h2]
          exact .inl rfl
        · rw [if_neg hb, if_neg hb, if_neg hb]
          obtain ⟨hm, u, hu⟩ := sgn_spec hg
          rw [hu, List.append_assoc, List.drop_left, List.drop_left]
          -- the loop behind what was read
          have nxt : ∀ (j : Nat) (r1 : Tx) (o1 : List Cd), run n (.loop b (d + j) (if r1 = [] then spc w else r1 ++ w) o1) = run n (.loop b (d + j) (r1 ++ w) o1) := fun j r1 o1 => by
            split
            · rename_i h
              rw [h, List.nil_append]; exact loop_spc _ _ _ _ _
            · rfl
          cases hr : run n (.whole (s.bind + 1) d u out) with
          | dry => exact ⟨fun _ _ h => (by cases h), fun _ _ _ h => (by cases h)⟩
          | no r1 e1 =>
            refine ⟨fun _ _ h => (by cases h), fun hs r e h => ?_⟩
            obtain ⟨r', h2⟩ := (ih (.whole (s.bind + 1) d u out) 0).2 hs r1 e1 hr
            have h3 : run n (.whole (s.bind + 1) d (u ++ w) out) = .no r' e1 := h2
            cases h
            rw [h3]; exact ⟨_, rfl⟩
          | ok r1 o1 =>
            dsimp only
            refine ⟨fun r o h => ?_, fun hs r e h => ?_⟩
            · rcases (ih (.whole (s.bind + 1) d u out) k).1 r1 o1 hr with h2 | ⟨h0, r', h2⟩
              · have h3 : run n (.whole (s.bind + 1) (d + k) (u ++ w) out) = .ok (if r1 = [] then spc w else r1 ++ w) o1 := h2
                rw [h3]
                dsimp only
                rw [nxt k]
                exact (ih (.loop b d r1 (o1 ++ [⟨s.op, 0⟩])) k).1 r o h
              · have h3 : run n (.whole (s.bind + 1) (d + k) (u ++ w) out) = .no r' 12 := h2
                rw [h3]; exact .inr ⟨h0, _, rfl⟩
            · have h2 := ((ih (.whole (s.bind + 1) d u out) 0).1 r1 o1 hr).resolve_right (fun h => h.1 rfl)
              have h3 : run n (.whole (s.bind + 1) d (u ++ w) out) = .ok (if r1 = [] then spc w else r1 ++ w) o1 := h2
              rw [h3]
              dsimp only
              rw [show run n (.loop b d (if r1 = [] then spc w else r1 ++ w) (o1 ++ [⟨s.op, 0⟩])) = run n (.loop b d (r1 ++ w) (o1 ++ [⟨s.op, 0⟩])) from nxt 0 r1 _]
              exact (ih (.loop b d r1 (o1 ++ [⟨s.op, 0⟩])) 0).2 hs r e h
  | n + 1, .closed by_ d t out, k => by
    have ih := fun m k => stop_law hw n m k
    show (∀ r o, run (n + 1) (.closed by_ d t out) = .ok r o → run (n + 1) (.closed by_ (d + k) (t ++ w) out) = .ok (r ++ w) o ∨ (k ≠ 0 ∧ ∃ r', run (n + 1) (.closed by_ (d + k) (t ++ w) out) = .no r' 12)) ∧ (spc w = [] → ∀ r e, run (n + 1) (.closed by_ d t out) = .no r e → ∃ r', run (n + 1) (.closed by_ d (t ++ w) out) = .no r' e)
    rw [run_closed n by_ d t, run_closed n by_ (d + k), run_closed n by_ d (t ++ w)]
    cases hr : run n (.whole 0 d t out) with
    | dry => exact ⟨fun _ _ h => (by cases h), fun _ _ _ h => (by cases h)⟩
    | no r1 e1 =>
      refine ⟨fun _ _ h => (by cases h), fun hs r e h => ?_⟩
      obtain ⟨r', h2⟩ := (ih (.whole 0 d t out) 0).2 hs r1 e1 hr
      have h3 : run n (.whole 0 d (t ++ w) out) = .no r' e1 := h2
      cases h
      rw [h3]; exact ⟨_, rfl⟩
    | ok r1 o1 =>
      have hl := whole0_none hr
      dsimp only
      rw [hl.1]
      refine ⟨fun r o h => ?_, fun hs r e h => ?_⟩
      · cases r1 with
        | nil => cases h
        | cons c u =>
          dsimp only at h
          split at h
          · rename_i hc
            injection h with h1' h2'
            subst h1'
            rcases (ih (.whole 0 d t out) k).1 _ o1 hr with h2 | ⟨h0, r', h2⟩
            · have h3 : run n (.whole 0 (d + k) (t ++ w) out) = .ok (c :: (u ++ w)) o1 := h2
              rw [h3]
              dsimp only
              rw [show spc (c :: (u ++ w)) = c :: (u ++ w) from if_neg (spc_head hl.1)]
              dsimp only
              rw [if_pos hc, h2']
              exact .inl rfl
            · have h3 : run n (.whole 0 (d + k) (t ++ w) out) = .no r' 12 := h2
              rw [h3]; exact .inr ⟨h0, _, rfl⟩
          · cases h
      · have h2 := ((ih (.whole 0 d t out) 0).1 r1 o1 hr).resolve_right (fun h => h.1 rfl)
        cases r1 with
        | nil =>
          have h3 : run n (.whole 0 d (t ++ w) out) = .ok (spc w) o1 := h2
          cases h
          rw [h3]
          dsimp only
          rw [spc_idem, hs]
          exact ⟨_, rfl⟩
        | cons c u =>
          have h3 : run n (.whole 0 d (t ++ w) out) = .ok (c :: (u ++ w)) o1 := h2
          dsimp only at h
          rw [h3]
          dsimp only
          rw [show spc (c :: (u ++ w)) = c :: (u ++ w) from if_neg (spc_head hl.1)]
          dsimp only
          split at h
          · cases h
          · rename_i hc
            rw [if_neg hc]
            cases h
            exact ⟨_, rfl⟩
/-! the law -/
def sps (n : Nat) : Tx := List.replicate n 32
theorem spc_sps : ∀ (n : Nat) (t : Tx), spc (sps n ++ t) = spc t
  | 0, _ => rfl
  | n + 1, t => by
    show spc (32 :: (sps n ++ t)) = spc t
    rw [show spc (32 :: (sps n ++ t)) = spc (sps n ++ t) from if_pos rfl]
    exact spc_sps n t
theorem spc_sps0 (n : Nat) : spc (sps n) = [] := by
  have := spc_sps n []
  rwa [List.append_nil] at this
theorem sps_stop (n : Nat) : Stop (sps n) := ⟨fun c u h => by
    cases n with
    | zero => cases h
    | succ n => cases h; exact .inl rfl, by rw [spc_sps0]; exact sgn_nil⟩
theorem paren_stop (n : Nat) : Stop (sps n ++ [41]) := ⟨fun c u h => by
    cases n with
    | zero => cases h; exact .inr (.inl rfl)
    | succ n => cases h; exact .inl rfl, by rw [spc_sps]; decide⟩
theorem whole_lead (n k : Nat) (b : Int) (d : Nat) (t : Tx) (o : List Cd) : run n (.whole b d (sps k ++ t) o) = run n (.whole b d t o) := by
  cases n with
  | zero => rfl
  | succ n => rw [run_whole, run_whole, ← thing_spc n d (sps k ++ t), spc_sps, thing_spc]
theorem parse_big {t : Tx} {n : Nat} {q : Rs} (h : run n (.whole 0 0 t []) = q) (hq : q ≠ .dry) : run (4 * t.length + 2) (.whole 0 0 t []) = q := by
  rcases Nat.lt_or_ge n (4 * t.length + 2) with h1 | h1
  · rw [run_le (by rw [h]; exact hq) (show n ≤ 4 * t.length + 2 by omega), h]
  · exact parse_run h h1
structure Spaced (t : Tx) (a b : Nat) : Prop where
  none_ : (parseT t).2.2 ≠ 0 → (parseT (sps a ++ t ++ sps b)).2.2 = (parseT t).2.2
  same : (parseT t).2.2 = 0 → (parseT (sps a ++ t ++ sps b)).2.2 = 0 ∧ (parseT (sps a ++ t ++ sps b)).1 = (parseT t).1
  round : (parseT t).2.2 = 0 → ((parseT (40 :: (sps b ++ t ++ sps a ++ [41]))).2.2 = 0 ∧ (parseT (40 :: (sps b ++ t ++ sps a ++ [41]))).1 = (parseT t).1) ∨ (parseT (40 :: (sps b ++ t ++ sps a ++ [41]))).2.2 = 12
theorem spaces_law {t : Tx} (ht : t.length ≤ 200) {a b : Nat} (ha : a < 20) (hb : b < 20) : Spaced t a b := by
  have hla : (sps a).length = a := List.length_replicate
  have hlb : (sps b).length = b := List.length_replicate
  have hy : (sps a ++ t ++ sps b).length ≤ 300 := by simp only [List.length_append, hla, hlb]; omega
  have hz : (40 :: (sps b ++ t ++ sps a ++ [41]) : Tx).length ≤ 300 := by simp only [List.length_cons, List.length_append, List.length_nil, hla, hlb]; omega
  cases hr : run (4 * t.length + 2) (.whole 0 0 t []) with
  | dry => exact absurd hr (parse_ends t)
  | no r e =>
    have hp := parse_no (by omega) hr
    have he := run_err _ _ _ _ hr
    obtain ⟨r', h2⟩ := (stop_law (sps_stop b) _ (.whole 0 0 t []) 0).2 (spc_sps0 b) r e hr
    have h3 : run (4 * t.length + 2) (.whole 0 0 (t ++ sps b) []) = .no r' e := h2
    rw [← whole_lead _ a, ← List.append_assoc] at h3
    have h4 := parse_no hy (parse_big h3 (by intro h; cases h))
    have h0 : (parseT t).2.2 = e := by rw [hp]
    exact ⟨fun _ => by rw [h4, h0], fun h => by omega, fun h => by omega⟩
  | ok r o =>
    have hl := whole0_none hr
    have hp := parse_ok (by omega) hr
    rw [hl.1] at hp
    have h2 := ((stop_law (sps_stop b) _ (.whole 0 0 t []) 0).1 r o hr).resolve_right (fun h => h.1 rfl)
    have h3 : run (4 * t.length + 2) (.whole 0 0 (t ++ sps b) []) = .ok (if r = [] then spc (sps b) else r ++ sps b) o := h2
    rw [← whole_lead _ a, ← List.append_assoc] at h3
    have h4 := parse_ok hy (parse_big h3 (by intro h; cases h))
    by_cases hrn : r = []
    · rw [if_pos hrn] at hp
      rw [if_pos hrn, spc_sps0, show spc [] = [] from rfl, if_pos rfl] at h4
      refine ⟨fun h => by rw [hp] at h; exact absurd rfl h, fun _ => by rw [h4, hp]; exact ⟨rfl, rfl⟩, fun _ => ?_⟩
      have hcl : ∀ n, run (n + 1) (.thing 0 (40 :: (sps b ++ t ++ sps a ++ [41])) []) = run n (.closed 41 1 (sps b ++ t ++ sps a ++ [41]) []) := fun n => rfl
      have hw : run (4 * t.length + 2) (.whole 0 1 (sps b ++ t ++ sps a ++ [41]) []) = run (4 * t.length + 2) (.whole 0 1 (t ++ (sps a ++ [41])) []) := by
        rw [List.append_assoc, List.append_assoc, whole_lead]
      have top : ∀ q, run (4 * t.length + 3) (.closed 41 1 (sps b ++ t ++ sps a ++ [41]) []) = q → run (4 * t.length + 5) (.whole 0 0 (40 :: (sps b ++ t ++ sps a ++ [41])) []) = match q with
          | .ok r o => run (4 * t.length + 4) (.loop 0 0 r o)
          | x => x := fun q h => by rw [run_whole, hcl, h] <;> (cases q <;> rfl)
      rcases (stop_law (paren_stop a) _ (.whole 0 0 t []) 1).1 r o hr with h5 | ⟨-, r', h5⟩
      · have h6 : run (4 * t.length + 2) (.whole 0 1 (t ++ (sps a ++ [41])) []) = .ok (if r = [] then spc (sps a ++ [41]) else r ++ (sps a ++ [41])) o := h5
        rw [if_pos hrn, spc_sps, ← hw] at h6
        have h7 : run (4 * t.length + 3) (.closed 41 1 (sps b ++ t ++ sps a ++ [41]) []) = .ok [] o := by rw [run_closed, h6]; rfl
        have h8 := top _ h7
        dsimp only at h8
        rw [loop_nil] at h8
        have h9 := parse_ok hz (parse_big h8 (by intro h; cases h))
        rw [show spc [] = [] from rfl, if_pos rfl] at h9
        rw [h9, hp]
        exact .inl ⟨rfl, rfl⟩
      · have h6 : run (4 * t.length + 2) (.whole 0 1 (t ++ (sps a ++ [41])) []) = .no r' 12 := h5
        rw [← hw] at h6
        have h7 : run (4 * t.length + 3) (.closed 41 1 (sps b ++ t ++ sps a ++ [41]) []) = .no r' 12 := by rw [run_closed, h6]
        have h9 := parse_no hz (parse_big (top _ h7) (by intro h; cases h))
        rw [h9]
        exact .inr rfl
    · rw [if_neg hrn] at hp
      have hne : spc (r ++ sps b) ≠ [] := by
        rw [spc_app, hl.1, if_neg hrn]
        intro h
        exact hrn (List.append_eq_nil_iff.1 h).1
      rw [if_neg hrn, if_neg hne] at h4
      exact ⟨fun _ => by rw [h4, hp], fun h => (by rw [hp] at h; cases h), fun h => (by rw [hp] at h; cases h)⟩
end Go.Proofs.YtiadmbhafplepaaDoor
namespace Go.Proofs.YtiadmbhafplepaaDoor
open Go Go.VV

/-- A number's digits. -/
def decT (n : Nat) : Tx := if n < 10 then [(48 + n).toUInt8] else decT (n / 10) ++ [(48 + n % 10).toUInt8]
termination_by n
theorem decT_1 {n : Nat} (h : n < 10) : decT n = [(48 + n).toUInt8] := by rw [decT, if_pos h]
theorem decT_2 {n : Nat} (h : ¬ n < 10) : decT n = decT (n / 10) ++ [(48 + n % 10).toUInt8] := by rw [decT, if_neg h]
def preC (k : Nat) : UInt8 := ([45, 33, 126] : List UInt8).getD k 0
def wordT (op : Int) : Tx := match sgs.find? (fun s => decide (s.op = op)) with
  | some s => s.text
  | none => []
/-- One order more: the text that it makes of those that are there, and how many it takes. -/
def saidT (c : Cd) (xs : List Tx) : Option (Tx × Nat) :=
  if c.op = 1 then (if 0 ≤ c.n ∧ c.n ≤ 2147483647 then some (decT c.n.toNat, 0) else none)
  else if c.op = 2 then (if 0 ≤ c.n ∧ c.n < 18 then some (nms.getD c.n.toNat [], 0) else none)
  else if c.n ≠ 0 ∨ xs.length < 1 then none
  else if c.op = 3 then some ([91] ++ xs.getD (xs.length - 1) [] ++ [93], 1)
  else if 4 ≤ c.op ∧ c.op ≤ 6 then some ([preC (c.op - 4).toNat] ++ xs.getD (xs.length - 1) [], 1)
  else if 7 ≤ c.op ∧ c.op ≤ 24 ∧ 1 < xs.length then some ([40] ++ xs.getD (xs.length - 2) [] ++ [32] ++ wordT c.op ++ [32] ++ xs.getD (xs.length - 1) [] ++ [41], 2)
  else none
def layT (c : Cd) (xs : List Tx) : Option (List Tx) := match saidT c xs with
  | none => none
  | some (x, k) => if 4000 < x.length then none else some (xs.take (xs.length - k) ++ [x])
def laysT : List Cd → List Tx → Option (List Tx)
  | [], xs => some xs
  | c :: l, xs => match layT c xs with
    | none => none
    | some ys => laysT l ys
def printT (l : List Cd) : Tx × Int := match laysT l [] with
  | some [x] => (x, 0)
  | _ => ([], 5)
/-! what is printed, as a tree -/
inductive Ex
  | num (n : Nat)
  | nam (i : Nat)
  | peek (e : Ex)
  | pre (k : Nat) (e : Ex)
  | bin (s : Sg) (a b : Ex)
def Ex.show : Ex → Tx
  | num n => decT n
  | nam i => nms.getD i []
  | peek e => 91 :: (e.show ++ [93])
  | pre k e => preC k :: e.show
  | bin s a b => 40 :: (a.show ++ (32 :: (s.text ++ (32 :: (b.show ++ [41])))))
def Ex.codes : Ex → List Cd
  | num n => [⟨1, n⟩]
  | nam i => [⟨2, i⟩]
  | peek e => e.codes ++ [⟨3, 0⟩]
  | pre k e => e.codes ++ [⟨4 + (k : Int), 0⟩]
  | bin s a b => a.codes ++ b.codes ++ [⟨s.op, 0⟩]
def Ex.Fine : Ex → Prop
  | num n => n ≤ 2147483647
  | nam i => i < 18
  | peek e => e.Fine
  | pre k e => k < 3 ∧ e.Fine
  | bin s a b => s ∈ sgs ∧ a.Fine ∧ b.Fine
def Ex.deep : Ex → Nat
  | num _ => 0
  | nam _ => 0
  | peek e => 1 + e.deep
  | pre _ e => 1 + e.deep
  | bin _ a b => 1 + max a.deep b.deep
theorem word_spec : ∀ s ∈ sgs, wordT s.op = s.text := by decide
theorem word_some {op : Int} (h : 7 ≤ op ∧ op ≤ 24) : ∃ s ∈ sgs, s.op = op ∧ wordT op = s.text := by
  have key : ∀ q : Fin 18, ∃ s ∈ sgs, s.op = (q.val : Int) + 7 := by decide
  obtain ⟨s, hs, he⟩ := key ⟨(op - 7).toNat, by omega⟩
  have : s.op = op := by dsimp only at he; omega
  exact ⟨s, hs, this, by rw [← this]; exact word_spec s hs⟩
structure Shown (xs : List Tx) (es : List Ex) (l : List Cd) : Prop where
  show_ : xs = es.map Ex.show
  fine : ∀ e ∈ es, e.Fine
  codes : l = es.flatMap Ex.codes
theorem snoc_of {α : Type} {l : List α} (h : 1 ≤ l.length) : ∃ a x, l = a ++ [x] := by
  rcases List.eq_nil_or_concat l with rfl | ⟨a, x, rfl⟩
  · simp at h
  · exact ⟨a, x, by simp⟩
theorem lay_shown {c : Cd} {xs ys : List Tx} {es : List Ex} {l : List Cd} (h : Shown xs es l) (hl : layT c xs = some ys) : ∃ es', Shown ys es' (l ++ [c]) := by
  obtain ⟨op, n⟩ := c
  unfold layT at hl
  cases hs : saidT ⟨op, n⟩ xs with
  | none => rw [hs] at hl; cases hl
  | some p =>
    obtain ⟨x, k⟩ := p
    rw [hs] at hl
    dsimp only at hl
    split at hl
    · cases hl
    injection hl with hl
    have hlen : xs.length = es.length := by rw [h.show_, List.length_map]
    unfold saidT at hs
    dsimp only at hs
    by_cases h1 : op = 1
    · rw [if_pos h1] at hs
      split at hs
      · rename_i hn
        cases hs
        rw [Nat.sub_zero, List.take_length] at hl
        refine ⟨es ++ [.num n.toNat], ?_, ?_, ?_⟩
        · rw [← hl, h.show_, List.map_append]; rfl
        · intro e he
          rcases List.mem_append.1 he with he | he
          · exact h.fine e he
          · rw [List.mem_singleton.1 he]; show n.toNat ≤ 2147483647; omega
        · rw [h.codes, List.flatMap_append]
          congr 1
          show [(⟨op, n⟩ : Cd)] = [⟨1, (n.toNat : Int)⟩]
          rw [h1, Int.toNat_of_nonneg hn.1]
      · cases hs
    rw [if_neg h1] at hs
    by_cases h2 : op = 2
    · rw [if_pos h2] at hs
      split at hs
      · rename_i hn
        cases hs
        rw [Nat.sub_zero, List.take_length] at hl
        refine ⟨es ++ [.nam n.toNat], ?_, ?_, ?_⟩
        · rw [← hl, h.show_, List.map_append]; rfl
        · intro e he
          rcases List.mem_append.1 he with he | he
          · exact h.fine e he
          · rw [List.mem_singleton.1 he]; show n.toNat < 18; omega
        · rw [h.codes, List.flatMap_append]
          congr 1
          show [(⟨op, n⟩ : Cd)] = [⟨2, (n.toNat : Int)⟩]
          rw [h2, Int.toNat_of_nonneg hn.1]
      · cases hs
    rw [if_neg h2] at hs
    by_cases h3 : n ≠ 0 ∨ xs.length < 1
    · rw [if_pos h3] at hs; cases hs
    rw [if_neg h3] at hs
    have hn0 : n = 0 := Decidable.byContradiction fun h => h3 (.inl h)
    have hx1 : 1 ≤ xs.length := by omega
    obtain ⟨es0, e1, rfl⟩ := snoc_of (show 1 ≤ es.length by omega)
    have hx : xs = es0.map Ex.show ++ [e1.show] := by rw [h.show_, List.map_append]; rfl
    have hl0 : xs.length = es0.length + 1 := by rw [hx]; simp
    have hlast : xs.getD (xs.length - 1) [] = e1.show := by rw [hl0, hx]; simp
    have htk : xs.take (xs.length - 1) = es0.map Ex.show := by rw [hl0, hx]; simp
    have hf0 : ∀ e ∈ es0, e.Fine := fun e he => h.fine e (List.mem_append_left _ he)
    have hf1 : e1.Fine := h.fine e1 (by simp)
    by_cases h4 : op = 3
    · rw [if_pos h4] at hs
      cases hs
      rw [htk] at hl
      refine ⟨es0 ++ [.peek e1], ?_, ?_, ?_⟩
      · rw [← hl, List.map_append, hlast]; simp [Ex.show]
      · intro e he
        rcases List.mem_append.1 he with he | he
        · exact hf0 e he
        · rw [List.mem_singleton.1 he]; exact hf1
      · rw [h.codes]; simp [List.flatMap_append, Ex.codes, h4, hn0]
    rw [if_neg h4] at hs
    by_cases h5 : 4 ≤ op ∧ op ≤ 6
    · rw [if_pos h5] at hs
      cases hs
      rw [htk] at hl
      refine ⟨es0 ++ [.pre (op - 4).toNat e1], ?_, ?_, ?_⟩
      · rw [← hl, List.map_append, hlast]; simp [Ex.show]
      · intro e he
        rcases List.mem_append.1 he with he | he
        · exact hf0 e he
        · rw [List.mem_singleton.1 he]; exact ⟨by omega, hf1⟩
      · have e : (⟨op, n⟩ : Cd) = ⟨4 + ((op - 4).toNat : Int), 0⟩ := by rw [hn0]; congr 1; omega
        rw [h.codes, e, List.flatMap_append, List.flatMap_append]
        show _ ++ [e1].flatMap Ex.codes ++ _ = _ ++ [Ex.pre (op - 4).toNat e1].flatMap Ex.codes
        rw [List.flatMap_cons, List.flatMap_cons, List.flatMap_nil, List.append_nil, List.append_nil, List.append_assoc]
        rfl
    rw [if_neg h5] at hs
    by_cases h6 : 7 ≤ op ∧ op ≤ 24 ∧ 1 < xs.length
    · rw [if_pos h6] at hs
      cases hs
      obtain ⟨es1, e0, rfl⟩ := snoc_of (show 1 ≤ es0.length by omega)
      obtain ⟨s, hsm, hso, hsw⟩ := word_some ⟨h6.1, h6.2.1⟩
      have hx2 : xs = es1.map Ex.show ++ [e0.show, e1.show] := by rw [hx, List.map_append, List.append_assoc]; rfl
      have hl2 : xs.length = es1.length + 2 := by rw [hx2]; simp
      have hpen : xs.getD (xs.length - 2) [] = e0.show := by rw [hl2, hx2]; simp
      have htk2 : xs.take (xs.length - 2) = es1.map Ex.show := by rw [hl2, hx2]; simp
      rw [htk2] at hl
      refine ⟨es1 ++ [.bin s e0 e1], ?_, ?_, ?_⟩
      · rw [← hl, List.map_append, hlast, hpen, hsw]; simp [Ex.show]
      · intro e he
        rcases List.mem_append.1 he with he | he
        · exact hf0 e (List.mem_append_left _ he)
        · rw [List.mem_singleton.1 he]; exact ⟨hsm, hf0 e0 (by simp), hf1⟩
      · rw [h.codes]; simp [List.flatMap_append, Ex.codes, hn0, hso]
    · rw [if_neg h6] at hs; cases hs
theorem lays_shown : ∀ {l : List Cd} {xs ys : List Tx} {es : List Ex} {l0 : List Cd}, Shown xs es l0 → laysT l xs = some ys → ∃ es', Shown ys es' (l0 ++ l)
  | [], xs, ys, es, l0, h, hl => by cases hl; exact ⟨es, by rw [List.append_nil]; exact h⟩
  | c :: l, xs, ys, es, l0, h, hl => by
    unfold laysT at hl
    cases hc : layT c xs with
    | none => rw [hc] at hl; cases hl
    | some zs =>
      rw [hc] at hl
      obtain ⟨es1, h1⟩ := lay_shown h hc
      obtain ⟨es2, h2⟩ := lays_shown h1 hl
      exact ⟨es2, by rw [List.append_assoc] at h2; exact h2⟩
theorem print_tree {l : List Cd} {t : Tx} (h : printT l = (t, 0)) : ∃ e : Ex, e.Fine ∧ t = e.show ∧ l = e.codes := by
  unfold printT at h
  split at h
  · rename_i x hx
    cases h
    obtain ⟨es, he⟩ := lays_shown (es := []) (l0 := []) ⟨rfl, fun _ h => (by cases h), rfl⟩ hx
    have h1 := he.show_
    have h2 := he.codes
    match es, h1 with
    | [e], h1 =>
      refine ⟨e, he.fine e (List.mem_singleton.2 rfl), ?_, ?_⟩
      · simpa using h1
      · rw [List.nil_append] at h2; rw [h2]; simp
    | [], h1 => cases h1
    | _ :: _ :: _, h1 => cases h1
  · cases h
/-! what is printed is read again -/
theorem dig_val {k : Nat} (h : k < 10) : digV 10 (48 + k).toUInt8 = some k := by
  have key : ∀ q : Fin 10, digV 10 (48 + q.val).toUInt8 = some q.val := by decide
  exact key ⟨k, h⟩
theorem dec_digits (n : Nat) : ∃ c u, decT n = c :: u ∧ 48 ≤ c.toNat ∧ c.toNat ≤ 57 := by
  induction n using Nat.strongRecOn with
  | _ n ih =>
    by_cases h : n < 10
    · have key : ∀ q : Fin 10, 48 ≤ (48 + q.val).toUInt8.toNat ∧ (48 + q.val).toUInt8.toNat ≤ 57 := by decide
      exact ⟨_, [], decT_1 h, (key ⟨n, h⟩).1, (key ⟨n, h⟩).2⟩
    · obtain ⟨c, u, hu, h1, h2⟩ := ih (n / 10) (by omega)
      exact ⟨c, u ++ [(48 + n % 10).toUInt8], by rw [decT_2 h, hu]; rfl, h1, h2⟩
theorem num_dec (n : Nat) : n ≤ 1099511627776 → ∀ u : Tx, numL 10 (decT n ++ u) 0 = numL 10 u n := by
  induction n using Nat.strongRecOn with
  | _ n ih =>
    intro hn u
    by_cases h : n < 10
    · rw [decT_1 h]
      show numL 10 ((48 + n).toUInt8 :: u) 0 = _
      rw [numL, dig_val h]
      dsimp only
      rw [show min (0 * 10 + n) 1099511627776 = n by omega]
    · rw [decT_2 h, List.append_assoc, ih (n / 10) (by omega) (by omega)]
      show numL 10 ((48 + n % 10).toUInt8 :: u) (n / 10) = _
      rw [numL, dig_val (by omega)]
      dsimp only
      rw [show min (n / 10 * 10 + n % 10) 1099511627776 = n by omega]
theorem numL_end {w : Tx} (hw : Ends w) (n : Nat) : numL 10 w n = (n, w) := numL_stop 10 hw [] n
theorem dec_read {n : Nat} (hn : n ≤ 2147483647) {w a : Tx} (hw : Ends w) (out : List Cd) : numR 10 (decT n ++ w) a out = .ok w (out ++ [⟨1, n⟩]) := by
  obtain ⟨c, u, hu, -⟩ := dec_digits n
  unfold numR
  rw [num_dec n (by omega), numL_end hw, if_neg (by dsimp only; rw [hu, List.length_append]; simp), if_neg (by dsimp only; omega)]
theorem name_all : ∀ i : Fin 18, ((nms.getD i.val []).takeWhile small = nms.getD i.val [] ∧ (nms.getD i.val []).dropWhile small = []) ∧ nms.findIdx? (fun x => x == nms.getD i.val []) = some i.val := by decide
theorem name_read {i : Nat} (hi : i < 18) {w : Tx} (hw : Ends w) (out : List Cd) : nameR (nms.getD i [] ++ w) out = .ok w (out ++ [⟨2, i⟩]) := by
  have h := name_all ⟨i, hi⟩
  dsimp only at h
  unfold nameR
  rw [(small_stop hw _).1, (small_stop hw _).2, h.1.1, h.1.2, h.2]
  rfl
def hdB (p : UInt8 → Bool) : Tx → Bool
  | [] => false
  | c :: _ => p c
theorem hd_of {p : UInt8 → Bool} {t : Tx} (h : hdB p t = true) : ∃ c u, t = c :: u ∧ p c = true := by
  cases t with
  | nil => cases h
  | cons c u => exact ⟨c, u, rfl, h⟩
theorem name_hdB : ∀ i : Fin 18, hdB (fun c => decide (c ≠ 32 ∧ c ≠ 61 ∧ pre1 c = none ∧ c ≠ 40 ∧ c ≠ 91 ∧ c ≠ 36 ∧ small c = true)) (nms.getD i.val []) = true := by decide
theorem name_head {i : Nat} (hi : i < 18) : ∃ c u, nms.getD i [] = c :: u ∧ (c ≠ 32 ∧ c ≠ 61 ∧ pre1 c = none ∧ c ≠ 40 ∧ c ≠ 91 ∧ c ≠ 36 ∧ small c = true) := by
  obtain ⟨c, u, h, hp⟩ := hd_of (name_hdB ⟨i, hi⟩)
  exact ⟨c, u, h, of_decide_eq_true hp⟩
theorem digit_head : ∀ c : UInt8, 48 ≤ c.toNat ∧ c.toNat ≤ 57 → c ≠ 32 ∧ pre1 c = none ∧ c ≠ 40 ∧ c ≠ 91 ∧ c ≠ 36 ∧ small c = false := by
  intro c h
  have hne : ∀ k : UInt8, k.toNat < 48 ∨ 57 < k.toNat → c ≠ k := fun k hk e => by subst e; omega
  refine ⟨hne 32 (by decide), ?_, hne 40 (by decide), hne 91 (by decide), hne 36 (by decide), ?_⟩
  · unfold pre1; rw [if_neg (hne 45 (by decide)), if_neg (hne 33 (by decide)), if_neg (hne 126 (by decide))]
  · unfold small; exact decide_eq_false (by omega)
theorem pre_head : ∀ k : Fin 3, preC k.val ≠ 32 ∧ pre1 (preC k.val) = some (4 + (k.val : Int)) := by decide
theorem show_head (e : Ex) (he : e.Fine) : ∃ c u, e.show = c :: u ∧ c ≠ 32 ∧ c ≠ 61 := by
  cases e with
  | num n =>
    obtain ⟨c, u, hu, h1, h2⟩ := dec_digits n
    exact ⟨c, u, hu, (digit_head c ⟨h1, h2⟩).1, fun e => by subst e; exact absurd h2 (by decide)⟩
  | nam i =>
    obtain ⟨c, u, h, hp⟩ := name_head he
    exact ⟨c, u, h, hp.1, hp.2.1⟩
  | peek e => exact ⟨91, _, rfl, by decide, by decide⟩
  | pre k e =>
    have := (show ∀ k : Fin 3, preC k.val ≠ 32 ∧ preC k.val ≠ 61 by decide) ⟨k, he.1⟩
    exact ⟨preC k, _, rfl, this.1, this.2⟩
  | bin s a b => exact ⟨40, _, rfl, by decide, by decide⟩
theorem sgs_self : ∀ s ∈ sgs, sgn s.text = some s := by decide
theorem sgs_hdB : ∀ s ∈ sgs, hdB (fun c => decide (c ≠ 32)) s.text = true := by decide
theorem sgs_head {s : Sg} (hs : s ∈ sgs) : ∃ c u, s.text = c :: u ∧ c ≠ 32 := by
  obtain ⟨c, u, h, hp⟩ := hd_of (sgs_hdB s hs)
  exact ⟨c, u, h, of_decide_eq_true hp⟩
theorem ends_cons {c : UInt8} {u : Tx} (h : c = 32 ∨ c = 41 ∨ c = 93) : Ends (c :: u) := fun c' u' e => by cases e; exact h
theorem loop_stop {w : Tx} (hw : Ends w) (h32 : ∀ u, w ≠ 32 :: u) {n : Nat} {b : Int} {d : Nat} {o : List Cd} (hn : run n (.loop b d w o) ≠ .dry) : run n (.loop b d w o) = .ok w o := by
  cases n with
  | zero => exact absurd rfl hn
  | succ n =>
    have hs : spc w = w := by
      cases w with
      | nil => rfl
      | cons c u => exact if_neg (fun h => h32 u (by rw [h]))
    rw [run_loop, hs, show sgn w = none from by have := sgn_stop (z := []) hw; rw [List.nil_append, sgn_nil] at this; exact this]
theorem pre_byte {k : Nat} (hk : k < 3) (e : Ex) (w : Tx) (n d : Nat) (out : List Cd) : run (n + 1) (.thing d ((Ex.pre k e).show ++ w) out) = if d = 20 then .no ((Ex.pre k e).show ++ w) 12 else (run n (.thing (d + 1) (e.show ++ w) out)).put (4 + (k : Int)) := by
  have h := pre_head ⟨k, hk⟩
  dsimp only at h
  rw [run_thing]
  rw [show spc ((Ex.pre k e).show ++ w) = preC k :: (e.show ++ w) from if_neg h.1]
  dsimp only
  rw [h.2]
  rfl
theorem back_law : ∀ (e : Ex), e.Fine → ∀ (n d : Nat) (w : Tx) (out : List Cd), Ends w → run n (.thing d (e.show ++ w) out) ≠ .dry →
    run n (.thing d (e.show ++ w) out) = .ok w (out ++ e.codes) ∨ (20 < d + e.deep ∧ ∃ r, run n (.thing d (e.show ++ w) out) = .no r 12)
  | _, _, 0, _, _, _, _, h => absurd rfl h
  | .num k, he, n + 1, d, w, out, hw, _ => by
    obtain ⟨c, u, hu, h1, h2⟩ := dec_digits k
    have hc := digit_head c ⟨h1, h2⟩
    left
    rw [run_thing]
    show (match spc (decT k ++ w) with | [] => _ | c :: u => _) = _
    have e1 : spc (decT k ++ w) = c :: (u ++ w) := by rw [hu]; exact if_neg hc.1
    rw [e1]
    dsimp only
    rw [hc.2.1]
    dsimp only
    rw [if_neg hc.2.2.1, if_neg hc.2.2.2.1, if_neg hc.2.2.2.2.1, if_neg (by rw [hc.2.2.2.2.2]; decide)]
    rw [show c :: (u ++ w) = decT k ++ w by rw [hu]; rfl]
    exact dec_read he hw out
  | .nam i, he, n + 1, d, w, out, hw, _ => by
    obtain ⟨c, u, hn, hh⟩ := name_head he
    left
    rw [run_thing]
    show (match spc (nms.getD i [] ++ w) with | [] => _ | c :: u => _) = _
    have e1 : spc (nms.getD i [] ++ w) = c :: (u ++ w) := by rw [hn]; exact if_neg hh.1
    rw [e1]
    dsimp only
    rw [hh.2.2.1]
    dsimp only
    rw [if_neg hh.2.2.2.1, if_neg hh.2.2.2.2.1, if_neg hh.2.2.2.2.2.1, if_pos hh.2.2.2.2.2.2]
    rw [show c :: (u ++ w) = nms.getD i [] ++ w by rw [hn]; rfl]
    exact name_read he hw out
  | .pre k e, he, n + 1, d, w, out, hw, hd => by
    rw [pre_byte he.1] at hd ⊢
    by_cases h20 : d = 20
    · rw [if_pos h20]
      exact .inr ⟨by show 20 < d + (1 + e.deep); omega, _, rfl⟩
    · rw [if_neg h20] at hd ⊢
      rcases back_law e he.2 n (d + 1) w out hw (fun h => hd (by rw [h]; rfl)) with h | ⟨h1, r, h2⟩
      · rw [h]; left; show Rs.ok w _ = Rs.ok w (out ++ (e.codes ++ _)); rw [List.append_assoc]
      · rw [h2]; exact .inr ⟨by show 20 < d + (1 + e.deep); omega, r, rfl⟩
  | .peek e, he, n + 1, d, w, out, hw, hd => by
    have e1 : run (n + 1) (.thing d ((Ex.peek e).show ++ w) out) = if d = 20 then .no ((Ex.peek e).show ++ w) 12 else (run n (.closed 93 (d + 1) (e.show ++ [93] ++ w) out)).put 3 := rfl
    rw [e1] at hd ⊢
    by_cases h20 : d = 20
    · rw [if_pos h20]
      exact .inr ⟨by show 20 < d + (1 + e.deep); omega, _, rfl⟩
    · rw [if_neg h20] at hd ⊢
      have hd1 : run n (.closed 93 (d + 1) (e.show ++ [93] ++ w) out) ≠ .dry := fun h => hd (by rw [h]; rfl)
      obtain ⟨k, rfl⟩ := run_pos rfl hd1
      rw [run_closed] at hd1
      have hd2 : run k (.whole 0 (d + 1) (e.show ++ [93] ++ w) out) ≠ .dry := fun h => hd1 (by rw [h])
      obtain ⟨j, rfl⟩ := run_pos rfl hd2
      rw [run_whole] at hd2
      have hE : Ends (93 :: w) := ends_cons (.inr (.inr rfl))
      have hd3 : run j (.thing (d + 1) (e.show ++ (93 :: w)) out) ≠ .dry := fun h => hd2 (by rw [List.append_assoc]; show (match run j (.thing (d + 1) (e.show ++ (93 :: w)) out) with | .ok r o => _ | x => x) = _; rw [h])
      rcases back_law e he j (d + 1) (93 :: w) out hE hd3 with h | ⟨h1, r, h2⟩
      · rw [List.append_assoc] at hd2
        have h' : run j (.thing (d + 1) (e.show ++ ([93] ++ w)) out) = .ok (93 :: w) (out ++ e.codes) := h
        rw [h'] at hd2
        have hl := loop_stop hE (fun u h => by cases h) hd2
        rw [run_closed, run_whole, List.append_assoc, h']
        dsimp only
        rw [hl]
        left
        show Rs.ok w _ = Rs.ok w (out ++ (e.codes ++ _))
        rw [List.append_assoc]
      · have h' : run j (.thing (d + 1) (e.show ++ ([93] ++ w)) out) = .no r 12 := h2
        rw [run_closed, run_whole, List.append_assoc, h']
        exact .inr ⟨by show 20 < d + (1 + e.deep); omega, r, rfl⟩
  | .bin s a b, he, n + 1, d, w, out, hw, hd => by
    have hT : (Ex.bin s a b).show ++ w = 40 :: (a.show ++ (32 :: (s.text ++ (32 :: (b.show ++ (41 :: w)))))) := by
      show 40 :: (a.show ++ (32 :: (s.text ++ (32 :: (b.show ++ [41]))))) ++ w = _
      simp
    rw [hT] at hd ⊢
    have e1 : ∀ U : Tx, run (n + 1) (.thing d (40 :: U) out) = if d = 20 then .no (40 :: U) 12 else run n (.closed 41 (d + 1) U out) := fun U => rfl
    rw [e1] at hd ⊢
    have hda : a.deep ≤ max a.deep b.deep := Nat.le_max_left _ _
    have hdb : b.deep ≤ max a.deep b.deep := Nat.le_max_right _ _
    by_cases h20 : d = 20
    · rw [if_pos h20]
      exact .inr ⟨by show 20 < d + (1 + max a.deep b.deep); omega, _, rfl⟩
    · rw [if_neg h20] at hd ⊢
      obtain ⟨k, rfl⟩ := run_pos rfl hd
      rw [run_closed] at hd ⊢
      have hd2 : run k (.whole 0 (d + 1) (a.show ++ (32 :: (s.text ++ (32 :: (b.show ++ (41 :: w)))))) out) ≠ .dry := fun h => hd (by rw [h])
      obtain ⟨j, rfl⟩ := run_pos rfl hd2
      rw [run_whole] at hd hd2 ⊢
      have hd3 : run j (.thing (d + 1) (a.show ++ (32 :: (s.text ++ (32 :: (b.show ++ (41 :: w)))))) out) ≠ .dry := fun h => hd2 (by rw [h])
      rcases back_law a he.2.1 j (d + 1) _ out (ends_cons (.inl rfl)) hd3 with h | ⟨h1, r, h2⟩
      · rw [h] at hd hd2 ⊢
        dsimp only at hd hd2 ⊢
        obtain ⟨i, rfl⟩ := run_pos rfl hd2
        have hsp : spc (32 :: (s.text ++ (32 :: (b.show ++ (41 :: w))))) = s.text ++ (32 :: (b.show ++ (41 :: w))) := by
          rw [show spc (32 :: (s.text ++ (32 :: (b.show ++ (41 :: w))))) = spc (s.text ++ (32 :: (b.show ++ (41 :: w)))) from if_pos rfl]
          obtain ⟨c, u, ht, hh⟩ := sgs_head he.1
          rw [ht]; exact if_neg hh
        have hsg : sgn (s.text ++ (32 :: (b.show ++ (41 :: w)))) = some s := by rw [sgn_stop (ends_cons (.inl rfl)), sgs_self s he.1]
        have hb0 : ¬ s.bind < 0 := by have := (sgs_pos s he.1).2; omega
        rw [run_loop, hsp, hsg] at hd hd2 ⊢
        dsimp only at hd hd2 ⊢
        rw [if_neg hb0, List.drop_left] at hd hd2 ⊢
        have hd4 : run i (.whole (s.bind + 1) (d + 1) (32 :: (b.show ++ (41 :: w))) (out ++ a.codes)) ≠ .dry := fun h => hd2 (by rw [h])
        obtain ⟨g, rfl⟩ := run_pos rfl hd4
        obtain ⟨cb, ub, hbu, hb32, -⟩ := show_head b he.2.2
        have hth : run g (.thing (d + 1) (32 :: (b.show ++ (41 :: w))) (out ++ a.codes)) = run g (.thing (d + 1) (b.show ++ (41 :: w)) (out ++ a.codes)) := by
          rw [← thing_spc g (d + 1) (32 :: (b.show ++ (41 :: w))), show spc (32 :: (b.show ++ (41 :: w))) = spc (b.show ++ (41 :: w)) from if_pos rfl, thing_spc]
        rw [run_whole, hth] at hd hd2 hd4 ⊢
        have hd5 : run g (.thing (d + 1) (b.show ++ (41 :: w)) (out ++ a.codes)) ≠ .dry := fun h => hd4 (by rw [h])
        have hE : Ends (41 :: w) := ends_cons (.inr (.inl rfl))
        rcases back_law b he.2.2 g (d + 1) (41 :: w) (out ++ a.codes) hE hd5 with h3 | ⟨h1, r, h2⟩
        · rw [h3] at hd hd2 hd4 ⊢
          dsimp only at hd hd2 hd4 ⊢
          rw [loop_stop hE (fun u h => by cases h) hd4] at hd hd2 ⊢
          dsimp only at hd hd2 ⊢
          rw [loop_stop hE (fun u h => by cases h) hd2]
          left
          show Rs.ok w _ = Rs.ok w (out ++ (a.codes ++ b.codes ++ _))
          simp [List.append_assoc]
        · rw [h2]
          exact .inr ⟨by show 20 < d + (1 + max a.deep b.deep); omega, r, rfl⟩
      · rw [h2]
        exact .inr ⟨by show 20 < d + (1 + max a.deep b.deep); omega, r, rfl⟩
/-- What is printed is read to the same orders, if it is short, and not too deep. -/
theorem parse_back {e : Ex} (he : e.Fine) (hl : e.show.length ≤ 300) : parseT e.show = (e.codes, 0, 0) ∨ (20 < e.deep ∧ (parseT e.show).2.2 = 12) := by
  have hd := parse_ends e.show
  rw [run_whole] at hd
  have hE : Ends [] := fun c u h => by cases h
  have hd1 : run (4 * e.show.length + 1) (.thing 0 (e.show ++ []) []) ≠ .dry := fun h => hd (by rw [List.append_nil] at h; rw [h])
  rcases back_law e he _ 0 [] [] hE hd1 with h | ⟨h1, r, h2⟩
  · rw [List.append_nil] at h
    rw [h] at hd
    dsimp only at hd
    have h3 : run (4 * e.show.length + 2) (.whole 0 0 e.show []) = .ok [] ([] ++ e.codes) := by rw [run_whole, h]; exact loop_stop hE (fun u h => by cases h) hd
    have h4 := parse_ok hl h3
    rw [show spc [] = [] from rfl, if_pos rfl, List.nil_append] at h4
    exact .inl h4
  · rw [List.append_nil] at h2
    have h3 : run (4 * e.show.length + 2) (.whole 0 0 e.show []) = .no r 12 := by rw [run_whole, h2]
    have h4 := parse_no hl h3
    exact .inr ⟨by omega, by rw [h4]⟩
end Go.Proofs.YtiadmbhafplepaaDoor
namespace Go.Proofs.YtiadmbhafplepaaDoor
open Go Go.VV

/-- How deep, and how deep at most, one byte on. -/
def nst (q : Int × Int) (c : UInt8) : Int × Int :=
  let d := if c = 40 ∨ c = 91 then q.1 + 1 else if c = 41 ∨ c = 93 then q.1 - 1 else q.1
  (d, max q.2 d)
def nestT (t : Tx) : Int × Int := t.foldl nst (0, 0)
def signB (c : UInt8) (t : Tx) : Bool := decide (c = 45 ∨ c = 33 ∨ c = 126) && hdB (fun x => decide (x ≠ 32 ∧ x ≠ 61)) t
def signsT : Tx → Nat
  | [] => 0
  | c :: t => signsT t + if signB c t = true then 1 else 0
def Ex.bare : Ex → Prop
  | num _ => True
  | nam _ => True
  | peek e => e.bare
  | pre _ _ => False
  | bin _ a b => a.bare ∧ b.bare
theorem bare_or : ∀ e : Ex, e.bare ∨ ¬ e.bare := fun _ => Classical.em _
theorem nst_flat : ∀ (t : Tx) (d m : Int), (∀ c ∈ t, c ≠ 40 ∧ c ≠ 91 ∧ c ≠ 41 ∧ c ≠ 93) → d ≤ m → t.foldl nst (d, m) = (d, m)
  | [], _, _, _, _ => rfl
  | c :: t, d, m, h, hm => by
    have hc := h c (.head _)
    have e : nst (d, m) c = (d, m) := by
      unfold nst
      dsimp only
      rw [if_neg (by rintro (h | h); exact hc.1 h; exact hc.2.1 h), if_neg (by rintro (h | h); exact hc.2.2.1 h; exact hc.2.2.2 h), show max m d = m by omega]
    rw [List.foldl_cons, e]
    exact nst_flat t d m (fun x hx => h x (.tail _ hx)) hm
theorem dec_flat (n : Nat) : ∀ c ∈ decT n, c ≠ 40 ∧ c ≠ 91 ∧ c ≠ 41 ∧ c ≠ 93 := by
  have key : ∀ q : Fin 10, (48 + q.val).toUInt8 ≠ 40 ∧ (48 + q.val).toUInt8 ≠ 91 ∧ (48 + q.val).toUInt8 ≠ 41 ∧ (48 + q.val).toUInt8 ≠ 93 := by decide
  induction n using Nat.strongRecOn with
  | _ n ih =>
    intro c hc
    by_cases h : n < 10
    · rw [decT_1 h] at hc
      rw [List.mem_singleton.1 hc]
      exact key ⟨n, h⟩
    · rw [decT_2 h] at hc
      rcases List.mem_append.1 hc with hc | hc
      · exact ih (n / 10) (by omega) c hc
      · rw [List.mem_singleton.1 hc]
        exact key ⟨n % 10, by omega⟩
theorem name_flat : ∀ i : Fin 18, ∀ c ∈ nms.getD i.val [], c ≠ 40 ∧ c ≠ 91 ∧ c ≠ 41 ∧ c ≠ 93 := by decide
theorem sign_flat : ∀ s ∈ sgs, ∀ c ∈ s.text, c ≠ 40 ∧ c ≠ 91 ∧ c ≠ 41 ∧ c ≠ 93 := by decide
theorem nst_open (d m : Int) (c : UInt8) (h : c = 40 ∨ c = 91) : nst (d, m) c = (d + 1, max m (d + 1)) := by
  unfold nst; dsimp only; rw [if_pos h]
theorem nst_shut (d m : Int) (c : UInt8) (h : c = 41 ∨ c = 93) (hm : d ≤ m) : nst (d, m) c = (d - 1, m) := by
  unfold nst; dsimp only
  rw [if_neg (by rcases h with rfl | rfl <;> decide), if_pos h, show max m (d - 1) = m by omega]
theorem nest_show : ∀ e : Ex, e.Fine → e.bare → ∀ d m : Int, d ≤ m → e.show.foldl nst (d, m) = (d, max m (d + e.deep))
  | .num n, _, _, d, m, hm => by
    show (decT n).foldl nst (d, m) = (d, max m (d + (0 : Nat)))
    rw [nst_flat _ d m (dec_flat n) hm, show max m (d + ((0 : Nat) : Int)) = m by omega]
  | .nam i, he, _, d, m, hm => by
    show (nms.getD i []).foldl nst (d, m) = (d, max m (d + (0 : Nat)))
    rw [nst_flat _ d m (name_flat ⟨i, he⟩) hm, show max m (d + ((0 : Nat) : Int)) = m by omega]
  | .peek e, he, hb, d, m, hm => by
    show (91 :: (e.show ++ [93])).foldl nst (d, m) = (d, max m (d + ((1 + e.deep : Nat) : Int)))
    rw [List.foldl_cons, nst_open d m 91 (.inr rfl), List.foldl_append, nest_show e he hb (d + 1) (max m (d + 1)) (by omega), List.foldl_cons, List.foldl_nil, nst_shut _ _ 93 (.inr rfl) (by omega)]
    congr 1 <;> omega
  | .pre k e, _, hb, _, _, _ => hb.elim
  | .bin s a b, he, hb, d, m, hm => by
    show (40 :: (a.show ++ (32 :: (s.text ++ (32 :: (b.show ++ [41])))))).foldl nst (d, m) = (d, max m (d + ((1 + max a.deep b.deep : Nat) : Int)))
    have hsp : ∀ (d m : Int), d ≤ m → nst (d, m) 32 = (d, m) := fun d m h => nst_flat [32] d m (fun c hc => by rw [List.mem_singleton.1 hc]; decide) h
    rw [List.foldl_cons, nst_open d m 40 (.inl rfl), List.foldl_append, nest_show a he.2.1 hb.1 (d + 1) (max m (d + 1)) (by omega), List.foldl_cons, hsp _ _ (by omega), List.foldl_append, nst_flat s.text _ _ (sign_flat s he.1) (by omega),
      List.foldl_cons, hsp _ _ (by omega), List.foldl_append, nest_show b he.2.2 hb.2 (d + 1) _ (by omega), List.foldl_cons, List.foldl_nil, nst_shut _ _ 41 (.inl rfl) (by omega)]
    congr 1 <;> omega
def PreIn (t : Tx) : Prop := ∃ p c q, t = p ++ c :: q ∧ signB c q = true
theorem signs_app (a b : Tx) : signsT b ≤ signsT (a ++ b) := by
  induction a with
  | nil => exact Nat.le_refl _
  | cons c t ih =>
    show signsT b ≤ signsT (t ++ b) + _
    omega
theorem pre_signs {t : Tx} (h : PreIn t) : 0 < signsT t := by
  obtain ⟨p, c, q, rfl, hc⟩ := h
  have := signs_app p (c :: q)
  have h1 : signsT (c :: q) = signsT q + 1 := by
    show signsT q + (if signB c q = true then 1 else 0) = _
    rw [if_pos hc]
  omega
theorem hdB_app {p : UInt8 → Bool} {t w : Tx} (h : hdB p t = true) : hdB p (t ++ w) = true := by
  cases t with
  | nil => cases h
  | cons c u => exact h
theorem PreIn.in {t : Tx} (h : PreIn t) (a b : Tx) : PreIn (a ++ (t ++ b)) := by
  obtain ⟨p, c, q, rfl, hc⟩ := h
  refine ⟨a ++ p, c, q ++ b, by simp, ?_⟩
  unfold signB at hc ⊢
  rw [Bool.and_eq_true] at hc ⊢
  exact ⟨hc.1, hdB_app hc.2⟩
theorem pre_in : ∀ e : Ex, e.Fine → ¬ e.bare → PreIn e.show
  | .num _, _, h => absurd trivial h
  | .nam _, _, h => absurd trivial h
  | .peek e, he, h => by
    have := (pre_in e he h).in [91] [93]
    exact this
  | .pre k e, he, _ => by
    obtain ⟨c, u, hu, h1, h2⟩ := show_head e he.2
    refine ⟨[], preC k, e.show, rfl, ?_⟩
    have hk := (show ∀ k : Fin 3, preC k.val = 45 ∨ preC k.val = 33 ∨ preC k.val = 126 by decide) ⟨k, he.1⟩
    unfold signB
    rw [hu, Bool.and_eq_true]
    exact ⟨decide_eq_true hk, decide_eq_true ⟨h1, h2⟩⟩
  | .bin s a b, he, h => by
    rcases bare_or a with ha | ha
    · rcases bare_or b with hb | hb
      · exact absurd ⟨ha, hb⟩ h
      · have := (pre_in b he.2.2 hb).in (40 :: (a.show ++ (32 :: (s.text ++ [32])))) [41]
        have e : (Ex.bin s a b).show = 40 :: (a.show ++ (32 :: (s.text ++ [32]))) ++ (b.show ++ [41]) := by
          show 40 :: (a.show ++ (32 :: (s.text ++ (32 :: (b.show ++ [41]))))) = _
          simp
        rw [e]; exact this
    · exact (pre_in a he.2.1 ha).in [40] (32 :: (s.text ++ (32 :: (b.show ++ [41]))))
theorem deep_seen {e : Ex} (he : e.Fine) (hd : 20 < e.deep) : 20 < (nestT e.show).2 ∨ 0 < signsT e.show := by
  rcases bare_or e with hb | hb
  · left
    unfold nestT
    rw [nest_show e he hb 0 0 (by omega)]
    dsimp only
    omega
  · exact .inr (pre_signs (pre_in e he hb))
theorem parse_long {t : Tx} (h : 300 < t.length) : parseT t = ([], 0, 8) := by
  unfold parseT; rw [if_pos h]
theorem parse_none {t : Tx} (h : (parseT t).2.2 ≠ 0) : (parseT t).1 = [] := by
  unfold parseT at h ⊢
  split
  · rfl
  · rename_i h1
    rw [if_neg h1] at h
    split
    · rename_i r o hr
      rw [hr] at h
      dsimp only at h ⊢
      split
      · rename_i h2
        rw [if_pos h2] at h
        exact absurd rfl h
      · rfl
    · rfl
    · rfl
theorem print_err (l : List Cd) : (printT l).2 = 0 ∨ printT l = ([], 5) := by
  unfold printT
  split
  · exact .inl rfl
  · exact .inr rfl
theorem back_main {l : List Cd} {t : Tx} (h : printT l = (t, 0)) (ht : t.length ≤ 300) : parseT t = (l, 0, 0) ∨ ((parseT t).2.2 = 12 ∧ (20 < (nestT t).2 ∨ 0 < signsT t)) := by
  obtain ⟨e, he, rfl, rfl⟩ := print_tree h
  rcases parse_back he ht with h1 | ⟨h1, h2⟩
  · exact .inl h1
  · exact .inr ⟨h2, deep_seen he h1⟩
/-- Parsed, printed, parsed, printed. -/
theorem again_law (s : Tx) : (printT (parseT s).1).2 = 5 ∨ (parseT (printT (parseT s).1).1).2.2 = 12 ∨ (parseT (printT (parseT s).1).1).2.2 = 8 ∨
    ((printT (parseT s).1).2 = 0 ∧ (parseT (printT (parseT s).1).1).2.2 = 0 ∧ (parseT (printT (parseT s).1).1).1 = (parseT s).1) := by
  rcases print_err (parseT s).1 with h | h
  · rcases Nat.lt_or_ge 300 (printT (parseT s).1).1.length with h1 | h1
    · exact .inr (.inr (.inl (by rw [parse_long h1])))
    · rcases back_main (l := (parseT s).1) (t := (printT (parseT s).1).1) (by rw [← h]) h1 with h2 | h2
      · exact .inr (.inr (.inr ⟨h, by rw [h2], by rw [h2]⟩))
      · exact .inr (.inl h2.1)
  · exact .inl (by rw [h])
end Go.Proofs.YtiadmbhafplepaaDoor
namespace Go.Proofs.YtiadmbhafplepaaDoor
open Go Go.VV

/-- The digit that stands so many places ahead of the last one. -/
def digB (u j : Nat) : Int := 48 + ((u / 10 ^ j % 10 : Nat) : Int)
/-- 24 bytes, of which those from 1 + k on, up to 1 + n, are a number's digits. -/
def layD (l : List Int) (n u k : Nat) : List Int := (List.range 24).map fun i => if 1 + k ≤ i ∧ i < 1 + n then digB u (n - i) else l.getD i 0
theorem layD_len (l : List Int) (n u k : Nat) : (layD l n u k).length = 24 := by simp [layD]
theorem layD_none {l : List Int} (hl : l.length = 24) (n u : Nat) : layD l n u n = l := by
  apply List.ext_getElem?
  intro i
  unfold layD
  rw [List.getElem?_map]
  by_cases hi : i < 24
  · rw [List.getElem?_range hi]
    show some (if 1 + n ≤ i ∧ i < 1 + n then _ else _) = _
    rw [if_neg (by omega), List.getElem?_eq_getElem (by omega), List.getD_eq_getElem?_getD, List.getElem?_eq_getElem (by omega)]
    rfl
  · rw [List.getElem?_eq_none (by simpa using hi), List.getElem?_eq_none (by omega)]; rfl
theorem layD_set {l : List Int} {n u k : Nat} (hk : k < n) (hn : n ≤ 23) : (layD l n u (k + 1)).set (1 + k) (digB u (n - 1 - k)) = layD l n u k := by
  apply List.ext_getElem?
  intro i
  rw [List.getElem?_set]
  unfold layD
  rw [List.getElem?_map, List.getElem?_map]
  by_cases hi : i < 24
  · rw [List.getElem?_range hi]
    by_cases he : 1 + k = i
    · rw [if_pos he, if_pos (by simp; omega)]
      show _ = some (if 1 + k ≤ i ∧ i < 1 + n then _ else _)
      rw [if_pos (by omega), show n - 1 - k = n - i by omega]
    · rw [if_neg he]
      show some (if 1 + (k + 1) ≤ i ∧ i < 1 + n then _ else _) = some (if 1 + k ≤ i ∧ i < 1 + n then _ else _)
      by_cases h : 1 + k ≤ i ∧ i < 1 + n
      · rw [if_pos h, if_pos (by omega)]
      · rw [if_neg h, if_neg (by omega)]
  · rw [if_neg (by omega), List.getElem?_eq_none (by simpa using hi)]; rfl
theorem digB_ok (u j : Nat) : 48 ≤ digB u j ∧ digB u j ≤ 57 := by unfold digB; omega
/-- A number of just so many digits, in bytes. -/
theorem decT_len : ∀ (n u : Nat), u < 10 ^ (n + 1) → (n = 0 ∨ 10 ^ n ≤ u) → decT u = (List.range (n + 1)).map (fun i => (48 + u / 10 ^ (n - i) % 10).toUInt8)
  | 0, u, h, _ => by
    rw [decT_1 (by omega)]
    show _ = [(48 + u / 10 ^ 0 % 10).toUInt8]
    rw [Nat.pow_zero, Nat.div_one, Nat.mod_eq_of_lt (by omega)]
  | n + 1, u, h, h2 => by
    have h3 : 10 ^ (n + 1) ≤ u := by omega
    have h4 : (10 : Nat) ^ (n + 1) = 10 ^ n * 10 := Nat.pow_succ ..
    have h5 : (10 : Nat) ^ (n + 2) = 10 ^ (n + 1) * 10 := Nat.pow_succ ..
    have h6 : 0 < (10 : Nat) ^ n := Nat.pow_pos (by decide)
    rw [decT_2 (by omega), decT_len n (u / 10) (by omega) (by right; omega), List.range_succ (n := n + 1), List.map_append]
    congr 1
    · apply List.map_congr_left
      intro i hi
      rw [List.mem_range] at hi
      rw [Nat.div_div_eq_div_mul, show n + 1 - i = (n - i) + 1 by omega, Nat.pow_succ, Nat.mul_comm 10]
    · show _ = [(48 + u / 10 ^ (n + 1 - (n + 1)) % 10).toUInt8]
      rw [Nat.sub_self, Nat.pow_zero, Nat.div_one]
end Go.Proofs.YtiadmbhafplepaaDoor
