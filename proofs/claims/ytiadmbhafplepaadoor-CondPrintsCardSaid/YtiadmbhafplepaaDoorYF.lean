/- Go's library, as far as conditions use it: a digit. -/
import Derived.Test.YtiadmbhafplepaaDoorProg
import Derived.Test.YtiadmbhafplepaaDoorYA
import Derived.Test.YtiadmbhafplepaaDoorYC
import Derived.Test.YtiadmbhafplepaaDoorYD
import Derived.Test.YtiadmbhafplepaaDoorYE
namespace Go.Proofs.YtiadmbhafplepaaDoor
open Go Go.VV

theorem pre_take {a b : Tx} (h : b.length ≤ a.length) : ((a.drop 0).take (b.length - 0) == b) = b.isPrefixOf a := by
  rw [List.drop_zero, Nat.sub_zero, Bool.eq_iff_iff, beq_iff_eq, List.isPrefixOf_iff_prefix]
  constructor
  · intro e
    exact ⟨a.drop b.length, by rw [← e, List.length_take, Nat.min_eq_left h, List.take_append_drop]⟩
  · rintro ⟨u, rfl⟩
    rw [List.take_left]
theorem pre_short {a b : Tx} (h : ¬ b.length ≤ a.length) : b.isPrefixOf a = false := by
  cases hp : b.isPrefixOf a with
  | false => rfl
  | true =>
    obtain ⟨u, rfl⟩ := List.isPrefixOf_iff_prefix.1 hp
    exact absurd (by simp) h
def strV (t : Tx) : Value := .string (bs t)
def ixS (xs : List Tx) (y : Tx) : Int := match xs.findIdx? (fun x => x == y) with
  | some i => i
  | none => -1
theorem ixS_at {xs : List Tx} {y : Tx} {i : Nat} (hi : i < xs.length) (h : ∀ j, j < i → ¬ y = xs.getD j []) (he : y = xs.getD i []) : ixS xs y = i := by
  unfold ixS
  have : xs.findIdx? (fun x => x == y) = some i := by
    rw [List.findIdx?_eq_some_iff_getElem]
    refine ⟨hi, ?_, fun j hj => ?_⟩
    · rw [beq_iff_eq, he, List.getD_eq_getElem?_getD, List.getElem?_eq_getElem hi]; rfl
    · have := h j hj
      rw [List.getD_eq_getElem?_getD, List.getElem?_eq_getElem (by omega)] at this
      simp only [beq_iff_eq]
      exact fun e => this e.symm
  rw [this]
theorem ixS_no {xs : List Tx} {y : Tx} (h : ∀ j, j < xs.length → ¬ y = xs.getD j []) : ixS xs y = -1 := by
  unfold ixS
  have : xs.findIdx? (fun x => x == y) = none := by
    rw [List.findIdx?_eq_none_iff]
    intro x hx
    obtain ⟨j, hj, rfl⟩ := List.mem_iff_getElem.1 hx
    have := h j hj
    rw [List.getD_eq_getElem?_getD, List.getElem?_eq_getElem hj] at this
    simp only [beq_eq_false_iff_ne]
    exact fun e => this e.symm
  rw [this]
theorem strV_at {xs : List Tx} {j : Nat} (h : j < xs.length) : (xs.map strV)[j]? = some (.string (bs (xs.getD j []))) := by
  rw [List.getElem?_map, List.getElem?_eq_getElem h, List.getD_eq_getElem?_getD, List.getElem?_eq_getElem h]; rfl
/-! digits -/
theorem lower_all : ∀ c : Fin 256, bor .u8 (c.val : Int) 32 = ((c.val ||| 32 : Nat) : Int) := by decide +kernel
def lowB (c : UInt8) : Int := bor .u8 (c.toNat : Int) 32
/-- A byte by itself, as a number in a base. -/
def digP (base : Int) (c : UInt8) : Bool × Int :=
  let n : Int := c.toNat
  if 48 ≤ n ∧ n ≤ 57 then (true, n - 48) else if 97 ≤ lowB c ∧ lowB c ≤ 122 then (decide (lowB c - 97 + 10 < base), lowB c - 97 + 10) else (false, 0)
def digE (base : Nat) (c : UInt8) : Bool := match digV base c with
  | some d => decide (digP base c = (true, (d : Int)))
  | none => decide ((digP base c).1 = false)
theorem dig_10 : ∀ c : Fin 256, digE 10 (UInt8.ofNat c.val) = true := by decide +kernel
theorem dig_16 : ∀ c : Fin 256, digE 16 (UInt8.ofNat c.val) = true := by decide +kernel
theorem dig_eq {base : Nat} (hb : base = 10 ∨ base = 16) (c : UInt8) : digE base c = true := by
  have e : UInt8.ofNat c.toNat = c := UInt8.ofNat_toNat
  have hc : c.toNat < 256 := c.toNat_lt
  rcases hb with rfl | rfl
  · have := dig_10 ⟨c.toNat, hc⟩; rwa [show UInt8.ofNat (⟨c.toNat, hc⟩ : Fin 256).val = c from e] at this
  · have := dig_16 ⟨c.toNat, hc⟩; rwa [show UInt8.ofNat (⟨c.toNat, hc⟩ : Fin 256).val = c from e] at this
theorem dig_some {base : Nat} (hb : base = 10 ∨ base = 16) {c : UInt8} {v : Int} (h : digP base c = (true, v)) : ∃ d : Nat, digV base c = some d ∧ v = d := by
  have := dig_eq hb c
  unfold digE at this
  cases hd : digV base c with
  | some d => rw [hd] at this; have := of_decide_eq_true this; rw [h] at this; exact ⟨d, rfl, by injection this⟩
  | none => rw [hd] at this; have := of_decide_eq_true this; rw [h] at this; cases this
theorem dig_none {base : Nat} (hb : base = 10 ∨ base = 16) {c : UInt8} (h : (digP base c).1 = false) : digV base c = none := by
  have := dig_eq hb c
  unfold digE at this
  cases hd : digV base c with
  | some d => rw [hd] at this; have := of_decide_eq_true this; rw [this] at h; cases h
  | none => rfl
theorem dig_lt {base : Nat} {c : UInt8} {d : Nat} (h : digV base c = some d) : d < 16 := by
  unfold digV at h
  split at h
  · injection h; omega
  · split at h
    · injection h; omega
    · split at h
      · injection h; omega
      · cases h
end Go.Proofs.YtiadmbhafplepaaDoor
namespace Go.Proofs.YtiadmbhafplepaaDoor
open Go Go.VV

def cSg (s : Sg) : List Value := [.string (bs s.text), .int .i64 s.op, .int .i64 s.bind]
theorem cSg_len (s : Sg) : (cSg s).length = 3 := rfl
def s0 : Sg := ⟨[], 0, 0⟩
/-- The reader's cells: r is what is left of the text t. -/
def cRd (t r : Tx) (va : Value) (d : Nat) (e : Int) : List Value := [.string (bs t), .int .i64 ((t.length : Int) - r.length), va, .int .i64 d, .int .i64 e]
theorem u8_eq {c k : UInt8} (h : (c.toNat : Int) = (k.toNat : Int)) : c = k := UInt8.toNat_inj.1 (by omega)
theorem at_suf {t u : Tx} {c : UInt8} (h : ∃ p, t = p ++ c :: u) : t[t.length - (u.length + 1)]? = some c := by
  obtain ⟨p, rfl⟩ := h
  rw [List.length_append, List.length_cons, Nat.add_sub_cancel, List.getElem?_append_right (Nat.le_refl _), Nat.sub_self]; rfl
theorem drop_suf {t r : Tx} (h : ∃ p, t = p ++ r) : t.drop (t.length - r.length) = r := by
  obtain ⟨p, rfl⟩ := h
  rw [List.length_append, Nat.add_sub_cancel, List.drop_left]
theorem cut_end {t r : Tx} (h : ∃ p, t = p ++ r) : (t.drop (t.length - r.length)).take (t.length - (t.length - r.length)) = r := by
  rw [drop_suf h, List.take_of_length_le (by have := suf_len h; omega)]
theorem cut_one {t u : Tx} {c : UInt8} (h : ∃ p, t = p ++ c :: u) (k : Nat) (hk : k = 1) : (t.drop (t.length - (u.length + 1))).take k = [c] := by
  have := drop_suf h
  rw [List.length_cons] at this
  rw [this, hk]; rfl
theorem cut_mid {t q r : Tx} (h : ∃ p, t = p ++ (q ++ r)) (k : Nat) (hk : k = q.length) : (t.drop (t.length - (q.length + r.length))).take k = q := by
  have := drop_suf h
  rw [List.length_append] at this
  rw [this, hk, List.take_left]
theorem cut_pre' {t q x r : Tx} (hx : r = q ++ x) (h : ∃ p, t = p ++ r) (k : Nat) (hk : k = q.length) : (t.drop (t.length - r.length)).take k = q := by
  rw [drop_suf h, hx, hk, List.take_left]
theorem suf_tail {t u : Tx} {c : UInt8} (h : ∃ p, t = p ++ c :: u) : ∃ p, t = p ++ u := suf_trans h ⟨[c], rfl⟩
theorem spc_32 (u : Tx) : spc (32 :: u) = spc u := if_pos rfl
theorem spc_not {c : UInt8} {u : Tx} (h : c ≠ 32) : spc (c :: u) = c :: u := if_neg h
theorem sgn_at {r : Tx} {i : Nat} {s : Sg} (h : ∀ j s', j < i → sgs[j]? = some s' → s'.text.isPrefixOf r = false) (hi : sgs[i]? = some s) (hp : s.text.isPrefixOf r = true) : sgn r = some s := by
  unfold sgn
  rw [List.find?_eq_some_iff_getElem]
  obtain ⟨hl, he⟩ := List.getElem?_eq_some_iff.1 hi
  refine ⟨hp, i, hl, he, fun j hj => ?_⟩
  have := h j _ hj (List.getElem?_eq_getElem (by omega))
  simpa using this
theorem sgn_no {r : Tx} (h : ∀ j s', j < 18 → sgs[j]? = some s' → s'.text.isPrefixOf r = false) : sgn r = none := by
  unfold sgn
  rw [List.find?_eq_none]
  intro s hs
  obtain ⟨j, hj, rfl⟩ := List.mem_iff_getElem.1 hs
  have := h j _ hj (List.getElem?_eq_getElem hj)
  rw [this]; decide
theorem numL_nil (base n : Nat) : numL base [] n = (n, []) := rfl
theorem numL_none {base : Nat} {c : UInt8} (h : digV base c = none) (u : Tx) (n : Nat) : numL base (c :: u) n = (n, c :: u) := by unfold numL; rw [h]
theorem numL_some {base : Nat} {c : UInt8} {d : Nat} (h : digV base c = some d) (u : Tx) (n : Nat) : numL base (c :: u) n = numL base u (min (n * base + d) 1099511627776) := by rw [numL, h]
theorem numR_same {base : Nat} {t r a : Tx} {n : Nat} {out : List Cd} (h : numL base t 0 = (n, r)) (hl : r.length = t.length) : numR base t a out = .no t 11 := by
  unfold numR; rw [h, if_pos hl]
theorem numR_big {base : Nat} {t r a : Tx} {n : Nat} {out : List Cd} (h : numL base t 0 = (n, r)) (hl : ¬ r.length = t.length) (hn : 2147483647 < n) : numR base t a out = .no a 11 := by
  unfold numR; rw [h, if_neg hl, if_pos hn]
theorem numR_is {base : Nat} {t r a : Tx} {n : Nat} {out : List Cd} (h : numL base t 0 = (n, r)) (hl : ¬ r.length = t.length) (hn : ¬ 2147483647 < n) : numR base t a out = .ok r (out ++ [⟨1, n⟩]) := by
  unfold numR; rw [h, if_neg hl, if_neg hn]
theorem small_split {q r : Tx} (hq : ∀ c ∈ q, small c = true) (hr : ∀ c u, r = c :: u → small c = false) : (q ++ r).takeWhile small = q ∧ (q ++ r).dropWhile small = r := by
  induction q with
  | nil =>
    cases r with
    | nil => exact ⟨rfl, rfl⟩
    | cons c u =>
      have := hr c u rfl
      simp [this]
  | cons c q ih =>
    have hc := hq c (.head _)
    have := ih (fun x hx => hq x (.tail _ hx))
    simp [hc, this.1, this.2]
theorem nameR_no' {t q r : Tx} {out : List Cd} (ht : t = q ++ r) (hq : ∀ c ∈ q, small c = true) (hr : ∀ c u, r = c :: u → small c = false) (h : ixS nms q < 0) : nameR t out = .no t 11 := by
  subst ht
  have hs := small_split hq hr
  unfold nameR
  rw [hs.1]
  unfold ixS at h
  cases hf : nms.findIdx? (fun x => x == q) with
  | none => rfl
  | some i => rw [hf] at h; dsimp only at h; omega
theorem nameR_is {t q r : Tx} {out : List Cd} (ht : t = q ++ r) (hq : ∀ c ∈ q, small c = true) (hr : ∀ c u, r = c :: u → small c = false) (h : ¬ ixS nms q < 0) : nameR t out = .ok r (out ++ [⟨2, ixS nms q⟩]) := by
  subst ht
  have hs := small_split hq hr
  unfold nameR
  rw [hs.1, hs.2]
  unfold ixS at h ⊢
  cases hf : nms.findIdx? (fun x => x == q) with
  | none => rw [hf] at h; exact absurd (by decide) h
  | some i => rfl
theorem flat_snocd (l : List Cd) (c : Cd) : flat cCd l ++ cCd c = flat cCd (l ++ [c]) := (flat_snoc _ _).symm
end Go.Proofs.YtiadmbhafplepaaDoor
namespace Go.Proofs.YtiadmbhafplepaaDoor
open Go Go.VV Go.Proofs
set_option linter.unusedSimpArgs false
set_option linter.unusedVariables false
set_option maxRecDepth 100000
theorem call_9 : callable Tryd.prog 9 = true := by kernel_rfl
theorem call_10 : callable Tryd.prog 10 = true := by kernel_rfl
theorem call_11 : callable Tryd.prog 11 = true := by kernel_rfl
theorem call_12 : callable Tryd.prog 12 = true := by kernel_rfl
theorem call_13 : callable Tryd.prog 13 = true := by kernel_rfl
theorem call_14 : callable Tryd.prog 14 = true := by kernel_rfl
theorem call_15 : callable Tryd.prog 15 = true := by kernel_rfl
theorem call_16 : callable Tryd.prog 16 = true := by kernel_rfl
theorem call_17 : callable Tryd.prog 17 = true := by kernel_rfl
theorem call_18 : callable Tryd.prog 18 = true := by kernel_rfl
theorem call_19 : callable Tryd.prog 19 = true := by kernel_rfl
theorem call_20 : callable Tryd.prog 20 = true := by kernel_rfl
theorem call_21 : callable Tryd.prog 21 = true := by kernel_rfl
theorem call_22 : callable Tryd.prog 22 = true := by kernel_rfl
theorem call_23 : callable Tryd.prog 23 = true := by kernel_rfl
theorem call_24 : callable Tryd.prog 24 = true := by kernel_rfl
theorem call_25 : callable Tryd.prog 25 = true := by kernel_rfl
theorem call_26 : callable Tryd.prog 26 = true := by kernel_rfl
theorem call_27 : callable Tryd.prog 27 = true := by kernel_rfl
theorem call_28 : callable Tryd.prog 28 = true := by kernel_rfl
theorem call_29 : callable Tryd.prog 29 = true := by kernel_rfl
theorem call_30 : callable Tryd.prog 30 = true := by kernel_rfl
theorem call_31 : callable Tryd.prog 31 = true := by kernel_rfl
theorem call_32 : callable Tryd.prog 32 = true := by kernel_rfl
theorem call_33 : callable Tryd.prog 33 = true := by kernel_rfl
theorem call_34 : callable Tryd.prog 34 = true := by kernel_rfl
theorem call_35 : callable Tryd.prog 35 = true := by kernel_rfl
theorem call_36 : callable Tryd.prog 36 = true := by kernel_rfl
theorem call_37 : callable Tryd.prog 37 = true := by kernel_rfl
theorem call_38 : callable Tryd.prog 38 = true := by kernel_rfl
theorem call_39 : callable Tryd.prog 39 = true := by kernel_rfl
theorem call_40 : callable Tryd.prog 40 = true := by kernel_rfl
theorem call_41 : callable Tryd.prog 41 = true := by kernel_rfl
theorem call_42 : callable Tryd.prog 42 = true := by kernel_rfl
theorem call_43 : callable Tryd.prog 43 = true := by kernel_rfl
theorem call_44 : callable Tryd.prog 44 = true := by kernel_rfl
theorem call_45 : callable Tryd.prog 45 = true := by kernel_rfl
theorem call_46 : callable Tryd.prog 46 = true := by kernel_rfl
theorem call_47 : callable Tryd.prog 47 = true := by kernel_rfl
theorem call_48 : callable Tryd.prog 48 = true := by kernel_rfl
theorem call_53 : callable Tryd.prog 53 = true := by kernel_rfl
theorem call_54 : callable Tryd.prog 54 = true := by kernel_rfl
theorem call_60 : callable Tryd.prog 60 = true := by kernel_rfl
theorem call_62 : callable Tryd.prog 62 = true := by kernel_rfl
theorem call_68 : callable Tryd.prog 68 = true := by kernel_rfl

end Go.Proofs.YtiadmbhafplepaaDoor
namespace Go.Proofs.YtiadmbhafplepaaDoor
open Go Go.VV Go.Proofs Go.RowKit
set_option linter.unusedSimpArgs false
set_option linter.unusedVariables false
set_option maxRecDepth 100000
theorem succ_law {i : Nat} (h : i < 1000000000) : IntKind.i64.wrap ((i : Int) + 1) = ((i + 1 : Nat) : Int) := by rw [wrap_i64 o_m o_m]; omega

theorem hasP0_fn (a b : Tx) (w : World) : Does Tryd.prog 47 [.string (bs a), .string (bs b)] w [] (fun v H => H = [] ∧ v = .bool (b.isPrefixOf a)) := by
 refine does_of Tryd.func47 rfl rfl rfl (St.refl w) ?_
 refine c_seq ?_
 refine c_region ?_
 refine RL ?_
 refine l_nil ?_
 refine c_seq ?_
 refine c_region ?_
 refine RL ?_
 refine l_l (light_lenstr rfl rfl) rfl rfl ?_
 refine RL ?_
 refine l_l (light_lenstr rfl rfl) rfl rfl ?_
 refine RL ?_
 refine RLb (fun h1 => ?_) (fun h1 => ?_)
 ·have h1n := r_f h1
  refine RL ?_
  refine RL ?_
  refine l_l (light_lenstr rfl rfl) rfl rfl ?_
  refine l_l (light_cutS 0 b.length rfl rfl rfl rfl rfl rfl (Nat.zero_le _) o_m) rfl rfl ?_
  refine RL ?_
  refine l_l (light_eqstr rfl rfl) rfl rfl ?_
  refine RL ?_
  refine RL ?_
  refine l_nil ?_
  refine c_ret ?_
  exact l_end0 (fun _ _ => rets_v rfl) ⟨rfl, (congrArg Value.bool (pre_take o_m))⟩
 ·have h1n := r_f h1
  iterate 6 refine RLp ?_
  refine RL ?_
  refine RL ?_
  refine l_nil ?_
  refine c_ret ?_
  exact l_end0 (fun _ _ => rets_v rfl) ⟨rfl, (congrArg Value.bool (pre_short o_m).symm)⟩

theorem hasP_fn (a b : Tx) (w : World) : Does Tryd.prog 42 [.string (bs a), .string (bs b)] w [] (fun v H => H = [] ∧ v = .bool (b.isPrefixOf a)) := by
 refine does_of Tryd.func42 rfl rfl rfl (St.refl w) ?_
 refine c_seq ?_
 refine c_region ?_
 refine RL ?_
 refine l_nil ?_
 refine c_seq ?_
 refine c_region ?_
 refine RL ?_
 refine RL ?_
 refine RLv call_47 (fun w hw => hasP0_fn a b w) ?_
 refine RL ?_
 refine l_nil ?_
 refine c_ret ?_
 exact l_end0 (fun _ _ => rets_v rfl) ⟨rfl, rfl⟩

theorem small_fn (c : UInt8) (w : World) : Does Tryd.prog 40 [.int .u8 c.toNat] w [] (fun v H => H = [] ∧ v = .bool (small c)) := by
 refine does_of Tryd.func40 rfl rfl rfl (St.refl w) ?_
 refine c_seq ?_
 refine c_region ?_
 refine RL ?_
 refine l_nil ?_
 refine c_seq ?_
 refine c_region ?_
 refine RL ?_
 refine RL ?_
 refine RLb (fun h1 => ?_) (fun h1 => ?_)
 ·have h1n := r_f h1
  iterate 4 refine RL ?_
  refine l_nil ?_
  refine c_ret ?_
  exact l_end0 (fun _ _ => rets_v rfl) ⟨rfl, (congrArg Value.bool (by unfold small; rw [Bool.eq_iff_iff]; simp; try omega))⟩
 ·have h1n := r_f h1
  refine RLp ?_
  refine RLp ?_
  refine RL ?_
  refine RL ?_
  refine l_nil ?_
  refine c_ret ?_
  exact l_end0 (fun _ _ => rets_v rfl) ⟨rfl, (congrArg Value.bool (by unfold small; rw [Bool.eq_iff_iff]; simp; try omega))⟩

theorem index_fn (xs : List Tx) (b c : Nat) (y : Tx) (w : World) (hr : Row w b 0 (xs.map strV)) (hl : xs.length ≤ 1000000) : Does Tryd.prog 46 [.slice (some ⟨b, 0, none⟩) xs.length c, .string (bs y)] w [] (fun v H => H = [] ∧ v = .int .i64 (ixS xs y)) := by
 refine does_of Tryd.func46 rfl rfl rfl (St.refl w) ?_
 refine c_seq ?_
 refine c_region ?_
 refine RL ?_
 refine l_nil ?_
 refine c_seq ?_
 refine c_seq ?_
 refine c_region ?_
 refine RL ?_
 refine l_l l_n rfl rfl ?_
 refine RL ?_
 refine l_nil ?_
 refine c_block ?_
 refine c_loopk (σ := Nat) [4, 5, 8, 9, 10, 11, 12, 13, 14, 15, 16, 17, 18] (fun i => [(8, .int .i64 i)]) (fun i => i ≤ xs.length ∧ ∀ j, j < i → ¬ y = xs.getD j []) (fun i => xs.length - i) 0 ?_ ?_ ?_
 ·exact ⟨Nat.zero_le _, fun j hj => absurd hj (Nat.not_lt_zero _)⟩
 ·exact .cons rfl .nil
 ·rintro i y2 ⟨hi, hj9⟩
  refine c_seq ?_
  refine c_region ?_
  refine RL ?_
  refine l_nil ?_
  refine c_seq ?_
  refine c_cond rfl (fun h1 => ?_) (fun h1 => ?_)
  ·have h1n := r_f h1
   refine c_skip ?_
   refine c_seq ?_
   refine c_block ?_
   refine c_seq ?_
   refine c_region ?_
   refine RL ?_
   refine RL ?_
   refine l_nil ?_
   refine c_seq ?_
   refine c_region ?_
   iterate 3 refine RL ?_
   refine l_l (idx_slice1 i rfl rfl rfl rfl o_m) rfl rfl ?_
   refine l_x (x_load rfl rfl (at_old (hr i _ (strV_at o_m)) (by simp))) rfl rfl ?_
   rintro _ _ ⟨rfl, rfl⟩
   refine l_l (light_eqstr rfl rfl) rfl rfl ?_
   refine l_nil ?_
   refine c_cond rfl (fun h2 => ?_) (fun h2 => ?_)
   ·have h2n := r_f h2
    refine c_seq ?_
    refine c_region ?_
    refine RL ?_
    refine RL ?_
    refine l_nil ?_
    refine c_ret ?_
    exact l_end0 (fun _ _ => rets_v rfl) ⟨rfl, (congrArg (Value.int .i64) (ixS_at o_m hj9 h2n).symm)⟩
   ·have h2n := r_f h2
    refine c_skip ?_
    refine c_region ?_
    refine l_as (v := (.int .i64 ((i + 1 : Nat) : Int))) rfl rfl rfl (congrArg _ (succ_law o_m)) ?_
    refine RL ?_
    refine l_nil ?_
    exact ⟨i + 1, ⟨by omega, fun j hj => by rcases Nat.lt_succ_iff_lt_or_eq.1 hj with h | rfl; exact hj9 j h; exact h2n⟩, by omega, .cons rfl .nil, a_g, fun _ h => h⟩
  ·have h1n := r_f h1
   refine c_exit rfl ?_
   refine c_seq ?_
   refine c_region ?_
   refine RL ?_
   refine l_nil ?_
   refine c_ret ?_
   exact l_end0 (fun _ _ => rets_v rfl) ⟨rfl, (congrArg (Value.int .i64) (ixS_no (fun j hj => hj9 j o_m)).symm)⟩

theorem ixb_all : ∀ k : Fin 3, firstIdx (bs [45, 33, 126]) ((preC k.val).toNat : Int).toNat.toUInt8 = (k.val : Int) := by decide +kernel

theorem ixb0_fn (k : Nat) (hk : k < 3) (w : World) : Does Tryd.prog 44 [.string (bs [45, 33, 126]), .int .u8 (preC k).toNat] w [] (fun v H => H = [] ∧ v = .int .i64 k) := by
 refine does_of Tryd.func44 rfl rfl rfl (St.refl w) ?_
 refine c_seq ?_
 refine c_region ?_
 refine RL ?_
 refine l_nil ?_
 refine c_seq ?_
 refine c_region ?_
 refine RL ?_
 refine RL ?_
 refine l_x (x_ext (fn := Tryd.f52) (E := Extern.BytealgIndexByte.indexByte) Tryd.func52 rfl rfl rfl rfl rfl (fun w => run_indexByte_string (bs [45, 33, 126]) ((preC k).toNat : Int) w)) rfl rfl ?_
 rintro _ _ ⟨rfl, rfl⟩
 rw [show firstIdx (bs [45, 33, 126]) ((preC k).toNat : Int).toNat.toUInt8 = (k : Int) from ixb_all ⟨k, hk⟩]
 refine RL ?_
 refine l_nil ?_
 refine c_ret ?_
 exact l_end0 (fun _ _ => rets_v rfl) ⟨rfl, rfl⟩

theorem ixb_fn (k : Nat) (hk : k < 3) (w : World) : Does Tryd.prog 35 [.string (bs [45, 33, 126]), .int .u8 (preC k).toNat] w [] (fun v H => H = [] ∧ v = .int .i64 k) := by
 refine does_of Tryd.func35 rfl rfl rfl (St.refl w) ?_
 refine c_seq ?_
 refine c_region ?_
 refine RL ?_
 refine l_nil ?_
 refine c_seq ?_
 refine c_region ?_
 refine RL ?_
 refine RL ?_
 refine RLv call_44 (fun w hw => ixb0_fn k hk w) ?_
 refine RL ?_
 refine l_nil ?_
 refine c_ret ?_
 exact l_end0 (fun _ _ => rets_v rfl) ⟨rfl, rfl⟩

theorem lower_fn (c : UInt8) (w : World) : Does Tryd.prog 60 [.int .u8 c.toNat] w [] (fun v H => H = [] ∧ v = .int .u8 (lowB c)) := by
 refine does_of Tryd.func60 rfl rfl rfl (St.refl w) ?_
 refine c_seq ?_
 refine c_region ?_
 refine RL ?_
 refine l_nil ?_
 refine c_seq ?_
 refine c_region ?_
 refine RL ?_
 refine l_as (l_or rfl rfl) rfl rfl rfl ?_
 refine RL ?_
 refine l_nil ?_
 refine c_ret ?_
 exact l_end0 (fun _ _ => rets_v rfl) ⟨rfl, rfl⟩

end Go.Proofs.YtiadmbhafplepaaDoor
namespace Go.Proofs.YtiadmbhafplepaaDoor
open Go Go.VV Go.Proofs Go.RowKit
set_option linter.unusedSimpArgs false
set_option linter.unusedVariables false
set_option maxRecDepth 100000
/-- strconv.ErrSyntax holds something. -/
def GlE (w : World) : Prop := ∃ T p, w.cell? ⟨2, 0, none⟩ = some (.iface T p)
theorem later_cell {w0 w : World} {H : Heap} (hG : GlE w0) (hw : St w0 [] H w) : GlE w := hG.elim fun T h => h.elim fun p hv => ⟨T, p, at_old hv (by simp) w hw⟩
theorem later_in {w0 w : World} {ms : List Nat} {H : Heap} (hG : GlE w0) (hm : 2 ∉ ms) (hw : St w0 ms H w) : GlE w := hG.elim fun T h => h.elim fun p hv => ⟨T, p, at_old hv hm w hw⟩

set_option maxHeartbeats 1000000 in
theorem pu0_fn (c : UInt8) (base : Nat) (hb : base = 10 ∨ base = 16) (w : World) : Does Tryd.prog 53 [.string (bs [c]), .int .i64 base, .int .i64 8] w [] (fun v H => H = [] ∧ v = match digV base c with | some d => .tuple #[.int .u64 (d : Int), .nilIface] | none => .tuple #[.int .u64 0, .iface 87 (.int .i64 2)]) := by
 have hc9 := c.toNat_lt
 refine does_of Tryd.func53 rfl rfl rfl (St.refl w) ?_
 refine c_seq ?_
 refine c_region ?_
 refine RL ?_
 refine RL ?_
 refine l_nil ?_
 refine c_seq ?_
 refine c_seq ?_
 rcases hb with rfl | rfl
 ·refine c_region ?_
  refine RL ?_
  refine l_sure false (light_eqstr rfl rfl) rfl rfl rfl ?_
  refine l_nil ?_
  refine c_false rfl ?_
  refine c_skip ?_
  refine c_seq ?_
  refine c_region ?_
  refine RL ?_
  refine l_sure false rfl rfl rfl (by decide) ?_
  refine RL ?_
  refine l_nil ?_
  refine c_seq ?_
  refine c_region ?_
  refine RL ?_
  refine RL ?_
  refine l_nil ?_
  refine c_seq ?_
  refine c_block ?_
  refine c_seq ?_
  refine c_region ?_
  refine RL ?_
  refine l_sure true rfl rfl rfl (by decide) ?_
  refine RL ?_
  refine RL ?_
  refine l_sure true rfl rfl rfl (by decide) ?_
  refine RL ?_
  refine RL ?_
  refine l_nil ?_
  refine c_true rfl ?_
  refine c_skip ?_
  refine c_seq ?_
  refine c_seq ?_
  refine c_region ?_
  refine RL ?_
  refine l_sure false rfl rfl rfl (by decide) ?_
  refine l_nil ?_
  refine c_false rfl ?_
  refine c_seq ?_
  refine c_region ?_
  refine RL ?_
  refine l_sure false rfl rfl rfl (by decide) ?_
  refine RL ?_
  refine RL ?_
  refine l_sure false rfl rfl rfl (by decide) ?_
  refine RL ?_
  refine l_nil ?_
  refine c_false rfl ?_
  refine c_skip ?_
  refine c_seq ?_
  refine c_region ?_
  refine RL ?_
  refine l_nil ?_
  refine c_seq ?_
  refine c_seq ?_
  refine c_region ?_
  refine RL ?_
  refine l_nil ?_
  refine c_block ?_
  refine c_seq ?_
  refine c_region ?_
  refine l_sure true rfl rfl rfl (by decide) ?_
  refine RL ?_
  refine l_nil ?_
  refine c_true rfl ?_
  refine c_region ?_
  refine RL ?_
  refine l_nil ?_
  refine c_seq ?_
  refine c_region ?_
  refine RL ?_
  refine l_as (v := (.int .u64 8)) rfl rfl rfl rfl ?_
  refine l_as (v := (.int .u64 256)) (shl_pos rfl rfl (by decide)) rfl rfl rfl ?_
  refine l_as (v := (.int .u64 255)) rfl rfl rfl rfl ?_
  refine RL ?_
  refine l_nil ?_
  refine c_seq ?_
  refine c_region ?_
  refine RL ?_
  refine l_nil ?_
  refine c_seq ?_
  refine c_region ?_
  refine RL ?_
  refine l_nil ?_
  refine c_seq ?_
  refine c_seq ?_
  refine c_region ?_
  refine RL ?_
  refine l_x (x_byt (a := [c]) (el := 5) rfl rfl rfl rfl) rfl rfl ?_
  rintro _ _ ⟨b99, c99, sp99, fr99, rfl, rfl⟩
  refine l_l l_n rfl rfl ?_
  refine RL ?_
  refine l_nil ?_
  refine c_block ?_
  refine c_loopk (σ := Nat × Int) [6, 7, 12, 13, 15, 16, 17, 101, 102, 103, 104, 105, 106, 107, 108, 109, 110, 111, 112, 113, 114, 115, 116, 117, 118, 119, 120, 121, 122, 123, 124, 125, 126, 127, 128, 129, 130, 131, 132, 133, 134, 135, 136, 137, 138, 139, 140, 141, 142, 143, 144, 145, 146, 147, 148, 149, 150, 151, 152, 153, 154, 155, 156, 157, 158, 159, 160, 161, 162, 163] (fun q => [(12, .bool false), (13, .int .u64 q.2), (101, .int .i64 q.1)]) (fun q => q.1 = 0 ∧ q.2 = 0 ∨ q.1 = 1 ∧ digP 10 c = (true, q.2)) (fun q => 1 - q.1) (0, 0) ?_ ?_ ?_
  ·exact .inl ⟨rfl, rfl⟩
  ·exact .cons rfl (.cons rfl (.cons rfl .nil))
  ·rintro ⟨i, v⟩ y36 hi
   dsimp only at hi ⊢
   refine c_seq ?_
   refine c_region ?_
   refine RL ?_
   refine l_nil ?_
   refine c_seq ?_
   refine c_cond rfl (fun h1 => ?_) (fun h1 => ?_)
   ·have h1n := r_f h1
    refine c_skip ?_
    refine c_seq ?_
    refine c_block ?_
    refine c_seq ?_
    obtain ⟨rfl, rfl⟩ : i = 0 ∧ v = 0 := hi.resolve_right (by rintro ⟨rfl, -⟩; simp at h1n)
    refine c_region ?_
    refine l_l (idx_slice1 0 rfl rfl rfl rfl (by simp)) rfl rfl ?_
    refine l_x (x_load rfl rfl (at_own (v := .int .u8 c.toNat) m_m (by rfl))) rfl rfl ?_
    rintro _ _ ⟨rfl, rfl⟩
    refine RL ?_
    refine l_nil ?_
    refine c_seq ?_
    refine c_region ?_
    refine RL ?_
    refine l_nil ?_
    refine c_seq ?_
    refine c_block ?_
    refine c_seq ?_
    refine c_region ?_
    refine RL ?_
    refine RL ?_
    refine RLb (fun h2 => ?_) (fun h2 => ?_)
    ·have h2n := r_f h2
     iterate 3 refine RL ?_
     refine l_nil ?_
     refine c_false rfl ?_
     refine c_seq ?_
     refine c_region ?_
     refine RL ?_
     refine RL ?_
     refine RLb (fun h3 => ?_) (fun h3 => ?_)
     ·have h3n := r_f h3
      iterate 4 refine RL ?_
      refine l_nil ?_
      refine c_cond rfl (fun h4 => ?_) (fun h4 => ?_)
      ·have h4n := r_f h4
       refine c_region ?_
       refine RL ?_
       refine l_as (l_sub rfl rfl) rfl rfl (by first | exact as_u8 o_m o_m | exact as_u8m _) ?_
       refine RL ?_
       refine l_nil ?_
       refine c_seq ?_
       refine c_seq ?_
       refine c_region ?_
       refine RL ?_
       refine RL ?_
       refine l_as (v := (.int .u8 10)) rfl rfl rfl rfl ?_
       refine RL ?_
       refine l_nil ?_
       refine c_cond rfl (fun h5 => ?_) (fun h5 => ?_)
       ·have h5n := r_f h5
        refine c_seq ?_
        refine c_region ?_
        iterate 3 refine RL ?_
        refine l_nil ?_
        refine c_ret ?_
        have h9 : (digP 10 c).1 = false := by
         unfold digP; dsimp only; split
         ·exfalso; omega
         ·split
          ·exact decide_eq_false o_m
          ·rfl
        rw [dig_none (by decide) h9]
        exact l_end0 (fun _ _ => rets_two rfl rfl) ⟨rfl, rfl⟩
       ·have h5n := r_f h5
        refine c_skip ?_
        refine c_seq ?_
        refine c_seq ?_
        refine c_region ?_
        refine RL ?_
        refine RL ?_
        refine l_sure false rfl rfl rfl (by decide) ?_
        refine l_nil ?_
        refine c_false rfl ?_
        refine c_skip ?_
        refine c_seq ?_
        refine c_region ?_
        refine RL ?_
        refine RL ?_
        refine l_as (v := (.int .u64 10)) rfl rfl rfl rfl ?_
        refine l_as (v := (.int .u64 0)) (l_mul rfl rfl) rfl rfl rfl ?_
        refine RL ?_
        refine l_nil ?_
        refine c_seq ?_
        refine c_region ?_
        refine RL ?_
        refine RL ?_
        refine l_as (l_conv rfl rfl rfl) rfl rfl (by first | exact as_u64 o_m o_m | exact as_u64m _) ?_
        refine l_as (v := (.int .u64 ((c.toNat : Int) - 48))) rfl rfl rfl ((as_u64 o_m o_m).trans (congrArg _ o_m)) ?_
        refine RL ?_
        refine l_nil ?_
        refine c_seq ?_
        refine c_seq ?_
        refine c_region ?_
        refine RL ?_
        refine RL ?_
        refine l_sure false rfl rfl rfl (decide_eq_false o_m) ?_
        iterate 3 refine RL ?_
        refine l_sure false rfl rfl rfl (decide_eq_false o_m) ?_
        refine RL ?_
        refine l_nil ?_
        refine c_false rfl ?_
        refine c_skip ?_
        refine c_region ?_
        refine RL ?_
        refine RL ?_
        refine l_nil ?_
        refine c_region ?_
        refine l_as (v := (.int .i64 ((1 : Nat) : Int))) rfl rfl rfl rfl ?_
        refine RL ?_
        refine l_nil ?_
        exact ⟨(1, ((c.toNat : Int) - 48)), .inr ⟨rfl, (show digP 10 c = (true, ((c.toNat : Int) - 48)) by unfold digP; dsimp only; rw [if_pos ⟨by omega, by omega⟩])⟩, (show 1 - 1 < 1 - 0 by decide), .cons rfl (.cons rfl (.cons rfl .nil)), a_g, fun _ h => h⟩
      ·have h4n := r_f h4
       refine c_seq ?_
       refine c_region ?_
       refine RL ?_
       refine RLv call_60 (fun w hw => lower_fn c w) ?_
       refine RL ?_
       refine RLb (fun h6 => ?_) (fun h6 => ?_)
       ·have h6n := r_f h6
        refine RL ?_
        refine RLv call_60 (fun w hw => lower_fn c w) ?_
        iterate 3 refine RL ?_
        refine l_nil ?_
        refine c_cond rfl (fun h7 => ?_) (fun h7 => ?_)
        ·have h7n := r_f h7
         refine c_region ?_
         refine RL ?_
         refine RLv call_60 (fun w hw => lower_fn c w) ?_
         refine l_as (l_sub rfl rfl) rfl rfl (by first | exact as_u8 o_m o_m | exact as_u8m _) ?_
         refine l_as (l_add rfl rfl) rfl rfl (by first | exact as_u8 o_m o_m | exact as_u8m _) ?_
         refine RL ?_
         refine l_nil ?_
         refine c_seq ?_
         refine c_seq ?_
         refine c_region ?_
         refine RL ?_
         refine RL ?_
         refine l_as (v := (.int .u8 10)) rfl rfl rfl rfl ?_
         refine RL ?_
         refine l_nil ?_
         refine c_cond rfl (fun h8 => ?_) (fun h8 => ?_)
         ·have h8n := r_f h8
          refine c_seq ?_
          refine c_region ?_
          iterate 3 refine RL ?_
          refine l_nil ?_
          refine c_ret ?_
          have h9 : (digP 10 c).1 = false := by
           unfold digP; dsimp only; split
           ·exfalso; omega
           ·split
            ·exact decide_eq_false o_m
            ·rfl
          rw [dig_none (by decide) h9]
          exact l_end0 (fun _ _ => rets_two rfl rfl) ⟨rfl, rfl⟩
         ·have h8n := r_f h8
          refine c_skip ?_
          refine c_seq ?_
          refine c_seq ?_
          refine c_region ?_
          refine RL ?_
          refine RL ?_
          refine l_sure false rfl rfl rfl (by decide) ?_
          refine l_nil ?_
          refine c_false rfl ?_
          refine c_skip ?_
          refine c_seq ?_
          refine c_region ?_
          refine RL ?_
          refine RL ?_
          refine l_as (v := (.int .u64 10)) rfl rfl rfl rfl ?_
          refine l_as (v := (.int .u64 0)) (l_mul rfl rfl) rfl rfl rfl ?_
          refine RL ?_
          refine l_nil ?_
          refine c_seq ?_
          refine c_region ?_
          refine RL ?_
          refine RL ?_
          refine l_as (l_conv rfl rfl rfl) rfl rfl (by first | exact as_u64 o_m o_m | exact as_u64m _) ?_
          refine l_as (v := (.int .u64 (lowB c - 97 + 10))) rfl rfl rfl ((as_u64 o_m o_m).trans (congrArg _ o_m)) ?_
          refine RL ?_
          refine l_nil ?_
          refine c_seq ?_
          refine c_seq ?_
          refine c_region ?_
          refine RL ?_
          refine RL ?_
          refine l_sure false rfl rfl rfl (decide_eq_false o_m) ?_
          iterate 3 refine RL ?_
          refine l_sure false rfl rfl rfl (decide_eq_false o_m) ?_
          refine RL ?_
          refine l_nil ?_
          refine c_false rfl ?_
          refine c_skip ?_
          refine c_region ?_
          refine RL ?_
          refine RL ?_
          refine l_nil ?_
          refine c_region ?_
          refine l_as (v := (.int .i64 ((1 : Nat) : Int))) rfl rfl rfl rfl ?_
          refine RL ?_
          refine l_nil ?_
          exact ⟨(1, (lowB c - 97 + 10)), .inr ⟨rfl, (show digP 10 c = (true, (lowB c - 97 + 10)) by unfold digP; dsimp only; rw [if_neg o_m, if_pos ⟨by omega, by omega⟩]; rw [decide_eq_true o_m])⟩, (show 1 - 1 < 1 - 0 by decide), .cons rfl (.cons rfl (.cons rfl .nil)), a_g, fun _ h => h⟩
        ·have h7n := r_f h7
         refine c_seq ?_
         refine c_region ?_
         iterate 3 refine RL ?_
         refine l_nil ?_
         refine c_ret ?_
         have h9 : (digP 10 c).1 = false := by
          unfold digP; dsimp only; split
          ·exfalso; omega
          ·split
           ·exact decide_eq_false o_m
           ·rfl
         rw [dig_none (by decide) h9]
         exact l_end0 (fun _ _ => rets_two rfl rfl) ⟨rfl, rfl⟩
       ·have h6n := r_f h6
        iterate 3 refine RLp ?_
        refine RL ?_
        refine RL ?_
        refine l_nil ?_
        refine c_false rfl ?_
        refine c_seq ?_
        refine c_region ?_
        iterate 3 refine RL ?_
        refine l_nil ?_
        refine c_ret ?_
        have h9 : (digP 10 c).1 = false := by
         unfold digP; dsimp only; split
         ·exfalso; omega
         ·split
          ·exact decide_eq_false o_m
          ·rfl
        rw [dig_none (by decide) h9]
        exact l_end0 (fun _ _ => rets_two rfl rfl) ⟨rfl, rfl⟩
     ·have h3n := r_f h3
      refine RLp ?_
      refine RLp ?_
      refine RL ?_
      refine RL ?_
      refine l_nil ?_
      refine c_false rfl ?_
      refine c_seq ?_
      refine c_region ?_
      refine RL ?_
      refine RLv call_60 (fun w hw => lower_fn c w) ?_
      refine RL ?_
      refine RLb (fun h9 => ?_) (fun h9 => ?_)
      ·have h9n := r_f h9
       refine RL ?_
       refine RLv call_60 (fun w hw => lower_fn c w) ?_
       iterate 3 refine RL ?_
       refine l_nil ?_
       refine c_cond rfl (fun h10 => ?_) (fun h10 => ?_)
       ·have h10n := r_f h10
        refine c_region ?_
        refine RL ?_
        refine RLv call_60 (fun w hw => lower_fn c w) ?_
        refine l_as (l_sub rfl rfl) rfl rfl (by first | exact as_u8 o_m o_m | exact as_u8m _) ?_
        refine l_as (l_add rfl rfl) rfl rfl (by first | exact as_u8 o_m o_m | exact as_u8m _) ?_
        refine RL ?_
        refine l_nil ?_
        refine c_seq ?_
        refine c_seq ?_
        refine c_region ?_
        refine RL ?_
        refine RL ?_
        refine l_as (v := (.int .u8 10)) rfl rfl rfl rfl ?_
        refine RL ?_
        refine l_nil ?_
        refine c_cond rfl (fun h11 => ?_) (fun h11 => ?_)
        ·have h11n := r_f h11
         refine c_seq ?_
         refine c_region ?_
         iterate 3 refine RL ?_
         refine l_nil ?_
         refine c_ret ?_
         have h9 : (digP 10 c).1 = false := by
          unfold digP; dsimp only; split
          ·exfalso; omega
          ·split
           ·exact decide_eq_false o_m
           ·rfl
         rw [dig_none (by decide) h9]
         exact l_end0 (fun _ _ => rets_two rfl rfl) ⟨rfl, rfl⟩
        ·have h11n := r_f h11
         refine c_skip ?_
         refine c_seq ?_
         refine c_seq ?_
         refine c_region ?_
         refine RL ?_
         refine RL ?_
         refine l_sure false rfl rfl rfl (by decide) ?_
         refine l_nil ?_
         refine c_false rfl ?_
         refine c_skip ?_
         refine c_seq ?_
         refine c_region ?_
         refine RL ?_
         refine RL ?_
         refine l_as (v := (.int .u64 10)) rfl rfl rfl rfl ?_
         refine l_as (v := (.int .u64 0)) (l_mul rfl rfl) rfl rfl rfl ?_
         refine RL ?_
         refine l_nil ?_
         refine c_seq ?_
         refine c_region ?_
         refine RL ?_
         refine RL ?_
         refine l_as (l_conv rfl rfl rfl) rfl rfl (by first | exact as_u64 o_m o_m | exact as_u64m _) ?_
         refine l_as (v := (.int .u64 (lowB c - 97 + 10))) rfl rfl rfl ((as_u64 o_m o_m).trans (congrArg _ o_m)) ?_
         refine RL ?_
         refine l_nil ?_
         refine c_seq ?_
         refine c_seq ?_
         refine c_region ?_
         refine RL ?_
         refine RL ?_
         refine l_sure false rfl rfl rfl (decide_eq_false o_m) ?_
         iterate 3 refine RL ?_
         refine l_sure false rfl rfl rfl (decide_eq_false o_m) ?_
         refine RL ?_
         refine l_nil ?_
         refine c_false rfl ?_
         refine c_skip ?_
         refine c_region ?_
         refine RL ?_
         refine RL ?_
         refine l_nil ?_
         refine c_region ?_
         refine l_as (v := (.int .i64 ((1 : Nat) : Int))) rfl rfl rfl rfl ?_
         refine RL ?_
         refine l_nil ?_
         exact ⟨(1, (lowB c - 97 + 10)), .inr ⟨rfl, (show digP 10 c = (true, (lowB c - 97 + 10)) by unfold digP; dsimp only; rw [if_neg o_m, if_pos ⟨by omega, by omega⟩]; rw [decide_eq_true o_m])⟩, (show 1 - 1 < 1 - 0 by decide), .cons rfl (.cons rfl (.cons rfl .nil)), a_g, fun _ h => h⟩
       ·have h10n := r_f h10
        refine c_seq ?_
        refine c_region ?_
        iterate 3 refine RL ?_
        refine l_nil ?_
        refine c_ret ?_
        have h9 : (digP 10 c).1 = false := by
         unfold digP; dsimp only; split
         ·exfalso; omega
         ·split
          ·exact decide_eq_false o_m
          ·rfl
        rw [dig_none (by decide) h9]
        exact l_end0 (fun _ _ => rets_two rfl rfl) ⟨rfl, rfl⟩
      ·have h9n := r_f h9
       iterate 3 refine RLp ?_
       refine RL ?_
       refine RL ?_
       refine l_nil ?_
       refine c_false rfl ?_
       refine c_seq ?_
       refine c_region ?_
       iterate 3 refine RL ?_
       refine l_nil ?_
       refine c_ret ?_
       have h9 : (digP 10 c).1 = false := by
        unfold digP; dsimp only; split
        ·exfalso; omega
        ·split
         ·exact decide_eq_false o_m
         ·rfl
       rw [dig_none (by decide) h9]
       exact l_end0 (fun _ _ => rets_two rfl rfl) ⟨rfl, rfl⟩
    ·have h2n := r_f h2
     refine RLp ?_
     refine RL ?_
     refine RL ?_
     refine l_nil ?_
     refine c_false rfl ?_
     refine c_seq ?_
     refine c_region ?_
     refine RL ?_
     refine RL ?_
     refine RLb (fun h12 => ?_) (fun h12 => ?_)
     ·have h12n := r_f h12
      iterate 4 refine RL ?_
      refine l_nil ?_
      refine c_cond rfl (fun h13 => ?_) (fun h13 => ?_)
      ·have h13n := r_f h13
       refine c_region ?_
       refine RL ?_
       refine l_as (l_sub rfl rfl) rfl rfl (by first | exact as_u8 o_m o_m | exact as_u8m _) ?_
       refine RL ?_
       refine l_nil ?_
       refine c_seq ?_
       refine c_seq ?_
       refine c_region ?_
       refine RL ?_
       refine RL ?_
       refine l_as (v := (.int .u8 10)) rfl rfl rfl rfl ?_
       refine RL ?_
       refine l_nil ?_
       refine c_cond rfl (fun h14 => ?_) (fun h14 => ?_)
       ·have h14n := r_f h14
        refine c_seq ?_
        refine c_region ?_
        iterate 3 refine RL ?_
        refine l_nil ?_
        refine c_ret ?_
        have h9 : (digP 10 c).1 = false := by
         unfold digP; dsimp only; split
         ·exfalso; omega
         ·split
          ·exact decide_eq_false o_m
          ·rfl
        rw [dig_none (by decide) h9]
        exact l_end0 (fun _ _ => rets_two rfl rfl) ⟨rfl, rfl⟩
       ·have h14n := r_f h14
        refine c_skip ?_
        refine c_seq ?_
        refine c_seq ?_
        refine c_region ?_
        refine RL ?_
        refine RL ?_
        refine l_sure false rfl rfl rfl (by decide) ?_
        refine l_nil ?_
        refine c_false rfl ?_
        refine c_skip ?_
        refine c_seq ?_
        refine c_region ?_
        refine RL ?_
        refine RL ?_
        refine l_as (v := (.int .u64 10)) rfl rfl rfl rfl ?_
        refine l_as (v := (.int .u64 0)) (l_mul rfl rfl) rfl rfl rfl ?_
        refine RL ?_
        refine l_nil ?_
        refine c_seq ?_
        refine c_region ?_
        refine RL ?_
        refine RL ?_
        refine l_as (l_conv rfl rfl rfl) rfl rfl (by first | exact as_u64 o_m o_m | exact as_u64m _) ?_
        refine l_as (v := (.int .u64 ((c.toNat : Int) - 48))) rfl rfl rfl ((as_u64 o_m o_m).trans (congrArg _ o_m)) ?_
        refine RL ?_
        refine l_nil ?_
        refine c_seq ?_
        refine c_seq ?_
        refine c_region ?_
        refine RL ?_
        refine RL ?_
        refine l_sure false rfl rfl rfl (decide_eq_false o_m) ?_
        iterate 3 refine RL ?_
        refine l_sure false rfl rfl rfl (decide_eq_false o_m) ?_
        refine RL ?_
        refine l_nil ?_
        refine c_false rfl ?_
        refine c_skip ?_
        refine c_region ?_
        refine RL ?_
        refine RL ?_
        refine l_nil ?_
        refine c_region ?_
        refine l_as (v := (.int .i64 ((1 : Nat) : Int))) rfl rfl rfl rfl ?_
        refine RL ?_
        refine l_nil ?_
        exact ⟨(1, ((c.toNat : Int) - 48)), .inr ⟨rfl, (show digP 10 c = (true, ((c.toNat : Int) - 48)) by unfold digP; dsimp only; rw [if_pos ⟨by omega, by omega⟩])⟩, (show 1 - 1 < 1 - 0 by decide), .cons rfl (.cons rfl (.cons rfl .nil)), a_g, fun _ h => h⟩
      ·have h13n := r_f h13
       refine c_seq ?_
       refine c_region ?_
       refine RL ?_
       refine RLv call_60 (fun w hw => lower_fn c w) ?_
       refine RL ?_
       refine RLb (fun h15 => ?_) (fun h15 => ?_)
       ·have h15n := r_f h15
        refine RL ?_
        refine RLv call_60 (fun w hw => lower_fn c w) ?_
        iterate 3 refine RL ?_
        refine l_nil ?_
        refine c_cond rfl (fun h16 => ?_) (fun h16 => ?_)
        ·have h16n := r_f h16
         refine c_region ?_
         refine RL ?_
         refine RLv call_60 (fun w hw => lower_fn c w) ?_
         refine l_as (l_sub rfl rfl) rfl rfl (by first | exact as_u8 o_m o_m | exact as_u8m _) ?_
         refine l_as (l_add rfl rfl) rfl rfl (by first | exact as_u8 o_m o_m | exact as_u8m _) ?_
         refine RL ?_
         refine l_nil ?_
         refine c_seq ?_
         refine c_seq ?_
         refine c_region ?_
         refine RL ?_
         refine RL ?_
         refine l_as (v := (.int .u8 10)) rfl rfl rfl rfl ?_
         refine RL ?_
         refine l_nil ?_
         refine c_cond rfl (fun h17 => ?_) (fun h17 => ?_)
         ·have h17n := r_f h17
          refine c_seq ?_
          refine c_region ?_
          iterate 3 refine RL ?_
          refine l_nil ?_
          refine c_ret ?_
          have h9 : (digP 10 c).1 = false := by
           unfold digP; dsimp only; split
           ·exfalso; omega
           ·split
            ·exact decide_eq_false o_m
            ·rfl
          rw [dig_none (by decide) h9]
          exact l_end0 (fun _ _ => rets_two rfl rfl) ⟨rfl, rfl⟩
         ·have h17n := r_f h17
          refine c_skip ?_
          refine c_seq ?_
          refine c_seq ?_
          refine c_region ?_
          refine RL ?_
          refine RL ?_
          refine l_sure false rfl rfl rfl (by decide) ?_
          refine l_nil ?_
          refine c_false rfl ?_
          refine c_skip ?_
          refine c_seq ?_
          refine c_region ?_
          refine RL ?_
          refine RL ?_
          refine l_as (v := (.int .u64 10)) rfl rfl rfl rfl ?_
          refine l_as (v := (.int .u64 0)) (l_mul rfl rfl) rfl rfl rfl ?_
          refine RL ?_
          refine l_nil ?_
          refine c_seq ?_
          refine c_region ?_
          refine RL ?_
          refine RL ?_
          refine l_as (l_conv rfl rfl rfl) rfl rfl (by first | exact as_u64 o_m o_m | exact as_u64m _) ?_
          refine l_as (v := (.int .u64 (lowB c - 97 + 10))) rfl rfl rfl ((as_u64 o_m o_m).trans (congrArg _ o_m)) ?_
          refine RL ?_
          refine l_nil ?_
          refine c_seq ?_
          refine c_seq ?_
          refine c_region ?_
          refine RL ?_
          refine RL ?_
          refine l_sure false rfl rfl rfl (decide_eq_false o_m) ?_
          iterate 3 refine RL ?_
          refine l_sure false rfl rfl rfl (decide_eq_false o_m) ?_
          refine RL ?_
          refine l_nil ?_
          refine c_false rfl ?_
          refine c_skip ?_
          refine c_region ?_
          refine RL ?_
          refine RL ?_
          refine l_nil ?_
          refine c_region ?_
          refine l_as (v := (.int .i64 ((1 : Nat) : Int))) rfl rfl rfl rfl ?_
          refine RL ?_
          refine l_nil ?_
          exact ⟨(1, (lowB c - 97 + 10)), .inr ⟨rfl, (show digP 10 c = (true, (lowB c - 97 + 10)) by unfold digP; dsimp only; rw [if_neg o_m, if_pos ⟨by omega, by omega⟩]; rw [decide_eq_true o_m])⟩, (show 1 - 1 < 1 - 0 by decide), .cons rfl (.cons rfl (.cons rfl .nil)), a_g, fun _ h => h⟩
        ·have h16n := r_f h16
         refine c_seq ?_
         refine c_region ?_
         iterate 3 refine RL ?_
         refine l_nil ?_
         refine c_ret ?_
         have h9 : (digP 10 c).1 = false := by
          unfold digP; dsimp only; split
          ·exfalso; omega
          ·split
           ·exact decide_eq_false o_m
           ·rfl
         rw [dig_none (by decide) h9]
         exact l_end0 (fun _ _ => rets_two rfl rfl) ⟨rfl, rfl⟩
       ·have h15n := r_f h15
        iterate 3 refine RLp ?_
        refine RL ?_
        refine RL ?_
        refine l_nil ?_
        refine c_false rfl ?_
        refine c_seq ?_
        refine c_region ?_
        iterate 3 refine RL ?_
        refine l_nil ?_
        refine c_ret ?_
        have h9 : (digP 10 c).1 = false := by
         unfold digP; dsimp only; split
         ·exfalso; omega
         ·split
          ·exact decide_eq_false o_m
          ·rfl
        rw [dig_none (by decide) h9]
        exact l_end0 (fun _ _ => rets_two rfl rfl) ⟨rfl, rfl⟩
     ·have h12n := r_f h12
      refine RLp ?_
      refine RLp ?_
      refine RL ?_
      refine RL ?_
      refine l_nil ?_
      refine c_false rfl ?_
      refine c_seq ?_
      refine c_region ?_
      refine RL ?_
      refine RLv call_60 (fun w hw => lower_fn c w) ?_
      refine RL ?_
      refine RLb (fun h18 => ?_) (fun h18 => ?_)
      ·have h18n := r_f h18
       refine RL ?_
       refine RLv call_60 (fun w hw => lower_fn c w) ?_
       iterate 3 refine RL ?_
       refine l_nil ?_
       refine c_cond rfl (fun h19 => ?_) (fun h19 => ?_)
       ·have h19n := r_f h19
        refine c_region ?_
        refine RL ?_
        refine RLv call_60 (fun w hw => lower_fn c w) ?_
        refine l_as (l_sub rfl rfl) rfl rfl (by first | exact as_u8 o_m o_m | exact as_u8m _) ?_
        refine l_as (l_add rfl rfl) rfl rfl (by first | exact as_u8 o_m o_m | exact as_u8m _) ?_
        refine RL ?_
        refine l_nil ?_
        refine c_seq ?_
        refine c_seq ?_
        refine c_region ?_
        refine RL ?_
        refine RL ?_
        refine l_as (v := (.int .u8 10)) rfl rfl rfl rfl ?_
        refine RL ?_
        refine l_nil ?_
        refine c_cond rfl (fun h20 => ?_) (fun h20 => ?_)
        ·have h20n := r_f h20
         refine c_seq ?_
         refine c_region ?_
         iterate 3 refine RL ?_
         refine l_nil ?_
         refine c_ret ?_
         have h9 : (digP 10 c).1 = false := by
          unfold digP; dsimp only; split
          ·exfalso; omega
          ·split
           ·exact decide_eq_false o_m
           ·rfl
         rw [dig_none (by decide) h9]
         exact l_end0 (fun _ _ => rets_two rfl rfl) ⟨rfl, rfl⟩
        ·have h20n := r_f h20
         refine c_skip ?_
         refine c_seq ?_
         refine c_seq ?_
         refine c_region ?_
         refine RL ?_
         refine RL ?_
         refine l_sure false rfl rfl rfl (by decide) ?_
         refine l_nil ?_
         refine c_false rfl ?_
         refine c_skip ?_
         refine c_seq ?_
         refine c_region ?_
         refine RL ?_
         refine RL ?_
         refine l_as (v := (.int .u64 10)) rfl rfl rfl rfl ?_
         refine l_as (v := (.int .u64 0)) (l_mul rfl rfl) rfl rfl rfl ?_
         refine RL ?_
         refine l_nil ?_
         refine c_seq ?_
         refine c_region ?_
         refine RL ?_
         refine RL ?_
         refine l_as (l_conv rfl rfl rfl) rfl rfl (by first | exact as_u64 o_m o_m | exact as_u64m _) ?_
         refine l_as (v := (.int .u64 (lowB c - 97 + 10))) rfl rfl rfl ((as_u64 o_m o_m).trans (congrArg _ o_m)) ?_
         refine RL ?_
         refine l_nil ?_
         refine c_seq ?_
         refine c_seq ?_
         refine c_region ?_
         refine RL ?_
         refine RL ?_
         refine l_sure false rfl rfl rfl (decide_eq_false o_m) ?_
         iterate 3 refine RL ?_
         refine l_sure false rfl rfl rfl (decide_eq_false o_m) ?_
         refine RL ?_
         refine l_nil ?_
         refine c_false rfl ?_
         refine c_skip ?_
         refine c_region ?_
         refine RL ?_
         refine RL ?_
         refine l_nil ?_
         refine c_region ?_
         refine l_as (v := (.int .i64 ((1 : Nat) : Int))) rfl rfl rfl rfl ?_
         refine RL ?_
         refine l_nil ?_
         exact ⟨(1, (lowB c - 97 + 10)), .inr ⟨rfl, (show digP 10 c = (true, (lowB c - 97 + 10)) by unfold digP; dsimp only; rw [if_neg o_m, if_pos ⟨by omega, by omega⟩]; rw [decide_eq_true o_m])⟩, (show 1 - 1 < 1 - 0 by decide), .cons rfl (.cons rfl (.cons rfl .nil)), a_g, fun _ h => h⟩
       ·have h19n := r_f h19
        refine c_seq ?_
        refine c_region ?_
        iterate 3 refine RL ?_
        refine l_nil ?_
        refine c_ret ?_
        have h9 : (digP 10 c).1 = false := by
         unfold digP; dsimp only; split
         ·exfalso; omega
         ·split
          ·exact decide_eq_false o_m
          ·rfl
        rw [dig_none (by decide) h9]
        exact l_end0 (fun _ _ => rets_two rfl rfl) ⟨rfl, rfl⟩
      ·have h18n := r_f h18
       iterate 3 refine RLp ?_
       refine RL ?_
       refine RL ?_
       refine l_nil ?_
       refine c_false rfl ?_
       refine c_seq ?_
       refine c_region ?_
       iterate 3 refine RL ?_
       refine l_nil ?_
       refine c_ret ?_
       have h9 : (digP 10 c).1 = false := by
        unfold digP; dsimp only; split
        ·exfalso; omega
        ·split
         ·exact decide_eq_false o_m
         ·rfl
       rw [dig_none (by decide) h9]
       exact l_end0 (fun _ _ => rets_two rfl rfl) ⟨rfl, rfl⟩
   ·have h1n := r_f h1
    refine c_exit rfl ?_
    refine c_seq ?_
    refine c_seq ?_
    refine c_region ?_
    refine l_sure false rfl rfl rfl rfl ?_
    refine RL ?_
    iterate 3 refine RLp ?_
    refine RL ?_
    refine l_nil ?_
    refine c_false rfl ?_
    refine c_skip ?_
    refine c_seq ?_
    refine c_region ?_
    iterate 3 refine RL ?_
    refine l_nil ?_
    refine c_ret ?_
    obtain ⟨d, hd, rfl⟩ := dig_some (base := 10) (by decide) (show digP 10 c = (true, v) from (hi.resolve_left (by rintro ⟨rfl, rfl⟩; exact h1n (by simp))).2)
    rw [hd]
    exact l_end0 (fun _ _ => rets_two rfl rfl) ⟨rfl, rfl⟩
 ·refine c_region ?_
  refine RL ?_
  refine l_sure false (light_eqstr rfl rfl) rfl rfl rfl ?_
  refine l_nil ?_
  refine c_false rfl ?_
  refine c_skip ?_
  refine c_seq ?_
  refine c_region ?_
  refine RL ?_
  refine l_sure false rfl rfl rfl (by decide) ?_
  refine RL ?_
  refine l_nil ?_
  refine c_seq ?_
  refine c_region ?_
  refine RL ?_
  refine RL ?_
  refine l_nil ?_
  refine c_seq ?_
  refine c_block ?_
  refine c_seq ?_
  refine c_region ?_
  refine RL ?_
  refine l_sure true rfl rfl rfl (by decide) ?_
  refine RL ?_
  refine RL ?_
  refine l_sure true rfl rfl rfl (by decide) ?_
  refine RL ?_
  refine RL ?_
  refine l_nil ?_
  refine c_true rfl ?_
  refine c_skip ?_
  refine c_seq ?_
  refine c_seq ?_
  refine c_region ?_
  refine RL ?_
  refine l_sure false rfl rfl rfl (by decide) ?_
  refine l_nil ?_
  refine c_false rfl ?_
  refine c_seq ?_
  refine c_region ?_
  refine RL ?_
  refine l_sure false rfl rfl rfl (by decide) ?_
  refine RL ?_
  refine RL ?_
  refine l_sure false rfl rfl rfl (by decide) ?_
  refine RL ?_
  refine l_nil ?_
  refine c_false rfl ?_
  refine c_skip ?_
  refine c_seq ?_
  refine c_region ?_
  refine RL ?_
  refine l_nil ?_
  refine c_seq ?_
  refine c_seq ?_
  refine c_region ?_
  refine RL ?_
  refine l_nil ?_
  refine c_block ?_
  refine c_seq ?_
  refine c_region ?_
  refine l_sure false rfl rfl rfl (by decide) ?_
  refine RL ?_
  refine l_nil ?_
  refine c_false rfl ?_
  refine c_seq ?_
  refine c_region ?_
  refine l_sure true rfl rfl rfl (by decide) ?_
  refine RL ?_
  refine l_nil ?_
  refine c_true rfl ?_
  refine c_region ?_
  refine RL ?_
  refine l_nil ?_
  refine c_seq ?_
  refine c_region ?_
  refine RL ?_
  refine l_as (v := (.int .u64 8)) rfl rfl rfl rfl ?_
  refine l_as (v := (.int .u64 256)) (shl_pos rfl rfl (by decide)) rfl rfl rfl ?_
  refine l_as (v := (.int .u64 255)) rfl rfl rfl rfl ?_
  refine RL ?_
  refine l_nil ?_
  refine c_seq ?_
  refine c_region ?_
  refine RL ?_
  refine l_nil ?_
  refine c_seq ?_
  refine c_region ?_
  refine RL ?_
  refine l_nil ?_
  refine c_seq ?_
  refine c_seq ?_
  refine c_region ?_
  refine RL ?_
  refine l_x (x_byt (a := [c]) (el := 5) rfl rfl rfl rfl) rfl rfl ?_
  rintro _ _ ⟨b99, c99, sp99, fr99, rfl, rfl⟩
  refine l_l l_n rfl rfl ?_
  refine RL ?_
  refine l_nil ?_
  refine c_block ?_
  refine c_loopk (σ := Nat × Int) [6, 7, 12, 13, 15, 16, 17, 101, 102, 103, 104, 105, 106, 107, 108, 109, 110, 111, 112, 113, 114, 115, 116, 117, 118, 119, 120, 121, 122, 123, 124, 125, 126, 127, 128, 129, 130, 131, 132, 133, 134, 135, 136, 137, 138, 139, 140, 141, 142, 143, 144, 145, 146, 147, 148, 149, 150, 151, 152, 153, 154, 155, 156, 157, 158, 159, 160, 161, 162, 163] (fun q => [(12, .bool false), (13, .int .u64 q.2), (101, .int .i64 q.1)]) (fun q => q.1 = 0 ∧ q.2 = 0 ∨ q.1 = 1 ∧ digP 16 c = (true, q.2)) (fun q => 1 - q.1) (0, 0) ?_ ?_ ?_
  ·exact .inl ⟨rfl, rfl⟩
  ·exact .cons rfl (.cons rfl (.cons rfl .nil))
  ·rintro ⟨i, v⟩ y36 hi
   dsimp only at hi ⊢
   refine c_seq ?_
   refine c_region ?_
   refine RL ?_
   refine l_nil ?_
   refine c_seq ?_
   refine c_cond rfl (fun h21 => ?_) (fun h21 => ?_)
   ·have h21n := r_f h21
    refine c_skip ?_
    refine c_seq ?_
    refine c_block ?_
    refine c_seq ?_
    obtain ⟨rfl, rfl⟩ : i = 0 ∧ v = 0 := hi.resolve_right (by rintro ⟨rfl, -⟩; simp at h21n)
    refine c_region ?_
    refine l_l (idx_slice1 0 rfl rfl rfl rfl (by simp)) rfl rfl ?_
    refine l_x (x_load rfl rfl (at_own (v := .int .u8 c.toNat) m_m (by rfl))) rfl rfl ?_
    rintro _ _ ⟨rfl, rfl⟩
    refine RL ?_
    refine l_nil ?_
    refine c_seq ?_
    refine c_region ?_
    refine RL ?_
    refine l_nil ?_
    refine c_seq ?_
    refine c_block ?_
    refine c_seq ?_
    refine c_region ?_
    refine RL ?_
    refine RL ?_
    refine RLb (fun h22 => ?_) (fun h22 => ?_)
    ·have h22n := r_f h22
     iterate 3 refine RL ?_
     refine l_nil ?_
     refine c_false rfl ?_
     refine c_seq ?_
     refine c_region ?_
     refine RL ?_
     refine RL ?_
     refine RLb (fun h23 => ?_) (fun h23 => ?_)
     ·have h23n := r_f h23
      iterate 4 refine RL ?_
      refine l_nil ?_
      refine c_cond rfl (fun h24 => ?_) (fun h24 => ?_)
      ·have h24n := r_f h24
       refine c_region ?_
       refine RL ?_
       refine l_as (l_sub rfl rfl) rfl rfl (by first | exact as_u8 o_m o_m | exact as_u8m _) ?_
       refine RL ?_
       refine l_nil ?_
       refine c_seq ?_
       refine c_seq ?_
       refine c_region ?_
       refine RL ?_
       refine RL ?_
       refine l_as (v := (.int .u8 16)) rfl rfl rfl rfl ?_
       refine RL ?_
       refine l_nil ?_
       refine c_cond rfl (fun h25 => ?_) (fun h25 => ?_)
       ·have h25n := r_f h25
        refine c_seq ?_
        refine c_region ?_
        iterate 3 refine RL ?_
        refine l_nil ?_
        refine c_ret ?_
        have h9 : (digP 16 c).1 = false := by
         unfold digP; dsimp only; split
         ·exfalso; omega
         ·split
          ·exact decide_eq_false o_m
          ·rfl
        rw [dig_none (by decide) h9]
        exact l_end0 (fun _ _ => rets_two rfl rfl) ⟨rfl, rfl⟩
       ·have h25n := r_f h25
        refine c_skip ?_
        refine c_seq ?_
        refine c_seq ?_
        refine c_region ?_
        refine RL ?_
        refine RL ?_
        refine l_sure false rfl rfl rfl (by decide) ?_
        refine l_nil ?_
        refine c_false rfl ?_
        refine c_skip ?_
        refine c_seq ?_
        refine c_region ?_
        refine RL ?_
        refine RL ?_
        refine l_as (v := (.int .u64 16)) rfl rfl rfl rfl ?_
        refine l_as (v := (.int .u64 0)) (l_mul rfl rfl) rfl rfl rfl ?_
        refine RL ?_
        refine l_nil ?_
        refine c_seq ?_
        refine c_region ?_
        refine RL ?_
        refine RL ?_
        refine l_as (l_conv rfl rfl rfl) rfl rfl (by first | exact as_u64 o_m o_m | exact as_u64m _) ?_
        refine l_as (v := (.int .u64 ((c.toNat : Int) - 48))) rfl rfl rfl ((as_u64 o_m o_m).trans (congrArg _ o_m)) ?_
        refine RL ?_
        refine l_nil ?_
        refine c_seq ?_
        refine c_seq ?_
        refine c_region ?_
        refine RL ?_
        refine RL ?_
        refine l_sure false rfl rfl rfl (decide_eq_false o_m) ?_
        iterate 3 refine RL ?_
        refine l_sure false rfl rfl rfl (decide_eq_false o_m) ?_
        refine RL ?_
        refine l_nil ?_
        refine c_false rfl ?_
        refine c_skip ?_
        refine c_region ?_
        refine RL ?_
        refine RL ?_
        refine l_nil ?_
        refine c_region ?_
        refine l_as (v := (.int .i64 ((1 : Nat) : Int))) rfl rfl rfl rfl ?_
        refine RL ?_
        refine l_nil ?_
        exact ⟨(1, ((c.toNat : Int) - 48)), .inr ⟨rfl, (show digP 16 c = (true, ((c.toNat : Int) - 48)) by unfold digP; dsimp only; rw [if_pos ⟨by omega, by omega⟩])⟩, (show 1 - 1 < 1 - 0 by decide), .cons rfl (.cons rfl (.cons rfl .nil)), a_g, fun _ h => h⟩
      ·have h24n := r_f h24
       refine c_seq ?_
       refine c_region ?_
       refine RL ?_
       refine RLv call_60 (fun w hw => lower_fn c w) ?_
       refine RL ?_
       refine RLb (fun h26 => ?_) (fun h26 => ?_)
       ·have h26n := r_f h26
        refine RL ?_
        refine RLv call_60 (fun w hw => lower_fn c w) ?_
        iterate 3 refine RL ?_
        refine l_nil ?_
        refine c_cond rfl (fun h27 => ?_) (fun h27 => ?_)
        ·have h27n := r_f h27
         refine c_region ?_
         refine RL ?_
         refine RLv call_60 (fun w hw => lower_fn c w) ?_
         refine l_as (l_sub rfl rfl) rfl rfl (by first | exact as_u8 o_m o_m | exact as_u8m _) ?_
         refine l_as (l_add rfl rfl) rfl rfl (by first | exact as_u8 o_m o_m | exact as_u8m _) ?_
         refine RL ?_
         refine l_nil ?_
         refine c_seq ?_
         refine c_seq ?_
         refine c_region ?_
         refine RL ?_
         refine RL ?_
         refine l_as (v := (.int .u8 16)) rfl rfl rfl rfl ?_
         refine RL ?_
         refine l_nil ?_
         refine c_cond rfl (fun h28 => ?_) (fun h28 => ?_)
         ·have h28n := r_f h28
          refine c_seq ?_
          refine c_region ?_
          iterate 3 refine RL ?_
          refine l_nil ?_
          refine c_ret ?_
          have h9 : (digP 16 c).1 = false := by
           unfold digP; dsimp only; split
           ·exfalso; omega
           ·split
            ·exact decide_eq_false o_m
            ·rfl
          rw [dig_none (by decide) h9]
          exact l_end0 (fun _ _ => rets_two rfl rfl) ⟨rfl, rfl⟩
         ·have h28n := r_f h28
          refine c_skip ?_
          refine c_seq ?_
          refine c_seq ?_
          refine c_region ?_
          refine RL ?_
          refine RL ?_
          refine l_sure false rfl rfl rfl (by decide) ?_
          refine l_nil ?_
          refine c_false rfl ?_
          refine c_skip ?_
          refine c_seq ?_
          refine c_region ?_
          refine RL ?_
          refine RL ?_
          refine l_as (v := (.int .u64 16)) rfl rfl rfl rfl ?_
          refine l_as (v := (.int .u64 0)) (l_mul rfl rfl) rfl rfl rfl ?_
          refine RL ?_
          refine l_nil ?_
          refine c_seq ?_
          refine c_region ?_
          refine RL ?_
          refine RL ?_
          refine l_as (l_conv rfl rfl rfl) rfl rfl (by first | exact as_u64 o_m o_m | exact as_u64m _) ?_
          refine l_as (v := (.int .u64 (lowB c - 97 + 10))) rfl rfl rfl ((as_u64 o_m o_m).trans (congrArg _ o_m)) ?_
          refine RL ?_
          refine l_nil ?_
          refine c_seq ?_
          refine c_seq ?_
          refine c_region ?_
          refine RL ?_
          refine RL ?_
          refine l_sure false rfl rfl rfl (decide_eq_false o_m) ?_
          iterate 3 refine RL ?_
          refine l_sure false rfl rfl rfl (decide_eq_false o_m) ?_
          refine RL ?_
          refine l_nil ?_
          refine c_false rfl ?_
          refine c_skip ?_
          refine c_region ?_
          refine RL ?_
          refine RL ?_
          refine l_nil ?_
          refine c_region ?_
          refine l_as (v := (.int .i64 ((1 : Nat) : Int))) rfl rfl rfl rfl ?_
          refine RL ?_
          refine l_nil ?_
          exact ⟨(1, (lowB c - 97 + 10)), .inr ⟨rfl, (show digP 16 c = (true, (lowB c - 97 + 10)) by unfold digP; dsimp only; rw [if_neg o_m, if_pos ⟨by omega, by omega⟩]; rw [decide_eq_true o_m])⟩, (show 1 - 1 < 1 - 0 by decide), .cons rfl (.cons rfl (.cons rfl .nil)), a_g, fun _ h => h⟩
        ·have h27n := r_f h27
         refine c_seq ?_
         refine c_region ?_
         iterate 3 refine RL ?_
         refine l_nil ?_
         refine c_ret ?_
         have h9 : (digP 16 c).1 = false := by
          unfold digP; dsimp only; split
          ·exfalso; omega
          ·split
           ·exact decide_eq_false o_m
           ·rfl
         rw [dig_none (by decide) h9]
         exact l_end0 (fun _ _ => rets_two rfl rfl) ⟨rfl, rfl⟩
       ·have h26n := r_f h26
        iterate 3 refine RLp ?_
        refine RL ?_
        refine RL ?_
        refine l_nil ?_
        refine c_false rfl ?_
        refine c_seq ?_
        refine c_region ?_
        iterate 3 refine RL ?_
        refine l_nil ?_
        refine c_ret ?_
        have h9 : (digP 16 c).1 = false := by
         unfold digP; dsimp only; split
         ·exfalso; omega
         ·split
          ·exact decide_eq_false o_m
          ·rfl
        rw [dig_none (by decide) h9]
        exact l_end0 (fun _ _ => rets_two rfl rfl) ⟨rfl, rfl⟩
     ·have h23n := r_f h23
      refine RLp ?_
      refine RLp ?_
      refine RL ?_
      refine RL ?_
      refine l_nil ?_
      refine c_false rfl ?_
      refine c_seq ?_
      refine c_region ?_
      refine RL ?_
      refine RLv call_60 (fun w hw => lower_fn c w) ?_
      refine RL ?_
      refine RLb (fun h29 => ?_) (fun h29 => ?_)
      ·have h29n := r_f h29
       refine RL ?_
       refine RLv call_60 (fun w hw => lower_fn c w) ?_
       iterate 3 refine RL ?_
       refine l_nil ?_
       refine c_cond rfl (fun h30 => ?_) (fun h30 => ?_)
       ·have h30n := r_f h30
        refine c_region ?_
        refine RL ?_
        refine RLv call_60 (fun w hw => lower_fn c w) ?_
        refine l_as (l_sub rfl rfl) rfl rfl (by first | exact as_u8 o_m o_m | exact as_u8m _) ?_
        refine l_as (l_add rfl rfl) rfl rfl (by first | exact as_u8 o_m o_m | exact as_u8m _) ?_
        refine RL ?_
        refine l_nil ?_
        refine c_seq ?_
        refine c_seq ?_
        refine c_region ?_
        refine RL ?_
        refine RL ?_
        refine l_as (v := (.int .u8 16)) rfl rfl rfl rfl ?_
        refine RL ?_
        refine l_nil ?_
        refine c_cond rfl (fun h31 => ?_) (fun h31 => ?_)
        ·have h31n := r_f h31
         refine c_seq ?_
         refine c_region ?_
         iterate 3 refine RL ?_
         refine l_nil ?_
         refine c_ret ?_
         have h9 : (digP 16 c).1 = false := by
          unfold digP; dsimp only; split
          ·exfalso; omega
          ·split
           ·exact decide_eq_false o_m
           ·rfl
         rw [dig_none (by decide) h9]
         exact l_end0 (fun _ _ => rets_two rfl rfl) ⟨rfl, rfl⟩
        ·have h31n := r_f h31
         refine c_skip ?_
         refine c_seq ?_
         refine c_seq ?_
         refine c_region ?_
         refine RL ?_
         refine RL ?_
         refine l_sure false rfl rfl rfl (by decide) ?_
         refine l_nil ?_
         refine c_false rfl ?_
         refine c_skip ?_
         refine c_seq ?_
         refine c_region ?_
         refine RL ?_
         refine RL ?_
         refine l_as (v := (.int .u64 16)) rfl rfl rfl rfl ?_
         refine l_as (v := (.int .u64 0)) (l_mul rfl rfl) rfl rfl rfl ?_
         refine RL ?_
         refine l_nil ?_
         refine c_seq ?_
         refine c_region ?_
         refine RL ?_
         refine RL ?_
         refine l_as (l_conv rfl rfl rfl) rfl rfl (by first | exact as_u64 o_m o_m | exact as_u64m _) ?_
         refine l_as (v := (.int .u64 (lowB c - 97 + 10))) rfl rfl rfl ((as_u64 o_m o_m).trans (congrArg _ o_m)) ?_
         refine RL ?_
         refine l_nil ?_
         refine c_seq ?_
         refine c_seq ?_
         refine c_region ?_
         refine RL ?_
         refine RL ?_
         refine l_sure false rfl rfl rfl (decide_eq_false o_m) ?_
         iterate 3 refine RL ?_
         refine l_sure false rfl rfl rfl (decide_eq_false o_m) ?_
         refine RL ?_
         refine l_nil ?_
         refine c_false rfl ?_
         refine c_skip ?_
         refine c_region ?_
         refine RL ?_
         refine RL ?_
         refine l_nil ?_
         refine c_region ?_
         refine l_as (v := (.int .i64 ((1 : Nat) : Int))) rfl rfl rfl rfl ?_
         refine RL ?_
         refine l_nil ?_
         exact ⟨(1, (lowB c - 97 + 10)), .inr ⟨rfl, (show digP 16 c = (true, (lowB c - 97 + 10)) by unfold digP; dsimp only; rw [if_neg o_m, if_pos ⟨by omega, by omega⟩]; rw [decide_eq_true o_m])⟩, (show 1 - 1 < 1 - 0 by decide), .cons rfl (.cons rfl (.cons rfl .nil)), a_g, fun _ h => h⟩
       ·have h30n := r_f h30
        refine c_seq ?_
        refine c_region ?_
        iterate 3 refine RL ?_
        refine l_nil ?_
        refine c_ret ?_
        have h9 : (digP 16 c).1 = false := by
         unfold digP; dsimp only; split
         ·exfalso; omega
         ·split
          ·exact decide_eq_false o_m
          ·rfl
        rw [dig_none (by decide) h9]
        exact l_end0 (fun _ _ => rets_two rfl rfl) ⟨rfl, rfl⟩
      ·have h29n := r_f h29
       iterate 3 refine RLp ?_
       refine RL ?_
       refine RL ?_
       refine l_nil ?_
       refine c_false rfl ?_
       refine c_seq ?_
       refine c_region ?_
       iterate 3 refine RL ?_
       refine l_nil ?_
       refine c_ret ?_
       have h9 : (digP 16 c).1 = false := by
        unfold digP; dsimp only; split
        ·exfalso; omega
        ·split
         ·exact decide_eq_false o_m
         ·rfl
       rw [dig_none (by decide) h9]
       exact l_end0 (fun _ _ => rets_two rfl rfl) ⟨rfl, rfl⟩
    ·have h22n := r_f h22
     refine RLp ?_
     refine RL ?_
     refine RL ?_
     refine l_nil ?_
     refine c_false rfl ?_
     refine c_seq ?_
     refine c_region ?_
     refine RL ?_
     refine RL ?_
     refine RLb (fun h32 => ?_) (fun h32 => ?_)
     ·have h32n := r_f h32
      iterate 4 refine RL ?_
      refine l_nil ?_
      refine c_cond rfl (fun h33 => ?_) (fun h33 => ?_)
      ·have h33n := r_f h33
       refine c_region ?_
       refine RL ?_
       refine l_as (l_sub rfl rfl) rfl rfl (by first | exact as_u8 o_m o_m | exact as_u8m _) ?_
       refine RL ?_
       refine l_nil ?_
       refine c_seq ?_
       refine c_seq ?_
       refine c_region ?_
       refine RL ?_
       refine RL ?_
       refine l_as (v := (.int .u8 16)) rfl rfl rfl rfl ?_
       refine RL ?_
       refine l_nil ?_
       refine c_cond rfl (fun h34 => ?_) (fun h34 => ?_)
       ·have h34n := r_f h34
        refine c_seq ?_
        refine c_region ?_
        iterate 3 refine RL ?_
        refine l_nil ?_
        refine c_ret ?_
        have h9 : (digP 16 c).1 = false := by
         unfold digP; dsimp only; split
         ·exfalso; omega
         ·split
          ·exact decide_eq_false o_m
          ·rfl
        rw [dig_none (by decide) h9]
        exact l_end0 (fun _ _ => rets_two rfl rfl) ⟨rfl, rfl⟩
       ·have h34n := r_f h34
        refine c_skip ?_
        refine c_seq ?_
        refine c_seq ?_
        refine c_region ?_
        refine RL ?_
        refine RL ?_
        refine l_sure false rfl rfl rfl (by decide) ?_
        refine l_nil ?_
        refine c_false rfl ?_
        refine c_skip ?_
        refine c_seq ?_
        refine c_region ?_
        refine RL ?_
        refine RL ?_
        refine l_as (v := (.int .u64 16)) rfl rfl rfl rfl ?_
        refine l_as (v := (.int .u64 0)) (l_mul rfl rfl) rfl rfl rfl ?_
        refine RL ?_
        refine l_nil ?_
        refine c_seq ?_
        refine c_region ?_
        refine RL ?_
        refine RL ?_
        refine l_as (l_conv rfl rfl rfl) rfl rfl (by first | exact as_u64 o_m o_m | exact as_u64m _) ?_
        refine l_as (v := (.int .u64 ((c.toNat : Int) - 48))) rfl rfl rfl ((as_u64 o_m o_m).trans (congrArg _ o_m)) ?_
        refine RL ?_
        refine l_nil ?_
        refine c_seq ?_
        refine c_seq ?_
        refine c_region ?_
        refine RL ?_
        refine RL ?_
        refine l_sure false rfl rfl rfl (decide_eq_false o_m) ?_
        iterate 3 refine RL ?_
        refine l_sure false rfl rfl rfl (decide_eq_false o_m) ?_
        refine RL ?_
        refine l_nil ?_
        refine c_false rfl ?_
        refine c_skip ?_
        refine c_region ?_
        refine RL ?_
        refine RL ?_
        refine l_nil ?_
        refine c_region ?_
        refine l_as (v := (.int .i64 ((1 : Nat) : Int))) rfl rfl rfl rfl ?_
        refine RL ?_
        refine l_nil ?_
        exact ⟨(1, ((c.toNat : Int) - 48)), .inr ⟨rfl, (show digP 16 c = (true, ((c.toNat : Int) - 48)) by unfold digP; dsimp only; rw [if_pos ⟨by omega, by omega⟩])⟩, (show 1 - 1 < 1 - 0 by decide), .cons rfl (.cons rfl (.cons rfl .nil)), a_g, fun _ h => h⟩
      ·have h33n := r_f h33
       refine c_seq ?_
       refine c_region ?_
       refine RL ?_
       refine RLv call_60 (fun w hw => lower_fn c w) ?_
       refine RL ?_
       refine RLb (fun h35 => ?_) (fun h35 => ?_)
       ·have h35n := r_f h35
        refine RL ?_
        refine RLv call_60 (fun w hw => lower_fn c w) ?_
        iterate 3 refine RL ?_
        refine l_nil ?_
        refine c_cond rfl (fun h36 => ?_) (fun h36 => ?_)
        ·have h36n := r_f h36
         refine c_region ?_
         refine RL ?_
         refine RLv call_60 (fun w hw => lower_fn c w) ?_
         refine l_as (l_sub rfl rfl) rfl rfl (by first | exact as_u8 o_m o_m | exact as_u8m _) ?_
         refine l_as (l_add rfl rfl) rfl rfl (by first | exact as_u8 o_m o_m | exact as_u8m _) ?_
         refine RL ?_
         refine l_nil ?_
         refine c_seq ?_
         refine c_seq ?_
         refine c_region ?_
         refine RL ?_
         refine RL ?_
         refine l_as (v := (.int .u8 16)) rfl rfl rfl rfl ?_
         refine RL ?_
         refine l_nil ?_
         refine c_cond rfl (fun h37 => ?_) (fun h37 => ?_)
         ·have h37n := r_f h37
          refine c_seq ?_
          refine c_region ?_
          iterate 3 refine RL ?_
          refine l_nil ?_
          refine c_ret ?_
          have h9 : (digP 16 c).1 = false := by
           unfold digP; dsimp only; split
           ·exfalso; omega
           ·split
            ·exact decide_eq_false o_m
            ·rfl
          rw [dig_none (by decide) h9]
          exact l_end0 (fun _ _ => rets_two rfl rfl) ⟨rfl, rfl⟩
         ·have h37n := r_f h37
          refine c_skip ?_
          refine c_seq ?_
          refine c_seq ?_
          refine c_region ?_
          refine RL ?_
          refine RL ?_
          refine l_sure false rfl rfl rfl (by decide) ?_
          refine l_nil ?_
          refine c_false rfl ?_
          refine c_skip ?_
          refine c_seq ?_
          refine c_region ?_
          refine RL ?_
          refine RL ?_
          refine l_as (v := (.int .u64 16)) rfl rfl rfl rfl ?_
          refine l_as (v := (.int .u64 0)) (l_mul rfl rfl) rfl rfl rfl ?_
          refine RL ?_
          refine l_nil ?_
          refine c_seq ?_
          refine c_region ?_
          refine RL ?_
          refine RL ?_
          refine l_as (l_conv rfl rfl rfl) rfl rfl (by first | exact as_u64 o_m o_m | exact as_u64m _) ?_
          refine l_as (v := (.int .u64 (lowB c - 97 + 10))) rfl rfl rfl ((as_u64 o_m o_m).trans (congrArg _ o_m)) ?_
          refine RL ?_
          refine l_nil ?_
          refine c_seq ?_
          refine c_seq ?_
          refine c_region ?_
          refine RL ?_
          refine RL ?_
          refine l_sure false rfl rfl rfl (decide_eq_false o_m) ?_
          iterate 3 refine RL ?_
          refine l_sure false rfl rfl rfl (decide_eq_false o_m) ?_
          refine RL ?_
          refine l_nil ?_
          refine c_false rfl ?_
          refine c_skip ?_
          refine c_region ?_
          refine RL ?_
          refine RL ?_
          refine l_nil ?_
          refine c_region ?_
          refine l_as (v := (.int .i64 ((1 : Nat) : Int))) rfl rfl rfl rfl ?_
          refine RL ?_
          refine l_nil ?_
          exact ⟨(1, (lowB c - 97 + 10)), .inr ⟨rfl, (show digP 16 c = (true, (lowB c - 97 + 10)) by unfold digP; dsimp only; rw [if_neg o_m, if_pos ⟨by omega, by omega⟩]; rw [decide_eq_true o_m])⟩, (show 1 - 1 < 1 - 0 by decide), .cons rfl (.cons rfl (.cons rfl .nil)), a_g, fun _ h => h⟩
        ·have h36n := r_f h36
         refine c_seq ?_
         refine c_region ?_
         iterate 3 refine RL ?_
         refine l_nil ?_
         refine c_ret ?_
         have h9 : (digP 16 c).1 = false := by
          unfold digP; dsimp only; split
          ·exfalso; omega
          ·split
           ·exact decide_eq_false o_m
           ·rfl
         rw [dig_none (by decide) h9]
         exact l_end0 (fun _ _ => rets_two rfl rfl) ⟨rfl, rfl⟩
       ·have h35n := r_f h35
        iterate 3 refine RLp ?_
        refine RL ?_
        refine RL ?_
        refine l_nil ?_
        refine c_false rfl ?_
        refine c_seq ?_
        refine c_region ?_
        iterate 3 refine RL ?_
        refine l_nil ?_
        refine c_ret ?_
        have h9 : (digP 16 c).1 = false := by
         unfold digP; dsimp only; split
         ·exfalso; omega
         ·split
          ·exact decide_eq_false o_m
          ·rfl
        rw [dig_none (by decide) h9]
        exact l_end0 (fun _ _ => rets_two rfl rfl) ⟨rfl, rfl⟩
     ·have h32n := r_f h32
      refine RLp ?_
      refine RLp ?_
      refine RL ?_
      refine RL ?_
      refine l_nil ?_
      refine c_false rfl ?_
      refine c_seq ?_
      refine c_region ?_
      refine RL ?_
      refine RLv call_60 (fun w hw => lower_fn c w) ?_
      refine RL ?_
      refine RLb (fun h38 => ?_) (fun h38 => ?_)
      ·have h38n := r_f h38
       refine RL ?_
       refine RLv call_60 (fun w hw => lower_fn c w) ?_
       iterate 3 refine RL ?_
       refine l_nil ?_
       refine c_cond rfl (fun h39 => ?_) (fun h39 => ?_)
       ·have h39n := r_f h39
        refine c_region ?_
        refine RL ?_
        refine RLv call_60 (fun w hw => lower_fn c w) ?_
        refine l_as (l_sub rfl rfl) rfl rfl (by first | exact as_u8 o_m o_m | exact as_u8m _) ?_
        refine l_as (l_add rfl rfl) rfl rfl (by first | exact as_u8 o_m o_m | exact as_u8m _) ?_
        refine RL ?_
        refine l_nil ?_
        refine c_seq ?_
        refine c_seq ?_
        refine c_region ?_
        refine RL ?_
        refine RL ?_
        refine l_as (v := (.int .u8 16)) rfl rfl rfl rfl ?_
        refine RL ?_
        refine l_nil ?_
        refine c_cond rfl (fun h40 => ?_) (fun h40 => ?_)
        ·have h40n := r_f h40
         refine c_seq ?_
         refine c_region ?_
         iterate 3 refine RL ?_
         refine l_nil ?_
         refine c_ret ?_
         have h9 : (digP 16 c).1 = false := by
          unfold digP; dsimp only; split
          ·exfalso; omega
          ·split
           ·exact decide_eq_false o_m
           ·rfl
         rw [dig_none (by decide) h9]
         exact l_end0 (fun _ _ => rets_two rfl rfl) ⟨rfl, rfl⟩
        ·have h40n := r_f h40
         refine c_skip ?_
         refine c_seq ?_
         refine c_seq ?_
         refine c_region ?_
         refine RL ?_
         refine RL ?_
         refine l_sure false rfl rfl rfl (by decide) ?_
         refine l_nil ?_
         refine c_false rfl ?_
         refine c_skip ?_
         refine c_seq ?_
         refine c_region ?_
         refine RL ?_
         refine RL ?_
         refine l_as (v := (.int .u64 16)) rfl rfl rfl rfl ?_
         refine l_as (v := (.int .u64 0)) (l_mul rfl rfl) rfl rfl rfl ?_
         refine RL ?_
         refine l_nil ?_
         refine c_seq ?_
         refine c_region ?_
         refine RL ?_
         refine RL ?_
         refine l_as (l_conv rfl rfl rfl) rfl rfl (by first | exact as_u64 o_m o_m | exact as_u64m _) ?_
         refine l_as (v := (.int .u64 (lowB c - 97 + 10))) rfl rfl rfl ((as_u64 o_m o_m).trans (congrArg _ o_m)) ?_
         refine RL ?_
         refine l_nil ?_
         refine c_seq ?_
         refine c_seq ?_
         refine c_region ?_
         refine RL ?_
         refine RL ?_
         refine l_sure false rfl rfl rfl (decide_eq_false o_m) ?_
         iterate 3 refine RL ?_
         refine l_sure false rfl rfl rfl (decide_eq_false o_m) ?_
         refine RL ?_
         refine l_nil ?_
         refine c_false rfl ?_
         refine c_skip ?_
         refine c_region ?_
         refine RL ?_
         refine RL ?_
         refine l_nil ?_
         refine c_region ?_
         refine l_as (v := (.int .i64 ((1 : Nat) : Int))) rfl rfl rfl rfl ?_
         refine RL ?_
         refine l_nil ?_
         exact ⟨(1, (lowB c - 97 + 10)), .inr ⟨rfl, (show digP 16 c = (true, (lowB c - 97 + 10)) by unfold digP; dsimp only; rw [if_neg o_m, if_pos ⟨by omega, by omega⟩]; rw [decide_eq_true o_m])⟩, (show 1 - 1 < 1 - 0 by decide), .cons rfl (.cons rfl (.cons rfl .nil)), a_g, fun _ h => h⟩
       ·have h39n := r_f h39
        refine c_seq ?_
        refine c_region ?_
        iterate 3 refine RL ?_
        refine l_nil ?_
        refine c_ret ?_
        have h9 : (digP 16 c).1 = false := by
         unfold digP; dsimp only; split
         ·exfalso; omega
         ·split
          ·exact decide_eq_false o_m
          ·rfl
        rw [dig_none (by decide) h9]
        exact l_end0 (fun _ _ => rets_two rfl rfl) ⟨rfl, rfl⟩
      ·have h38n := r_f h38
       iterate 3 refine RLp ?_
       refine RL ?_
       refine RL ?_
       refine l_nil ?_
       refine c_false rfl ?_
       refine c_seq ?_
       refine c_region ?_
       iterate 3 refine RL ?_
       refine l_nil ?_
       refine c_ret ?_
       have h9 : (digP 16 c).1 = false := by
        unfold digP; dsimp only; split
        ·exfalso; omega
        ·split
         ·exact decide_eq_false o_m
         ·rfl
       rw [dig_none (by decide) h9]
       exact l_end0 (fun _ _ => rets_two rfl rfl) ⟨rfl, rfl⟩
   ·have h21n := r_f h21
    refine c_exit rfl ?_
    refine c_seq ?_
    refine c_seq ?_
    refine c_region ?_
    refine l_sure false rfl rfl rfl rfl ?_
    refine RL ?_
    iterate 3 refine RLp ?_
    refine RL ?_
    refine l_nil ?_
    refine c_false rfl ?_
    refine c_skip ?_
    refine c_seq ?_
    refine c_region ?_
    iterate 3 refine RL ?_
    refine l_nil ?_
    refine c_ret ?_
    obtain ⟨d, hd, rfl⟩ := dig_some (base := 16) (by decide) (show digP 16 c = (true, v) from (hi.resolve_left (by rintro ⟨rfl, rfl⟩; exact h21n (by simp))).2)
    rw [hd]
    exact l_end0 (fun _ _ => rets_two rfl rfl) ⟨rfl, rfl⟩

theorem clone_fn (c : UInt8) (w : World) : Does Tryd.prog 68 [.string (bs [c])] w [] (fun v H => v = .string (bs [c]) ∧ ∃ b o, H = [(b, o)]) := by
 refine does_of Tryd.func68 rfl rfl rfl (St.refl w) ?_
 refine c_seq ?_
 refine c_region ?_
 refine RL ?_
 refine l_nil ?_
 refine c_seq ?_
 refine c_seq ?_
 refine c_region ?_
 refine RL ?_
 refine l_l (light_lenstr rfl rfl) rfl rfl ?_
 refine l_sure false rfl rfl rfl (by simp) ?_
 refine l_nil ?_
 refine c_false rfl ?_
 refine c_skip ?_
 refine c_seq ?_
 refine c_region ?_
 refine RL ?_
 refine l_l (light_lenstr rfl rfl) rfl rfl ?_
 refine l_x (x_make (k1 := .i64) (k2 := .i64) (el := 5) (n := 1) (c := 1) (a := 1) (b := 1) (s := 1) (z := [.int .u8 0]) ?_ ?_ ?_ ?_ ?_ ?_ ?_ ?_ ?_) ?_ ?_ ?_
 iterate 4 rfl
 ·exact Nat.le_refl _
 iterate 6 rfl
 rintro _ _ ⟨b9, rfl, rfl⟩
 refine RL ?_
 refine l_nil ?_
 refine c_seq ?_
 refine c_region ?_
 refine RL ?_
 refine RL ?_
 refine l_x (x_copyS (a := [c]) 0 rfl rfl rfl rfl rfl (by simp) (Nat.le_of_ble_eq_true rfl)) rfl rfl ?_
 rintro _ _ ⟨rfl, rfl⟩
 simp only [List.set_cons_zero]
 refine l_nil ?_
 refine c_seq ?_
 refine c_region ?_
 refine RL ?_
 refine l_l (by first | exact idx_array1 0 rfl rfl rfl rfl (by decide) | exact idx_slice1 0 rfl rfl rfl rfl (by decide) | exact idx_array 0 rfl rfl rfl rfl (by decide) | exact idx_slice 0 rfl rfl rfl rfl (by decide)) rfl rfl ?_
 refine RL ?_
 refine l_l l_n rfl rfl ?_
 refine l_x (x_ustr (a := [c]) (sp := []) rfl rfl rfl rfl rfl (by simp) (by simp)) rfl rfl ?_
 rintro _ _ ⟨rfl, o17, rfl⟩
 refine RL ?_
 refine l_nil ?_
 refine c_ret ?_
 exact l_end (fun _ _ => rets_v rfl) (List.Sublist.refl _) ⟨rfl, b9, o17, rfl⟩

theorem serr_fn (a : Tx) (c : UInt8) (w : World) (hG : GlE w) : Does Tryd.prog 62 [.string (bs a), .string (bs [c])] w [] (fun v H => ∃ b, v = .pointer (some ⟨b, 0, none⟩)) := by
 obtain ⟨TE, pE, hE⟩ := hG
 refine does_of Tryd.func62 rfl rfl rfl (St.refl w) ?_
 refine c_seq ?_
 refine c_region ?_
 refine RL ?_
 refine l_nil ?_
 refine c_seq ?_
 refine c_draw _ [2] (.step true 0 (.step true 1 (.step true 3 (.step false 2 (.step true 4 (.step false 5 (.step true 6 .done))))))) rfl (by kernel_rfl) (by kernel_rfl) (fun _ h => h) ?_
 refine RD ?_
 refine RD ?_
 refine d_load rfl rfl rfl (s_old hE (by simp)) rfl rfl ?_
 refine d_x rfl (x_call call_68 rfl (fun w hw => clone_fn c w)) rfl rfl (by intro _ _ _ hK x hx; obtain ⟨G7, ⟨rfl, _, o7, rfl⟩, rfl⟩ := hK; repeat (first | exact hx | exact List.mem_append_left _ hx | refine List.mem_append_right _ ?_ | refine .tail _ ?_)) ?_
 rintro _ _ ⟨G7, ⟨rfl, b7, o7, rfl⟩, rfl⟩
 refine d_light rfl (light_struct rfl rfl rfl rfl) rfl rfl rfl ?_
 refine d_x rfl (x_box (l := [.string (bs a), .string (bs [c]), .iface TE pE]) rfl rfl) rfl rfl n_h ?_
 rintro _ _ ⟨b10, rfl, rfl⟩
 refine RD ?_
 refine d_nil ?_
 refine c_ret ?_
 exact l_end (fun _ _ => rets_v rfl) (List.Sublist.refl _) ⟨b10, rfl⟩

theorem terr_fn (a : Tx) (c : UInt8) (x y : Int) (w : World) (hG : GlE w) : Does Tryd.prog 54 [.string (bs a), .string (bs [c]), .int .i64 x, .int .i64 y, .iface 87 (.int .i64 2)] w [] (fun v H => ∃ b, v = .iface 89 (.pointer (some ⟨b, 0, none⟩))) := by
 refine does_of Tryd.func54 rfl rfl rfl (St.refl w) ?_
 refine c_seq ?_
 refine c_region ?_
 refine RL ?_
 refine l_nil ?_
 refine c_seq ?_
 refine c_seq ?_
 refine c_region ?_
 refine RL ?_
 refine l_nil ?_
 refine c_block ?_
 refine c_seq ?_
 refine c_region ?_
 refine RL ?_
 refine l_sure true rfl rfl rfl rfl ?_
 refine RL ?_
 refine l_nil ?_
 refine c_true rfl ?_
 refine c_seq ?_
 refine c_region ?_
 refine RL ?_
 refine RL ?_
 refine l_x (x_call call_62 rfl (fun w hw => serr_fn a c w (later_cell hG hw))) rfl rfl ?_
 rintro _ _ ⟨G17, ⟨b17, rfl⟩, rfl⟩
 refine RL ?_
 refine RL ?_
 refine l_nil ?_
 refine c_ret ?_
 exact l_end (fun _ _ => rets_v rfl) (List.Sublist.refl _) ⟨b17, rfl⟩

theorem pu_fn (c : UInt8) (base : Nat) (hb : base = 10 ∨ base = 16) (w : World) (hG : GlE w) : Does Tryd.prog 45 [.string (bs [c]), .int .i64 base, .int .i64 8] w [] (fun v H => match digV base c with | some d => H = [] ∧ v = .tuple #[.int .u64 (d : Int), .nilIface] | none => ∃ b, v = .tuple #[.int .u64 0, .iface 89 (.pointer (some ⟨b, 0, none⟩))]) := by
 refine does_of Tryd.func45 rfl rfl rfl (St.refl w) ?_
 refine c_seq ?_
 refine c_region ?_
 refine RL ?_
 refine RL ?_
 refine l_nil ?_
 refine c_seq ?_
 cases hd9 : digV base c
 ·refine c_region ?_
  iterate 3 refine RL ?_
  refine RLv call_53 (fun w hw => (by have h9 := pu0_fn c base hb w; rw [hd9] at h9; exact h9)) ?_
  iterate 5 refine RL ?_
  refine l_nil ?_
  refine c_seq ?_
  refine c_seq ?_
  refine c_region ?_
  refine RL ?_
  refine l_sure true rfl rfl rfl rfl ?_
  refine l_nil ?_
  refine c_true rfl ?_
  refine c_seq ?_
  refine c_region ?_
  iterate 5 refine RL ?_
  refine l_x (x_call call_54 rfl (fun w hw => terr_fn _ c base 8 w (later_cell hG hw))) rfl rfl ?_
  rintro _ _ ⟨G24, ⟨b24, rfl⟩, rfl⟩
  refine RL ?_
  refine RL ?_
  refine l_nil ?_
  refine c_ret ?_
  exact l_end (fun _ _ => rets_two rfl rfl) (List.Sublist.refl _) ⟨b24, rfl⟩
 ·refine c_region ?_
  iterate 3 refine RL ?_
  refine RLv call_53 (fun w hw => (by have h9 := pu0_fn c base hb w; rw [hd9] at h9; exact h9)) ?_
  iterate 5 refine RL ?_
  refine l_nil ?_
  refine c_seq ?_
  refine c_seq ?_
  refine c_region ?_
  refine RL ?_
  refine l_sure false rfl rfl rfl rfl ?_
  refine l_nil ?_
  refine c_false rfl ?_
  refine c_skip ?_
  refine c_seq ?_
  refine c_region ?_
  iterate 3 refine RL ?_
  refine l_nil ?_
  refine c_ret ?_
  exact l_end0 (fun _ _ => rets_two rfl rfl) ⟨rfl, rfl⟩

end Go.Proofs.YtiadmbhafplepaaDoor
