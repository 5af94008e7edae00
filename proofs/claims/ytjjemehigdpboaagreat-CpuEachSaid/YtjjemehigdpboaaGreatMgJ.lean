/- The document's bytes and pairs. -/
import Derived.Test.YtjjemehigdpboaaGreatMgA
import Derived.Test.YtjjemehigdpboaaGreatMgC
import Derived.Test.YtjjemehigdpboaaGreatMgF
import Derived.Test.YtjjemehigdpboaaGreatMgI
import Derived.Test.YtjjemehigdpboaaGreatProg
namespace Go.Proofs.YtjjemehigdpboaaGreat
open Go Go.VV

def bitI (a : Int) (n : Nat) : Int := a / 2 ^ n % 2
theorem bit_ok (a : Int) (n : Nat) : 0 ≤ bitI a n ∧ bitI a n ≤ 1 := by unfold bitI; omega
theorem bit_next (a : Int) (n : Nat) : a / 2 ^ n / 2 = a / 2 ^ (n + 1) := by
  rw [Int.ediv_ediv_of_nonneg (Int.le_of_lt (Int.pow_pos (by decide)))]; rfl
theorem half_le {a : Int} (h : 0 ≤ a ∧ a < 256) (n : Nat) : 0 ≤ a / 2 ^ n ∧ a / 2 ^ n < 256 :=
  ⟨Int.ediv_nonneg h.1 (Int.le_of_lt (Int.pow_pos (by decide))), Int.lt_of_le_of_lt (Int.ediv_le_self _ h.1) h.2⟩
def polI : List Int → Int
  | [] => 0
  | b :: l => b + 2 * polI l
def bitsL (l : List Int) : Prop := ∀ x ∈ l, 0 ≤ x ∧ x ≤ 1
theorem pol_le : ∀ {l : List Int}, bitsL l → 0 ≤ polI l ∧ polI l < 2 ^ l.length
  | [], _ => ⟨Int.le_refl 0, show (0 : Int) < 1 by decide⟩
  | b :: l, h => by
    have h1 := h b (.head _)
    have h2 := pol_le (l := l) fun x hx => h x (.tail _ hx)
    have h3 : (2 : Int) ^ (b :: l).length = 2 * 2 ^ l.length := by rw [List.length_cons, Int.pow_succ]; omega
    rw [h3]
    exact ⟨by show 0 ≤ b + 2 * polI l; omega, by show b + 2 * polI l < _; omega⟩
theorem pol_8 {l : List Int} (h : bitsL l) (hl : l.length ≤ 8) : 0 ≤ polI l ∧ polI l < 256 := by
  have h1 := pol_le h
  have e : (2 : Int) ^ l.length = ((2 ^ l.length : Nat) : Int) := by simp
  have h2 := Nat.pow_le_pow_right (n := 2) (by decide) hl
  have h3 : (2 : Nat) ^ 8 = 256 := by decide
  rw [h3] at h2
  omega
theorem pol_drop {l : List Int} {k : Nat} (hk : k < l.length) : polI (l.drop k) = l.getD k 0 + 2 * polI (l.drop (k + 1)) := by
  rw [List.drop_eq_getElem_cons hk, polI, List.getD_eq_getElem?_getD, List.getElem?_eq_getElem hk]; rfl
theorem bits_drop {l : List Int} (h : bitsL l) (k : Nat) : bitsL (l.drop k) := fun x hx => h x (List.mem_of_mem_drop hx)
def bitsN (s : Int) (i : Nat) : List Int := (List.range i).map (bitI s)
theorem bitsN_succ (s : Int) (i : Nat) : bitsN s (i + 1) = bitsN s i ++ [bitI s i] := by simp [bitsN, List.range_succ]
theorem bitsN_len (s : Int) (i : Nat) : (bitsN s i).length = i := by simp [bitsN]
theorem bitsN_ok (s : Int) (i : Nat) : bitsL (bitsN s i) := fun x hx => by
  obtain ⟨j, _, rfl⟩ := List.mem_map.1 hx; exact bit_ok s j
theorem bits8 (s : Int) : bitsN s 8 = [s % 2, s / 2 % 2, s / 4 % 2, s / 8 % 2, s / 16 % 2, s / 32 % 2, s / 64 % 2, s / 128 % 2] := by
  show [s / 1 % 2, _, _, _, _, _, _, _] = _
  rw [Int.ediv_one]; rfl
theorem pol_bits8 (s : Int) : polI (bitsN s 8) = s % 256 := by
  rw [bits8]; simp only [polI]; omega
def cyA (a b c : Int) (i : Nat) : Int := (a % 2 ^ i + b % 2 ^ i + c) / 2 ^ i
theorem cyA_step {a b c : Int} (ha : 0 ≤ a ∧ a < 256) (hb : 0 ≤ b ∧ b < 256) (hc : 0 ≤ c ∧ c ≤ 1) {i : Nat} (hi : i < 8) :
    (0 ≤ cyA a b c i ∧ cyA a b c i ≤ 1) ∧ (bitI a i + bitI b i + cyA a b c i) % 2 = bitI (a + b + c) i ∧ (bitI a i + bitI b i + cyA a b c i) / 2 = cyA a b c (i + 1) := by
  unfold bitI cyA
  match i, hi with
  | 0, _ => simp only [show (2 : Int) ^ 0 = 1 by decide, show (2 : Int) ^ (0 + 1) = 2 by decide]; omega
  | 1, _ => simp only [show (2 : Int) ^ 1 = 2 by decide, show (2 : Int) ^ (1 + 1) = 4 by decide]; omega
  | 2, _ => simp only [show (2 : Int) ^ 2 = 4 by decide, show (2 : Int) ^ (2 + 1) = 8 by decide]; omega
  | 3, _ => simp only [show (2 : Int) ^ 3 = 8 by decide, show (2 : Int) ^ (3 + 1) = 16 by decide]; omega
  | 4, _ => simp only [show (2 : Int) ^ 4 = 16 by decide, show (2 : Int) ^ (4 + 1) = 32 by decide]; omega
  | 5, _ => simp only [show (2 : Int) ^ 5 = 32 by decide, show (2 : Int) ^ (5 + 1) = 64 by decide]; omega
  | 6, _ => simp only [show (2 : Int) ^ 6 = 64 by decide, show (2 : Int) ^ (6 + 1) = 128 by decide]; omega
  | 7, _ => simp only [show (2 : Int) ^ 7 = 128 by decide, show (2 : Int) ^ (7 + 1) = 256 by decide]; omega
theorem cyA_0 (a b c : Int) : cyA a b c 0 = c := by unfold cyA; simp only [show (2 : Int) ^ 0 = 1 by decide]; omega
theorem cyA_4 {a b c : Int} (ha : 0 ≤ a) (hb : 0 ≤ b) (hc : 0 ≤ c ∧ c ≤ 1) : (cyA a b c 4 == 1) = decide (15 < a % 16 + b % 16 + c) := by
  unfold cyA; rw [Bool.eq_iff_iff]; simp only [show (2 : Int) ^ 4 = 16 by decide, beq_iff_eq, decide_eq_true_eq]; omega
theorem cyA_8 {a b c : Int} (ha : 0 ≤ a ∧ a < 256) (hb : 0 ≤ b ∧ b < 256) (hc : 0 ≤ c ∧ c ≤ 1) : (cyA a b c 8 == 1) = decide (255 < a + b + c) := by
  unfold cyA; rw [Bool.eq_iff_iff]; simp only [show (2 : Int) ^ 8 = 256 by decide, beq_iff_eq, decide_eq_true_eq]; omega
def bwS (a b c : Int) (i : Nat) : Int := if a % 2 ^ i < b % 2 ^ i + c then 1 else 0
theorem bwS_le (a b c : Int) (i : Nat) : 0 ≤ bwS a b c i ∧ bwS a b c i ≤ 1 := by unfold bwS; split <;> omega
theorem bwS_step {a b c : Int} (ha : 0 ≤ a ∧ a < 256) (hb : 0 ≤ b ∧ b < 256) (hc : 0 ≤ c ∧ c ≤ 1) {i : Nat} (hi : i < 8) :
    (bitI a i - bitI b i - bwS a b c i < 0 → bitI a i - bitI b i - bwS a b c i + 2 = bitI (a - b - c) i ∧ bwS a b c (i + 1) = 1) ∧
    (¬ bitI a i - bitI b i - bwS a b c i < 0 → bitI a i - bitI b i - bwS a b c i = bitI (a - b - c) i ∧ bwS a b c (i + 1) = 0) := by
  unfold bitI bwS
  match i, hi with
  | 0, _ => simp only [show (2 : Int) ^ 0 = 1 by decide, show (2 : Int) ^ (0 + 1) = 2 by decide]; constructor <;> intro h <;> split at h <;> split <;> omega
  | 1, _ => simp only [show (2 : Int) ^ 1 = 2 by decide, show (2 : Int) ^ (1 + 1) = 4 by decide]; constructor <;> intro h <;> split at h <;> split <;> omega
  | 2, _ => simp only [show (2 : Int) ^ 2 = 4 by decide, show (2 : Int) ^ (2 + 1) = 8 by decide]; constructor <;> intro h <;> split at h <;> split <;> omega
  | 3, _ => simp only [show (2 : Int) ^ 3 = 8 by decide, show (2 : Int) ^ (3 + 1) = 16 by decide]; constructor <;> intro h <;> split at h <;> split <;> omega
  | 4, _ => simp only [show (2 : Int) ^ 4 = 16 by decide, show (2 : Int) ^ (4 + 1) = 32 by decide]; constructor <;> intro h <;> split at h <;> split <;> omega
  | 5, _ => simp only [show (2 : Int) ^ 5 = 32 by decide, show (2 : Int) ^ (5 + 1) = 64 by decide]; constructor <;> intro h <;> split at h <;> split <;> omega
  | 6, _ => simp only [show (2 : Int) ^ 6 = 64 by decide, show (2 : Int) ^ (6 + 1) = 128 by decide]; constructor <;> intro h <;> split at h <;> split <;> omega
  | 7, _ => simp only [show (2 : Int) ^ 7 = 128 by decide, show (2 : Int) ^ (7 + 1) = 256 by decide]; constructor <;> intro h <;> split at h <;> split <;> omega
theorem bwS_0 {a b c : Int} (hc : 0 ≤ c ∧ c ≤ 1) : bwS a b c 0 = c := by unfold bwS; simp only [show (2 : Int) ^ 0 = 1 by decide]; split <;> omega
theorem bwS_4 (a b c : Int) : (bwS a b c 4 == 1) = decide (a % 16 < b % 16 + c) := by
  unfold bwS; simp only [show (2 : Int) ^ 4 = 16 by decide]; split <;> rename_i h
  · rw [decide_eq_true h]; rfl
  · rw [decide_eq_false h]; rfl
theorem bwS_8 {a b c : Int} (ha : 0 ≤ a ∧ a < 256) (hb : 0 ≤ b ∧ b < 256) : (bwS a b c 8 == 1) = decide (a < b + c) := by
  unfold bwS; simp only [show (2 : Int) ^ 8 = 256 by decide]
  rw [show a % 256 = a by omega, show b % 256 = b by omega]
  split <;> rename_i h
  · rw [decide_eq_true h]; rfl
  · rw [decide_eq_false h]; rfl
def lgI (k : Nat) (x y : Int) : Int := if k = 0 then x * y else if k = 1 then max x y else (x + y) % 2
def lgN (k : Nat) (a b : Int) (i : Nat) : List Int := (List.range i).map (fun j => lgI k (bitI a j) (bitI b j))
theorem lgN_succ (k : Nat) (a b : Int) (i : Nat) : lgN k a b (i + 1) = lgN k a b i ++ [lgI k (bitI a i) (bitI b i)] := by simp [lgN, List.range_succ]
theorem lgN_len (k : Nat) (a b : Int) (i : Nat) : (lgN k a b i).length = i := by simp [lgN]
theorem lgI_ok (k : Nat) {x y : Int} (hx : 0 ≤ x ∧ x ≤ 1) (hy : 0 ≤ y ∧ y ≤ 1) : 0 ≤ lgI k x y ∧ lgI k x y ≤ 1 := by
  have h1 : x = 0 ∨ x = 1 := by omega
  have h2 : y = 0 ∨ y = 1 := by omega
  unfold lgI
  rcases h1 with rfl | rfl <;> rcases h2 with rfl | rfl <;> (repeat' split) <;> decide
theorem lgN_ok (k : Nat) (a b : Int) (i : Nat) : bitsL (lgN k a b i) := fun x hx => by
  obtain ⟨j, _, rfl⟩ := List.mem_map.1 hx; exact lgI_ok k (bit_ok a j) (bit_ok b j)
theorem half_next {P : Bool} {i : Nat} (h : i ≠ 3) : (if i ≤ 3 then false else P) = (if i + 1 ≤ 3 then false else P) := by
  by_cases h3 : i ≤ 3
  · rw [if_pos h3, if_pos (by omega)]
  · rw [if_neg h3, if_neg (by omega)]
theorem half_3 {P : Bool} {i : Nat} (h : i = 3) : P = (if i + 1 ≤ 3 then false else P) := by subst h; rfl
theorem kmod_eq (k : Int) : k.tmod 8 = k % 8 ∨ k.tmod 8 = k % 8 - 8 := by
  rcases Int.le_total 0 k with h | h
  · exact .inl (Int.tmod_eq_emod_of_nonneg h)
  · obtain ⟨m, rfl⟩ : ∃ m, k = -m := ⟨-k, by omega⟩
    have e := Int.neg_tmod m 8
    have e2 := Int.tmod_eq_emod_of_nonneg (a := m) (b := 8) (by omega)
    rw [e, e2]; omega
theorem kmod_le (k : Int) : -8 ≤ k.tmod 8 ∧ k.tmod 8 < 8 := by rcases kmod_eq k with h | h <;> omega
theorem kmod (k : Int) : ((k.tmod 8) + 8).tmod 8 = k % 8 := by
  rw [Int.tmod_eq_emod_of_nonneg (by have := kmod_le k; omega)]
  rcases kmod_eq k with h | h <;> omega
theorem hF_fl (z n h c : Bool) : hF (fl z n h c) = h := by cases z <;> cases n <;> cases h <;> cases c <;> decide
def lgR (k : Nat) (a b : Int) : Int := polI (lgN k a b 8)
theorem bitI_succ (m : Nat) (j : Nat) : bitI (m : Int) (j + 1) = bitI ((m / 2 : Nat) : Int) j := by
  unfold bitI
  rw [Int.pow_succ, Int.mul_comm, ← Int.ediv_ediv_of_nonneg (by decide)]
  rfl
theorem bitI_zero (m : Nat) : bitI (m : Int) 0 = ((m % 2 : Nat) : Int) := by unfold bitI; rw [Int.pow_zero, Int.ediv_one]; omega
theorem lg_op (q : Nat) (op : Nat → Nat → Nat) (h0 : op 0 0 = 0) (hop : ∀ m k, ((op m k : Nat) : Int) = lgI q ((m % 2 : Nat) : Int) ((k % 2 : Nat) : Int) + 2 * ((op (m / 2) (k / 2) : Nat) : Int)) :
    ∀ n m k : Nat, m < 2 ^ n → k < 2 ^ n → polI ((List.range n).map (fun j => lgI q (bitI (m : Int) j) (bitI (k : Int) j))) = ((op m k : Nat) : Int)
  | 0, m, k, hm, hk => by
    obtain rfl : m = 0 := by simpa using hm
    obtain rfl : k = 0 := by simpa using hk
    rw [h0]; rfl
  | n + 1, m, k, hm, hk => by
    rw [List.range_succ_eq_map, List.map_cons, List.map_map, polI, hop m k, bitI_zero, bitI_zero]
    have e : (List.range n).map ((fun j => lgI q (bitI (m : Int) j) (bitI (k : Int) j)) ∘ Nat.succ) = (List.range n).map (fun j => lgI q (bitI ((m / 2 : Nat) : Int) j) (bitI ((k / 2 : Nat) : Int) j)) :=
      List.map_congr_left fun j _ => by simp only [Function.comp, Nat.succ_eq_add_one, bitI_succ]
    have h2 : 2 ^ (n + 1) = 2 * 2 ^ n := by rw [Nat.pow_succ]; omega
    rw [e, lg_op q op h0 hop n (m / 2) (k / 2) (by omega) (by omega)]
theorem and_op (m k : Nat) : ((m &&& k : Nat) : Int) = lgI 0 ((m % 2 : Nat) : Int) ((k % 2 : Nat) : Int) + 2 * ((m / 2 &&& k / 2 : Nat) : Int) := by
  have h1 := Nat.and_div_two (a := m) (b := k)
  have h2 := Nat.and_mod_two_eq_one (a := m) (b := k)
  rw [← h1]
  show _ = ((m % 2 : Nat) : Int) * ((k % 2 : Nat) : Int) + _
  clear h1
  generalize m &&& k = x at *
  rcases (show m % 2 = 0 ∨ m % 2 = 1 by omega) with e1 | e1 <;> rcases (show k % 2 = 0 ∨ k % 2 = 1 by omega) with e2 | e2 <;> rw [e1, e2] <;> rw [e1, e2] at h2 <;> omega
theorem or_op (m k : Nat) : ((m ||| k : Nat) : Int) = lgI 1 ((m % 2 : Nat) : Int) ((k % 2 : Nat) : Int) + 2 * ((m / 2 ||| k / 2 : Nat) : Int) := by
  have h1 := Nat.or_div_two (a := m) (b := k)
  have h2 := Nat.or_mod_two_eq_one (a := m) (b := k)
  rw [← h1]
  show _ = max ((m % 2 : Nat) : Int) ((k % 2 : Nat) : Int) + _
  clear h1
  generalize m ||| k = x at *
  rcases (show m % 2 = 0 ∨ m % 2 = 1 by omega) with e1 | e1 <;> rcases (show k % 2 = 0 ∨ k % 2 = 1 by omega) with e2 | e2 <;> rw [e1, e2] <;> rw [e1, e2] at h2 <;> omega
theorem xor_op (m k : Nat) : ((m ^^^ k : Nat) : Int) = lgI 2 ((m % 2 : Nat) : Int) ((k % 2 : Nat) : Int) + 2 * ((m / 2 ^^^ k / 2 : Nat) : Int) := by
  have h1 := Nat.xor_div_two (a := m) (b := k)
  have h2 := Nat.xor_mod_two_eq_one (a := m) (b := k)
  rw [← h1]
  show _ = (((m % 2 : Nat) : Int) + ((k % 2 : Nat) : Int)) % 2 + _
  clear h1
  generalize m ^^^ k = x at *
  rcases (show m % 2 = 0 ∨ m % 2 = 1 by omega) with e1 | e1 <;> rcases (show k % 2 = 0 ∨ k % 2 = 1 by omega) with e2 | e2 <;> rw [e1, e2] <;> rw [e1, e2] at h2 <;> omega
theorem bxor8 {a b : Int} (ha : 0 ≤ a ∧ a < 256) (hb : 0 ≤ b ∧ b < 256) : bxor .u8 a b = ((a.toNat ^^^ b.toNat : Nat) : Int) := by
  unfold bxor
  rw [BitVec.toNat_xor, bits_in (k := .u8) ha.1 ha.2, bits_in (k := .u8) hb.1 hb.2]
  have := Nat.xor_lt_two_pow (n := 8) (x := a.toNat) (y := b.toNat) (by omega) (by omega)
  exact wrap_u8_id (Int.natCast_nonneg _) (by omega)
theorem lgR_0 {a b : Int} (ha : 0 ≤ a ∧ a < 256) (hb : 0 ≤ b ∧ b < 256) : lgR 0 a b = band .u8 a b := by
  obtain ⟨m, rfl⟩ : ∃ m : Nat, a = m := ⟨a.toNat, by omega⟩
  obtain ⟨k, rfl⟩ : ∃ k : Nat, b = k := ⟨b.toNat, by omega⟩
  rw [band_nat (k := .u8) ha.1 ha.2 hb.1 hb.2]
  exact lg_op 0 (· &&& ·) rfl and_op 8 m k (by omega) (by omega)
theorem lgR_1 {a b : Int} (ha : 0 ≤ a ∧ a < 256) (hb : 0 ≤ b ∧ b < 256) : lgR 1 a b = bor .u8 a b := by
  obtain ⟨m, rfl⟩ : ∃ m : Nat, a = m := ⟨a.toNat, by omega⟩
  obtain ⟨k, rfl⟩ : ∃ k : Nat, b = k := ⟨b.toNat, by omega⟩
  rw [bor_nat (k := .u8) ha.1 ha.2 hb.1 hb.2]
  exact lg_op 1 (· ||| ·) rfl or_op 8 m k (by omega) (by omega)
theorem lgR_2 {a b : Int} (ha : 0 ≤ a ∧ a < 256) (hb : 0 ≤ b ∧ b < 256) : lgR 2 a b = bxor .u8 a b := by
  obtain ⟨m, rfl⟩ : ∃ m : Nat, a = m := ⟨a.toNat, by omega⟩
  obtain ⟨k, rfl⟩ : ∃ k : Nat, b = k := ⟨b.toNat, by omega⟩
  rw [bxor8 ha hb]
  exact lg_op 2 (· ^^^ ·) rfl xor_op 8 m k (by omega) (by omega)
theorem inc_eq {a : Int} (ha : 0 ≤ a ∧ a < 256) (f : Int) : addR a 1 false = incR a ∧ fl (addR a 1 false == 0) false (hF (addF a 1 false)) (cF f) = incF a f := by
  have h : addR a 1 false = incR a := by unfold addR incR b2i; simp
  have h2 : decide (15 < a % 16 + 1 % 16 + b2i false) = (a % 16 == 15) := by unfold b2i; rw [Bool.eq_iff_iff]; simp; omega
  refine ⟨h, ?_⟩
  unfold addF incF; rw [hF_fl, h, h2]
theorem dec_eq {a : Int} (ha : 0 ≤ a ∧ a < 256) (f : Int) : subR a 1 false = decR a ∧ fl (subR a 1 false == 0) true (hF (subF a 1 false)) (cF f) = decF a f := by
  have h : subR a 1 false = decR a := by unfold subR decR b2i; simp
  have h2 : decide (a % 16 < 1 % 16 + b2i false) = (a % 16 == 0) := by unfold b2i; rw [Bool.eq_iff_iff]; simp; omega
  refine ⟨h, ?_⟩
  unfold subF decF; rw [hF_fl, h, h2]
def daaX (a f : Int) : Int := if nF f = true then a - daaB a f else a + daaB a f
theorem daaX_le {a : Int} (ha : 0 ≤ a ∧ a < 256) (f : Int) : -200 ≤ daaX a f ∧ daaX a f ≤ 400 := by unfold daaX daaB fg; repeat' split <;> omega
theorem daaX_eq (a f : Int) : (daaX a f + 512) % 256 = daaR a f := by unfold daaX daaR; split <;> omega
end Go.Proofs.YtjjemehigdpboaaGreat
namespace Go.Proofs.YtjjemehigdpboaaGreat
open Go Go.VV
section
variable {β : Type} {A : BusA β} {x : Rn β} {o : Opr} {p : Int}
theorem cF_fl (z n h c : Bool) : cF (fl z n h c) = c := by cases z <;> cases n <;> cases h <;> cases c <;> decide
theorem cF_turn (k a f : Int) : cF (turnF k a f) = turnO k a := cF_fl _ _ _ _
theorem ordT_J (h : 23 ≤ o.kind ∧ o.kind ≤ 29) : ordT A o p x = (metJ o x, effJ A o x) := by
  unfold ordT isB isW isP
  rw [if_neg (by omega), if_neg (by omega), if_neg (by omega), if_neg (by omega), if_neg (by omega), if_neg (by rw [decide_eq_true_eq]; omega), if_neg (by rw [decide_eq_true_eq]; omega), if_neg (by rw [decide_eq_true_eq]; omega)]
theorem metJ_1 (h : 23 ≤ o.kind ∧ o.kind ≤ 26) : metJ o x = isR x.s.r o.x := by
  unfold metJ; rw [decide_eq_true h]; rfl
theorem metJ_2 (h : ¬ (23 ≤ o.kind ∧ o.kind ≤ 26)) : metJ o x = true := by
  unfold metJ; rw [decide_eq_false h]; rfl
theorem ordT_f (h : 23 ≤ o.kind ∧ o.kind ≤ 25) (hc : isR x.s.r o.x = false) : ordT A o p x = (false, x) := by
  rw [ordT_J (by omega), metJ_1 (by omega), hc]
  unfold effJ; dsimp only
  rw [show (if o.kind = 26 ∧ o.x ≠ 4 then idles A 1 x else x) = x from if_neg (by omega), metJ_1 (by omega), hc, if_pos rfl]
theorem ordT_23 (h : o.kind = 23) (hc : isR x.s.r o.x = true) : ordT A o p x = (true, goto ((x.s.r.pc + s8 (o.n % 256)) % 65536) (idles A 1 x)) := by
  rw [ordT_J (by omega), metJ_1 (by omega), hc]
  unfold effJ; dsimp only
  rw [show (if o.kind = 26 ∧ o.x ≠ 4 then idles A 1 x else x) = x from if_neg (by omega), metJ_1 (by omega), hc, if_neg (by decide), if_pos h]
theorem ordT_24 (h : o.kind = 24) (hc : isR x.s.r o.x = true) : ordT A o p x = (true, goto o.n (idles A 1 x)) := by
  rw [ordT_J (by omega), metJ_1 (by omega), hc]
  unfold effJ; dsimp only
  rw [show (if o.kind = 26 ∧ o.x ≠ 4 then idles A 1 x else x) = x from if_neg (by omega), metJ_1 (by omega), hc, if_neg (by decide), if_neg (by omega), if_pos h]
theorem ordT_25 (h : o.kind = 25) (hc : isR x.s.r o.x = true) : ordT A o p x = (true, goto o.n (push A x.s.r.pc (idles A 1 x))) := by
  rw [ordT_J (by omega), metJ_1 (by omega), hc]
  unfold effJ; dsimp only
  rw [show (if o.kind = 26 ∧ o.x ≠ 4 then idles A 1 x else x) = x from if_neg (by omega), metJ_1 (by omega), hc, if_neg (by decide), if_neg (by omega), if_neg (by omega), if_pos (by omega)]
theorem ordT_28 (h : o.kind = 28) : ordT A o p x = (true, goto o.n (push A x.s.r.pc (idles A 1 x))) := by
  rw [ordT_J (by omega), metJ_2 (by omega)]
  unfold effJ; dsimp only
  rw [show (if o.kind = 26 ∧ o.x ≠ 4 then idles A 1 x else x) = x from if_neg (by omega), metJ_2 (by omega), if_neg (by decide), if_neg (by omega), if_neg (by omega), if_pos (by omega)]
theorem ordT_26f (h : o.kind = 26) (h4 : o.x ≠ 4) (hc : isR x.s.r o.x = false) : ordT A o p x = (false, idles A 1 x) := by
  rw [ordT_J (by omega), metJ_1 (by omega), hc]
  unfold effJ; dsimp only
  rw [show (if o.kind = 26 ∧ o.x ≠ 4 then idles A 1 x else x) = idles A 1 x from if_pos ⟨h, h4⟩, metJ_1 (by omega), hc, if_pos rfl]
theorem ordT_26t (h : o.kind = 26) (h4 : o.x ≠ 4) (hc : isR x.s.r o.x = true) : ordT A o p x = (true, idles A 1 (goto (pop A (idles A 1 x)).1 (pop A (idles A 1 x)).2)) := by
  rw [ordT_J (by omega), metJ_1 (by omega), hc]
  unfold effJ; dsimp only
  rw [show (if o.kind = 26 ∧ o.x ≠ 4 then idles A 1 x else x) = idles A 1 x from if_pos ⟨h, h4⟩, metJ_1 (by omega), hc, if_neg (by decide), if_neg (by omega), if_neg (by omega), if_neg (by omega), if_neg (by omega), if_pos h]
theorem ordT_264 (h : o.kind = 26) (h4 : o.x = 4) (hc : isR x.s.r o.x = true) : ordT A o p x = (true, idles A 1 (goto (pop A x).1 (pop A x).2)) := by
  rw [ordT_J (by omega), metJ_1 (by omega), hc]
  unfold effJ; dsimp only
  rw [show (if o.kind = 26 ∧ o.x ≠ 4 then idles A 1 x else x) = x from if_neg (by omega), metJ_1 (by omega), hc, if_neg (by decide), if_neg (by omega), if_neg (by omega), if_neg (by omega), if_neg (by omega), if_pos h]
theorem ordT_27 (h : o.kind = 27) : ordT A o p x = (true, idles A 1 (goto (pop A ⟨{ x.s with ime := true }, x.m⟩).1 (pop A ⟨{ x.s with ime := true }, x.m⟩).2)) := by
  rw [ordT_J (by omega), metJ_2 (by omega)]
  unfold effJ; dsimp only
  rw [show (if o.kind = 26 ∧ o.x ≠ 4 then idles A 1 x else x) = x from if_neg (by omega), metJ_2 (by omega), if_neg (by decide), if_neg (by omega), if_neg (by omega), if_neg (by omega), if_pos h]
theorem ordT_29 (h : o.kind = 29) : ordT A o p x = (true, goto (pairR x.s.r 2) x) := by
  rw [ordT_J (by omega), metJ_2 (by omega)]
  unfold effJ; dsimp only
  rw [show (if o.kind = 26 ∧ o.x ≠ 4 then idles A 1 x else x) = x from if_neg (by omega), metJ_2 (by omega), if_neg (by decide), if_neg (by omega), if_neg (by omega), if_neg (by omega), if_neg (by omega), if_neg (by omega), if_pos h]
theorem ordT_no (h : o.kind < 2 ∨ 46 < o.kind) : ordT A o p x = (true, x) := by
  unfold ordT isB isW isP
  rw [if_neg (by omega), if_neg (by omega), if_neg (by omega), if_neg (by omega), if_neg (by omega), if_neg (by rw [decide_eq_true_eq]; omega), if_neg (by rw [decide_eq_true_eq]; omega), if_neg (by rw [decide_eq_true_eq]; omega)]
  rw [metJ_2 (by omega)]
  unfold effJ; dsimp only
  rw [show (if o.kind = 26 ∧ o.x ≠ 4 then idles A 1 x else x) = x from if_neg (by omega), metJ_2 (by omega), if_neg (by decide)]
  repeat rw [if_neg (by omega)]
theorem far_m (n : Int) : (far n x).2.m = x.m := by unfold far; split <;> rfl
end
def farB (o : Opr) : Bool := decide ((o.kind = 32 ∨ o.kind = 33) → o.x < 4)
theorem farB_all : tabP.all farB = true := by kernel_rfl
theorem num_kx (o : Opr) (b c : Int) : (numO o b c).kind = o.kind ∧ (numO o b c).x = o.x := by
  by_cases h2 : o.size = 2
  · rw [numO_2 h2]; exact ⟨rfl, rfl⟩
  · by_cases h3 : o.size = 3
    · rw [numO_3 h3]; exact ⟨rfl, rfl⟩
    · rw [numO_1 h2 h3]; exact ⟨rfl, rfl⟩
theorem dcd_far {a b c : Int} (ha : 0 ≤ a ∧ a < 256) (hb : 0 ≤ b ∧ b < 256) : (dcd a b c).kind = 32 ∨ (dcd a b c).kind = 33 → (dcd a b c).x < 4 := by
  by_cases h : a = 203
  · rw [dcd_beh h]; unfold behS
    split <;> (intro hk; dsimp only at hk ⊢; omega)
  · obtain ⟨m, o, hm, _, ho⟩ := tab_some ha.1 ha.2
    have hr : (o.kind = 32 ∨ o.kind = 33) → o.x < 4 := of_decide_eq_true (List.all_eq_true.1 farB_all o (List.mem_of_getElem? ho))
    rw [dcd_plain hm h ho, (num_kx o b _).1, (num_kx o b _).2]
    exact hr
section
variable {β : Type} {K : BusO β} {x : Rn β} {n : Nat}
theorem nx_far (h : RunOk K (n + 3) x) : ∀ i, i ≤ 3 → ((nxN K.toBusA x i).o.kind = 32 ∨ (nxN K.toBusA x i).o.kind = 33 → (nxN K.toBusA x i).o.x < 4)
  | 0, _ => fun hk => by
    have e : (nxN K.toBusA x 0).o.kind = 0 := rfl
    omega
  | i + 1, hi => by
    have hb := (h.nx (i + 1) hi).by_
    exact dcd_far (hb.get 0) (hb.get 1)
theorem low1_all : ∀ q : Fin 32, ∀ i : Fin 5, 0 < q.val → (i.val : Int) ≤ low1 (q.val : Int) → ((q.val : Int) / 2 ^ i.val % 2 = 0 → (i.val : Int) < low1 q.val) ∧ (¬ (q.val : Int) / 2 ^ i.val % 2 = 0 → (i.val : Int) = low1 q.val) := by decide +kernel
theorem low1_spec {p : Int} (hp : 0 < p ∧ p < 32) {i : Nat} (hi : (i : Int) ≤ low1 p) : (p / 2 ^ i % 2 = 0 → (i : Int) < low1 p) ∧ (¬ p / 2 ^ i % 2 = 0 → (i : Int) = low1 p) := by
  have h5 := low1_ok p
  obtain ⟨q, rfl⟩ : ∃ q : Nat, p = q := ⟨p.toNat, by omega⟩
  exact low1_all ⟨q, by omega⟩ ⟨i, by omega⟩ (by show 0 < q; omega) hi
end
/-- As takeI, told which one is taken. -/
def takeN {β : Type} (A : BusA β) (n : Int) (x : Rn β) : Rn β :=
  let y := push A x.s.r.pc (idles A 2 x)
  let z := idles A 1 (y.mem (A.ack n y.m))
  ⟨{ z.s with ime := false, soon := false, r := { z.s.r with pc := 64 + 8 * n } }, z.m⟩
theorem takeI_N {β : Type} (A : BusA β) (p : Int) (x : Rn β) : takeI A p x = takeN A (low1 p) x := rfl
end Go.Proofs.YtjjemehigdpboaaGreat
namespace Go.Proofs.YtjjemehigdpboaaGreat
open Go Go.VV

def pendN (p q : Int) : Nat → Int
  | 0 => 0
  | j + 1 => pendN p q j + if p / 2 ^ j % 2 = 1 ∧ q / 2 ^ j % 2 = 1 then 2 ^ j else 0
theorem pendN_le (p q : Int) : ∀ j : Nat, 0 ≤ pendN p q j ∧ pendN p q j < 2 ^ j
  | 0 => ⟨Int.le_refl 0, show (0 : Int) < 1 by decide⟩
  | j + 1 => by
    have h := pendN_le p q j
    have hp : (0 : Int) < 2 ^ j := Int.pow_pos (by decide)
    have h2 : (2 : Int) ^ (j + 1) = 2 ^ j * 2 := Int.pow_succ 2 j
    unfold pendN
    split <;> omega
theorem pendN_32 (p q : Int) : ∀ j : Nat, j ≤ 5 → pendN (p % 32) (q % 32) j = pendN p q j
  | 0, _ => rfl
  | j + 1, hj => by
    have key : ∀ x : Int, x % 32 / 2 ^ j % 2 = x / 2 ^ j % 2 := fun x => by
      rcases (show j = 0 ∨ j = 1 ∨ j = 2 ∨ j = 3 ∨ j = 4 by omega) with rfl | rfl | rfl | rfl | rfl
      · show x % 32 / 1 % 2 = x / 1 % 2; omega
      · show x % 32 / 2 % 2 = x / 2 % 2; omega
      · show x % 32 / 4 % 2 = x / 4 % 2; omega
      · show x % 32 / 8 % 2 = x / 8 % 2; omega
      · show x % 32 / 16 % 2 = x / 16 % 2; omega
    unfold pendN
    rw [pendN_32 p q j (by omega), key, key]
theorem pend_all : ∀ p : Fin 32, ∀ q : Fin 32, pendN (p.val : Int) (q.val : Int) 5 = ((p.val &&& q.val : Nat) : Int) := by decide +kernel
theorem pend5 {p q : Int} (hp : 0 ≤ p ∧ p < 256) (hq : 0 ≤ q ∧ q < 256) : pendN p q 5 = band .u8 (band .u8 p q) 31 := by
  obtain ⟨a, rfl⟩ : ∃ a : Nat, p = a := ⟨p.toNat, by omega⟩
  obtain ⟨b, rfl⟩ : ∃ b : Nat, q = b := ⟨q.toNat, by omega⟩
  have hl : (a &&& b) < 2 ^ 8 := Nat.and_lt_two_pow _ (by omega)
  have h1 := band_nat (k := .u8) hp.1 (show (a : Int) < 256 from hp.2) hq.1 (show (b : Int) < 256 from hq.2)
  rw [Int.toNat_natCast, Int.toNat_natCast] at h1
  rw [h1, band_mask (k := .u8) (b := 31) 5 32 rfl rfl (by omega) (show ((a &&& b : Nat) : Int) < 256 by omega) (show (31 : Int) < 256 by decide)]
  have h2 := pend_all ⟨a % 32, by omega⟩ ⟨b % 32, by omega⟩
  dsimp only at h2
  rw [← Nat.and_mod_two_pow (n := 5), Int.natCast_emod, Int.natCast_emod, Int.natCast_emod] at h2
  exact (pendN_32 _ _ 5 (by decide)).symm.trans h2
theorem low5 {j : Nat} (h : j ≤ 5) : ((2 : Int) ^ j < 32 ↔ j < 5) := by
  rcases (show j = 0 ∨ j = 1 ∨ j = 2 ∨ j = 3 ∨ j = 4 ∨ j = 5 by omega) with rfl | rfl | rfl | rfl | rfl | rfl <;> decide
theorem set_self (l : List Int) (i : Nat) : l.set i (l.getD i 0) = l := by
  apply List.ext_getElem?
  intro j
  rw [List.getElem?_set]
  split
  · rename_i h
    subst h
    split
    · rename_i h2
      rw [List.getD_eq_getElem?_getD, List.getElem?_eq_getElem h2]; rfl
    · rename_i h2
      rw [List.getElem?_eq_none (by omega)]
  · rfl
theorem ack_none {m : Rm} {k : Nat} (h : ¬ atB m.b 65295 / 2 ^ k % 2 = 1) : (ramA.ack (k : Int) m).b = m.b := by
  have hz : atB m.b 65295 / 2 ^ k % 2 = 0 := by omega
  show m.b.set 65295 (resB (atB m.b 65295) k) = m.b
  have e : resB (atB m.b 65295) k = m.b.getD 65295 0 := by
    unfold resB
    rw [Int.toNat_natCast, hz]
    show atB m.b 65295 - 0 * 2 ^ k = atB m.b 65295
    rw [Int.zero_mul, Int.sub_zero]
  rw [e, set_self]
/-- How it stands in memory: six fields, the bytes, and the accesses. -/
def MemH (mb bb : Nat) (m : Rm) (H : Heap) : Prop := ∃ va Ga ak, Vec 89 3 va m.acc.length (flat cAc m.acc) Ga ∧ H = Ga ++ [(mb, blk [.slice (some ⟨bb, 0, none⟩) 65536 65536, .slice none 0 0, .int .u8 0, .int .i64 ak, .bool false, va] 38), (bb, blk (m.b.map (.int .u8)) 5)]
/-- Bytes laid one behind the other from a place on. -/
def putPC (b : List Int) (pc : Int) (cd : List Int) : Nat → List Int
  | 0 => b
  | i + 1 => (putPC b pc cd i).set ((pc + (i : Int)) % 65536).toNat (cd.getD i 0)
theorem putPC_len (b : List Int) (pc : Int) (cd : List Int) : ∀ i, (putPC b pc cd i).length = b.length
  | 0 => rfl
  | i + 1 => by unfold putPC; rw [List.length_set, putPC_len b pc cd i]
theorem putPC_byts {b : List Int} (hb : Byts b) (pc : Int) {cd : List Int} (hc : Byts cd) : ∀ i, Byts (putPC b pc cd i)
  | 0 => hb
  | i + 1 => byts_set (putPC_byts hb pc hc i) _ (hc.get i)
end Go.Proofs.YtjjemehigdpboaaGreat
namespace Go.Proofs.YtjjemehigdpboaaGreat
open Go Go.VV Go.Proofs
set_option linter.unusedSimpArgs false
set_option linter.unusedVariables false
set_option maxRecDepth 100000
theorem qbit_fn (a : Int) (n : Nat) (ha : 0 ≤ a ∧ a < 256) (hn : n ≤ 8) (w : World) : Does Tryz.prog 81 [.int .u8 a, .int .i64 n] w [] (fun v H => H = [] ∧ v = .int .i64 (bitI a n)) := by
 refine does_of Tryz.func81 rfl rfl rfl (St.refl w) ?_
 refine c_seq ?_
 refine c_region ?_
 refine RL ?_
 refine l_nil ?_
 refine c_seq ?_
 refine c_region ?_
 refine RL ?_
 refine l_as (v := (.int .i64 a)) rfl rfl rfl (as_i64 o_m o_m) ?_
 refine RL ?_
 refine l_nil ?_
 refine c_seq ?_
 refine c_seq ?_
 refine c_region ?_
 refine RL ?_
 refine l_nil ?_
 refine c_block ?_
 refine c_loopk (σ := Nat) [5, 6, 9, 10, 11, 12, 13, 14, 15] (fun i => [(5, .int .i64 (a / 2 ^ i)), (6, .int .i64 i)]) (fun i => i ≤ n) (fun i => n - i) 0 ?_ ?_ ?_
 ·exact Nat.zero_le _
 ·exact .cons (congrArg (Value.int .i64) (show a = a / 2 ^ 0 by rw [Int.pow_zero, Int.ediv_one])) (.cons rfl .nil)
 ·intro i y3 hi
  have hb9 := half_le ha i
  refine c_seq ?_
  refine c_seq ?_
  refine c_region ?_
  iterate 3 refine RL ?_
  refine l_nil ?_
  refine c_cond rfl (fun h1 => ?_) (fun h1 => ?_)
  ·have h1n := r_f h1
   refine c_skip ?_
   refine c_seq ?_
   refine c_block ?_
   refine c_region ?_
   refine RL ?_
   refine l_as (v := (.int .i64 (a / 2 ^ (i + 1)))) (quo_pos rfl rfl (by decide)) rfl rfl ((as_quo hb9.1 (show _ < (9223372036854775808 : Int) by omega) (by decide)).trans (congrArg _ (bit_next a i))) ?_
   refine RL ?_
   refine l_nil ?_
   refine c_region ?_
   refine RL ?_
   refine l_as (v := (.int .i64 ((i + 1 : Nat) : Int))) rfl rfl rfl (congrArg _ (succ_law o_m)) ?_
   refine RL ?_
   refine l_nil ?_
   exact ⟨i + 1, by omega, by omega, .cons rfl (.cons rfl .nil), a_g, fun _ h => h⟩
  ·have h1n := r_f h1
   refine c_exit rfl ?_
   refine c_seq ?_
   have hb9 := half_le ha i
   refine c_region ?_
   refine RL ?_
   refine l_as (v := (.int .i64 (bitI a n))) (rem_pos rfl rfl (by decide)) rfl rfl (congrArg _ ((Int.tmod_eq_emod_of_nonneg hb9.1).trans (by rw [show i = n by omega]; rfl))) ?_
   refine RL ?_
   refine l_nil ?_
   refine c_ret ?_
   exact l_end0 (fun _ _ => rets_v rfl) ⟨rfl, rfl⟩

theorem qbyteOf_fn (l : List Int) (hl : bitsL l) (h8 : l.length ≤ 8) (a : Option Addr) (c : Nat) (w : World) (hN : Ns w .i64 a l) : Does Tryz.prog 83 [.slice a l.length c] w [] (fun v H => H = [] ∧ v = .int .u8 (polI l)) := by
 refine does_of Tryz.func83 rfl rfl rfl (St.refl w) ?_
 refine c_seq ?_
 refine c_region ?_
 refine RL ?_
 refine l_nil ?_
 refine c_seq ?_
 refine c_region ?_
 refine RL ?_
 refine l_nil ?_
 refine c_seq ?_
 refine c_seq ?_
 refine c_region ?_
 refine RL ?_
 refine l_l l_n rfl rfl ?_
 refine l_as (v := (.int .i64 ((l.length : Int) - 1))) rfl rfl rfl (as_i64 o_m o_m) ?_
 refine RL ?_
 refine l_nil ?_
 refine c_block ?_
 refine c_loopk (σ := Nat) [3, 4, 8, 9, 10, 11, 12, 13, 14, 15, 16, 17, 18] (fun k => [(3, .int .i64 (polI (l.drop k))), (4, .int .i64 ((k : Int) - 1))]) (fun k => k ≤ l.length) (fun k => k) l.length ?_ ?_ ?_
 ·exact Nat.le_refl _
 ·exact .cons (by rw [List.drop_length]; rfl) (.cons rfl .nil)
 ·intro k y3 hk
  refine c_seq ?_
  refine c_seq ?_
  refine c_region ?_
  refine RL ?_
  refine RL ?_
  refine l_nil ?_
  refine c_cond rfl (fun h1 => ?_) (fun h1 => ?_)
  ·have h1n := r_f h1
   refine c_skip ?_
   refine c_seq ?_
   refine c_block ?_
   obtain ⟨bx, ox, rfl, hrx⟩ := hN.row (i := k - 1) o_m
   have hd9 := pol_drop (l := l) (k := k - 1) o_m
   rw [show k - 1 + 1 = k by omega] at hd9
   have hp9 := pol_8 (bits_drop hl k) (by rw [List.length_drop]; omega)
   have hq9 := pol_8 (bits_drop hl (k - 1)) (by rw [List.length_drop]; omega)
   refine c_region ?_
   refine RL ?_
   refine l_as (v := (.int .i64 (2 * polI (l.drop k)))) rfl rfl rfl (as_i64 o_m o_m) ?_
   refine RL ?_
   refine RL ?_
   refine l_l (idx_slice1 (k - 1) rfl rfl rfl o_m o_m) rfl rfl ?_
   refine l_x (x_load rfl rfl (at_old (hrx.int (i := k - 1) o_m) (by simp))) rfl rfl ?_
   rintro _ _ ⟨rfl, rfl⟩
   refine l_as (v := (.int .i64 (polI (l.drop (k - 1))))) rfl rfl rfl ((as_i64 o_m o_m).trans (congrArg _ o_m)) ?_
   refine RL ?_
   refine l_nil ?_
   refine c_region ?_
   refine RL ?_
   refine l_as (v := (.int .i64 ((k : Int) - 1 - 1))) rfl rfl rfl (as_i64 o_m o_m) ?_
   refine RL ?_
   refine l_nil ?_
   exact ⟨k - 1, by omega, by omega, .cons rfl (.cons (congrArg (Value.int .i64) (show (k : Int) - 1 - 1 = ((k - 1 : Nat) : Int) - 1 by omega)) .nil), a_g, fun _ h => h⟩
  ·have h1n := r_f h1
   refine c_exit rfl ?_
   refine c_seq ?_
   obtain rfl : k = 0 := by omega
   have hp9 := pol_8 hl h8
   refine c_region ?_
   refine RL ?_
   refine l_as (v := (.int .u8 (polI l))) rfl rfl rfl (as_u8 (by simpa using hp9.1) (by simpa using hp9.2)) ?_
   refine RL ?_
   refine l_nil ?_
   refine c_ret ?_
   exact l_end0 (fun _ _ => rets_v rfl) ⟨rfl, rfl⟩

theorem qflags_fn (z n h c : Bool) (w : World) : Does Tryz.prog 46 [.bool z, .bool n, .bool h, .bool c] w [] (fun v H => H = [] ∧ v = .int .u8 (fl z n h c)) := by
 have i1 : (0 : Int) ≤ (if z = true then 128 else 0) ∧ (if z = true then 128 else 0) ≤ 128 := by split <;> decide
 have i2 : (0 : Int) ≤ (if n = true then 64 else 0) ∧ (if n = true then 64 else 0) ≤ 64 := by split <;> decide
 have i3 : (0 : Int) ≤ (if h = true then 32 else 0) ∧ (if h = true then 32 else 0) ≤ 32 := by split <;> decide
 have i4 : (0 : Int) ≤ (if c = true then 16 else 0) ∧ (if c = true then 16 else 0) ≤ 16 := by split <;> decide
 refine does_of Tryz.func46 rfl rfl rfl (St.refl w) ?_
 refine c_seq ?_
 refine c_region ?_
 refine RL ?_
 refine l_nil ?_
 refine c_seq ?_
 refine c_region ?_
 refine RL ?_
 refine l_nil ?_
 refine c_cut (σ := Unit) [9, 10, 11, 12] (fun _ => [(9, .int .i64 ((if z = true then 128 else 0)))]) (fun _ => []) (fun _ => True) ?_ ?_
 ·refine c_seq ?_
  refine c_region ?_
  refine RL ?_
  refine l_nil ?_
  refine c_cond rfl (fun h1 => ?_) (fun h1 => ?_)
  ·have h1n := r_f h1
   refine c_region ?_
   refine RL ?_
   refine l_as (l_add rfl rfl) rfl rfl (by first | exact as_i64 o_m o_m | rfl) ?_
   refine RL ?_
   refine l_nil ?_
   exact ⟨(), trivial, .cons (congrArg (Value.int .i64) (by simp [h1])) .nil, a_g, fun _ h => h⟩
  ·have h1n := r_f h1
   refine c_skip ?_
   exact ⟨(), trivial, .cons (congrArg (Value.int .i64) (by simp [h1])) .nil, a_g, fun _ h => h⟩
 ·rintro _ y2 _
  refine c_cut (σ := Unit) [9, 10, 11, 12, 13, 14, 15] (fun _ => [(9, .int .i64 ((if z = true then 128 else 0) + (if n = true then 64 else 0)))]) (fun _ => []) (fun _ => True) ?_ ?_
  ·refine c_seq ?_
   refine c_region ?_
   refine RL ?_
   refine l_nil ?_
   refine c_cond rfl (fun h2 => ?_) (fun h2 => ?_)
   ·have h2n := r_f h2
    refine c_region ?_
    refine RL ?_
    refine l_as (l_add rfl rfl) rfl rfl (by first | exact as_i64 o_m o_m | rfl) ?_
    refine RL ?_
    refine l_nil ?_
    exact ⟨(), trivial, .cons (congrArg (Value.int .i64) (by simp [h2])) .nil, a_g, fun _ h => h⟩
   ·have h2n := r_f h2
    refine c_skip ?_
    exact ⟨(), trivial, .cons (congrArg (Value.int .i64) (by simp [h2])) .nil, a_g, fun _ h => h⟩
  ·rintro _ y4 _
   refine c_cut (σ := Unit) [9, 10, 11, 12, 13, 14, 15, 16, 17, 18] (fun _ => [(9, .int .i64 ((if z = true then 128 else 0) + (if n = true then 64 else 0) + (if h = true then 32 else 0)))]) (fun _ => []) (fun _ => True) ?_ ?_
   ·refine c_seq ?_
    refine c_region ?_
    refine RL ?_
    refine l_nil ?_
    refine c_cond rfl (fun h3 => ?_) (fun h3 => ?_)
    ·have h3n := r_f h3
     refine c_region ?_
     refine RL ?_
     refine l_as (l_add rfl rfl) rfl rfl (by first | exact as_i64 o_m o_m | rfl) ?_
     refine RL ?_
     refine l_nil ?_
     exact ⟨(), trivial, .cons (congrArg (Value.int .i64) (by simp [h3])) .nil, a_g, fun _ h => h⟩
    ·have h3n := r_f h3
     refine c_skip ?_
     exact ⟨(), trivial, .cons (congrArg (Value.int .i64) (by simp [h3])) .nil, a_g, fun _ h => h⟩
   ·rintro _ y6 _
    refine c_cut (σ := Unit) [9, 10, 11, 12, 13, 14, 15, 16, 17, 18, 19, 20, 21] (fun _ => [(9, .int .i64 ((if z = true then 128 else 0) + (if n = true then 64 else 0) + (if h = true then 32 else 0) + (if c = true then 16 else 0)))]) (fun _ => []) (fun _ => True) ?_ ?_
    ·refine c_seq ?_
     refine c_region ?_
     refine RL ?_
     refine l_nil ?_
     refine c_cond rfl (fun h4 => ?_) (fun h4 => ?_)
     ·have h4n := r_f h4
      refine c_region ?_
      refine RL ?_
      refine l_as (l_add rfl rfl) rfl rfl (by first | exact as_i64 o_m o_m | rfl) ?_
      refine RL ?_
      refine l_nil ?_
      exact ⟨(), trivial, .cons (congrArg (Value.int .i64) (by simp [h4])) .nil, a_g, fun _ h => h⟩
     ·have h4n := r_f h4
      refine c_skip ?_
      exact ⟨(), trivial, .cons (congrArg (Value.int .i64) (by simp [h4])) .nil, a_g, fun _ h => h⟩
    ·rintro _ y8 _
     refine c_seq ?_
     refine c_region ?_
     refine RL ?_
     refine l_as (l_conv rfl rfl rfl) rfl rfl (by first | exact as_u8 o_m o_m | exact as_u8m _) ?_
     refine RL ?_
     refine l_nil ?_
     refine c_ret ?_
     exact l_end0 (fun _ _ => rets_v rfl) ⟨rfl, rfl⟩

theorem qone_fn (b : Bool) (w : World) : Does Tryz.prog 82 [.bool b] w [] (fun v H => H = [] ∧ v = .int .i64 (b2i b)) := by
 refine does_of Tryz.func82 rfl rfl rfl (St.refl w) ?_
 refine c_seq ?_
 refine c_region ?_
 refine RL ?_
 refine l_nil ?_
 refine c_seq ?_
 refine c_seq ?_
 refine c_region ?_
 refine RL ?_
 refine l_nil ?_
 refine c_cond rfl (fun h1 => ?_) (fun h1 => ?_)
 ·have h1n := r_f h1
  refine c_seq ?_
  refine c_region ?_
  refine RL ?_
  refine l_nil ?_
  refine c_ret ?_
  exact l_end0 (fun _ _ => rets_v rfl) ⟨rfl, (by rw [show b = true from h1]; rfl)⟩
 ·have h1n := r_f h1
  refine c_skip ?_
  refine c_seq ?_
  refine c_region ?_
  refine RL ?_
  refine l_nil ?_
  refine c_ret ?_
  exact l_end0 (fun _ _ => rets_v rfl) ⟨rfl, (by rw [show b = false from h1]; rfl)⟩

theorem qZ_fn (f : Int) (hf : 0 ≤ f ∧ f < 256) (w : World) : Does Tryz.prog 34 [.int .u8 f] w [] (fun v H => H = [] ∧ v = .bool (zF f)) := by
 refine does_of Tryz.func34 rfl rfl rfl (St.refl w) ?_
 refine c_seq ?_
 refine c_region ?_
 refine RL ?_
 refine l_nil ?_
 refine c_seq ?_
 refine c_region ?_
 refine RL ?_
 refine l_as (quo_pos rfl rfl (by decide)) rfl rfl (by first | exact as_quo o_m (show _ < (256 : Int) by omega) (by decide) | rfl) ?_
 refine RL ?_
 refine RL ?_
 refine l_nil ?_
 refine c_ret ?_
 exact l_end0 (fun _ _ => rets_v rfl) ⟨rfl, rfl⟩

theorem qN_fn (f : Int) (hf : 0 ≤ f ∧ f < 256) (w : World) : Does Tryz.prog 84 [.int .u8 f] w [] (fun v H => H = [] ∧ v = .bool (nF f)) := by
 refine does_of Tryz.func84 rfl rfl rfl (St.refl w) ?_
 refine c_seq ?_
 refine c_region ?_
 refine RL ?_
 refine l_nil ?_
 refine c_seq ?_
 refine c_region ?_
 refine RL ?_
 refine l_as (quo_pos rfl rfl (by decide)) rfl rfl (by first | exact as_quo o_m (show _ < (256 : Int) by omega) (by decide) | rfl) ?_
 refine l_as (rem_pos rfl rfl (by decide)) rfl rfl (by first | exact as_rem o_m | rfl) ?_
 refine RL ?_
 refine RL ?_
 refine l_nil ?_
 refine c_ret ?_
 exact l_end0 (fun _ _ => rets_v rfl) ⟨rfl, rfl⟩

theorem qH_fn (f : Int) (hf : 0 ≤ f ∧ f < 256) (w : World) : Does Tryz.prog 80 [.int .u8 f] w [] (fun v H => H = [] ∧ v = .bool (hF f)) := by
 refine does_of Tryz.func80 rfl rfl rfl (St.refl w) ?_
 refine c_seq ?_
 refine c_region ?_
 refine RL ?_
 refine l_nil ?_
 refine c_seq ?_
 refine c_region ?_
 refine RL ?_
 refine l_as (quo_pos rfl rfl (by decide)) rfl rfl (by first | exact as_quo o_m (show _ < (256 : Int) by omega) (by decide) | rfl) ?_
 refine l_as (rem_pos rfl rfl (by decide)) rfl rfl (by first | exact as_rem o_m | rfl) ?_
 refine RL ?_
 refine RL ?_
 refine l_nil ?_
 refine c_ret ?_
 exact l_end0 (fun _ _ => rets_v rfl) ⟨rfl, rfl⟩

theorem qC_fn (f : Int) (hf : 0 ≤ f ∧ f < 256) (w : World) : Does Tryz.prog 35 [.int .u8 f] w [] (fun v H => H = [] ∧ v = .bool (cF f)) := by
 refine does_of Tryz.func35 rfl rfl rfl (St.refl w) ?_
 refine c_seq ?_
 refine c_region ?_
 refine RL ?_
 refine l_nil ?_
 refine c_seq ?_
 refine c_region ?_
 refine RL ?_
 refine l_as (quo_pos rfl rfl (by decide)) rfl rfl (by first | exact as_quo o_m (show _ < (256 : Int) by omega) (by decide) | rfl) ?_
 refine l_as (rem_pos rfl rfl (by decide)) rfl rfl (by first | exact as_rem o_m | rfl) ?_
 refine RL ?_
 refine RL ?_
 refine l_nil ?_
 refine c_ret ?_
 exact l_end0 (fun _ _ => rets_v rfl) ⟨rfl, rfl⟩

theorem qadd_fn (a b : Int) (c : Bool) (ha : 0 ≤ a ∧ a < 256) (hb : 0 ≤ b ∧ b < 256) (w : World) : Does Tryz.prog 77 [.int .u8 a, .int .u8 b, .bool c] w [] (fun v H => H = [] ∧ v = .tuple #[.int .u8 (addR a b c), .int .u8 (addF a b c)]) := by
 have hc := b2i_le c
 refine does_of Tryz.func77 rfl rfl rfl (St.refl w) ?_
 refine c_seq ?_
 refine c_region ?_
 refine RL ?_
 refine RL ?_
 refine l_nil ?_
 refine c_seq ?_
 refine c_region ?_
 refine RL ?_
 refine RLv call_82 (fun w hw => qone_fn c w) ?_
 refine RL ?_
 refine l_nil ?_
 refine c_seq ?_
 refine c_region ?_
 refine RL ?_
 refine l_nil ?_
 refine c_seq ?_
 refine c_region ?_
 refine RL ?_
 refine l_nil ?_
 refine c_seq ?_
 refine c_seq ?_
 refine c_region ?_
 refine RL ?_
 refine l_nil ?_
 refine c_block ?_
 refine c_loop (σ := Nat × Value × Heap) [8, 9, 10, 11, 12, 16, 17, 18, 19, 20, 21, 22, 23, 24, 25, 26, 27, 28, 29, 30, 31, 32, 33, 34, 35, 36, 37, 38, 39] (fun q => [(8, .int .i64 (cyA a b (b2i c) q.1)), (9, .bool (if q.1 ≤ 3 then false else decide (15 < a % 16 + b % 16 + b2i c))), (10, q.2.1), (11, .int .i64 q.1)]) (fun q => q.2.2 ++ []) (fun q => q.1 ≤ 8 ∧ Vec 3 1 q.2.1 q.1 ((bitsN (a + b + b2i c) q.1).map (.int .i64)) q.2.2) (fun q => 8 - q.1) (0, .slice none 0 0, []) ?_ ?_ ?_ ?_
 ·exact ⟨Nat.zero_le _, .nil⟩
 ·exact .cons (congrArg (Value.int .i64) (cyA_0 _ _ _).symm) (.cons rfl (.cons rfl (.cons rfl .nil)))
 ·exact fun _ h => h
 ·rintro ⟨i, vi, Gi⟩ y5 ⟨hi, hVi⟩
  dsimp only at hi hVi ⊢
  obtain ⟨ai, ci, rfl⟩ := hVi.slice
  refine c_seq ?_
  refine c_seq ?_
  refine c_region ?_
  refine RL ?_
  refine RL ?_
  refine l_nil ?_
  refine c_cond rfl (fun h1 => ?_) (fun h1 => ?_)
  ·have h1n := r_f h1
   refine c_skip ?_
   refine c_seq ?_
   refine c_block ?_
   refine c_seq ?_
   have hs9 := cyA_step ha hb hc (i := i) o_m
   have hx9 := bit_ok a i
   have hy9 := bit_ok b i
   refine c_region ?_
   refine RL ?_
   refine RL ?_
   refine RLv call_81 (fun w hw => qbit_fn a i ha o_m w) ?_
   refine RL ?_
   refine RL ?_
   refine RLv call_81 (fun w hw => qbit_fn b i hb o_m w) ?_
   refine l_as (v := (.int .i64 (bitI a i + bitI b i))) rfl rfl rfl (as_i64 o_m o_m) ?_
   refine RL ?_
   refine l_as (v := (.int .i64 (bitI a i + bitI b i + cyA a b (b2i c) i))) rfl rfl rfl (as_i64 o_m o_m) ?_
   refine RL ?_
   refine l_nil ?_
   refine c_seq ?_
   refine c_region ?_
   refine RL ?_
   refine RL ?_
   refine l_as (v := (.int .i64 (bitI (a + b + b2i c) i))) rfl rfl rfl ((as_rem o_m).trans (congrArg _ hs9.2.1)) ?_
   refine l_x (x_slc (z := [.int .i64 0]) (l := [.int .i64 (bitI (a + b + b2i c) i)]) (ps := [(0, .int .i64 (bitI (a + b + b2i c) i))]) rfl rfl rfl rfl rfl rfl) rfl rfl ?_
   rintro _ _ ⟨b32, rfl, rfl⟩
   refine l_x (x_appendE (A := [(b32, _)]) (G := Gi ++ []) (v := .slice ai i ci) (n := i) (xs := (bitsN (a + b + b2i c) i).map (.int .i64)) (m := 1) (T := 3) (s := 1) (by_ := 8) (ys := [.int .i64 (bitI (a + b + b2i c) i)]) rfl rfl rfl rfl (by rw [List.append_nil]; exact hVi) (fun w hw => .row _ _ _ _ _ rfl (row_own (b := b32) (.head _) w hw)) rfl o_m o_m) rfl rfl ?_
   rintro v33 _ ⟨G33, hV33, _, rfl⟩
   obtain ⟨a33, c33, rfl⟩ := hV33.slice
   refine RL ?_
   refine l_nil ?_
   refine c_seq ?_
   refine c_region ?_
   refine RL ?_
   refine l_as (v := (.int .i64 (cyA a b (b2i c) (i + 1)))) rfl rfl rfl ((as_quo o_m (show _ < (9223372036854775808 : Int) by omega) (by decide)).trans (congrArg _ hs9.2.2)) ?_
   refine RL ?_
   refine l_nil ?_
   refine c_seq ?_
   refine c_region ?_
   refine RL ?_
   refine RL ?_
   refine l_nil ?_
   refine c_cond rfl (fun h2 => ?_) (fun h2 => ?_)
   ·have h2n := r_f h2
    refine c_region ?_
    iterate 3 refine RL ?_
    refine l_nil ?_
    refine c_region ?_
    refine RL ?_
    refine l_as (v := (.int .i64 ((i + 1 : Nat) : Int))) rfl rfl rfl (congrArg _ (succ_law o_m)) ?_
    refine RL ?_
    refine l_nil ?_
    exact ⟨(i + 1, .slice a33 _ c33, G33), ⟨by omega, hV33.as rfl (by rw [bitsN_succ, List.map_append]; rfl)⟩, by show 8 - (i + 1) < 8 - i; omega, .cons rfl (.cons (congrArg Value.bool ((show (cyA a b (b2i c) (i + 1) == 1) = decide (15 < a % 16 + b % 16 + b2i c) by rw [show i = 3 by omega]; exact cyA_4 ha.1 hb.1 hc).trans (half_3 o_m))) (.cons rfl (.cons rfl .nil))), a_g, fun w h => (h.sub (List.sublist_append_left _ _)).as (List.append_nil _).symm⟩
   ·have h2n := r_f h2
    refine c_skip ?_
    refine c_region ?_
    refine RL ?_
    refine l_as (v := (.int .i64 ((i + 1 : Nat) : Int))) rfl rfl rfl (congrArg _ (succ_law o_m)) ?_
    refine RL ?_
    refine l_nil ?_
    exact ⟨(i + 1, .slice a33 _ c33, G33), ⟨by omega, hV33.as rfl (by rw [bitsN_succ, List.map_append]; rfl)⟩, by show 8 - (i + 1) < 8 - i; omega, .cons rfl (.cons (congrArg Value.bool (half_next o_m)) (.cons rfl (.cons rfl .nil))), a_g, fun w h => (h.sub (List.sublist_append_left _ _)).as (List.append_nil _).symm⟩
  ·have h1n := r_f h1
   refine c_exit rfl ?_
   refine c_seq ?_
   obtain rfl : i = 8 := by omega
   obtain ⟨ax, cx, hsl, hcx, hgv⟩ := Lst.of_vec hVi
   cases hsl
   refine c_region ?_
   refine RL ?_
   refine l_x (x_val call_83 rfl (fun w hw => qbyteOf_fn (bitsN (a + b + b2i c) 8) (bitsN_ok _ _) (by rw [bitsN_len]; omega) ai ci w (Gives.ns hgv hw (fun x hx => List.mem_append_left _ hx)))) rfl rfl ?_
   rintro _ _ ⟨rfl, rfl⟩
   refine RL ?_
   refine l_nil ?_
   refine c_seq ?_
   refine c_region ?_
   iterate 6 refine RL ?_
   refine RLv call_46 (fun w hw => qflags_fn _ _ _ _ w) ?_
   refine RL ?_
   refine RL ?_
   refine l_nil ?_
   refine c_ret ?_
   rw [pol_bits8]
   have e9 : fl ((a + b + b2i c) % 256 == 0) false (decide (15 < a % 16 + b % 16 + b2i c)) (cyA a b (b2i c) 8 == 1) = addF a b c := by rw [cyA_8 ha hb hc]; rfl
   exact l_end0 (fun _ _ => rets_two rfl rfl) ⟨rfl, (congrArg Value.tuple (congrArg (fun x => #[Value.int .u8 (addR a b c), .int .u8 x]) e9))⟩

theorem qsub_fn (a b : Int) (c : Bool) (ha : 0 ≤ a ∧ a < 256) (hb : 0 ≤ b ∧ b < 256) (w : World) : Does Tryz.prog 78 [.int .u8 a, .int .u8 b, .bool c] w [] (fun v H => H = [] ∧ v = .tuple #[.int .u8 (subR a b c), .int .u8 (subF a b c)]) := by
 have hc := b2i_le c
 refine does_of Tryz.func78 rfl rfl rfl (St.refl w) ?_
 refine c_seq ?_
 refine c_region ?_
 refine RL ?_
 refine RL ?_
 refine l_nil ?_
 refine c_seq ?_
 refine c_region ?_
 refine RL ?_
 refine RLv call_82 (fun w hw => qone_fn c w) ?_
 refine RL ?_
 refine l_nil ?_
 refine c_seq ?_
 refine c_region ?_
 refine RL ?_
 refine l_nil ?_
 refine c_seq ?_
 refine c_region ?_
 refine RL ?_
 refine l_nil ?_
 refine c_seq ?_
 refine c_seq ?_
 refine c_region ?_
 refine RL ?_
 refine l_nil ?_
 refine c_block ?_
 refine c_loop (σ := Nat × Value × Heap) [8, 9, 10, 11, 12, 16, 17, 18, 19, 20, 21, 22, 23, 24, 25, 26, 27, 28, 29, 30, 31, 32, 33, 34, 35, 36, 37, 38, 39, 40] (fun q => [(8, .int .i64 (bwS a b (b2i c) q.1)), (9, .bool (if q.1 ≤ 3 then false else decide (a % 16 < b % 16 + b2i c))), (10, q.2.1), (11, .int .i64 q.1)]) (fun q => q.2.2 ++ []) (fun q => q.1 ≤ 8 ∧ Vec 3 1 q.2.1 q.1 ((bitsN (a - b - b2i c) q.1).map (.int .i64)) q.2.2) (fun q => 8 - q.1) (0, .slice none 0 0, []) ?_ ?_ ?_ ?_
 ·exact ⟨Nat.zero_le _, .nil⟩
 ·exact .cons (congrArg (Value.int .i64) (bwS_0 hc).symm) (.cons rfl (.cons rfl (.cons rfl .nil)))
 ·exact fun _ h => h
 ·rintro ⟨i, vi, Gi⟩ y5 ⟨hi, hVi⟩
  dsimp only at hi hVi ⊢
  obtain ⟨ai, ci, rfl⟩ := hVi.slice
  refine c_seq ?_
  refine c_seq ?_
  refine c_region ?_
  refine RL ?_
  refine RL ?_
  refine l_nil ?_
  refine c_cond rfl (fun h1 => ?_) (fun h1 => ?_)
  ·have h1n := r_f h1
   refine c_skip ?_
   refine c_seq ?_
   refine c_block ?_
   refine c_seq ?_
   have hs9 := bwS_step ha hb hc (i := i) o_m
   have hx9 := bit_ok a i
   have hy9 := bit_ok b i
   have hw8 := bwS_le a b (b2i c) i
   refine c_region ?_
   refine RL ?_
   refine RL ?_
   refine RLv call_81 (fun w hw => qbit_fn a i ha o_m w) ?_
   refine RL ?_
   refine RL ?_
   refine RLv call_81 (fun w hw => qbit_fn b i hb o_m w) ?_
   refine l_as (v := (.int .i64 (bitI a i - bitI b i))) rfl rfl rfl (as_i64 o_m o_m) ?_
   refine RL ?_
   refine l_as (v := (.int .i64 (bitI a i - bitI b i - (bwS a b (b2i c) i)))) rfl rfl rfl (as_i64 o_m o_m) ?_
   refine RL ?_
   refine l_nil ?_
   refine c_seq ?_
   refine c_region ?_
   refine RL ?_
   refine l_nil ?_
   refine c_seq ?_
   refine c_seq ?_
   refine c_region ?_
   refine RL ?_
   refine RL ?_
   refine l_nil ?_
   refine c_cond rfl (fun h2 => ?_) (fun h2 => ?_)
   ·have h2n := r_f h2
    refine c_seq ?_
    refine c_region ?_
    refine RL ?_
    refine l_as (v := (.int .i64 (bitI (a - b - b2i c) i))) rfl rfl rfl ((as_i64 o_m o_m).trans (congrArg _ (hs9.1 h2n).1)) ?_
    refine RL ?_
    refine l_nil ?_
    refine c_region ?_
    refine RL ?_
    refine l_nil ?_
    refine c_seq ?_
    refine c_region ?_
    refine RL ?_
    refine RL ?_
    refine l_x (x_slc (z := [.int .i64 0]) (l := [.int .i64 (bitI (a - b - b2i c) i)]) (ps := [(0, .int .i64 (bitI (a - b - b2i c) i))]) rfl rfl rfl rfl rfl rfl) rfl rfl ?_
    rintro _ _ ⟨b35, rfl, rfl⟩
    refine l_x (x_appendE (A := [(b35, _)]) (G := Gi ++ []) (v := .slice ai i ci) (n := i) (xs := (bitsN (a - b - b2i c) i).map (.int .i64)) (m := 1) (T := 3) (s := 1) (by_ := 8) (ys := [.int .i64 (bitI (a - b - b2i c) i)]) rfl rfl rfl rfl (by rw [List.append_nil]; exact hVi) (fun w hw => .row _ _ _ _ _ rfl (row_own (b := b35) (.head _) w hw)) rfl o_m o_m) rfl rfl ?_
    rintro v36 _ ⟨G36, hV36, _, rfl⟩
    obtain ⟨a36, c36, rfl⟩ := hV36.slice
    refine RL ?_
    refine l_nil ?_
    refine c_seq ?_
    refine c_region ?_
    refine RL ?_
    refine RL ?_
    refine l_nil ?_
    refine c_cond rfl (fun h3 => ?_) (fun h3 => ?_)
    ·have h3n := r_f h3
     refine c_region ?_
     iterate 3 refine RL ?_
     refine l_nil ?_
     refine c_region ?_
     refine RL ?_
     refine l_as (v := (.int .i64 ((i + 1 : Nat) : Int))) rfl rfl rfl (congrArg _ (succ_law o_m)) ?_
     refine RL ?_
     refine l_nil ?_
     have hw9 := (hs9.1 h2n).2
     exact ⟨(i + 1, .slice a36 _ c36, G36), ⟨by omega, hV36.as rfl (by rw [bitsN_succ, List.map_append]; rfl)⟩, by show 8 - (i + 1) < 8 - i; omega, .cons (congrArg (Value.int .i64) hw9.symm) (.cons (congrArg Value.bool ((show ((1 : Int) == 1) = decide (a % 16 < b % 16 + b2i c) by rw [← bwS_4, ← hw9, show i = 3 by omega]).trans (half_3 o_m))) (.cons rfl (.cons rfl .nil))), a_g, fun w h => (h.sub (List.sublist_append_left _ _)).as (List.append_nil _).symm⟩
    ·have h3n := r_f h3
     refine c_skip ?_
     refine c_region ?_
     refine RL ?_
     refine l_as (v := (.int .i64 ((i + 1 : Nat) : Int))) rfl rfl rfl (congrArg _ (succ_law o_m)) ?_
     refine RL ?_
     refine l_nil ?_
     have hw9 := (hs9.1 h2n).2
     exact ⟨(i + 1, .slice a36 _ c36, G36), ⟨by omega, hV36.as rfl (by rw [bitsN_succ, List.map_append]; rfl)⟩, by show 8 - (i + 1) < 8 - i; omega, .cons (congrArg (Value.int .i64) hw9.symm) (.cons (congrArg Value.bool (half_next o_m)) (.cons rfl (.cons rfl .nil))), a_g, fun w h => (h.sub (List.sublist_append_left _ _)).as (List.append_nil _).symm⟩
   ·have h2n := r_f h2
    refine c_skip ?_
    refine c_seq ?_
    rw [(hs9.2 h2n).1]
    refine c_region ?_
    refine RL ?_
    refine RL ?_
    refine l_x (x_slc (z := [.int .i64 0]) (l := [.int .i64 (bitI (a - b - b2i c) i)]) (ps := [(0, .int .i64 (bitI (a - b - b2i c) i))]) rfl rfl rfl rfl rfl rfl) rfl rfl ?_
    rintro _ _ ⟨b35, rfl, rfl⟩
    refine l_x (x_appendE (A := [(b35, _)]) (G := Gi ++ []) (v := .slice ai i ci) (n := i) (xs := (bitsN (a - b - b2i c) i).map (.int .i64)) (m := 1) (T := 3) (s := 1) (by_ := 8) (ys := [.int .i64 (bitI (a - b - b2i c) i)]) rfl rfl rfl rfl (by rw [List.append_nil]; exact hVi) (fun w hw => .row _ _ _ _ _ rfl (row_own (b := b35) (.head _) w hw)) rfl o_m o_m) rfl rfl ?_
    rintro v36 _ ⟨G36, hV36, _, rfl⟩
    obtain ⟨a36, c36, rfl⟩ := hV36.slice
    refine RL ?_
    refine l_nil ?_
    refine c_seq ?_
    refine c_region ?_
    refine RL ?_
    refine RL ?_
    refine l_nil ?_
    refine c_cond rfl (fun h4 => ?_) (fun h4 => ?_)
    ·have h4n := r_f h4
     refine c_region ?_
     iterate 3 refine RL ?_
     refine l_nil ?_
     refine c_region ?_
     refine RL ?_
     refine l_as (v := (.int .i64 ((i + 1 : Nat) : Int))) rfl rfl rfl (congrArg _ (succ_law o_m)) ?_
     refine RL ?_
     refine l_nil ?_
     have hw9 := (hs9.2 h2n).2
     exact ⟨(i + 1, .slice a36 _ c36, G36), ⟨by omega, hV36.as rfl (by rw [bitsN_succ, List.map_append]; rfl)⟩, by show 8 - (i + 1) < 8 - i; omega, .cons (congrArg (Value.int .i64) hw9.symm) (.cons (congrArg Value.bool ((show ((0 : Int) == 1) = decide (a % 16 < b % 16 + b2i c) by rw [← bwS_4, ← hw9, show i = 3 by omega]).trans (half_3 o_m))) (.cons rfl (.cons rfl .nil))), a_g, fun w h => (h.sub (List.sublist_append_left _ _)).as (List.append_nil _).symm⟩
    ·have h4n := r_f h4
     refine c_skip ?_
     refine c_region ?_
     refine RL ?_
     refine l_as (v := (.int .i64 ((i + 1 : Nat) : Int))) rfl rfl rfl (congrArg _ (succ_law o_m)) ?_
     refine RL ?_
     refine l_nil ?_
     have hw9 := (hs9.2 h2n).2
     exact ⟨(i + 1, .slice a36 _ c36, G36), ⟨by omega, hV36.as rfl (by rw [bitsN_succ, List.map_append]; rfl)⟩, by show 8 - (i + 1) < 8 - i; omega, .cons (congrArg (Value.int .i64) hw9.symm) (.cons (congrArg Value.bool (half_next o_m)) (.cons rfl (.cons rfl .nil))), a_g, fun w h => (h.sub (List.sublist_append_left _ _)).as (List.append_nil _).symm⟩
  ·have h1n := r_f h1
   refine c_exit rfl ?_
   refine c_seq ?_
   obtain rfl : i = 8 := by omega
   obtain ⟨ax, cx, hsl, hcx, hgv⟩ := Lst.of_vec hVi
   cases hsl
   refine c_region ?_
   refine RL ?_
   refine l_x (x_val call_83 rfl (fun w hw => qbyteOf_fn (bitsN (a - b - b2i c) 8) (bitsN_ok _ _) (by rw [bitsN_len]; omega) ai ci w (Gives.ns hgv hw (fun x hx => List.mem_append_left _ hx)))) rfl rfl ?_
   rintro _ _ ⟨rfl, rfl⟩
   refine RL ?_
   refine l_nil ?_
   refine c_seq ?_
   refine c_region ?_
   iterate 6 refine RL ?_
   refine RLv call_46 (fun w hw => qflags_fn _ _ _ _ w) ?_
   refine RL ?_
   refine RL ?_
   refine l_nil ?_
   refine c_ret ?_
   rw [pol_bits8]
   have e9 : fl ((a - b - b2i c) % 256 == 0) true (decide (a % 16 < b % 16 + b2i c)) (bwS a b (b2i c) 8 == 1) = subF a b c := by rw [bwS_8 ha hb]; rfl
   exact l_end0 (fun _ _ => rets_two rfl rfl) ⟨rfl, (congrArg Value.tuple (congrArg (fun x => #[Value.int .u8 (subR a b c), .int .u8 x]) e9))⟩

theorem qlogic_fn (k : Nat) (hk : k < 3) (a b : Int) (ha : 0 ≤ a ∧ a < 256) (hb : 0 ≤ b ∧ b < 256) (w : World) : Does Tryz.prog 79 [.int .i64 k, .int .u8 a, .int .u8 b] w [] (fun v H => H = [] ∧ v = .tuple #[.int .u8 (lgR k a b), .int .u8 (logF k (lgR k a b))]) := by
 refine does_of Tryz.func79 rfl rfl rfl (St.refl w) ?_
 refine c_seq ?_
 refine c_region ?_
 refine RL ?_
 refine RL ?_
 refine l_nil ?_
 refine c_seq ?_
 refine c_region ?_
 refine RL ?_
 refine l_nil ?_
 refine c_seq ?_
 refine c_seq ?_
 refine c_region ?_
 refine RL ?_
 refine l_nil ?_
 refine c_block ?_
 refine c_loop (σ := Nat × Value × Heap) [8, 9, 10, 11, 13, 14, 15, 16, 17, 18, 19, 20, 21, 22, 23, 24, 25, 26, 27, 28, 29, 30, 31, 32, 33, 34, 35, 36, 37, 38, 39, 40, 41, 42, 43, 44, 45, 46, 47, 48] (fun q => [(8, q.2.1), (9, .int .i64 q.1)]) (fun q => q.2.2 ++ []) (fun q => q.1 ≤ 8 ∧ Vec 3 1 q.2.1 q.1 ((lgN k a b q.1).map (.int .i64)) q.2.2) (fun q => 8 - q.1) (0, .slice none 0 0, []) ?_ ?_ ?_ ?_
 ·exact ⟨Nat.zero_le _, .nil⟩
 ·exact .cons rfl (.cons rfl .nil)
 ·exact fun _ h => h
 ·rintro ⟨i, vi, Gi⟩ y3 ⟨hi, hVi⟩
  dsimp only at hi hVi ⊢
  obtain ⟨ai, ci, rfl⟩ := hVi.slice
  refine c_seq ?_
  refine c_seq ?_
  refine c_region ?_
  refine RL ?_
  refine RL ?_
  refine l_nil ?_
  refine c_cond rfl (fun h1 => ?_) (fun h1 => ?_)
  ·have h1n := r_f h1
   refine c_skip ?_
   refine c_seq ?_
   refine c_block ?_
   refine c_seq ?_
   have hx9 := bit_ok a i
   have hy9 := bit_ok b i
   refine c_region ?_
   refine RL ?_
   refine RL ?_
   refine RLv call_81 (fun w hw => qbit_fn a i ha o_m w) ?_
   refine RL ?_
   refine RL ?_
   refine RLv call_81 (fun w hw => qbit_fn b i hb o_m w) ?_
   refine RL ?_
   refine RL ?_
   refine l_nil ?_
   refine c_seq ?_
   rcases (show k = 0 ∨ k = 1 ∨ k = 2 by omega) with rfl | rfl | rfl
   ·refine c_region ?_
    refine RL ?_
    refine l_nil ?_
    refine c_block ?_
    refine c_seq ?_
    refine c_region ?_
    refine l_sure true rfl rfl rfl rfl ?_
    refine RL ?_
    refine l_nil ?_
    refine c_true rfl ?_
    refine c_region ?_
    refine RL ?_
    have hl9 := lgI_ok 0 hx9 hy9
    refine RL ?_
    refine RL ?_
    refine l_as (v := (.int .i64 (lgI 0 (bitI a i) (bitI b i)))) (l_mul rfl rfl) rfl rfl (as_i64 (show -9223372036854775808 ≤ lgI 0 (bitI a i) (bitI b i) by omega) (show lgI 0 (bitI a i) (bitI b i) ≤ 9223372036854775807 by omega)) ?_
    refine l_x (x_slc (z := [.int .i64 0]) (l := [.int .i64 (lgI 0 (bitI a i) (bitI b i))]) (ps := [(0, .int .i64 (lgI 0 (bitI a i) (bitI b i)))]) rfl rfl rfl rfl rfl rfl) rfl rfl ?_
    rintro _ _ ⟨b30, rfl, rfl⟩
    refine l_x (x_appendE (A := [(b30, _)]) (G := Gi ++ []) (v := .slice ai i ci) (n := i) (xs := (lgN 0 a b i).map (.int .i64)) (m := 1) (T := 3) (s := 1) (by_ := 8) (ys := [.int .i64 (lgI 0 (bitI a i) (bitI b i))]) rfl rfl rfl rfl (by rw [List.append_nil]; exact hVi) (fun w hw => .row _ _ _ _ _ rfl (row_own (b := b30) (.head _) w hw)) rfl o_m o_m) rfl rfl ?_
    rintro v31 _ ⟨G31, hV31, _, rfl⟩
    obtain ⟨a31, c31, rfl⟩ := hV31.slice
    refine RL ?_
    refine l_nil ?_
    refine c_region ?_
    refine RL ?_
    refine l_as (v := (.int .i64 ((i + 1 : Nat) : Int))) rfl rfl rfl (congrArg _ (succ_law o_m)) ?_
    refine RL ?_
    refine l_nil ?_
    exact ⟨(i + 1, .slice a31 _ c31, G31), ⟨by omega, hV31.as rfl (by rw [lgN_succ, List.map_append]; rfl)⟩, by show 8 - (i + 1) < 8 - i; omega, .cons rfl (.cons rfl .nil), a_g, fun w h => (h.sub (List.sublist_append_left _ _)).as (List.append_nil _).symm⟩
   ·refine c_region ?_
    refine RL ?_
    refine l_nil ?_
    refine c_block ?_
    refine c_seq ?_
    refine c_region ?_
    refine l_sure false rfl rfl rfl rfl ?_
    refine RL ?_
    refine l_nil ?_
    refine c_false rfl ?_
    refine c_seq ?_
    refine c_region ?_
    refine l_sure true rfl rfl rfl rfl ?_
    refine RL ?_
    refine l_nil ?_
    refine c_true rfl ?_
    refine c_region ?_
    iterate 3 refine RL ?_
    refine l_as (v := (.int .i64 (lgI 1 (bitI a i) (bitI b i)))) (light_max rfl rfl) rfl rfl rfl ?_
    refine l_x (x_slc (z := [.int .i64 0]) (l := [.int .i64 (lgI 1 (bitI a i) (bitI b i))]) (ps := [(0, .int .i64 (lgI 1 (bitI a i) (bitI b i)))]) rfl rfl rfl rfl rfl rfl) rfl rfl ?_
    rintro _ _ ⟨b30, rfl, rfl⟩
    refine l_x (x_appendE (A := [(b30, _)]) (G := Gi ++ []) (v := .slice ai i ci) (n := i) (xs := (lgN 1 a b i).map (.int .i64)) (m := 1) (T := 3) (s := 1) (by_ := 8) (ys := [.int .i64 (lgI 1 (bitI a i) (bitI b i))]) rfl rfl rfl rfl (by rw [List.append_nil]; exact hVi) (fun w hw => .row _ _ _ _ _ rfl (row_own (b := b30) (.head _) w hw)) rfl o_m o_m) rfl rfl ?_
    rintro v31 _ ⟨G31, hV31, _, rfl⟩
    obtain ⟨a31, c31, rfl⟩ := hV31.slice
    refine RL ?_
    refine l_nil ?_
    refine c_region ?_
    refine RL ?_
    refine l_as (v := (.int .i64 ((i + 1 : Nat) : Int))) rfl rfl rfl (congrArg _ (succ_law o_m)) ?_
    refine RL ?_
    refine l_nil ?_
    exact ⟨(i + 1, .slice a31 _ c31, G31), ⟨by omega, hV31.as rfl (by rw [lgN_succ, List.map_append]; rfl)⟩, by show 8 - (i + 1) < 8 - i; omega, .cons rfl (.cons rfl .nil), a_g, fun w h => (h.sub (List.sublist_append_left _ _)).as (List.append_nil _).symm⟩
   ·refine c_region ?_
    refine RL ?_
    refine l_nil ?_
    refine c_block ?_
    refine c_seq ?_
    refine c_region ?_
    refine l_sure false rfl rfl rfl rfl ?_
    refine RL ?_
    refine l_nil ?_
    refine c_false rfl ?_
    refine c_seq ?_
    refine c_region ?_
    refine l_sure false rfl rfl rfl rfl ?_
    refine RL ?_
    refine l_nil ?_
    refine c_false rfl ?_
    refine c_seq ?_
    refine c_region ?_
    refine l_sure true rfl rfl rfl rfl ?_
    refine RL ?_
    refine l_nil ?_
    refine c_true rfl ?_
    refine c_region ?_
    iterate 3 refine RL ?_
    have hl9 := lgI_ok 2 hx9 hy9
    refine l_as (v := (.int .i64 (bitI a i + bitI b i))) (l_add rfl rfl) rfl rfl (as_i64 o_m o_m) ?_
    refine l_as (v := (.int .i64 (lgI 2 (bitI a i) (bitI b i)))) (rem_pos rfl rfl (by decide)) rfl rfl (as_rem o_m) ?_
    refine l_x (x_slc (z := [.int .i64 0]) (l := [.int .i64 (lgI 2 (bitI a i) (bitI b i))]) (ps := [(0, .int .i64 (lgI 2 (bitI a i) (bitI b i)))]) rfl rfl rfl rfl rfl rfl) rfl rfl ?_
    rintro _ _ ⟨b30, rfl, rfl⟩
    refine l_x (x_appendE (A := [(b30, _)]) (G := Gi ++ []) (v := .slice ai i ci) (n := i) (xs := (lgN 2 a b i).map (.int .i64)) (m := 1) (T := 3) (s := 1) (by_ := 8) (ys := [.int .i64 (lgI 2 (bitI a i) (bitI b i))]) rfl rfl rfl rfl (by rw [List.append_nil]; exact hVi) (fun w hw => .row _ _ _ _ _ rfl (row_own (b := b30) (.head _) w hw)) rfl o_m o_m) rfl rfl ?_
    rintro v31 _ ⟨G31, hV31, _, rfl⟩
    obtain ⟨a31, c31, rfl⟩ := hV31.slice
    refine RL ?_
    refine l_nil ?_
    refine c_region ?_
    refine RL ?_
    refine l_as (v := (.int .i64 ((i + 1 : Nat) : Int))) rfl rfl rfl (congrArg _ (succ_law o_m)) ?_
    refine RL ?_
    refine l_nil ?_
    exact ⟨(i + 1, .slice a31 _ c31, G31), ⟨by omega, hV31.as rfl (by rw [lgN_succ, List.map_append]; rfl)⟩, by show 8 - (i + 1) < 8 - i; omega, .cons rfl (.cons rfl .nil), a_g, fun w h => (h.sub (List.sublist_append_left _ _)).as (List.append_nil _).symm⟩
  ·have h1n := r_f h1
   refine c_exit rfl ?_
   refine c_seq ?_
   obtain rfl : i = 8 := by omega
   obtain ⟨ax, cx, hsl, hcx, hgv⟩ := Lst.of_vec hVi
   cases hsl
   refine c_region ?_
   refine RL ?_
   refine l_x (x_val call_83 rfl (fun w hw => qbyteOf_fn (lgN k a b 8) (lgN_ok _ _ _ _) (by rw [lgN_len]; omega) ai ci w (Gives.ns hgv hw (fun x hx => List.mem_append_left _ hx)))) rfl rfl ?_
   rintro _ _ ⟨rfl, rfl⟩
   refine RL ?_
   refine l_nil ?_
   refine c_seq ?_
   refine c_region ?_
   iterate 5 refine RL ?_
   refine RLv call_46 (fun w hw => qflags_fn _ _ _ _ w) ?_
   refine RL ?_
   refine RL ?_
   refine l_nil ?_
   refine c_ret ?_
   exact l_end0 (fun _ _ => rets_two rfl rfl) ⟨rfl, rfl⟩

theorem qinc_fn (a f : Int) (ha : 0 ≤ a ∧ a < 256) (hf : 0 ≤ f ∧ f < 256) (w : World) : Does Tryz.prog 41 [.int .u8 a, .int .u8 f] w [] (fun v H => H = [] ∧ v = .tuple #[.int .u8 (incR a), .int .u8 (incF a f)]) := by
 refine does_of Tryz.func41 rfl rfl rfl (St.refl w) ?_
 refine c_seq ?_
 refine c_region ?_
 refine RL ?_
 refine RL ?_
 refine l_nil ?_
 refine c_seq ?_
 refine c_region ?_
 refine RL ?_
 refine RLv call_77 (fun w hw => qadd_fn a 1 false ha (by decide) w) ?_
 iterate 5 refine RL ?_
 refine l_nil ?_
 refine c_seq ?_
 refine c_region ?_
 iterate 4 refine RL ?_
 refine RLv call_80 (fun w hw => qH_fn _ (fl_byte _ _ _ _) w) ?_
 refine RL ?_
 refine RLv call_35 (fun w hw => qC_fn f hf w) ?_
 refine RLv call_46 (fun w hw => qflags_fn _ _ _ _ w) ?_
 refine RL ?_
 refine RL ?_
 refine l_nil ?_
 refine c_ret ?_
 have e9 := inc_eq ha f
 exact l_end0 (fun _ _ => rets_two rfl rfl) ⟨rfl, (congrArg Value.tuple ((congrArg (fun x => #[Value.int .u8 (addR a 1 false), Value.int .u8 x]) e9.2).trans (congrArg (fun x => #[Value.int .u8 x, Value.int .u8 (incF a f)]) e9.1)))⟩

theorem qdec_fn (a f : Int) (ha : 0 ≤ a ∧ a < 256) (hf : 0 ≤ f ∧ f < 256) (w : World) : Does Tryz.prog 42 [.int .u8 a, .int .u8 f] w [] (fun v H => H = [] ∧ v = .tuple #[.int .u8 (decR a), .int .u8 (decF a f)]) := by
 refine does_of Tryz.func42 rfl rfl rfl (St.refl w) ?_
 refine c_seq ?_
 refine c_region ?_
 refine RL ?_
 refine RL ?_
 refine l_nil ?_
 refine c_seq ?_
 refine c_region ?_
 refine RL ?_
 refine RLv call_78 (fun w hw => qsub_fn a 1 false ha (by decide) w) ?_
 iterate 5 refine RL ?_
 refine l_nil ?_
 refine c_seq ?_
 refine c_region ?_
 iterate 4 refine RL ?_
 refine RLv call_80 (fun w hw => qH_fn _ (fl_byte _ _ _ _) w) ?_
 refine RL ?_
 refine RLv call_35 (fun w hw => qC_fn f hf w) ?_
 refine RLv call_46 (fun w hw => qflags_fn _ _ _ _ w) ?_
 refine RL ?_
 refine RL ?_
 refine l_nil ?_
 refine c_ret ?_
 have e9 := dec_eq ha f
 exact l_end0 (fun _ _ => rets_two rfl rfl) ⟨rfl, (congrArg Value.tuple ((congrArg (fun x => #[Value.int .u8 (subR a 1 false), Value.int .u8 x]) e9.2).trans (congrArg (fun x => #[Value.int .u8 x, Value.int .u8 (decF a f)]) e9.1)))⟩

theorem qdaa_fn (a f : Int) (ha : 0 ≤ a ∧ a < 256) (hf : 0 ≤ f ∧ f < 256) (w : World) : Does Tryz.prog 47 [.int .u8 a, .int .u8 f] w [] (fun v H => H = [] ∧ v = .tuple #[.int .u8 (daaR a f), .int .u8 (daaF a f)]) := by
 refine does_of Tryz.func47 rfl rfl rfl (St.refl w) ?_
 refine c_seq ?_
 refine c_region ?_
 refine RL ?_
 refine RL ?_
 refine l_nil ?_
 refine c_seq ?_
 refine c_region ?_
 refine RL ?_
 refine l_as (l_conv rfl rfl rfl) rfl rfl (by first | exact as_i64 o_m o_m | rfl) ?_
 refine RL ?_
 refine RLv call_35 (fun w hw => qC_fn f hf w) ?_
 refine RL ?_
 refine RL ?_
 refine l_nil ?_
 refine c_cut (σ := Unit) [16, 17, 18, 19, 20, 21, 22, 23, 24, 25, 26, 27, 28, 29, 30, 31, 32, 33, 34, 35, 36, 37, 38, 39, 6, 7, 8, 14, 15] (fun _ => [(6, .int .i64 (daaX a f)), (7, .bool (daaC a f))]) (fun _ => []) (fun _ => True) ?_ ?_
 ·refine c_seq ?_
  refine c_region ?_
  refine RL ?_
  refine RLv call_84 (fun w hw => qN_fn f hf w) ?_
  refine l_nil ?_
  refine c_cond rfl (fun h1 => ?_) (fun h1 => ?_)
  ·have h1n := r_f h1
   refine c_seq ?_
   refine c_seq ?_
   refine c_region ?_
   refine RL ?_
   refine RLv call_80 (fun w hw => qH_fn f hf w) ?_
   refine l_nil ?_
   refine c_cond rfl (fun h2 => ?_) (fun h2 => ?_)
   ·have h2n := r_f h2
    refine c_region ?_
    refine RL ?_
    refine l_as (l_sub rfl rfl) rfl rfl (by first | exact as_i64 o_m o_m | rfl) ?_
    refine RL ?_
    refine l_nil ?_
    refine c_seq ?_
    refine c_region ?_
    refine RL ?_
    refine l_nil ?_
    refine c_cond rfl (fun h3 => ?_) (fun h3 => ?_)
    ·have h3n := r_f h3
     refine c_region ?_
     refine RL ?_
     refine l_as (l_sub rfl rfl) rfl rfl (by first | exact as_i64 o_m o_m | rfl) ?_
     refine RL ?_
     refine l_nil ?_
     exact ⟨(), trivial, .cons (congrArg (Value.int .i64) (by unfold daaX daaB daaC daaL; simp_all [fg]; all_goals (repeat' split); all_goals omega)) (.cons (congrArg Value.bool (by unfold daaC; simp_all; all_goals omega)) .nil), a_g, fun _ h => h⟩
    ·have h3n := r_f h3
     refine c_skip ?_
     exact ⟨(), trivial, .cons (congrArg (Value.int .i64) (by unfold daaX daaB daaC daaL; simp_all [fg]; all_goals (repeat' split); all_goals omega)) (.cons (congrArg Value.bool (by unfold daaC; simp_all; all_goals omega)) .nil), a_g, fun _ h => h⟩
   ·have h2n := r_f h2
    refine c_skip ?_
    refine c_seq ?_
    refine c_region ?_
    refine RL ?_
    refine l_nil ?_
    refine c_cond rfl (fun h4 => ?_) (fun h4 => ?_)
    ·have h4n := r_f h4
     refine c_region ?_
     refine RL ?_
     refine l_as (l_sub rfl rfl) rfl rfl (by first | exact as_i64 o_m o_m | rfl) ?_
     refine RL ?_
     refine l_nil ?_
     exact ⟨(), trivial, .cons (congrArg (Value.int .i64) (by unfold daaX daaB daaC daaL; simp_all [fg]; all_goals (repeat' split); all_goals omega)) (.cons (congrArg Value.bool (by unfold daaC; simp_all; all_goals omega)) .nil), a_g, fun _ h => h⟩
    ·have h4n := r_f h4
     refine c_skip ?_
     exact ⟨(), trivial, .cons (congrArg (Value.int .i64) (by unfold daaX daaB daaC daaL; simp_all [fg]; all_goals (repeat' split); all_goals omega)) (.cons (congrArg Value.bool (by unfold daaC; simp_all; all_goals omega)) .nil), a_g, fun _ h => h⟩
  ·have h1n := r_f h1
   refine c_seq ?_
   refine c_region ?_
   refine RL ?_
   refine RLv call_80 (fun w hw => qH_fn f hf w) ?_
   refine RLb (fun h5 => ?_) (fun h5 => ?_)
   ·have h5n := r_f h5
    iterate 3 refine RLp ?_
    refine RL ?_
    refine RL ?_
    refine l_nil ?_
    refine c_seq ?_
    refine c_seq ?_
    refine c_region ?_
    refine RL ?_
    refine RLb (fun h6 => ?_) (fun h6 => ?_)
    ·have h6n := r_f h6
     refine RLp ?_
     refine RLp ?_
     refine RL ?_
     refine l_nil ?_
     refine c_true rfl ?_
     refine c_seq ?_
     refine c_region ?_
     refine RL ?_
     refine l_as (l_add rfl rfl) rfl rfl (by first | exact as_i64 o_m o_m | rfl) ?_
     refine RL ?_
     refine l_nil ?_
     refine c_region ?_
     refine RL ?_
     refine l_nil ?_
     refine c_seq ?_
     refine c_region ?_
     refine RL ?_
     refine l_nil ?_
     refine c_true rfl ?_
     refine c_region ?_
     refine RL ?_
     refine l_as (l_add rfl rfl) rfl rfl (by first | exact as_i64 o_m o_m | rfl) ?_
     refine RL ?_
     refine l_nil ?_
     exact ⟨(), trivial, .cons (congrArg (Value.int .i64) (by unfold daaX daaB daaC daaL; simp_all [fg]; all_goals (repeat' split); all_goals omega)) (.cons (congrArg Value.bool (by unfold daaC; simp_all; all_goals omega)) .nil), a_g, fun _ h => h⟩
    ·have h6n := r_f h6
     iterate 3 refine RL ?_
     refine l_nil ?_
     refine c_cond rfl (fun h7 => ?_) (fun h7 => ?_)
     ·have h7n := r_f h7
      refine c_seq ?_
      refine c_region ?_
      refine RL ?_
      refine l_as (l_add rfl rfl) rfl rfl (by first | exact as_i64 o_m o_m | rfl) ?_
      refine RL ?_
      refine l_nil ?_
      refine c_region ?_
      refine RL ?_
      refine l_nil ?_
      refine c_seq ?_
      refine c_region ?_
      refine RL ?_
      refine l_nil ?_
      refine c_true rfl ?_
      refine c_region ?_
      refine RL ?_
      refine l_as (l_add rfl rfl) rfl rfl (by first | exact as_i64 o_m o_m | rfl) ?_
      refine RL ?_
      refine l_nil ?_
      exact ⟨(), trivial, .cons (congrArg (Value.int .i64) (by unfold daaX daaB daaC daaL; simp_all [fg]; all_goals (repeat' split); all_goals omega)) (.cons (congrArg Value.bool (by unfold daaC; simp_all; all_goals omega)) .nil), a_g, fun _ h => h⟩
     ·have h7n := r_f h7
      refine c_skip ?_
      refine c_seq ?_
      refine c_region ?_
      refine RL ?_
      refine l_nil ?_
      refine c_true rfl ?_
      refine c_region ?_
      refine RL ?_
      refine l_as (l_add rfl rfl) rfl rfl (by first | exact as_i64 o_m o_m | rfl) ?_
      refine RL ?_
      refine l_nil ?_
      exact ⟨(), trivial, .cons (congrArg (Value.int .i64) (by unfold daaX daaB daaC daaL; simp_all [fg]; all_goals (repeat' split); all_goals omega)) (.cons (congrArg Value.bool (by unfold daaC; simp_all; all_goals omega)) .nil), a_g, fun _ h => h⟩
   ·have h5n := r_f h5
    refine RL ?_
    refine l_as (rem_pos rfl rfl (by decide)) rfl rfl (by first | exact as_rem o_m | rfl) ?_
    iterate 3 refine RL ?_
    refine l_nil ?_
    refine c_seq ?_
    refine c_seq ?_
    refine c_region ?_
    refine RL ?_
    refine RLb (fun h8 => ?_) (fun h8 => ?_)
    ·have h8n := r_f h8
     refine RLp ?_
     refine RLp ?_
     refine RL ?_
     refine l_nil ?_
     refine c_true rfl ?_
     refine c_seq ?_
     refine c_region ?_
     refine RL ?_
     refine l_as (l_add rfl rfl) rfl rfl (by first | exact as_i64 o_m o_m | rfl) ?_
     refine RL ?_
     refine l_nil ?_
     refine c_region ?_
     refine RL ?_
     refine l_nil ?_
     refine c_seq ?_
     refine c_region ?_
     refine RL ?_
     refine l_nil ?_
     refine c_cond rfl (fun h9 => ?_) (fun h9 => ?_)
     ·have h9n := r_f h9
      refine c_region ?_
      refine RL ?_
      refine l_as (l_add rfl rfl) rfl rfl (by first | exact as_i64 o_m o_m | rfl) ?_
      refine RL ?_
      refine l_nil ?_
      exact ⟨(), trivial, .cons (congrArg (Value.int .i64) (by unfold daaX daaB daaC daaL; simp_all [fg]; all_goals (repeat' split); all_goals omega)) (.cons (congrArg Value.bool (by unfold daaC; simp_all; all_goals omega)) .nil), a_g, fun _ h => h⟩
     ·have h9n := r_f h9
      refine c_skip ?_
      exact ⟨(), trivial, .cons (congrArg (Value.int .i64) (by unfold daaX daaB daaC daaL; simp_all [fg]; all_goals (repeat' split); all_goals omega)) (.cons (congrArg Value.bool (by unfold daaC; simp_all; all_goals omega)) .nil), a_g, fun _ h => h⟩
    ·have h8n := r_f h8
     iterate 3 refine RL ?_
     refine l_nil ?_
     refine c_cond rfl (fun h10 => ?_) (fun h10 => ?_)
     ·have h10n := r_f h10
      refine c_seq ?_
      refine c_region ?_
      refine RL ?_
      refine l_as (l_add rfl rfl) rfl rfl (by first | exact as_i64 o_m o_m | rfl) ?_
      refine RL ?_
      refine l_nil ?_
      refine c_region ?_
      refine RL ?_
      refine l_nil ?_
      refine c_seq ?_
      refine c_region ?_
      refine RL ?_
      refine l_nil ?_
      refine c_cond rfl (fun h11 => ?_) (fun h11 => ?_)
      ·have h11n := r_f h11
       refine c_region ?_
       refine RL ?_
       refine l_as (l_add rfl rfl) rfl rfl (by first | exact as_i64 o_m o_m | rfl) ?_
       refine RL ?_
       refine l_nil ?_
       exact ⟨(), trivial, .cons (congrArg (Value.int .i64) (by unfold daaX daaB daaC daaL; simp_all [fg]; all_goals (repeat' split); all_goals omega)) (.cons (congrArg Value.bool (by unfold daaC; simp_all; all_goals omega)) .nil), a_g, fun _ h => h⟩
      ·have h11n := r_f h11
       refine c_skip ?_
       exact ⟨(), trivial, .cons (congrArg (Value.int .i64) (by unfold daaX daaB daaC daaL; simp_all [fg]; all_goals (repeat' split); all_goals omega)) (.cons (congrArg Value.bool (by unfold daaC; simp_all; all_goals omega)) .nil), a_g, fun _ h => h⟩
     ·have h10n := r_f h10
      refine c_skip ?_
      refine c_seq ?_
      refine c_region ?_
      refine RL ?_
      refine l_nil ?_
      refine c_cond rfl (fun h12 => ?_) (fun h12 => ?_)
      ·have h12n := r_f h12
       refine c_region ?_
       refine RL ?_
       refine l_as (l_add rfl rfl) rfl rfl (by first | exact as_i64 o_m o_m | rfl) ?_
       refine RL ?_
       refine l_nil ?_
       exact ⟨(), trivial, .cons (congrArg (Value.int .i64) (by unfold daaX daaB daaC daaL; simp_all [fg]; all_goals (repeat' split); all_goals omega)) (.cons (congrArg Value.bool (by unfold daaC; simp_all; all_goals omega)) .nil), a_g, fun _ h => h⟩
      ·have h12n := r_f h12
       refine c_skip ?_
       exact ⟨(), trivial, .cons (congrArg (Value.int .i64) (by unfold daaX daaB daaC daaL; simp_all [fg]; all_goals (repeat' split); all_goals omega)) (.cons (congrArg Value.bool (by unfold daaC; simp_all; all_goals omega)) .nil), a_g, fun _ h => h⟩
 ·rintro _ y2 _
  have hx9 := daaX_le ha f
  refine c_seq ?_
  refine c_region ?_
  refine RL ?_
  refine l_as (v := (.int .i64 (daaX a f + 512))) rfl rfl rfl (as_i64 o_m o_m) ?_
  refine l_as (v := (.int .i64 (daaR a f))) (rem_pos rfl rfl (by decide)) rfl rfl (congrArg _ ((Int.tmod_eq_emod_of_nonneg o_m).trans (daaX_eq a f))) ?_
  refine l_as (v := (.int .u8 (daaR a f))) rfl rfl rfl (as_u8 daaR_ok.1 daaR_ok.2) ?_
  refine RL ?_
  refine l_nil ?_
  refine c_seq ?_
  refine c_region ?_
  iterate 4 refine RL ?_
  refine RLv call_84 (fun w hw => qN_fn f hf w) ?_
  refine RL ?_
  refine RLv call_46 (fun w hw => qflags_fn _ _ _ _ w) ?_
  refine RL ?_
  refine RL ?_
  refine l_nil ?_
  refine c_ret ?_
  exact l_end0 (fun _ _ => rets_two rfl rfl) ⟨rfl, rfl⟩

theorem qbitF_fn (n a f : Int) (ha : 0 ≤ a ∧ a < 256) (hf : 0 ≤ f ∧ f < 256) (w : World) : Does Tryz.prog 51 [.int .i64 n, .int .u8 a, .int .u8 f] w [] (fun v H => H = [] ∧ v = .int .u8 (bitF n a f)) := by
 have hk9 := kmod_le n
 refine does_of Tryz.func51 rfl rfl rfl (St.refl w) ?_
 refine c_seq ?_
 refine c_region ?_
 refine RL ?_
 refine l_nil ?_
 refine c_seq ?_
 refine c_region ?_
 refine RL ?_
 refine RL ?_
 refine l_as (v := (.int .i64 (n.tmod 8))) (rem_pos rfl rfl (by decide)) rfl rfl rfl ?_
 refine l_as (v := (.int .i64 (n.tmod 8 + 8))) rfl rfl rfl (as_i64 o_m o_m) ?_
 refine l_as (v := (.int .i64 ((n % 8).toNat : Int))) (rem_pos rfl rfl (by decide)) rfl rfl (congrArg _ ((kmod n).trans o_m)) ?_
 refine RLv call_81 (fun w hw => qbit_fn a (n % 8).toNat ha o_m w) ?_
 refine RL ?_
 refine RL ?_
 refine RLv call_35 (fun w hw => qC_fn f hf w) ?_
 refine RLv call_46 (fun w hw => qflags_fn _ _ _ _ w) ?_
 refine RL ?_
 refine l_nil ?_
 refine c_ret ?_
 exact l_end0 (fun _ _ => rets_v rfl) ⟨rfl, rfl⟩

theorem qadd16_fn (a b f : Int) (ha : 0 ≤ a ∧ a < 65536) (hb : 0 ≤ b ∧ b < 65536) (hf : 0 ≤ f ∧ f < 256) (w : World) : Does Tryz.prog 44 [.int .u16 a, .int .u16 b, .int .u8 f] w [] (fun v H => H = [] ∧ v = .tuple #[.int .u16 (add16R a b), .int .u8 (add16F a b f)]) := by
 refine does_of Tryz.func44 rfl rfl rfl (St.refl w) ?_
 refine c_seq ?_
 refine c_region ?_
 refine RL ?_
 refine RL ?_
 refine l_nil ?_
 refine c_seq ?_
 refine c_region ?_
 refine RL ?_
 refine l_as (l_conv rfl rfl rfl) rfl rfl (by first | exact as_i64 o_m o_m | rfl) ?_
 refine RL ?_
 refine l_as (l_conv rfl rfl rfl) rfl rfl (by first | exact as_i64 o_m o_m | rfl) ?_
 refine RL ?_
 refine RL ?_
 refine l_nil ?_
 refine c_seq ?_
 refine c_region ?_
 refine RL ?_
 refine RL ?_
 refine l_as (l_add rfl rfl) rfl rfl (by first | exact as_i64 o_m o_m | rfl) ?_
 refine l_as (rem_pos rfl rfl (by decide)) rfl rfl (by first | exact as_rem o_m | rfl) ?_
 refine l_as (l_conv rfl rfl rfl) rfl rfl (by first | exact as_u16 o_m o_m | exact as_u16m _) ?_
 refine RL ?_
 refine RLv call_34 (fun w hw => qZ_fn f hf w) ?_
 refine RL ?_
 refine l_as (rem_pos rfl rfl (by decide)) rfl rfl (by first | exact as_rem o_m | rfl) ?_
 refine RL ?_
 refine l_as (rem_pos rfl rfl (by decide)) rfl rfl (by first | exact as_rem o_m | rfl) ?_
 refine l_as (l_add rfl rfl) rfl rfl (by first | exact as_i64 o_m o_m | rfl) ?_
 iterate 3 refine RL ?_
 refine l_as (l_add rfl rfl) rfl rfl (by first | exact as_i64 o_m o_m | rfl) ?_
 refine RL ?_
 refine RLv call_46 (fun w hw => qflags_fn _ _ _ _ w) ?_
 refine RL ?_
 refine RL ?_
 refine l_nil ?_
 refine c_ret ?_
 exact l_end0 (fun _ _ => rets_two rfl rfl) ⟨rfl, rfl⟩

theorem qshift_fn (a e : Int) (ha : 0 ≤ a ∧ a < 65536) (he : 0 ≤ e ∧ e < 256) (w : World) : Does Tryz.prog 50 [.int .u16 a, .int .u8 e] w [] (fun v H => H = [] ∧ v = .tuple #[.int .u16 (shR a e), .int .u8 (shF a e)]) := by
 refine does_of Tryz.func50 rfl rfl rfl (St.refl w) ?_
 refine c_seq ?_
 refine c_region ?_
 refine RL ?_
 refine RL ?_
 refine l_nil ?_
 refine c_seq ?_
 refine c_region ?_
 refine RL ?_
 refine l_as (l_conv rfl rfl rfl) rfl rfl (by first | exact as_i64 o_m o_m | rfl) ?_
 refine RL ?_
 refine l_as (l_conv rfl rfl rfl) rfl rfl (by first | exact as_i64 o_m o_m | rfl) ?_
 refine RL ?_
 refine RL ?_
 refine l_nil ?_
 refine c_seq ?_
 refine c_region ?_
 refine RL ?_
 refine RL ?_
 refine l_nil ?_
 refine c_cut (σ := Unit) [8, 14, 15, 16, 17] (fun _ => [(8, .int .i64 (s8 e))]) (fun _ => []) (fun _ => True) ?_ ?_
 ·refine c_seq ?_
  refine c_region ?_
  refine RL ?_
  refine RL ?_
  refine l_nil ?_
  refine c_cond rfl (fun h1 => ?_) (fun h1 => ?_)
  ·have h1n := r_f h1
   refine c_region ?_
   refine RL ?_
   refine l_as (l_sub rfl rfl) rfl rfl (by first | exact as_i64 o_m o_m | rfl) ?_
   refine RL ?_
   refine l_nil ?_
   exact ⟨(), trivial, .cons (congrArg (Value.int .i64) (by unfold s8; rw [if_pos o_m])) .nil, a_g, fun _ h => h⟩
  ·have h1n := r_f h1
   refine c_skip ?_
   exact ⟨(), trivial, .cons (congrArg (Value.int .i64) (by unfold s8; rw [if_neg o_m])) .nil, a_g, fun _ h => h⟩
 ·rintro _ y3 _
  have hs9 : -128 ≤ s8 e ∧ s8 e < 128 := by unfold s8; split <;> omega
  refine c_seq ?_
  refine c_region ?_
  refine RL ?_
  refine RL ?_
  refine l_as (l_add rfl rfl) rfl rfl (by first | exact as_i64 o_m o_m | rfl) ?_
  refine l_as (l_add rfl rfl) rfl rfl (by first | exact as_i64 o_m o_m | rfl) ?_
  refine l_as (v := (.int .i64 (shR a e))) (rem_pos rfl rfl (by decide)) rfl rfl (congrArg _ ((Int.tmod_eq_emod_of_nonneg o_m).trans (show (a + s8 e + 65536) % 65536 = (a + s8 e) % 65536 by omega))) ?_
  refine l_as (v := (.int .u16 (shR a e))) rfl rfl rfl (as_u16 shR_ok.1 shR_ok.2) ?_
  refine RL ?_
  refine l_as (rem_pos rfl rfl (by decide)) rfl rfl (by first | exact as_rem o_m | rfl) ?_
  refine RL ?_
  refine l_as (rem_pos rfl rfl (by decide)) rfl rfl (by first | exact as_rem o_m | rfl) ?_
  refine l_as (l_add rfl rfl) rfl rfl (by first | exact as_i64 o_m o_m | rfl) ?_
  refine RL ?_
  refine RL ?_
  refine l_as (rem_pos rfl rfl (by decide)) rfl rfl (by first | exact as_rem o_m | rfl) ?_
  refine RL ?_
  refine l_as (l_add rfl rfl) rfl rfl (by first | exact as_i64 o_m o_m | rfl) ?_
  refine RL ?_
  refine RLv call_46 (fun w hw => qflags_fn _ _ _ _ w) ?_
  refine RL ?_
  refine RL ?_
  refine l_nil ?_
  refine c_ret ?_
  exact l_end0 (fun _ _ => rets_two rfl rfl) ⟨rfl, rfl⟩

theorem qword_fn (h l : Int) (hh : 0 ≤ h ∧ h < 256) (hl : 0 ≤ l ∧ l < 256) (w : World) : Does Tryz.prog 85 [.int .u8 h, .int .u8 l] w [] (fun v H => H = [] ∧ v = .int .u16 (h * 256 + l)) := by
 refine does_of Tryz.func85 rfl rfl rfl (St.refl w) ?_
 refine c_seq ?_
 refine c_region ?_
 refine RL ?_
 refine l_nil ?_
 refine c_seq ?_
 refine c_region ?_
 refine RL ?_
 refine l_as (l_conv rfl rfl rfl) rfl rfl (by first | exact as_i64 o_m o_m | rfl) ?_
 refine l_as (l_mul rfl rfl) rfl rfl (by first | exact as_i64 o_m o_m | rfl) ?_
 refine RL ?_
 refine l_as (l_conv rfl rfl rfl) rfl rfl (by first | exact as_i64 o_m o_m | rfl) ?_
 refine l_as (l_add rfl rfl) rfl rfl (by first | exact as_i64 o_m o_m | rfl) ?_
 refine l_as (l_conv rfl rfl rfl) rfl rfl (by first | exact as_u16 o_m o_m | exact as_u16m _) ?_
 refine RL ?_
 refine l_nil ?_
 refine c_ret ?_
 exact l_end0 (fun _ _ => rets_v rfl) ⟨rfl, rfl⟩

end Go.Proofs.YtjjemehigdpboaaGreat
namespace Go.Proofs.YtjjemehigdpboaaGreat
open Go Go.VV Go.Proofs
set_option linter.unusedSimpArgs false
set_option linter.unusedVariables false
set_option maxRecDepth 100000
theorem qget_fn (r : CR) (n : Int) (w : World) : Does Tryz.prog 76 [.agg (cR r).toArray, .int .i64 n] w [] (fun v H => H = [] ∧ ∃ k : Int, v = .tuple #[.int .u8 (getR r n), .int .i64 k]) := by
 refine does_of Tryz.func76 rfl rfl rfl (St.refl w) ?_
 refine c_seq ?_
 refine c_region ?_
 refine l_x (x_box (l := cR r) rfl rfl) rfl rfl ?_
 rintro _ _ ⟨b2, rfl, rfl⟩
 refine RL ?_
 refine RL ?_
 refine l_nil ?_
 refine c_seq ?_
 refine c_seq ?_
 refine c_region ?_
 refine RL ?_
 refine l_nil ?_
 refine c_block ?_
 refine c_seq ?_
 refine c_region ?_
 refine RL ?_
 refine RL ?_
 refine l_nil ?_
 refine c_cond rfl (fun h1 => ?_) (fun h1 => ?_)
 ·have h1n := r_f h1
  refine c_seq ?_
  refine c_region ?_
  refine RLa ?_
  refine RLo ?_
  refine RL ?_
  refine RL ?_
  refine l_nil ?_
  refine c_ret ?_
  obtain rfl : n = 0 := by omega
  exact l_end0 (fun _ _ => rets_v2 rfl rfl) ⟨rfl, _, rfl⟩
 ·have h1n := r_f h1
  refine c_seq ?_
  refine c_region ?_
  refine RL ?_
  refine RL ?_
  refine l_nil ?_
  refine c_cond rfl (fun h2 => ?_) (fun h2 => ?_)
  ·have h2n := r_f h2
   refine c_seq ?_
   refine c_region ?_
   refine RLa ?_
   refine RLo ?_
   refine RL ?_
   refine RL ?_
   refine l_nil ?_
   refine c_ret ?_
   obtain rfl : n = 1 := by omega
   exact l_end0 (fun _ _ => rets_v2 rfl rfl) ⟨rfl, _, rfl⟩
  ·have h2n := r_f h2
   refine c_seq ?_
   refine c_region ?_
   refine RL ?_
   refine RL ?_
   refine l_nil ?_
   refine c_cond rfl (fun h3 => ?_) (fun h3 => ?_)
   ·have h3n := r_f h3
    refine c_seq ?_
    refine c_region ?_
    refine RLa ?_
    refine RLo ?_
    refine RL ?_
    refine RL ?_
    refine l_nil ?_
    refine c_ret ?_
    obtain rfl : n = 2 := by omega
    exact l_end0 (fun _ _ => rets_v2 rfl rfl) ⟨rfl, _, rfl⟩
   ·have h3n := r_f h3
    refine c_seq ?_
    refine c_region ?_
    refine RL ?_
    refine RL ?_
    refine l_nil ?_
    refine c_cond rfl (fun h4 => ?_) (fun h4 => ?_)
    ·have h4n := r_f h4
     refine c_seq ?_
     refine c_region ?_
     refine RLa ?_
     refine RLo ?_
     refine RL ?_
     refine RL ?_
     refine l_nil ?_
     refine c_ret ?_
     obtain rfl : n = 3 := by omega
     exact l_end0 (fun _ _ => rets_v2 rfl rfl) ⟨rfl, _, rfl⟩
    ·have h4n := r_f h4
     refine c_seq ?_
     refine c_region ?_
     refine RL ?_
     refine RL ?_
     refine l_nil ?_
     refine c_cond rfl (fun h5 => ?_) (fun h5 => ?_)
     ·have h5n := r_f h5
      refine c_seq ?_
      refine c_region ?_
      refine RLa ?_
      refine RLo ?_
      refine RL ?_
      refine RL ?_
      refine l_nil ?_
      refine c_ret ?_
      obtain rfl : n = 4 := by omega
      exact l_end0 (fun _ _ => rets_v2 rfl rfl) ⟨rfl, _, rfl⟩
     ·have h5n := r_f h5
      refine c_seq ?_
      refine c_region ?_
      refine RL ?_
      refine RL ?_
      refine l_nil ?_
      refine c_cond rfl (fun h6 => ?_) (fun h6 => ?_)
      ·have h6n := r_f h6
       refine c_seq ?_
       refine c_region ?_
       refine RLa ?_
       refine RLo ?_
       refine RL ?_
       refine RL ?_
       refine l_nil ?_
       refine c_ret ?_
       obtain rfl : n = 5 := by omega
       exact l_end0 (fun _ _ => rets_v2 rfl rfl) ⟨rfl, _, rfl⟩
      ·have h6n := r_f h6
       refine c_seq ?_
       refine c_region ?_
       refine RL ?_
       refine RL ?_
       refine l_nil ?_
       refine c_cond rfl (fun h7 => ?_) (fun h7 => ?_)
       ·have h7n := r_f h7
        refine c_seq ?_
        refine c_region ?_
        refine RLa ?_
        refine RLo ?_
        refine RL ?_
        refine RL ?_
        refine l_nil ?_
        refine c_ret ?_
        obtain rfl : n = 7 := by omega
        exact l_end0 (fun _ _ => rets_v2 rfl rfl) ⟨rfl, _, rfl⟩
       ·have h7n := r_f h7
        refine c_skip ?_
        refine c_seq ?_
        refine c_region ?_
        refine RL ?_
        refine RL ?_
        refine l_nil ?_
        refine c_ret ?_
        exact l_end0 (fun _ _ => rets_v2 rfl rfl) ⟨rfl, _, by rw [getR_no (by unfold NoR; omega)]⟩

theorem qset_fn (r : CR) (n x : Int) (w : World) : Does Tryz.prog 75 [.agg (cR r).toArray, .int .i64 n, .int .u8 x] w [] (fun v H => H = [] ∧ ∃ k : Int, v = .tuple #[.agg (cR (setR r n x)).toArray, .int .i64 k]) := by
 refine does_of Tryz.func75 rfl rfl rfl (St.refl w) ?_
 refine c_seq ?_
 refine c_region ?_
 refine l_x (x_box (l := cR r) rfl rfl) rfl rfl ?_
 rintro _ _ ⟨b3, rfl, rfl⟩
 refine l_x (x_alloc rfl) rfl rfl ?_
 rintro _ _ ⟨b6, rfl, rfl⟩
 refine RL ?_
 refine l_nil ?_
 refine c_seq ?_
 refine c_seq ?_
 refine c_region ?_
 refine RL ?_
 refine l_nil ?_
 refine c_block ?_
 refine c_seq ?_
 refine c_region ?_
 refine RL ?_
 refine RL ?_
 refine l_nil ?_
 refine c_cond rfl (fun h1 => ?_) (fun h1 => ?_)
 ·have h1n := r_f h1
  refine c_region ?_
  refine RL ?_
  refine RLa ?_
  refine l_x s_t rfl rfl ?_
  rintro _ _ ⟨rfl, rfl⟩
  refine l_nil ?_
  refine c_seq ?_
  refine c_region ?_
  refine l_x (x_loadA rfl rfl rfl (by first | exact row_own m_m | exact row_own_at m_m _ 10 rfl)) rfl rfl ?_
  rintro _ _ ⟨rfl, rfl⟩
  refine l_x s_t rfl rfl ?_
  rintro _ _ ⟨rfl, rfl⟩
  refine RL ?_
  refine l_nil ?_
  refine c_ret ?_
  obtain rfl : n = 0 := by omega
  exact l_end0 (fun w hw => rets_cell2 rfl rfl rfl (row_own (b := b6) (l := cR (setR r 0 x)) m_m w hw) rfl) ⟨rfl, _, rfl⟩
 ·have h1n := r_f h1
  refine c_seq ?_
  refine c_region ?_
  refine RL ?_
  refine RL ?_
  refine l_nil ?_
  refine c_cond rfl (fun h2 => ?_) (fun h2 => ?_)
  ·have h2n := r_f h2
   refine c_region ?_
   refine RL ?_
   refine RLa ?_
   refine l_x s_t rfl rfl ?_
   rintro _ _ ⟨rfl, rfl⟩
   refine l_nil ?_
   refine c_seq ?_
   refine c_region ?_
   refine l_x (x_loadA rfl rfl rfl (by first | exact row_own m_m | exact row_own_at m_m _ 10 rfl)) rfl rfl ?_
   rintro _ _ ⟨rfl, rfl⟩
   refine l_x s_t rfl rfl ?_
   rintro _ _ ⟨rfl, rfl⟩
   refine RL ?_
   refine l_nil ?_
   refine c_ret ?_
   obtain rfl : n = 1 := by omega
   exact l_end0 (fun w hw => rets_cell2 rfl rfl rfl (row_own (b := b6) (l := cR (setR r 1 x)) m_m w hw) rfl) ⟨rfl, _, rfl⟩
  ·have h2n := r_f h2
   refine c_seq ?_
   refine c_region ?_
   refine RL ?_
   refine RL ?_
   refine l_nil ?_
   refine c_cond rfl (fun h3 => ?_) (fun h3 => ?_)
   ·have h3n := r_f h3
    refine c_region ?_
    refine RL ?_
    refine RLa ?_
    refine l_x s_t rfl rfl ?_
    rintro _ _ ⟨rfl, rfl⟩
    refine l_nil ?_
    refine c_seq ?_
    refine c_region ?_
    refine l_x (x_loadA rfl rfl rfl (by first | exact row_own m_m | exact row_own_at m_m _ 10 rfl)) rfl rfl ?_
    rintro _ _ ⟨rfl, rfl⟩
    refine l_x s_t rfl rfl ?_
    rintro _ _ ⟨rfl, rfl⟩
    refine RL ?_
    refine l_nil ?_
    refine c_ret ?_
    obtain rfl : n = 2 := by omega
    exact l_end0 (fun w hw => rets_cell2 rfl rfl rfl (row_own (b := b6) (l := cR (setR r 2 x)) m_m w hw) rfl) ⟨rfl, _, rfl⟩
   ·have h3n := r_f h3
    refine c_seq ?_
    refine c_region ?_
    refine RL ?_
    refine RL ?_
    refine l_nil ?_
    refine c_cond rfl (fun h4 => ?_) (fun h4 => ?_)
    ·have h4n := r_f h4
     refine c_region ?_
     refine RL ?_
     refine RLa ?_
     refine l_x s_t rfl rfl ?_
     rintro _ _ ⟨rfl, rfl⟩
     refine l_nil ?_
     refine c_seq ?_
     refine c_region ?_
     refine l_x (x_loadA rfl rfl rfl (by first | exact row_own m_m | exact row_own_at m_m _ 10 rfl)) rfl rfl ?_
     rintro _ _ ⟨rfl, rfl⟩
     refine l_x s_t rfl rfl ?_
     rintro _ _ ⟨rfl, rfl⟩
     refine RL ?_
     refine l_nil ?_
     refine c_ret ?_
     obtain rfl : n = 3 := by omega
     exact l_end0 (fun w hw => rets_cell2 rfl rfl rfl (row_own (b := b6) (l := cR (setR r 3 x)) m_m w hw) rfl) ⟨rfl, _, rfl⟩
    ·have h4n := r_f h4
     refine c_seq ?_
     refine c_region ?_
     refine RL ?_
     refine RL ?_
     refine l_nil ?_
     refine c_cond rfl (fun h5 => ?_) (fun h5 => ?_)
     ·have h5n := r_f h5
      refine c_region ?_
      refine RL ?_
      refine RLa ?_
      refine l_x s_t rfl rfl ?_
      rintro _ _ ⟨rfl, rfl⟩
      refine l_nil ?_
      refine c_seq ?_
      refine c_region ?_
      refine l_x (x_loadA rfl rfl rfl (by first | exact row_own m_m | exact row_own_at m_m _ 10 rfl)) rfl rfl ?_
      rintro _ _ ⟨rfl, rfl⟩
      refine l_x s_t rfl rfl ?_
      rintro _ _ ⟨rfl, rfl⟩
      refine RL ?_
      refine l_nil ?_
      refine c_ret ?_
      obtain rfl : n = 4 := by omega
      exact l_end0 (fun w hw => rets_cell2 rfl rfl rfl (row_own (b := b6) (l := cR (setR r 4 x)) m_m w hw) rfl) ⟨rfl, _, rfl⟩
     ·have h5n := r_f h5
      refine c_seq ?_
      refine c_region ?_
      refine RL ?_
      refine RL ?_
      refine l_nil ?_
      refine c_cond rfl (fun h6 => ?_) (fun h6 => ?_)
      ·have h6n := r_f h6
       refine c_region ?_
       refine RL ?_
       refine RLa ?_
       refine l_x s_t rfl rfl ?_
       rintro _ _ ⟨rfl, rfl⟩
       refine l_nil ?_
       refine c_seq ?_
       refine c_region ?_
       refine l_x (x_loadA rfl rfl rfl (by first | exact row_own m_m | exact row_own_at m_m _ 10 rfl)) rfl rfl ?_
       rintro _ _ ⟨rfl, rfl⟩
       refine l_x s_t rfl rfl ?_
       rintro _ _ ⟨rfl, rfl⟩
       refine RL ?_
       refine l_nil ?_
       refine c_ret ?_
       obtain rfl : n = 5 := by omega
       exact l_end0 (fun w hw => rets_cell2 rfl rfl rfl (row_own (b := b6) (l := cR (setR r 5 x)) m_m w hw) rfl) ⟨rfl, _, rfl⟩
      ·have h6n := r_f h6
       refine c_seq ?_
       refine c_region ?_
       refine RL ?_
       refine RL ?_
       refine l_nil ?_
       refine c_cond rfl (fun h7 => ?_) (fun h7 => ?_)
       ·have h7n := r_f h7
        refine c_region ?_
        refine RL ?_
        refine RLa ?_
        refine l_x s_t rfl rfl ?_
        rintro _ _ ⟨rfl, rfl⟩
        refine l_nil ?_
        refine c_seq ?_
        refine c_region ?_
        refine l_x (x_loadA rfl rfl rfl (by first | exact row_own m_m | exact row_own_at m_m _ 10 rfl)) rfl rfl ?_
        rintro _ _ ⟨rfl, rfl⟩
        refine l_x s_t rfl rfl ?_
        rintro _ _ ⟨rfl, rfl⟩
        refine RL ?_
        refine l_nil ?_
        refine c_ret ?_
        obtain rfl : n = 7 := by omega
        exact l_end0 (fun w hw => rets_cell2 rfl rfl rfl (row_own (b := b6) (l := cR (setR r 7 x)) m_m w hw) rfl) ⟨rfl, _, rfl⟩
       ·have h7n := r_f h7
        refine c_seq ?_
        refine c_region ?_
        refine l_l (light_struct rfl rfl rfl rfl) rfl rfl ?_
        refine l_x s_t rfl rfl ?_
        rintro _ _ ⟨rfl, rfl⟩
        refine RL ?_
        refine l_nil ?_
        refine c_ret ?_
        exact l_end0 (fun w hw => rets_cell2 rfl rfl rfl (row_own (b := b6) m_m w hw) rfl) ⟨rfl, _, by rw [setR_no (by unfold NoR; omega)]; rfl⟩

theorem qpair_fn (r : CR) (hr : r.Ok) (n : Int) (w : World) : Does Tryz.prog 74 [.agg (cR r).toArray, .int .i64 n] w [] (fun v H => H = [] ∧ ∃ k : Int, v = .tuple #[.int .u16 (pairR r n), .int .i64 k]) := by
 have k1 := hr.a
 have k2 := hr.f
 have k3 := hr.b
 have k4 := hr.c
 have k5 := hr.d
 have k6 := hr.e
 have k7 := hr.h
 have k8 := hr.l
 have k9 := hr.sp
 refine does_of Tryz.func74 rfl rfl rfl (St.refl w) ?_
 refine c_seq ?_
 refine c_region ?_
 refine l_x (x_box (l := cR r) rfl rfl) rfl rfl ?_
 rintro _ _ ⟨b2, rfl, rfl⟩
 refine RL ?_
 refine RL ?_
 refine l_nil ?_
 refine c_seq ?_
 refine c_seq ?_
 refine c_region ?_
 refine RL ?_
 refine l_nil ?_
 refine c_block ?_
 refine c_seq ?_
 refine c_region ?_
 refine RL ?_
 refine RL ?_
 refine l_nil ?_
 refine c_cond rfl (fun h1 => ?_) (fun h1 => ?_)
 ·have h1n := r_f h1
  refine c_seq ?_
  refine c_region ?_
  refine RLa ?_
  refine RLo ?_
  refine RLa ?_
  refine RLo ?_
  refine RLv call_85 (fun w hw => qword_fn (r.b) (r.c) o_m o_m w) ?_
  refine RL ?_
  refine RL ?_
  refine l_nil ?_
  refine c_ret ?_
  obtain rfl : n = 0 := by omega
  exact l_end0 (fun _ _ => rets_v2 rfl rfl) ⟨rfl, _, rfl⟩
 ·have h1n := r_f h1
  refine c_seq ?_
  refine c_region ?_
  refine RL ?_
  refine RL ?_
  refine l_nil ?_
  refine c_cond rfl (fun h2 => ?_) (fun h2 => ?_)
  ·have h2n := r_f h2
   refine c_seq ?_
   refine c_region ?_
   refine RLa ?_
   refine RLo ?_
   refine RLa ?_
   refine RLo ?_
   refine RLv call_85 (fun w hw => qword_fn (r.d) (r.e) o_m o_m w) ?_
   refine RL ?_
   refine RL ?_
   refine l_nil ?_
   refine c_ret ?_
   obtain rfl : n = 1 := by omega
   exact l_end0 (fun _ _ => rets_v2 rfl rfl) ⟨rfl, _, rfl⟩
  ·have h2n := r_f h2
   refine c_seq ?_
   refine c_region ?_
   refine RL ?_
   refine RL ?_
   refine l_nil ?_
   refine c_cond rfl (fun h3 => ?_) (fun h3 => ?_)
   ·have h3n := r_f h3
    refine c_seq ?_
    refine c_region ?_
    refine RLa ?_
    refine RLo ?_
    refine RLa ?_
    refine RLo ?_
    refine RLv call_85 (fun w hw => qword_fn (r.h) (r.l) o_m o_m w) ?_
    refine RL ?_
    refine RL ?_
    refine l_nil ?_
    refine c_ret ?_
    obtain rfl : n = 2 := by omega
    exact l_end0 (fun _ _ => rets_v2 rfl rfl) ⟨rfl, _, rfl⟩
   ·have h3n := r_f h3
    refine c_seq ?_
    refine c_region ?_
    refine RL ?_
    refine RL ?_
    refine l_nil ?_
    refine c_cond rfl (fun h4 => ?_) (fun h4 => ?_)
    ·have h4n := r_f h4
     refine c_seq ?_
     refine c_region ?_
     refine RLa ?_
     refine RLo ?_
     refine RL ?_
     refine RL ?_
     refine l_nil ?_
     refine c_ret ?_
     obtain rfl : n = 3 := by omega
     exact l_end0 (fun _ _ => rets_v2 rfl rfl) ⟨rfl, _, rfl⟩
    ·have h4n := r_f h4
     refine c_seq ?_
     refine c_region ?_
     refine RL ?_
     refine RL ?_
     refine l_nil ?_
     refine c_cond rfl (fun h5 => ?_) (fun h5 => ?_)
     ·have h5n := r_f h5
      refine c_seq ?_
      refine c_region ?_
      refine RLa ?_
      refine RLo ?_
      refine RLa ?_
      refine RLo ?_
      refine l_as (quo_pos rfl rfl (by decide)) rfl rfl (by first | exact as_quo o_m (show _ < (256 : Int) by omega) (by decide) | rfl) ?_
      refine l_as (v := (.int .u8 (r.f / 16 * 16))) rfl rfl rfl (as_u8 o_m o_m) ?_
      refine RLv call_85 (fun w hw => qword_fn (r.a) (r.f / 16 * 16) o_m o_m w) ?_
      refine RL ?_
      refine RL ?_
      refine l_nil ?_
      refine c_ret ?_
      obtain rfl : n = 4 := by omega
      exact l_end0 (fun _ _ => rets_v2 rfl rfl) ⟨rfl, _, rfl⟩
     ·have h5n := r_f h5
      refine c_skip ?_
      refine c_seq ?_
      refine c_region ?_
      refine RL ?_
      refine RL ?_
      refine l_nil ?_
      refine c_ret ?_
      exact l_end0 (fun _ _ => rets_v2 rfl rfl) ⟨rfl, _, by rw [pairR_no o_m]⟩

theorem qsetPair_fn (r : CR) (n x : Int) (hx : 0 ≤ x ∧ x < 65536) (w : World) : Does Tryz.prog 39 [.agg (cR r).toArray, .int .i64 n, .int .u16 x] w [] (fun v H => H = [] ∧ ∃ k : Int, v = .tuple #[.agg (cR (setPR r n x)).toArray, .int .i64 k]) := by
 refine does_of Tryz.func39 rfl rfl rfl (St.refl w) ?_
 refine c_seq ?_
 refine c_region ?_
 refine l_x (x_box (l := cR r) rfl rfl) rfl rfl ?_
 rintro _ _ ⟨b3, rfl, rfl⟩
 refine l_x (x_alloc rfl) rfl rfl ?_
 rintro _ _ ⟨b6, rfl, rfl⟩
 refine RL ?_
 refine l_nil ?_
 refine c_seq ?_
 refine c_region ?_
 refine RL ?_
 refine l_as (quo_pos rfl rfl (by decide)) rfl rfl (by first | exact as_quo o_m (show _ < (65536 : Int) by omega) (by decide) | rfl) ?_
 refine l_as (l_conv rfl rfl rfl) rfl rfl (by first | exact as_u8 o_m o_m | exact as_u8m _) ?_
 refine RL ?_
 refine l_as (rem_pos rfl rfl (by decide)) rfl rfl (by first | exact as_rem o_m | rfl) ?_
 refine l_as (l_conv rfl rfl rfl) rfl rfl (by first | exact as_u8 o_m o_m | exact as_u8m _) ?_
 refine RL ?_
 refine RL ?_
 refine l_nil ?_
 refine c_seq ?_
 refine c_seq ?_
 refine c_region ?_
 refine RL ?_
 refine l_nil ?_
 refine c_block ?_
 refine c_seq ?_
 refine c_region ?_
 refine RL ?_
 refine RL ?_
 refine l_nil ?_
 refine c_cond rfl (fun h1 => ?_) (fun h1 => ?_)
 ·have h1n := r_f h1
  refine c_region ?_
  refine RL ?_
  refine RL ?_
  refine RLa ?_
  refine l_x s_t rfl rfl ?_
  rintro _ _ ⟨rfl, rfl⟩
  refine RLa ?_
  refine l_x s_t rfl rfl ?_
  rintro _ _ ⟨rfl, rfl⟩
  refine l_nil ?_
  refine c_seq ?_
  refine c_region ?_
  refine l_x (x_loadA rfl rfl rfl (by first | exact row_own m_m | exact row_own_at m_m _ 10 rfl)) rfl rfl ?_
  rintro _ _ ⟨rfl, rfl⟩
  refine l_x s_t rfl rfl ?_
  rintro _ _ ⟨rfl, rfl⟩
  refine RL ?_
  refine l_nil ?_
  refine c_ret ?_
  obtain rfl : n = 0 := by omega
  exact l_end0 (fun w hw => rets_cell2 rfl rfl rfl (row_own (b := b6) (l := cR (setPR r 0 x)) m_m w hw) rfl) ⟨rfl, _, rfl⟩
 ·have h1n := r_f h1
  refine c_seq ?_
  refine c_region ?_
  refine RL ?_
  refine RL ?_
  refine l_nil ?_
  refine c_cond rfl (fun h2 => ?_) (fun h2 => ?_)
  ·have h2n := r_f h2
   refine c_region ?_
   refine RL ?_
   refine RL ?_
   refine RLa ?_
   refine l_x s_t rfl rfl ?_
   rintro _ _ ⟨rfl, rfl⟩
   refine RLa ?_
   refine l_x s_t rfl rfl ?_
   rintro _ _ ⟨rfl, rfl⟩
   refine l_nil ?_
   refine c_seq ?_
   refine c_region ?_
   refine l_x (x_loadA rfl rfl rfl (by first | exact row_own m_m | exact row_own_at m_m _ 10 rfl)) rfl rfl ?_
   rintro _ _ ⟨rfl, rfl⟩
   refine l_x s_t rfl rfl ?_
   rintro _ _ ⟨rfl, rfl⟩
   refine RL ?_
   refine l_nil ?_
   refine c_ret ?_
   obtain rfl : n = 1 := by omega
   exact l_end0 (fun w hw => rets_cell2 rfl rfl rfl (row_own (b := b6) (l := cR (setPR r 1 x)) m_m w hw) rfl) ⟨rfl, _, rfl⟩
  ·have h2n := r_f h2
   refine c_seq ?_
   refine c_region ?_
   refine RL ?_
   refine RL ?_
   refine l_nil ?_
   refine c_cond rfl (fun h3 => ?_) (fun h3 => ?_)
   ·have h3n := r_f h3
    refine c_region ?_
    refine RL ?_
    refine RL ?_
    refine RLa ?_
    refine l_x s_t rfl rfl ?_
    rintro _ _ ⟨rfl, rfl⟩
    refine RLa ?_
    refine l_x s_t rfl rfl ?_
    rintro _ _ ⟨rfl, rfl⟩
    refine l_nil ?_
    refine c_seq ?_
    refine c_region ?_
    refine l_x (x_loadA rfl rfl rfl (by first | exact row_own m_m | exact row_own_at m_m _ 10 rfl)) rfl rfl ?_
    rintro _ _ ⟨rfl, rfl⟩
    refine l_x s_t rfl rfl ?_
    rintro _ _ ⟨rfl, rfl⟩
    refine RL ?_
    refine l_nil ?_
    refine c_ret ?_
    obtain rfl : n = 2 := by omega
    exact l_end0 (fun w hw => rets_cell2 rfl rfl rfl (row_own (b := b6) (l := cR (setPR r 2 x)) m_m w hw) rfl) ⟨rfl, _, rfl⟩
   ·have h3n := r_f h3
    refine c_seq ?_
    refine c_region ?_
    refine RL ?_
    refine RL ?_
    refine l_nil ?_
    refine c_cond rfl (fun h4 => ?_) (fun h4 => ?_)
    ·have h4n := r_f h4
     refine c_region ?_
     refine RL ?_
     refine RLa ?_
     refine l_x s_t rfl rfl ?_
     rintro _ _ ⟨rfl, rfl⟩
     refine l_nil ?_
     refine c_seq ?_
     refine c_region ?_
     refine l_x (x_loadA rfl rfl rfl (by first | exact row_own m_m | exact row_own_at m_m _ 10 rfl)) rfl rfl ?_
     rintro _ _ ⟨rfl, rfl⟩
     refine l_x s_t rfl rfl ?_
     rintro _ _ ⟨rfl, rfl⟩
     refine RL ?_
     refine l_nil ?_
     refine c_ret ?_
     obtain rfl : n = 3 := by omega
     exact l_end0 (fun w hw => rets_cell2 rfl rfl rfl (row_own (b := b6) (l := cR (setPR r 3 x)) m_m w hw) rfl) ⟨rfl, _, rfl⟩
    ·have h4n := r_f h4
     refine c_seq ?_
     refine c_region ?_
     refine RL ?_
     refine RL ?_
     refine l_nil ?_
     refine c_cond rfl (fun h5 => ?_) (fun h5 => ?_)
     ·have h5n := r_f h5
      refine c_region ?_
      refine RL ?_
      refine RL ?_
      refine l_as (quo_pos rfl rfl (by decide)) rfl rfl (by first | exact as_quo o_m (show _ < (256 : Int) by omega) (by decide) | rfl) ?_
      refine l_as (v := (.int .u8 (x % 256 / 16 * 16))) rfl rfl rfl (as_u8 o_m o_m) ?_
      refine RLa ?_
      refine l_x s_t rfl rfl ?_
      rintro _ _ ⟨rfl, rfl⟩
      refine RLa ?_
      refine l_x s_t rfl rfl ?_
      rintro _ _ ⟨rfl, rfl⟩
      refine l_nil ?_
      refine c_seq ?_
      refine c_region ?_
      refine l_x (x_loadA rfl rfl rfl (by first | exact row_own m_m | exact row_own_at m_m _ 10 rfl)) rfl rfl ?_
      rintro _ _ ⟨rfl, rfl⟩
      refine l_x s_t rfl rfl ?_
      rintro _ _ ⟨rfl, rfl⟩
      refine RL ?_
      refine l_nil ?_
      refine c_ret ?_
      obtain rfl : n = 4 := by omega
      exact l_end0 (fun w hw => rets_cell2 rfl rfl rfl (row_own (b := b6) (l := cR (setPR r 4 x)) m_m w hw) rfl) ⟨rfl, _, rfl⟩
     ·have h5n := r_f h5
      refine c_seq ?_
      refine c_region ?_
      refine l_l (light_struct rfl rfl rfl rfl) rfl rfl ?_
      refine l_x s_t rfl rfl ?_
      rintro _ _ ⟨rfl, rfl⟩
      refine RL ?_
      refine l_nil ?_
      refine c_ret ?_
      exact l_end0 (fun w hw => rets_cell2 rfl rfl rfl (row_own (b := b6) m_m w hw) rfl) ⟨rfl, _, by rw [setPR_no o_m]; rfl⟩

theorem qis_fn (r : CR) (hr : r.Ok) (n : Int) (w : World) : Does Tryz.prog 36 [.agg (cR r).toArray, .int .i64 n] w [] (fun v H => H = [] ∧ v = .bool (isR r n)) := by
 have k2 := hr.f
 refine does_of Tryz.func36 rfl rfl rfl (St.refl w) ?_
 refine c_seq ?_
 refine c_region ?_
 refine l_x (x_box (l := cR r) rfl rfl) rfl rfl ?_
 rintro _ _ ⟨b2, rfl, rfl⟩
 refine RL ?_
 refine l_nil ?_
 refine c_seq ?_
 refine c_draw _ [4, 5, 6, 7, 8, 9] (.step true 0 (.step true 1 (.step true 2 (.step true 3 (.step true 4 (.step true 5 (.step true 6 (.step true 7 (.step true 8 (.step true 9 (.step true 10 .done))))))))))) rfl (by kernel_rfl) (by kernel_rfl) (fun _ h => h) ?_
 refine RDa ?_
 refine RDo ?_
 refine d_as rfl (quo_pos rfl rfl (by decide)) rfl rfl rfl (by first | exact as_quo o_m (show _ < (256 : Int) by omega) (by decide) | rfl) ?_
 refine d_as (v := (.bool (zF r.f))) rfl rfl rfl rfl rfl rfl ?_
 refine RDa ?_
 refine RDo ?_
 refine d_as rfl (quo_pos rfl rfl (by decide)) rfl rfl rfl (by first | exact as_quo o_m (show _ < (256 : Int) by omega) (by decide) | rfl) ?_
 refine d_as rfl (rem_pos rfl rfl (by decide)) rfl rfl rfl (by first | exact as_rem o_m | rfl) ?_
 refine d_as (v := (.bool (cF r.f))) rfl rfl rfl rfl rfl rfl ?_
 refine RD ?_
 refine RD ?_
 refine d_nil ?_
 refine c_seq ?_
 refine c_region ?_
 refine RL ?_
 refine RL ?_
 refine RLb (fun h1 => ?_) (fun h1 => ?_)
 ·have h1n := r_f h1
  iterate 3 refine RL ?_
  refine RLb (fun h2 => ?_) (fun h2 => ?_)
  ·have h2n := r_f h2
   iterate 5 refine RLp ?_
   refine RL ?_
   refine RL ?_
   iterate 6 refine RLp ?_
   refine RL ?_
   refine RL ?_
   iterate 5 refine RLp ?_
   refine RL ?_
   refine RL ?_
   refine RLp ?_
   refine RLp ?_
   refine RL ?_
   refine RL ?_
   refine l_nil ?_
   refine c_ret ?_
   exact l_end0 (fun _ _ => rets_v rfl) ⟨rfl, (congrArg Value.bool (by unfold isR; simp_all))⟩
  ·have h2n := r_f h2
   refine RL ?_
   refine RL ?_
   refine RLb (fun h3 => ?_) (fun h3 => ?_)
   ·have h3n := r_f h3
    iterate 3 refine RL ?_
    refine RLb (fun h4 => ?_) (fun h4 => ?_)
    ·have h4n := r_f h4
     iterate 6 refine RLp ?_
     refine RL ?_
     refine RL ?_
     iterate 5 refine RLp ?_
     refine RL ?_
     refine RL ?_
     refine RLp ?_
     refine RLp ?_
     refine RL ?_
     refine RL ?_
     refine l_nil ?_
     refine c_ret ?_
     exact l_end0 (fun _ _ => rets_v rfl) ⟨rfl, (congrArg Value.bool (by unfold isR; simp_all))⟩
    ·have h4n := r_f h4
     refine RL ?_
     refine RL ?_
     refine RLb (fun h5 => ?_) (fun h5 => ?_)
     ·have h5n := r_f h5
      iterate 4 refine RL ?_
      refine RLb (fun h6 => ?_) (fun h6 => ?_)
      ·have h6n := r_f h6
       iterate 5 refine RLp ?_
       refine RL ?_
       refine RL ?_
       refine RLp ?_
       refine RLp ?_
       refine RL ?_
       refine RL ?_
       refine l_nil ?_
       refine c_ret ?_
       exact l_end0 (fun _ _ => rets_v rfl) ⟨rfl, (congrArg Value.bool (by unfold isR; simp_all))⟩
      ·have h6n := r_f h6
       refine RL ?_
       refine RL ?_
       refine RLb (fun h7 => ?_) (fun h7 => ?_)
       ·have h7n := r_f h7
        iterate 3 refine RL ?_
        refine RLb (fun h8 => ?_) (fun h8 => ?_)
        ·have h8n := r_f h8
         refine RLp ?_
         refine RLp ?_
         refine RL ?_
         refine RL ?_
         refine l_nil ?_
         refine c_ret ?_
         exact l_end0 (fun _ _ => rets_v rfl) ⟨rfl, (congrArg Value.bool (by unfold isR; simp_all))⟩
        ·have h8n := r_f h8
         iterate 4 refine RL ?_
         refine l_nil ?_
         refine c_ret ?_
         exact l_end0 (fun _ _ => rets_v rfl) ⟨rfl, (congrArg Value.bool (by unfold isR; simp_all))⟩
       ·have h7n := r_f h7
        refine RLp ?_
        iterate 7 refine RL ?_
        refine l_nil ?_
        refine c_ret ?_
        exact l_end0 (fun _ _ => rets_v rfl) ⟨rfl, (congrArg Value.bool (by unfold isR; simp_all))⟩
     ·have h5n := r_f h5
      refine RLp ?_
      refine RLp ?_
      iterate 5 refine RL ?_
      refine RLb (fun h9 => ?_) (fun h9 => ?_)
      ·have h9n := r_f h9
       iterate 3 refine RL ?_
       refine RLb (fun h10 => ?_) (fun h10 => ?_)
       ·have h10n := r_f h10
        refine RLp ?_
        refine RLp ?_
        refine RL ?_
        refine RL ?_
        refine l_nil ?_
        refine c_ret ?_
        exact l_end0 (fun _ _ => rets_v rfl) ⟨rfl, (congrArg Value.bool (by unfold isR; simp_all))⟩
       ·have h10n := r_f h10
        iterate 4 refine RL ?_
        refine l_nil ?_
        refine c_ret ?_
        exact l_end0 (fun _ _ => rets_v rfl) ⟨rfl, (congrArg Value.bool (by unfold isR; simp_all))⟩
      ·have h9n := r_f h9
       refine RLp ?_
       iterate 7 refine RL ?_
       refine l_nil ?_
       refine c_ret ?_
       exact l_end0 (fun _ _ => rets_v rfl) ⟨rfl, (congrArg Value.bool (by unfold isR; simp_all))⟩
   ·have h3n := r_f h3
    refine RLp ?_
    iterate 5 refine RL ?_
    refine RLb (fun h11 => ?_) (fun h11 => ?_)
    ·have h11n := r_f h11
     iterate 4 refine RL ?_
     refine RLb (fun h12 => ?_) (fun h12 => ?_)
     ·have h12n := r_f h12
      iterate 5 refine RLp ?_
      refine RL ?_
      refine RL ?_
      refine RLp ?_
      refine RLp ?_
      refine RL ?_
      refine RL ?_
      refine l_nil ?_
      refine c_ret ?_
      exact l_end0 (fun _ _ => rets_v rfl) ⟨rfl, (congrArg Value.bool (by unfold isR; simp_all))⟩
     ·have h12n := r_f h12
      refine RL ?_
      refine RL ?_
      refine RLb (fun h13 => ?_) (fun h13 => ?_)
      ·have h13n := r_f h13
       iterate 3 refine RL ?_
       refine RLb (fun h14 => ?_) (fun h14 => ?_)
       ·have h14n := r_f h14
        refine RLp ?_
        refine RLp ?_
        refine RL ?_
        refine RL ?_
        refine l_nil ?_
        refine c_ret ?_
        exact l_end0 (fun _ _ => rets_v rfl) ⟨rfl, (congrArg Value.bool (by unfold isR; simp_all))⟩
       ·have h14n := r_f h14
        iterate 4 refine RL ?_
        refine l_nil ?_
        refine c_ret ?_
        exact l_end0 (fun _ _ => rets_v rfl) ⟨rfl, (congrArg Value.bool (by unfold isR; simp_all))⟩
      ·have h13n := r_f h13
       refine RLp ?_
       iterate 7 refine RL ?_
       refine l_nil ?_
       refine c_ret ?_
       exact l_end0 (fun _ _ => rets_v rfl) ⟨rfl, (congrArg Value.bool (by unfold isR; simp_all))⟩
    ·have h11n := r_f h11
     refine RLp ?_
     refine RLp ?_
     iterate 5 refine RL ?_
     refine RLb (fun h15 => ?_) (fun h15 => ?_)
     ·have h15n := r_f h15
      iterate 3 refine RL ?_
      refine RLb (fun h16 => ?_) (fun h16 => ?_)
      ·have h16n := r_f h16
       refine RLp ?_
       refine RLp ?_
       refine RL ?_
       refine RL ?_
       refine l_nil ?_
       refine c_ret ?_
       exact l_end0 (fun _ _ => rets_v rfl) ⟨rfl, (congrArg Value.bool (by unfold isR; simp_all))⟩
      ·have h16n := r_f h16
       iterate 4 refine RL ?_
       refine l_nil ?_
       refine c_ret ?_
       exact l_end0 (fun _ _ => rets_v rfl) ⟨rfl, (congrArg Value.bool (by unfold isR; simp_all))⟩
     ·have h15n := r_f h15
      refine RLp ?_
      iterate 7 refine RL ?_
      refine l_nil ?_
      refine c_ret ?_
      exact l_end0 (fun _ _ => rets_v rfl) ⟨rfl, (congrArg Value.bool (by unfold isR; simp_all))⟩
 ·have h1n := r_f h1
  refine RLp ?_
  refine RLp ?_
  iterate 4 refine RL ?_
  refine RLb (fun h17 => ?_) (fun h17 => ?_)
  ·have h17n := r_f h17
   iterate 3 refine RL ?_
   refine RLb (fun h18 => ?_) (fun h18 => ?_)
   ·have h18n := r_f h18
    iterate 6 refine RLp ?_
    refine RL ?_
    refine RL ?_
    iterate 5 refine RLp ?_
    refine RL ?_
    refine RL ?_
    refine RLp ?_
    refine RLp ?_
    refine RL ?_
    refine RL ?_
    refine l_nil ?_
    refine c_ret ?_
    exact l_end0 (fun _ _ => rets_v rfl) ⟨rfl, (congrArg Value.bool (by unfold isR; simp_all))⟩
   ·have h18n := r_f h18
    refine RL ?_
    refine RL ?_
    refine RLb (fun h19 => ?_) (fun h19 => ?_)
    ·have h19n := r_f h19
     iterate 4 refine RL ?_
     refine RLb (fun h20 => ?_) (fun h20 => ?_)
     ·have h20n := r_f h20
      iterate 5 refine RLp ?_
      refine RL ?_
      refine RL ?_
      refine RLp ?_
      refine RLp ?_
      refine RL ?_
      refine RL ?_
      refine l_nil ?_
      refine c_ret ?_
      exact l_end0 (fun _ _ => rets_v rfl) ⟨rfl, (congrArg Value.bool (by unfold isR; simp_all))⟩
     ·have h20n := r_f h20
      refine RL ?_
      refine RL ?_
      refine RLb (fun h21 => ?_) (fun h21 => ?_)
      ·have h21n := r_f h21
       iterate 3 refine RL ?_
       refine RLb (fun h22 => ?_) (fun h22 => ?_)
       ·have h22n := r_f h22
        refine RLp ?_
        refine RLp ?_
        refine RL ?_
        refine RL ?_
        refine l_nil ?_
        refine c_ret ?_
        exact l_end0 (fun _ _ => rets_v rfl) ⟨rfl, (congrArg Value.bool (by unfold isR; simp_all))⟩
       ·have h22n := r_f h22
        iterate 4 refine RL ?_
        refine l_nil ?_
        refine c_ret ?_
        exact l_end0 (fun _ _ => rets_v rfl) ⟨rfl, (congrArg Value.bool (by unfold isR; simp_all))⟩
      ·have h21n := r_f h21
       refine RLp ?_
       iterate 7 refine RL ?_
       refine l_nil ?_
       refine c_ret ?_
       exact l_end0 (fun _ _ => rets_v rfl) ⟨rfl, (congrArg Value.bool (by unfold isR; simp_all))⟩
    ·have h19n := r_f h19
     refine RLp ?_
     refine RLp ?_
     iterate 5 refine RL ?_
     refine RLb (fun h23 => ?_) (fun h23 => ?_)
     ·have h23n := r_f h23
      iterate 3 refine RL ?_
      refine RLb (fun h24 => ?_) (fun h24 => ?_)
      ·have h24n := r_f h24
       refine RLp ?_
       refine RLp ?_
       refine RL ?_
       refine RL ?_
       refine l_nil ?_
       refine c_ret ?_
       exact l_end0 (fun _ _ => rets_v rfl) ⟨rfl, (congrArg Value.bool (by unfold isR; simp_all))⟩
      ·have h24n := r_f h24
       iterate 4 refine RL ?_
       refine l_nil ?_
       refine c_ret ?_
       exact l_end0 (fun _ _ => rets_v rfl) ⟨rfl, (congrArg Value.bool (by unfold isR; simp_all))⟩
     ·have h23n := r_f h23
      refine RLp ?_
      iterate 7 refine RL ?_
      refine l_nil ?_
      refine c_ret ?_
      exact l_end0 (fun _ _ => rets_v rfl) ⟨rfl, (congrArg Value.bool (by unfold isR; simp_all))⟩
  ·have h17n := r_f h17
   refine RLp ?_
   iterate 5 refine RL ?_
   refine RLb (fun h25 => ?_) (fun h25 => ?_)
   ·have h25n := r_f h25
    iterate 4 refine RL ?_
    refine RLb (fun h26 => ?_) (fun h26 => ?_)
    ·have h26n := r_f h26
     iterate 5 refine RLp ?_
     refine RL ?_
     refine RL ?_
     refine RLp ?_
     refine RLp ?_
     refine RL ?_
     refine RL ?_
     refine l_nil ?_
     refine c_ret ?_
     exact l_end0 (fun _ _ => rets_v rfl) ⟨rfl, (congrArg Value.bool (by unfold isR; simp_all))⟩
    ·have h26n := r_f h26
     refine RL ?_
     refine RL ?_
     refine RLb (fun h27 => ?_) (fun h27 => ?_)
     ·have h27n := r_f h27
      iterate 3 refine RL ?_
      refine RLb (fun h28 => ?_) (fun h28 => ?_)
      ·have h28n := r_f h28
       refine RLp ?_
       refine RLp ?_
       refine RL ?_
       refine RL ?_
       refine l_nil ?_
       refine c_ret ?_
       exact l_end0 (fun _ _ => rets_v rfl) ⟨rfl, (congrArg Value.bool (by unfold isR; simp_all))⟩
      ·have h28n := r_f h28
       iterate 4 refine RL ?_
       refine l_nil ?_
       refine c_ret ?_
       exact l_end0 (fun _ _ => rets_v rfl) ⟨rfl, (congrArg Value.bool (by unfold isR; simp_all))⟩
     ·have h27n := r_f h27
      refine RLp ?_
      iterate 7 refine RL ?_
      refine l_nil ?_
      refine c_ret ?_
      exact l_end0 (fun _ _ => rets_v rfl) ⟨rfl, (congrArg Value.bool (by unfold isR; simp_all))⟩
   ·have h25n := r_f h25
    refine RLp ?_
    refine RLp ?_
    iterate 5 refine RL ?_
    refine RLb (fun h29 => ?_) (fun h29 => ?_)
    ·have h29n := r_f h29
     iterate 3 refine RL ?_
     refine RLb (fun h30 => ?_) (fun h30 => ?_)
     ·have h30n := r_f h30
      refine RLp ?_
      refine RLp ?_
      refine RL ?_
      refine RL ?_
      refine l_nil ?_
      refine c_ret ?_
      exact l_end0 (fun _ _ => rets_v rfl) ⟨rfl, (congrArg Value.bool (by unfold isR; simp_all))⟩
     ·have h30n := r_f h30
      iterate 4 refine RL ?_
      refine l_nil ?_
      refine c_ret ?_
      exact l_end0 (fun _ _ => rets_v rfl) ⟨rfl, (congrArg Value.bool (by unfold isR; simp_all))⟩
    ·have h29n := r_f h29
     refine RLp ?_
     iterate 7 refine RL ?_
     refine l_nil ?_
     refine c_ret ?_
     exact l_end0 (fun _ _ => rets_v rfl) ⟨rfl, (congrArg Value.bool (by unfold isR; simp_all))⟩

end Go.Proofs.YtjjemehigdpboaaGreat
