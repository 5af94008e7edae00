/- Numbers, in the form in which 'omega' reads them: what an operation gives, by lemmas that a printer names. Plain lemmas; no program. -/
import Derived.Test.YtjceoaomkbabmaaVwA
namespace Go.VV
open Go Go.RowKit

theorem as_i64 {n : Int} (h1 : -9223372036854775808 ≤ n) (h2 : n ≤ 9223372036854775807) : Value.int .i64 (IntKind.i64.wrap n) = .int .i64 n := congrArg _ (wrap_i64 h1 h2)
theorem as_u8 {n : Int} (h1 : 0 ≤ n) (h2 : n < 256) : Value.int .u8 (IntKind.u8.wrap n) = .int .u8 n := congrArg _ (wrap_u8_id h1 h2)
theorem as_u16 {n : Int} (h1 : 0 ≤ n) (h2 : n < 65536) : Value.int .u16 (IntKind.u16.wrap n) = .int .u16 n := congrArg _ (wrap_u16_id h1 h2)
theorem as_u64 {n : Int} (h1 : 0 ≤ n) (h2 : n < 18446744073709551616) : Value.int .u64 (IntKind.u64.wrap n) = .int .u64 n := congrArg _ (wrap_u64_id h1 h2)
theorem as_u8m (n : Int) : Value.int .u8 (IntKind.u8.wrap n) = .int .u8 (n % 256) := congrArg _ (wrap_u8 n)
theorem as_u16m (n : Int) : Value.int .u16 (IntKind.u16.wrap n) = .int .u16 (n % 65536) := congrArg _ (wrap_u16 n)
theorem as_u64m (n : Int) : Value.int .u64 (IntKind.u64.wrap n) = .int .u64 (n % 18446744073709551616) := congrArg _ (wrap_u64 n)
theorem as_rem {k : IntKind} {a b : Int} (h : 0 ≤ a) : Value.int k (a.tmod b) = .int k (a % b) := congrArg _ (Int.tmod_eq_emod_of_nonneg h)

/-- The numbers of a kind that are no less than 0. -/
def topOf : IntKind → Int
  | .u8 => 256
  | .u16 => 65536
  | .u64 => 18446744073709551616
  | .i64 => 9223372036854775808
  | _ => 0
theorem wrap_in {k : IntKind} {n : Int} (h1 : 0 ≤ n) (h2 : n < topOf k) : k.wrap n = n := by
  cases k <;> simp only [topOf] at h2 <;> first | omega | exact wrap_u8_id h1 h2 | exact wrap_u16_id h1 h2 | exact wrap_u64_id h1 h2 | exact wrap_i64 (by omega) (by omega)
theorem bits_in {k : IntKind} {n : Int} (h1 : 0 ≤ n) (h2 : n < topOf k) : (BitVec.ofInt k.bits n).toNat = n.toNat := by
  have : n < 2 ^ k.bits := by cases k <;> simp only [topOf] at h2 <;> simp only [IntKind.bits] <;> omega
  rw [BitVec.toNat_ofInt, Int.emod_eq_of_lt h1 (by simpa using this)]
theorem as_quo {k : IntKind} {a b : Int} (h1 : 0 ≤ a) (h2 : a < topOf k) (hb : 0 < b) : Value.int k (k.wrap (a.tdiv b)) = .int k (a / b) := by
  rw [Int.tdiv_eq_ediv_of_nonneg h1, wrap_in (Int.ediv_nonneg h1 (by omega)) (Int.lt_of_le_of_lt (Int.ediv_le_self _ h1) h2)]
theorem as_shr {k : IntKind} {a n : Int} (d : Int) (h : 2 ^ min n.toNat k.bits = d) (hd : 0 < d) : Value.int k (shr k a n) = .int k (a / d) := by
  unfold shr
  rw [h, Int.fdiv_eq_ediv_of_nonneg _ (by omega)]
theorem shl_eq {k : IntKind} {a n : Int} (d : Int) (h : 2 ^ min n.toNat k.bits = d) : shl k a n = k.wrap (a * d) := by unfold shl; rw [h]
theorem as_shl {k : IntKind} {a n : Int} (d : Int) (h : 2 ^ min n.toNat k.bits = d) (h1 : 0 ≤ a * d) (h2 : a * d < topOf k) : Value.int k (shl k a n) = .int k (a * d) := by rw [shl_eq d h, wrap_in h1 h2]
theorem as_shl8 {a n : Int} (d : Int) (h : 2 ^ min n.toNat 8 = d) : Value.int .u8 (shl .u8 a n) = .int .u8 (a * d % 256) := by rw [shl_eq d h, wrap_u8]
theorem as_shl16 {a n : Int} (d : Int) (h : 2 ^ min n.toNat 16 = d) : Value.int .u16 (shl .u16 a n) = .int .u16 (a * d % 65536) := by rw [shl_eq d h, wrap_u16]
theorem band_nat {k : IntKind} {a b : Int} (h1 : 0 ≤ a) (h2 : a < topOf k) (h3 : 0 ≤ b) (h4 : b < topOf k) : band k a b = ((a.toNat &&& b.toNat : Nat) : Int) := by
  unfold band
  rw [BitVec.toNat_and, bits_in h1 h2, bits_in h3 h4]
  refine wrap_in (Int.natCast_nonneg _) ?_
  have := Nat.and_le_left (n := a.toNat) (m := b.toNat)
  omega
theorem bor_nat {k : IntKind} {a b : Int} (h1 : 0 ≤ a) (h2 : a < topOf k) (h3 : 0 ≤ b) (h4 : b < topOf k) : bor k a b = ((a.toNat ||| b.toNat : Nat) : Int) := by
  unfold bor
  rw [BitVec.toNat_or, bits_in h1 h2, bits_in h3 h4]
  refine wrap_in (Int.natCast_nonneg _) ?_
  have hm : ∃ m : Nat, topOf k = ((2 ^ m : Nat) : Int) ∨ topOf k = 0 := by
    cases k <;> first | exact ⟨8, .inl rfl⟩ | exact ⟨16, .inl rfl⟩ | exact ⟨64, .inl rfl⟩ | exact ⟨63, .inl rfl⟩ | exact ⟨0, .inr rfl⟩
  obtain ⟨m, hm | hm⟩ := hm
  · have h5 : a.toNat < 2 ^ m := by rw [hm] at h2; omega
    have h6 : b.toNat < 2 ^ m := by rw [hm] at h4; omega
    have := Nat.or_lt_two_pow h5 h6
    rw [hm]; omega
  · omega
theorem band_mask {k : IntKind} {a b : Int} (n : Nat) (d : Int) (hd : ((2 ^ n : Nat) : Int) = d) (hb : b = d - 1) (h1 : 0 ≤ a) (h2 : a < topOf k) (h4 : b < topOf k) : band k a b = a % d := by
  have hp : 0 < (2 : Nat) ^ n := Nat.two_pow_pos n
  rw [band_nat h1 h2 (by omega) h4]
  have : b.toNat = 2 ^ n - 1 := by omega
  rw [this, Nat.and_two_pow_sub_one_eq_mod, ← hd]
  obtain ⟨m, rfl⟩ : ∃ m : Nat, a = m := ⟨a.toNat, by omega⟩
  simp
theorem as_mask {k : IntKind} {a b : Int} (n : Nat) (d : Int) (hd : ((2 ^ n : Nat) : Int) = d) (hb : b = d - 1) (h1 : 0 ≤ a) (h2 : a < topOf k) (h4 : b < topOf k) : Value.int k (band k a b) = .int k (a % d) := congrArg _ (band_mask n d hd hb h1 h2 h4)
theorem band_bit {k : IntKind} {a b : Int} (n : Nat) (hb : ((2 ^ n : Nat) : Int) = b) (h1 : 0 ≤ a) (h2 : a < topOf k) (h4 : b < topOf k) : band k a b = a / b % 2 * b := by
  have hp : 0 < (2 : Nat) ^ n := Nat.two_pow_pos n
  rw [band_nat h1 h2 (by omega) h4]
  have hbn : b.toNat = 2 ^ n := by omega
  rw [hbn]
  have key : a.toNat &&& 2 ^ n = (a.toNat / 2 ^ n % 2) * 2 ^ n := by
    apply Nat.eq_of_testBit_eq
    intro i
    rw [Nat.testBit_and, Nat.testBit_two_pow]
    by_cases hi : n = i
    · subst hi
      simp only [decide_true, Bool.and_true]
      rw [Nat.testBit_mul_two_pow]
      simp [Nat.testBit_eq_decide_div_mod_eq]
    · simp only [hi, decide_false, Bool.and_false]
      rw [Nat.testBit_mul_two_pow]
      rcases Nat.lt_or_ge i n with h | h
      · simp [show ¬ n ≤ i by omega]
      · rcases Nat.mod_two_eq_zero_or_one (a.toNat / 2 ^ n) with h3 | h3 <;> rw [h3]
        · simp
        · obtain ⟨q, hq⟩ : ∃ q, i - n = q + 1 := ⟨i - n - 1, by omega⟩
          rw [hq, Nat.testBit_succ]
          simp
  rw [key]
  obtain ⟨m, rfl⟩ : ∃ m : Nat, a = m := ⟨a.toNat, by omega⟩
  rw [← hb]
  simp
theorem as_bit {k : IntKind} {a b : Int} (n : Nat) (hb : ((2 ^ n : Nat) : Int) = b) (h1 : 0 ≤ a) (h2 : a < topOf k) (h4 : b < topOf k) : Value.int k (band k a b) = .int k (a / b % 2 * b) := congrArg _ (band_bit n hb h1 h2 h4)

section
variable {P : Program} {e : Env} {d : Option Nat} {ty : TypeId} {pos : String} {af : Array Edge} {g : Option (Nat × Bool)}
theorem idx_arrayI {t : TypeId} {x i : Operand} {b off n el : Nat} {k : IntKind} {j : Int} (hx : vnf (ev e x) = some (.pointer (some ⟨b, off, none⟩))) (hi : vnf (ev e i) = some (.int k j))
    (hu : arrP P t = some (n, el, 1)) (hj : 0 ≤ j) (hm : j < (n : Int)) :
    light P e ⟨d, .indexAddr t x i, ty, pos, af, g⟩ = some (.pointer (some ⟨b, off + j.toNat, none⟩)) := idx_array1 j.toNat hx hi hu (by omega) (by omega)
theorem idx_sliceI {t : TypeId} {x i : Operand} {b off n c el : Nat} {k : IntKind} {j : Int} (hx : vnf (ev e x) = some (.slice (some ⟨b, off, none⟩) n c)) (hi : vnf (ev e i) = some (.int k j))
    (hu : slcP P t = some (el, 1)) (hj : 0 ≤ j) (hm : j < (n : Int)) :
    light P e ⟨d, .indexAddr t x i, ty, pos, af, g⟩ = some (.pointer (some ⟨b, off + j.toNat, none⟩)) := idx_slice1 j.toNat hx hi hu (by omega) (by omega)
theorem idx_arrayIs {t : TypeId} {x i : Operand} {b off n el s : Nat} {k : IntKind} {j : Int} (hx : vnf (ev e x) = some (.pointer (some ⟨b, off, none⟩))) (hi : vnf (ev e i) = some (.int k j))
    (hu : arrP P t = some (n, el, s)) (hj : 0 ≤ j) (hm : j < (n : Int)) :
    light P e ⟨d, .indexAddr t x i, ty, pos, af, g⟩ = some (.pointer (some ⟨b, off + j.toNat * s, none⟩)) := idx_array j.toNat hx hi hu (by omega) (by omega)
theorem idx_sliceIs {t : TypeId} {x i : Operand} {b off n c el s : Nat} {k : IntKind} {j : Int} (hx : vnf (ev e x) = some (.slice (some ⟨b, off, none⟩) n c)) (hi : vnf (ev e i) = some (.int k j))
    (hu : slcP P t = some (el, s)) (hj : 0 ≤ j) (hm : j < (n : Int)) :
    light P e ⟨d, .indexAddr t x i, ty, pos, af, g⟩ = some (.pointer (some ⟨b, off + j.toNat * s, none⟩)) := idx_slice j.toNat hx hi hu (by omega) (by omega)
end
end Go.VV
namespace Go.VV
open Go Go.RowKit
section
variable {P : Program} {e : Env} {d : Option Nat} {ty t u : TypeId} {pos : String} {af : Array Edge} {g : Option (Nat × Bool)} {x y : Operand} {k : IntKind} {a b : Int}
theorem l_add (hx : vnf (ev e x) = some (.int k a)) (hy : vnf (ev e y) = some (.int k b)) : light P e ⟨d, .binOp .add t x y u, ty, pos, af, g⟩ = some (.int k (k.wrap (a + b))) := by
  refine light_of_pure ?_ rfl
  simp [execOp, eqGuard, vnf_eq hx, vnf_eq hy, binOp, Op.intArith, pureOf, bind, Sem.bind, pure]
theorem l_sub (hx : vnf (ev e x) = some (.int k a)) (hy : vnf (ev e y) = some (.int k b)) : light P e ⟨d, .binOp .sub t x y u, ty, pos, af, g⟩ = some (.int k (k.wrap (a - b))) := by
  refine light_of_pure ?_ rfl
  simp [execOp, eqGuard, vnf_eq hx, vnf_eq hy, binOp, Op.intArith, pureOf, bind, Sem.bind, pure]
theorem l_mul (hx : vnf (ev e x) = some (.int k a)) (hy : vnf (ev e y) = some (.int k b)) : light P e ⟨d, .binOp .mul t x y u, ty, pos, af, g⟩ = some (.int k (k.wrap (a * b))) := by
  refine light_of_pure ?_ rfl
  simp [execOp, eqGuard, vnf_eq hx, vnf_eq hy, binOp, Op.intArith, pureOf, bind, Sem.bind, pure]
theorem l_and (hx : vnf (ev e x) = some (.int k a)) (hy : vnf (ev e y) = some (.int k b)) : light P e ⟨d, .binOp .and t x y u, ty, pos, af, g⟩ = some (.int k (band k a b)) := by
  refine light_of_pure ?_ rfl
  simp [execOp, eqGuard, vnf_eq hx, vnf_eq hy, binOp, Op.intBits, pureOf, bind, Sem.bind, pure, band]
theorem l_or (hx : vnf (ev e x) = some (.int k a)) (hy : vnf (ev e y) = some (.int k b)) : light P e ⟨d, .binOp .or t x y u, ty, pos, af, g⟩ = some (.int k (bor k a b)) := by
  refine light_of_pure ?_ rfl
  simp [execOp, eqGuard, vnf_eq hx, vnf_eq hy, binOp, Op.intBits, pureOf, bind, Sem.bind, pure, bor]
theorem l_xor (hx : vnf (ev e x) = some (.int k a)) (hy : vnf (ev e y) = some (.int k b)) : light P e ⟨d, .binOp .xor t x y u, ty, pos, af, g⟩ = some (.int k (bxor k a b)) := by
  refine light_of_pure ?_ rfl
  simp [execOp, eqGuard, vnf_eq hx, vnf_eq hy, binOp, Op.intBits, pureOf, bind, Sem.bind, pure, bxor]
theorem l_andn (hx : vnf (ev e x) = some (.int k a)) (hy : vnf (ev e y) = some (.int k b)) : light P e ⟨d, .binOp .andNot t x y u, ty, pos, af, g⟩ = some (.int k (bandn k a b)) := by
  refine light_of_pure ?_ rfl
  simp [execOp, eqGuard, vnf_eq hx, vnf_eq hy, binOp, Op.intBits, pureOf, bind, Sem.bind, pure, bandn]
def intT (P : Program) (t : TypeId) : Option IntKind := match P.underlying t with
  | some (.int k) => some k
  | _ => none
theorem l_conv {src dst : TypeId} {k2 : IntKind} {n : Int} (hx : vnf (ev e x) = some (.int k n)) (hs : intT P src = some k) (hd : intT P dst = some k2) : light P e ⟨d, .convert src dst x, ty, pos, af, g⟩ = some (.int k2 (k2.wrap n)) := by
  refine light_of_pure ?_ rfl
  unfold intT at hs hd
  split at hs <;> try cases hs
  split at hd <;> try cases hd
  rename_i h1 _ h2
  simp only [execOp, convert, bind_assoc, pure_underlying h1, pure_underlying h2, vnf_eq hx]
  rfl
end
end Go.VV
namespace Go.VV
theorem bne_t {a b : Int} (h : (a != b) = true) : a ≠ b := by simpa using h
theorem bne_f {a b : Int} (h : (a != b) = false) : a = b := by simpa using h
end Go.VV
namespace Go.VV
theorem Vec.cap_le {T s n m c : Nat} {a : Option Addr} {xs : List Value} {G : Heap} (h : Vec T s (.slice a m c) n xs G) : n ≤ c ∧ m = n := by
  cases h with
  | nil => exact ⟨Nat.le_refl _, rfl⟩
  | row b n cap xs sp hn hc hm hle => exact ⟨hle, rfl⟩
end Go.VV
