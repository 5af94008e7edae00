/- Short names: rules whose usual parts find themselves. Plain lemmas; no program. -/
import Derived.Test.YtiadmbhafplepaaDoorYB
namespace Go.VV
open Go Go.RowKit

theorem as_i64 {n : Int} (h1 : -9223372036854775808 ≤ n) (h2 : n ≤ 9223372036854775807) : Value.int .i64 (IntKind.i64.wrap n) = .int .i64 n := congrArg _ (wrap_i64 h1 h2)
theorem as_u8 {n : Int} (h1 : 0 ≤ n) (h2 : n < 256) : Value.int .u8 (IntKind.u8.wrap n) = .int .u8 n := congrArg _ (wrap_u8_id h1 h2)
theorem as_u16 {n : Int} (h1 : 0 ≤ n) (h2 : n < 65536) : Value.int .u16 (IntKind.u16.wrap n) = .int .u16 n := congrArg _ (wrap_u16_id h1 h2)
theorem as_u64 {n : Int} (h1 : 0 ≤ n) (h2 : n < 18446744073709551616) : Value.int .u64 (IntKind.u64.wrap n) = .int .u64 n := congrArg _ (wrap_u64_id h1 h2)
theorem as_u8m (n : Int) : Value.int .u8 (IntKind.u8.wrap n) = .int .u8 (n % 256) := congrArg _ (wrap_u8 n)
theorem as_u16m (n : Int) : Value.int .u16 (IntKind.u16.wrap n) = .int .u16 (n % 65536) := congrArg _ (wrap_u16 n)
theorem as_u64m (n : Int) : Value.int .u64 (IntKind.u64.wrap n) = .int .u64 (n % 18446744073709551616) := congrArg _ (wrap_u64 n)
theorem as_rem {k : IntKind} {a b : Int} (h : 0 ≤ a) : Value.int k (a.tmod b) = .int k (a % b) := congrArg _ (Int.tmod_eq_emod_of_nonneg h)

/-- The numbers of a kind that are no less than 0. -/
def topOf : IntKind → Int
  | .u8 => 256
  | .u16 => 65536
  | .u64 => 18446744073709551616
  | .i64 => 9223372036854775808
  | _ => 0
theorem wrap_in {k : IntKind} {n : Int} (h1 : 0 ≤ n) (h2 : n < topOf k) : k.wrap n = n := by
  cases k <;> simp only [topOf] at h2 <;> first | omega | exact wrap_u8_id h1 h2 | exact wrap_u16_id h1 h2 | exact wrap_u64_id h1 h2 | exact wrap_i64 (by omega) (by omega)
theorem bits_in {k : IntKind} {n : Int} (h1 : 0 ≤ n) (h2 : n < topOf k) : (BitVec.ofInt k.bits n).toNat = n.toNat := by
  have : n < 2 ^ k.bits := by cases k <;> simp only [topOf] at h2 <;> simp only [IntKind.bits] <;> omega
  rw [BitVec.toNat_ofInt, Int.emod_eq_of_lt h1 (by simpa using this)]
theorem as_quo {k : IntKind} {a b : Int} (h1 : 0 ≤ a) (h2 : a < topOf k) (hb : 0 < b) : Value.int k (k.wrap (a.tdiv b)) = .int k (a / b) := by
  rw [Int.tdiv_eq_ediv_of_nonneg h1, wrap_in (Int.ediv_nonneg h1 (by omega)) (Int.lt_of_le_of_lt (Int.ediv_le_self _ h1) h2)]
theorem as_shr {k : IntKind} {a n : Int} (d : Int) (h : 2 ^ min n.toNat k.bits = d) (hd : 0 < d) : Value.int k (shr k a n) = .int k (a / d) := by
  unfold shr
  rw [h, Int.fdiv_eq_ediv_of_nonneg _ (by omega)]
theorem shl_eq {k : IntKind} {a n : Int} (d : Int) (h : 2 ^ min n.toNat k.bits = d) : shl k a n = k.wrap (a * d) := by unfold shl; rw [h]
theorem as_shl {k : IntKind} {a n : Int} (d : Int) (h : 2 ^ min n.toNat k.bits = d) (h1 : 0 ≤ a * d) (h2 : a * d < topOf k) : Value.int k (shl k a n) = .int k (a * d) := by rw [shl_eq d h, wrap_in h1 h2]
theorem as_shl8 {a n : Int} (d : Int) (h : 2 ^ min n.toNat 8 = d) : Value.int .u8 (shl .u8 a n) = .int .u8 (a * d % 256) := by rw [shl_eq d h, wrap_u8]
theorem as_shl16 {a n : Int} (d : Int) (h : 2 ^ min n.toNat 16 = d) : Value.int .u16 (shl .u16 a n) = .int .u16 (a * d % 65536) := by rw [shl_eq d h, wrap_u16]
theorem band_nat {k : IntKind} {a b : Int} (h1 : 0 ≤ a) (h2 : a < topOf k) (h3 : 0 ≤ b) (h4 : b < topOf k) : band k a b = ((a.toNat &&& b.toNat : Nat) : Int) := by
  unfold band
  rw [BitVec.toNat_and, bits_in h1 h2, bits_in h3 h4]
  refine wrap_in (Int.natCast_nonneg _) ?_
  have := Nat.and_le_left (n := a.toNat) (m := b.toNat)
  omega
theorem bor_nat {k : IntKind} {a b : Int} (h1 : 0 ≤ a) (h2 : a < topOf k) (h3 : 0 ≤ b) (h4 : b < topOf k) : bor k a b = ((a.toNat ||| b.toNat : Nat) : Int) := by
  unfold bor
  rw [BitVec.toNat_or, bits_in h1 h2, bits_in h3 h4]
  refine wrap_in (Int.natCast_nonneg _) ?_
  have hm : ∃ m : Nat, topOf k = ((2 ^ m : Nat) : Int) ∨ topOf k = 0 := by
    cases k <;> first | exact ⟨8, .inl rfl⟩ | exact ⟨16, .inl rfl⟩ | exact ⟨64, .inl rfl⟩ | exact ⟨63, .inl rfl⟩ | exact ⟨0, .inr rfl⟩
  obtain ⟨m, hm | hm⟩ := hm
  · have h5 : a.toNat < 2 ^ m := by rw [hm] at h2; omega
    have h6 : b.toNat < 2 ^ m := by rw [hm] at h4; omega
    have := Nat.or_lt_two_pow h5 h6
    rw [hm]; omega
  · omega
theorem band_mask {k : IntKind} {a b : Int} (n : Nat) (d : Int) (hd : ((2 ^ n : Nat) : Int) = d) (hb : b = d - 1) (h1 : 0 ≤ a) (h2 : a < topOf k) (h4 : b < topOf k) : band k a b = a % d := by
  have hp : 0 < (2 : Nat) ^ n := Nat.two_pow_pos n
  rw [band_nat h1 h2 (by omega) h4]
  have : b.toNat = 2 ^ n - 1 := by omega
  rw [this, Nat.and_two_pow_sub_one_eq_mod, ← hd]
  obtain ⟨m, rfl⟩ : ∃ m : Nat, a = m := ⟨a.toNat, by omega⟩
  simp
theorem as_mask {k : IntKind} {a b : Int} (n : Nat) (d : Int) (hd : ((2 ^ n : Nat) : Int) = d) (hb : b = d - 1) (h1 : 0 ≤ a) (h2 : a < topOf k) (h4 : b < topOf k) : Value.int k (band k a b) = .int k (a % d) := congrArg _ (band_mask n d hd hb h1 h2 h4)
theorem band_bit {k : IntKind} {a b : Int} (n : Nat) (hb : ((2 ^ n : Nat) : Int) = b) (h1 : 0 ≤ a) (h2 : a < topOf k) (h4 : b < topOf k) : band k a b = a / b % 2 * b := by
  have hp : 0 < (2 : Nat) ^ n := Nat.two_pow_pos n
  rw [band_nat h1 h2 (by omega) h4]
  have hbn : b.toNat = 2 ^ n := by omega
  rw [hbn]
  have key : a.toNat &&& 2 ^ n = (a.toNat / 2 ^ n % 2) * 2 ^ n := by
    apply Nat.eq_of_testBit_eq
    intro i
    rw [Nat.testBit_and, Nat.testBit_two_pow]
    by_cases hi : n = i
    · subst hi
      simp only [decide_true, Bool.and_true]
      rw [Nat.testBit_mul_two_pow]
      simp [Nat.testBit_eq_decide_div_mod_eq]
    · simp only [hi, decide_false, Bool.and_false]
      rw [Nat.testBit_mul_two_pow]
      rcases Nat.lt_or_ge i n with h | h
      · simp [show ¬ n ≤ i by omega]
      · rcases Nat.mod_two_eq_zero_or_one (a.toNat / 2 ^ n) with h3 | h3 <;> rw [h3]
        · simp
        · obtain ⟨q, hq⟩ : ∃ q, i - n = q + 1 := ⟨i - n - 1, by omega⟩
          rw [hq, Nat.testBit_succ]
          simp
  rw [key]
  obtain ⟨m, rfl⟩ : ∃ m : Nat, a = m := ⟨a.toNat, by omega⟩
  rw [← hb]
  simp
theorem as_bit {k : IntKind} {a b : Int} (n : Nat) (hb : ((2 ^ n : Nat) : Int) = b) (h1 : 0 ≤ a) (h2 : a < topOf k) (h4 : b < topOf k) : Value.int k (band k a b) = .int k (a / b % 2 * b) := congrArg _ (band_bit n hb h1 h2 h4)

section
variable {P : Program} {e : Env} {d : Option Nat} {ty : TypeId} {pos : String} {af : Array Edge} {g : Option (Nat × Bool)}
theorem idx_arrayI {t : TypeId} {x i : Operand} {b off n el : Nat} {k : IntKind} {j : Int} (hx : vnf (ev e x) = some (.pointer (some ⟨b, off, none⟩))) (hi : vnf (ev e i) = some (.int k j))
    (hu : arrP P t = some (n, el, 1)) (hj : 0 ≤ j) (hm : j < (n : Int)) :
    light P e ⟨d, .indexAddr t x i, ty, pos, af, g⟩ = some (.pointer (some ⟨b, off + j.toNat, none⟩)) := idx_array1 j.toNat hx hi hu (by omega) (by omega)
theorem idx_sliceI {t : TypeId} {x i : Operand} {b off n c el : Nat} {k : IntKind} {j : Int} (hx : vnf (ev e x) = some (.slice (some ⟨b, off, none⟩) n c)) (hi : vnf (ev e i) = some (.int k j))
    (hu : slcP P t = some (el, 1)) (hj : 0 ≤ j) (hm : j < (n : Int)) :
    light P e ⟨d, .indexAddr t x i, ty, pos, af, g⟩ = some (.pointer (some ⟨b, off + j.toNat, none⟩)) := idx_slice1 j.toNat hx hi hu (by omega) (by omega)
theorem idx_arrayIs {t : TypeId} {x i : Operand} {b off n el s : Nat} {k : IntKind} {j : Int} (hx : vnf (ev e x) = some (.pointer (some ⟨b, off, none⟩))) (hi : vnf (ev e i) = some (.int k j))
    (hu : arrP P t = some (n, el, s)) (hj : 0 ≤ j) (hm : j < (n : Int)) :
    light P e ⟨d, .indexAddr t x i, ty, pos, af, g⟩ = some (.pointer (some ⟨b, off + j.toNat * s, none⟩)) := idx_array j.toNat hx hi hu (by omega) (by omega)
theorem idx_sliceIs {t : TypeId} {x i : Operand} {b off n c el s : Nat} {k : IntKind} {j : Int} (hx : vnf (ev e x) = some (.slice (some ⟨b, off, none⟩) n c)) (hi : vnf (ev e i) = some (.int k j))
    (hu : slcP P t = some (el, s)) (hj : 0 ≤ j) (hm : j < (n : Int)) :
    light P e ⟨d, .indexAddr t x i, ty, pos, af, g⟩ = some (.pointer (some ⟨b, off + j.toNat * s, none⟩)) := idx_slice j.toNat hx hi hu (by omega) (by omega)
end
end Go.VV
namespace Go.VV
open Go Go.RowKit
section
variable {P : Program} {e : Env} {d : Option Nat} {ty t u : TypeId} {pos : String} {af : Array Edge} {g : Option (Nat × Bool)} {x y : Operand} {k : IntKind} {a b : Int}
theorem l_add (hx : vnf (ev e x) = some (.int k a)) (hy : vnf (ev e y) = some (.int k b)) : light P e ⟨d, .binOp .add t x y u, ty, pos, af, g⟩ = some (.int k (k.wrap (a + b))) := by
  refine light_of_pure ?_ rfl
  simp [execOp, eqGuard, vnf_eq hx, vnf_eq hy, binOp, Op.intArith, pureOf, bind, Sem.bind, pure]
theorem l_sub (hx : vnf (ev e x) = some (.int k a)) (hy : vnf (ev e y) = some (.int k b)) : light P e ⟨d, .binOp .sub t x y u, ty, pos, af, g⟩ = some (.int k (k.wrap (a - b))) := by
  refine light_of_pure ?_ rfl
  simp [execOp, eqGuard, vnf_eq hx, vnf_eq hy, binOp, Op.intArith, pureOf, bind, Sem.bind, pure]
theorem l_mul (hx : vnf (ev e x) = some (.int k a)) (hy : vnf (ev e y) = some (.int k b)) : light P e ⟨d, .binOp .mul t x y u, ty, pos, af, g⟩ = some (.int k (k.wrap (a * b))) := by
  refine light_of_pure ?_ rfl
  simp [execOp, eqGuard, vnf_eq hx, vnf_eq hy, binOp, Op.intArith, pureOf, bind, Sem.bind, pure]
theorem l_and (hx : vnf (ev e x) = some (.int k a)) (hy : vnf (ev e y) = some (.int k b)) : light P e ⟨d, .binOp .and t x y u, ty, pos, af, g⟩ = some (.int k (band k a b)) := by
  refine light_of_pure ?_ rfl
  simp [execOp, eqGuard, vnf_eq hx, vnf_eq hy, binOp, Op.intBits, pureOf, bind, Sem.bind, pure, band]
theorem l_or (hx : vnf (ev e x) = some (.int k a)) (hy : vnf (ev e y) = some (.int k b)) : light P e ⟨d, .binOp .or t x y u, ty, pos, af, g⟩ = some (.int k (bor k a b)) := by
  refine light_of_pure ?_ rfl
  simp [execOp, eqGuard, vnf_eq hx, vnf_eq hy, binOp, Op.intBits, pureOf, bind, Sem.bind, pure, bor]
theorem l_xor (hx : vnf (ev e x) = some (.int k a)) (hy : vnf (ev e y) = some (.int k b)) : light P e ⟨d, .binOp .xor t x y u, ty, pos, af, g⟩ = some (.int k (bxor k a b)) := by
  refine light_of_pure ?_ rfl
  simp [execOp, eqGuard, vnf_eq hx, vnf_eq hy, binOp, Op.intBits, pureOf, bind, Sem.bind, pure, bxor]
theorem l_andn (hx : vnf (ev e x) = some (.int k a)) (hy : vnf (ev e y) = some (.int k b)) : light P e ⟨d, .binOp .andNot t x y u, ty, pos, af, g⟩ = some (.int k (bandn k a b)) := by
  refine light_of_pure ?_ rfl
  simp [execOp, eqGuard, vnf_eq hx, vnf_eq hy, binOp, Op.intBits, pureOf, bind, Sem.bind, pure, bandn]
def intT (P : Program) (t : TypeId) : Option IntKind := match P.underlying t with
  | some (.int k) => some k
  | _ => none
theorem l_conv {src dst : TypeId} {k2 : IntKind} {n : Int} (hx : vnf (ev e x) = some (.int k n)) (hs : intT P src = some k) (hd : intT P dst = some k2) : light P e ⟨d, .convert src dst x, ty, pos, af, g⟩ = some (.int k2 (k2.wrap n)) := by
  refine light_of_pure ?_ rfl
  unfold intT at hs hd
  split at hs <;> try cases hs
  split at hd <;> try cases hd
  rename_i h1 _ h2
  simp only [execOp, convert, bind_assoc, pure_underlying h1, pure_underlying h2, vnf_eq hx]
  rfl
end
end Go.VV
namespace Go.VV
theorem bne_t {a b : Int} (h : (a != b) = true) : a ≠ b := by simpa using h
theorem bne_f {a b : Int} (h : (a != b) = false) : a = b := by simpa using h
end Go.VV
namespace Go.VV
theorem Vec.cap_le {T s n m c : Nat} {a : Option Addr} {xs : List Value} {G : Heap} (h : Vec T s (.slice a m c) n xs G) : n ≤ c ∧ m = n := by
  cases h with
  | nil => exact ⟨Nat.le_refl _, rfl⟩
  | row b n cap xs sp hn hc hm hle => exact ⟨hle, rfl⟩
end Go.VV
namespace Go.VV
open Go Go.RowKit
section
variable {Γ : Ctx} {e : Env} {H : Heap} {d : Option Nat} {t : TypeId} {pos : String} {af : Array Edge} {g : Option (Nat × Bool)}
theorem x_copyTo {x y : Operand} {ts : Array TypeId} {tx ty el : TypeId} {b off dl dc m : Nat} {u : Value} {l l' ys : List Value} {T : TypeId} (i : Nat)
    (hx : vnf (ev e x) = some (.slice (some ⟨b, off, none⟩) dl dc)) (hy : ev e y = u) (hts : ts = #[tx, ty]) (hu : slcP Γ.P tx = some (el, 1))
    (hi : H[i]? = some (b, blk l T)) (hs : ∀ w, St Γ.w0 Γ.ms H w → Src w 1 u m ys) (h1 : ones ys = true) (hl : off + min m dl ≤ l.length) (hp : putL l off (ys.take (min m dl)) = l') :
    Op1 Γ ⟨d, .call ⟨.builtin .copy, #[x, y], ts⟩, t, pos, af, g⟩ e H (fun v H' => v = .int .i64 (min m dl : Nat) ∧ H' = H.set i (b, blk l' T)) := by
  subst hp
  exact x_copy i hx hy hts hu hi hs h1 hl
end
theorem cut1_on {off l c : Nat} (h : c ≠ l) : cut1 off l c = off + l := by unfold cut1; rw [if_neg h]
/-- A row of numbers, from a place on. -/
theorem Row.dropK {k : IntKind} {w : World} {b off : Nat} {l : List Int} (h : Row w b off (l.map (.int k))) (n : Nat) : Row w b (off + n) ((l.drop n).map (.int k)) := fun j v hv => by
  have := h (n + j) v (by
    rw [List.getElem?_map, List.getElem?_drop] at hv
    rw [List.getElem?_map]; exact hv)
  rwa [← Nat.add_assoc] at this
theorem Row.takeK {k : IntKind} {w : World} {b off : Nat} {l : List Int} (h : Row w b off (l.map (.int k))) (n : Nat) : Row w b off ((l.take n).map (.int k)) := fun j v hv => h j v (by
  rw [List.getElem?_map, List.getElem?_take] at hv
  split at hv
  · rw [List.getElem?_map]; exact hv
  · simp at hv)
theorem putI_mid {A Z B : List Int} {n : Nat} (h : A.length = n) : putI (A ++ Z) n B = A ++ B ++ Z.drop B.length := by
  subst h
  unfold putI
  rw [List.take_left, List.drop_append]
  simp
theorem putI_all {l vs : List Int} (h : vs.length = l.length) : putI l 0 vs = vs := by
  unfold putI; simp [h]
theorem getD_drop (l : List Int) (n j : Nat) : (l.drop n).getD j 0 = l.getD (n + j) 0 := by simp [List.getD_eq_getElem?_getD, List.getElem?_drop]
theorem getD_take (l : List Int) {n j : Nat} (h : j < n) : (l.take n).getD j 0 = l.getD j 0 := by rw [List.getD_eq_getElem?_getD, List.getElem?_take_of_lt h, ← List.getD_eq_getElem?_getD]
end Go.VV
namespace Go.VV
open Go Go.RowKit
theorem any_at {l : List Int} {i : Nat} (hi : i < l.length) (h : 3 < l.getD i 0) : (l.any fun x => decide (3 < x)) = true := by
  rw [List.any_eq_true]
  refine ⟨l[i], List.getElem_mem hi, ?_⟩
  rw [List.getD_eq_getElem?_getD, List.getElem?_eq_getElem hi] at h
  simpa using h
theorem any_none {l : List Int} (h : ∀ j, j < l.length → ¬ 3 < l.getD j 0) : (l.any fun x => decide (3 < x)) = false := by
  rw [List.any_eq_false]
  intro x hx
  obtain ⟨i, hi, rfl⟩ := List.getElem_of_mem hx
  have := h i hi
  rw [List.getD_eq_getElem?_getD, List.getElem?_eq_getElem hi] at this
  simpa using this
theorem two_law {x y : Int} (hx : 0 ≤ x ∧ x < 256) (hy : 0 ≤ y ∧ y < 256) : bor .i64 x (256 * y) = x + 256 * y := by
  rw [bor_nat hx.1 (by show _ < (9223372036854775808 : Int); omega) (by omega) (by show _ < (9223372036854775808 : Int); omega)]
  have h1 : (256 * y).toNat = 2 ^ 8 * y.toNat := by omega
  rw [h1, Nat.or_comm, ← Nat.two_pow_add_eq_or_of_lt (by omega)]
  omega
end Go.VV
namespace Go.VV
open Go Go.RowKit

theorem m_m {p : Prop} (h : p := by repeat (first | exact .head _ | refine .tail _ ?_ | refine List.mem_append_right _ ?_)) : p := h
theorem a_g {p : Prop} (h : p := by repeat (first | exact Agree.refl _ _ | exact Agree.mix rfl | refine Agree.put rfl ?_ | refine Agree.keep rfl ?_)) : p := h
theorem r_f {p q : Prop} (h : p) (k : p → q := by first | exact of_decide_eq_true | exact of_decide_eq_false | exact eq_of_beq | exact ne_of_beq_false | exact bne_t | exact bne_f | exact id) : q := k h
theorem s_z {p : Prop} (h : p := by first | rfl | exact Nat.le_of_ble_eq_true rfl | (simp; done)) : p := h
theorem s_t {p : Prop} (h : p := by first | exact x_store 0 rfl rfl rfl rfl rfl rfl s_z | exact x_store 1 rfl rfl rfl rfl rfl rfl s_z | exact x_store 2 rfl rfl rfl rfl rfl rfl s_z | exact x_store 3 rfl rfl rfl rfl rfl rfl s_z) : p := h
theorem l_n {p : Prop} (h : p := by first | exact light_len rfl rfl | exact light_lens rfl rfl | rfl) : p := h
theorem o_m {p : Prop} (h : p := by omega) : p := h
theorem c_u {p q : Prop} (k : p) (h : p → q := by intro k; simp only [List.cons_append, List.nil_append, List.set_cons_zero, List.set_cons_succ]; exact k) : q := h k
theorem n_h {p : Prop} (h : p := by intro h; cases h) : p := h
section
variable {P : Program} {Γ : Ctx} {k : Kont} {e : Env} {H F : Heap} {ops rest : List Oper} {d : Option Nat} {op : Op} {t : TypeId} {pos : String} {af : Array Edge} {g : Option (Nat × Bool)}
  {need : List Nat} {pl : Plan} {i : Nat} {S : World → Prop}
theorem RL {v : Value} (h : L1 Γ ops rest k (e.put d v) H) (hl : light Γ.P e ⟨d, op, t, pos, af, g⟩ = some v := by exact rfl) (hg : gdB ops e ⟨d, op, t, pos, af, g⟩ = true := by exact rfl) (hd : dstOk Γ.n d = true := by exact rfl) :
    L1 Γ ops (⟨d, op, t, pos, af, g⟩ :: rest) k e H := l_l hl hg hd h
theorem RLa {u f : Nat} {x : Operand} {v : Value} (h : L1 Γ ops rest k (e.put d v) H) (hl : light Γ.P e ⟨d, .fieldAddr u x f, t, pos, af, g⟩ = some v := by exact light_fa rfl rfl) (hg : gdB ops e ⟨d, .fieldAddr u x f, t, pos, af, g⟩ = true := by exact rfl) (hd : dstOk Γ.n d = true := by exact rfl) :
    L1 Γ ops (⟨d, .fieldAddr u x f, t, pos, af, g⟩ :: rest) k e H := l_l hl hg hd h
theorem RLp (h : L1 Γ ops rest k (e.put d undef) H) (hg : gdB ops e ⟨d, op, t, pos, af, g⟩ = false := by exact rfl) (hd : dstOk Γ.n d = true := by exact rfl) : L1 Γ ops (⟨d, op, t, pos, af, g⟩ :: rest) k e H := l_p hg hd h
theorem RD {v : Value} (h : L2 Γ ops S need pl k (e.put d v) H) (ho : ops[i]? = some ⟨d, op, t, pos, af, g⟩ := by exact rfl) (hl : light Γ.P e ⟨d, op, t, pos, af, g⟩ = some v := by exact rfl) (hv : notTuple v = true := by exact rfl)
    (hg : gdB ops e ⟨d, op, t, pos, af, g⟩ = true := by exact rfl) (hd : dstOk Γ.n d = true := by exact rfl) : L2 Γ ops S need (.step true i pl) k e H := d_light ho hl hv hg hd h
theorem RDa {v : Value} (h : L2 Γ ops S need pl k (e.put d v) H) (ho : ops[i]? = some ⟨d, op, t, pos, af, g⟩ := by exact rfl) (hl : light Γ.P e ⟨d, op, t, pos, af, g⟩ = some v := by exact light_fa rfl rfl) (hv : notTuple v = true := by exact rfl)
    (hg : gdB ops e ⟨d, op, t, pos, af, g⟩ = true := by exact rfl) (hd : dstOk Γ.n d = true := by exact rfl) : L2 Γ ops S need (.step true i pl) k e H := d_light ho hl hv hg hd h
/-- A load of a cell of one's own. -/
theorem RLo {T : TypeId} {x : Operand} {b off : Nat} {l : List Value} {U : TypeId} {fr : Nat × Nat} {v : Value} (h : L1 Γ ops rest k (e.put d v) H) (hx : vnf (ev e x) = some (.pointer (some ⟨b, off, none⟩)) := by exact rfl) (hs : scalarB Γ.P T = true := by exact rfl)
    (hm : (b, Obj.cells l.toArray U fr) ∈ H := by exact m_m) (hv : l[off]? = some v := by exact rfl) (hg : gdB ops e ⟨d, .load T x, t, pos, af, g⟩ = true := by exact rfl) (hd : dstOk Γ.n d = true := by exact rfl) :
    L1 Γ ops (⟨d, .load T x, t, pos, af, g⟩ :: rest) k e H := l_x (x_load hx hs (at_own hm hv)) hg hd (by rintro _ _ ⟨rfl, rfl⟩; exact h)
theorem RDo {T : TypeId} {x : Operand} {b off : Nat} {l : List Value} {U : TypeId} {fr : Nat × Nat} {v : Value} (h : L2 Γ ops (Stood Γ F) need pl k (e.put d v) H) (ho : ops[i]? = some ⟨d, .load T x, t, pos, af, g⟩ := by exact rfl) (hx : vnf (ev e x) = some (.pointer (some ⟨b, off, none⟩)) := by exact rfl) (hs : scalarB Γ.P T = true := by exact rfl)
    (hm : (b, Obj.cells l.toArray U fr) ∈ F := by exact m_m) (hv : l[off]? = some v := by exact rfl) (hg : gdB ops e ⟨d, .load T x, t, pos, af, g⟩ = true := by exact rfl) (hd : dstOk Γ.n d = true := by exact rfl) :
    L2 Γ ops (Stood Γ F) need (.step true i pl) k e H := d_load ho hx hs (s_own hm hv) hg hd h
theorem RLb {b : Bool} (ht : b = true → L1 Γ ops rest k (e.put d (.bool true)) H) (hf : b = false → L1 Γ ops rest k (e.put d (.bool false)) H) (hl : light Γ.P e ⟨d, op, t, pos, af, g⟩ = some (.bool b) := by exact rfl) (hg : gdB ops e ⟨d, op, t, pos, af, g⟩ = true := by exact rfl) (hd : dstOk Γ.n d = true := by exact rfl) :
    L1 Γ ops (⟨d, op, t, pos, af, g⟩ :: rest) k e H := l_b hl hg hd ht hf
/-- A call that changes nothing and answers one value. -/
theorem RLv {f : Nat} {l : List Operand} {ts : Array TypeId} {vs : List Value} {u : Value} (hc : callable Γ.P f = true) (hf : ∀ w, St Γ.w0 Γ.ms H w → Does Γ.P f vs w [] (fun v H' => H' = [] ∧ v = u))
    (h : L1 Γ ops rest k (e.put d u) H) (hv : evs e l = some vs := by exact rfl) (hg : gdB ops e ⟨d, .call ⟨.value (.func f), l.toArray, ts⟩, t, pos, af, g⟩ = true := by exact rfl) (hd : dstOk Γ.n d = true := by exact rfl) :
    L1 Γ ops (⟨d, .call ⟨.value (.func f), l.toArray, ts⟩, t, pos, af, g⟩ :: rest) k e H := l_x (x_val hc hv hf) hg hd (by rintro _ _ ⟨rfl, rfl⟩; exact h)
end
end Go.VV
