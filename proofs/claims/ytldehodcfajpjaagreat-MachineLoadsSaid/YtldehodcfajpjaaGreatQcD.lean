/- Functions for which the model stands in; a string's bytes copied; unsafe.String. Plain lemmas; no program. -/
import Derived.Laws.Externs
import Derived.Lib.AppendZeros
import Derived.Lib.BufferWrite
import Derived.Lib.ConvBytes
import Derived.Lib.Overlaps
import Derived.Test.YtldehodcfajpjaaGreatQcC
set_option linter.unusedSimpArgs false
set_option linter.unusedVariables false
set_option maxRecDepth 100000
namespace Go.VV
open Go Go.RowKit
section
variable {Γ : Ctx} {e : Env} {H : Heap} {d : Option Nat} {ty : TypeId} {pos : String} {af : Array Edge} {g : Option (Nat × Bool)}
theorem x_appendZ {t : TypeId} {x y : Operand} {T s by_ : Nat} {a a2 : Option Addr} {n cp n2 c2 : Nat} {ts : Array TypeId}
  (hx : vnf (ev e x) = some (.slice a n cp)) (hy : vnf (ev e y) = some (.slice a2 n2 c2)) (h0 : n2 = 0) (hts : ts = #[t, t]) (hp : appP Γ.P t = some (T, s, by_)) (hn : n ≤ cp) :
  Op1 Γ ⟨d, .call ⟨.builtin .append, #[x, y], ts⟩, ty, pos, af, g⟩ e H (fun v' H' => v' = .slice a n cp ∧ H' = H) := by
 intro w hw
 subst hts h0
 have hx := vnf_eq hx
 have hy := vnf_eq hy
 unfold appP at hp
 split at hp <;> try cases hp
 rename_i el hu
 split at hp <;> try cases hp
 rename_i ti hti
 split at hp <;> try cases hp
 rename_i z hz
 split at hp <;> try cases hp
 have key : (Builtin.append_ #[t, t] ty #[.slice a n cp, .slice a2 0 c2]).run Γ.P w = .ok (.slice a n cp) w := by
  cases a <;> cases a2 <;> simp [Builtin.append_, run_underlying hu, sizeOf, typeInfo, hti, Builtin.lenOf, Builtin.firstCells, hn, storeCells, loadCells, loadCellsFrom]
 refine opW_run (v := .slice a n cp) (w' := w) ?_ ⟨_, hw, rfl, rfl⟩
 simp only [execOp, resolve, Sem.run_bind, Sem.run_pure, Result.andThen_ok, invoke, builtin, List.map_toArray, List.map_cons, List.map_nil, hx, hy, key]
end
section
variable {Γ : Ctx} {e : Env} {H : Heap} {d : Option Nat} {ty : TypeId} {pos : String} {af : Array Edge} {g : Option (Nat × Bool)}
def isInt (P : Program) (t : TypeId) : Bool := match P.underlying t with
 | some (.int _) => true
 | _ => false
end
section
variable {P : Program} {e : Env} {d : Option Nat} {ty t : TypeId} {pos : String} {af : Array Edge} {g : Option (Nat × Bool)} {x : Operand}
theorem light_cap {a : Option Addr} {n c : Nat} (hx : vnf (ev e x) = some (.slice a n c)) (hu : isSlc P t = true) :
  light P e ⟨d, .call ⟨.builtin .cap, #[x], #[t]⟩, ty, pos, af, g⟩ = some (.int .i64 c) := by
 refine light_of_pure ?_ rfl
 have hx := vnf_eq hx
 unfold isSlc at hu
 split at hu
 ·rename_i el h1
  simp only [execOp, resolve, List.map_toArray, List.map_cons, List.map_nil, hx, pure_pure, invoke, builtin, Builtin.cap_, bind_assoc, List.getElem?_toArray, List.getElem?_cons_zero, pure_underlying h1]
  rfl
 ·cases hu
end
theorem putL_right {A B vs : List Value} {o n : Nat} (ho : o = A.length + n) (_h : n + vs.length ≤ B.length) : putL (A ++ B) o vs = A ++ putL B n vs := by
 subst ho
 unfold putL
 rw [List.take_append, List.drop_append, List.take_of_length_le (by omega), List.drop_of_length_le (by omega), List.nil_append, show A.length + n - A.length = n by omega, show A.length + n + vs.length - A.length = n + vs.length by omega]
 simp
theorem putL_left {A B vs : List Value} {o : Nat} (h : o + vs.length ≤ A.length) : putL (A ++ B) o vs = putL A o vs ++ B := by
 unfold putL
 rw [List.take_append_of_le_length (by omega), List.drop_append_of_le_length (by omega)]
 simp
def putI (l : List Int) (o : Nat) (vs : List Int) : List Int := l.take o ++ vs ++ l.drop (o + vs.length)
theorem putI_len {l vs : List Int} {o : Nat} (h : o + vs.length ≤ l.length) : (putI l o vs).length = l.length := by
 unfold putI; simp; omega
theorem putI_map (k : IntKind) (l vs : List Int) (o : Nat) : putL (l.map (.int k)) o (vs.map (.int k)) = (putI l o vs).map (.int k) := by
 unfold putL putI; simp [List.map_take, List.map_drop]
theorem putI_one {l : List Int} {o : Nat} (h : o < l.length) (x : Int) : putI l o [x] = l.set o x := by
 unfold putI
 rw [List.set_eq_take_append_cons_drop, if_pos h]
 simp
theorem putL_int {l : List Int} {o : Nat} (k : IntKind) (h : o < l.length) (x : Int) : putL (l.map (.int k)) o [.int k x] = (l.set o x).map (.int k) := by
 have := putI_map k l [x] o
 rw [putI_one h] at this
 exact this
theorem map_at {l : List Int} {k : IntKind} {j : Nat} (h : j < l.length) : (l.map (Value.int k))[j]? = some (.int k (l.getD j 0)) := by
 rw [List.getElem?_map, List.getElem?_eq_getElem h, List.getD_eq_getElem?_getD, List.getElem?_eq_getElem h]; rfl
theorem get_left {A B : List Value} {o : Nat} {v : Value} (h : A[o]? = some v) : (A ++ B)[o]? = some v := by
 have hl : o < A.length := (List.getElem?_eq_some_iff.1 h).1
 rw [List.getElem?_append_left hl]; exact h
theorem get_right {A B : List Value} {o n : Nat} {v : Value} (ho : o = A.length + n) (h : B[n]? = some v) : (A ++ B)[o]? = some v := by
 subst ho
 rw [List.getElem?_append_right (by omega)]
 simpa using h
theorem Row.right {w : World} {b off n : Nat} {A B : List Value} (h : Row w b off (A ++ B)) (hn : n = off + A.length) : Row w b n B := fun j v hv => by
 subst hn
 have := h (A.length + j) v (get_right rfl hv)
 rwa [← Nat.add_assoc] at this
section
variable {Γ : Ctx} {e : Env} {H : Heap} {d : Option Nat} {ty : TypeId} {pos : String} {af : Array Edge} {g : Option (Nat × Bool)}
theorem x_storeTo {t : TypeId} {x y : Operand} {b off : Nat} {v : Value} {vs l l' : List Value} {T : TypeId} (i : Nat)
  (hx : vnf (ev e x) = some (.pointer (some ⟨b, off, none⟩))) (hy : vnf (ev e y) = some v) (hv : cellsF v = some vs) (hn : sizeP Γ.P t = some vs.length) (h1 : ones vs = true)
  (hi : H[i]? = some (b, blk l T)) (hl : off + vs.length ≤ l.length) (hp : putL l off vs = l') :
  Op1 Γ ⟨d, .store t x y, ty, pos, af, g⟩ e H (fun u H' => u = undef ∧ H' = H.set i (b, blk l' T)) := by
 subst hp
 exact x_store i hx hy hv hn h1 hi hl
end
end Go.VV
namespace Go.VV
open Go Go.ChangeShapes Go.WideShapes Go.ChangeAt Go.RowKit
inductive KD where
 | int (k : IntKind)
 | bool
 | str
 | ints (k : IntKind)
 | rows (ks : List CK)
def kdOk (W : World) : KD → Value → Prop
 | .int k, v => ∃ n, v = .int k n ∧ (Lit.int k n).wf = true
 | .bool, v => ∃ b, v = .bool b
 | .str, v => ∃ s : ByteArray, v = .string s ∧ s.size ≤ maxLen
 | .ints k, v => ∃ (a : Option Addr) (c : Nat) (l : List Int), v = .slice a l.length c ∧ l.length ≤ c ∧ l.length ≤ maxLen ∧ (∀ x ∈ l, (Lit.int k x).wf = true) ∧ Ns W k a l
 | .rows ks, v => ∃ (a : Option Addr) (c : Nat) (l : List (List Value)), v = .slice a l.length c ∧ l.length ≤ c ∧ l.length ≤ maxLen ∧ (∀ x ∈ l, Cks ks x) ∧ Els W id a l
def KDs (W : World) : List KD → List Value → Prop
 | [], [] => True
 | k :: ks, v :: vs => kdOk W k v ∧ KDs W ks vs
 | _, _ => False
theorem KDs.app {W : World} : ∀ {a b : List KD} {x y : List Value}, KDs W a x → KDs W b y → KDs W (a ++ b) (x ++ y)
 | [], _, [], _, _, h => h
 | _ :: _, _, _ :: _, _, h, h2 => ⟨h.1, KDs.app h.2 h2⟩
 | [], _, _ :: _, _, h, _ => h.elim
 | _ :: _, _, [], _, h, _ => h.elim
theorem KDs.len {W : World} : ∀ {a : List KD} {x : List Value}, KDs W a x → a.length = x.length
 | [], [], _ => rfl
 | _ :: _, _ :: _, h => by simp [KDs.len h.2]
 | [], _ :: _, h => h.elim
 | _ :: _, [], h => h.elim
section
variable {Γ : Ctx} {e : Env} {H : Heap} {d : Option Nat} {ty : TypeId} {pos : String} {af : Array Edge} {g : Option (Nat × Bool)}
theorem x_append0M {t tn : TypeId} {x y : Operand} {T s by_ : Nat} {n : Nat} {kk : IntKind} {ts : Array TypeId}
  (hx : vnf (ev e x) = some (.slice none 0 0)) (hy : vnf (ev e y) = some (.int kk n)) (hts : ts = #[t, tn]) (htn : isInt Γ.P tn = true) (hp : appP Γ.P t = some (T, s, by_))
  (h0 : 0 < n) (hlen : n ≤ 1000000) (hb : by_ ≤ 1000) :
  Op1 Γ ⟨d, .call ⟨.builtin .append, #[x, y], ts⟩, ty, pos, af, g⟩ e H (fun v' H' => ∃ b' cap sp, v' = .slice (some ⟨b', 0, none⟩) n cap ∧ H' = (b', blk sp T) :: H ∧ sp.length = cap * s ∧ n ≤ cap ∧ cap ≤ maxLen) := by
 intro w hw
 subst hts
 have hx := vnf_eq hx
 have hy := vnf_eq hy
 unfold isInt at htn
 split at htn <;> try cases htn
 rename_i kn hkn
 unfold appP at hp
 split at hp <;> try cases hp
 rename_i el hu
 split at hp <;> try cases hp
 rename_i ti hti
 split at hp <;> try cases hp
 rename_i z hz
 split at hp <;> try cases hp
 rename_i hzs
 obtain ⟨hz1, hz2⟩ := hzs
 have h48 : n * ti.bytes ≤ 281474976710656 := by
  have : n * ti.bytes ≤ 1000000 * 1000 := Nat.mul_le_mul hlen hb
  omega
 have key := Lib.run_append_nil_zeros (P := Γ.P) w t tn ty T ti z kk kn hu hkn hti hz n h0 hz2 (by omega) h48
 have hge := grownCap_ge w n 0 T
 have hcm : grownCap w n 0 T ≤ maxLen := grownCap_le_maxLen w n 0 T (by unfold maxLen; omega)
 generalize hZ : (Builtin.zeroCells z.cells n ++ Builtin.zeroCells z.cells (grownCap w n 0 T - n)) = Z at key
 have hzl : Z.size = grownCap w n 0 T * ti.size := by
  rw [← hZ]
  simp only [Array.size_append, size_zeroCells, hz1, ← Nat.add_mul]
  congr 1
  omega
 obtain ⟨Z⟩ := Z
 refine opW_run (v := .slice (some ⟨w.heap.size, 0, none⟩) n (grownCap w n 0 T)) (w' := w.drew.alloc (blk Z T)) ?_ ⟨_, hw.drew.alloc _, w.heap.size, grownCap w n 0 T, Z, rfl, rfl, by simpa using hzl, hge, hcm⟩
 simp only [execOp, resolve, Sem.run_bind, Sem.run_pure, Result.andThen_ok, invoke, builtin, List.map_toArray, List.map_cons, List.map_nil, hx, hy, key]
end
end Go.VV
namespace Go.VV
open Go Go.RowKit
theorem as_i64 {n : Int} (h1 : -9223372036854775808 ≤ n) (h2 : n ≤ 9223372036854775807) : Value.int .i64 (IntKind.i64.wrap n) = .int .i64 n := congrArg _ (wrap_i64 h1 h2)
theorem as_u8 {n : Int} (h1 : 0 ≤ n) (h2 : n < 256) : Value.int .u8 (IntKind.u8.wrap n) = .int .u8 n := congrArg _ (wrap_u8_id h1 h2)
theorem as_u16 {n : Int} (h1 : 0 ≤ n) (h2 : n < 65536) : Value.int .u16 (IntKind.u16.wrap n) = .int .u16 n := congrArg _ (wrap_u16_id h1 h2)
theorem as_u64 {n : Int} (h1 : 0 ≤ n) (h2 : n < 18446744073709551616) : Value.int .u64 (IntKind.u64.wrap n) = .int .u64 n := congrArg _ (wrap_u64_id h1 h2)
theorem as_u8m (n : Int) : Value.int .u8 (IntKind.u8.wrap n) = .int .u8 (n % 256) := congrArg _ (wrap_u8 n)
theorem as_u16m (n : Int) : Value.int .u16 (IntKind.u16.wrap n) = .int .u16 (n % 65536) := congrArg _ (wrap_u16 n)
theorem as_u64m (n : Int) : Value.int .u64 (IntKind.u64.wrap n) = .int .u64 (n % 18446744073709551616) := congrArg _ (wrap_u64 n)
theorem as_rem {k : IntKind} {a b : Int} (h : 0 ≤ a) : Value.int k (a.tmod b) = .int k (a % b) := congrArg _ (Int.tmod_eq_emod_of_nonneg h)
def topOf : IntKind → Int
 | .u8 => 256
 | .u16 => 65536
 | .u64 => 18446744073709551616
 | .i64 => 9223372036854775808
 | _ => 0
theorem wrap_in {k : IntKind} {n : Int} (h1 : 0 ≤ n) (h2 : n < topOf k) : k.wrap n = n := by
 cases k <;> simp only [topOf] at h2 <;> first | omega | exact wrap_u8_id h1 h2 | exact wrap_u16_id h1 h2 | exact wrap_u64_id h1 h2 | exact wrap_i64 (by omega) (by omega)
theorem bits_in {k : IntKind} {n : Int} (h1 : 0 ≤ n) (h2 : n < topOf k) : (BitVec.ofInt k.bits n).toNat = n.toNat := by
 have : n < 2 ^ k.bits := by cases k <;> simp only [topOf] at h2 <;> simp only [IntKind.bits] <;> omega
 rw [BitVec.toNat_ofInt, Int.emod_eq_of_lt h1 (by simpa using this)]
theorem as_quo {k : IntKind} {a b : Int} (h1 : 0 ≤ a) (h2 : a < topOf k) (hb : 0 < b) : Value.int k (k.wrap (a.tdiv b)) = .int k (a / b) := by
 rw [Int.tdiv_eq_ediv_of_nonneg h1, wrap_in (Int.ediv_nonneg h1 (by omega)) (Int.lt_of_le_of_lt (Int.ediv_le_self _ h1) h2)]
theorem as_shr {k : IntKind} {a n : Int} (d : Int) (h : 2 ^ min n.toNat k.bits = d) (hd : 0 < d) : Value.int k (shr k a n) = .int k (a / d) := by
 unfold shr
 rw [h, Int.fdiv_eq_ediv_of_nonneg _ (by omega)]
theorem shl_eq {k : IntKind} {a n : Int} (d : Int) (h : 2 ^ min n.toNat k.bits = d) : shl k a n = k.wrap (a * d) := by unfold shl; rw [h]
theorem as_shl {k : IntKind} {a n : Int} (d : Int) (h : 2 ^ min n.toNat k.bits = d) (h1 : 0 ≤ a * d) (h2 : a * d < topOf k) : Value.int k (shl k a n) = .int k (a * d) := by rw [shl_eq d h, wrap_in h1 h2]
theorem as_shl8 {a n : Int} (d : Int) (h : 2 ^ min n.toNat 8 = d) : Value.int .u8 (shl .u8 a n) = .int .u8 (a * d % 256) := by rw [shl_eq d h, wrap_u8]
theorem as_shl16 {a n : Int} (d : Int) (h : 2 ^ min n.toNat 16 = d) : Value.int .u16 (shl .u16 a n) = .int .u16 (a * d % 65536) := by rw [shl_eq d h, wrap_u16]
theorem band_nat {k : IntKind} {a b : Int} (h1 : 0 ≤ a) (h2 : a < topOf k) (h3 : 0 ≤ b) (h4 : b < topOf k) : band k a b = ((a.toNat &&& b.toNat : Nat) : Int) := by
 unfold band
 rw [BitVec.toNat_and, bits_in h1 h2, bits_in h3 h4]
 refine wrap_in (Int.natCast_nonneg _) ?_
 have := Nat.and_le_left (n := a.toNat) (m := b.toNat)
 omega
theorem bor_nat {k : IntKind} {a b : Int} (h1 : 0 ≤ a) (h2 : a < topOf k) (h3 : 0 ≤ b) (h4 : b < topOf k) : bor k a b = ((a.toNat ||| b.toNat : Nat) : Int) := by
 unfold bor
 rw [BitVec.toNat_or, bits_in h1 h2, bits_in h3 h4]
 refine wrap_in (Int.natCast_nonneg _) ?_
 have hm : ∃ m : Nat, topOf k = ((2 ^ m : Nat) : Int) ∨ topOf k = 0 := by
  cases k <;> first | exact ⟨8, .inl rfl⟩ | exact ⟨16, .inl rfl⟩ | exact ⟨64, .inl rfl⟩ | exact ⟨63, .inl rfl⟩ | exact ⟨0, .inr rfl⟩
 obtain ⟨m, hm | hm⟩ := hm
 ·have h5 : a.toNat < 2 ^ m := by rw [hm] at h2; omega
  have h6 : b.toNat < 2 ^ m := by rw [hm] at h4; omega
  have := Nat.or_lt_two_pow h5 h6
  rw [hm]; omega
 ·omega
theorem band_mask {k : IntKind} {a b : Int} (n : Nat) (d : Int) (hd : ((2 ^ n : Nat) : Int) = d) (hb : b = d - 1) (h1 : 0 ≤ a) (h2 : a < topOf k) (h4 : b < topOf k) : band k a b = a % d := by
 have hp : 0 < (2 : Nat) ^ n := Nat.two_pow_pos n
 rw [band_nat h1 h2 (by omega) h4]
 have : b.toNat = 2 ^ n - 1 := by omega
 rw [this, Nat.and_two_pow_sub_one_eq_mod, ← hd]
 obtain ⟨m, rfl⟩ : ∃ m : Nat, a = m := ⟨a.toNat, by omega⟩
 simp
theorem as_mask {k : IntKind} {a b : Int} (n : Nat) (d : Int) (hd : ((2 ^ n : Nat) : Int) = d) (hb : b = d - 1) (h1 : 0 ≤ a) (h2 : a < topOf k) (h4 : b < topOf k) : Value.int k (band k a b) = .int k (a % d) := congrArg _ (band_mask n d hd hb h1 h2 h4)
theorem band_bit {k : IntKind} {a b : Int} (n : Nat) (hb : ((2 ^ n : Nat) : Int) = b) (h1 : 0 ≤ a) (h2 : a < topOf k) (h4 : b < topOf k) : band k a b = a / b % 2 * b := by
 have hp : 0 < (2 : Nat) ^ n := Nat.two_pow_pos n
 rw [band_nat h1 h2 (by omega) h4]
 have hbn : b.toNat = 2 ^ n := by omega
 rw [hbn]
 have key : a.toNat &&& 2 ^ n = (a.toNat / 2 ^ n % 2) * 2 ^ n := by
  apply Nat.eq_of_testBit_eq
  intro i
  rw [Nat.testBit_and, Nat.testBit_two_pow]
  by_cases hi : n = i
  ·subst hi
   simp only [decide_true, Bool.and_true]
   rw [Nat.testBit_mul_two_pow]
   simp [Nat.testBit_eq_decide_div_mod_eq]
  ·simp only [hi, decide_false, Bool.and_false]
   rw [Nat.testBit_mul_two_pow]
   rcases Nat.lt_or_ge i n with h | h
   ·simp [show ¬ n ≤ i by omega]
   ·rcases Nat.mod_two_eq_zero_or_one (a.toNat / 2 ^ n) with h3 | h3 <;> rw [h3]
    ·simp
    ·obtain ⟨q, hq⟩ : ∃ q, i - n = q + 1 := ⟨i - n - 1, by omega⟩
     rw [hq, Nat.testBit_succ]
     simp
 rw [key]
 obtain ⟨m, rfl⟩ : ∃ m : Nat, a = m := ⟨a.toNat, by omega⟩
 rw [← hb]
 simp
theorem as_bit {k : IntKind} {a b : Int} (n : Nat) (hb : ((2 ^ n : Nat) : Int) = b) (h1 : 0 ≤ a) (h2 : a < topOf k) (h4 : b < topOf k) : Value.int k (band k a b) = .int k (a / b % 2 * b) := congrArg _ (band_bit n hb h1 h2 h4)
end Go.VV
namespace Go.VV
open Go Go.RowKit
section
variable {P : Program} {e : Env} {d : Option Nat} {ty t u : TypeId} {pos : String} {af : Array Edge} {g : Option (Nat × Bool)} {x y : Operand} {k : IntKind} {a b : Int}
theorem l_add (hx : vnf (ev e x) = some (.int k a)) (hy : vnf (ev e y) = some (.int k b)) : light P e ⟨d, .binOp .add t x y u, ty, pos, af, g⟩ = some (.int k (k.wrap (a + b))) := by
 refine light_of_pure ?_ rfl
 simp [execOp, eqGuard, vnf_eq hx, vnf_eq hy, binOp, Op.intArith, pureOf, bind, Sem.bind, pure]
theorem l_sub (hx : vnf (ev e x) = some (.int k a)) (hy : vnf (ev e y) = some (.int k b)) : light P e ⟨d, .binOp .sub t x y u, ty, pos, af, g⟩ = some (.int k (k.wrap (a - b))) := by
 refine light_of_pure ?_ rfl
 simp [execOp, eqGuard, vnf_eq hx, vnf_eq hy, binOp, Op.intArith, pureOf, bind, Sem.bind, pure]
theorem l_mul (hx : vnf (ev e x) = some (.int k a)) (hy : vnf (ev e y) = some (.int k b)) : light P e ⟨d, .binOp .mul t x y u, ty, pos, af, g⟩ = some (.int k (k.wrap (a * b))) := by
 refine light_of_pure ?_ rfl
 simp [execOp, eqGuard, vnf_eq hx, vnf_eq hy, binOp, Op.intArith, pureOf, bind, Sem.bind, pure]
theorem l_and (hx : vnf (ev e x) = some (.int k a)) (hy : vnf (ev e y) = some (.int k b)) : light P e ⟨d, .binOp .and t x y u, ty, pos, af, g⟩ = some (.int k (band k a b)) := by
 refine light_of_pure ?_ rfl
 simp [execOp, eqGuard, vnf_eq hx, vnf_eq hy, binOp, Op.intBits, pureOf, bind, Sem.bind, pure, band]
theorem l_or (hx : vnf (ev e x) = some (.int k a)) (hy : vnf (ev e y) = some (.int k b)) : light P e ⟨d, .binOp .or t x y u, ty, pos, af, g⟩ = some (.int k (bor k a b)) := by
 refine light_of_pure ?_ rfl
 simp [execOp, eqGuard, vnf_eq hx, vnf_eq hy, binOp, Op.intBits, pureOf, bind, Sem.bind, pure, bor]
theorem l_xor (hx : vnf (ev e x) = some (.int k a)) (hy : vnf (ev e y) = some (.int k b)) : light P e ⟨d, .binOp .xor t x y u, ty, pos, af, g⟩ = some (.int k (bxor k a b)) := by
 refine light_of_pure ?_ rfl
 simp [execOp, eqGuard, vnf_eq hx, vnf_eq hy, binOp, Op.intBits, pureOf, bind, Sem.bind, pure, bxor]
theorem l_andn (hx : vnf (ev e x) = some (.int k a)) (hy : vnf (ev e y) = some (.int k b)) : light P e ⟨d, .binOp .andNot t x y u, ty, pos, af, g⟩ = some (.int k (bandn k a b)) := by
 refine light_of_pure ?_ rfl
 simp [execOp, eqGuard, vnf_eq hx, vnf_eq hy, binOp, Op.intBits, pureOf, bind, Sem.bind, pure, bandn]
def intT (P : Program) (t : TypeId) : Option IntKind := match P.underlying t with
 | some (.int k) => some k
 | _ => none
theorem l_conv {src dst : TypeId} {k2 : IntKind} {n : Int} (hx : vnf (ev e x) = some (.int k n)) (hs : intT P src = some k) (hd : intT P dst = some k2) : light P e ⟨d, .convert src dst x, ty, pos, af, g⟩ = some (.int k2 (k2.wrap n)) := by
 refine light_of_pure ?_ rfl
 unfold intT at hs hd
 split at hs <;> try cases hs
 split at hd <;> try cases hd
 rename_i h1 _ h2
 simp only [execOp, convert, bind_assoc, pure_underlying h1, pure_underlying h2, vnf_eq hx]
 rfl
end
end Go.VV
namespace Go.VV
theorem bne_t {a b : Int} (h : (a != b) = true) : a ≠ b := by simpa using h
theorem bne_f {a b : Int} (h : (a != b) = false) : a = b := by simpa using h
end Go.VV
namespace Go.VV
theorem Vec.cap_le {T s n m c : Nat} {a : Option Addr} {xs : List Value} {G : Heap} (h : Vec T s (.slice a m c) n xs G) : n ≤ c ∧ m = n := by
 cases h with
 | nil => exact ⟨Nat.le_refl _, rfl⟩
 | row b n cap xs sp hn hc hm hle => exact ⟨hle, rfl⟩
section
variable {Γ : Ctx} {e : Env} {H : Heap} {d : Option Nat} {t : TypeId} {pos : String} {af : Array Edge} {g : Option (Nat × Bool)}
theorem x_copyTo {x y : Operand} {ts : Array TypeId} {tx ty el : TypeId} {b off dl dc m : Nat} {u : Value} {l l' ys : List Value} {T : TypeId} (i : Nat)
  (hx : vnf (ev e x) = some (.slice (some ⟨b, off, none⟩) dl dc)) (hy : ev e y = u) (hts : ts = #[tx, ty]) (hu : slcP Γ.P tx = some (el, 1))
  (hi : H[i]? = some (b, blk l T)) (hs : ∀ w, St Γ.w0 Γ.ms H w → Src w 1 u m ys) (h1 : ones ys = true) (hl : off + min m dl ≤ l.length) (hp : putL l off (ys.take (min m dl)) = l') :
  Op1 Γ ⟨d, .call ⟨.builtin .copy, #[x, y], ts⟩, t, pos, af, g⟩ e H (fun v H' => v = .int .i64 (min m dl : Nat) ∧ H' = H.set i (b, blk l' T)) := by
 subst hp
 exact x_copy i hx hy hts hu hi hs h1 hl
end
theorem cut1_on {off l c : Nat} (h : c ≠ l) : cut1 off l c = off + l := by unfold cut1; rw [if_neg h]
theorem Row.dropK {k : IntKind} {w : World} {b off : Nat} {l : List Int} (h : Row w b off (l.map (.int k))) (n : Nat) : Row w b (off + n) ((l.drop n).map (.int k)) := fun j v hv => by
 have := h (n + j) v (by
  rw [List.getElem?_map, List.getElem?_drop] at hv
  rw [List.getElem?_map]; exact hv)
 rwa [← Nat.add_assoc] at this
theorem Row.takeK {k : IntKind} {w : World} {b off : Nat} {l : List Int} (h : Row w b off (l.map (.int k))) (n : Nat) : Row w b off ((l.take n).map (.int k)) := fun j v hv => h j v (by
 rw [List.getElem?_map, List.getElem?_take] at hv
 split at hv
 ·rw [List.getElem?_map]; exact hv
 ·simp at hv)
end Go.VV
namespace Go.VV
open Go Go.RowKit
theorem m_m {p : Prop} (h : p := by repeat (first | exact .head _ | refine .tail _ ?_ | refine List.mem_append_right _ ?_)) : p := h
theorem a_g {p : Prop} (h : p := by repeat (first | exact Agree.refl _ _ | exact Agree.mix rfl | refine Agree.put rfl ?_ | refine Agree.keep rfl ?_)) : p := h
theorem r_f {p q : Prop} (h : p) (k : p → q := by first | exact of_decide_eq_true | exact of_decide_eq_false | exact eq_of_beq | exact ne_of_beq_false | exact bne_t | exact bne_f | exact id) : q := k h
theorem s_z {p : Prop} (h : p := by first | rfl | exact Nat.le_of_ble_eq_true rfl | (simp; done)) : p := h
theorem s_t {p : Prop} (h : p := by first | exact x_store 0 rfl rfl rfl rfl rfl rfl s_z | exact x_store 1 rfl rfl rfl rfl rfl rfl s_z | exact x_store 2 rfl rfl rfl rfl rfl rfl s_z | exact x_store 3 rfl rfl rfl rfl rfl rfl s_z) : p := h
theorem l_n {p : Prop} (h : p := by first | exact light_len rfl rfl | exact light_lens rfl rfl | rfl) : p := h
theorem o_m {p : Prop} (h : p := by omega) : p := h
theorem c_u {p q : Prop} (k : p) (h : p → q := by intro k; simp only [List.cons_append, List.nil_append, List.set_cons_zero, List.set_cons_succ]; exact k) : q := h k
theorem n_h {p : Prop} (h : p := by intro h; cases h) : p := h
section
variable {P : Program} {Γ : Ctx} {k : Kont} {e : Env} {H F : Heap} {ops rest : List Oper} {d : Option Nat} {op : Op} {t : TypeId} {pos : String} {af : Array Edge} {g : Option (Nat × Bool)}
  {need : List Nat} {pl : Plan} {i : Nat} {S : World → Prop}
theorem Rl {v : Value} (h : L1 Γ ops rest k (e.put d v) H) (hl : light Γ.P e ⟨d, op, t, pos, af, g⟩ = some v := by exact rfl) (hg : gdB ops e ⟨d, op, t, pos, af, g⟩ = true := by exact rfl) (hd : dstOk Γ.n d = true := by exact rfl) :
    L1 Γ ops (⟨d, op, t, pos, af, g⟩ :: rest) k e H := l_l hl hg hd h
theorem RLa {u f : Nat} {x : Operand} {v : Value} (h : L1 Γ ops rest k (e.put d v) H) (hl : light Γ.P e ⟨d, .fieldAddr u x f, t, pos, af, g⟩ = some v := by exact light_fa rfl rfl) (hg : gdB ops e ⟨d, .fieldAddr u x f, t, pos, af, g⟩ = true := by exact rfl) (hd : dstOk Γ.n d = true := by exact rfl) :
    L1 Γ ops (⟨d, .fieldAddr u x f, t, pos, af, g⟩ :: rest) k e H := l_l hl hg hd h
theorem RLp (h : L1 Γ ops rest k (e.put d undef) H) (hg : gdB ops e ⟨d, op, t, pos, af, g⟩ = false := by exact rfl) (hd : dstOk Γ.n d = true := by exact rfl) : L1 Γ ops (⟨d, op, t, pos, af, g⟩ :: rest) k e H := l_p hg hd h
theorem RD {v : Value} (h : L2 Γ ops S need pl k (e.put d v) H) (ho : ops[i]? = some ⟨d, op, t, pos, af, g⟩ := by exact rfl) (hl : light Γ.P e ⟨d, op, t, pos, af, g⟩ = some v := by exact rfl) (hv : notTuple v = true := by exact rfl)
    (hg : gdB ops e ⟨d, op, t, pos, af, g⟩ = true := by exact rfl) (hd : dstOk Γ.n d = true := by exact rfl) : L2 Γ ops S need (.step true i pl) k e H := d_light ho hl hv hg hd h
theorem RDa {v : Value} (h : L2 Γ ops S need pl k (e.put d v) H) (ho : ops[i]? = some ⟨d, op, t, pos, af, g⟩ := by exact rfl) (hl : light Γ.P e ⟨d, op, t, pos, af, g⟩ = some v := by exact light_fa rfl rfl) (hv : notTuple v = true := by exact rfl)
    (hg : gdB ops e ⟨d, op, t, pos, af, g⟩ = true := by exact rfl) (hd : dstOk Γ.n d = true := by exact rfl) : L2 Γ ops S need (.step true i pl) k e H := d_light ho hl hv hg hd h
theorem RLo {T : TypeId} {x : Operand} {b off : Nat} {l : List Value} {U : TypeId} {fr : Nat × Nat} {v : Value} (h : L1 Γ ops rest k (e.put d v) H) (hx : vnf (ev e x) = some (.pointer (some ⟨b, off, none⟩)) := by exact rfl) (hs : scalarB Γ.P T = true := by exact rfl)
    (hm : (b, Obj.cells l.toArray U fr) ∈ H := by exact m_m) (hv : l[off]? = some v := by exact rfl) (hg : gdB ops e ⟨d, .load T x, t, pos, af, g⟩ = true := by exact rfl) (hd : dstOk Γ.n d = true := by exact rfl) :
    L1 Γ ops (⟨d, .load T x, t, pos, af, g⟩ :: rest) k e H := l_x (x_load hx hs (at_own hm hv)) hg hd (by rintro _ _ ⟨rfl, rfl⟩; exact h)
theorem RDo {T : TypeId} {x : Operand} {b off : Nat} {l : List Value} {U : TypeId} {fr : Nat × Nat} {v : Value} (h : L2 Γ ops (Stood Γ F) need pl k (e.put d v) H) (ho : ops[i]? = some ⟨d, .load T x, t, pos, af, g⟩ := by exact rfl) (hx : vnf (ev e x) = some (.pointer (some ⟨b, off, none⟩)) := by exact rfl) (hs : scalarB Γ.P T = true := by exact rfl)
    (hm : (b, Obj.cells l.toArray U fr) ∈ F := by exact m_m) (hv : l[off]? = some v := by exact rfl) (hg : gdB ops e ⟨d, .load T x, t, pos, af, g⟩ = true := by exact rfl) (hd : dstOk Γ.n d = true := by exact rfl) :
    L2 Γ ops (Stood Γ F) need (.step true i pl) k e H := d_load ho hx hs (s_own hm hv) hg hd h
theorem RLb {b : Bool} (ht : b = true → L1 Γ ops rest k (e.put d (.bool true)) H) (hf : b = false → L1 Γ ops rest k (e.put d (.bool false)) H) (hl : light Γ.P e ⟨d, op, t, pos, af, g⟩ = some (.bool b) := by exact rfl) (hg : gdB ops e ⟨d, op, t, pos, af, g⟩ = true := by exact rfl) (hd : dstOk Γ.n d = true := by exact rfl) :
    L1 Γ ops (⟨d, op, t, pos, af, g⟩ :: rest) k e H := l_b hl hg hd ht hf
theorem RLv {f : Nat} {l : List Operand} {ts : Array TypeId} {vs : List Value} {u : Value} (hc : callable Γ.P f = true) (hf : ∀ w, St Γ.w0 Γ.ms H w → Does Γ.P f vs w [] (fun v H' => H' = [] ∧ v = u))
    (h : L1 Γ ops rest k (e.put d u) H) (hv : evs e l = some vs := by exact rfl) (hg : gdB ops e ⟨d, .call ⟨.value (.func f), l.toArray, ts⟩, t, pos, af, g⟩ = true := by exact rfl) (hd : dstOk Γ.n d = true := by exact rfl) :
    L1 Γ ops (⟨d, .call ⟨.value (.func f), l.toArray, ts⟩, t, pos, af, g⟩ :: rest) k e H := l_x (x_val hc hv hf) hg hd (by rintro _ _ ⟨rfl, rfl⟩; exact h)
end
structure Wr (q : Prop) : Prop where
  u : q
theorem G_L {p q : Prop} (k_ : q) (h : Wr q → p := by intro k_; (first | refine RLa ?_ | refine RLo ?_ | refine RLp ?_ | refine Rl ?_); exact k_.u) : p := h ⟨k_⟩
theorem G_D {p q : Prop} (k_ : q) (h : Wr q → p := by intro k_; (first | refine RDa ?_ | refine RDo ?_ | refine d_pass rfl rfl rfl ?_ | refine RD ?_); exact k_.u) : p := h ⟨k_⟩
section
variable {P : Program} {Γ : Ctx} {k : Kont} {e : Env} {H F L : Heap} {ops rest : List Oper} {d : Option Nat} {op : Op} {t : TypeId} {pos : String} {af : Array Edge} {g : Option (Nat × Bool)}
  {need : List Nat} {pl : Plan} {i : Nat} {S : World → Prop} {T F1 : Prop}
theorem KC {c : Operand} {x y : Code} {b : Bool} (h1 : b = true → T → C Γ x k e L) (h2 : b = false → F1 → C Γ y k e L) (hc : ev e c = .bool b := by exact rfl)
    (k1 : b = true → T := by first | exact of_decide_eq_true | exact eq_of_beq | exact bne_t | exact id) (k2 : b = false → F1 := by first | exact of_decide_eq_false | exact ne_of_beq_false | exact bne_f | exact id) : C Γ (.cond c x y) k e L :=
  c_cond hc (fun h => h1 h (k1 h)) (fun h => h2 h (k2 h))
theorem KL {b : Bool} (ht : b = true → T → L1 Γ ops rest k (e.put d (.bool true)) H) (hf : b = false → F1 → L1 Γ ops rest k (e.put d (.bool false)) H) (hl : light Γ.P e ⟨d, op, t, pos, af, g⟩ = some (.bool b) := by exact rfl) (hg : gdB ops e ⟨d, op, t, pos, af, g⟩ = true := by exact rfl) (hd : dstOk Γ.n d = true := by exact rfl)
    (k1 : b = true → T := by first | exact of_decide_eq_true | exact eq_of_beq | exact bne_t | exact id) (k2 : b = false → F1 := by first | exact of_decide_eq_false | exact ne_of_beq_false | exact bne_f | exact id) :
    L1 Γ ops (⟨d, op, t, pos, af, g⟩ :: rest) k e H := l_b hl hg hd (fun h => ht h (k1 h)) (fun h => hf h (k2 h))
theorem KE {b : Bool} (ht : b = true → T → L2 Γ ops S need pl k (e.put d (.bool true)) H) (hf : b = false → F1 → L2 Γ ops S need pl k (e.put d (.bool false)) H) (ho : ops[i]? = some ⟨d, op, t, pos, af, g⟩ := by exact rfl) (hl : light Γ.P e ⟨d, op, t, pos, af, g⟩ = some (.bool b) := by exact rfl) (hg : gdB ops e ⟨d, op, t, pos, af, g⟩ = true := by exact rfl) (hd : dstOk Γ.n d = true := by exact rfl)
    (k1 : b = true → T := by first | exact of_decide_eq_true | exact eq_of_beq | exact bne_t | exact id) (k2 : b = false → F1 := by first | exact of_decide_eq_false | exact ne_of_beq_false | exact bne_f | exact id) :
    L2 Γ ops S need (.step true i pl) k e H := d_bool ho hl hg hd (fun h => ht h (k1 h)) (fun h => hf h (k2 h))
theorem RX {K : Value → Heap → Prop} (hop : Op1 Γ ⟨d, op, t, pos, af, g⟩ e H K) (hg : (gdB ops e ⟨d, op, t, pos, af, g⟩ && dstOk Γ.n d) = true) (hk : ∀ v H', K v H' → L1 Γ ops rest k (e.put d v) H') :
    L1 Γ ops (⟨d, op, t, pos, af, g⟩ :: rest) k e H := l_x hop (Bool.and_eq_true_iff.1 hg).1 (Bool.and_eq_true_iff.1 hg).2 hk
theorem RY {v : Value} (hl : light Γ.P e ⟨d, op, t, pos, af, g⟩ = some v) (hg : (gdB ops e ⟨d, op, t, pos, af, g⟩ && dstOk Γ.n d) = true) (h : L1 Γ ops rest k (e.put d v) H) :
    L1 Γ ops (⟨d, op, t, pos, af, g⟩ :: rest) k e H := l_l hl (Bool.and_eq_true_iff.1 hg).1 (Bool.and_eq_true_iff.1 hg).2 h
theorem RW {v u : Value} (hl : light Γ.P e ⟨d, op, t, pos, af, g⟩ = some u) (hg : (gdB ops e ⟨d, op, t, pos, af, g⟩ && dstOk Γ.n d) = true) (hv : u = v) (h : L1 Γ ops rest k (e.put d v) H) :
    L1 Γ ops (⟨d, op, t, pos, af, g⟩ :: rest) k e H := l_as hl (Bool.and_eq_true_iff.1 hg).1 (Bool.and_eq_true_iff.1 hg).2 hv h
theorem DX {K : Value → Heap → Prop} (ho : ops[i]? = some ⟨d, op, t, pos, af, g⟩) (hop : Op1 Γ ⟨d, op, t, pos, af, g⟩ e H K) (hg : (gdB ops e ⟨d, op, t, pos, af, g⟩ && dstOk Γ.n d) = true) (hn : need.any (Nat.beq i) = true → ∀ v H', K v H' → ∀ x ∈ F, x ∈ H')
    (hk : ∀ v H', K v H' → L2 Γ ops (Stood Γ F) need pl k (e.put d v) H') :
    L2 Γ ops (Stood Γ F) need (.step false i pl) k e H := d_x ho hop (Bool.and_eq_true_iff.1 hg).1 (Bool.and_eq_true_iff.1 hg).2 hn hk
theorem DW {v u : Value} (ho : ops[i]? = some ⟨d, op, t, pos, af, g⟩) (hl : light Γ.P e ⟨d, op, t, pos, af, g⟩ = some u) (hg : (notTuple u && (gdB ops e ⟨d, op, t, pos, af, g⟩ && dstOk Γ.n d)) = true) (hv : u = v) (h : L2 Γ ops S need pl k (e.put d v) H) :
    L2 Γ ops S need (.step true i pl) k e H := d_as ho hl (Bool.and_eq_true_iff.1 hg).1 (Bool.and_eq_true_iff.1 (Bool.and_eq_true_iff.1 hg).2).1 (Bool.and_eq_true_iff.1 (Bool.and_eq_true_iff.1 hg).2).2 hv h
theorem DY {v : Value} (ho : ops[i]? = some ⟨d, op, t, pos, af, g⟩) (hl : light Γ.P e ⟨d, op, t, pos, af, g⟩ = some v) (hg : (notTuple v && (gdB ops e ⟨d, op, t, pos, af, g⟩ && dstOk Γ.n d)) = true) (h : L2 Γ ops S need pl k (e.put d v) H) :
    L2 Γ ops S need (.step true i pl) k e H := d_light ho hl (Bool.and_eq_true_iff.1 hg).1 (Bool.and_eq_true_iff.1 (Bool.and_eq_true_iff.1 hg).2).1 (Bool.and_eq_true_iff.1 (Bool.and_eq_true_iff.1 hg).2).2 h
theorem DL {T : TypeId} {x : Operand} {b off : Nat} {v : Value} (ho : ops[i]? = some ⟨d, .load T x, t, pos, af, g⟩) (hx : vnf (ev e x) = some (.pointer (some ⟨b, off, none⟩))) (hs : scalarB Γ.P T = true)
    (hc : ∀ w, Stood Γ F w → w.cell? ⟨b, off, none⟩ = some v) (hg : (gdB ops e ⟨d, .load T x, t, pos, af, g⟩ && dstOk Γ.n d) = true) (h : L2 Γ ops (Stood Γ F) need pl k (e.put d v) H) :
    L2 Γ ops (Stood Γ F) need (.step true i pl) k e H := d_load ho hx hs hc (Bool.and_eq_true_iff.1 hg).1 (Bool.and_eq_true_iff.1 hg).2 h
theorem RZ {v : Value} {H2 : Heap} (hop : Op1 Γ ⟨d, op, t, pos, af, g⟩ e H (fun u H' => u = v ∧ H' = H2)) (hg : (gdB ops e ⟨d, op, t, pos, af, g⟩ && dstOk Γ.n d) = true) (hk : L1 Γ ops rest k (e.put d v) H2) :
    L1 Γ ops (⟨d, op, t, pos, af, g⟩ :: rest) k e H := RX hop hg (by rintro _ _ ⟨rfl, rfl⟩; exact hk)
theorem DZ {v : Value} {H2 : Heap} (ho : ops[i]? = some ⟨d, op, t, pos, af, g⟩) (hop : Op1 Γ ⟨d, op, t, pos, af, g⟩ e H (fun u H' => u = v ∧ H' = H2)) (hg : (gdB ops e ⟨d, op, t, pos, af, g⟩ && dstOk Γ.n d) = true) (hn : need.any (Nat.beq i) = true → ∀ u H', (u = v ∧ H' = H2) → ∀ x ∈ F, x ∈ H')
    (hk : L2 Γ ops (Stood Γ F) need pl k (e.put d v) H2) : L2 Γ ops (Stood Γ F) need (.step false i pl) k e H := DX ho hop hg hn (by rintro _ _ ⟨rfl, rfl⟩; exact hk)
theorem RS {v : Value} (h : L1 Γ ops rest k (e.put d v) H) (hl : light Γ.P e ⟨d, op, t, pos, af, g⟩ = some v := by exact light_struct rfl rfl rfl rfl) (hg : (gdB ops e ⟨d, op, t, pos, af, g⟩ && dstOk Γ.n d) = true := by exact rfl) :
    L1 Γ ops (⟨d, op, t, pos, af, g⟩ :: rest) k e H := RY hl hg h
theorem E0 {Γ : Ctx} {s : Nat} {R : Value → Heap → Prop} {v : Value} (hv : vnf (e s) = some v) (h : R v []) : Ends Γ [.tmp s] R e H := l_end0 (fun _ _ => rets_v hv) h
theorem EV {Γ : Ctx} {s : Nat} {R : Value → Heap → Prop} {H' : Heap} {v : Value} (hv : vnf (e s) = some v) (hh : H'.Sublist H) (h : R v H') : Ends Γ [.tmp s] R e H := l_end (fun _ _ => rets_v hv) hh h
theorem EN {Γ : Ctx} {R : Value → Heap → Prop} {H' : Heap} (hh : H'.Sublist H) (h : R (.tuple #[]) H') : Ends Γ [] R e H := l_end (fun _ _ => rets_none) hh h
end
@[reducible] def pln : List Nat → Plan
  | [] => .done
  | n :: l => .step (Nat.beq (n % 2) 0) (n / 2) (pln l)
theorem DR {Γ : Ctx} {k : Kont} {e : Env} {H : Heap} {id : Nat} {l : List Oper} (need : List Nat) (pl : Plan) (h : L2 Γ l (Stood Γ H) need pl k e H) (hm : Γ.P.follows .mixedOrders = true := by exact rfl) (hs : plainOps l.toArray = true := by kernel_rfl)
    (hB : planB .any l.toArray (fun i => need.any (Nat.beq i)) pl l.toArray.size true (Array.replicate l.toArray.size false) true = true := by kernel_rfl) : C Γ (.region id l.toArray true) k e H := c_draw H need pl hm hs hB (fun _ h => h) h
end Go.VV
namespace Go.VV
open Go Go.ChangeShapes Go.WideShapes Go.ChangeAt Go.RowKit
inductive NK where
 | int (k : IntKind)
 | bool
 | str
 | ints (k : IntKind)
 | rows (ks : List CK)
def nkOk (W : World) : NK → Value → Prop
 | .int k, v => ∃ n, v = .int k n ∧ (Lit.int k n).wf = true
 | .bool, v => ∃ b, v = .bool b
 | .str, v => ∃ s : ByteArray, v = .string s ∧ s.size ≤ maxLen
 | .ints k, v => ∃ (a : Option Addr) (c : Nat) (l : List Int), v = .slice a l.length c ∧ l.length ≤ c ∧ l.length ≤ maxLen ∧ (∀ x ∈ l, (Lit.int k x).wf = true) ∧ Ns W k a l
 | .rows ks, v => ∃ (a : Option Addr) (c : Nat) (l : List (List Value)), v = .slice a l.length c ∧ l.length ≤ c ∧ l.length ≤ maxLen ∧ (∀ x ∈ l, Cks ks x) ∧ Els W id a l
def Nks (W : World) : List NK → List Value → Prop
 | [], [] => True
 | k :: ks, v :: vs => nkOk W k v ∧ Nks W ks vs
 | _, _ => False
theorem Nks.app {W : World} : ∀ {a b : List NK} {x y : List Value}, Nks W a x → Nks W b y → Nks W (a ++ b) (x ++ y)
 | [], _, [], _, _, h => h
 | _ :: _, _, _ :: _, _, h, h2 => ⟨h.1, Nks.app h.2 h2⟩
 | [], _, _ :: _, _, h, _ => h.elim
 | _ :: _, _, [], _, h, _ => h.elim
theorem Nks.len {W : World} : ∀ {a : List NK} {x : List Value}, Nks W a x → a.length = x.length
 | [], [], _ => rfl
 | _ :: _, _ :: _, h => by simp [Nks.len h.2]
 | [], _ :: _, h => h.elim
 | _ :: _, [], h => h.elim
section
variable (P : Program)
def nkindsF (f : TypeId → Option (List NK)) : List Field → Nat → Option (List NK)
 | [], _ => some []
 | fd :: r, off => match f fd.type with
  | some ks => bif Nat.beq fd.offset off && Nat.beq (P.cellsOf fd.type) ks.length then (match nkindsF f r (off + ks.length) with
   | some rs => some (ks ++ rs)
   | none => none) else none
  | none => none
def nkinds : Nat → TypeId → Option (List NK)
 | 0, _ => none
 | n + 1, t => match P.underlying t with
  | some (.int k) => some [.int k]
  | some .bool => some [.bool]
  | some .string => some [.str]
  | some (.slice e) => match P.underlying e with
   | some (.int k) => bif Nat.beq (P.cellsOf e) 1 then some [.ints k] else none
   | _ => match kinds P 9 e with
    | some ks => bif Nat.blt 0 (P.cellsOf e) then some [.rows ks] else none
    | none => none
  | some (.struct ⟨fs⟩) => match nkindsF P (nkinds n) fs 0 with
   | some ks => bif Nat.beq (P.cellsOf t) ks.length then some ks else none
   | none => none
  | _ => none
end
theorem nested_ints {H : Type} {enc : TypeId × Value → H} {P : Program} {W : World} {n : Nat} {t e : TypeId} {k : IntKind} {cs : List Value} {y : DataW H × List MemPlace} (ht : P.underlying t = some (.slice e)) (he : P.underlying e = some (.int k)) (hc : P.cellsOf e = 1)
  (hf : DataW.trod enc P W 0 (fun _ => true) true n t cs = some y) : Nks W [NK.ints k] cs := by
 rcases open_ints ht he hc hf with ⟨rfl, _⟩ | ⟨x, l, c, zs, rfl, _, hl, hm, hz, _, hcell, hwz⟩
 ·exact ⟨⟨none, 0, [], rfl, Nat.le_refl _, Nat.zero_le _, by simp, Ns.nil _ _ _⟩, trivial⟩
 ·have hz' : zs.length = c := by simpa using hz
  have hlen : (zs.take l).length = l := by rw [List.length_take]; omega
  refine ⟨⟨some x, c, zs.take l, by rw [hlen], by omega, by omega, fun y hy => hwz y (List.mem_of_mem_take hy), fun h0 => ?_⟩, trivial⟩
  obtain ⟨b, off, spot⟩ := x
  have h1 := hcell 0 (by omega)
  have hspot : spot = none := by simpa [Addr.add] using World.cell?_spot h1
  subst hspot
  refine ⟨b, off, rfl, fun j v hv => ?_⟩
  rw [List.getElem?_map] at hv
  rw [List.getElem?_take] at hv
  split at hv
  ·have hj : j < zs.length := by omega
   have := hcell j hj
   have hadd : (⟨b, off, none⟩ : Addr).add j = ⟨b, off + j, none⟩ := by unfold Addr.add; split <;> simp_all
   rw [hadd] at this
   rw [List.getElem?_eq_getElem hj] at hv
   simp only [Option.map_some, Option.some.injEq] at hv
   subst hv
   simpa [List.getD_eq_getElem?_getD, hj] using this
  ·cases hv
section
variable {H : Type} {enc : TypeId × Value → H} {P : Program} {W : World}
theorem nkindsF_ok {f : TypeId → Option (List NK)} {n : Nat} {cs : List Value} (hf : ∀ {t : TypeId} {ks : List NK} {xs : List Value} {y : DataW H × List MemPlace}, f t = some ks → DataW.trod enc P W 0 (fun _ => true) true n t xs = some y → Nks W ks xs) :
  ∀ (fs : List Field) (off : Nat) (ks : List NK), nkindsF P f fs off = some ks → (∀ fd ∈ fs, ∃ y, DataW.trod enc P W 0 (fun _ => true) true n fd.type ((cs.drop fd.offset).take (P.cellsOf fd.type)) = some y) → Nks W ks ((cs.drop off).take ks.length)
 | [], off, ks, h, _ => by cases h; simp [Nks]
 | fd :: r, off, ks, h, hy => by
  simp only [nkindsF] at h
  split at h
  ·rename_i k1 hk1
   by_cases hb : (Nat.beq fd.offset off && Nat.beq (P.cellsOf fd.type) k1.length) = true
   ·rw [hb, cond_true] at h
    simp only [Bool.and_eq_true] at hb
    have h1 := Nat.eq_of_beq_eq_true hb.1
    have h2 := Nat.eq_of_beq_eq_true hb.2
    split at h
    ·rename_i rs hrs
     cases h
     obtain ⟨y, hy1⟩ := hy fd (.head _)
     have a1 := hf hk1 hy1
     have a2 := nkindsF_ok hf r _ rs hrs fun g hg => hy g (.tail _ hg)
     rw [h1, h2] at a1
     rw [List.length_append, List.take_add, List.drop_drop]
     exact a1.app a2
    ·cases h
   ·simp only [Bool.not_eq_true] at hb
    rw [hb, cond_false] at h
    cases h
  ·cases h
theorem nkinds_ok : ∀ (m : Nat) {n : Nat} {t : TypeId} {ks : List NK} {cs : List Value} {y : DataW H × List MemPlace}, nkinds P m t = some ks → DataW.trod enc P W 0 (fun _ => true) true n t cs = some y → Nks W ks cs
 | 0, _, _, _, _, _, h, _ => by cases h
 | m + 1, n, t, ks, cs, y, h, hy => by
  simp only [nkinds] at h
  split at h
  ·rename_i k ht
   cases h
   obtain ⟨x, rfl, _, hw⟩ := DataW.trod_int ht hy
   exact ⟨⟨x, rfl, hw⟩, trivial⟩
  ·rename_i ht
   cases h
   obtain ⟨b, rfl, _⟩ := DataW.trod_bool ht hy
   exact ⟨⟨b, rfl⟩, trivial⟩
  ·rename_i ht
   cases h
   obtain ⟨s, rfl, _, hs⟩ := DataW.trod_string ht hy
   exact ⟨⟨s, rfl, hs⟩, trivial⟩
  ·rename_i e ht
   split at h
   ·rename_i k he
    by_cases hb : Nat.beq (P.cellsOf e) 1 = true
    ·rw [hb, cond_true] at h
     cases h
     exact nested_ints ht he (Nat.eq_of_beq_eq_true hb) hy
    ·simp only [Bool.not_eq_true] at hb
     rw [hb, cond_false] at h
     cases h
   ·split at h
    ·rename_i ks1 hk1
     by_cases hb : Nat.blt 0 (P.cellsOf e) = true
     ·rw [hb, cond_true] at h
      cases h
      obtain ⟨a, cp, l, rfl, h1⟩ := rows_open (c := id) (p := Cks ks1) _ ht hk1 rfl hb (fun cs hc => ⟨cs, rfl, hc⟩) hy
      exact ⟨⟨a, cp, l, rfl, h1⟩, trivial⟩
     ·simp only [Bool.not_eq_true] at hb
      rw [hb, cond_false] at h
      cases h
    ·cases h
  ·rename_i fs ht
   split at h
   ·rename_i k1 hk1
    by_cases hb : Nat.beq (P.cellsOf t) k1.length = true
    ·rw [hb, cond_true] at h
     cases h
     obtain ⟨xs, n', rfl, _, hl, hlen, hf⟩ := DataW.trod_struct ht hy
     have := nkindsF_ok (cs := cs) (fun h1 h2 => nkinds_ok m h1 h2) fs 0 _ hk1 (fun fd hfd => by
      obtain ⟨i, hi, rfl⟩ := List.getElem_of_mem hfd
      have h3 := hf i fs[i] (by simp [hi])
      have hi' : i < xs.length := by rw [hlen]; simpa using hi
      rw [List.getElem?_eq_getElem hi'] at h3
      exact ⟨_, h3⟩)
     rw [List.drop_zero, ← Nat.eq_of_beq_eq_true hb, ← hl, List.take_length] at this
     exact this
    ·simp only [Bool.not_eq_true] at hb
     rw [hb, cond_false] at h
     cases h
   ·cases h
  ·cases h
theorem arg_nflat {α : Type} {r : Reach} {b0 : Nat} {t : TypeId} {fs : Array Field} {ks : List NK} {c : α → List Value} {p : α → Prop} {v : Value} {d : DataW H} {q : List MemPlace} (ht : P.underlying t = some (.struct fs)) (hk : nkinds P 9 t = some ks)
  (hp : ∀ cs, Nks W ks cs → ∃ x, cs = c x ∧ p x) (hv : Value.okWide P W r b0 t v) (h : DataW.Trod enc P W 0 (fun _ => true) true t v d q) : ∃ x : α, v = .agg (c x).toArray ∧ p x := by
 obtain ⟨⟨cs⟩, rfl, _⟩ := okWide_struct ht hv
 obtain ⟨fuel, hf⟩ := h
 have h1 := nkinds_ok 9 hk hf
 simp only [Value.cells] at h1
 obtain ⟨x, hx, hpx⟩ := hp _ h1
 exact ⟨x, by rw [← hx], hpx⟩
theorem rows_of {α : Type} {ks : List CK} {c : α → List Value} {p : α → Prop} {a : Option Addr} {L : List (List Value)} (hp : ∀ cs, Cks ks cs → ∃ x, cs = c x ∧ p x) (h : ∀ x ∈ L, Cks ks x) (he : Els W id a L) : ∃ l : List α, L.length = l.length ∧ (∀ x ∈ l, p x) ∧ Els W c a l := by
 obtain ⟨l, rfl, hl⟩ := map_of (f := c) (p := p) fun x hx => hp x (h x hx)
 refine ⟨l, List.length_map _, hl, fun h0 => ?_⟩
 obtain ⟨b, o, h1, h2⟩ := he (by simpa using h0)
 exact ⟨b, o, h1, by simpa [flat, List.flatMap_map] using h2⟩
end
end Go.VV
namespace Go.VV
open Go Go.RowKit
section
variable {Γ : Ctx} {e : Env} {d : Option Nat} {t : TypeId} {pos : String} {af : Array Edge} {g : Option (Nat × Bool)}
theorem x_callM {F A G : Heap} {f : Nat} {l : List Operand} {ts : Array TypeId} {vs : List Value} (ms2 : List Nat) (hc : callable Γ.P f = true) (hv : evs e l = some vs) {R : Value → Heap → Prop}
  (hms : ∀ b ∈ ms2, ∃ o, (b, o) ∈ A) (hf : ∀ w, St Γ.w0 Γ.ms (A ++ (F ++ G)) w → Does Γ.P f vs w ms2 R) :
  Op1 Γ ⟨d, .call ⟨.value (.func f), l.toArray, ts⟩, t, pos, af, g⟩ e (F ++ (A ++ G)) (fun v H2 => ∃ H', R v H' ∧ H2 = F ++ (H' ++ G)) := by
 have key := x_callF (Γ := Γ) (e := e) (d := d) (t := t) (pos := pos) (af := af) (g := g) (A := A) (G := F ++ G) (ts := ts) (vs := vs) ms2 hc hv hms hf
 intro w hw
 have hw2 : St Γ.w0 Γ.ms (A ++ (F ++ G)) w := hw.perm (by
  rw [← List.append_assoc, ← List.append_assoc]
  exact List.Perm.append_right _ List.perm_append_comm)
 refine opW_mono (key w hw2) ?_
 rintro v w' ⟨H2, h2, H', hR, rfl⟩
 refine ⟨F ++ (H' ++ G), h2.perm ?_, H', hR, rfl⟩
 rw [← List.append_assoc, ← List.append_assoc]
 exact List.Perm.append_right _ List.perm_append_comm
end
theorem Row.apart {w0 w : World} {b off : Nat} {l : List Value} (h : Row w0 b off l) (hl : 0 < l.length) {H : Heap} (hw : St w0 [] H w) {x : Nat × Obj} (hm : x ∈ H) : b ≠ x.1 := by
 rintro rfl
 have h1 := h 0 (l[0]) (by rw [List.getElem?_eq_getElem hl])
 have h2 := (hw.own x hm).resolve_left (by simp)
 have h3 : w0.heap[x.1]? = none := Array.getElem?_eq_none (by omega)
 simp [World.cell?, h3] at h1
theorem Ns.apart {w0 w : World} {k : IntKind} {a : Option Addr} {l : List Int} (h : Ns w0 k a l) (hl : 0 < l.length) {H : Heap} (hw : St w0 [] H w) {x : Nat × Obj} (hm : x ∈ H) {p : Addr} (hp : a = some p) : p.block ≠ x.1 := by
 obtain ⟨b, off, rfl, hr⟩ := h hl
 cases hp
 exact hr.apart (by simpa using hl) hw hm
theorem Ns.old {w0 w : World} {ms : List Nat} {H : Heap} {k : IntKind} {a : Option Addr} {l : List Int} (h : Ns w0 k a l) (hne : 0 < l.length → ∀ p, a = some p → p.block ∉ ms) (hw : St w0 ms H w) : Ns w k a l := fun hl => by
 obtain ⟨b, off, rfl, hr⟩ := h hl
 exact ⟨b, off, rfl, row_old hr (hne hl _ rfl) w hw⟩
section
variable {P : Program} {e : Env} {d : Option Nat} {ty : TypeId} {pos : String} {af : Array Edge} {g : Option (Nat × Bool)}
theorem pure_isAgg {α : Type} {t : TypeId} {b : Bool} (h : aggB P t = b) (hu : (P.underlying t).isSome = true) (K : Bool → Sem α) : pureOf P (isAgg t >>= K) = pureOf P (K b) := by
 subst h
 unfold aggB
 cases hd : P.underlying t with
 | none => rw [hd] at hu; cases hu
 | some D =>
  simp only [isAgg, bind_assoc, pure_underlying hd]
  cases D <;> rfl
theorem light_idxV1 {t el n : Nat} {x i : Operand} {k : IntKind} {j : Int} {l : List Value} {u v : Value} (m : Nat) (hu : arrP P t = some (n, el, 1)) (hs : aggB P el = false) (hsu : (P.underlying el).isSome = true) (hx : vnf (ev e x) = some (.agg ⟨l⟩)) (hi : vnf (ev e i) = some (.int k j)) (hj : j = (m : Int)) (hm : m < n) (hv : l[m]? = some u) (hw : vnf u = some v) :
  light P e ⟨d, .index t x i, ty, pos, af, g⟩ = some v := by
 have hn := vnf_eq hw
 subst hn
 obtain ⟨h1, h2⟩ := arrP_spec hu
 have hx := vnf_eq hx
 have hi := vnf_eq hi
 subst hj
 refine light_of_pure ?_ hw
 have h3 : (0 : Int) ≤ (m : Int) ∧ (m : Int) < (n : Int) := ⟨by omega, by omega⟩
 simp only [execOp, hx, hi, Instr.index, asIntOf, pure_pure, bind_assoc, pure_underlying h1, h3, and_self, if_true, pure_size h2, Int.toNat_natCast, part, pure_isAgg hs hsu, Nat.mul_one]
 have h6 : (Array.mk l)[m]? = some u := by simpa using hv
 simp [h6, pureOf, pure, bind, Sem.bind]
theorem light_idxVs {t el n s : Nat} {x i : Operand} {k : IntKind} {j : Int} {l c : List Value} (m : Nat) (hu : arrP P t = some (n, el, s)) (hs : aggB P el = true) (hsu : (P.underlying el).isSome = true) (hx : vnf (ev e x) = some (.agg ⟨l⟩)) (hi : vnf (ev e i) = some (.int k j)) (hj : j = (m : Int)) (hm : m < n) (hv : (l.drop (m * s)).take s = c) :
  light P e ⟨d, .index t x i, ty, pos, af, g⟩ = some (.agg ⟨c⟩) := by
 obtain ⟨h1, h2⟩ := arrP_spec hu
 have hx := vnf_eq hx
 have hi := vnf_eq hi
 subst hj
 refine light_of_pure ?_ rfl
 have h3 : (0 : Int) ≤ (m : Int) ∧ (m : Int) < (n : Int) := ⟨by omega, by omega⟩
 simp only [execOp, hx, hi, Instr.index, asIntOf, pure_pure, bind_assoc, pure_underlying h1, h3, and_self, if_true, pure_size h2, Int.toNat_natCast, part, pure_isAgg hs hsu]
 have h6 : (Array.mk l).extract (m * s) (m * s + s) = Array.mk c := by
  rw [← hv]
  simp
 rw [h6]
 rfl
end
abbrev Ent := Int × Value × Nat
def ent (k : IntKind) (e : Ent) : MapEntry := { key := .int k e.1, val := e.2.1, born := e.2.2 }
def mapO (k : IntKind) (l : List Ent) (c : Nat) : Obj := .map (l.map (ent k)).toArray c
def findI (a : Int) : List Ent → Nat → Option (Nat × Value)
 | [], _ => none
 | e :: l, i => if a = e.1 then some (i, e.2.1) else findI a l (i + 1)
theorem findNow_int (k : IntKind) (a : Int) : ∀ (l : List Ent) (i : Nat), Instr.findNow (.int k) (.int k a) (l.map (ent k)) i = some (findI a l i)
 | [], _ => rfl
 | e :: l, i => by
  show (match Instr.sameNow (.int k) (.int k a) (ent k e).key with
   | some true => some (some (i, (ent k e).val))
   | some false => Instr.findNow (.int k) (.int k a) (l.map (ent k)) (i + 1)
   | none => none) = _
  have h1 : Instr.sameNow (.int k) (.int k a) (ent k e).key = some (a == e.1) := by show (if k = k then some (a == e.1) else none) = _; rw [if_pos rfl]
  rw [h1]
  unfold findI
  by_cases h : a = e.1
  ·rw [show (a == e.1) = true by simpa using h, if_pos h]; rfl
  ·rw [show (a == e.1) = false by simpa using h, if_neg h]; exact findNow_int k a l (i + 1)
def mapP (P : Program) (t : TypeId) : Option (Nat × Nat × IntKind) := match P.underlying t with
 | some (.map kt el) => match P.underlying kt with
  | some (.int k) => some (kt, el, k)
  | _ => none
 | _ => none
theorem mapP_spec {P : Program} {t kt el : Nat} {k : IntKind} (h : mapP P t = some (kt, el, k)) : P.underlying t = some (.map kt el) ∧ P.underlying kt = some (.int k) := by
 unfold mapP at h
 split at h
 ·split at h
  ·rename_i h1 _ _ h2
   cases h
   exact ⟨h1, h2⟩
  ·cases h
 ·cases h
def zeroOf (P : Program) (t : TypeId) : Option Value := (P.info? t).bind (·.zero)
theorem run_zeroOf {P : Program} {t : TypeId} {z : Value} (h : zeroOf P t = some z) (w : World) : (zeroValue t).run P w = .ok z w := by
 unfold zeroOf at h
 cases hi : P.info? t with
 | none => rw [hi] at h; cases h
 | some i =>
  rw [hi] at h
  simp [zeroValue, typeInfo, hi, show i.zero = some z from h]
theorem run_getObj {P : Program} {w : World} {b : Nat} {es : Array MapEntry} {c : Nat} (h : w.heap[b]? = some (.map es c)) : (getObj b).run P w = .ok (.map es c) w := by
 simp [getObj, Sem.run, h]
theorem run_setObj {P : Program} {w : World} {b : Nat} {es : Array MapEntry} {c : Nat} (h : w.heap[b]? = some (.map es c)) (o : Obj) : (setObj b o).run P w = .ok () { w with heap := w.heap.setIfInBounds b o } := by
 simp [setObj, Sem.run, h]
theorem run_checkKey {P : Program} {w : World} {em : Bool} {kt : Nat} {k : IntKind} {a : Int} (h : P.underlying kt = some (.int k)) : (Instr.checkKey em 10000 kt (.int k a)).run P w = .ok () w := by
 show (Instr.checkKey em (9999 + 1) kt (.int k a)).run P w = _
 unfold Instr.checkKey
 simp only [Sem.run_bind, run_underlying h, Result.andThen_ok]
 rfl
theorem run_findKey {P : Program} {w : World} {kt : Nat} {k : IntKind} {a : Int} (h : P.underlying kt = some (.int k)) (l : List Ent) : (Instr.findKey kt (.int k a) (l.map (ent k))).run P w = .ok (findI a l 0) w := by
 unfold Instr.findKey
 simp only [Sem.run_bind, run_underlying h, Result.andThen_ok, findNow_int, Sem.run_pure]
section
variable {Γ : Ctx} {e : Env} {H : Heap} {d : Option Nat} {ty : TypeId} {pos : String} {af : Array Edge} {g : Option (Nat × Bool)}
theorem x_makeMap {t : TypeId} (k : IntKind) : Op1 Γ ⟨d, .makeMap t none, ty, pos, af, g⟩ e H (fun u H' => ∃ b, u = .map (some b) ∧ H' = (b, mapO k [] 0) :: H) := by
 intro w hw
 refine opW_run (v := .map (some w.heap.size)) (w' := w.alloc (mapO k [] 0)) ?_ ⟨_, hw.alloc _, _, rfl, rfl⟩
 simp [execOp, Instr.makeMap, newObj]
 rfl
theorem St.setObj {w0 w : World} {ms : List Nat} {i b : Nat} {o o' : Obj} (hw : St w0 ms H w) (hi : H[i]? = some (b, o)) : St w0 ms (H.set i (b, o')) { w with heap := w.heap.setIfInBounds b o' } := by
 have hb : w.heap[b]? = some o := hw.holds (b, o) (List.mem_of_getElem? hi)
 have hlt : b < w.heap.size := (Array.getElem?_eq_some_iff.1 hb).1
 exact hw.setAt hi rfl rfl rfl (by simp) (fun k hk => by simp [Array.getElem?_setIfInBounds_ne (Ne.symm hk)]) (by simp [hlt])
theorem x_mapNew {t kt el : TypeId} {m x y : Operand} {b c : Nat} {k : IntKind} {a : Int} {v : Value} {l : List Ent} (i : Nat) (hu : mapP Γ.P t = some (kt, el, k)) (hm : vnf (ev e m) = some (.map (some b))) (hx : vnf (ev e x) = some (.int k a)) (hy : vnf (ev e y) = some v)
  (hi : H[i]? = some (b, mapO k l c)) (hf : findI a l 0 = none) : Op1 Γ ⟨d, .mapUpdate t m x y, ty, pos, af, g⟩ e H (fun u H' => u = undef ∧ H' = H.set i (b, mapO k (l ++ [(a, v, c)]) (c + 1))) := by
 intro w hw
 obtain ⟨h1, h2⟩ := mapP_spec hu
 have hm := vnf_eq hm
 have hx := vnf_eq hx
 have hy := vnf_eq hy
 have hb : w.heap[b]? = some (mapO k l c) := hw.holds (b, _) (List.mem_of_getElem? hi)
 have hS := hw.setObj (o' := mapO k (l ++ [(a, v, c)]) (c + 1)) hi
 have e1 : ((l.map (ent k)).toArray.push { key := .int k a, val := v, born := c }) = ((l ++ [(a, v, c)]).map (ent k)).toArray := by simp [ent]
 refine opW_skip (w' := { w with heap := w.heap.setIfInBounds b (mapO k (l ++ [(a, v, c)]) (c + 1)) }) ?_ ⟨_, hS, rfl, rfl⟩
 have key : (Instr.mapUpdate t (.map (some b)) (.int k a) v).run Γ.P w = .ok () { w with heap := w.heap.setIfInBounds b (mapO k (l ++ [(a, v, c)]) (c + 1)) } := by
  unfold Instr.mapUpdate
  simp only [Sem.run_bind, run_underlying h1, Result.andThen_ok, run_getObj hb, run_checkKey h2, List.toList_toArray, run_findKey h2, hf, e1, run_setObj hb]
  rfl
 simp only [execOp, hm, hx, hy, Sem.run_bind, key, Result.andThen_ok, Sem.run_pure]
theorem x_insNew {t kt el : TypeId} {m x y : Operand} {b c : Nat} {k : IntKind} {a : Int} {v : Value} {l : List Ent} (i : Nat) (hu : mapP Γ.P t = some (kt, el, k)) (hm : vnf (ev e m) = some (.map (some b))) (hx : vnf (ev e x) = some (.int k a)) (hy : vnf (ev e y) = some v)
  (hi : H[i]? = some (b, mapO k l c)) (hf : findI a l 0 = none) : Op1 Γ ⟨d, .insert t m x y, ty, pos, af, g⟩ e H (fun u H' => u = undef ∧ H' = H.set i (b, mapO k (l ++ [(a, v, c)]) (c + 1))) := x_mapNew (d := d) (ty := ty) (pos := pos) (af := af) (g := g) i hu hm hx hy hi hf
def askT (z : Value) : Option (Nat × Value) → Array Value
 | some (_, v) => #[v, .bool true]
 | none => #[z, .bool false]
theorem x_mapAsk {t kt el : TypeId} {m x : Operand} {b c : Nat} {k : IntKind} {a : Int} {z : Value} {l : List Ent} (hu : mapP Γ.P t = some (kt, el, k)) (hm : vnf (ev e m) = some (.map (some b))) (hx : vnf (ev e x) = some (.int k a)) (hz : zeroOf Γ.P el = some z)
  (hi : (b, mapO k l c) ∈ H) : Op1 Γ ⟨d, .lookup t m x true, ty, pos, af, g⟩ e H (fun u H' => u = .tuple (askT z (findI a l 0)) ∧ H' = H) := by
 intro w hw
 obtain ⟨h1, h2⟩ := mapP_spec hu
 have hm := vnf_eq hm
 have hx := vnf_eq hx
 have hb : w.heap[b]? = some (mapO k l c) := hw.holds (b, _) hi
 refine opW_run (v := .tuple (askT z (findI a l 0))) (w' := w) ?_ ⟨_, hw, rfl, rfl⟩
 have key : (Instr.lookup t (.map (some b)) (.int k a) true).run Γ.P w = .ok (.tuple (askT z (findI a l 0))) w := by
  unfold Instr.lookup
  simp only [Sem.run_bind, run_underlying h1, Result.andThen_ok, run_getObj hb, run_checkKey h2, Sem.run_pure, List.toList_toArray, run_findKey h2]
  cases hf : findI a l 0 with
  | none => simp only [Sem.run_bind, run_zeroOf hz, Result.andThen_ok, Sem.run_pure]; rfl
  | some p => simp only [Sem.run_pure, Result.andThen_ok]; rfl
 simp only [execOp, hm, hx, Sem.run_bind, key, Result.andThen_ok, Sem.run_pure]
end
section
variable {Γ : Ctx} {e : Env} {H : Heap} {d : Option Nat} {t : TypeId} {pos : String} {af : Array Edge} {g : Option (Nat × Bool)}
theorem x_ext {f : Nat} {fn : Func} {l : List Operand} {ts : Array TypeId} {vs : List Value} {E : Array Value → Sem Value} {u : Value} (hf : Γ.P.funcs[f]? = some fn) (hname : (fn.name == "runtime.NumGoroutine") = false)
  (hb : fn.body.isNone = true) (hn : Extern.findNext fn = none) (he : Extern.find fn = some E) (hv : evs e l = some vs) (hr : ∀ w, (E vs.toArray).run Γ.P w = .ok u w) :
  Op1 Γ ⟨d, .call ⟨.value (.func f), l.toArray, ts⟩, t, pos, af, g⟩ e H (fun v H' => v = u ∧ H' = H) := by
 intro w hw
 refine opW_run (v := u) (w' := w) ?_ ⟨H, hw, rfl, rfl⟩
 have hargs : l.map (ev e) = vs := evs_eq hv
 have h1 := run_callFunc_extern hf hname hb hn he vs.toArray w
 rw [hr w] at h1
 simp only [Result.andThen_ok] at h1
 subst hargs
 simp [execOp, resolve, Deferred.ofValue, ev, invoke, h1]
theorem x_ustr {x y : Operand} {ts : Array TypeId} {pt it el : TypeId} {b : Nat} {a : List UInt8} {sp : List Value} (hx : vnf (ev e x) = some (.pointer (some ⟨b, 0, none⟩))) (hy : vnf (ev e y) = some (.int .i64 a.length)) (hts : ts = #[pt, it])
  (hp : Γ.P.underlying pt = some (.pointer el)) (hc : Γ.P.cellsOf el = 1) (h0 : a ≠ []) (hl : a.length ≤ 1000000) :
  Op1 Γ ⟨d, .call ⟨.builtin .unsafeString, #[x, y], ts⟩, t, pos, af, g⟩ e ((b, blk (a.map (fun c => .int .u8 c.toNat) ++ sp) el) :: H) (fun v H' => v = .string (bs a) ∧ ∃ o, H' = (b, o) :: H) := by
 intro w hw
 subst hts
 have hx := vnf_eq hx
 have hy := vnf_eq hy
 have hg : w.heap[b]? = some (blk (a.map (fun c => .int .u8 c.toNat) ++ sp) el) := hw.own_blk (.head _)
 have hpos := List.length_pos_iff.2 h0
 have hsh : w.shape? b = some (el, (a.map (fun c => Value.int .u8 c.toNat) ++ sp).toArray.size) := by unfold World.shape?; rw [hg]
 have hrun := Lib.run_unsafeString_row (P := Γ.P) (w := w) pt it t el hp hc b _ hsh a h0 (by simp) (by omega) (fun j c hj => by
  have := row_own (H := (b, blk (a.map (fun c => .int .u8 c.toNat) ++ sp) el) :: H) (.head _) w hw j (.int .u8 c.toNat) (by
   rw [List.getElem?_append_left (by rw [List.length_map]; exact (List.getElem?_eq_some_iff.1 hj).1), List.getElem?_map, hj]; rfl)
  rw [add_mk, Nat.zero_add]
  simpa using this)
 refine opW_run (v := .string (bs a)) (w' := w.freeze ⟨b, 0, none⟩ a.length) ?_ ?_
 ·simp only [execOp, resolve, Sem.run_bind, Sem.run_pure, Result.andThen_ok, invoke, builtin, List.map_toArray, List.map_cons, List.map_nil, hx, hy, hrun]
  rfl
 ·refine ⟨(b, Obj.cells (a.map (fun c => Value.int .u8 c.toNat) ++ sp).toArray el (0, 0 + a.length)) :: H, ?_, rfl, _, rfl⟩
  refine hw.turn ?_ ?_ ?_ ?_ ?_ ?_
  all_goals unfold World.freeze; rw [if_neg (by omega)]
  ·simp
  ·intro k hk
   simp only
   rw [Array.getElem?_modify, if_neg (Ne.symm hk)]
  ·simp only
   rw [Array.getElem?_modify, if_pos rfl, hg]
   rfl
end
end Go.VV
