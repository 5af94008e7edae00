/- Numbers: what wraps round, bits, bytes. Plain lemmas; no program. -/
import Derived.Test.YtjceoaomkbabmaaVvG
namespace Go.VV
open Go

theorem wrap_i64 {n : Int} (h1 : -9223372036854775808 ≤ n) (h2 : n ≤ 9223372036854775807) : IntKind.i64.wrap n = n := by
  simp [IntKind.wrap, IntKind.bits, IntKind.signed]; omega
theorem wrap_u8 (n : Int) : IntKind.u8.wrap n = n % 256 := by
  simp [IntKind.wrap, IntKind.bits, IntKind.signed]
theorem wrap_u16 (n : Int) : IntKind.u16.wrap n = n % 65536 := by
  simp [IntKind.wrap, IntKind.bits, IntKind.signed]
theorem wrap_u64 (n : Int) : IntKind.u64.wrap n = n % 18446744073709551616 := by
  simp [IntKind.wrap, IntKind.bits, IntKind.signed]
theorem wrap_u8_id {n : Int} (h1 : 0 ≤ n) (h2 : n < 256) : IntKind.u8.wrap n = n := by rw [wrap_u8]; omega
theorem wrap_u16_id {n : Int} (h1 : 0 ≤ n) (h2 : n < 65536) : IntKind.u16.wrap n = n := by rw [wrap_u16]; omega
theorem wrap_u64_id {n : Int} (h1 : 0 ≤ n) (h2 : n < 18446744073709551616) : IntKind.u64.wrap n = n := by rw [wrap_u64]; omega

theorem succ_law {k : Nat} (h : (k : Int) < 9223372036854775807) : IntKind.i64.wrap ((k : Int) + 1) = ((k + 1 : Nat) : Int) := by
  rw [wrap_i64 (by omega) (by omega)]; simp

/-- The bits' operations, as an operation of the program gives them. -/
def band (k : IntKind) (x y : Int) : Int := k.wrap (BitVec.ofInt k.bits x &&& BitVec.ofInt k.bits y).toNat
def bor (k : IntKind) (x y : Int) : Int := k.wrap (BitVec.ofInt k.bits x ||| BitVec.ofInt k.bits y).toNat
def bxor (k : IntKind) (x y : Int) : Int := k.wrap (BitVec.ofInt k.bits x ^^^ BitVec.ofInt k.bits y).toNat
def bandn (k : IntKind) (x y : Int) : Int := k.wrap (BitVec.ofInt k.bits x &&& ~~~BitVec.ofInt k.bits y).toNat
def shr (k : IntKind) (x y : Int) : Int := x.fdiv (2 ^ min y.toNat k.bits)
def shl (k : IntKind) (x y : Int) : Int := k.wrap (x * 2 ^ min y.toNat k.bits)

/-- Whatever holds of the 256 bytes holds of a byte. -/
theorem byte_all {p : Int → Prop} (h : ∀ n : Fin 256, p (n.val : Int)) {c : Int} (h1 : 0 ≤ c) (h2 : c < 256) : p c := by
  have := h ⟨c.toNat, by omega⟩
  simp only at this
  rwa [Int.toNat_of_nonneg h1] at this

/-- A slice of numbers: its memory. -/
def Ns (w : World) (k : IntKind) (a : Option Addr) (l : List Int) : Prop := 0 < l.length → ∃ b off, a = some ⟨b, off, none⟩ ∧ Row w b off (l.map (.int k))
theorem Ns.nil (w : World) (k : IntKind) (a : Option Addr) : Ns w k a [] := fun h => by simp at h
theorem Ns.row {w : World} {k : IntKind} {a : Option Addr} {l : List Int} (h : Ns w k a l) {i : Nat} (hi : i < l.length) : ∃ b off, a = some ⟨b, off, none⟩ ∧ Row w b off (l.map (.int k)) := h (by omega)
theorem Ns.of {w : World} {k : IntKind} {b off : Nat} {l : List Int} (h : Row w b off (l.map (.int k))) : Ns w k (some ⟨b, off, none⟩) l := fun _ => ⟨b, off, rfl, h⟩
theorem Ns.later {w0 w : World} {ms : List Nat} {H : Heap} {k : IntKind} {a : Option Addr} {l : List Int} (h : Ns w0 k a l) (hm : ∀ p, a = some p → p.block ∉ ms) (hw : St w0 ms H w) : Ns w k a l := fun hl => by
  obtain ⟨b, off, rfl, hr⟩ := h hl
  exact ⟨b, off, rfl, row_old hr (hm _ rfl) w hw⟩
theorem Ns.later0 {w0 w : World} {H : Heap} {k : IntKind} {a : Option Addr} {l : List Int} (h : Ns w0 k a l) (hw : St w0 [] H w) : Ns w k a l := h.later (by simp) hw
theorem Row.int {w : World} {k : IntKind} {b off : Nat} {l : List Int} (h : Row w b off (l.map (.int k))) {i : Nat} (hi : i < l.length) : w.cell? ⟨b, off + i, none⟩ = some (.int k (l.getD i 0)) :=
  h i _ (by simp [hi])

theorem ones_int (k : IntKind) (l : List Int) : ones (l.map (.int k)) = true := by simp [ones, Value.oneCell']
theorem ones_sub {l l' : List Value} (h : ones l = true) (hs : ∀ x ∈ l', x ∈ l) : ones l' = true := List.all_eq_true.2 fun x hx => List.all_eq_true.1 h x (hs x hx)
theorem ones_cut (k : IntKind) (l : List Int) (i n : Nat) : ones (((l.map (Value.int k)).drop i).take n) = true := ones_sub (ones_int k l) fun _ hx => List.mem_of_mem_drop (List.mem_of_mem_take hx)
/-- Bytes. -/
def Byts (l : List Int) : Prop := ∀ x ∈ l, 0 ≤ x ∧ x < 256
theorem Byts.get {l : List Int} (h : Byts l) (i : Nat) : 0 ≤ l.getD i 0 ∧ l.getD i 0 < 256 := by
  by_cases hi : i < l.length
  · rw [List.getD_eq_getElem?_getD, List.getElem?_eq_getElem hi]; exact h _ (List.getElem_mem hi)
  · rw [List.getD_eq_getElem?_getD, List.getElem?_eq_none (by omega)]; simp
section
variable {P : Program} {e : Env} {d : Option Nat} {ty t u : TypeId} {pos : String} {af : Array Edge} {g : Option (Nat × Bool)} {x y : Operand} {k : IntKind} {a b : Int}
theorem rem_pos (hx : vnf (ev e x) = some (.int k a)) (hy : vnf (ev e y) = some (.int k b)) (hb : b ≠ 0) :
    light P e ⟨d, .binOp .rem t x y u, ty, pos, af, g⟩ = some (.int k (a.tmod b)) := by
  refine light_of_pure ?_ rfl
  simp [execOp, eqGuard, vnf_eq hx, vnf_eq hy, binOp, Op.intDiv, hb, pureOf, bind, Sem.bind, pure]
theorem quo_pos (hx : vnf (ev e x) = some (.int k a)) (hy : vnf (ev e y) = some (.int k b)) (hb : b ≠ 0) :
    light P e ⟨d, .binOp .quo t x y u, ty, pos, af, g⟩ = some (.int k (k.wrap (a.tdiv b))) := by
  refine light_of_pure ?_ rfl
  simp [execOp, eqGuard, vnf_eq hx, vnf_eq hy, binOp, Op.intDiv, hb, pureOf, bind, Sem.bind, pure]
/-- A shift by a count that isn't below 0. -/
theorem shr_pos {k2 : IntKind} (hx : vnf (ev e x) = some (.int k a)) (hy : vnf (ev e y) = some (.int k2 b)) (hb : 0 ≤ b) :
    light P e ⟨d, .binOp .shr t x y u, ty, pos, af, g⟩ = some (.int k (shr k a b)) := by
  refine light_of_pure ?_ rfl
  have : ¬ b < 0 := by omega
  simp [execOp, eqGuard, vnf_eq hx, vnf_eq hy, binOp, Op.shift, this, pureOf, bind, Sem.bind, pure, shr]
theorem shl_pos {k2 : IntKind} (hx : vnf (ev e x) = some (.int k a)) (hy : vnf (ev e y) = some (.int k2 b)) (hb : 0 ≤ b) :
    light P e ⟨d, .binOp .shl t x y u, ty, pos, af, g⟩ = some (.int k (shl k a b)) := by
  refine light_of_pure ?_ rfl
  have : ¬ b < 0 := by omega
  simp [execOp, eqGuard, vnf_eq hx, vnf_eq hy, binOp, Op.shift, this, pureOf, bind, Sem.bind, pure, shl]
def isSlc (P : Program) (t : TypeId) : Bool := match P.underlying t with
  | some (.slice _) => true
  | _ => false
theorem light_len {a : Option Addr} {n c : Nat} (hx : vnf (ev e x) = some (.slice a n c)) (hu : isSlc P t = true) :
    light P e ⟨d, .call ⟨.builtin .len, #[x], #[t]⟩, ty, pos, af, g⟩ = some (.int .i64 n) := by
  refine light_of_pure ?_ rfl
  have hx := vnf_eq hx
  unfold isSlc at hu
  split at hu
  · rename_i el h1
    simp only [execOp, resolve, List.map_toArray, List.map_cons, List.map_nil, hx, pure_pure, invoke, builtin, Builtin.len_, bind_assoc, List.getElem?_toArray, List.getElem?_cons_zero, pure_underlying h1]
    rfl
  · cases hu
theorem light_lens {s : ByteArray} (hx : vnf (ev e x) = some (.string s)) (hu : P.underlying t = some .string) :
    light P e ⟨d, .call ⟨.builtin .len, #[x], #[t]⟩, ty, pos, af, g⟩ = some (.int .i64 s.size) := by
  refine light_of_pure ?_ rfl
  have hx := vnf_eq hx
  simp only [execOp, resolve, List.map_toArray, List.map_cons, List.map_nil, hx, pure_pure, invoke, builtin, Builtin.len_, bind_assoc, List.getElem?_toArray, List.getElem?_cons_zero, pure_underlying hu]
  rfl
theorem light_min {k2 : IntKind} {ts : Array TypeId} (hx : vnf (ev e x) = some (.int k a)) (hy : vnf (ev e y) = some (.int k2 b)) :
    light P e ⟨d, .call ⟨.builtin .min, #[x, y], ts⟩, ty, pos, af, g⟩ = some (.int k (min a b)) := by
  refine light_of_pure ?_ rfl
  have hx := vnf_eq hx
  have hy := vnf_eq hy
  have hm : (if b < a then b else a) = min a b := by omega
  simp only [execOp, resolve, List.map_toArray, List.map_cons, List.map_nil, hx, hy, pure_pure, invoke, builtin, Builtin.min_, bind_assoc, List.foldlM_cons, List.foldlM_nil, Builtin.min2, hm]
  rfl
theorem light_max {k2 : IntKind} {ts : Array TypeId} (hx : vnf (ev e x) = some (.int k a)) (hy : vnf (ev e y) = some (.int k2 b)) :
    light P e ⟨d, .call ⟨.builtin .max, #[x, y], ts⟩, ty, pos, af, g⟩ = some (.int k (max a b)) := by
  refine light_of_pure ?_ rfl
  have hx := vnf_eq hx
  have hy := vnf_eq hy
  have hm : (if b > a then b else a) = max a b := by omega
  simp only [execOp, resolve, List.map_toArray, List.map_cons, List.map_nil, hx, hy, pure_pure, invoke, builtin, Builtin.max_, bind_assoc, List.foldlM_cons, List.foldlM_nil, Builtin.max2, hm]
  rfl
end
end Go.VV
