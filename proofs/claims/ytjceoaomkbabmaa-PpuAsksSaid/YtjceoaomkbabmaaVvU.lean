/- Strings, as lists of bytes: joined, compared, cut, indexed, made of bytes. Plain lemmas; no program. -/
import Derived.Test.YtjceoaomkbabmaaVvS
import Derived.Laws.BytesArg
import Derived.Laws.Strings2
namespace Go.VV
open Go

/-- A string of bytes. -/
def bs (l : List UInt8) : ByteArray := ⟨⟨l⟩⟩
theorem bs_size (l : List UInt8) : (bs l).size = l.length := rfl
theorem bs_append (a b : List UInt8) : bs a ++ bs b = bs (a ++ b) := by
  apply ByteArray.ext
  simp [bs]
theorem bs_list (l : List UInt8) : (bs l).toList = l := by rw [ByteArray.toList_eq]; rfl
theorem bs_of (s : ByteArray) : bs s.data.toList = s := rfl
theorem bs_inj {a b : List UInt8} (h : bs a = bs b) : a = b := by
  have := congrArg (fun s => s.data.toList) h
  exact this
theorem bs_ne {a b : List UInt8} (h : a ≠ b) : bs a ≠ bs b := fun h' => h (bs_inj h')
theorem bs_extract (l : List UInt8) (a b : Nat) : (bs l).extract a b = bs ((l.drop a).take (b - a)) := ByteArray.extract_mk l a b
theorem bs_nums (l : List UInt8) : strOfNums (l.map fun b => (b.toNat : Int)) = bs l := by
  unfold strOfNums bs
  congr 1
  have : ((fun n : Int => UInt8.ofNat n.toNat) ∘ fun b : UInt8 => (b.toNat : Int)) = id := by funext b; simp
  rw [List.map_map, this, List.map_id]

section
variable {P : Program} {e : Env} {d : Option Nat} {ty t u : TypeId} {pos : String} {af : Array Edge} {g : Option (Nat × Bool)} {x y : Operand} {a b : List UInt8}
theorem light_cat (hx : vnf (ev e x) = some (.string (bs a))) (hy : vnf (ev e y) = some (.string (bs b))) (h : a.length + b.length ≤ 1000000) :
    light P e ⟨d, .binOp .add t x y u, ty, pos, af, g⟩ = some (.string (bs (a ++ b))) := by
  refine light_of_pure ?_ rfl
  have h1 : ¬ (((bs a).size + (bs b).size : Nat) : Int) > IntKind.i64.max := by
    have : IntKind.i64.max = 9223372036854775807 := by decide
    rw [bs_size, bs_size]; omega
  simp only [execOp, eqGuard, vnf_eq hx, vnf_eq hy, binOp, Op.stringOp, if_neg h1, bs_append]
  rfl
theorem light_eqstr (hx : vnf (ev e x) = some (.string (bs a))) (hy : vnf (ev e y) = some (.string (bs b))) :
    light P e ⟨d, .binOp .eql t x y u, ty, pos, af, g⟩ = some (.bool (a == b)) := by
  refine light_of_pure ?_ rfl
  simp [execOp, eqGuard, vnf_eq hx, vnf_eq hy, binOp, Op.stringOp, bs_list, pureOf, bind, Sem.bind, pure]
theorem light_nestr (hx : vnf (ev e x) = some (.string (bs a))) (hy : vnf (ev e y) = some (.string (bs b))) :
    light P e ⟨d, .binOp .neq t x y u, ty, pos, af, g⟩ = some (.bool (!(a == b))) := by
  refine light_of_pure ?_ rfl
  simp [execOp, eqGuard, vnf_eq hx, vnf_eq hy, binOp, Op.stringOp, bs_list, pureOf, bind, Sem.bind, pure]
theorem light_lenstr (hx : vnf (ev e x) = some (.string (bs a))) (hu : P.underlying t = some .string) :
    light P e ⟨d, .call ⟨.builtin .len, #[x], #[t]⟩, ty, pos, af, g⟩ = some (.int .i64 a.length) := light_lens hx hu
theorem light_idxstr {i : Operand} {k : IntKind} {j : Int} (m : Nat) {c : UInt8} (hx : vnf (ev e x) = some (.string (bs a))) (hi : vnf (ev e i) = some (.int k j)) (hu : P.underlying t = some .string) (hj : j = (m : Int)) (hc : a[m]? = some c) :
    light P e ⟨d, .index t x i, ty, pos, af, g⟩ = some (.int .u8 c.toNat) := by
  refine light_of_pure ?_ rfl
  subst hj
  have h1 : (bs a)[m]? = some c := by
    obtain ⟨h3, h4⟩ := List.getElem?_eq_some_iff.1 hc
    rw [ByteArray.getElem?_lt' (bs a) m h3, ← h4]; rfl
  have h2 : (if (0 : Int) ≤ (m : Int) then (bs a)[(m : Int).toNat]? else none) = some c := by
    rw [if_pos (by omega), Int.toNat_natCast, h1]
  simp only [execOp, Instr.index, vnf_eq hx, vnf_eq hi, asIntOf, bind_assoc, pure_pure, pure_underlying hu, h2]
  rfl
theorem light_cutstr {lo hi : Operand} {jl jh : Int} (l h : Nat) (hx : vnf (ev e x) = some (.string (bs a))) (hu : P.underlying t = some .string) (hlo : bndF e (some lo) = some (some jl)) (hhi : bndF e (some hi) = some (some jh))
    (hl : jl = (l : Int)) (hh : jh = (h : Int)) (h1 : l ≤ h) (h2 : h ≤ a.length) :
    light P e ⟨d, .slice t x (some lo) (some hi) none, ty, pos, af, g⟩ = some (.string (bs ((a.drop l).take (h - l)))) := by
  refine light_of_pure ?_ rfl
  have hx := vnf_eq hx
  have hb := bounds_run (e := e) (lo := some lo) (hi := some hi) (isS := false) (n := (bs a).size) (c := (bs a).size) (jl := some jl) (jh := some jh) l h hlo hhi (by simpa using hl) (by simpa using hh) h1 (by rw [bs_size]; exact h2)
  simp only [execOp, hx, Instr.sliceAt, Instr.slice, bind_assoc, pure_underlying hu, Option.map_none, Option.isSome_none, Bool.false_eq_true, if_false, hb, pure_pure, bs_extract]
  rfl
end

section
variable {Γ : Ctx} {e : Env} {H : Heap} {d : Option Nat} {ty t dst el : TypeId} {pos : String} {af : Array Edge} {g : Option (Nat × Bool)} {x : Operand}
def bytP (P : Program) (t : TypeId) : Bool := match P.underlying t with
  | some (.slice el) => (match P.underlying el with
    | some (.int .u8) => true
    | _ => false)
  | _ => false
def strT (P : Program) (t : TypeId) : Bool := match P.underlying t with
  | some .string => true
  | _ => false
/-- string(b), b bytes. -/
theorem x_str {b off n c : Nat} {l : List UInt8} (hx : vnf (ev e x) = some (.slice (some ⟨b, off, none⟩) n c)) (hs : bytP Γ.P t = true) (hd : strT Γ.P dst = true) (hn : l.length = n)
    (hr : ∀ w, St Γ.w0 Γ.ms H w → Row w b off (l.map fun c => .int .u8 c.toNat)) :
    Op1 Γ ⟨d, .convert t dst x, ty, pos, af, g⟩ e H (fun v H' => v = .string (bs l) ∧ H' = H) := by
  intro w hw
  have hx := vnf_eq hx
  unfold bytP at hs
  split at hs <;> try cases hs
  rename_i el h1
  split at hs <;> try cases hs
  rename_i h2
  unfold strT at hd
  split at hd <;> try cases hd
  rename_i h3
  have key := run_convert_bytes_arg (P := Γ.P) w t el h1 h2 b off n c (l.map fun c => (c.toNat : Int)) (by simpa using hn) (fun i hi => by
    have hi' : i < l.length := by omega
    have := hr w hw i (.int .u8 l[i].toNat) (by simp [hi'])
    simpa [List.getD, hi'] using this) dst h3
  rw [bs_nums] at key
  refine opW_run (v := .string (bs l)) (w' := w) ?_ ⟨_, hw, rfl, rfl⟩
  simp only [execOp, hx, Sem.run_bind, key, Result.andThen_ok, Sem.run_pure]
theorem x_str0 {n c : Nat} (hx : vnf (ev e x) = some (.slice none n c)) (hs : bytP Γ.P t = true) (hd : strT Γ.P dst = true) :
    Op1 Γ ⟨d, .convert t dst x, ty, pos, af, g⟩ e H (fun v H' => v = .string (bs []) ∧ H' = H) := by
  intro w hw
  have hx := vnf_eq hx
  unfold bytP at hs
  split at hs <;> try cases hs
  rename_i el h1
  split at hs <;> try cases hs
  rename_i h2
  unfold strT at hd
  split at hd <;> try cases hd
  rename_i h3
  have key := run_convert_bytes_nil (P := Γ.P) w t el h1 h2 n c dst h3
  refine opW_run (v := .string (bs [])) (w' := w) ?_ ⟨_, hw, rfl, rfl⟩
  simp only [execOp, hx, Sem.run_bind, key, Result.andThen_ok, Sem.run_pure]
  rfl
end
end Go.VV
