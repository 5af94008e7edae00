/- Numbers, in the form in which 'omega' reads them: what an operation gives, by lemmas that a printer names. Plain lemmas; no program. -/
import Derived.Laws.Externs
import Derived.Lib.AppendZeros
import Derived.Lib.Overlaps
import Derived.Test.YtjceoaomkbabmaaMcE
namespace Go.VV
open Go Go.RowKit
section
variable {Γ : Ctx} {e : Env} {H : Heap} {d : Option Nat} {ty : TypeId} {pos : String} {af : Array Edge} {g : Option (Nat × Bool)}

theorem run_append_grow_zeros {P : Program} (w : World) (t tn ty e : TypeId) (i : TypeInfo) (z : Value) (k kn : IntKind) (ht : P.underlying t = some (.slice e)) (htn : P.underlying tn = some (.int kn)) (hi : P.info? e = some i) (hz : i.zero = some z)
    (b : Addr) (sLen sCap n : Nat) (olds : List Value) (hlo : olds.length = sLen * i.size) (holds : ∀ j v, olds[j]? = some v → w.cell? (b.add j) = some v)
    (h0 : 0 < n) (hs : 0 < i.size) (hg : sCap < sLen + n) (h63 : ((sLen + n : Nat) : Int) ≤ 9223372036854775807) (hfit : Builtin.nextslicecap (sLen + n) sCap * i.bytes ≤ 281474976710656) (h48 : n * i.bytes ≤ 281474976710656) :
    (Builtin.append_ #[t, tn] ty #[.slice (some b) sLen sCap, .int k n]).run P w =
      .ok (.slice (some ⟨w.heap.size, 0, none⟩) (sLen + n) (grownCap w (sLen + n) sCap e)) (w.drew.alloc (.cells (olds.toArray ++ Builtin.zeroCells z.cells n ++ Builtin.zeroCells z.cells (grownCap w (sLen + n) sCap e - (sLen + n))) e)) := by
  have hn : n ≠ 0 := by omega
  have hw : IntKind.i64.wrap (n : Int) = n := by rw [IntKind.wrap_i64]; omega
  have hnc : ¬ (sLen + n ≤ sCap) := by omega
  have h63' : ¬ (9223372036854775807 < ((sLen : Int) + (n : Int))) := by omega
  have h48' : ¬ (281474976710656 < Builtin.nextslicecap (sLen + n) sCap * i.bytes) := by omega
  have h48i : ¬ (281474976710656 < (n : Int) * (i.bytes : Int)) := by
    rw [← Int.natCast_mul]
    omega
  have hneg : ¬ ((n : Int) < 0) := by omega
  have hns : ¬ (n * i.size = 0) := Nat.mul_ne_zero hn (by omega)
  have hfo := run_firstCells_some (P := P) w.drew i.size sLen b sLen sCap olds hlo (by simpa using holds)
  simp [Builtin.append_, run_underlying ht, run_underlying htn, sizeOf, typeInfo, zeroValue, hi, hz, asInt, asIntOf, hw, hneg, hns, hnc, h63', h48', h48i, Question.forced, hfo, newRow, grownCap]

def isInt (P : Program) (t : TypeId) : Bool := match P.underlying t with
  | some (.int _) => true
  | _ => false
/-- append(s, make([]T, n)..) where it grows. -/
theorem x_appendM {t tn : TypeId} {x y : Operand} {T s by_ : Nat} {b off n k cp : Nat} {kk : IntKind} {olds : List Value} {ts : Array TypeId}
    (hx : vnf (ev e x) = some (.slice (some ⟨b, off, none⟩) k cp)) (hy : vnf (ev e y) = some (.int kk n)) (hts : ts = #[t, tn]) (htn : isInt Γ.P tn = true) (hp : appP Γ.P t = some (T, s, by_))
    (hr : ∀ w, St Γ.w0 Γ.ms H w → Row w b off olds) (hlo : olds.length = k * s) (h0 : 0 < n) (hg : cp < k + n) (hlen : k + n ≤ 1000000) (hb : by_ ≤ 1000) :
    Op1 Γ ⟨d, .call ⟨.builtin .append, #[x, y], ts⟩, ty, pos, af, g⟩ e H (fun v' H' => ∃ b' cap sp, v' = .slice (some ⟨b', 0, none⟩) (k + n) cap ∧ H' = (b', blk (olds ++ sp) T) :: H ∧ (olds ++ sp).length = cap * s ∧ k + n ≤ cap ∧ cap ≤ maxLen) := by
  intro w hw
  subst hts
  have hx := vnf_eq hx
  have hy := vnf_eq hy
  unfold isInt at htn
  split at htn <;> try cases htn
  rename_i kn hkn
  unfold appP at hp
  split at hp <;> try cases hp
  rename_i el hu
  split at hp <;> try cases hp
  rename_i ti hti
  split at hp <;> try cases hp
  rename_i z hz
  split at hp <;> try cases hp
  rename_i hzs
  obtain ⟨hz1, hz2⟩ := hzs
  have hfit : Builtin.nextslicecap (k + n) cp * ti.bytes ≤ 281474976710656 := growslice_fits (by omega) (by
    have : (k + n) * ti.bytes ≤ 1000000 * 1000 := Nat.mul_le_mul hlen hb
    omega)
  have h48 : n * ti.bytes ≤ 281474976710656 := by
    have : n * ti.bytes ≤ 1000000 * 1000 := Nat.mul_le_mul (by omega) hb
    omega
  have key := run_append_grow_zeros (P := Γ.P) w t tn ty T ti z kk kn hu hkn hti hz ⟨b, off, none⟩ k cp n olds hlo (hr w hw).add h0 hz2 hg (by omega) hfit h48
  have hge := grownCap_ge w (k + n) cp T
  have hcm : grownCap w (k + n) cp T ≤ maxLen := grownCap_le_maxLen w (k + n) cp T (by unfold maxLen; omega)
  have harr : olds.toArray ++ Builtin.zeroCells z.cells n ++ Builtin.zeroCells z.cells (grownCap w (k + n) cp T - (k + n)) = (olds ++ (Builtin.zeroCells z.cells n ++ Builtin.zeroCells z.cells (grownCap w (k + n) cp T - (k + n))).toList).toArray := by
    apply Array.ext'
    simp
  rw [harr] at key
  generalize hZ : (Builtin.zeroCells z.cells n ++ Builtin.zeroCells z.cells (grownCap w (k + n) cp T - (k + n))).toList = Z at key
  have hzl : (olds ++ Z).length = grownCap w (k + n) cp T * ti.size := by
    rw [← hZ]
    simp only [List.length_append, Array.length_toList, Array.size_append, size_zeroCells, hz1, hlo, ← Nat.add_mul]
    congr 1
    omega
  refine opW_run (v := .slice (some ⟨w.heap.size, 0, none⟩) (k + n) (grownCap w (k + n) cp T)) (w' := w.drew.alloc (blk (olds ++ Z) T)) ?_ ⟨_, hw.drew.alloc _, w.heap.size, grownCap w (k + n) cp T, Z, rfl, rfl, hzl, hge, hcm⟩
  simp only [execOp, resolve, Sem.run_bind, Sem.run_pure, Result.andThen_ok, invoke, builtin, List.map_toArray, List.map_cons, List.map_nil, hx, hy, key]

/-- copy(dst, src), elements of 's' cells; the source is read ahead of what is written. -/
theorem x_copyE {x y : Operand} {ts : Array TypeId} {tx ty2 el s : TypeId} {b off dl dc b2 off2 m c2 : Nat} {l ys : List Value} {T : TypeId} (i : Nat)
    (hx : vnf (ev e x) = some (.slice (some ⟨b, off, none⟩) dl dc)) (hy : vnf (ev e y) = some (.slice (some ⟨b2, off2, none⟩) m c2)) (hts : ts = #[tx, ty2]) (hu : slcP Γ.P tx = some (el, s))
    (hi : H[i]? = some (b, blk l T)) (hn : ys.length = min m dl * s) (hs : ∀ w, St Γ.w0 Γ.ms H w → Row w b2 off2 ys) (h1 : ones ys = true) (hl : off + ys.length ≤ l.length) :
    Op1 Γ ⟨d, .call ⟨.builtin .copy, #[x, y], ts⟩, ty, pos, af, g⟩ e H (fun v H' => v = .int .i64 (min m dl : Nat) ∧ H' = H.set i (b, blk (putL l off ys) T)) := by
  intro w hw
  subst hts
  obtain ⟨g1, g2⟩ := slcP_spec hu
  have hx := vnf_eq hx
  have hy := vnf_eq hy
  have hg : w.heap[b]? = some (blk l T) := hw.own_blk (List.mem_of_getElem? hi)
  have hrun : (Builtin.copy_ #[tx, ty2] ty #[.slice (some ⟨b, off, none⟩) dl dc, .slice (some ⟨b2, off2, none⟩) m c2]).run Γ.P w = .ok (goInt (min m dl : Nat)) (w.setRow b (putL l off ys).toArray) := by
    have hl1 := run_loadCells_list (P := Γ.P) w ⟨b2, off2, none⟩ ys (hs w hw).add
    have hst := run_storeCells_at Γ.P b off T ys 0 l.toArray w hg (by simpa using hl) (by simpa [ones] using h1)
    simp only [Nat.add_zero] at hst
    have hsz := run_sizeOf g2 w
    have e1 : putL l off ys = l.take off ++ ys ++ l.drop (off + ys.length) := rfl
    rw [hn] at hl1
    simp [Builtin.copy_, run_underlying g1, Builtin.lenOf, Builtin.firstCells, hsz, hl1, hst, e1]
  refine opW_run (v := .int .i64 (min m dl : Nat)) (w' := w.setRow b (putL l off ys).toArray) ?_ ⟨_, ?_, rfl, rfl⟩
  · simp only [execOp, resolve, Sem.run_bind, Sem.run_pure, Result.andThen_ok, invoke, builtin, List.map_toArray, List.map_cons, List.map_nil, hx, hy, hrun]
    rfl
  · exact hw.setAt hi rfl rfl rfl (by simp [World.setRow]) (fun k hk => setRow_other w b k _ hk) (setRow_heap w b _ _ T _ hg)

/-- slices.overlaps of two slices in two blocks. -/
theorem x_ovl {f : Nat} {l : List Operand} {ts : Array TypeId} {fn : Func} {tS tR el size : Nat} {ba oa la ca bb ob lb cb : Nat} {lA lB : List Value} {TA TB : TypeId}
    (hf : Γ.P.funcs[f]? = some fn) (hname : (fn.name == "runtime.NumGoroutine") = false) (hbd : fn.body.isNone = true) (hnx : Extern.findNext fn = none) (he : Extern.find fn = some (Extern.SlicesOverlaps.overlaps #[tS, tS] #[tR]))
    (hu : slcP Γ.P tS = some (el, size)) (hv : evs e l = some [.slice (some ⟨ba, oa, none⟩) la ca, .slice (some ⟨bb, ob, none⟩) lb cb]) (hne : ba ≠ bb)
    (hA : ∀ w, St Γ.w0 Γ.ms H w → w.heap[ba]? = some (blk lA TA)) (hB : ∀ w, St Γ.w0 Γ.ms H w → w.heap[bb]? = some (blk lB TB)) (hlB : lB.length ≠ 0) :
    Op1 Γ ⟨d, .call ⟨.value (.func f), l.toArray, ts⟩, ty, pos, af, g⟩ e H (fun v H' => v = .bool false ∧ H' = H) := by
  intro w hw
  obtain ⟨g1, g2⟩ := slcP_spec hu
  have hkA := hA w hw
  have hkB := hB w hw
  have key := Lib.run_overlaps_apart (P := Γ.P) w tS tR el g1 size (fun w => run_sizeOf g2 w) ⟨ba, oa, none⟩ ⟨bb, ob, none⟩ la ca lb cb hne TA TB lA.length lB.length
    (by simp [World.shape?, hkA]) (by simp [World.shape?, hkB]) hlB (frozen_blk hkA) (frozen_blk hkA)
  have hrun := run_callFunc_extern (P := Γ.P) (f := f) hf hname hbd hnx he #[.slice (some ⟨ba, oa, none⟩) la ca, .slice (some ⟨bb, ob, none⟩) lb cb] w
  rw [key] at hrun
  refine opW_run (v := .bool false) (w' := w) ?_ ⟨_, hw, rfl, rfl⟩
  have hm : (l.toArray.map (ev e)) = #[.slice (some ⟨ba, oa, none⟩) la ca, .slice (some ⟨bb, ob, none⟩) lb cb] := by
    rw [List.map_toArray, evs_eq hv]
  simp only [execOp, resolve, ev, Deferred.ofValue, invoke, hm, pure_bind, Array.empty_append]
  exact hrun
end
section
variable {P : Program} {e : Env} {d : Option Nat} {ty t : TypeId} {pos : String} {af : Array Edge} {g : Option (Nat × Bool)} {x : Operand}
theorem light_cap {a : Option Addr} {n c : Nat} (hx : vnf (ev e x) = some (.slice a n c)) (hu : isSlc P t = true) :
    light P e ⟨d, .call ⟨.builtin .cap, #[x], #[t]⟩, ty, pos, af, g⟩ = some (.int .i64 c) := by
  refine light_of_pure ?_ rfl
  have hx := vnf_eq hx
  unfold isSlc at hu
  split at hu
  · rename_i el h1
    simp only [execOp, resolve, List.map_toArray, List.map_cons, List.map_nil, hx, pure_pure, invoke, builtin, Builtin.cap_, bind_assoc, List.getElem?_toArray, List.getElem?_cons_zero, pure_underlying h1]
    rfl
  · cases hu
theorem Row.takeE {α : Type} {c : α → List Value} {w : World} {b off : Nat} {l : List α} (h : Row w b off (flat c l)) (j : Nat) : Row w b off (flat c (l.take j)) := by
  have h1 : flat c l = flat c (l.take j) ++ flat c (l.drop j) := by rw [← flat_append, List.take_append_drop]
  rw [h1] at h
  exact h.left
end
end Go.VV
namespace Go.VV
open Go Go.ChangeShapes Go.WideShapes Go.ChangeAt Go.RowKit

/-- What a cell is: as CK, or a slice of numbers, or a slice of flat elements. -/
inductive KD where
  | int (k : IntKind)
  | bool
  | str
  | ints (k : IntKind)
  | rows (ks : List CK)
def kdOk (W : World) : KD → Value → Prop
  | .int k, v => ∃ n, v = .int k n ∧ (Lit.int k n).wf = true
  | .bool, v => ∃ b, v = .bool b
  | .str, v => ∃ s : ByteArray, v = .string s ∧ s.size ≤ maxLen
  | .ints k, v => ∃ (a : Option Addr) (c : Nat) (l : List Int), v = .slice a l.length c ∧ l.length ≤ c ∧ l.length ≤ maxLen ∧ (∀ x ∈ l, (Lit.int k x).wf = true) ∧ Ns W k a l
  | .rows ks, v => ∃ (a : Option Addr) (c : Nat) (l : List (List Value)), v = .slice a l.length c ∧ l.length ≤ c ∧ l.length ≤ maxLen ∧ (∀ x ∈ l, Cks ks x) ∧ Els W id a l
/-- Cell by cell. -/
def KDs (W : World) : List KD → List Value → Prop
  | [], [] => True
  | k :: ks, v :: vs => kdOk W k v ∧ KDs W ks vs
  | _, _ => False
theorem KDs.app {W : World} : ∀ {a b : List KD} {x y : List Value}, KDs W a x → KDs W b y → KDs W (a ++ b) (x ++ y)
  | [], _, [], _, _, h => h
  | _ :: _, _, _ :: _, _, h, h2 => ⟨h.1, KDs.app h.2 h2⟩
  | [], _, _ :: _, _, h, _ => h.elim
  | _ :: _, _, [], _, h, _ => h.elim
theorem KDs.len {W : World} : ∀ {a : List KD} {x : List Value}, KDs W a x → a.length = x.length
  | [], [], _ => rfl
  | _ :: _, _ :: _, h => by simp [KDs.len h.2]
  | [], _ :: _, h => h.elim
  | _ :: _, [], h => h.elim
theorem kd_i {W : World} {k : IntKind} {ks : List KD} {cs : List Value} (h : KDs W (.int k :: ks) cs) : ∃ n vs, cs = .int k n :: vs ∧ (Lit.int k n).wf = true ∧ KDs W ks vs := by
  cases cs with
  | nil => exact h.elim
  | cons v vs => obtain ⟨⟨n, rfl, hn⟩, h2⟩ := h; exact ⟨n, vs, rfl, hn, h2⟩
theorem kd_b {W : World} {ks : List KD} {cs : List Value} (h : KDs W (.bool :: ks) cs) : ∃ b vs, cs = .bool b :: vs ∧ KDs W ks vs := by
  cases cs with
  | nil => exact h.elim
  | cons v vs => obtain ⟨⟨n, rfl⟩, h2⟩ := h; exact ⟨n, vs, rfl, h2⟩
theorem kd_s {W : World} {ks : List KD} {cs : List Value} (h : KDs W (.str :: ks) cs) : ∃ s vs, cs = .string s :: vs ∧ s.size ≤ maxLen ∧ KDs W ks vs := by
  cases cs with
  | nil => exact h.elim
  | cons v vs => obtain ⟨⟨n, rfl, hn⟩, h2⟩ := h; exact ⟨n, vs, rfl, hn, h2⟩
theorem kd_is {W : World} {k : IntKind} {ks : List KD} {cs : List Value} (h : KDs W (.ints k :: ks) cs) :
    ∃ (a : Option Addr) (c : Nat) (l : List Int) (vs : List Value), cs = .slice a l.length c :: vs ∧ l.length ≤ c ∧ l.length ≤ maxLen ∧ (∀ x ∈ l, (Lit.int k x).wf = true) ∧ Ns W k a l ∧ KDs W ks vs := by
  cases cs with
  | nil => exact h.elim
  | cons v vs => obtain ⟨⟨a, c, l, rfl, h1, h2, h3, h4⟩, h5⟩ := h; exact ⟨a, c, l, vs, rfl, h1, h2, h3, h4, h5⟩
theorem kd_rs {W : World} {kk : List CK} {ks : List KD} {cs : List Value} (h : KDs W (.rows kk :: ks) cs) :
    ∃ (a : Option Addr) (c : Nat) (l : List (List Value)) (vs : List Value), cs = .slice a l.length c :: vs ∧ l.length ≤ c ∧ l.length ≤ maxLen ∧ (∀ x ∈ l, Cks kk x) ∧ Els W id a l ∧ KDs W ks vs := by
  cases cs with
  | nil => exact h.elim
  | cons v vs => obtain ⟨⟨a, c, l, rfl, h1, h2, h3, h4⟩, h5⟩ := h; exact ⟨a, c, l, vs, rfl, h1, h2, h3, h4, h5⟩
theorem kd_0 {W : World} {cs : List Value} (h : KDs W [] cs) : cs = [] := by
  cases cs with
  | nil => rfl
  | cons v vs => exact h.elim
/-- Rows of cells as rows of what they are. -/
theorem els_map {α : Type} {c : α → List Value} {W : World} {a : Option Addr} {l : List (List Value)} {p : α → Prop} {q : List Value → Prop} (hq : ∀ x ∈ l, q x) (hp : ∀ cs, q cs → ∃ x, cs = c x ∧ p x) (h : Els W id a l) :
    ∃ L : List α, L.length = l.length ∧ (∀ x ∈ L, p x) ∧ Els W c a L := by
  obtain ⟨L, rfl, hL⟩ := map_of (f := c) (p := p) (L := l) fun r hr => by
    obtain ⟨x, h1, h2⟩ := hp r (hq r hr); exact ⟨x, h1, h2⟩
  refine ⟨L, by simp, hL, fun h0 => ?_⟩
  obtain ⟨b, off, h1, h2⟩ := h (by simpa using h0)
  refine ⟨b, off, h1, ?_⟩
  have : flat id (L.map c) = flat c L := by unfold flat; simp [List.flatMap]
  rwa [this] at h2

theorem flat_ints (k : IntKind) : ∀ l : List Int, flat (fun x : Int => [Value.int k x]) l = l.map (.int k)
  | [] => rfl
  | x :: l => by rw [flat_cons, flat_ints k l]; rfl

section
variable (P : Program)
def kindsDF (f : TypeId → Option (List KD)) : List Field → Nat → Option (List KD)
  | [], _ => some []
  | fd :: r, off => match f fd.type with
    | some ks => bif Nat.beq fd.offset off && Nat.beq (P.cellsOf fd.type) ks.length then (match kindsDF f r (off + ks.length) with
      | some rs => some (ks ++ rs)
      | none => none) else none
    | none => none
def kindE (e : TypeId) : Option KD := match P.underlying e with
  | some (.int k) => bif Nat.beq (P.cellsOf e) 1 then some (.ints k) else none
  | _ => match kinds P 9 e with
    | some ks => bif Nat.beq (P.cellsOf e) ks.length && Nat.blt 0 ks.length then some (.rows ks) else none
    | none => none
def kindsD : Nat → TypeId → Option (List KD)
  | 0, _ => none
  | n + 1, t => match P.underlying t with
    | some (.int k) => some [.int k]
    | some .bool => some [.bool]
    | some .string => some [.str]
    | some (.slice e) => (kindE P e).map fun k => [k]
    | some (.struct ⟨fs⟩) => match kindsDF P (kindsD n) fs 0 with
      | some ks => bif Nat.beq (P.cellsOf t) ks.length then some ks else none
      | none => none
    | _ => none
end

section
variable {H : Type} {enc : TypeId × Value → H} {P : Program} {W : World}
/-- A slice's cells: its elements. -/
theorem trod_elems {α : Type} {t e : TypeId} {c : α → List Value} {p : α → Prop} (ht : P.underlying t = some (.slice e)) (hs : 0 < P.cellsOf e)
    (hk : ∀ {n : Nat} {cs : List Value} {y : DataW H × List MemPlace}, DataW.trod enc P W 0 (fun _ => true) true n e cs = some y → ∃ x, cs = c x ∧ p x)
    {n : Nat} {cs : List Value} {y : DataW H × List MemPlace} (hf : DataW.trod enc P W 0 (fun _ => true) true n t cs = some y) :
    ∃ (a : Option Addr) (cp : Nat) (l : List α), cs = [.slice a l.length cp] ∧ l.length ≤ cp ∧ l.length ≤ maxLen ∧ (∀ x ∈ l, p x) ∧ Els W c a l := by
  rcases Deep.open_slice ht hf with ⟨hcs, _⟩ | ⟨x, len, cap, m, n, D, Pl, rfl, _, hl, hm, hmm, _, hel⟩
  · exact ⟨none, 0, [], by simpa using hcs, Nat.le_refl _, Nat.zero_le _, fun _ h => (by cases h), Els.nil _ _ _⟩
  · have hlm : len ≤ m := by rw [hmm]; split <;> omega
    have key : ∀ i, i < len → ∃ y : α, (∀ j, j < P.cellsOf e → W.cell? ((x.add (i * P.cellsOf e)).add j) = (c y)[j]?) ∧ (c y).length = P.cellsOf e ∧ p y := fun i hi => by
      obtain ⟨cs, h1, h2⟩ := hel i (by omega)
      obtain ⟨_, h3, h4⟩ := World.cells?_some h1
      obtain ⟨y, rfl, hy⟩ := hk h2
      exact ⟨y, h4, h3, hy⟩
    have hne : ∀ i, i < len → ∃ y : Option α, ∃ z, y = some z ∧ (∀ j, j < P.cellsOf e → W.cell? ((x.add (i * P.cellsOf e)).add j) = (c z)[j]?) ∧ (c z).length = P.cellsOf e ∧ p z := fun i hi => by
      obtain ⟨y, h1⟩ := key i hi; exact ⟨some y, y, rfl, h1⟩
    obtain ⟨f, hfy⟩ := Deep.choose_lt hne
    have hex : ∀ o ∈ (List.range len).map f, ∃ z, o = some z ∧ p z := fun o ho => by
      obtain ⟨i, hi, rfl⟩ := List.mem_map.1 ho
      obtain ⟨z, h1, _, _, h4⟩ := hfy i (List.mem_range.1 hi)
      exact ⟨z, h1, h4⟩
    obtain ⟨L, hL, hLp⟩ := map_of hex
    have hlen : L.length = len := by
      have := congrArg List.length hL
      simpa using this.symm
    refine ⟨some x, cap, L, by rw [hlen], by omega, by omega, hLp, fun h0 => ?_⟩
    obtain ⟨b, off, spot⟩ := x
    have hg : ∀ i, (hi : i < L.length) → f i = some L[i] := fun i hi => by
      have h5 : ((List.range len).map f)[i]? = (L.map some)[i]? := by rw [hL]
      rw [List.getElem?_map, List.getElem?_map, List.getElem?_range (by omega), List.getElem?_eq_getElem hi] at h5
      simpa using h5
    have hcell : ∀ i j, (hi : i < L.length) → j < P.cellsOf e → W.cell? (((⟨b, off, spot⟩ : Addr).add (i * P.cellsOf e)).add j) = (c L[i])[j]? ∧ (c L[i]).length = P.cellsOf e := fun i j hi hj => by
      obtain ⟨z, h1, h2, h3, _⟩ := hfy i (by omega)
      have h6 := hg i hi
      rw [h1] at h6
      cases h6
      exact ⟨h2 j hj, h3⟩
    have hspot : spot = none := by
      obtain ⟨h7, h8⟩ := hcell 0 0 h0 hs
      rw [List.getElem?_eq_getElem (by omega)] at h7
      simpa [Addr.add] using World.cell?_spot h7
    subst hspot
    refine ⟨b, off, rfl, fun k v hv => ?_⟩
    have hcl : ∀ z ∈ L, (c z).length = P.cellsOf e := fun z hz => by
      obtain ⟨i, hi, rfl⟩ := List.getElem_of_mem hz
      exact (hcell i 0 hi hs).2
    have main : ∀ (L : List α) (o : Nat), (∀ i j, (hi : i < L.length) → j < P.cellsOf e → W.cell? ⟨b, o + (i * P.cellsOf e + j), none⟩ = (c L[i])[j]?) → (∀ z ∈ L, (c z).length = P.cellsOf e) → ∀ k v, (flat c L)[k]? = some v → W.cell? ⟨b, o + k, none⟩ = some v := by
      intro L
      induction L with
      | nil => intro o _ _ k v hv; simp [flat] at hv
      | cons z L ih =>
        intro o hc1 hc2 k v hv
        have hz := hc2 z (.head _)
        rw [flat_cons] at hv
        rcases Nat.lt_or_ge k (P.cellsOf e) with hk1 | hk1
        · rw [List.getElem?_append_left (by omega)] at hv
          have := hc1 0 k (by simp) hk1
          rw [Nat.zero_mul, Nat.zero_add] at this
          rw [this]; exact hv
        · rw [List.getElem?_append_right (by omega), hz] at hv
          have h9 := ih (o + P.cellsOf e) (fun i j hi hj => by
            have := hc1 (i + 1) j (by simpa using hi) hj
            rw [Nat.add_mul, Nat.one_mul] at this
            rw [show o + P.cellsOf e + (i * P.cellsOf e + j) = o + (i * P.cellsOf e + P.cellsOf e + j) by omega]
            exact this) (fun y hy => hc2 y (.tail _ hy)) (k - P.cellsOf e) v hv
          rw [show o + P.cellsOf e + (k - P.cellsOf e) = o + k by omega] at h9
          exact h9
    refine main L off (fun i j hi hj => ?_) hcl k v hv
    have := (hcell i j hi hj).1
    rw [add_mk, add_mk] at this
    rw [show off + (i * P.cellsOf e + j) = off + i * P.cellsOf e + j by omega]
    exact this

theorem kindE_ok {t e : TypeId} {k : KD} {n : Nat} {cs : List Value} {y : DataW H × List MemPlace} (ht : P.underlying t = some (.slice e)) (hk : kindE P e = some k) (hy : DataW.trod enc P W 0 (fun _ => true) true n t cs = some y) : KDs W [k] cs := by
  unfold kindE at hk
  split at hk
  · rename_i kk he
    by_cases hb : Nat.beq (P.cellsOf e) 1 = true
    · rw [hb, cond_true] at hk
      cases hk
      have hc := Nat.eq_of_beq_eq_true hb
      obtain ⟨a, cp, l, rfl, h1, h2, h3, h4⟩ := trod_elems (c := fun x : Int => [Value.int kk x]) (p := fun x => (Lit.int kk x).wf = true) ht (by omega) (fun {n cs y} hy => by
        obtain ⟨x, rfl, _, hw⟩ := DataW.trod_int he hy
        exact ⟨x, rfl, hw⟩) hy
      refine ⟨⟨a, cp, l, rfl, h1, h2, h3, fun h0 => ?_⟩, trivial⟩
      obtain ⟨b, off, g1, g2⟩ := h4 h0
      refine ⟨b, off, g1, ?_⟩
      rwa [flat_ints] at g2
    · simp only [Bool.not_eq_true] at hb
      rw [hb, cond_false] at hk
      cases hk
  · split at hk
    · rename_i ks hks
      by_cases hb : (Nat.beq (P.cellsOf e) ks.length && Nat.blt 0 ks.length) = true
      · rw [hb, cond_true] at hk
        cases hk
        simp only [Bool.and_eq_true] at hb
        have hc := Nat.eq_of_beq_eq_true hb.1
        have h0 : 0 < ks.length := Nat.lt_of_lt_of_le Nat.zero_lt_one (Nat.le_of_ble_eq_true hb.2)
        obtain ⟨a, cp, l, rfl, h1, h2, h3, h4⟩ := trod_elems (c := id) (p := fun x => Cks ks x) ht (by omega) (fun {n cs y} hy => ⟨cs, rfl, kinds_ok 9 hks hy⟩) hy
        exact ⟨⟨a, cp, l, rfl, h1, h2, h3, h4⟩, trivial⟩
      · simp only [Bool.not_eq_true] at hb
        rw [hb, cond_false] at hk
        cases hk
    · cases hk
theorem kindsDF_ok {f : TypeId → Option (List KD)} {n : Nat} {cs : List Value} (hf : ∀ {t : TypeId} {ks : List KD} {xs : List Value} {y : DataW H × List MemPlace}, f t = some ks → DataW.trod enc P W 0 (fun _ => true) true n t xs = some y → KDs W ks xs) :
    ∀ (fs : List Field) (off : Nat) (ks : List KD), kindsDF P f fs off = some ks → (∀ fd ∈ fs, ∃ y, DataW.trod enc P W 0 (fun _ => true) true n fd.type ((cs.drop fd.offset).take (P.cellsOf fd.type)) = some y) → KDs W ks ((cs.drop off).take ks.length)
  | [], off, ks, h, _ => by cases h; simp [KDs]
  | fd :: r, off, ks, h, hy => by
    simp only [kindsDF] at h
    split at h
    · rename_i k1 hk1
      by_cases hb : (Nat.beq fd.offset off && Nat.beq (P.cellsOf fd.type) k1.length) = true
      · rw [hb, cond_true] at h
        simp only [Bool.and_eq_true] at hb
        have h1 := Nat.eq_of_beq_eq_true hb.1
        have h2 := Nat.eq_of_beq_eq_true hb.2
        split at h
        · rename_i rs hrs
          cases h
          obtain ⟨y, hy1⟩ := hy fd (.head _)
          have a1 := hf hk1 hy1
          have a2 := kindsDF_ok hf r _ rs hrs fun g hg => hy g (.tail _ hg)
          rw [h1, h2] at a1
          rw [List.length_append, List.take_add, List.drop_drop]
          exact a1.app a2
        · cases h
      · simp only [Bool.not_eq_true] at hb
        rw [hb, cond_false] at h
        cases h
    · cases h
theorem kindsD_ok : ∀ (m : Nat) {n : Nat} {t : TypeId} {ks : List KD} {cs : List Value} {y : DataW H × List MemPlace}, kindsD P m t = some ks → DataW.trod enc P W 0 (fun _ => true) true n t cs = some y → KDs W ks cs
  | 0, _, _, _, _, _, h, _ => by cases h
  | m + 1, n, t, ks, cs, y, h, hy => by
    simp only [kindsD] at h
    split at h
    · rename_i k ht
      cases h
      obtain ⟨x, rfl, _, hw⟩ := DataW.trod_int ht hy
      exact ⟨⟨x, rfl, hw⟩, trivial⟩
    · rename_i ht
      cases h
      obtain ⟨b, rfl, _⟩ := DataW.trod_bool ht hy
      exact ⟨⟨b, rfl⟩, trivial⟩
    · rename_i ht
      cases h
      obtain ⟨s, rfl, _, hs⟩ := DataW.trod_string ht hy
      exact ⟨⟨s, rfl, hs⟩, trivial⟩
    · rename_i e ht
      cases hk : kindE P e with
      | none => rw [hk] at h; cases h
      | some k =>
        rw [hk] at h
        cases h
        exact kindE_ok ht hk hy
    · rename_i fs ht
      split at h
      · rename_i k1 hk1
        by_cases hb : Nat.beq (P.cellsOf t) k1.length = true
        · rw [hb, cond_true] at h
          cases h
          obtain ⟨xs, n', rfl, _, hl, hlen, hf⟩ := DataW.trod_struct ht hy
          have := kindsDF_ok (cs := cs) (fun h1 h2 => kindsD_ok m h1 h2) fs 0 _ hk1 (fun fd hfd => by
            obtain ⟨i, hi, rfl⟩ := List.getElem_of_mem hfd
            have h3 := hf i fs[i] (by simp [hi])
            have hi' : i < xs.length := by rw [hlen]; simpa using hi
            rw [List.getElem?_eq_getElem hi'] at h3
            exact ⟨_, h3⟩)
          rw [List.drop_zero, ← Nat.eq_of_beq_eq_true hb, ← hl, List.take_length] at this
          exact this
        · simp only [Bool.not_eq_true] at hb
          rw [hb, cond_false] at h
          cases h
      · cases h
    · cases h

/-- A slice, of elements that may hold slices, that came in. -/
theorem arg_rowsD {α : Type} {r : Reach} {b0 : Nat} {t e : TypeId} {ks : List KD} {c : α → List Value} {p : α → Prop} {v : Value} {d : DataW H} {q : List MemPlace} (ht : P.underlying t = some (.slice e)) (hk : kindsD P 9 e = some ks) (hs : Nat.blt 0 (P.cellsOf e) = true)
    (hp : ∀ cs, KDs W ks cs → ∃ x, cs = c x ∧ p x) (hv : Value.okWide P W r b0 t v) (h : DataW.Trod enc P W 0 (fun _ => true) true t v d q) :
    ∃ (a : Option Addr) (cp : Nat) (l : List α), v = .slice a l.length cp ∧ l.length ≤ cp ∧ l.length ≤ maxLen ∧ (∀ x ∈ l, p x) ∧ Els W c a l := by
  have hs : 0 < P.cellsOf e := Nat.lt_of_lt_of_le Nat.zero_lt_one (Nat.le_of_ble_eq_true hs)
  obtain ⟨a, len, cap, rfl⟩ := okWide_slice ht hv
  obtain ⟨fuel, hf⟩ := h
  obtain ⟨a', cp, l, h1, h2, h3, h4, h5⟩ := trod_elems (c := c) (p := p) ht hs (fun hy => hp _ (kindsD_ok 9 hk hy)) hf
  simp [Value.cells] at h1
  obtain ⟨rfl, rfl, rfl⟩ := h1
  exact ⟨_, _, l, rfl, h2, h3, h4, h5⟩
/-- A struct, that may hold slices, that came in by value. -/
theorem arg_flatD {α : Type} {r : Reach} {b0 : Nat} {t : TypeId} {fs : Array Field} {ks : List KD} {c : α → List Value} {p : α → Prop} {v : Value} {d : DataW H} {q : List MemPlace} (ht : P.underlying t = some (.struct fs)) (hk : kindsD P 9 t = some ks)
    (hp : ∀ cs, KDs W ks cs → ∃ x, cs = c x ∧ p x) (hv : Value.okWide P W r b0 t v) (h : DataW.Trod enc P W 0 (fun _ => true) true t v d q) :
    ∃ x : α, v = .agg (c x).toArray ∧ p x := by
  obtain ⟨⟨cs⟩, rfl, _⟩ := okWide_struct ht hv
  obtain ⟨fuel, hf⟩ := h
  have h1 := kindsD_ok 9 hk hf
  simp only [Value.cells] at h1
  obtain ⟨x, hx, hpx⟩ := hp _ h1
  exact ⟨x, by rw [← hx], hpx⟩
end

section
variable {Γ : Ctx} {e : Env} {H : Heap} {d : Option Nat} {ty : TypeId} {pos : String} {af : Array Edge} {g : Option (Nat × Bool)}
/-- append(nil, make([]T, n)..). -/
theorem x_append0M {t tn : TypeId} {x y : Operand} {T s by_ : Nat} {n : Nat} {kk : IntKind} {ts : Array TypeId}
    (hx : vnf (ev e x) = some (.slice none 0 0)) (hy : vnf (ev e y) = some (.int kk n)) (hts : ts = #[t, tn]) (htn : isInt Γ.P tn = true) (hp : appP Γ.P t = some (T, s, by_))
    (h0 : 0 < n) (hlen : n ≤ 1000000) (hb : by_ ≤ 1000) :
    Op1 Γ ⟨d, .call ⟨.builtin .append, #[x, y], ts⟩, ty, pos, af, g⟩ e H (fun v' H' => ∃ b' cap sp, v' = .slice (some ⟨b', 0, none⟩) n cap ∧ H' = (b', blk sp T) :: H ∧ sp.length = cap * s ∧ n ≤ cap ∧ cap ≤ maxLen) := by
  intro w hw
  subst hts
  have hx := vnf_eq hx
  have hy := vnf_eq hy
  unfold isInt at htn
  split at htn <;> try cases htn
  rename_i kn hkn
  unfold appP at hp
  split at hp <;> try cases hp
  rename_i el hu
  split at hp <;> try cases hp
  rename_i ti hti
  split at hp <;> try cases hp
  rename_i z hz
  split at hp <;> try cases hp
  rename_i hzs
  obtain ⟨hz1, hz2⟩ := hzs
  have h48 : n * ti.bytes ≤ 281474976710656 := by
    have : n * ti.bytes ≤ 1000000 * 1000 := Nat.mul_le_mul hlen hb
    omega
  have key := Lib.run_append_nil_zeros (P := Γ.P) w t tn ty T ti z kk kn hu hkn hti hz n h0 hz2 (by omega) h48
  have hge := grownCap_ge w n 0 T
  have hcm : grownCap w n 0 T ≤ maxLen := grownCap_le_maxLen w n 0 T (by unfold maxLen; omega)
  generalize hZ : (Builtin.zeroCells z.cells n ++ Builtin.zeroCells z.cells (grownCap w n 0 T - n)) = Z at key
  have hzl : Z.size = grownCap w n 0 T * ti.size := by
    rw [← hZ]
    simp only [Array.size_append, size_zeroCells, hz1, ← Nat.add_mul]
    congr 1
    omega
  obtain ⟨Z⟩ := Z
  refine opW_run (v := .slice (some ⟨w.heap.size, 0, none⟩) n (grownCap w n 0 T)) (w' := w.drew.alloc (blk Z T)) ?_ ⟨_, hw.drew.alloc _, w.heap.size, grownCap w n 0 T, Z, rfl, rfl, by simpa using hzl, hge, hcm⟩
  simp only [execOp, resolve, Sem.run_bind, Sem.run_pure, Result.andThen_ok, invoke, builtin, List.map_toArray, List.map_cons, List.map_nil, hx, hy, key]
end
end Go.VV
namespace Go.VV
open Go Go.RowKit

theorem as_i64 {n : Int} (h1 : -9223372036854775808 ≤ n) (h2 : n ≤ 9223372036854775807) : Value.int .i64 (IntKind.i64.wrap n) = .int .i64 n := congrArg _ (wrap_i64 h1 h2)
theorem as_u8 {n : Int} (h1 : 0 ≤ n) (h2 : n < 256) : Value.int .u8 (IntKind.u8.wrap n) = .int .u8 n := congrArg _ (wrap_u8_id h1 h2)
theorem as_u16 {n : Int} (h1 : 0 ≤ n) (h2 : n < 65536) : Value.int .u16 (IntKind.u16.wrap n) = .int .u16 n := congrArg _ (wrap_u16_id h1 h2)
theorem as_u64 {n : Int} (h1 : 0 ≤ n) (h2 : n < 18446744073709551616) : Value.int .u64 (IntKind.u64.wrap n) = .int .u64 n := congrArg _ (wrap_u64_id h1 h2)
theorem as_u8m (n : Int) : Value.int .u8 (IntKind.u8.wrap n) = .int .u8 (n % 256) := congrArg _ (wrap_u8 n)
theorem as_u16m (n : Int) : Value.int .u16 (IntKind.u16.wrap n) = .int .u16 (n % 65536) := congrArg _ (wrap_u16 n)
theorem as_u64m (n : Int) : Value.int .u64 (IntKind.u64.wrap n) = .int .u64 (n % 18446744073709551616) := congrArg _ (wrap_u64 n)
theorem as_rem {k : IntKind} {a b : Int} (h : 0 ≤ a) : Value.int k (a.tmod b) = .int k (a % b) := congrArg _ (Int.tmod_eq_emod_of_nonneg h)

/-- The numbers of a kind that are no less than 0. -/
def topOf : IntKind → Int
  | .u8 => 256
  | .u16 => 65536
  | .u64 => 18446744073709551616
  | .i64 => 9223372036854775808
  | _ => 0
theorem wrap_in {k : IntKind} {n : Int} (h1 : 0 ≤ n) (h2 : n < topOf k) : k.wrap n = n := by
  cases k <;> simp only [topOf] at h2 <;> first | omega | exact wrap_u8_id h1 h2 | exact wrap_u16_id h1 h2 | exact wrap_u64_id h1 h2 | exact wrap_i64 (by omega) (by omega)
theorem bits_in {k : IntKind} {n : Int} (h1 : 0 ≤ n) (h2 : n < topOf k) : (BitVec.ofInt k.bits n).toNat = n.toNat := by
  have : n < 2 ^ k.bits := by cases k <;> simp only [topOf] at h2 <;> simp only [IntKind.bits] <;> omega
  rw [BitVec.toNat_ofInt, Int.emod_eq_of_lt h1 (by simpa using this)]
theorem as_quo {k : IntKind} {a b : Int} (h1 : 0 ≤ a) (h2 : a < topOf k) (hb : 0 < b) : Value.int k (k.wrap (a.tdiv b)) = .int k (a / b) := by
  rw [Int.tdiv_eq_ediv_of_nonneg h1, wrap_in (Int.ediv_nonneg h1 (by omega)) (Int.lt_of_le_of_lt (Int.ediv_le_self _ h1) h2)]
theorem as_shr {k : IntKind} {a n : Int} (d : Int) (h : 2 ^ min n.toNat k.bits = d) (hd : 0 < d) : Value.int k (shr k a n) = .int k (a / d) := by
  unfold shr
  rw [h, Int.fdiv_eq_ediv_of_nonneg _ (by omega)]
theorem shl_eq {k : IntKind} {a n : Int} (d : Int) (h : 2 ^ min n.toNat k.bits = d) : shl k a n = k.wrap (a * d) := by unfold shl; rw [h]
theorem as_shl {k : IntKind} {a n : Int} (d : Int) (h : 2 ^ min n.toNat k.bits = d) (h1 : 0 ≤ a * d) (h2 : a * d < topOf k) : Value.int k (shl k a n) = .int k (a * d) := by rw [shl_eq d h, wrap_in h1 h2]
theorem as_shl8 {a n : Int} (d : Int) (h : 2 ^ min n.toNat 8 = d) : Value.int .u8 (shl .u8 a n) = .int .u8 (a * d % 256) := by rw [shl_eq d h, wrap_u8]
theorem as_shl16 {a n : Int} (d : Int) (h : 2 ^ min n.toNat 16 = d) : Value.int .u16 (shl .u16 a n) = .int .u16 (a * d % 65536) := by rw [shl_eq d h, wrap_u16]
theorem band_nat {k : IntKind} {a b : Int} (h1 : 0 ≤ a) (h2 : a < topOf k) (h3 : 0 ≤ b) (h4 : b < topOf k) : band k a b = ((a.toNat &&& b.toNat : Nat) : Int) := by
  unfold band
  rw [BitVec.toNat_and, bits_in h1 h2, bits_in h3 h4]
  refine wrap_in (Int.natCast_nonneg _) ?_
  have := Nat.and_le_left (n := a.toNat) (m := b.toNat)
  omega
theorem bor_nat {k : IntKind} {a b : Int} (h1 : 0 ≤ a) (h2 : a < topOf k) (h3 : 0 ≤ b) (h4 : b < topOf k) : bor k a b = ((a.toNat ||| b.toNat : Nat) : Int) := by
  unfold bor
  rw [BitVec.toNat_or, bits_in h1 h2, bits_in h3 h4]
  refine wrap_in (Int.natCast_nonneg _) ?_
  have hm : ∃ m : Nat, topOf k = ((2 ^ m : Nat) : Int) ∨ topOf k = 0 := by
    cases k <;> first | exact ⟨8, .inl rfl⟩ | exact ⟨16, .inl rfl⟩ | exact ⟨64, .inl rfl⟩ | exact ⟨63, .inl rfl⟩ | exact ⟨0, .inr rfl⟩
  obtain ⟨m, hm | hm⟩ := hm
  · have h5 : a.toNat < 2 ^ m := by rw [hm] at h2; omega
    have h6 : b.toNat < 2 ^ m := by rw [hm] at h4; omega
    have := Nat.or_lt_two_pow h5 h6
    rw [hm]; omega
  · omega
theorem band_mask {k : IntKind} {a b : Int} (n : Nat) (d : Int) (hd : ((2 ^ n : Nat) : Int) = d) (hb : b = d - 1) (h1 : 0 ≤ a) (h2 : a < topOf k) (h4 : b < topOf k) : band k a b = a % d := by
  have hp : 0 < (2 : Nat) ^ n := Nat.two_pow_pos n
  rw [band_nat h1 h2 (by omega) h4]
  have : b.toNat = 2 ^ n - 1 := by omega
  rw [this, Nat.and_two_pow_sub_one_eq_mod, ← hd]
  obtain ⟨m, rfl⟩ : ∃ m : Nat, a = m := ⟨a.toNat, by omega⟩
  simp
theorem as_mask {k : IntKind} {a b : Int} (n : Nat) (d : Int) (hd : ((2 ^ n : Nat) : Int) = d) (hb : b = d - 1) (h1 : 0 ≤ a) (h2 : a < topOf k) (h4 : b < topOf k) : Value.int k (band k a b) = .int k (a % d) := congrArg _ (band_mask n d hd hb h1 h2 h4)
theorem band_bit {k : IntKind} {a b : Int} (n : Nat) (hb : ((2 ^ n : Nat) : Int) = b) (h1 : 0 ≤ a) (h2 : a < topOf k) (h4 : b < topOf k) : band k a b = a / b % 2 * b := by
  have hp : 0 < (2 : Nat) ^ n := Nat.two_pow_pos n
  rw [band_nat h1 h2 (by omega) h4]
  have hbn : b.toNat = 2 ^ n := by omega
  rw [hbn]
  have key : a.toNat &&& 2 ^ n = (a.toNat / 2 ^ n % 2) * 2 ^ n := by
    apply Nat.eq_of_testBit_eq
    intro i
    rw [Nat.testBit_and, Nat.testBit_two_pow]
    by_cases hi : n = i
    · subst hi
      simp only [decide_true, Bool.and_true]
      rw [Nat.testBit_mul_two_pow]
      simp [Nat.testBit_eq_decide_div_mod_eq]
    · simp only [hi, decide_false, Bool.and_false]
      rw [Nat.testBit_mul_two_pow]
      rcases Nat.lt_or_ge i n with h | h
      · simp [show ¬ n ≤ i by omega]
      · rcases Nat.mod_two_eq_zero_or_one (a.toNat / 2 ^ n) with h3 | h3 <;> rw [h3]
        · simp
        · obtain ⟨q, hq⟩ : ∃ q, i - n = q + 1 := ⟨i - n - 1, by omega⟩
          rw [hq, Nat.testBit_succ]
          simp
  rw [key]
  obtain ⟨m, rfl⟩ : ∃ m : Nat, a = m := ⟨a.toNat, by omega⟩
  rw [← hb]
  simp
theorem as_bit {k : IntKind} {a b : Int} (n : Nat) (hb : ((2 ^ n : Nat) : Int) = b) (h1 : 0 ≤ a) (h2 : a < topOf k) (h4 : b < topOf k) : Value.int k (band k a b) = .int k (a / b % 2 * b) := congrArg _ (band_bit n hb h1 h2 h4)

section
variable {P : Program} {e : Env} {d : Option Nat} {ty : TypeId} {pos : String} {af : Array Edge} {g : Option (Nat × Bool)}
theorem idx_arrayI {t : TypeId} {x i : Operand} {b off n el : Nat} {k : IntKind} {j : Int} (hx : vnf (ev e x) = some (.pointer (some ⟨b, off, none⟩))) (hi : vnf (ev e i) = some (.int k j))
    (hu : arrP P t = some (n, el, 1)) (hj : 0 ≤ j) (hm : j < (n : Int)) :
    light P e ⟨d, .indexAddr t x i, ty, pos, af, g⟩ = some (.pointer (some ⟨b, off + j.toNat, none⟩)) := idx_array1 j.toNat hx hi hu (by omega) (by omega)
theorem idx_sliceI {t : TypeId} {x i : Operand} {b off n c el : Nat} {k : IntKind} {j : Int} (hx : vnf (ev e x) = some (.slice (some ⟨b, off, none⟩) n c)) (hi : vnf (ev e i) = some (.int k j))
    (hu : slcP P t = some (el, 1)) (hj : 0 ≤ j) (hm : j < (n : Int)) :
    light P e ⟨d, .indexAddr t x i, ty, pos, af, g⟩ = some (.pointer (some ⟨b, off + j.toNat, none⟩)) := idx_slice1 j.toNat hx hi hu (by omega) (by omega)
theorem idx_arrayIs {t : TypeId} {x i : Operand} {b off n el s : Nat} {k : IntKind} {j : Int} (hx : vnf (ev e x) = some (.pointer (some ⟨b, off, none⟩))) (hi : vnf (ev e i) = some (.int k j))
    (hu : arrP P t = some (n, el, s)) (hj : 0 ≤ j) (hm : j < (n : Int)) :
    light P e ⟨d, .indexAddr t x i, ty, pos, af, g⟩ = some (.pointer (some ⟨b, off + j.toNat * s, none⟩)) := idx_array j.toNat hx hi hu (by omega) (by omega)
theorem idx_sliceIs {t : TypeId} {x i : Operand} {b off n c el s : Nat} {k : IntKind} {j : Int} (hx : vnf (ev e x) = some (.slice (some ⟨b, off, none⟩) n c)) (hi : vnf (ev e i) = some (.int k j))
    (hu : slcP P t = some (el, s)) (hj : 0 ≤ j) (hm : j < (n : Int)) :
    light P e ⟨d, .indexAddr t x i, ty, pos, af, g⟩ = some (.pointer (some ⟨b, off + j.toNat * s, none⟩)) := idx_slice j.toNat hx hi hu (by omega) (by omega)
end
end Go.VV
namespace Go.VV
open Go Go.RowKit
section
variable {P : Program} {e : Env} {d : Option Nat} {ty t u : TypeId} {pos : String} {af : Array Edge} {g : Option (Nat × Bool)} {x y : Operand} {k : IntKind} {a b : Int}
theorem l_add (hx : vnf (ev e x) = some (.int k a)) (hy : vnf (ev e y) = some (.int k b)) : light P e ⟨d, .binOp .add t x y u, ty, pos, af, g⟩ = some (.int k (k.wrap (a + b))) := by
  refine light_of_pure ?_ rfl
  simp [execOp, eqGuard, vnf_eq hx, vnf_eq hy, binOp, Op.intArith, pureOf, bind, Sem.bind, pure]
theorem l_sub (hx : vnf (ev e x) = some (.int k a)) (hy : vnf (ev e y) = some (.int k b)) : light P e ⟨d, .binOp .sub t x y u, ty, pos, af, g⟩ = some (.int k (k.wrap (a - b))) := by
  refine light_of_pure ?_ rfl
  simp [execOp, eqGuard, vnf_eq hx, vnf_eq hy, binOp, Op.intArith, pureOf, bind, Sem.bind, pure]
theorem l_mul (hx : vnf (ev e x) = some (.int k a)) (hy : vnf (ev e y) = some (.int k b)) : light P e ⟨d, .binOp .mul t x y u, ty, pos, af, g⟩ = some (.int k (k.wrap (a * b))) := by
  refine light_of_pure ?_ rfl
  simp [execOp, eqGuard, vnf_eq hx, vnf_eq hy, binOp, Op.intArith, pureOf, bind, Sem.bind, pure]
theorem l_and (hx : vnf (ev e x) = some (.int k a)) (hy : vnf (ev e y) = some (.int k b)) : light P e ⟨d, .binOp .and t x y u, ty, pos, af, g⟩ = some (.int k (band k a b)) := by
  refine light_of_pure ?_ rfl
  simp [execOp, eqGuard, vnf_eq hx, vnf_eq hy, binOp, Op.intBits, pureOf, bind, Sem.bind, pure, band]
theorem l_or (hx : vnf (ev e x) = some (.int k a)) (hy : vnf (ev e y) = some (.int k b)) : light P e ⟨d, .binOp .or t x y u, ty, pos, af, g⟩ = some (.int k (bor k a b)) := by
  refine light_of_pure ?_ rfl
  simp [execOp, eqGuard, vnf_eq hx, vnf_eq hy, binOp, Op.intBits, pureOf, bind, Sem.bind, pure, bor]
theorem l_xor (hx : vnf (ev e x) = some (.int k a)) (hy : vnf (ev e y) = some (.int k b)) : light P e ⟨d, .binOp .xor t x y u, ty, pos, af, g⟩ = some (.int k (bxor k a b)) := by
  refine light_of_pure ?_ rfl
  simp [execOp, eqGuard, vnf_eq hx, vnf_eq hy, binOp, Op.intBits, pureOf, bind, Sem.bind, pure, bxor]
theorem l_andn (hx : vnf (ev e x) = some (.int k a)) (hy : vnf (ev e y) = some (.int k b)) : light P e ⟨d, .binOp .andNot t x y u, ty, pos, af, g⟩ = some (.int k (bandn k a b)) := by
  refine light_of_pure ?_ rfl
  simp [execOp, eqGuard, vnf_eq hx, vnf_eq hy, binOp, Op.intBits, pureOf, bind, Sem.bind, pure, bandn]
def intT (P : Program) (t : TypeId) : Option IntKind := match P.underlying t with
  | some (.int k) => some k
  | _ => none
theorem l_conv {src dst : TypeId} {k2 : IntKind} {n : Int} (hx : vnf (ev e x) = some (.int k n)) (hs : intT P src = some k) (hd : intT P dst = some k2) : light P e ⟨d, .convert src dst x, ty, pos, af, g⟩ = some (.int k2 (k2.wrap n)) := by
  refine light_of_pure ?_ rfl
  unfold intT at hs hd
  split at hs <;> try cases hs
  split at hd <;> try cases hd
  rename_i h1 _ h2
  simp only [execOp, convert, bind_assoc, pure_underlying h1, pure_underlying h2, vnf_eq hx]
  rfl
end
end Go.VV
namespace Go.VV
theorem bne_t {a b : Int} (h : (a != b) = true) : a ≠ b := by simpa using h
theorem bne_f {a b : Int} (h : (a != b) = false) : a = b := by simpa using h
end Go.VV
namespace Go.VV
theorem Vec.cap_le {T s n m c : Nat} {a : Option Addr} {xs : List Value} {G : Heap} (h : Vec T s (.slice a m c) n xs G) : n ≤ c ∧ m = n := by
  cases h with
  | nil => exact ⟨Nat.le_refl _, rfl⟩
  | row b n cap xs sp hn hc hm hle => exact ⟨hle, rfl⟩
end Go.VV
