/- Append of zeros that grows; copy of elements of several cells; slices.overlaps at two blocks. Plain lemmas; no program. -/
import Derived.Test.YtjceoaomkbabmaaVvX
import Derived.Lib.AppendZeros
import Derived.Lib.Overlaps
import Derived.Laws.Externs
namespace Go.VV
open Go Go.RowKit
section
variable {Γ : Ctx} {e : Env} {H : Heap} {d : Option Nat} {ty : TypeId} {pos : String} {af : Array Edge} {g : Option (Nat × Bool)}

theorem run_append_grow_zeros {P : Program} (w : World) (t tn ty e : TypeId) (i : TypeInfo) (z : Value) (k kn : IntKind) (ht : P.underlying t = some (.slice e)) (htn : P.underlying tn = some (.int kn)) (hi : P.info? e = some i) (hz : i.zero = some z)
    (b : Addr) (sLen sCap n : Nat) (olds : List Value) (hlo : olds.length = sLen * i.size) (holds : ∀ j v, olds[j]? = some v → w.cell? (b.add j) = some v)
    (h0 : 0 < n) (hs : 0 < i.size) (hg : sCap < sLen + n) (h63 : ((sLen + n : Nat) : Int) ≤ 9223372036854775807) (hfit : Builtin.nextslicecap (sLen + n) sCap * i.bytes ≤ 281474976710656) (h48 : n * i.bytes ≤ 281474976710656) :
    (Builtin.append_ #[t, tn] ty #[.slice (some b) sLen sCap, .int k n]).run P w =
      .ok (.slice (some ⟨w.heap.size, 0, none⟩) (sLen + n) (grownCap w (sLen + n) sCap e)) (w.drew.alloc (.cells (olds.toArray ++ Builtin.zeroCells z.cells n ++ Builtin.zeroCells z.cells (grownCap w (sLen + n) sCap e - (sLen + n))) e)) := by
  have hn : n ≠ 0 := by omega
  have hw : IntKind.i64.wrap (n : Int) = n := by rw [IntKind.wrap_i64]; omega
  have hnc : ¬ (sLen + n ≤ sCap) := by omega
  have h63' : ¬ (9223372036854775807 < ((sLen : Int) + (n : Int))) := by omega
  have h48' : ¬ (281474976710656 < Builtin.nextslicecap (sLen + n) sCap * i.bytes) := by omega
  have h48i : ¬ (281474976710656 < (n : Int) * (i.bytes : Int)) := by
    rw [← Int.natCast_mul]
    omega
  have hneg : ¬ ((n : Int) < 0) := by omega
  have hns : ¬ (n * i.size = 0) := Nat.mul_ne_zero hn (by omega)
  have hfo := run_firstCells_some (P := P) w.drew i.size sLen b sLen sCap olds hlo (by simpa using holds)
  simp [Builtin.append_, run_underlying ht, run_underlying htn, sizeOf, typeInfo, zeroValue, hi, hz, asInt, asIntOf, hw, hneg, hns, hnc, h63', h48', h48i, Question.forced, hfo, newRow, grownCap]

def isInt (P : Program) (t : TypeId) : Bool := match P.underlying t with
  | some (.int _) => true
  | _ => false
/-- append(s, make([]T, n)..) where it grows. -/
theorem x_appendM {t tn : TypeId} {x y : Operand} {T s by_ : Nat} {b off n k cp : Nat} {kk : IntKind} {olds : List Value} {ts : Array TypeId}
    (hx : vnf (ev e x) = some (.slice (some ⟨b, off, none⟩) k cp)) (hy : vnf (ev e y) = some (.int kk n)) (hts : ts = #[t, tn]) (htn : isInt Γ.P tn = true) (hp : appP Γ.P t = some (T, s, by_))
    (hr : ∀ w, St Γ.w0 Γ.ms H w → Row w b off olds) (hlo : olds.length = k * s) (h0 : 0 < n) (hg : cp < k + n) (hlen : k + n ≤ 1000000) (hb : by_ ≤ 1000) :
    Op1 Γ ⟨d, .call ⟨.builtin .append, #[x, y], ts⟩, ty, pos, af, g⟩ e H (fun v' H' => ∃ b' cap sp, v' = .slice (some ⟨b', 0, none⟩) (k + n) cap ∧ H' = (b', blk (olds ++ sp) T) :: H ∧ (olds ++ sp).length = cap * s ∧ k + n ≤ cap ∧ cap ≤ maxLen) := by
  intro w hw
  subst hts
  have hx := vnf_eq hx
  have hy := vnf_eq hy
  unfold isInt at htn
  split at htn <;> try cases htn
  rename_i kn hkn
  unfold appP at hp
  split at hp <;> try cases hp
  rename_i el hu
  split at hp <;> try cases hp
  rename_i ti hti
  split at hp <;> try cases hp
  rename_i z hz
  split at hp <;> try cases hp
  rename_i hzs
  obtain ⟨hz1, hz2⟩ := hzs
  have hfit : Builtin.nextslicecap (k + n) cp * ti.bytes ≤ 281474976710656 := growslice_fits (by omega) (by
    have : (k + n) * ti.bytes ≤ 1000000 * 1000 := Nat.mul_le_mul hlen hb
    omega)
  have h48 : n * ti.bytes ≤ 281474976710656 := by
    have : n * ti.bytes ≤ 1000000 * 1000 := Nat.mul_le_mul (by omega) hb
    omega
  have key := run_append_grow_zeros (P := Γ.P) w t tn ty T ti z kk kn hu hkn hti hz ⟨b, off, none⟩ k cp n olds hlo (hr w hw).add h0 hz2 hg (by omega) hfit h48
  have hge := grownCap_ge w (k + n) cp T
  have hcm : grownCap w (k + n) cp T ≤ maxLen := grownCap_le_maxLen w (k + n) cp T (by unfold maxLen; omega)
  have harr : olds.toArray ++ Builtin.zeroCells z.cells n ++ Builtin.zeroCells z.cells (grownCap w (k + n) cp T - (k + n)) = (olds ++ (Builtin.zeroCells z.cells n ++ Builtin.zeroCells z.cells (grownCap w (k + n) cp T - (k + n))).toList).toArray := by
    apply Array.ext'
    simp
  rw [harr] at key
  generalize hZ : (Builtin.zeroCells z.cells n ++ Builtin.zeroCells z.cells (grownCap w (k + n) cp T - (k + n))).toList = Z at key
  have hzl : (olds ++ Z).length = grownCap w (k + n) cp T * ti.size := by
    rw [← hZ]
    simp only [List.length_append, Array.length_toList, Array.size_append, size_zeroCells, hz1, hlo, ← Nat.add_mul]
    congr 1
    omega
  refine opW_run (v := .slice (some ⟨w.heap.size, 0, none⟩) (k + n) (grownCap w (k + n) cp T)) (w' := w.drew.alloc (blk (olds ++ Z) T)) ?_ ⟨_, hw.drew.alloc _, w.heap.size, grownCap w (k + n) cp T, Z, rfl, rfl, hzl, hge, hcm⟩
  simp only [execOp, resolve, Sem.run_bind, Sem.run_pure, Result.andThen_ok, invoke, builtin, List.map_toArray, List.map_cons, List.map_nil, hx, hy, key]

/-- copy(dst, src), elements of 's' cells; the source is read ahead of what is written. -/
theorem x_copyE {x y : Operand} {ts : Array TypeId} {tx ty2 el s : TypeId} {b off dl dc b2 off2 m c2 : Nat} {l ys : List Value} {T : TypeId} (i : Nat)
    (hx : vnf (ev e x) = some (.slice (some ⟨b, off, none⟩) dl dc)) (hy : vnf (ev e y) = some (.slice (some ⟨b2, off2, none⟩) m c2)) (hts : ts = #[tx, ty2]) (hu : slcP Γ.P tx = some (el, s))
    (hi : H[i]? = some (b, blk l T)) (hn : ys.length = min m dl * s) (hs : ∀ w, St Γ.w0 Γ.ms H w → Row w b2 off2 ys) (h1 : ones ys = true) (hl : off + ys.length ≤ l.length) :
    Op1 Γ ⟨d, .call ⟨.builtin .copy, #[x, y], ts⟩, ty, pos, af, g⟩ e H (fun v H' => v = .int .i64 (min m dl : Nat) ∧ H' = H.set i (b, blk (putL l off ys) T)) := by
  intro w hw
  subst hts
  obtain ⟨g1, g2⟩ := slcP_spec hu
  have hx := vnf_eq hx
  have hy := vnf_eq hy
  have hg : w.heap[b]? = some (blk l T) := hw.own_blk (List.mem_of_getElem? hi)
  have hrun : (Builtin.copy_ #[tx, ty2] ty #[.slice (some ⟨b, off, none⟩) dl dc, .slice (some ⟨b2, off2, none⟩) m c2]).run Γ.P w = .ok (goInt (min m dl : Nat)) (w.setRow b (putL l off ys).toArray) := by
    have hl1 := run_loadCells_list (P := Γ.P) w ⟨b2, off2, none⟩ ys (hs w hw).add
    have hst := run_storeCells_at Γ.P b off T ys 0 l.toArray w hg (by simpa using hl) (by simpa [ones] using h1)
    simp only [Nat.add_zero] at hst
    have hsz := run_sizeOf g2 w
    have e1 : putL l off ys = l.take off ++ ys ++ l.drop (off + ys.length) := rfl
    rw [hn] at hl1
    simp [Builtin.copy_, run_underlying g1, Builtin.lenOf, Builtin.firstCells, hsz, hl1, hst, e1]
  refine opW_run (v := .int .i64 (min m dl : Nat)) (w' := w.setRow b (putL l off ys).toArray) ?_ ⟨_, ?_, rfl, rfl⟩
  · simp only [execOp, resolve, Sem.run_bind, Sem.run_pure, Result.andThen_ok, invoke, builtin, List.map_toArray, List.map_cons, List.map_nil, hx, hy, hrun]
    rfl
  · exact hw.setAt hi rfl rfl rfl (by simp [World.setRow]) (fun k hk => setRow_other w b k _ hk) (setRow_heap w b _ _ T _ hg)

/-- slices.overlaps of two slices in two blocks. -/
theorem x_ovl {f : Nat} {l : List Operand} {ts : Array TypeId} {fn : Func} {tS tR el size : Nat} {ba oa la ca bb ob lb cb : Nat} {lA lB : List Value} {TA TB : TypeId}
    (hf : Γ.P.funcs[f]? = some fn) (hname : (fn.name == "runtime.NumGoroutine") = false) (hbd : fn.body.isNone = true) (hnx : Extern.findNext fn = none) (he : Extern.find fn = some (Extern.SlicesOverlaps.overlaps #[tS, tS] #[tR]))
    (hu : slcP Γ.P tS = some (el, size)) (hv : evs e l = some [.slice (some ⟨ba, oa, none⟩) la ca, .slice (some ⟨bb, ob, none⟩) lb cb]) (hne : ba ≠ bb)
    (hA : ∀ w, St Γ.w0 Γ.ms H w → w.heap[ba]? = some (blk lA TA)) (hB : ∀ w, St Γ.w0 Γ.ms H w → w.heap[bb]? = some (blk lB TB)) (hlB : lB.length ≠ 0) :
    Op1 Γ ⟨d, .call ⟨.value (.func f), l.toArray, ts⟩, ty, pos, af, g⟩ e H (fun v H' => v = .bool false ∧ H' = H) := by
  intro w hw
  obtain ⟨g1, g2⟩ := slcP_spec hu
  have hkA := hA w hw
  have hkB := hB w hw
  have key := Lib.run_overlaps_apart (P := Γ.P) w tS tR el g1 size (fun w => run_sizeOf g2 w) ⟨ba, oa, none⟩ ⟨bb, ob, none⟩ la ca lb cb hne TA TB lA.length lB.length
    (by simp [World.shape?, hkA]) (by simp [World.shape?, hkB]) hlB (frozen_blk hkA) (frozen_blk hkA)
  have hrun := run_callFunc_extern (P := Γ.P) (f := f) hf hname hbd hnx he #[.slice (some ⟨ba, oa, none⟩) la ca, .slice (some ⟨bb, ob, none⟩) lb cb] w
  rw [key] at hrun
  refine opW_run (v := .bool false) (w' := w) ?_ ⟨_, hw, rfl, rfl⟩
  have hm : (l.toArray.map (ev e)) = #[.slice (some ⟨ba, oa, none⟩) la ca, .slice (some ⟨bb, ob, none⟩) lb cb] := by
    rw [List.map_toArray, evs_eq hv]
  simp only [execOp, resolve, ev, Deferred.ofValue, invoke, hm, pure_bind, Array.empty_append]
  exact hrun
end
section
variable {P : Program} {e : Env} {d : Option Nat} {ty t : TypeId} {pos : String} {af : Array Edge} {g : Option (Nat × Bool)} {x : Operand}
theorem light_cap {a : Option Addr} {n c : Nat} (hx : vnf (ev e x) = some (.slice a n c)) (hu : isSlc P t = true) :
    light P e ⟨d, .call ⟨.builtin .cap, #[x], #[t]⟩, ty, pos, af, g⟩ = some (.int .i64 c) := by
  refine light_of_pure ?_ rfl
  have hx := vnf_eq hx
  unfold isSlc at hu
  split at hu
  · rename_i el h1
    simp only [execOp, resolve, List.map_toArray, List.map_cons, List.map_nil, hx, pure_pure, invoke, builtin, Builtin.cap_, bind_assoc, List.getElem?_toArray, List.getElem?_cons_zero, pure_underlying h1]
    rfl
  · cases hu
theorem Row.takeE {α : Type} {c : α → List Value} {w : World} {b off : Nat} {l : List α} (h : Row w b off (flat c l)) (j : Nat) : Row w b off (flat c (l.take j)) := by
  have h1 : flat c l = flat c (l.take j) ++ flat c (l.drop j) := by rw [← flat_append, List.take_append_drop]
  rw [h1] at h
  exact h.left
end
end Go.VV
