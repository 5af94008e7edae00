/- Slices over a symbolic state: indexes, cuts, append, copy; results that lie in memory. Plain lemmas; no program. -/
import Derived.Test.YtjceoaomkbabmaaVvD
namespace Go.VV
open Go Go.RowKit

section
variable {P : Program} {Γ : Ctx} {e : Env} {H : Heap} {d : Option Nat} {ty : TypeId} {pos : String} {af : Array Edge} {g : Option (Nat × Bool)}

def slcP (P : Program) (t : TypeId) : Option (Nat × Nat) :=
  match P.underlying t with
  | some (.slice el) => match sizeP P el with
    | some s => some (el, s)
    | none => none
  | _ => none
def arrP (P : Program) (t : TypeId) : Option (Nat × Nat × Nat) :=
  match P.underlying t with
  | some (.array n el) => match sizeP P el with
    | some s => some (n, el, s)
    | none => none
  | _ => none
theorem slcP_spec {t el s : Nat} (h : slcP P t = some (el, s)) : P.underlying t = some (.slice el) ∧ sizeP P el = some s := by
  unfold slcP at h
  split at h
  · rename_i el' hu
    split at h
    · rename_i s' hs; cases h; exact ⟨hu, hs⟩
    · cases h
  · cases h
theorem arrP_spec {t n el s : Nat} (h : arrP P t = some (n, el, s)) : P.underlying t = some (.array n el) ∧ sizeP P el = some s := by
  unfold arrP at h
  split at h
  · rename_i n' el' hu
    split at h
    · rename_i s' hs; cases h; exact ⟨hu, hs⟩
    · cases h
  · cases h

theorem add_mk (b off k : Nat) : (⟨b, off, none⟩ : Addr).add k = ⟨b, off + k, none⟩ := by unfold Addr.add; split <;> simp_all

theorem pure_underlying {α : Type} {t : TypeId} {D : TypeDesc} (h : P.underlying t = some D) (f : TypeDesc → Sem α) : pureOf P (underlying t >>= f) = pureOf P (f D) := by
  simp [underlying, program, bind, Sem.bind, pureOf, h, pure]
theorem pure_size {α : Type} {t n : Nat} (h : sizeP P t = some n) (f : Nat → Sem α) : pureOf P (sizeOf t >>= f) = pureOf P (f n) := by
  unfold sizeP at h
  cases hq : P.info? t with
  | none => simp [hq] at h
  | some i =>
    have : i.size = n := by simpa [hq] using h
    simp [sizeOf, typeInfo, program, bind, Sem.bind, pureOf, hq, pure, this]
theorem pure_pure {α β : Type} (a : α) (f : α → Sem β) : pureOf P ((pure a : Sem α) >>= f) = pureOf P (f a) := rfl

theorem light_of_pure {o : Oper} {v : Value} (h : pureOf P (execOp (ev e) o) = some (.value v)) (hv : vnf v = some v) : light P e o = some v := by
  simp [light, h, hv]

/-- x[i], x a slice. -/
theorem idx_slice {t : TypeId} {x i : Operand} {b off n c el s : Nat} {k : IntKind} {j : Int} (m : Nat) (hx : vnf (ev e x) = some (.slice (some ⟨b, off, none⟩) n c)) (hi : vnf (ev e i) = some (.int k j))
    (hu : slcP P t = some (el, s)) (hj : j = (m : Int)) (hm : m < n) :
    light P e ⟨d, .indexAddr t x i, ty, pos, af, g⟩ = some (.pointer (some ⟨b, off + m * s, none⟩)) := by
  obtain ⟨h1, h2⟩ := slcP_spec hu
  have hx := vnf_eq hx
  have hi := vnf_eq hi
  subst hj
  refine light_of_pure ?_ rfl
  have h3 : (0 : Int) ≤ (m : Int) ∧ (m : Int) < (n : Int) := ⟨by omega, by omega⟩
  simp only [execOp, hx, hi, Instr.indexAt, asIntOf, pure_pure, bind_assoc, pure_underlying h1, h3, and_self, if_true, pure_size h2, Int.toNat_natCast, add_mk]
  rfl

/-- a[i], a an array behind a pointer. -/
theorem idx_array {t : TypeId} {x i : Operand} {b off n el s : Nat} {k : IntKind} {j : Int} (m : Nat) (hx : vnf (ev e x) = some (.pointer (some ⟨b, off, none⟩))) (hi : vnf (ev e i) = some (.int k j))
    (hu : arrP P t = some (n, el, s)) (hj : j = (m : Int)) (hm : m < n) :
    light P e ⟨d, .indexAddr t x i, ty, pos, af, g⟩ = some (.pointer (some ⟨b, off + m * s, none⟩)) := by
  obtain ⟨h1, h2⟩ := arrP_spec hu
  have hx := vnf_eq hx
  have hi := vnf_eq hi
  subst hj
  refine light_of_pure ?_ rfl
  have h3 : (0 : Int) ≤ (m : Int) ∧ (m : Int) < (n : Int) := ⟨by omega, by omega⟩
  simp only [execOp, hx, hi, Instr.indexAt, asIntOf, Instr.sureAddr, pure_pure, bind_assoc, pure_underlying h1, h3, and_self, if_true, pure_size h2, Int.toNat_natCast, add_mk]
  rfl

theorem idx_slice1 {t : TypeId} {x i : Operand} {b off n c el : Nat} {k : IntKind} {j : Int} (m : Nat) (hx : vnf (ev e x) = some (.slice (some ⟨b, off, none⟩) n c)) (hi : vnf (ev e i) = some (.int k j))
    (hu : slcP P t = some (el, 1)) (hj : j = (m : Int)) (hm : m < n) :
    light P e ⟨d, .indexAddr t x i, ty, pos, af, g⟩ = some (.pointer (some ⟨b, off + m, none⟩)) := by
  have := idx_slice (d := d) (ty := ty) (pos := pos) (af := af) (g := g) m hx hi hu hj hm
  rwa [Nat.mul_one] at this
theorem idx_array1 {t : TypeId} {x i : Operand} {b off n el : Nat} {k : IntKind} {j : Int} (m : Nat) (hx : vnf (ev e x) = some (.pointer (some ⟨b, off, none⟩))) (hi : vnf (ev e i) = some (.int k j))
    (hu : arrP P t = some (n, el, 1)) (hj : j = (m : Int)) (hm : m < n) :
    light P e ⟨d, .indexAddr t x i, ty, pos, af, g⟩ = some (.pointer (some ⟨b, off + m, none⟩)) := by
  have := idx_array (d := d) (ty := ty) (pos := pos) (af := af) (g := g) m hx hi hu hj hm
  rwa [Nat.mul_one] at this

theorem idx_slice0 {t : TypeId} {x i : Operand} {b n c el : Nat} {k : IntKind} {j : Int} (m : Nat) (hx : vnf (ev e x) = some (.slice (some ⟨b, 0, none⟩) n c)) (hi : vnf (ev e i) = some (.int k j))
    (hu : slcP P t = some (el, 1)) (hj : j = (m : Int)) (hm : m < n) :
    light P e ⟨d, .indexAddr t x i, ty, pos, af, g⟩ = some (.pointer (some ⟨b, m, none⟩)) := by
  have := idx_slice1 (d := d) (ty := ty) (pos := pos) (af := af) (g := g) m hx hi hu hj hm
  rwa [Nat.zero_add] at this
theorem idx_array0 {t : TypeId} {x i : Operand} {b n el : Nat} {k : IntKind} {j : Int} (m : Nat) (hx : vnf (ev e x) = some (.pointer (some ⟨b, 0, none⟩))) (hi : vnf (ev e i) = some (.int k j))
    (hu : arrP P t = some (n, el, 1)) (hj : j = (m : Int)) (hm : m < n) :
    light P e ⟨d, .indexAddr t x i, ty, pos, af, g⟩ = some (.pointer (some ⟨b, m, none⟩)) := by
  have := idx_array1 (d := d) (ty := ty) (pos := pos) (af := af) (g := g) m hx hi hu hj hm
  rwa [Nat.zero_add] at this

/-- Where a cut begins: at the end of the capacity nothing moves. -/
def cutAt (off l s c : Nat) : Nat := if c = l then off else off + l * s

theorem Row.cut {w : World} {b off : Nat} {L : List Value} (h : Row w b off L) {l k s c : Nat} (hc : l + k ≤ c) : Row w b (cutAt off l s c) ((L.drop (l * s)).take (k * s)) := by
  unfold cutAt
  by_cases hcl : c = l
  · rw [if_pos hcl]
    have : k = 0 := by omega
    subst this
    simp only [Nat.zero_mul, List.take_zero]
    exact Row.nil w b off
  · rw [if_neg hcl]
    intro j v hv
    rw [List.getElem?_take] at hv
    split at hv
    · rw [List.getElem?_drop] at hv
      rw [Nat.add_assoc]; exact h _ _ hv
    · cases hv

/-- The same for elements of one cell. -/
def cut1 (off l c : Nat) : Nat := if c = l then off else off + l
theorem cut1_eq (off l c : Nat) : cutAt off l 1 c = cut1 off l c := by simp [cutAt, cut1]
theorem Row.cut1 {w : World} {b off : Nat} {L : List Value} (h : Row w b off L) {l k c : Nat} (hc : l + k ≤ c) : Row w b (VV.cut1 off l c) ((L.drop l).take k) := by
  have := h.cut (l := l) (k := k) (s := 1) hc
  rwa [cut1_eq, Nat.mul_one, Nat.mul_one] at this

/-- A bound of a cut, if it stands there. -/
def bnd1 (e : Env) (x : Operand) : Option Int :=
  match vnf (ev e x) with
  | some (.int _ j) => some j
  | _ => none
def bndF (e : Env) : Option Operand → Option (Option Int)
  | none => some none
  | some x => (bnd1 e x).map some

theorem bound_run {x : Operand} {j : Int} {m y : Nat} {code : BoundsCode} (hx : bndF e (some x) = some (some j)) (hj : j = (m : Int)) (hm : m ≤ y) :
    Instr.sliceBound (ev e x) y code = pure m := by
  simp only [bndF, Option.map_eq_some_iff, Option.some.injEq, exists_eq_right] at hx
  unfold bnd1 at hx
  split at hx
  · rename_i h
    simp only [Option.some.injEq] at hx
    subst hx
    have := vnf_eq h
    subst hj
    have h3 : (0 : Int) ≤ (m : Int) ∧ (m : Int) ≤ (y : Int) := ⟨by omega, by omega⟩
    simp [Instr.sliceBound, this, asIntOf, h3]
  · cases hx

theorem bounds_run {isS : Bool} {lo hi : Option Operand} {n c : Nat} {jl jh : Option Int} (l h : Nat)
    (hlo : bndF e lo = some jl) (hhi : bndF e hi = some jh) (hl : jl.getD 0 = (l : Int)) (hh : jh.getD n = (h : Int)) (h1 : l ≤ h) (h2 : h ≤ c) :
    Instr.sliceBounds isS n c (lo.map (ev e)) (hi.map (ev e)) none = pure (l, h, c) := by
  have bn : ∀ (x : Operand), bndF e (some x) ≠ some none := fun x hx => by
    simp [bndF] at hx
  have fin : ∀ (f : BoundsCode → Sem Nat), (∀ code, f code = (pure h : Sem Nat)) → ∀ cd, ((f cd >>= fun h' => (match lo.map (ev e) with
      | some v => Instr.sliceBound v h' .sliceB
      | none => (pure 0 : Sem Nat)) >>= fun l => pure (l, h', c)) : Sem (Nat × Nat × Nat)) = pure (l, h, c) := by
    intro f hf cd
    rw [hf]
    simp only [pure_bind]
    cases lo with
    | none =>
      cases hlo
      simp only [Option.getD_none] at hl
      have : l = 0 := by omega
      subst this
      rfl
    | some y =>
      cases jl with
      | none => exact absurd hlo (bn y)
      | some j =>
        simp only [Option.map_some]
        rw [bound_run hlo (by simpa using hl) h1]
        rfl
  cases hi with
  | none =>
    cases hhi
    simp only [Option.getD_none] at hh
    have hnh : n = h := by omega
    subst hnh
    have := fin (fun _ => pure n) (fun _ => rfl) .index
    cases lo <;> (simp only [Instr.sliceBounds] ; exact this)
  | some y =>
    cases jh with
    | none => exact absurd hhi (bn y)
    | some j =>
      have := fin (fun cd => Instr.sliceBound (ev e y) c cd) (fun cd => bound_run hhi (by simpa using hh) h2) (if isS then .sliceAcap else .sliceAlen)
      cases lo <;> (simp only [Instr.sliceBounds] ; exact this)

/-- s[l:h], s a slice (a bound that isn't written: 0, or the length). -/
theorem cut_slice {t : TypeId} {x : Operand} {lo hi : Option Operand} {b off n c el s : Nat} {jl jh : Option Int} (l h : Nat) (hx : vnf (ev e x) = some (.slice (some ⟨b, off, none⟩) n c))
    (hu : slcP P t = some (el, s)) (hlo : bndF e lo = some jl) (hhi : bndF e hi = some jh) (hl : jl.getD 0 = (l : Int)) (hh : jh.getD n = (h : Int)) (h1 : l ≤ h) (h2 : h ≤ c) :
    light P e ⟨d, .slice t x lo hi none, ty, pos, af, g⟩ = some (.slice (some ⟨b, cutAt off l s c, none⟩) (h - l) (c - l)) := by
  obtain ⟨g1, g2⟩ := slcP_spec hu
  have hx := vnf_eq hx
  refine light_of_pure ?_ rfl
  have hb := bounds_run (isS := true) l h hlo hhi hl hh h1 h2
  simp only [execOp, hx, Instr.sliceAt, Instr.slice, bind_assoc, pure_underlying g1, Option.map_none, hb, pure_pure, pure_size g2]
  unfold cutAt
  by_cases hcl : c = l
  · simp only [hcl, if_true]; rfl
  · simp only [hcl, if_false, Option.map_some, add_mk]; rfl

/-- a[l:h], a an array behind a pointer. -/
theorem cut_array {t : TypeId} {x : Operand} {lo hi : Option Operand} {b off n el s : Nat} {jl jh : Option Int} (l h : Nat) (hx : vnf (ev e x) = some (.pointer (some ⟨b, off, none⟩)))
    (hu : arrP P t = some (n, el, s)) (hlo : bndF e lo = some jl) (hhi : bndF e hi = some jh) (hl : jl.getD 0 = (l : Int)) (hh : jh.getD n = (h : Int)) (h1 : l ≤ h) (h2 : h ≤ n) :
    light P e ⟨d, .slice t x lo hi none, ty, pos, af, g⟩ = some (.slice (some ⟨b, cutAt off l s n, none⟩) (h - l) (n - l)) := by
  obtain ⟨g1, g2⟩ := arrP_spec hu
  have hx := vnf_eq hx
  refine light_of_pure ?_ rfl
  have hb := bounds_run (isS := false) l h hlo hhi hl hh h1 h2
  simp only [execOp, hx, Instr.sliceAt, Instr.sureAddr, bind_assoc, pure_pure, pure_underlying g1, Option.map_none, hb, pure_size g2]
  unfold cutAt
  by_cases hcl : n = l
  · simp only [hcl, if_true]; rfl
  · simp only [hcl, if_false, add_mk]; rfl

theorem cut_slice1 {t : TypeId} {x : Operand} {lo hi : Option Operand} {b off n c el : Nat} {jl jh : Option Int} (l h : Nat) (hx : vnf (ev e x) = some (.slice (some ⟨b, off, none⟩) n c))
    (hu : slcP P t = some (el, 1)) (hlo : bndF e lo = some jl) (hhi : bndF e hi = some jh) (hl : jl.getD 0 = (l : Int)) (hh : jh.getD n = (h : Int)) (h1 : l ≤ h) (h2 : h ≤ c) :
    light P e ⟨d, .slice t x lo hi none, ty, pos, af, g⟩ = some (.slice (some ⟨b, cut1 off l c, none⟩) (h - l) (c - l)) := by
  have := cut_slice (d := d) (ty := ty) (pos := pos) (af := af) (g := g) l h hx hu hlo hhi hl hh h1 h2
  rwa [cut1_eq] at this
theorem cut_array1 {t : TypeId} {x : Operand} {lo hi : Option Operand} {b off n el : Nat} {jl jh : Option Int} (l h : Nat) (hx : vnf (ev e x) = some (.pointer (some ⟨b, off, none⟩)))
    (hu : arrP P t = some (n, el, 1)) (hlo : bndF e lo = some jl) (hhi : bndF e hi = some jh) (hl : jl.getD 0 = (l : Int)) (hh : jh.getD n = (h : Int)) (h1 : l ≤ h) (h2 : h ≤ n) :
    light P e ⟨d, .slice t x lo hi none, ty, pos, af, g⟩ = some (.slice (some ⟨b, cut1 off l n, none⟩) (h - l) (n - l)) := by
  have := cut_array (d := d) (ty := ty) (pos := pos) (af := af) (g := g) l h hx hu hlo hhi hl hh h1 h2
  rwa [cut1_eq] at this

/-! ### a slice of the call's own, that is appended to -/
/-- The slice 'v' holds 'n' elements of 's' cells each, the cells 'xs'; its memory is the entries 'G'. -/
inductive Vec (T s : Nat) : Value → Nat → List Value → Heap → Prop
  | nil : Vec T s (.slice none 0 0) 0 [] []
  | row (b n cap : Nat) (xs sp : List Value) (hn : xs.length = n * s) (hc : (xs ++ sp).length = cap * s) (hm : cap ≤ maxLen) (hle : n ≤ cap) : Vec T s (.slice (some ⟨b, 0, none⟩) n cap) n xs [(b, blk (xs ++ sp) T)]

theorem Vec.len {T s : Nat} {v : Value} {n : Nat} {xs : List Value} {G : Heap} (h : Vec T s v n xs G) : xs.length = n * s := by
  cases h with
  | nil => simp
  | row _ _ _ _ _ hn => exact hn

theorem Vec.slice {T s : Nat} {v : Value} {n : Nat} {xs : List Value} {G : Heap} (h : Vec T s v n xs G) : ∃ a c, v = .slice a n c := by
  cases h with
  | nil => exact ⟨_, _, rfl⟩
  | row _ _ _ _ _ _ _ _ _ => exact ⟨_, _, rfl⟩

/-- What is readable as m elements of s cells each. -/
inductive Src (w : World) (s : Nat) : Value → Nat → List Value → Prop
  | row (b off m c : Nat) (xs : List Value) (hn : xs.length = m * s) (hr : Row w b off xs) : Src w s (.slice (some ⟨b, off, none⟩) m c) m xs

theorem Vec.owns {T s : Nat} {v : Value} {n : Nat} {xs : List Value} {G : Heap} (h : Vec T s v n xs G) {w0 w : World} {ms : List Nat} {R : Heap} (hw : St w0 ms (G ++ R) w) : w.ownsRow 0 T s v n xs := by
  cases h with
  | nil => exact ⟨by simp, .inl ⟨rfl, rfl⟩⟩
  | row b n cap xs sp hn hc hm hle =>
    refine ⟨hn, .inr ⟨b, cap, (xs ++ sp).toArray, rfl, Nat.zero_le _, hw.own_blk (by simp), hle, hm, by simpa using hc, ?_⟩⟩
    simp [← hn]

theorem Vec.of_owns {T s : Nat} {v : Value} {n : Nat} {xs : List Value} {w : World} (h : w.ownsRow 0 T s v n xs) :
    ∃ G, Vec T s v n xs G ∧ (∀ x ∈ G, w.heap[x.1]? = some x.2) ∧ (∀ x ∈ G, v.ownBlock = some x.1) ∧ (G.map (·.1)).Nodup := by
  obtain ⟨h1, h2⟩ := h
  rcases h2 with ⟨rfl, rfl⟩ | ⟨b, cap, cur, rfl, _, hb, hle, hm, hc, ht⟩
  · have : xs = [] := List.eq_nil_of_length_eq_zero (by simpa using h1)
    subst this
    exact ⟨[], .nil, by simp, by simp, by simp⟩
  · refine ⟨_, .row b n cap xs (cur.toList.drop (n * s)) h1 ?_ hm hle, ?_, ?_, by simp⟩
    · rw [← ht, List.take_append_drop]; simpa using hc
    · intro x hx
      simp only [List.mem_singleton] at hx
      subst hx
      rw [hb]
      simp only [blk]
      congr 2
      rw [← ht, List.take_append_drop]
    · intro x hx
      simp only [List.mem_singleton] at hx
      subst hx; rfl

def appP (P : Program) (t : TypeId) : Option (Nat × Nat × Nat) :=
  match P.underlying t with
  | some (.slice el) => match P.info? el with
    | some i => match i.zero with
      | some z => if z.cells.size = i.size ∧ 0 < i.size then some (el, i.size, i.bytes) else none
      | none => none
    | none => none
  | _ => none

theorem append_block (w : World) (t ty el : TypeId) (i : TypeInfo) (z : Value) (hu : P.underlying t = some (.slice el)) (hi : P.info? el = some i) (hz : i.zero = some z) (v : Value) (n : Nat) (xs : List Value)
    (hown : w.ownsRow 0 el i.size v n xs) (b off m c : Nat) (ys : List Value) (hn : ys.length = m * i.size) (hr : ∀ j u, ys[j]? = some u → w.cell? ((⟨b, off, none⟩ : Addr).add j) = some u) (h1 : ∀ u ∈ ys, u.oneCell' = true)
    (h63 : n + m ≤ maxLen) (hbytes : (n + m) * i.bytes ≤ 140737488355328) {v' : Value} {w' : World}
    (hrun : (Builtin.append_ #[t, t] ty #[v, .slice (some ⟨b, off, none⟩) m c]).run P w = .ok v' w') :
    v'.ownBlock = v.ownBlock ∨ v'.ownBlock = some w.heap.size := by
  have hsm : n + m ≤ 9223372036854775807 := by unfold maxLen at h63; omega
  obtain ⟨hx, h2⟩ := hown
  rcases h2 with ⟨rfl, rfl⟩ | ⟨g, cap, cur, rfl, _, hg, hle, hm, hcs, htake⟩
  · by_cases hm0 : m = 0
    · subst hm0
      have hys : ys = [] := List.eq_nil_of_length_eq_zero (by simpa using hn)
      subst hys
      have hr0 : (Builtin.append_ #[t, t] ty #[.slice none 0 0, .slice (some ⟨b, off, none⟩) 0 c]).run P w = .ok (.slice none 0 0) w := by
        simp [Builtin.append_, run_underlying hu, sizeOf, typeInfo, hi, Builtin.lenOf, Builtin.firstCells, loadCells, loadCellsFrom]
      rw [hr0] at hrun
      cases hrun
      exact .inl rfl
    · have h3 := run_append_nil (P := P) w t ty el i z hu hi hz ⟨b, off, none⟩ m c ys hn hr (by omega) (by omega) (by simp only [Nat.zero_add] at hbytes; omega)
      rw [h3] at hrun
      cases hrun
      exact .inr rfl
  · by_cases hroom : n + m ≤ cap
    · have hfit : n * i.size + ys.length ≤ cur.size := by rw [hn, hcs, ← Nat.add_mul]; exact Nat.mul_le_mul_right _ hroom
      have h3 := run_append_room (P := P) w t ty el i hu hi g n cap cur hg ⟨b, off, none⟩ m c ys hn hr h1 hroom hfit
      rw [h3] at hrun
      cases hrun
      exact .inl rfl
    · have holds : ∀ j u, xs[j]? = some u → w.cell? ((⟨g, 0, none⟩ : Addr).add j) = some u := World.ownsRow.cells ⟨hx, .inr ⟨g, cap, cur, rfl, Nat.zero_le _, hg, hle, hm, hcs, htake⟩⟩ rfl
      have h3 := run_append_grow (P := P) w t ty el i z hu hi hz ⟨g, 0, none⟩ n cap xs hx holds ⟨b, off, none⟩ m c ys hn hr (by omega) (by omega) (growslice_fits (by omega) hbytes)
      rw [h3] at hrun
      cases hrun
      exact .inr rfl

theorem x_append {t : TypeId} {x y : Operand} {T s by_ : Nat} {v u : Value} {n m : Nat} {xs ys : List Value} {G A R : Heap} {ts : Array TypeId}
    (hx : ev e x = v) (hy : ev e y = u) (hts : ts = #[t, t]) (hp : appP Γ.P t = some (T, s, by_)) (hv : Vec T s v n xs G)
    (hs : ∀ w, St Γ.w0 Γ.ms (A ++ (G ++ R)) w → Src w s u m ys) (h1 : ones ys = true) (hlen : n + m ≤ 140737488355328) (hb : (n + m) * by_ ≤ 140737488355328) :
    Op1 Γ ⟨d, .call ⟨.builtin .append, #[x, y], ts⟩, ty, pos, af, g⟩ e (A ++ (G ++ R)) (fun v' H' => ∃ G', Vec T s v' (n + m) (xs ++ ys) G' ∧ (v' = .slice none 0 0 → n = 0 ∧ m = 0) ∧ H' = G' ++ (A ++ R)) := by
  intro w hw
  subst hts hx hy
  unfold appP at hp
  split at hp <;> try cases hp
  rename_i el hu
  split at hp <;> try cases hp
  rename_i i hi
  split at hp <;> try cases hp
  rename_i z hz
  split at hp <;> try cases hp
  rename_i hzs
  obtain ⟨hz1, hz2⟩ := hzs
  have hw2 : St Γ.w0 Γ.ms (G ++ (A ++ R)) w := hw.perm (by
    rw [← List.append_assoc, ← List.append_assoc]
    exact List.Perm.append_right R List.perm_append_comm)
  have hs' := hs w hw
  generalize hue : ev e y = u at hs'
  generalize hve : ev e x = v at hv
  cases hs' with
  | row b off m c ys hn hr =>
    have hown := hv.owns hw2
    obtain ⟨v', w', hrun, hown', hgr, hnil⟩ := run_append_own (P := Γ.P) w 0 t ty T i z i.size i.bytes hu hi hz rfl rfl hz1 hz2 v n xs hown ⟨b, off, none⟩ m c ys hn hr.add (by simpa [ones] using h1) (by unfold maxLen; omega) (by omega) (Nat.zero_le _)
    obtain ⟨G', hV', hG', hGo, hGn⟩ := Vec.of_owns hown'
    have hnd := hw2.nodup
    rw [List.map_append, List.nodup_append] at hnd
    obtain ⟨hnG, hnR, hGR⟩ := hnd
    have hvb : ∀ k, v.ownBlock = some k → ∃ o, (k, o) ∈ G := by
      intro k hk
      cases hv with
      | nil => cases hk
      | row b2 _ cap2 _ sp2 _ _ _ _ =>
        simp only [Value.ownBlock, Option.some.injEq] at hk
        subst hk
        exact ⟨blk (xs ++ sp2) T, by simp⟩
    have hkeep : ∀ k, k < w.heap.size → (∀ o, (k, o) ∉ G) → w'.heap[k]? = w.heap[k]? := fun k hk hno => hgr.block k hk (fun he => by
      obtain ⟨o, ho⟩ := hvb k he.symm
      exact hno o ho)
    -- the new row is the old one's block, or a new block
    have hnew : ∀ x ∈ G', (∃ o, (x.1, o) ∈ G) ∨ w.heap.size ≤ x.1 := by
      intro x hx
      have h3 := hGo x hx
      have h4 := hG' x hx
      by_cases hlt : x.1 < w.heap.size
      · by_cases hno : ∃ o, (x.1, o) ∈ G
        · exact .inl hno
        · exfalso
          rcases append_block (P := Γ.P) w t ty T i z hu hi hz v n xs hown b off m c ys hn hr.add (by simpa [ones] using h1) (by unfold maxLen; omega) (by omega) hrun with hc | hc
          · rw [hc] at h3
            exact hno (hvb _ h3)
          · rw [hc] at h3; simp only [Option.some.injEq] at h3; omega
      · exact .inr (by omega)
    have hA : St Γ.w0 Γ.ms (G' ++ (A ++ R)) w' := by
      refine ⟨hgr.os.trans hw2.os, hgr.tape.trans hw2.tape, hgr.output.trans hw2.output, Nat.le_trans hw2.size hgr.size, ?_, ?_, ?_, ?_⟩
      · intro k hk hm2
        have hsz := hw2.size
        rw [hkeep k (by omega) ?_]
        · exact hw2.block k hk hm2
        · intro o ho
          rcases hw2.own (k, o) (by simp [ho]) with h7 | h7
          · exact hm2 h7
          · simp at h7; omega
      · rw [List.map_append, List.nodup_append]
        refine ⟨hGn, hnR, ?_⟩
        intro a ha b2 hb2 hab
        obtain ⟨x, hx, rfl⟩ := List.mem_map.1 ha
        obtain ⟨y2, hy2, rfl⟩ := List.mem_map.1 hb2
        rcases hnew x hx with ⟨o, ho⟩ | h8
        · exact hGR _ (List.mem_map.2 ⟨_, ho, rfl⟩) _ (List.mem_map.2 ⟨y2, hy2, rfl⟩) hab
        · have := hw2.lt (x := y2) (by simp only [List.mem_append] at hy2 ⊢; exact .inr hy2)
          omega
      · intro x hx
        rcases List.mem_append.1 hx with hx | hx
        · rcases hnew x hx with ⟨o, ho⟩ | h8
          · exact hw2.own (x.1, o) (by simp [ho])
          · have := hw2.size; exact .inr (by omega)
        · exact hw2.own x (List.mem_append.2 (.inr hx))
      · intro x hx
        rcases List.mem_append.1 hx with hx | hx
        · exact hG' x hx
        · rw [hkeep x.1 (hw2.lt (List.mem_append.2 (.inr hx))) ?_]
          · exact hw2.holds x (List.mem_append.2 (.inr hx))
          · intro o ho
            exact hGR _ (List.mem_map.2 ⟨_, ho, rfl⟩) _ (List.mem_map.2 ⟨x, hx, rfl⟩) rfl
    refine opW_run (v := v') (w' := w') ?_ ⟨_, hA, G', hV', fun h9 => ?_, rfl⟩
    · simp only [execOp, resolve, Sem.run_bind, Sem.run_pure, Result.andThen_ok, invoke, builtin, List.map_toArray, List.map_cons, List.map_nil, hue, hve, hrun]
    · obtain ⟨h10, h11⟩ := hnil.1 h9
      subst h10
      cases hv
      exact ⟨rfl, h11⟩

end
end Go.VV
