/- Numbers: what wraps round, bits, bytes. Plain lemmas; no program. -/
import Derived.Laws.CopyRow
import Derived.Laws.OwnMore
import Derived.Laws.Rows
import Derived.Test.YtldehodcfajpjaaGreatQcA
set_option linter.unusedSimpArgs false
set_option linter.unusedVariables false
set_option maxRecDepth 100000
namespace Go.VV
open Go Go.RowKit
abbrev blk (l : List Value) (t : TypeId) : Obj := .cells l.toArray t (0, 0)
def cellsF : Value → Option (List Value)
 | .agg ⟨l⟩ => some l
 | .bool b => some [.bool b]
 | .int k n => some [.int k n]
 | .string s => some [.string s]
 | .pointer a => some [.pointer a]
 | .slice a n c => some [.slice a n c]
 | .map r => some [.map r]
 | .func f a b => some [.func f a b]
 | .nilFunc => some [.nilFunc]
 | .iface t v => some [.iface t v]
 | .nilIface => some [.nilIface]
 | _ => none
theorem cellsF_eq {v : Value} {l : List Value} (h : cellsF v = some l) : v.cells = l.toArray := by
 cases v <;> simp [cellsF] at h <;> subst h <;> simp [Value.cells]
def ones (l : List Value) : Bool := l.all (·.oneCell')
def scalarB (P : Program) (t : TypeId) : Bool :=
 match P.underlying t with
 | some (.struct _) => false
 | some (.array _ _) => false
 | some _ => true
 | none => false
def aggB (P : Program) (t : TypeId) : Bool :=
 match P.underlying t with
 | some (.struct _) => true
 | some (.array _ _) => true
 | _ => false
def sizeP (P : Program) (t : TypeId) : Option Nat := (P.info? t).map (·.size)
theorem run_isAgg_s {P : Program} {t : TypeId} (h : scalarB P t = true) (w : World) : (isAgg t).run P w = .ok false w := by
 unfold scalarB at h
 unfold isAgg
 rw [Sem.run_bind]
 split at h
 ·cases h
 ·cases h
 ·rename_i d hd1 hd2 hd
  rw [run_underlying hd w]
  simp only [Result.andThen_ok]
  cases d <;> first | rfl | (exfalso; exact hd1 _ rfl) | (exfalso; exact hd2 _ _ rfl)
 ·cases h
theorem run_isAgg_a {P : Program} {t : TypeId} (h : aggB P t = true) (w : World) : (isAgg t).run P w = .ok true w := by
 unfold aggB at h
 unfold isAgg
 rw [Sem.run_bind]
 split at h
 ·rename_i hd; rw [run_underlying hd w]; rfl
 ·rename_i hd; rw [run_underlying hd w]; rfl
 ·cases h
theorem run_sizeOf {P : Program} {t : TypeId} {n : Nat} (h : sizeP P t = some n) (w : World) : (sizeOf t).run P w = .ok n w := by
 unfold sizeP at h
 cases hq : P.info? t with
 | none => simp [hq] at h
 | some i =>
  have : i.size = n := by simpa [hq] using h
  simp [sizeOf, typeInfo, hq, this]
theorem cell_blk {w : World} {b off : Nat} {cs : Array Value} {t : TypeId} {fr : Nat × Nat} (h : w.heap[b]? = some (.cells cs t fr)) : w.cell? ⟨b, off, none⟩ = cs[off]? := by
 simp [World.cell?, h]
def Row (w : World) (b off : Nat) (l : List Value) : Prop := ∀ j v, l[j]? = some v → w.cell? ⟨b, off + j, none⟩ = some v
theorem Row.of_blk {w : World} {b off : Nat} {cs : Array Value} {t : TypeId} {fr : Nat × Nat} {l : List Value} (h : w.heap[b]? = some (.cells cs t fr)) (hl : ∀ j v, l[j]? = some v → cs[off + j]? = some v) : Row w b off l :=
 fun j v hv => by rw [cell_blk h]; exact hl j v hv
theorem Row.all {w : World} {b : Nat} {l : List Value} {t : TypeId} {fr : Nat × Nat} (h : w.heap[b]? = some (.cells l.toArray t fr)) : Row w b 0 l :=
 Row.of_blk h fun j v hv => by simpa using hv
theorem Row.nil (w : World) (b off : Nat) : Row w b off [] := fun _ _ h => by simp at h
theorem Row.add {w : World} {b off : Nat} {l : List Value} (h : Row w b off l) (j : Nat) (v : Value) (hv : l[j]? = some v) : w.cell? ((⟨b, off, none⟩ : Addr).add j) = some v := by
 have hadd : (⟨b, off, none⟩ : Addr).add j = ⟨b, off + j, none⟩ := by unfold Addr.add; split <;> simp_all
 rw [hadd]; exact h j v hv
section
variable {Γ : Ctx} {e : Env} {H : Heap} {d : Option Nat} {ty : TypeId} {pos : String} {af : Array Edge} {g : Option (Nat × Bool)}
def Op1 (Γ : Ctx) (o : Oper) (e : Env) (H : Heap) (K : Value → Heap → Prop) : Prop :=
 ∀ w, St Γ.w0 Γ.ms H w → opW Γ.P o e w (fun v w' => ∃ H', St Γ.w0 Γ.ms H' w' ∧ K v H')
theorem St.own_blk {w0 w : World} {ms : List Nat} {H : Heap} (h : St w0 ms H w) {b : Nat} {o : Obj} (hm : (b, o) ∈ H) : w.heap[b]? = some o := h.holds _ hm
theorem x_box {t : TypeId} {x : Operand} {v : Value} {l : List Value} (hx : vnf (ev e x) = some v) (hl : cellsF v = some l) :
  Op1 Γ ⟨d, .box t x, ty, pos, af, g⟩ e H (fun u H' => ∃ b, u = .pointer (some ⟨b, 0, none⟩) ∧ H' = (b, blk l t) :: H) := by
 intro w hw
 refine opW_run (v := .pointer (some ⟨w.heap.size, 0, none⟩)) (w' := w.alloc (blk l t)) ?_ ⟨_, hw.alloc _, _, rfl, rfl⟩
 simp [execOp, Instr.box, newVar, newRow, newObj, vnf_eq hx, cellsF_eq hl]
 rfl
def zeroP (P : Program) (t : TypeId) : Option (List Value) :=
 match P.info? t with
 | some i => match i.zero with
  | some z => cellsF z
  | none => none
 | none => none
theorem run_zero {P : Program} {t : TypeId} {l : List Value} (h : zeroP P t = some l) (w : World) : ∃ z, (zeroValue t).run P w = .ok z w ∧ z.cells = l.toArray := by
 unfold zeroP at h
 split at h
 ·rename_i i hi
  split at h
  ·rename_i z hz
   exact ⟨z, by simp [zeroValue, typeInfo, hi, hz], cellsF_eq h⟩
  ·cases h
 ·cases h
theorem x_alloc {t : TypeId} {l : List Value} (hl : zeroP Γ.P t = some l) :
  Op1 Γ ⟨d, .alloc t, ty, pos, af, g⟩ e H (fun u H' => ∃ b, u = .pointer (some ⟨b, 0, none⟩) ∧ H' = (b, blk l t) :: H) := by
 intro w hw
 obtain ⟨z, hz, hc⟩ := run_zero hl w
 refine opW_run (v := .pointer (some ⟨w.heap.size, 0, none⟩)) (w' := w.alloc (blk l t)) ?_ ⟨_, hw.alloc _, _, rfl, rfl⟩
 simp [execOp, Instr.alloc, Sem.run_bind, hz, newVar, newRow, newObj, hc]
 rfl
theorem run_load {P : Program} {t : TypeId} {x : Operand} {b off : Nat} {v : Value} (hx : vnf (ev e x) = some (.pointer (some ⟨b, off, none⟩))) (hs : scalarB P t = true) {w : World}
  (hc : w.cell? ⟨b, off, none⟩ = some v) : (execOp (ev e) ⟨d, .load t x, ty, pos, af, g⟩).run P w = .ok (.value v) w := by
 have hx := vnf_eq hx
 simp [execOp, Instr.loadAt, Instr.sureAddr, hx, loadVar, Sem.run_bind, run_isAgg_s hs, load, Sem.run, hc]
theorem x_load {t : TypeId} {x : Operand} {b off : Nat} {v : Value} (hx : vnf (ev e x) = some (.pointer (some ⟨b, off, none⟩))) (hs : scalarB Γ.P t = true)
  (hc : ∀ w, St Γ.w0 Γ.ms H w → w.cell? ⟨b, off, none⟩ = some v) : Op1 Γ ⟨d, .load t x, ty, pos, af, g⟩ e H (fun u H' => u = v ∧ H' = H) :=
 fun w hw => opW_run (run_load hx hs (hc w hw)) ⟨H, hw, rfl, rfl⟩
theorem run_loadA {P : Program} {t : TypeId} {x : Operand} {b off : Nat} {l : List Value} (hx : vnf (ev e x) = some (.pointer (some ⟨b, off, none⟩))) (hs : aggB P t = true) (hn : sizeP P t = some l.length) {w : World}
  (hc : Row w b off l) : (execOp (ev e) ⟨d, .load t x, ty, pos, af, g⟩).run P w = .ok (.value (.agg l.toArray)) w := by
 have hx := vnf_eq hx
 have hl := run_loadCells_list (P := P) w ⟨b, off, none⟩ l hc.add
 simp [execOp, Instr.loadAt, Instr.sureAddr, hx, loadVar, Sem.run_bind, run_isAgg_a hs, run_sizeOf hn, hl]
theorem x_loadA {t : TypeId} {x : Operand} {b off : Nat} {l : List Value} (hx : vnf (ev e x) = some (.pointer (some ⟨b, off, none⟩))) (hs : aggB Γ.P t = true) (hn : sizeP Γ.P t = some l.length)
  (hc : ∀ w, St Γ.w0 Γ.ms H w → Row w b off l) : Op1 Γ ⟨d, .load t x, ty, pos, af, g⟩ e H (fun u H' => u = .agg l.toArray ∧ H' = H) :=
 fun w hw => opW_run (run_loadA hx hs hn (hc w hw)) ⟨H, hw, rfl, rfl⟩
theorem at_own {w0 : World} {ms : List Nat} {b : Nat} {l : List Value} {t : TypeId} {fr : Nat × Nat} {off : Nat} {v : Value} (hm : (b, Obj.cells l.toArray t fr) ∈ H) (hv : l[off]? = some v) :
  ∀ w, St w0 ms H w → w.cell? ⟨b, off, none⟩ = some v := fun w hw => by rw [cell_blk (hw.own_blk hm)]; simpa using hv
theorem at_old {w0 : World} {ms : List Nat} {b off : Nat} {v : Value} (hc : w0.cell? ⟨b, off, none⟩ = some v) (hb : b ∉ ms) : ∀ w, St w0 ms H w → w.cell? ⟨b, off, none⟩ = some v := fun w hw => by
 unfold World.cell? at hc ⊢
 simp only at hc ⊢
 cases hq : w0.heap[b]? with
 | none => simp [hq] at hc
 | some o => rw [hw.old hq hb]; rw [hq] at hc; exact hc
theorem row_own {w0 : World} {ms : List Nat} {b : Nat} {l : List Value} {t : TypeId} {fr : Nat × Nat} (hm : (b, Obj.cells l.toArray t fr) ∈ H) : ∀ w, St w0 ms H w → Row w b 0 l := fun _ hw => Row.all (hw.own_blk hm)
theorem row_old {w0 : World} {ms : List Nat} {b off : Nat} {l : List Value} (hr : Row w0 b off l) (hb : b ∉ ms) : ∀ w, St w0 ms H w → Row w b off l := fun _ hw j v hv => at_old (hr j v hv) hb _ hw
def putL (l : List Value) (off : Nat) (vs : List Value) : List Value := l.take off ++ vs ++ l.drop (off + vs.length)
theorem St.setAt {w0 w w' : World} {ms : List Nat} {H : Heap} {i b : Nat} {o o' : Obj} (h : St w0 ms H w) (hi : H[i]? = some (b, o))
  (h1 : w'.os = w.os) (h2 : w'.tape = w.tape) (h3 : w'.output = w.output) (h4 : w'.heap.size = w.heap.size)
  (h5 : ∀ k, k ≠ b → w'.heap[k]? = w.heap[k]?) (h6 : w'.heap[b]? = some o') : St w0 ms (H.set i (b, o')) w' := by
 have hlt : i < H.length := (List.getElem?_eq_some_iff.1 hi).1
 have hget : H[i] = (b, o) := (List.getElem?_eq_some_iff.1 hi).2
 have hsplit : H = H.take i ++ (b, o) :: H.drop (i + 1) := by
  rw [← hget, List.getElem_cons_drop, List.take_append_drop]
 have hset : H.set i (b, o') = H.take i ++ (b, o') :: H.drop (i + 1) := by
  rw [List.set_eq_take_append_cons_drop, if_pos hlt]
 rw [hset]
 have h' : St w0 ms ((b, o) :: (H.take i ++ H.drop (i + 1))) w := h.perm (by
  conv => lhs; rw [hsplit]
  exact List.perm_middle)
 exact (h'.turn h1 h2 h3 h4 h5 h6).perm List.perm_middle.symm
theorem x_store {t : TypeId} {x y : Operand} {b off : Nat} {v : Value} {vs l : List Value} {T : TypeId} (i : Nat)
  (hx : vnf (ev e x) = some (.pointer (some ⟨b, off, none⟩))) (hy : vnf (ev e y) = some v) (hv : cellsF v = some vs) (hn : sizeP Γ.P t = some vs.length) (h1 : ones vs = true)
  (hi : H[i]? = some (b, blk l T)) (hl : off + vs.length ≤ l.length) :
  Op1 Γ ⟨d, .store t x y, ty, pos, af, g⟩ e H (fun u H' => u = undef ∧ H' = H.set i (b, blk (putL l off vs) T)) := by
 intro w hw
 have hx := vnf_eq hx
 have hy := vnf_eq hy
 have hg : w.heap[b]? = some (blk l T) := hw.own_blk (List.mem_of_getElem? hi)
 have hst := run_storeCells_at Γ.P b off T vs 0 l.toArray w hg (by simpa using hl) (by simpa [ones] using h1)
 simp only [Nat.add_zero] at hst
 have hc := cellsF_eq hv
 refine opW_skip (w' := w.setRow b (putL l off vs).toArray) ?_ ⟨_, ?_, rfl, rfl⟩
 ·simp [execOp, Instr.storeAt, Instr.sureAddr, hx, hy, storeVar, Sem.run_bind, run_sizeOf hn, hc, hst, putL]
 ·exact hw.setAt hi rfl rfl rfl (by simp [World.setRow]) (fun k hk => setRow_other w b k _ hk) (setRow_heap w b _ _ T _ hg)
theorem x_buildSlice {t el : TypeId} {len n : Nat} {parts : Array (Nat × Operand)} {ps : List (Nat × Value)} {l : List Value} {z : List Value}
  (hu : Γ.P.underlying t = some (.slice el)) (hp : (parts.map fun (i, x) => (i, ev e x)).toList = ps) (hn : sizeP Γ.P el = some n) (hsm : Nat.ble (len * n) 16777216 = true) (hpos : Nat.ble 1 (len * n) = true)
  (hz : zeroP Γ.P el = some z)
  (hf : Instr.fill (fun i => some (i * n, n)) ((Array.range (len * n)).map (z.toArray[· % z.toArray.size]!)) ps = some l.toArray) :
  Op1 Γ ⟨d, .buildSlice t len parts, ty, pos, af, g⟩ e H (fun u H' => ∃ b, u = .slice (some ⟨b, 0, none⟩) len len ∧ H' = (b, blk l el) :: H) := by
 intro w hw
 have h2 : ¬ len * n = 0 := by have := Nat.le_of_ble_eq_true hpos; omega
 have h3 : ¬ len * n > 2 ^ 24 := by have := Nat.le_of_ble_eq_true hsm; omega
 obtain ⟨zv, hzv, hzc⟩ := run_zero hz w
 refine opW_run (v := .slice (some ⟨w.heap.size, 0, none⟩) len len) (w' := w.alloc (blk l el)) ?_ ⟨_, hw.alloc _, _, rfl, rfl⟩
 subst hp
 have key : (Instr.buildSlice t len (parts.map fun (i, x) => (i, ev e x))).run Γ.P w = .ok (.slice (some ⟨w.heap.size, 0, none⟩) len len) (w.alloc (blk l el)) := by
  unfold Instr.buildSlice
  simp only [Sem.run_bind, run_underlying hu, run_sizeOf hn, Result.andThen_ok, h2, h3, if_false, hzv, hzc, hf, Sem.run_pure]
  rfl
 simp only [execOp, Sem.run_bind, key, Result.andThen_ok, Sem.run_pure]
end
section
variable {P : Program} {Γ : Ctx} {e : Env} {H : Heap} {d : Option Nat} {ty : TypeId} {pos : String} {af : Array Edge} {g : Option (Nat × Bool)}
def slcP (P : Program) (t : TypeId) : Option (Nat × Nat) :=
 match P.underlying t with
 | some (.slice el) => match sizeP P el with
  | some s => some (el, s)
  | none => none
 | _ => none
def arrP (P : Program) (t : TypeId) : Option (Nat × Nat × Nat) :=
 match P.underlying t with
 | some (.array n el) => match sizeP P el with
  | some s => some (n, el, s)
  | none => none
 | _ => none
theorem slcP_spec {t el s : Nat} (h : slcP P t = some (el, s)) : P.underlying t = some (.slice el) ∧ sizeP P el = some s := by
 unfold slcP at h
 split at h
 ·rename_i el' hu
  split at h
  ·rename_i s' hs; cases h; exact ⟨hu, hs⟩
  ·cases h
 ·cases h
theorem arrP_spec {t n el s : Nat} (h : arrP P t = some (n, el, s)) : P.underlying t = some (.array n el) ∧ sizeP P el = some s := by
 unfold arrP at h
 split at h
 ·rename_i n' el' hu
  split at h
  ·rename_i s' hs; cases h; exact ⟨hu, hs⟩
  ·cases h
 ·cases h
theorem add_mk (b off k : Nat) : (⟨b, off, none⟩ : Addr).add k = ⟨b, off + k, none⟩ := by unfold Addr.add; split <;> simp_all
theorem pure_underlying {α : Type} {t : TypeId} {D : TypeDesc} (h : P.underlying t = some D) (f : TypeDesc → Sem α) : pureOf P (underlying t >>= f) = pureOf P (f D) := by
 simp [underlying, program, bind, Sem.bind, pureOf, h, pure]
theorem pure_size {α : Type} {t n : Nat} (h : sizeP P t = some n) (f : Nat → Sem α) : pureOf P (sizeOf t >>= f) = pureOf P (f n) := by
 unfold sizeP at h
 cases hq : P.info? t with
 | none => simp [hq] at h
 | some i =>
  have : i.size = n := by simpa [hq] using h
  simp [sizeOf, typeInfo, program, bind, Sem.bind, pureOf, hq, pure, this]
theorem pure_pure {α β : Type} (a : α) (f : α → Sem β) : pureOf P ((pure a : Sem α) >>= f) = pureOf P (f a) := rfl
theorem light_of_pure {o : Oper} {v : Value} (h : pureOf P (execOp (ev e) o) = some (.value v)) (hv : vnf v = some v) : light P e o = some v := by
 simp [light, h, hv]
theorem idx_slice {t : TypeId} {x i : Operand} {b off n c el s : Nat} {k : IntKind} {j : Int} (m : Nat) (hx : vnf (ev e x) = some (.slice (some ⟨b, off, none⟩) n c)) (hi : vnf (ev e i) = some (.int k j))
  (hu : slcP P t = some (el, s)) (hj : j = (m : Int)) (hm : m < n) :
  light P e ⟨d, .indexAddr t x i, ty, pos, af, g⟩ = some (.pointer (some ⟨b, off + m * s, none⟩)) := by
 obtain ⟨h1, h2⟩ := slcP_spec hu
 have hx := vnf_eq hx
 have hi := vnf_eq hi
 subst hj
 refine light_of_pure ?_ rfl
 have h3 : (0 : Int) ≤ (m : Int) ∧ (m : Int) < (n : Int) := ⟨by omega, by omega⟩
 simp only [execOp, hx, hi, Instr.indexAt, asIntOf, pure_pure, bind_assoc, pure_underlying h1, h3, and_self, if_true, pure_size h2, Int.toNat_natCast, add_mk]
 rfl
theorem idx_array {t : TypeId} {x i : Operand} {b off n el s : Nat} {k : IntKind} {j : Int} (m : Nat) (hx : vnf (ev e x) = some (.pointer (some ⟨b, off, none⟩))) (hi : vnf (ev e i) = some (.int k j))
  (hu : arrP P t = some (n, el, s)) (hj : j = (m : Int)) (hm : m < n) :
  light P e ⟨d, .indexAddr t x i, ty, pos, af, g⟩ = some (.pointer (some ⟨b, off + m * s, none⟩)) := by
 obtain ⟨h1, h2⟩ := arrP_spec hu
 have hx := vnf_eq hx
 have hi := vnf_eq hi
 subst hj
 refine light_of_pure ?_ rfl
 have h3 : (0 : Int) ≤ (m : Int) ∧ (m : Int) < (n : Int) := ⟨by omega, by omega⟩
 simp only [execOp, hx, hi, Instr.indexAt, asIntOf, Instr.sureAddr, pure_pure, bind_assoc, pure_underlying h1, h3, and_self, if_true, pure_size h2, Int.toNat_natCast, add_mk]
 rfl
theorem idx_slice1 {t : TypeId} {x i : Operand} {b off n c el : Nat} {k : IntKind} {j : Int} (m : Nat) (hx : vnf (ev e x) = some (.slice (some ⟨b, off, none⟩) n c)) (hi : vnf (ev e i) = some (.int k j))
  (hu : slcP P t = some (el, 1)) (hj : j = (m : Int)) (hm : m < n) :
  light P e ⟨d, .indexAddr t x i, ty, pos, af, g⟩ = some (.pointer (some ⟨b, off + m, none⟩)) := by
 have := idx_slice (d := d) (ty := ty) (pos := pos) (af := af) (g := g) m hx hi hu hj hm
 rwa [Nat.mul_one] at this
theorem idx_array1 {t : TypeId} {x i : Operand} {b off n el : Nat} {k : IntKind} {j : Int} (m : Nat) (hx : vnf (ev e x) = some (.pointer (some ⟨b, off, none⟩))) (hi : vnf (ev e i) = some (.int k j))
  (hu : arrP P t = some (n, el, 1)) (hj : j = (m : Int)) (hm : m < n) :
  light P e ⟨d, .indexAddr t x i, ty, pos, af, g⟩ = some (.pointer (some ⟨b, off + m, none⟩)) := by
 have := idx_array (d := d) (ty := ty) (pos := pos) (af := af) (g := g) m hx hi hu hj hm
 rwa [Nat.mul_one] at this
theorem idx_array0 {t : TypeId} {x i : Operand} {b n el : Nat} {k : IntKind} {j : Int} (m : Nat) (hx : vnf (ev e x) = some (.pointer (some ⟨b, 0, none⟩))) (hi : vnf (ev e i) = some (.int k j))
  (hu : arrP P t = some (n, el, 1)) (hj : j = (m : Int)) (hm : m < n) :
  light P e ⟨d, .indexAddr t x i, ty, pos, af, g⟩ = some (.pointer (some ⟨b, m, none⟩)) := by
 have := idx_array1 (d := d) (ty := ty) (pos := pos) (af := af) (g := g) m hx hi hu hj hm
 rwa [Nat.zero_add] at this
def cutAt (off l s c : Nat) : Nat := if c = l then off else off + l * s
theorem Row.cut {w : World} {b off : Nat} {L : List Value} (h : Row w b off L) {l k s c : Nat} (hc : l + k ≤ c) : Row w b (cutAt off l s c) ((L.drop (l * s)).take (k * s)) := by
 unfold cutAt
 by_cases hcl : c = l
 ·rw [if_pos hcl]
  have : k = 0 := by omega
  subst this
  simp only [Nat.zero_mul, List.take_zero]
  exact Row.nil w b off
 ·rw [if_neg hcl]
  intro j v hv
  rw [List.getElem?_take] at hv
  split at hv
  ·rw [List.getElem?_drop] at hv
   rw [Nat.add_assoc]; exact h _ _ hv
  ·cases hv
def cut1 (off l c : Nat) : Nat := if c = l then off else off + l
theorem cut1_eq (off l c : Nat) : cutAt off l 1 c = cut1 off l c := by simp [cutAt, cut1]
theorem Row.cut1 {w : World} {b off : Nat} {L : List Value} (h : Row w b off L) {l k c : Nat} (hc : l + k ≤ c) : Row w b (VV.cut1 off l c) ((L.drop l).take k) := by
 have := h.cut (l := l) (k := k) (s := 1) hc
 rwa [cut1_eq, Nat.mul_one, Nat.mul_one] at this
def bnd1 (e : Env) (x : Operand) : Option Int :=
 match vnf (ev e x) with
 | some (.int _ j) => some j
 | _ => none
def bndF (e : Env) : Option Operand → Option (Option Int)
 | none => some none
 | some x => (bnd1 e x).map some
theorem bound_run {x : Operand} {j : Int} {m y : Nat} {code : BoundsCode} (hx : bndF e (some x) = some (some j)) (hj : j = (m : Int)) (hm : m ≤ y) :
  Instr.sliceBound (ev e x) y code = pure m := by
 simp only [bndF, Option.map_eq_some_iff, Option.some.injEq, exists_eq_right] at hx
 unfold bnd1 at hx
 split at hx
 ·rename_i h
  simp only [Option.some.injEq] at hx
  subst hx
  have := vnf_eq h
  subst hj
  have h3 : (0 : Int) ≤ (m : Int) ∧ (m : Int) ≤ (y : Int) := ⟨by omega, by omega⟩
  simp [Instr.sliceBound, this, asIntOf, h3]
 ·cases hx
theorem bounds_run {isS : Bool} {lo hi : Option Operand} {n c : Nat} {jl jh : Option Int} (l h : Nat)
  (hlo : bndF e lo = some jl) (hhi : bndF e hi = some jh) (hl : jl.getD 0 = (l : Int)) (hh : jh.getD n = (h : Int)) (h1 : l ≤ h) (h2 : h ≤ c) :
  Instr.sliceBounds isS n c (lo.map (ev e)) (hi.map (ev e)) none = pure (l, h, c) := by
 have bn : ∀ (x : Operand), bndF e (some x) ≠ some none := fun x hx => by
  simp [bndF] at hx
 have fin : ∀ (f : BoundsCode → Sem Nat), (∀ code, f code = (pure h : Sem Nat)) → ∀ cd, ((f cd >>= fun h' => (match lo.map (ev e) with
   | some v => Instr.sliceBound v h' .sliceB
   | none => (pure 0 : Sem Nat)) >>= fun l => pure (l, h', c)) : Sem (Nat × Nat × Nat)) = pure (l, h, c) := by
  intro f hf cd
  rw [hf]
  simp only [pure_bind]
  cases lo with
  | none =>
   cases hlo
   simp only [Option.getD_none] at hl
   have : l = 0 := by omega
   subst this
   rfl
  | some y =>
   cases jl with
   | none => exact absurd hlo (bn y)
   | some j =>
    simp only [Option.map_some]
    rw [bound_run hlo (by simpa using hl) h1]
    rfl
 cases hi with
 | none =>
  cases hhi
  simp only [Option.getD_none] at hh
  have hnh : n = h := by omega
  subst hnh
  have := fin (fun _ => pure n) (fun _ => rfl) .index
  cases lo <;> (simp only [Instr.sliceBounds] ; exact this)
 | some y =>
  cases jh with
  | none => exact absurd hhi (bn y)
  | some j =>
   have := fin (fun cd => Instr.sliceBound (ev e y) c cd) (fun cd => bound_run hhi (by simpa using hh) h2) (if isS then .sliceAcap else .sliceAlen)
   cases lo <;> (simp only [Instr.sliceBounds] ; exact this)
theorem cut_slice {t : TypeId} {x : Operand} {lo hi : Option Operand} {b off n c el s : Nat} {jl jh : Option Int} (l h : Nat) (hx : vnf (ev e x) = some (.slice (some ⟨b, off, none⟩) n c))
  (hu : slcP P t = some (el, s)) (hlo : bndF e lo = some jl) (hhi : bndF e hi = some jh) (hl : jl.getD 0 = (l : Int)) (hh : jh.getD n = (h : Int)) (h1 : l ≤ h) (h2 : h ≤ c) :
  light P e ⟨d, .slice t x lo hi none, ty, pos, af, g⟩ = some (.slice (some ⟨b, cutAt off l s c, none⟩) (h - l) (c - l)) := by
 obtain ⟨g1, g2⟩ := slcP_spec hu
 have hx := vnf_eq hx
 refine light_of_pure ?_ rfl
 have hb := bounds_run (isS := true) l h hlo hhi hl hh h1 h2
 simp only [execOp, hx, Instr.sliceAt, Instr.slice, bind_assoc, pure_underlying g1, Option.map_none, hb, pure_pure, pure_size g2]
 unfold cutAt
 by_cases hcl : c = l
 ·simp only [hcl, if_true]; rfl
 ·simp only [hcl, if_false, Option.map_some, add_mk]; rfl
theorem cut_array {t : TypeId} {x : Operand} {lo hi : Option Operand} {b off n el s : Nat} {jl jh : Option Int} (l h : Nat) (hx : vnf (ev e x) = some (.pointer (some ⟨b, off, none⟩)))
  (hu : arrP P t = some (n, el, s)) (hlo : bndF e lo = some jl) (hhi : bndF e hi = some jh) (hl : jl.getD 0 = (l : Int)) (hh : jh.getD n = (h : Int)) (h1 : l ≤ h) (h2 : h ≤ n) :
  light P e ⟨d, .slice t x lo hi none, ty, pos, af, g⟩ = some (.slice (some ⟨b, cutAt off l s n, none⟩) (h - l) (n - l)) := by
 obtain ⟨g1, g2⟩ := arrP_spec hu
 have hx := vnf_eq hx
 refine light_of_pure ?_ rfl
 have hb := bounds_run (isS := false) l h hlo hhi hl hh h1 h2
 simp only [execOp, hx, Instr.sliceAt, Instr.sureAddr, bind_assoc, pure_pure, pure_underlying g1, Option.map_none, hb, pure_size g2]
 unfold cutAt
 by_cases hcl : n = l
 ·simp only [hcl, if_true]; rfl
 ·simp only [hcl, if_false, add_mk]; rfl
theorem cut_slice1 {t : TypeId} {x : Operand} {lo hi : Option Operand} {b off n c el : Nat} {jl jh : Option Int} (l h : Nat) (hx : vnf (ev e x) = some (.slice (some ⟨b, off, none⟩) n c))
  (hu : slcP P t = some (el, 1)) (hlo : bndF e lo = some jl) (hhi : bndF e hi = some jh) (hl : jl.getD 0 = (l : Int)) (hh : jh.getD n = (h : Int)) (h1 : l ≤ h) (h2 : h ≤ c) :
  light P e ⟨d, .slice t x lo hi none, ty, pos, af, g⟩ = some (.slice (some ⟨b, cut1 off l c, none⟩) (h - l) (c - l)) := by
 have := cut_slice (d := d) (ty := ty) (pos := pos) (af := af) (g := g) l h hx hu hlo hhi hl hh h1 h2
 rwa [cut1_eq] at this
theorem cut_array1 {t : TypeId} {x : Operand} {lo hi : Option Operand} {b off n el : Nat} {jl jh : Option Int} (l h : Nat) (hx : vnf (ev e x) = some (.pointer (some ⟨b, off, none⟩)))
  (hu : arrP P t = some (n, el, 1)) (hlo : bndF e lo = some jl) (hhi : bndF e hi = some jh) (hl : jl.getD 0 = (l : Int)) (hh : jh.getD n = (h : Int)) (h1 : l ≤ h) (h2 : h ≤ n) :
  light P e ⟨d, .slice t x lo hi none, ty, pos, af, g⟩ = some (.slice (some ⟨b, cut1 off l n, none⟩) (h - l) (n - l)) := by
 have := cut_array (d := d) (ty := ty) (pos := pos) (af := af) (g := g) l h hx hu hlo hhi hl hh h1 h2
 rwa [cut1_eq] at this
inductive Vec (T s : Nat) : Value → Nat → List Value → Heap → Prop
 | nil : Vec T s (.slice none 0 0) 0 [] []
 | row (b n cap : Nat) (xs sp : List Value) (hn : xs.length = n * s) (hc : (xs ++ sp).length = cap * s) (hm : cap ≤ maxLen) (hle : n ≤ cap) : Vec T s (.slice (some ⟨b, 0, none⟩) n cap) n xs [(b, blk (xs ++ sp) T)]
theorem Vec.len {T s : Nat} {v : Value} {n : Nat} {xs : List Value} {G : Heap} (h : Vec T s v n xs G) : xs.length = n * s := by
 cases h with
 | nil => simp
 | row _ _ _ _ _ hn => exact hn
theorem Vec.slice {T s : Nat} {v : Value} {n : Nat} {xs : List Value} {G : Heap} (h : Vec T s v n xs G) : ∃ a c, v = .slice a n c := by
 cases h with
 | nil => exact ⟨_, _, rfl⟩
 | row _ _ _ _ _ _ _ _ _ => exact ⟨_, _, rfl⟩
inductive Src (w : World) (s : Nat) : Value → Nat → List Value → Prop
 | row (b off m c : Nat) (xs : List Value) (hn : xs.length = m * s) (hr : Row w b off xs) : Src w s (.slice (some ⟨b, off, none⟩) m c) m xs
theorem Vec.owns {T s : Nat} {v : Value} {n : Nat} {xs : List Value} {G : Heap} (h : Vec T s v n xs G) {w0 w : World} {ms : List Nat} {R : Heap} (hw : St w0 ms (G ++ R) w) : w.ownsRow 0 T s v n xs := by
 cases h with
 | nil => exact ⟨by simp, .inl ⟨rfl, rfl⟩⟩
 | row b n cap xs sp hn hc hm hle =>
  refine ⟨hn, .inr ⟨b, cap, (xs ++ sp).toArray, rfl, Nat.zero_le _, hw.own_blk (by simp), hle, hm, by simpa using hc, ?_⟩⟩
  simp [← hn]
theorem Vec.of_owns {T s : Nat} {v : Value} {n : Nat} {xs : List Value} {w : World} (h : w.ownsRow 0 T s v n xs) :
  ∃ G, Vec T s v n xs G ∧ (∀ x ∈ G, w.heap[x.1]? = some x.2) ∧ (∀ x ∈ G, v.ownBlock = some x.1) ∧ (G.map (·.1)).Nodup := by
 obtain ⟨h1, h2⟩ := h
 rcases h2 with ⟨rfl, rfl⟩ | ⟨b, cap, cur, rfl, _, hb, hle, hm, hc, ht⟩
 ·have : xs = [] := List.eq_nil_of_length_eq_zero (by simpa using h1)
  subst this
  exact ⟨[], .nil, by simp, by simp, by simp⟩
 ·refine ⟨_, .row b n cap xs (cur.toList.drop (n * s)) h1 ?_ hm hle, ?_, ?_, by simp⟩
  ·rw [← ht, List.take_append_drop]; simpa using hc
  ·intro x hx
   simp only [List.mem_singleton] at hx
   subst hx
   rw [hb]
   simp only [blk]
   congr 2
   rw [← ht, List.take_append_drop]
  ·intro x hx
   simp only [List.mem_singleton] at hx
   subst hx; rfl
def appP (P : Program) (t : TypeId) : Option (Nat × Nat × Nat) :=
 match P.underlying t with
 | some (.slice el) => match P.info? el with
  | some i => match i.zero with
   | some z => if z.cells.size = i.size ∧ 0 < i.size then some (el, i.size, i.bytes) else none
   | none => none
  | none => none
 | _ => none
theorem append_block (w : World) (t ty el : TypeId) (i : TypeInfo) (z : Value) (hu : P.underlying t = some (.slice el)) (hi : P.info? el = some i) (hz : i.zero = some z) (v : Value) (n : Nat) (xs : List Value)
  (hown : w.ownsRow 0 el i.size v n xs) (b off m c : Nat) (ys : List Value) (hn : ys.length = m * i.size) (hr : ∀ j u, ys[j]? = some u → w.cell? ((⟨b, off, none⟩ : Addr).add j) = some u) (h1 : ∀ u ∈ ys, u.oneCell' = true)
  (h63 : n + m ≤ maxLen) (hbytes : (n + m) * i.bytes ≤ 140737488355328) {v' : Value} {w' : World}
  (hrun : (Builtin.append_ #[t, t] ty #[v, .slice (some ⟨b, off, none⟩) m c]).run P w = .ok v' w') :
  v'.ownBlock = v.ownBlock ∨ v'.ownBlock = some w.heap.size := by
 have hsm : n + m ≤ 9223372036854775807 := by unfold maxLen at h63; omega
 obtain ⟨hx, h2⟩ := hown
 rcases h2 with ⟨rfl, rfl⟩ | ⟨g, cap, cur, rfl, _, hg, hle, hm, hcs, htake⟩
 ·by_cases hm0 : m = 0
  ·subst hm0
   have hys : ys = [] := List.eq_nil_of_length_eq_zero (by simpa using hn)
   subst hys
   have hr0 : (Builtin.append_ #[t, t] ty #[.slice none 0 0, .slice (some ⟨b, off, none⟩) 0 c]).run P w = .ok (.slice none 0 0) w := by
    simp [Builtin.append_, run_underlying hu, sizeOf, typeInfo, hi, Builtin.lenOf, Builtin.firstCells, loadCells, loadCellsFrom]
   rw [hr0] at hrun
   cases hrun
   exact .inl rfl
  ·have h3 := run_append_nil (P := P) w t ty el i z hu hi hz ⟨b, off, none⟩ m c ys hn hr (by omega) (by omega) (by simp only [Nat.zero_add] at hbytes; omega)
   rw [h3] at hrun
   cases hrun
   exact .inr rfl
 ·by_cases hroom : n + m ≤ cap
  ·have hfit : n * i.size + ys.length ≤ cur.size := by rw [hn, hcs, ← Nat.add_mul]; exact Nat.mul_le_mul_right _ hroom
   have h3 := run_append_room (P := P) w t ty el i hu hi g n cap cur hg ⟨b, off, none⟩ m c ys hn hr h1 hroom hfit
   rw [h3] at hrun
   cases hrun
   exact .inl rfl
  ·have holds : ∀ j u, xs[j]? = some u → w.cell? ((⟨g, 0, none⟩ : Addr).add j) = some u := World.ownsRow.cells ⟨hx, .inr ⟨g, cap, cur, rfl, Nat.zero_le _, hg, hle, hm, hcs, htake⟩⟩ rfl
   have h3 := run_append_grow (P := P) w t ty el i z hu hi hz ⟨g, 0, none⟩ n cap xs hx holds ⟨b, off, none⟩ m c ys hn hr (by omega) (by omega) (growslice_fits (by omega) hbytes)
   rw [h3] at hrun
   cases hrun
   exact .inr rfl
theorem x_append {t : TypeId} {x y : Operand} {T s by_ : Nat} {v u : Value} {n m : Nat} {xs ys : List Value} {G A R : Heap} {ts : Array TypeId}
  (hx : ev e x = v) (hy : ev e y = u) (hts : ts = #[t, t]) (hp : appP Γ.P t = some (T, s, by_)) (hv : Vec T s v n xs G)
  (hs : ∀ w, St Γ.w0 Γ.ms (A ++ (G ++ R)) w → Src w s u m ys) (h1 : ones ys = true) (hlen : n + m ≤ 140737488355328) (hb : (n + m) * by_ ≤ 140737488355328) :
  Op1 Γ ⟨d, .call ⟨.builtin .append, #[x, y], ts⟩, ty, pos, af, g⟩ e (A ++ (G ++ R)) (fun v' H' => ∃ G', Vec T s v' (n + m) (xs ++ ys) G' ∧ (v' = .slice none 0 0 → n = 0 ∧ m = 0) ∧ H' = G' ++ (A ++ R)) := by
 intro w hw
 subst hts hx hy
 unfold appP at hp
 split at hp <;> try cases hp
 rename_i el hu
 split at hp <;> try cases hp
 rename_i i hi
 split at hp <;> try cases hp
 rename_i z hz
 split at hp <;> try cases hp
 rename_i hzs
 obtain ⟨hz1, hz2⟩ := hzs
 have hw2 : St Γ.w0 Γ.ms (G ++ (A ++ R)) w := hw.perm (by
  rw [← List.append_assoc, ← List.append_assoc]
  exact List.Perm.append_right R List.perm_append_comm)
 have hs' := hs w hw
 generalize hue : ev e y = u at hs'
 generalize hve : ev e x = v at hv
 cases hs' with
 | row b off m c ys hn hr =>
  have hown := hv.owns hw2
  obtain ⟨v', w', hrun, hown', hgr, hnil⟩ := run_append_own (P := Γ.P) w 0 t ty T i z i.size i.bytes hu hi hz rfl rfl hz1 hz2 v n xs hown ⟨b, off, none⟩ m c ys hn hr.add (by simpa [ones] using h1) (by unfold maxLen; omega) (by omega) (Nat.zero_le _)
  obtain ⟨G', hV', hG', hGo, hGn⟩ := Vec.of_owns hown'
  have hnd := hw2.nodup
  rw [List.map_append, List.nodup_append] at hnd
  obtain ⟨hnG, hnR, hGR⟩ := hnd
  have hvb : ∀ k, v.ownBlock = some k → ∃ o, (k, o) ∈ G := by
   intro k hk
   cases hv with
   | nil => cases hk
   | row b2 _ cap2 _ sp2 _ _ _ _ =>
    simp only [Value.ownBlock, Option.some.injEq] at hk
    subst hk
    exact ⟨blk (xs ++ sp2) T, by simp⟩
  have hkeep : ∀ k, k < w.heap.size → (∀ o, (k, o) ∉ G) → w'.heap[k]? = w.heap[k]? := fun k hk hno => hgr.block k hk (fun he => by
   obtain ⟨o, ho⟩ := hvb k he.symm
   exact hno o ho)
  have hnew : ∀ x ∈ G', (∃ o, (x.1, o) ∈ G) ∨ w.heap.size ≤ x.1 := by
   intro x hx
   have h3 := hGo x hx
   have h4 := hG' x hx
   by_cases hlt : x.1 < w.heap.size
   ·by_cases hno : ∃ o, (x.1, o) ∈ G
    ·exact .inl hno
    ·exfalso
     rcases append_block (P := Γ.P) w t ty T i z hu hi hz v n xs hown b off m c ys hn hr.add (by simpa [ones] using h1) (by unfold maxLen; omega) (by omega) hrun with hc | hc
     ·rw [hc] at h3
      exact hno (hvb _ h3)
     ·rw [hc] at h3; simp only [Option.some.injEq] at h3; omega
   ·exact .inr (by omega)
  have hA : St Γ.w0 Γ.ms (G' ++ (A ++ R)) w' := by
   refine ⟨hgr.os.trans hw2.os, hgr.tape.trans hw2.tape, hgr.output.trans hw2.output, Nat.le_trans hw2.size hgr.size, ?_, ?_, ?_, ?_⟩
   ·intro k hk hm2
    have hsz := hw2.size
    rw [hkeep k (by omega) ?_]
    ·exact hw2.block k hk hm2
    ·intro o ho
     rcases hw2.own (k, o) (by simp [ho]) with h7 | h7
     ·exact hm2 h7
     ·simp at h7; omega
   ·rw [List.map_append, List.nodup_append]
    refine ⟨hGn, hnR, ?_⟩
    intro a ha b2 hb2 hab
    obtain ⟨x, hx, rfl⟩ := List.mem_map.1 ha
    obtain ⟨y2, hy2, rfl⟩ := List.mem_map.1 hb2
    rcases hnew x hx with ⟨o, ho⟩ | h8
    ·exact hGR _ (List.mem_map.2 ⟨_, ho, rfl⟩) _ (List.mem_map.2 ⟨y2, hy2, rfl⟩) hab
    ·have := hw2.lt (x := y2) (by simp only [List.mem_append] at hy2 ⊢; exact .inr hy2)
     omega
   ·intro x hx
    rcases List.mem_append.1 hx with hx | hx
    ·rcases hnew x hx with ⟨o, ho⟩ | h8
     ·exact hw2.own (x.1, o) (by simp [ho])
     ·have := hw2.size; exact .inr (by omega)
    ·exact hw2.own x (List.mem_append.2 (.inr hx))
   ·intro x hx
    rcases List.mem_append.1 hx with hx | hx
    ·exact hG' x hx
    ·rw [hkeep x.1 (hw2.lt (List.mem_append.2 (.inr hx))) ?_]
     ·exact hw2.holds x (List.mem_append.2 (.inr hx))
     ·intro o ho
      exact hGR _ (List.mem_map.2 ⟨_, ho, rfl⟩) _ (List.mem_map.2 ⟨x, hx, rfl⟩) rfl
  refine opW_run (v := v') (w' := w') ?_ ⟨_, hA, G', hV', fun h9 => ?_, rfl⟩
  ·simp only [execOp, resolve, Sem.run_bind, Sem.run_pure, Result.andThen_ok, invoke, builtin, List.map_toArray, List.map_cons, List.map_nil, hue, hve, hrun]
  ·obtain ⟨h10, h11⟩ := hnil.1 h9
   subst h10
   cases hv
   exact ⟨rfl, h11⟩
end
section
variable {P : Program} {Γ : Ctx} {k : Kont} {e : Env} {H F : Heap} {ops rest : List Oper} {d : Option Nat} {op : Op} {t : TypeId} {pos : String} {af : Array Edge} {g : Option (Nat × Bool)}
 {need : List Nat} {pl : Plan} {i : Nat}
theorem l_x {K : Value → Heap → Prop} (hop : Op1 Γ ⟨d, op, t, pos, af, g⟩ e H K) (hg : gdB ops e ⟨d, op, t, pos, af, g⟩ = true) (hd : dstOk Γ.n d = true)
  (hk : ∀ v H', K v H' → L1 Γ ops rest k (e.put d v) H') : L1 Γ ops (⟨d, op, t, pos, af, g⟩ :: rest) k e H := l_op hg hd hop hk
theorem l_l {v : Value} (hl : light Γ.P e ⟨d, op, t, pos, af, g⟩ = some v) (hg : gdB ops e ⟨d, op, t, pos, af, g⟩ = true) (hd : dstOk Γ.n d = true)
  (h : L1 Γ ops rest k (e.put d v) H) : L1 Γ ops (⟨d, op, t, pos, af, g⟩ :: rest) k e H := l_light hl hg hd h
theorem l_b {b : Bool} (hl : light Γ.P e ⟨d, op, t, pos, af, g⟩ = some (.bool b)) (hg : gdB ops e ⟨d, op, t, pos, af, g⟩ = true) (hd : dstOk Γ.n d = true)
  (ht : b = true → L1 Γ ops rest k (e.put d (.bool true)) H) (hf : b = false → L1 Γ ops rest k (e.put d (.bool false)) H) : L1 Γ ops (⟨d, op, t, pos, af, g⟩ :: rest) k e H := l_bool hl hg hd ht hf
theorem l_p (hg : gdB ops e ⟨d, op, t, pos, af, g⟩ = false) (hd : dstOk Γ.n d = true)
  (h : L1 Γ ops rest k (e.put d undef) H) : L1 Γ ops (⟨d, op, t, pos, af, g⟩ :: rest) k e H := l_pass hg hd h
theorem d_x {K : Value → Heap → Prop} (ho : ops[i]? = some ⟨d, op, t, pos, af, g⟩) (hop : Op1 Γ ⟨d, op, t, pos, af, g⟩ e H K) (hg : gdB ops e ⟨d, op, t, pos, af, g⟩ = true) (hd : dstOk Γ.n d = true)
  (hn : need.any (Nat.beq i) = true → ∀ v H', K v H' → ∀ x ∈ F, x ∈ H')
  (hk : ∀ v H', K v H' → L2 Γ ops (Stood Γ F) need pl k (e.put d v) H') : L2 Γ ops (Stood Γ F) need (.step false i pl) k e H :=
 d_op ho hg hd hop (fun hx v H' _ hK hw => ⟨H', hw, hn hx v H' hK⟩) hk
theorem s_own {b : Nat} {l : List Value} {T : TypeId} {fr : Nat × Nat} {off : Nat} {v : Value} (hm : (b, Obj.cells l.toArray T fr) ∈ F) (hv : l[off]? = some v) :
  ∀ w, Stood Γ F w → w.cell? ⟨b, off, none⟩ = some v := fun w ⟨_, hw, hF⟩ => at_own (hF _ hm) hv w hw
theorem s_old {b off : Nat} {v : Value} (hc : Γ.w0.cell? ⟨b, off, none⟩ = some v) (hb : b ∉ Γ.ms) : ∀ w, Stood Γ F w → w.cell? ⟨b, off, none⟩ = some v :=
 fun w ⟨_, hw, _⟩ => at_old hc hb w hw
theorem srow_own {b : Nat} {l : List Value} {T : TypeId} {fr : Nat × Nat} (hm : (b, Obj.cells l.toArray T fr) ∈ F) : ∀ w, Stood Γ F w → Row w b 0 l := fun w ⟨_, hw, hF⟩ => row_own (hF _ hm) w hw
theorem srow_old {b off : Nat} {l : List Value} (hr : Row Γ.w0 b off l) (hb : b ∉ Γ.ms) : ∀ w, Stood Γ F w → Row w b off l := fun w ⟨_, hw, _⟩ => row_old hr hb w hw
theorem d_load {T : TypeId} {x : Operand} {b off : Nat} {v : Value} (ho : ops[i]? = some ⟨d, .load T x, t, pos, af, g⟩) (hx : vnf (ev e x) = some (.pointer (some ⟨b, off, none⟩))) (hs : scalarB Γ.P T = true)
  (hc : ∀ w, Stood Γ F w → w.cell? ⟨b, off, none⟩ = some v)
  (hg : gdB ops e ⟨d, .load T x, t, pos, af, g⟩ = true) (hd : dstOk Γ.n d = true)
  (h : L2 Γ ops (Stood Γ F) need pl k (e.put d v) H) : L2 Γ ops (Stood Γ F) need (.step true i pl) k e H :=
 d_yield ho hg hd (fun w hS => run_load hx hs (hc w (hS rfl))) h
theorem d_loadA {T : TypeId} {x : Operand} {b off : Nat} {l : List Value} (ho : ops[i]? = some ⟨d, .load T x, t, pos, af, g⟩) (hx : vnf (ev e x) = some (.pointer (some ⟨b, off, none⟩))) (hs : aggB Γ.P T = true) (hn : sizeP Γ.P T = some l.length)
  (hc : ∀ w, Stood Γ F w → Row w b off l)
  (hg : gdB ops e ⟨d, .load T x, t, pos, af, g⟩ = true) (hd : dstOk Γ.n d = true)
  (h : L2 Γ ops (Stood Γ F) need pl k (e.put d (.agg l.toArray)) H) : L2 Γ ops (Stood Γ F) need (.step true i pl) k e H :=
 d_yield ho hg hd (fun w hS => run_loadA hx hs hn (hc w (hS rfl))) h
theorem x_call {f : Nat} {l : List Operand} {ts : Array TypeId} {vs : List Value} (hc : callable Γ.P f = true) (hv : evs e l = some vs) {R : Value → Heap → Prop}
  (hf : ∀ w, St Γ.w0 Γ.ms H w → Does Γ.P f vs w [] R) :
  Op1 Γ ⟨d, .call ⟨.value (.func f), l.toArray, ts⟩, t, pos, af, g⟩ e H (fun v H2 => ∃ H', R v H' ∧ H2 = H' ++ H) :=
 fun w hw => opW_call (F := []) (G := H) [] hc hv hw (by simp) (hf w hw) fun _ _ _ h1 _ h2 => ⟨_, h2, _, h1, rfl⟩
theorem x_callF {A G : Heap} {f : Nat} {l : List Operand} {ts : Array TypeId} {vs : List Value} (ms2 : List Nat) (hc : callable Γ.P f = true) (hv : evs e l = some vs) {R : Value → Heap → Prop}
  (hms : ∀ b ∈ ms2, ∃ o, (b, o) ∈ A) (hf : ∀ w, St Γ.w0 Γ.ms (A ++ G) w → Does Γ.P f vs w ms2 R) :
  Op1 Γ ⟨d, .call ⟨.value (.func f), l.toArray, ts⟩, t, pos, af, g⟩ e (A ++ G) (fun v H2 => ∃ H', R v H' ∧ H2 = H' ++ G) :=
 fun w hw => opW_call (F := A) (G := G) ms2 hc hv hw hms (hf w hw) fun _ _ _ h1 _ h2 => ⟨_, h2, _, h1, rfl⟩
theorem x_copy {x y : Operand} {ts : Array TypeId} {tx ty el : TypeId} {b off dl dc m : Nat} {u : Value} {l ys : List Value} {T : TypeId} (i : Nat)
  (hx : vnf (ev e x) = some (.slice (some ⟨b, off, none⟩) dl dc)) (hy : ev e y = u) (hts : ts = #[tx, ty]) (hu : slcP Γ.P tx = some (el, 1))
  (hi : H[i]? = some (b, blk l T)) (hs : ∀ w, St Γ.w0 Γ.ms H w → Src w 1 u m ys) (h1 : ones ys = true) (hl : off + min m dl ≤ l.length) :
  Op1 Γ ⟨d, .call ⟨.builtin .copy, #[x, y], ts⟩, t, pos, af, g⟩ e H (fun v H' => v = .int .i64 (min m dl : Nat) ∧ H' = H.set i (b, blk (putL l off (ys.take (min m dl))) T)) := by
 intro w hw
 subst hts hy
 obtain ⟨g1, g2⟩ := slcP_spec hu
 have hx := vnf_eq hx
 have hg : w.heap[b]? = some (blk l T) := hw.own_blk (List.mem_of_getElem? hi)
 have hs' := hs w hw
 generalize hue : ev e y = u at hs'
 cases hs' with
 | row b2 off2 m c ys hn hr =>
  have hlen : (ys.take (min m dl)).length = min m dl := by rw [List.length_take]; omega
  have hrun := run_copy_row (P := Γ.P) w tx ty t el b off dl dc ⟨b2, off2, none⟩ m c l.toArray T (ys.take (min m dl)) g1 g2 hg (by rw [hlen])
   (fun j v hv => hr.add j v (by
    rw [List.getElem?_take] at hv
    split at hv
    ·exact hv
    ·cases hv)) (by rw [hlen]; simpa using hl) (fun v hv => by
    have := List.mem_of_mem_take hv
    exact List.all_eq_true.1 h1 v this)
  rw [hlen] at hrun
  refine opW_run (v := .int .i64 (min m dl : Nat)) (w' := w.setRow b (putL l off (ys.take (min m dl))).toArray) ?_ ⟨_, ?_, rfl, rfl⟩
  ·have e1 : putL l off (ys.take (min m dl)) = l.take off ++ ys.take (min m dl) ++ l.drop (off + min m dl) := by rw [putL, hlen]
   rw [e1]
   simp only [execOp, resolve, Sem.run_bind, Sem.run_pure, Result.andThen_ok, invoke, builtin, List.map_toArray, List.map_cons, List.map_nil, hx, hue, hrun]
   rfl
  ·exact hw.setAt hi rfl rfl rfl (by simp [World.setRow]) (fun k hk => setRow_other w b k _ hk) (setRow_heap w b _ _ T _ hg)
theorem rets_v {s : Nat} {w : World} {v : Value} (h : vnf (e s) = some v) : Rets P [.tmp s] e w v := rets_one (vnf_eq h)
theorem rets_v2 {s u : Nat} {w : World} {v1 v2 : Value} (h1 : vnf (e s) = some v1) (h2 : vnf (e u) = some v2) : Rets P [.tmp s, .tmp u] e w (.tuple #[v1, v2]) := rets_two (vnf_eq h1) (vnf_eq h2)
theorem rets_cell {a b : Nat} {T : TypeId} {l : List Value} {w : World} (h : vnf (e a) = some (.pointer (some ⟨b, 0, none⟩))) (hs : aggB P T = true) (hn : sizeP P T = some l.length) (hr : Row w b 0 l) :
  Rets P [.cell a T] e w (.agg l.toArray) := by
 have h := vnf_eq h
 have hl := run_loadCells_list (P := P) w ⟨b, 0, none⟩ l hr.add
 simp [Rets, resOf, h, asAddr, loadVar, Sem.run_bind, run_isAgg_a hs, run_sizeOf hn, hl]
theorem rets_cell2 {a b s : Nat} {T : TypeId} {l : List Value} {v : Value} {w : World} (h : vnf (e a) = some (.pointer (some ⟨b, 0, none⟩))) (hs : aggB P T = true) (hn : sizeP P T = some l.length) (hr : Row w b 0 l) (h2 : vnf (e s) = some v) :
  Rets P [.cell a T, .tmp s] e w (.tuple #[.agg l.toArray, v]) := by
 have h := vnf_eq h
 have hl := run_loadCells_list (P := P) w ⟨b, 0, none⟩ l hr.add
 have h2 := vnf_eq h2
 simp [Rets, resOf, h, h2, asAddr, loadVar, Sem.run_bind, run_isAgg_a hs, run_sizeOf hn, hl]
theorem l_end {Γ : Ctx} {rs : List ResultVar} {R : Value → Heap → Prop} {H' : Heap} {v : Value} (hr : ∀ w, St Γ.w0 Γ.ms H w → Rets Γ.P rs e w v)
  (hh : H'.Sublist H) (h : R v H') : Ends Γ rs R e H := ends_of hr (fun _ hw => hw.sub hh) h
theorem l_end0 {Γ : Ctx} {rs : List ResultVar} {R : Value → Heap → Prop} {v : Value} (hr : ∀ w, St Γ.w0 Γ.ms H w → Rets Γ.P rs e w v) (h : R v []) : Ends Γ rs R e H := l_end hr (List.nil_sublist _) h
end
def spine {α : Type} : List α → Option (List α)
 | [] => some []
 | x :: r => match spine r with
  | some r' => some (x :: r')
  | none => none
theorem spine_eq {α : Type} : ∀ {l l' : List α}, spine l = some l' → l = l'
 | [], _, h => by cases h; rfl
 | x :: r, l', h => by
  simp only [spine] at h
  split at h
  ·rename_i r' hr
   cases h
   rw [spine_eq hr]
  ·cases h
def layL (off : Nat) : List Value → Nat → List Value → List Value
 | [], _, l => l
 | v :: vs, j, l => layL off vs (j + 1) (l.set (off + j) v)
def fillL (place : Nat → Option (Nat × Nat)) (l : List Value) : List (Nat × Value) → Option (List Value)
 | [] => spine l
 | (i, v) :: rest =>
  match place i, cellsF v with
  | some (off, size), some vs => bif Nat.beq vs.length size && Nat.ble (off + vs.length) l.length then fillL place (layL off vs 0 l) rest else none
  | _, _ => none
theorem lay_eq (off : Nat) : ∀ (vs : List Value) (j : Nat) (l : List Value),
  (layL off vs j l).toArray = (vs.zipIdx j).foldl (fun (cs : Array Value) (c : Value × Nat) => cs.setIfInBounds (off + c.2) c.1) l.toArray
 | [], _, _ => rfl
 | v :: vs, j, l => by
  simp only [layL, List.zipIdx_cons, List.foldl_cons]
  rw [lay_eq off vs (j + 1) _]
  congr 1
  simp
theorem fill_of_fillL {place : Nat → Option (Nat × Nat)} : ∀ {ps : List (Nat × Value)} {l l' : List Value}, fillL place l ps = some l' → Instr.fill place l.toArray ps = some l'.toArray
 | [], l, l', h => by
  simp only [fillL] at h
  rw [spine_eq h]
  rfl
 | (i, v) :: rest, l, l', h => by
  simp only [fillL] at h
  split at h
  ·rename_i off size vs hp hv
   have hc := cellsF_eq hv
   by_cases hb : (Nat.beq vs.length size && Nat.ble (off + vs.length) l.length) = true
   ·rw [hb, cond_true] at h
    simp only [Bool.and_eq_true] at hb
    have h1 := Nat.eq_of_beq_eq_true hb.1
    have h2 := Nat.le_of_ble_eq_true hb.2
    have h3 := fill_of_fillL h
    simp only [Instr.fill, hp, hc, List.size_toArray]
    rw [if_neg (by simp [h1]; omega)]
    rw [← h3]
    congr 1
    rw [lay_eq]
    simp
   ·simp only [Bool.not_eq_true] at hb
    rw [hb, cond_false] at h
    cases h
  ·cases h
section
variable {Γ : Ctx} {e : Env} {H : Heap} {d : Option Nat} {ty : TypeId} {pos : String} {af : Array Edge} {g : Option (Nat × Bool)}
def partsF (e : Env) : List (Nat × Operand) → Option (List (Nat × Value))
 | [] => some []
 | (i, x) :: r => match vnf (ev e x), partsF e r with
  | some v, some vs => some ((i, v) :: vs)
  | _, _ => none
theorem partsF_eq {e : Env} : ∀ {l : List (Nat × Operand)} {vs : List (Nat × Value)}, partsF e l = some vs → l.map (fun p => (p.1, ev e p.2)) = vs
 | [], _, h => by cases h; rfl
 | (i, x) :: r, vs, h => by
  simp only [partsF] at h
  split at h
  ·rename_i v us h1 h2
   cases h
   simp only [List.map_cons, vnf_eq h1, partsF_eq h2]
  ·cases h
def repL (n : Nat) (z : List Value) : List Value := (List.range n).map (fun i => z.getD (i % z.length) default)
theorem repL_eq (n : Nat) (z : List Value) : (Array.range n).map (z.toArray[· % z.toArray.size]!) = (repL n z).toArray := by
 apply Array.ext
 ·simp [repL]
 ·intro i h1 h2
  simp only [repL, Array.getElem_map, Array.getElem_range, List.getElem_toArray, List.getElem_map, List.getElem_range, List.size_toArray, getElem!_def, List.getElem?_toArray, List.getD_eq_getElem?_getD]
  cases z[i % z.length]? <;> rfl
theorem x_slc {t el : TypeId} {len n : Nat} {parts : List (Nat × Operand)} {ps : List (Nat × Value)} {l : List Value} {z : List Value}
  (hu : slcP Γ.P t = some (el, n)) (hp : partsF e parts = some ps) (hsm : Nat.ble (len * n) 16777216 = true) (hpos : Nat.ble 1 (len * n) = true)
  (hz : zeroP Γ.P el = some z) (hf : fillL (fun i => some (i * n, n)) (repL (len * n) z) ps = some l) :
  Op1 Γ ⟨d, .buildSlice t len parts.toArray, ty, pos, af, g⟩ e H (fun u H' => ∃ b, u = .slice (some ⟨b, 0, none⟩) len len ∧ H' = (b, blk l el) :: H) := by
 obtain ⟨h1, h2⟩ := slcP_spec hu
 refine x_buildSlice h1 (ps := ps) ?_ h2 hsm hpos hz ?_
 ·have := partsF_eq hp
  simpa using this
 ·rw [repL_eq]
  exact fill_of_fillL hf
def placesF (P : Program) : List Field → Option (List (Nat × Nat))
 | [] => some []
 | f :: r => match sizeP P f.type, placesF P r with
  | some s, some ps => some ((f.offset, s) :: ps)
  | _, _ => none
def strP (P : Program) (t : TypeId) : Option (List (Nat × Nat)) :=
 match P.underlying t with
 | some (.struct ⟨fs⟩) => placesF P fs
 | _ => none
theorem placesF_run {P : Program} : ∀ {fs : List Field} {ps : List (Nat × Nat)}, placesF P fs = some ps →
  ∀ {α : Type} (f : Array (Nat × Nat) → Sem α), pureOf P (fs.toArray.mapM (fun f => do pure (f.offset, ← sizeOf f.type)) >>= f) = pureOf P (f ps.toArray) := by
 intro fs
 have key : ∀ (fs : List Field) (ps : List (Nat × Nat)), placesF P fs = some ps → ∀ {α : Type} (f : List (Nat × Nat) → Sem α), pureOf P ((fs.mapM (fun f => (do pure (f.offset, ← sizeOf f.type) : Sem (Nat × Nat)))) >>= f) = pureOf P (f ps) := by
  intro fs
  induction fs with
  | nil => intro ps h α f; cases h; simp
  | cons x r ih =>
   intro ps h α f
   simp only [placesF] at h
   split at h
   ·rename_i s ps' h1 h2
    cases h
    simp only [List.mapM_cons, bind_assoc, pure_size h1, pure_bind]
    rw [ih ps' h2]
   ·cases h
 intro ps h α f
 have h1 := key fs ps h (fun l => f l.toArray)
 rw [← h1]
 simp [List.mapM_toArray]
theorem light_struct {t : TypeId} {parts : List (Nat × Operand)} {ps : List (Nat × Value)} {l z : List Value} {pl : List (Nat × Nat)}
  (hu : strP Γ.P t = some pl) (hz : zeroP Γ.P t = some z) (hp : partsF e parts = some ps) (hf : fillL (fun i => pl[i]?) z ps = some l) :
  light Γ.P e ⟨d, .build t parts.toArray, ty, pos, af, g⟩ = some (.agg l.toArray) := by
 refine light_of_pure ?_ rfl
 unfold strP at hu
 split at hu
 ·rename_i fs h1
  have hpp := partsF_eq hp
  have hfl := fill_of_fillL hf
  have hzz : ∀ {α : Type} (f : Value → Sem α), ∃ zv : Value, zv.cells = z.toArray ∧ pureOf Γ.P (zeroValue t >>= f) = pureOf Γ.P (f zv) := by
   intro α f
   unfold zeroP at hz
   split at hz
   ·rename_i i hi
    split at hz
    ·rename_i zv hzv
     refine ⟨zv, cellsF_eq hz, ?_⟩
     simp [zeroValue, typeInfo, program, bind, Sem.bind, pureOf, hi, hzv, pure]
    ·cases hz
   ·cases hz
  simp only [execOp, Instr.build, bind_assoc]
  obtain ⟨zv, hzc, hzr⟩ := hzz (fun zero => underlying t >>= fun d => _)
  rw [hzr, pure_underlying h1]
  simp only [bind_assoc]
  rw [placesF_run hu]
  have h9 : ((List.toArray parts).map fun (i, x) => (i, ev e x)).toList = ps := by simpa using hpp
  simp only [h9, hzc, List.getElem?_toArray, hfl]
  rfl
 ·cases hu
def fldP (P : Program) (t f : Nat) : Option Nat :=
 match P.underlying t with
 | some (.struct ⟨fs⟩) => match fs[f]? with
  | some ⟨_, ft, o, _, _, _, _⟩ => match sizeP P ft with
   | some (_ + 1) => some o
   | _ => none
  | none => none
 | _ => none
theorem light_fa {t f o b off : Nat} {x : Operand} (hu : fldP Γ.P t f = some o) (hx : vnf (ev e x) = some (.pointer (some ⟨b, off, none⟩))) :
  light Γ.P e ⟨d, .fieldAddr t x f, ty, pos, af, g⟩ = some (.pointer (some ⟨b, off + o, none⟩)) := by
 refine light_of_pure ?_ rfl
 have hx := vnf_eq hx
 unfold fldP at hu
 split at hu
 ·rename_i fs h1
  split at hu
  ·rename_i nm ft o' em tg pp bo h2
   split at hu
   ·rename_i k h3
    cases hu
    have h4 : (fs.toArray)[f]? = some ⟨nm, ft, o, em, tg, pp, bo⟩ := by simpa using h2
    simp only [execOp, Instr.fieldAt, bind_assoc, pure_underlying h1, h4, hx, Instr.sureAddr, pure_pure, fieldPlace, pure_size h3]
    simp [add_mk, pureOf, pure, bind, Sem.bind]
   ·cases hu
  ·cases hu
 ·cases hu
def fldV (P : Program) (t f : Nat) : Option (Nat × Nat) :=
 match P.underlying t with
 | some (.struct ⟨fs⟩) => match fs[f]? with
  | some ⟨_, ft, o, _, _, _, _⟩ => some (ft, o)
  | none => none
 | _ => none
theorem light_fs {t f ft o : Nat} {x : Operand} {l : List Value} {v u : Value} (hu : fldV Γ.P t f = some (ft, o)) (hs : scalarB Γ.P ft = true) (hx : vnf (ev e x) = some (.agg ⟨l⟩)) (hv : l[o]? = some u) (hw : vnf u = some v) :
  light Γ.P e ⟨d, .field t x f, ty, pos, af, g⟩ = some v := by
 have hn := vnf_eq hw
 subst hn
 refine light_of_pure ?_ hw
 have hx := vnf_eq hx
 unfold fldV at hu
 split at hu
 ·rename_i fs h1
  split at hu
  ·rename_i nm ft' o' em tg pp bo h2
   cases hu
   have h4 : (fs.toArray)[f]? = some ⟨nm, ft, o, em, tg, pp, bo⟩ := by simpa using h2
   have h5 : ∀ {α : Type} (K : Bool → Sem α), pureOf Γ.P (isAgg ft >>= K) = pureOf Γ.P (K false) := by
    intro α K
    unfold scalarB at hs
    split at hs <;> try cases hs
    rename_i D hd1 hd2 hd
    simp only [isAgg, bind_assoc, pure_underlying hd]
    cases D <;> first | rfl | (exfalso; exact hd1 _ rfl) | (exfalso; exact hd2 _ _ rfl)
   simp only [execOp, Instr.field, bind_assoc, pure_underlying h1, h4, hx, asAgg, pure_pure, part, h5]
   have h6 : (Array.mk l)[o]? = some u := by simpa using hv
   simp [h6, pureOf, pure, bind, Sem.bind]
  ·cases hu
 ·cases hu
end
end Go.VV
namespace Go.VV
open Go
theorem wrap_i64 {n : Int} (h1 : -9223372036854775808 ≤ n) (h2 : n ≤ 9223372036854775807) : IntKind.i64.wrap n = n := by
 simp [IntKind.wrap, IntKind.bits, IntKind.signed]; omega
theorem wrap_u8 (n : Int) : IntKind.u8.wrap n = n % 256 := by
 simp [IntKind.wrap, IntKind.bits, IntKind.signed]
theorem wrap_u16 (n : Int) : IntKind.u16.wrap n = n % 65536 := by
 simp [IntKind.wrap, IntKind.bits, IntKind.signed]
theorem wrap_u64 (n : Int) : IntKind.u64.wrap n = n % 18446744073709551616 := by
 simp [IntKind.wrap, IntKind.bits, IntKind.signed]
theorem wrap_u8_id {n : Int} (h1 : 0 ≤ n) (h2 : n < 256) : IntKind.u8.wrap n = n := by rw [wrap_u8]; omega
theorem wrap_u16_id {n : Int} (h1 : 0 ≤ n) (h2 : n < 65536) : IntKind.u16.wrap n = n := by rw [wrap_u16]; omega
theorem wrap_u64_id {n : Int} (h1 : 0 ≤ n) (h2 : n < 18446744073709551616) : IntKind.u64.wrap n = n := by rw [wrap_u64]; omega
theorem succ_law {k : Nat} (h : (k : Int) < 9223372036854775807) : IntKind.i64.wrap ((k : Int) + 1) = ((k + 1 : Nat) : Int) := by
 rw [wrap_i64 (by omega) (by omega)]; simp
def band (k : IntKind) (x y : Int) : Int := k.wrap (BitVec.ofInt k.bits x &&& BitVec.ofInt k.bits y).toNat
def bor (k : IntKind) (x y : Int) : Int := k.wrap (BitVec.ofInt k.bits x ||| BitVec.ofInt k.bits y).toNat
def bxor (k : IntKind) (x y : Int) : Int := k.wrap (BitVec.ofInt k.bits x ^^^ BitVec.ofInt k.bits y).toNat
def bandn (k : IntKind) (x y : Int) : Int := k.wrap (BitVec.ofInt k.bits x &&& ~~~BitVec.ofInt k.bits y).toNat
def shr (k : IntKind) (x y : Int) : Int := x.fdiv (2 ^ min y.toNat k.bits)
def shl (k : IntKind) (x y : Int) : Int := k.wrap (x * 2 ^ min y.toNat k.bits)
theorem byte_all {p : Int → Prop} (h : ∀ n : Fin 256, p (n.val : Int)) {c : Int} (h1 : 0 ≤ c) (h2 : c < 256) : p c := by
 have := h ⟨c.toNat, by omega⟩
 simp only at this
 rwa [Int.toNat_of_nonneg h1] at this
def Ns (w : World) (k : IntKind) (a : Option Addr) (l : List Int) : Prop := 0 < l.length → ∃ b off, a = some ⟨b, off, none⟩ ∧ Row w b off (l.map (.int k))
theorem Ns.nil (w : World) (k : IntKind) (a : Option Addr) : Ns w k a [] := fun h => by simp at h
theorem Ns.row {w : World} {k : IntKind} {a : Option Addr} {l : List Int} (h : Ns w k a l) {i : Nat} (hi : i < l.length) : ∃ b off, a = some ⟨b, off, none⟩ ∧ Row w b off (l.map (.int k)) := h (by omega)
theorem Ns.of {w : World} {k : IntKind} {b off : Nat} {l : List Int} (h : Row w b off (l.map (.int k))) : Ns w k (some ⟨b, off, none⟩) l := fun _ => ⟨b, off, rfl, h⟩
theorem Ns.later {w0 w : World} {ms : List Nat} {H : Heap} {k : IntKind} {a : Option Addr} {l : List Int} (h : Ns w0 k a l) (hm : ∀ p, a = some p → p.block ∉ ms) (hw : St w0 ms H w) : Ns w k a l := fun hl => by
 obtain ⟨b, off, rfl, hr⟩ := h hl
 exact ⟨b, off, rfl, row_old hr (hm _ rfl) w hw⟩
theorem Ns.later0 {w0 w : World} {H : Heap} {k : IntKind} {a : Option Addr} {l : List Int} (h : Ns w0 k a l) (hw : St w0 [] H w) : Ns w k a l := h.later (by simp) hw
theorem Row.int {w : World} {k : IntKind} {b off : Nat} {l : List Int} (h : Row w b off (l.map (.int k))) {i : Nat} (hi : i < l.length) : w.cell? ⟨b, off + i, none⟩ = some (.int k (l.getD i 0)) :=
 h i _ (by simp [hi])
theorem ones_int (k : IntKind) (l : List Int) : ones (l.map (.int k)) = true := by simp [ones, Value.oneCell']
theorem ones_sub {l l' : List Value} (h : ones l = true) (hs : ∀ x ∈ l', x ∈ l) : ones l' = true := List.all_eq_true.2 fun x hx => List.all_eq_true.1 h x (hs x hx)
theorem ones_cut (k : IntKind) (l : List Int) (i n : Nat) : ones (((l.map (Value.int k)).drop i).take n) = true := ones_sub (ones_int k l) fun _ hx => List.mem_of_mem_drop (List.mem_of_mem_take hx)
def Byts (l : List Int) : Prop := ∀ x ∈ l, 0 ≤ x ∧ x < 256
theorem Byts.get {l : List Int} (h : Byts l) (i : Nat) : 0 ≤ l.getD i 0 ∧ l.getD i 0 < 256 := by
 by_cases hi : i < l.length
 ·rw [List.getD_eq_getElem?_getD, List.getElem?_eq_getElem hi]; exact h _ (List.getElem_mem hi)
 ·rw [List.getD_eq_getElem?_getD, List.getElem?_eq_none (by omega)]; simp
section
variable {P : Program} {e : Env} {d : Option Nat} {ty t u : TypeId} {pos : String} {af : Array Edge} {g : Option (Nat × Bool)} {x y : Operand} {k : IntKind} {a b : Int}
theorem rem_pos (hx : vnf (ev e x) = some (.int k a)) (hy : vnf (ev e y) = some (.int k b)) (hb : b ≠ 0) :
  light P e ⟨d, .binOp .rem t x y u, ty, pos, af, g⟩ = some (.int k (a.tmod b)) := by
 refine light_of_pure ?_ rfl
 simp [execOp, eqGuard, vnf_eq hx, vnf_eq hy, binOp, Op.intDiv, hb, pureOf, bind, Sem.bind, pure]
theorem shr_pos {k2 : IntKind} (hx : vnf (ev e x) = some (.int k a)) (hy : vnf (ev e y) = some (.int k2 b)) (hb : 0 ≤ b) :
  light P e ⟨d, .binOp .shr t x y u, ty, pos, af, g⟩ = some (.int k (shr k a b)) := by
 refine light_of_pure ?_ rfl
 have : ¬ b < 0 := by omega
 simp [execOp, eqGuard, vnf_eq hx, vnf_eq hy, binOp, Op.shift, this, pureOf, bind, Sem.bind, pure, shr]
theorem shl_pos {k2 : IntKind} (hx : vnf (ev e x) = some (.int k a)) (hy : vnf (ev e y) = some (.int k2 b)) (hb : 0 ≤ b) :
  light P e ⟨d, .binOp .shl t x y u, ty, pos, af, g⟩ = some (.int k (shl k a b)) := by
 refine light_of_pure ?_ rfl
 have : ¬ b < 0 := by omega
 simp [execOp, eqGuard, vnf_eq hx, vnf_eq hy, binOp, Op.shift, this, pureOf, bind, Sem.bind, pure, shl]
def isSlc (P : Program) (t : TypeId) : Bool := match P.underlying t with
 | some (.slice _) => true
 | _ => false
theorem light_len {a : Option Addr} {n c : Nat} (hx : vnf (ev e x) = some (.slice a n c)) (hu : isSlc P t = true) :
  light P e ⟨d, .call ⟨.builtin .len, #[x], #[t]⟩, ty, pos, af, g⟩ = some (.int .i64 n) := by
 refine light_of_pure ?_ rfl
 have hx := vnf_eq hx
 unfold isSlc at hu
 split at hu
 ·rename_i el h1
  simp only [execOp, resolve, List.map_toArray, List.map_cons, List.map_nil, hx, pure_pure, invoke, builtin, Builtin.len_, bind_assoc, List.getElem?_toArray, List.getElem?_cons_zero, pure_underlying h1]
  rfl
 ·cases hu
theorem light_lens {s : ByteArray} (hx : vnf (ev e x) = some (.string s)) (hu : P.underlying t = some .string) :
  light P e ⟨d, .call ⟨.builtin .len, #[x], #[t]⟩, ty, pos, af, g⟩ = some (.int .i64 s.size) := by
 refine light_of_pure ?_ rfl
 have hx := vnf_eq hx
 simp only [execOp, resolve, List.map_toArray, List.map_cons, List.map_nil, hx, pure_pure, invoke, builtin, Builtin.len_, bind_assoc, List.getElem?_toArray, List.getElem?_cons_zero, pure_underlying hu]
 rfl
theorem light_min {k2 : IntKind} {ts : Array TypeId} (hx : vnf (ev e x) = some (.int k a)) (hy : vnf (ev e y) = some (.int k2 b)) :
  light P e ⟨d, .call ⟨.builtin .min, #[x, y], ts⟩, ty, pos, af, g⟩ = some (.int k (min a b)) := by
 refine light_of_pure ?_ rfl
 have hx := vnf_eq hx
 have hy := vnf_eq hy
 have hm : (if b < a then b else a) = min a b := by omega
 simp only [execOp, resolve, List.map_toArray, List.map_cons, List.map_nil, hx, hy, pure_pure, invoke, builtin, Builtin.min_, bind_assoc, List.foldlM_cons, List.foldlM_nil, Builtin.min2, hm]
 rfl
theorem light_max {k2 : IntKind} {ts : Array TypeId} (hx : vnf (ev e x) = some (.int k a)) (hy : vnf (ev e y) = some (.int k2 b)) :
  light P e ⟨d, .call ⟨.builtin .max, #[x, y], ts⟩, ty, pos, af, g⟩ = some (.int k (max a b)) := by
 refine light_of_pure ?_ rfl
 have hx := vnf_eq hx
 have hy := vnf_eq hy
 have hm : (if b > a then b else a) = max a b := by omega
 simp only [execOp, resolve, List.map_toArray, List.map_cons, List.map_nil, hx, hy, pure_pure, invoke, builtin, Builtin.max_, bind_assoc, List.foldlM_cons, List.foldlM_nil, Builtin.max2, hm]
 rfl
end
end Go.VV
