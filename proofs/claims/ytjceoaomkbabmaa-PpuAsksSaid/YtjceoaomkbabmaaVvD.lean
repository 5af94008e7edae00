/- The heap's operations over a symbolic state: new variables, loads, stores, slices, append, copy. Plain lemmas; no program. -/
import Derived.Test.YtjceoaomkbabmaaVvC
import Derived.Laws.OwnMore
import Derived.Laws.CopyRow
import Derived.Laws.Rows
namespace Go.VV
open Go Go.RowKit

/-- A row of cells that nobody has frozen. -/
abbrev blk (l : List Value) (t : TypeId) : Obj := .cells l.toArray t (0, 0)

def cellsF : Value → Option (List Value)
  | .agg ⟨l⟩ => some l
  | .bool b => some [.bool b]
  | .int k n => some [.int k n]
  | .string s => some [.string s]
  | .pointer a => some [.pointer a]
  | .slice a n c => some [.slice a n c]
  | .map r => some [.map r]
  | .func f a b => some [.func f a b]
  | .nilFunc => some [.nilFunc]
  | .iface t v => some [.iface t v]
  | .nilIface => some [.nilIface]
  | _ => none
theorem cellsF_eq {v : Value} {l : List Value} (h : cellsF v = some l) : v.cells = l.toArray := by
  cases v <;> simp [cellsF] at h <;> subst h <;> simp [Value.cells]
/-- Each value is of one cell. -/
def ones (l : List Value) : Bool := l.all (·.oneCell')

def scalarB (P : Program) (t : TypeId) : Bool :=
  match P.underlying t with
  | some (.struct _) => false
  | some (.array _ _) => false
  | some _ => true
  | none => false
def aggB (P : Program) (t : TypeId) : Bool :=
  match P.underlying t with
  | some (.struct _) => true
  | some (.array _ _) => true
  | _ => false
def sizeP (P : Program) (t : TypeId) : Option Nat := (P.info? t).map (·.size)

theorem run_isAgg_s {P : Program} {t : TypeId} (h : scalarB P t = true) (w : World) : (isAgg t).run P w = .ok false w := by
  unfold scalarB at h
  unfold isAgg
  rw [Sem.run_bind]
  split at h
  · cases h
  · cases h
  · rename_i d hd1 hd2 hd
    rw [run_underlying hd w]
    simp only [Result.andThen_ok]
    cases d <;> first | rfl | (exfalso; exact hd1 _ rfl) | (exfalso; exact hd2 _ _ rfl)
  · cases h
theorem run_isAgg_a {P : Program} {t : TypeId} (h : aggB P t = true) (w : World) : (isAgg t).run P w = .ok true w := by
  unfold aggB at h
  unfold isAgg
  rw [Sem.run_bind]
  split at h
  · rename_i hd; rw [run_underlying hd w]; rfl
  · rename_i hd; rw [run_underlying hd w]; rfl
  · cases h
theorem run_sizeOf {P : Program} {t : TypeId} {n : Nat} (h : sizeP P t = some n) (w : World) : (sizeOf t).run P w = .ok n w := by
  unfold sizeP at h
  cases hq : P.info? t with
  | none => simp [hq] at h
  | some i =>
    have : i.size = n := by simpa [hq] using h
    simp [sizeOf, typeInfo, hq, this]

theorem cell_blk {w : World} {b off : Nat} {cs : Array Value} {t : TypeId} {fr : Nat × Nat} (h : w.heap[b]? = some (.cells cs t fr)) : w.cell? ⟨b, off, none⟩ = cs[off]? := by
  simp [World.cell?, h]

/-- Cells in a row, from a place on. -/
def Row (w : World) (b off : Nat) (l : List Value) : Prop := ∀ j v, l[j]? = some v → w.cell? ⟨b, off + j, none⟩ = some v

theorem Row.of_blk {w : World} {b off : Nat} {cs : Array Value} {t : TypeId} {fr : Nat × Nat} {l : List Value} (h : w.heap[b]? = some (.cells cs t fr)) (hl : ∀ j v, l[j]? = some v → cs[off + j]? = some v) : Row w b off l :=
  fun j v hv => by rw [cell_blk h]; exact hl j v hv
theorem Row.all {w : World} {b : Nat} {l : List Value} {t : TypeId} {fr : Nat × Nat} (h : w.heap[b]? = some (.cells l.toArray t fr)) : Row w b 0 l :=
  Row.of_blk h fun j v hv => by simpa using hv
theorem Row.nil (w : World) (b off : Nat) : Row w b off [] := fun _ _ h => by simp at h
theorem Row.add {w : World} {b off : Nat} {l : List Value} (h : Row w b off l) (j : Nat) (v : Value) (hv : l[j]? = some v) : w.cell? ((⟨b, off, none⟩ : Addr).add j) = some v := by
  have hadd : (⟨b, off, none⟩ : Addr).add j = ⟨b, off + j, none⟩ := by unfold Addr.add; split <;> simp_all
  rw [hadd]; exact h j v hv

section
variable {Γ : Ctx} {e : Env} {H : Heap} {d : Option Nat} {ty : TypeId} {pos : String} {af : Array Edge} {g : Option (Nat × Bool)}

/-- One operation over a symbolic state. -/
def Op1 (Γ : Ctx) (o : Oper) (e : Env) (H : Heap) (K : Value → Heap → Prop) : Prop :=
  ∀ w, St Γ.w0 Γ.ms H w → opW Γ.P o e w (fun v w' => ∃ H', St Γ.w0 Γ.ms H' w' ∧ K v H')

theorem St.own_blk {w0 w : World} {ms : List Nat} {H : Heap} (h : St w0 ms H w) {b : Nat} {o : Obj} (hm : (b, o) ∈ H) : w.heap[b]? = some o := h.holds _ hm

/-! new variables -/
theorem x_box {t : TypeId} {x : Operand} {v : Value} {l : List Value} (hx : vnf (ev e x) = some v) (hl : cellsF v = some l) :
    Op1 Γ ⟨d, .box t x, ty, pos, af, g⟩ e H (fun u H' => ∃ b, u = .pointer (some ⟨b, 0, none⟩) ∧ H' = (b, blk l t) :: H) := by
  intro w hw
  refine opW_run (v := .pointer (some ⟨w.heap.size, 0, none⟩)) (w' := w.alloc (blk l t)) ?_ ⟨_, hw.alloc _, _, rfl, rfl⟩
  simp [execOp, Instr.box, newVar, newRow, newObj, vnf_eq hx, cellsF_eq hl]
  rfl

def zeroP (P : Program) (t : TypeId) : Option (List Value) :=
  match P.info? t with
  | some i => match i.zero with
    | some z => cellsF z
    | none => none
  | none => none

theorem run_zero {P : Program} {t : TypeId} {l : List Value} (h : zeroP P t = some l) (w : World) : ∃ z, (zeroValue t).run P w = .ok z w ∧ z.cells = l.toArray := by
  unfold zeroP at h
  split at h
  · rename_i i hi
    split at h
    · rename_i z hz
      exact ⟨z, by simp [zeroValue, typeInfo, hi, hz], cellsF_eq h⟩
    · cases h
  · cases h

theorem x_alloc {t : TypeId} {l : List Value} (hl : zeroP Γ.P t = some l) :
    Op1 Γ ⟨d, .alloc t, ty, pos, af, g⟩ e H (fun u H' => ∃ b, u = .pointer (some ⟨b, 0, none⟩) ∧ H' = (b, blk l t) :: H) := by
  intro w hw
  obtain ⟨z, hz, hc⟩ := run_zero hl w
  refine opW_run (v := .pointer (some ⟨w.heap.size, 0, none⟩)) (w' := w.alloc (blk l t)) ?_ ⟨_, hw.alloc _, _, rfl, rfl⟩
  simp [execOp, Instr.alloc, Sem.run_bind, hz, newVar, newRow, newObj, hc]
  rfl

/-! loads -/
theorem run_load {P : Program} {t : TypeId} {x : Operand} {b off : Nat} {v : Value} (hx : vnf (ev e x) = some (.pointer (some ⟨b, off, none⟩))) (hs : scalarB P t = true) {w : World}
    (hc : w.cell? ⟨b, off, none⟩ = some v) : (execOp (ev e) ⟨d, .load t x, ty, pos, af, g⟩).run P w = .ok (.value v) w := by
  have hx := vnf_eq hx
  simp [execOp, Instr.loadAt, Instr.sureAddr, hx, loadVar, Sem.run_bind, run_isAgg_s hs, load, Sem.run, hc]

theorem x_load {t : TypeId} {x : Operand} {b off : Nat} {v : Value} (hx : vnf (ev e x) = some (.pointer (some ⟨b, off, none⟩))) (hs : scalarB Γ.P t = true)
    (hc : ∀ w, St Γ.w0 Γ.ms H w → w.cell? ⟨b, off, none⟩ = some v) : Op1 Γ ⟨d, .load t x, ty, pos, af, g⟩ e H (fun u H' => u = v ∧ H' = H) :=
  fun w hw => opW_run (run_load hx hs (hc w hw)) ⟨H, hw, rfl, rfl⟩

theorem run_loadA {P : Program} {t : TypeId} {x : Operand} {b off : Nat} {l : List Value} (hx : vnf (ev e x) = some (.pointer (some ⟨b, off, none⟩))) (hs : aggB P t = true) (hn : sizeP P t = some l.length) {w : World}
    (hc : Row w b off l) : (execOp (ev e) ⟨d, .load t x, ty, pos, af, g⟩).run P w = .ok (.value (.agg l.toArray)) w := by
  have hx := vnf_eq hx
  have hl := run_loadCells_list (P := P) w ⟨b, off, none⟩ l hc.add
  simp [execOp, Instr.loadAt, Instr.sureAddr, hx, loadVar, Sem.run_bind, run_isAgg_a hs, run_sizeOf hn, hl]

theorem x_loadA {t : TypeId} {x : Operand} {b off : Nat} {l : List Value} (hx : vnf (ev e x) = some (.pointer (some ⟨b, off, none⟩))) (hs : aggB Γ.P t = true) (hn : sizeP Γ.P t = some l.length)
    (hc : ∀ w, St Γ.w0 Γ.ms H w → Row w b off l) : Op1 Γ ⟨d, .load t x, ty, pos, af, g⟩ e H (fun u H' => u = .agg l.toArray ∧ H' = H) :=
  fun w hw => opW_run (run_loadA hx hs hn (hc w hw)) ⟨H, hw, rfl, rfl⟩

/-! what a heap gives -/
theorem at_own {w0 : World} {ms : List Nat} {b : Nat} {l : List Value} {t : TypeId} {fr : Nat × Nat} {off : Nat} {v : Value} (hm : (b, Obj.cells l.toArray t fr) ∈ H) (hv : l[off]? = some v) :
    ∀ w, St w0 ms H w → w.cell? ⟨b, off, none⟩ = some v := fun w hw => by rw [cell_blk (hw.own_blk hm)]; simpa using hv
theorem at_old {w0 : World} {ms : List Nat} {b off : Nat} {v : Value} (hc : w0.cell? ⟨b, off, none⟩ = some v) (hb : b ∉ ms) : ∀ w, St w0 ms H w → w.cell? ⟨b, off, none⟩ = some v := fun w hw => by
  unfold World.cell? at hc ⊢
  simp only at hc ⊢
  cases hq : w0.heap[b]? with
  | none => simp [hq] at hc
  | some o => rw [hw.old hq hb]; rw [hq] at hc; exact hc
theorem row_own {w0 : World} {ms : List Nat} {b : Nat} {l : List Value} {t : TypeId} {fr : Nat × Nat} (hm : (b, Obj.cells l.toArray t fr) ∈ H) : ∀ w, St w0 ms H w → Row w b 0 l := fun _ hw => Row.all (hw.own_blk hm)
theorem row_old {w0 : World} {ms : List Nat} {b off : Nat} {l : List Value} (hr : Row w0 b off l) (hb : b ∉ ms) : ∀ w, St w0 ms H w → Row w b off l := fun _ hw j v hv => at_old (hr j v hv) hb _ hw

/-! stores -/
def putL (l : List Value) (off : Nat) (vs : List Value) : List Value := l.take off ++ vs ++ l.drop (off + vs.length)

theorem St.setAt {w0 w w' : World} {ms : List Nat} {H : Heap} {i b : Nat} {o o' : Obj} (h : St w0 ms H w) (hi : H[i]? = some (b, o))
    (h1 : w'.os = w.os) (h2 : w'.tape = w.tape) (h3 : w'.output = w.output) (h4 : w'.heap.size = w.heap.size)
    (h5 : ∀ k, k ≠ b → w'.heap[k]? = w.heap[k]?) (h6 : w'.heap[b]? = some o') : St w0 ms (H.set i (b, o')) w' := by
  have hlt : i < H.length := (List.getElem?_eq_some_iff.1 hi).1
  have hget : H[i] = (b, o) := (List.getElem?_eq_some_iff.1 hi).2
  have hsplit : H = H.take i ++ (b, o) :: H.drop (i + 1) := by
    rw [← hget, List.getElem_cons_drop, List.take_append_drop]
  have hset : H.set i (b, o') = H.take i ++ (b, o') :: H.drop (i + 1) := by
    rw [List.set_eq_take_append_cons_drop, if_pos hlt]
  rw [hset]
  have h' : St w0 ms ((b, o) :: (H.take i ++ H.drop (i + 1))) w := h.perm (by
    conv => lhs; rw [hsplit]
    exact List.perm_middle)
  exact (h'.turn h1 h2 h3 h4 h5 h6).perm List.perm_middle.symm

theorem x_store {t : TypeId} {x y : Operand} {b off : Nat} {v : Value} {vs l : List Value} {T : TypeId} (i : Nat)
    (hx : vnf (ev e x) = some (.pointer (some ⟨b, off, none⟩))) (hy : vnf (ev e y) = some v) (hv : cellsF v = some vs) (hn : sizeP Γ.P t = some vs.length) (h1 : ones vs = true)
    (hi : H[i]? = some (b, blk l T)) (hl : off + vs.length ≤ l.length) :
    Op1 Γ ⟨d, .store t x y, ty, pos, af, g⟩ e H (fun u H' => u = undef ∧ H' = H.set i (b, blk (putL l off vs) T)) := by
  intro w hw
  have hx := vnf_eq hx
  have hy := vnf_eq hy
  have hg : w.heap[b]? = some (blk l T) := hw.own_blk (List.mem_of_getElem? hi)
  have hst := run_storeCells_at Γ.P b off T vs 0 l.toArray w hg (by simpa using hl) (by simpa [ones] using h1)
  simp only [Nat.add_zero] at hst
  have hc := cellsF_eq hv
  refine opW_skip (w' := w.setRow b (putL l off vs).toArray) ?_ ⟨_, ?_, rfl, rfl⟩
  · simp [execOp, Instr.storeAt, Instr.sureAddr, hx, hy, storeVar, Sem.run_bind, run_sizeOf hn, hc, hst, putL]
  · exact hw.setAt hi rfl rfl rfl (by simp [World.setRow]) (fun k hk => setRow_other w b k _ hk) (setRow_heap w b _ _ T _ hg)

/-! slices -/
theorem x_buildSlice {t el : TypeId} {len n : Nat} {parts : Array (Nat × Operand)} {ps : List (Nat × Value)} {l : List Value} {z : List Value}
    (hu : Γ.P.underlying t = some (.slice el)) (hp : (parts.map fun (i, x) => (i, ev e x)).toList = ps) (hn : sizeP Γ.P el = some n) (hsm : Nat.ble (len * n) 16777216 = true) (hpos : Nat.ble 1 (len * n) = true)
    (hz : zeroP Γ.P el = some z)
    (hf : Instr.fill (fun i => some (i * n, n)) ((Array.range (len * n)).map (z.toArray[· % z.toArray.size]!)) ps = some l.toArray) :
    Op1 Γ ⟨d, .buildSlice t len parts, ty, pos, af, g⟩ e H (fun u H' => ∃ b, u = .slice (some ⟨b, 0, none⟩) len len ∧ H' = (b, blk l el) :: H) := by
  intro w hw
  have h2 : ¬ len * n = 0 := by have := Nat.le_of_ble_eq_true hpos; omega
  have h3 : ¬ len * n > 2 ^ 24 := by have := Nat.le_of_ble_eq_true hsm; omega
  obtain ⟨zv, hzv, hzc⟩ := run_zero hz w
  refine opW_run (v := .slice (some ⟨w.heap.size, 0, none⟩) len len) (w' := w.alloc (blk l el)) ?_ ⟨_, hw.alloc _, _, rfl, rfl⟩
  subst hp
  have key : (Instr.buildSlice t len (parts.map fun (i, x) => (i, ev e x))).run Γ.P w = .ok (.slice (some ⟨w.heap.size, 0, none⟩) len len) (w.alloc (blk l el)) := by
    unfold Instr.buildSlice
    simp only [Sem.run_bind, run_underlying hu, run_sizeOf hn, Result.andThen_ok, h2, h3, if_false, hzv, hzc, hf, Sem.run_pure]
    rfl
  simp only [execOp, Sem.run_bind, key, Result.andThen_ok, Sem.run_pure]

end
end Go.VV
