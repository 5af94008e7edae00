/- More rules: tests that are sure, make, lists that are handed on. Plain lemmas; no program. -/
import Derived.Test.YtjceoaomkbabmaaVvN
import Derived.Room.Entries
namespace Go.VV
open Go

section
variable {P : Program} {Γ : Ctx} {k : Kont} {e : Env} {H F : Heap} {ops rest : List Oper} {d : Option Nat} {op : Op} {t : TypeId} {pos : String} {af : Array Edge} {g : Option (Nat × Bool)}
  {need : List Nat} {pl : Plan} {i : Nat}

theorem l_sure {b : Bool} (c : Bool) (hl : light Γ.P e ⟨d, op, t, pos, af, g⟩ = some (.bool b)) (hg : gdB ops e ⟨d, op, t, pos, af, g⟩ = true) (hd : dstOk Γ.n d = true) (hb : b = c)
    (h : L1 Γ ops rest k (e.put d (.bool c)) H) : L1 Γ ops (⟨d, op, t, pos, af, g⟩ :: rest) k e H := by subst hb; exact l_l hl hg hd h
theorem d_sure {b : Bool} {S : World → Prop} (c : Bool) (ho : ops[i]? = some ⟨d, op, t, pos, af, g⟩) (hl : light Γ.P e ⟨d, op, t, pos, af, g⟩ = some (.bool b)) (hg : gdB ops e ⟨d, op, t, pos, af, g⟩ = true) (hd : dstOk Γ.n d = true) (hb : b = c)
    (h : L2 Γ ops S need pl k (e.put d (.bool c)) H) : L2 Γ ops S need (.step true i pl) k e H := by subst hb; exact d_light ho hl rfl hg hd h
theorem c_sure {c : Operand} {x y : Code} {t : Bool} (b : Bool) (hc : ev e c = .bool t) (hb : t = b) (h : C Γ (if b then x else y) k e H) : C Γ (.cond c x y) k e H := by
  subst hb
  exact c_cond hc (fun ht => by rw [ht] at h; exact h) (fun ht => by rw [ht] at h; exact h)

/-- An operation whose value we name otherwise. -/
theorem l_as {v u : Value} (hl : light Γ.P e ⟨d, op, t, pos, af, g⟩ = some u) (hg : gdB ops e ⟨d, op, t, pos, af, g⟩ = true) (hd : dstOk Γ.n d = true) (hv : u = v)
    (h : L1 Γ ops rest k (e.put d v) H) : L1 Γ ops (⟨d, op, t, pos, af, g⟩ :: rest) k e H := by subst hv; exact l_l hl hg hd h
theorem d_as {v u : Value} {S : World → Prop} (ho : ops[i]? = some ⟨d, op, t, pos, af, g⟩) (hl : light Γ.P e ⟨d, op, t, pos, af, g⟩ = some u) (hu : notTuple u = true) (hg : gdB ops e ⟨d, op, t, pos, af, g⟩ = true) (hd : dstOk Γ.n d = true) (hv : u = v)
    (h : L2 Γ ops S need pl k (e.put d v) H) : L2 Γ ops S need (.step true i pl) k e H := by subst hv; exact d_light ho hl hu hg hd h

/-- What is moved as it is. -/
theorem l_mv {x : Operand} {v : Value} (hx : ev e x = v) (hg : gdB ops e ⟨d, .move x, t, pos, af, g⟩ = true) (hd : dstOk Γ.n d = true)
    (h : L1 Γ ops rest k (e.put d v) H) : L1 Γ ops (⟨d, .move x, t, pos, af, g⟩ :: rest) k e H :=
  l_op (K := fun u H' => u = v ∧ H' = H) hg hd (fun _ hw => opW_run (by simp only [execOp]; rw [hx]; rfl) ⟨H, hw, rfl, rfl⟩) (by rintro _ _ ⟨rfl, rfl⟩; exact h)
theorem l_as' {x : Operand} {v : Value} (hx : ev e x = v) (hg : gdB ops e ⟨d, .assign x, t, pos, af, g⟩ = true) (hd : dstOk Γ.n d = true)
    (h : L1 Γ ops rest k (e.put d v) H) : L1 Γ ops (⟨d, .assign x, t, pos, af, g⟩ :: rest) k e H :=
  l_op (K := fun u H' => u = v ∧ H' = H) hg hd (fun _ hw => opW_run (by simp only [execOp]; rw [hx]; rfl) ⟨H, hw, rfl, rfl⟩) (by rintro _ _ ⟨rfl, rfl⟩; exact h)
theorem d_mv {S : World → Prop} {x : Operand} {v : Value} (ho : ops[i]? = some ⟨d, .move x, t, pos, af, g⟩) (hx : ev e x = v) (hg : gdB ops e ⟨d, .move x, t, pos, af, g⟩ = true) (hd : dstOk Γ.n d = true)
    (h : L2 Γ ops S need pl k (e.put d v) H) : L2 Γ ops S need (.step true i pl) k e H :=
  d_yield ho hg hd (fun w _ => by simp only [execOp]; rw [hx]; rfl) h
theorem d_as' {S : World → Prop} {x : Operand} {v : Value} (ho : ops[i]? = some ⟨d, .assign x, t, pos, af, g⟩) (hx : ev e x = v) (hg : gdB ops e ⟨d, .assign x, t, pos, af, g⟩ = true) (hd : dstOk Γ.n d = true)
    (h : L2 Γ ops S need pl k (e.put d v) H) : L2 Γ ops S need (.step true i pl) k e H :=
  d_yield ho hg hd (fun w _ => by simp only [execOp]; rw [hx]; rfl) h

/-- A call that hands back one value, and leaves all as it was. -/
theorem x_val {f : Nat} {l : List Operand} {ts : Array TypeId} {vs : List Value} {u : Value} (hc : callable Γ.P f = true) (hv : evs e l = some vs)
    (hf : ∀ w, St Γ.w0 Γ.ms H w → Does Γ.P f vs w [] (fun v H => H = [] ∧ v = u)) :
    Op1 Γ ⟨d, .call ⟨.value (.func f), l.toArray, ts⟩, t, pos, af, g⟩ e H (fun v H' => v = u ∧ H' = H) := fun w hw => by
  refine opW_mono (x_call hc hv hf w hw) ?_
  rintro v w' ⟨H', h1, H2, ⟨h2, h3⟩, h4⟩
  subst h2 h4
  exact ⟨_, h1, h3, rfl⟩

def byteP (P : Program) (el c : Nat) : Bool := match P.info? el with
  | some i => Nat.ble (c * i.bytes) 140737488355328 && Nat.blt 0 i.bytes
  | none => false
theorem byteP_spec {P : Program} {el c : Nat} (h : byteP P el c = true) : ∃ i, P.info? el = some i ∧ c * i.bytes ≤ 140737488355328 ∧ 0 < i.bytes := by
  unfold byteP at h
  split at h
  · rename_i i hi
    simp only [Bool.and_eq_true] at h
    exact ⟨i, hi, Nat.le_of_ble_eq_true h.1, Nat.lt_of_lt_of_le (Nat.zero_lt_one) (Nat.le_of_ble_eq_true h.2)⟩
  · cases h

/-- make([]T, n), n a constant. -/
theorem x_make {tt el n s : Nat} {x y : Operand} {k1 k2 : IntKind} {a b : Int} {z : List Value} {c : Nat} (hx : vnf (ev e x) = some (.int k1 a)) (hy : vnf (ev e y) = some (.int k2 b)) (ha : a = (n : Int)) (hb : b = (c : Int)) (hnc : n ≤ c)
    (hu : slcP Γ.P tt = some (el, s)) (hz : zeroP Γ.P el = some z) (hpos : Nat.blt 0 (c * s) = true) (hby : byteP Γ.P el c = true) :
    Op1 Γ ⟨d, .makeSlice tt x y, t, pos, af, g⟩ e H (fun u H' => ∃ b, u = .slice (some ⟨b, 0, none⟩) n c ∧ H' = (b, blk (repL (c * s) z) el) :: H) := by
  intro w hw
  obtain ⟨h1, h2⟩ := slcP_spec hu
  have hx := vnf_eq hx
  have hy := vnf_eq hy
  obtain ⟨zv, hzv, hzc⟩ := run_zero hz w
  obtain ⟨i, hi, hb2, hb3⟩ := byteP_spec hby
  have hpos : 0 < c * s := Nat.lt_of_lt_of_le (Nat.zero_lt_one) (Nat.le_of_ble_eq_true hpos)
  subst ha hb
  have hc : c ≤ 140737488355328 := Nat.le_trans (Nat.le_mul_of_pos_right c hb3) hb2
  have hw1 : IntKind.i64.wrap (n : Int) = n := wrap_i64 (by omega) (by omega)
  have hw2 : IntKind.i64.wrap (c : Int) = c := wrap_i64 (by omega) (by omega)
  have key : (Instr.makeSlice tt (.int k1 n) (.int k2 c)).run Γ.P w = .ok (.slice (some ⟨w.heap.size, 0, none⟩) n c) (w.alloc (blk (repL (c * s) z) el)) := by
    unfold Instr.makeSlice
    have e1 : (typeInfo el).run Γ.P w = .ok i w := by simp [typeInfo, hi]
    have e2 : ((i.bytes : Int) * (c : Int)) ≤ 140737488355328 := by
      rw [← Int.natCast_mul, Nat.mul_comm]; exact Int.ofNat_le.2 hb2
    have hbad : (decide ((c : Int) < 0) || decide ((i.bytes : Int) * (c : Int) > 281474976710656) || decide ((n : Int) < 0) || decide ((n : Int) > c)) = false := by
      simp only [Bool.or_eq_false_iff, decide_eq_false_iff_not]
      refine ⟨⟨⟨by omega, by omega⟩, by omega⟩, by omega⟩
    have hcz : ¬ c * s = 0 := by omega
    simp only [Sem.run_bind, run_underlying h1, Result.andThen_ok, asInt, asIntOf, Sem.run_pure, e1, hw1, hw2]
    have hpow : ((2 : Int) ^ 48) = 281474976710656 := by decide
    simp only [hpow, hbad, Bool.false_eq_true, if_false, Sem.run_bind, run_askRoom, run_sizeOf h2, Result.andThen_ok, Int.toNat_natCast, hcz, hzv, Sem.run_pure, hzc, repL_eq]
    rfl
  refine opW_run (v := .slice (some ⟨w.heap.size, 0, none⟩) n c) (w' := w.alloc (blk (repL (c * s) z) el)) ?_ ⟨_, hw.alloc _, _, rfl, rfl⟩
  simp only [execOp, hx, hy, Sem.run_bind, key, Result.andThen_ok, Sem.run_pure]

/-- What the blocks 'G' tell of a slice of numbers, wherever they are as they are. -/
def Gives (G : Heap) (k : IntKind) (a : Option Addr) (l : List Int) : Prop :=
  0 < l.length → ∃ b off, a = some ⟨b, off, none⟩ ∧ ∀ w : World, (∀ x ∈ G, w.heap[x.1]? = some x.2) → Row w b off (l.map (.int k))
theorem Gives.nil (G : Heap) (k : IntKind) (a : Option Addr) : Gives G k a [] := fun h => by simp at h
theorem Gives.ns {G H : Heap} {k : IntKind} {a : Option Addr} {l : List Int} {w0 w : World} {ms : List Nat} (h : Gives G k a l) (hw : St w0 ms H w) (hs : ∀ x ∈ G, x ∈ H) : Ns w k a l := fun hl => by
  obtain ⟨b, off, ha, hr⟩ := h hl
  exact ⟨b, off, ha, hr w fun x hx => hw.holds x (hs x hx)⟩
theorem Gives.row {G : Heap} {k : IntKind} {a : Option Addr} {l : List Int} (h : Gives G k a l) {i : Nat} (hi : i < l.length) :
    ∃ b off, a = some ⟨b, off, none⟩ ∧ ∀ w : World, (∀ x ∈ G, w.heap[x.1]? = some x.2) → Row w b off (l.map (.int k)) := h (by omega)
theorem at_gives {G : Heap} {w0 : World} {ms : List Nat} {k : IntKind} {b off : Nat} {l : List Int} (hr : ∀ w : World, (∀ x ∈ G, w.heap[x.1]? = some x.2) → Row w b off (l.map (.int k))) (hs : ∀ x ∈ G, x ∈ H) {i : Nat} (hi : i < l.length) :
    ∀ w, St w0 ms H w → w.cell? ⟨b, off + i, none⟩ = some (.int k (l.getD i 0)) := fun w hw => (hr w fun x hx => hw.holds x (hs x hx)).int hi
theorem s_gives {G : Heap} {k : IntKind} {b off : Nat} {l : List Int} (hr : ∀ w : World, (∀ x ∈ G, w.heap[x.1]? = some x.2) → Row w b off (l.map (.int k))) (hs : ∀ x ∈ G, x ∈ F) {i : Nat} (hi : i < l.length) :
    ∀ w, Stood Γ F w → w.cell? ⟨b, off + i, none⟩ = some (.int k (l.getD i 0)) := fun _ ⟨_, hw, hF⟩ => at_gives hr (fun x hx => hF x (hs x hx)) hi _ hw
/-- A list of numbers that is handed on. -/
def Lst (k : IntKind) (l : List Int) (v : Value) (H : Heap) : Prop := ∃ a c, v = .slice a l.length c ∧ l.length ≤ c ∧ Gives H k a l
theorem Lst.nil {k : IntKind} : Lst k [] (.slice none 0 0) [] := ⟨none, 0, rfl, Nat.le_refl _, .nil _ _ _⟩
theorem Lst.of_row {k : IntKind} {l : List Int} {b n c T : Nat} {L : List Value} {fr : Nat × Nat} (hn : n = l.length) (hc : l.length ≤ c) (hl : ∀ (j : Nat) (v : Value), (l.map (Value.int k))[j]? = some v → L[j]? = some v) :
    Lst k l (.slice (some ⟨b, 0, none⟩) n c) [(b, .cells L.toArray T fr)] := by
  subst hn
  refine ⟨_, c, rfl, hc, fun _ => ⟨b, 0, rfl, fun w hw => ?_⟩⟩
  exact Row.of_blk (cs := L.toArray) (t := T) (fr := fr) (hw _ (.head _)) (fun j v hv => by simpa using hl j v hv)
theorem repL_one (n : Nat) (z : Value) : repL n [z] = List.replicate n z := by
  apply List.ext_getElem
  · simp [repL]
  · intro i h1 h2
    simp [repL, Nat.mod_one]
theorem Lst.of_vec {k : IntKind} {l : List Int} {T n : Nat} {v : Value} {G : Heap} (h : Vec T 1 v n (l.map (.int k)) G) : Lst k l v G := by
  have hl : l.length = n := by have := h.len; simpa using this
  generalize hx : l.map (Value.int k) = xs at h
  cases h with
  | nil =>
    have : l = [] := List.eq_nil_of_length_eq_zero hl
    subst this; exact .nil
  | row b _ cap _ sp hn hc hm hle =>
    refine Lst.of_row hl.symm (by omega) (fun j v hv => ?_)
    rw [hx] at hv
    have hj : j < xs.length := by
      rcases Nat.lt_or_ge j xs.length with h1 | h1
      · exact h1
      · rw [List.getElem?_eq_none h1] at hv; cases hv
    rw [List.getElem?_append_left hj]; exact hv
end
end Go.VV
