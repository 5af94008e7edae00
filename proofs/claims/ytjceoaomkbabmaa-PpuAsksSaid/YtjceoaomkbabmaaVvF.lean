/- The rules as they are used: one operation with its result; loads in a region that draws; copy; results in memory. Plain lemmas; no program. -/
import Derived.Test.YtjceoaomkbabmaaVvE
namespace Go.VV
open Go Go.RowKit

section
variable {P : Program} {Γ : Ctx} {k : Kont} {e : Env} {H F : Heap} {ops rest : List Oper} {d : Option Nat} {op : Op} {t : TypeId} {pos : String} {af : Array Edge} {g : Option (Nat × Bool)}
  {need : List Nat} {pl : Plan} {i : Nat}

theorem l_x {K : Value → Heap → Prop} (hop : Op1 Γ ⟨d, op, t, pos, af, g⟩ e H K) (hg : gdB ops e ⟨d, op, t, pos, af, g⟩ = true) (hd : dstOk Γ.n d = true)
    (hk : ∀ v H', K v H' → L1 Γ ops rest k (e.put d v) H') : L1 Γ ops (⟨d, op, t, pos, af, g⟩ :: rest) k e H := l_op hg hd hop hk

theorem l_l {v : Value} (hl : light Γ.P e ⟨d, op, t, pos, af, g⟩ = some v) (hg : gdB ops e ⟨d, op, t, pos, af, g⟩ = true) (hd : dstOk Γ.n d = true)
    (h : L1 Γ ops rest k (e.put d v) H) : L1 Γ ops (⟨d, op, t, pos, af, g⟩ :: rest) k e H := l_light hl hg hd h

theorem l_b {b : Bool} (hl : light Γ.P e ⟨d, op, t, pos, af, g⟩ = some (.bool b)) (hg : gdB ops e ⟨d, op, t, pos, af, g⟩ = true) (hd : dstOk Γ.n d = true)
    (ht : b = true → L1 Γ ops rest k (e.put d (.bool true)) H) (hf : b = false → L1 Γ ops rest k (e.put d (.bool false)) H) : L1 Γ ops (⟨d, op, t, pos, af, g⟩ :: rest) k e H := l_bool hl hg hd ht hf

theorem l_p (hg : gdB ops e ⟨d, op, t, pos, af, g⟩ = false) (hd : dstOk Γ.n d = true)
    (h : L1 Γ ops rest k (e.put d undef) H) : L1 Γ ops (⟨d, op, t, pos, af, g⟩ :: rest) k e H := l_pass hg hd h

/-- One that is carried out in its place; where it must, it leaves the entries F. -/
theorem d_x {K : Value → Heap → Prop} (ho : ops[i]? = some ⟨d, op, t, pos, af, g⟩) (hop : Op1 Γ ⟨d, op, t, pos, af, g⟩ e H K) (hg : gdB ops e ⟨d, op, t, pos, af, g⟩ = true) (hd : dstOk Γ.n d = true)
    (hn : need.any (Nat.beq i) = true → ∀ v H', K v H' → ∀ x ∈ F, x ∈ H')
    (hk : ∀ v H', K v H' → L2 Γ ops (Stood Γ F) need pl k (e.put d v) H') : L2 Γ ops (Stood Γ F) need (.step false i pl) k e H :=
  d_op ho hg hd hop (fun hx v H' _ hK hw => ⟨H', hw, hn hx v H' hK⟩) hk

/-- One that only computes, in its place. -/
theorem d_xl {v : Value} (ho : ops[i]? = some ⟨d, op, t, pos, af, g⟩) (hl : light Γ.P e ⟨d, op, t, pos, af, g⟩ = some v) (hg : gdB ops e ⟨d, op, t, pos, af, g⟩ = true) (hd : dstOk Γ.n d = true)
    (hn : need.any (Nat.beq i) = true → ∀ x ∈ F, x ∈ H)
    (hk : L2 Γ ops (Stood Γ F) need pl k (e.put d v) H) : L2 Γ ops (Stood Γ F) need (.step false i pl) k e H :=
  d_x (K := fun u H' => u = v ∧ H' = H) ho (fun _ hw => opW_light hl ⟨H, hw, rfl, rfl⟩) hg hd (by rintro hx _ _ ⟨rfl, rfl⟩; exact hn hx) (by rintro _ _ ⟨rfl, rfl⟩; exact hk)

theorem s_own {b : Nat} {l : List Value} {T : TypeId} {fr : Nat × Nat} {off : Nat} {v : Value} (hm : (b, Obj.cells l.toArray T fr) ∈ F) (hv : l[off]? = some v) :
    ∀ w, Stood Γ F w → w.cell? ⟨b, off, none⟩ = some v := fun w ⟨_, hw, hF⟩ => at_own (hF _ hm) hv w hw
theorem s_old {b off : Nat} {v : Value} (hc : Γ.w0.cell? ⟨b, off, none⟩ = some v) (hb : b ∉ Γ.ms) : ∀ w, Stood Γ F w → w.cell? ⟨b, off, none⟩ = some v :=
  fun w ⟨_, hw, _⟩ => at_old hc hb w hw
theorem srow_own {b : Nat} {l : List Value} {T : TypeId} {fr : Nat × Nat} (hm : (b, Obj.cells l.toArray T fr) ∈ F) : ∀ w, Stood Γ F w → Row w b 0 l := fun w ⟨_, hw, hF⟩ => row_own (hF _ hm) w hw
theorem srow_old {b off : Nat} {l : List Value} (hr : Row Γ.w0 b off l) (hb : b ∉ Γ.ms) : ∀ w, Stood Γ F w → Row w b off l := fun w ⟨_, hw, _⟩ => row_old hr hb w hw

theorem d_load {T : TypeId} {x : Operand} {b off : Nat} {v : Value} (ho : ops[i]? = some ⟨d, .load T x, t, pos, af, g⟩) (hx : vnf (ev e x) = some (.pointer (some ⟨b, off, none⟩))) (hs : scalarB Γ.P T = true)
    (hc : ∀ w, Stood Γ F w → w.cell? ⟨b, off, none⟩ = some v)
    (hg : gdB ops e ⟨d, .load T x, t, pos, af, g⟩ = true) (hd : dstOk Γ.n d = true)
    (h : L2 Γ ops (Stood Γ F) need pl k (e.put d v) H) : L2 Γ ops (Stood Γ F) need (.step true i pl) k e H :=
  d_yield ho hg hd (fun w hS => run_load hx hs (hc w (hS rfl))) h

theorem d_loadA {T : TypeId} {x : Operand} {b off : Nat} {l : List Value} (ho : ops[i]? = some ⟨d, .load T x, t, pos, af, g⟩) (hx : vnf (ev e x) = some (.pointer (some ⟨b, off, none⟩))) (hs : aggB Γ.P T = true) (hn : sizeP Γ.P T = some l.length)
    (hc : ∀ w, Stood Γ F w → Row w b off l)
    (hg : gdB ops e ⟨d, .load T x, t, pos, af, g⟩ = true) (hd : dstOk Γ.n d = true)
    (h : L2 Γ ops (Stood Γ F) need pl k (e.put d (.agg l.toArray)) H) : L2 Γ ops (Stood Γ F) need (.step true i pl) k e H :=
  d_yield ho hg hd (fun w hS => run_loadA hx hs hn (hc w (hS rfl))) h

/-- A call that turns nothing that there was. -/
theorem x_call {f : Nat} {l : List Operand} {ts : Array TypeId} {vs : List Value} (hc : callable Γ.P f = true) (hv : evs e l = some vs) {R : Value → Heap → Prop}
    (hf : ∀ w, St Γ.w0 Γ.ms H w → Does Γ.P f vs w [] R) :
    Op1 Γ ⟨d, .call ⟨.value (.func f), l.toArray, ts⟩, t, pos, af, g⟩ e H (fun v H2 => ∃ H', R v H' ∧ H2 = H' ++ H) :=
  fun w hw => opW_call (F := []) (G := H) [] hc hv hw (by simp) (hf w hw) fun _ _ _ h1 _ h2 => ⟨_, h2, _, h1, rfl⟩

/-- A call that turns the blocks 'ms2', which stand among the entries 'A'. -/
theorem x_callF {A G : Heap} {f : Nat} {l : List Operand} {ts : Array TypeId} {vs : List Value} (ms2 : List Nat) (hc : callable Γ.P f = true) (hv : evs e l = some vs) {R : Value → Heap → Prop}
    (hms : ∀ b ∈ ms2, ∃ o, (b, o) ∈ A) (hf : ∀ w, St Γ.w0 Γ.ms (A ++ G) w → Does Γ.P f vs w ms2 R) :
    Op1 Γ ⟨d, .call ⟨.value (.func f), l.toArray, ts⟩, t, pos, af, g⟩ e (A ++ G) (fun v H2 => ∃ H', R v H' ∧ H2 = H' ++ G) :=
  fun w hw => opW_call (F := A) (G := G) ms2 hc hv hw hms (hf w hw) fun _ _ _ h1 _ h2 => ⟨_, h2, _, h1, rfl⟩

/-- copy(dst, src), elements of one cell. -/
theorem x_copy {x y : Operand} {ts : Array TypeId} {tx ty el : TypeId} {b off dl dc m : Nat} {u : Value} {l ys : List Value} {T : TypeId} (i : Nat)
    (hx : vnf (ev e x) = some (.slice (some ⟨b, off, none⟩) dl dc)) (hy : ev e y = u) (hts : ts = #[tx, ty]) (hu : slcP Γ.P tx = some (el, 1))
    (hi : H[i]? = some (b, blk l T)) (hs : ∀ w, St Γ.w0 Γ.ms H w → Src w 1 u m ys) (h1 : ones ys = true) (hl : off + min m dl ≤ l.length) :
    Op1 Γ ⟨d, .call ⟨.builtin .copy, #[x, y], ts⟩, t, pos, af, g⟩ e H (fun v H' => v = .int .i64 (min m dl : Nat) ∧ H' = H.set i (b, blk (putL l off (ys.take (min m dl))) T)) := by
  intro w hw
  subst hts hy
  obtain ⟨g1, g2⟩ := slcP_spec hu
  have hx := vnf_eq hx
  have hg : w.heap[b]? = some (blk l T) := hw.own_blk (List.mem_of_getElem? hi)
  have hs' := hs w hw
  generalize hue : ev e y = u at hs'
  cases hs' with
  | row b2 off2 m c ys hn hr =>
    have hlen : (ys.take (min m dl)).length = min m dl := by rw [List.length_take]; omega
    have hrun := run_copy_row (P := Γ.P) w tx ty t el b off dl dc ⟨b2, off2, none⟩ m c l.toArray T (ys.take (min m dl)) g1 g2 hg (by rw [hlen])
      (fun j v hv => hr.add j v (by
        rw [List.getElem?_take] at hv
        split at hv
        · exact hv
        · cases hv)) (by rw [hlen]; simpa using hl) (fun v hv => by
        have := List.mem_of_mem_take hv
        exact List.all_eq_true.1 h1 v this)
    rw [hlen] at hrun
    refine opW_run (v := .int .i64 (min m dl : Nat)) (w' := w.setRow b (putL l off (ys.take (min m dl))).toArray) ?_ ⟨_, ?_, rfl, rfl⟩
    · have e1 : putL l off (ys.take (min m dl)) = l.take off ++ ys.take (min m dl) ++ l.drop (off + min m dl) := by rw [putL, hlen]
      rw [e1]
      simp only [execOp, resolve, Sem.run_bind, Sem.run_pure, Result.andThen_ok, invoke, builtin, List.map_toArray, List.map_cons, List.map_nil, hx, hue, hrun]
      rfl
    · exact hw.setAt hi rfl rfl rfl (by simp [World.setRow]) (fun k hk => setRow_other w b k _ hk) (setRow_heap w b _ _ T _ hg)

theorem rets_v {s : Nat} {w : World} {v : Value} (h : vnf (e s) = some v) : Rets P [.tmp s] e w v := rets_one (vnf_eq h)
theorem rets_v2 {s u : Nat} {w : World} {v1 v2 : Value} (h1 : vnf (e s) = some v1) (h2 : vnf (e u) = some v2) : Rets P [.tmp s, .tmp u] e w (.tuple #[v1, v2]) := rets_two (vnf_eq h1) (vnf_eq h2)
theorem rets_v3 {s u r : Nat} {w : World} {v1 v2 v3 : Value} (h1 : vnf (e s) = some v1) (h2 : vnf (e u) = some v2) (h3 : vnf (e r) = some v3) : Rets P [.tmp s, .tmp u, .tmp r] e w (.tuple #[v1, v2, v3]) := rets_three (vnf_eq h1) (vnf_eq h2) (vnf_eq h3)

theorem rets_cell {a b : Nat} {T : TypeId} {l : List Value} {w : World} (h : vnf (e a) = some (.pointer (some ⟨b, 0, none⟩))) (hs : aggB P T = true) (hn : sizeP P T = some l.length) (hr : Row w b 0 l) :
    Rets P [.cell a T] e w (.agg l.toArray) := by
  have h := vnf_eq h
  have hl := run_loadCells_list (P := P) w ⟨b, 0, none⟩ l hr.add
  simp [Rets, resOf, h, asAddr, loadVar, Sem.run_bind, run_isAgg_a hs, run_sizeOf hn, hl]
theorem rets_cell2 {a b s : Nat} {T : TypeId} {l : List Value} {v : Value} {w : World} (h : vnf (e a) = some (.pointer (some ⟨b, 0, none⟩))) (hs : aggB P T = true) (hn : sizeP P T = some l.length) (hr : Row w b 0 l) (h2 : vnf (e s) = some v) :
    Rets P [.cell a T, .tmp s] e w (.tuple #[.agg l.toArray, v]) := by
  have h := vnf_eq h
  have hl := run_loadCells_list (P := P) w ⟨b, 0, none⟩ l hr.add
  have h2 := vnf_eq h2
  simp [Rets, resOf, h, h2, asAddr, loadVar, Sem.run_bind, run_isAgg_a hs, run_sizeOf hn, hl]

/-- The end of a body, entries that are no longer wanted dropped. -/
theorem l_end {Γ : Ctx} {rs : List ResultVar} {R : Value → Heap → Prop} {H' : Heap} {v : Value} (hr : ∀ w, St Γ.w0 Γ.ms H w → Rets Γ.P rs e w v)
    (hh : H'.Sublist H) (h : R v H') : Ends Γ rs R e H := ends_of hr (fun _ hw => hw.sub hh) h
theorem l_end0 {Γ : Ctx} {rs : List ResultVar} {R : Value → Heap → Prop} {v : Value} (hr : ∀ w, St Γ.w0 Γ.ms H w → Rets Γ.P rs e w v) (h : R v []) : Ends Γ rs R e H := l_end hr (List.nil_sublist _) h
end
end Go.VV
