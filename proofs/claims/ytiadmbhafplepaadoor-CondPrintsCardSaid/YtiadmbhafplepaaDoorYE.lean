/- Functions for which the model stands in; a string's bytes copied; unsafe.String. Plain lemmas; no program. -/
import Derived.Laws.Externs
import Derived.Lib.BufferWrite
import Derived.Lib.ConvBytes
import Derived.Test.YtiadmbhafplepaaDoorYB
import Derived.Test.YtiadmbhafplepaaDoorYC
namespace Go.VV
open Go Go.RowKit
section
variable {Γ : Ctx} {e : Env} {H : Heap} {d : Option Nat} {t : TypeId} {pos : String} {af : Array Edge} {g : Option (Nat × Bool)}
/-- A function without a body, for which the model stands in. -/
theorem x_ext {f : Nat} {fn : Func} {l : List Operand} {ts : Array TypeId} {vs : List Value} {E : Array Value → Sem Value} {u : Value} (hf : Γ.P.funcs[f]? = some fn) (hname : (fn.name == "runtime.NumGoroutine") = false)
    (hb : fn.body.isNone = true) (hn : Extern.findNext fn = none) (he : Extern.find fn = some E) (hv : evs e l = some vs) (hr : ∀ w, (E vs.toArray).run Γ.P w = .ok u w) :
    Op1 Γ ⟨d, .call ⟨.value (.func f), l.toArray, ts⟩, t, pos, af, g⟩ e H (fun v H' => v = u ∧ H' = H) := by
  intro w hw
  refine opW_run (v := u) (w' := w) ?_ ⟨H, hw, rfl, rfl⟩
  have hargs : l.map (ev e) = vs := evs_eq hv
  have h1 := run_callFunc_extern hf hname hb hn he vs.toArray w
  rw [hr w] at h1
  simp only [Result.andThen_ok] at h1
  subst hargs
  simp [execOp, resolve, Deferred.ofValue, ev, invoke, h1]
/-- copy(dst, s): a string's bytes that fit. -/
theorem x_copyS {x y : Operand} {ts : Array TypeId} {tx ty el : TypeId} {b off dl dc : Nat} {a : List UInt8} {l : List Value} {T : TypeId} (i : Nat)
    (hx : vnf (ev e x) = some (.slice (some ⟨b, off, none⟩) dl dc)) (hy : vnf (ev e y) = some (.string (bs a))) (hts : ts = #[tx, ty]) (hu : slcP Γ.P tx = some (el, 1))
    (hi : H[i]? = some (b, blk l T)) (ha : a.length ≤ dl) (hl : off + a.length ≤ l.length) :
    Op1 Γ ⟨d, .call ⟨.builtin .copy, #[x, y], ts⟩, t, pos, af, g⟩ e H (fun v H' => v = .int .i64 a.length ∧ H' = H.set i (b, blk (l.take off ++ a.map (fun c => .int .u8 c.toNat) ++ l.drop (off + a.length)) T)) := by
  intro w hw
  subst hts
  obtain ⟨g1, g2⟩ := slcP_spec hu
  have hx := vnf_eq hx
  have hy := vnf_eq hy
  have hg : w.heap[b]? = some (blk l T) := hw.own_blk (List.mem_of_getElem? hi)
  have hrun := Lib.run_copy_row_string (P := Γ.P) w tx ty t el b off dl dc (bs a) l.toArray T g1 g2 hg (by rw [bs_size]; exact ha) (by rw [bs_size]; simpa using hl)
  refine opW_run (v := .int .i64 a.length) (w' := w.setRow b (l.take off ++ a.map (fun c => Value.int .u8 c.toNat) ++ l.drop (off + a.length)).toArray) ?_ ⟨_, ?_, rfl, rfl⟩
  · simp only [execOp, resolve, Sem.run_bind, Sem.run_pure, Result.andThen_ok, invoke, builtin, List.map_toArray, List.map_cons, List.map_nil, hx, hy, hrun]
    rfl
  · exact hw.setAt hi rfl rfl rfl (by simp [World.setRow]) (fun k hk => setRow_other w b k _ hk) (setRow_heap w b _ _ T _ hg)
/-- unsafe.String over the head of a block of one's own: its bytes. -/
theorem x_ustr {x y : Operand} {ts : Array TypeId} {pt it el : TypeId} {b : Nat} {a : List UInt8} {sp : List Value} (hx : vnf (ev e x) = some (.pointer (some ⟨b, 0, none⟩))) (hy : vnf (ev e y) = some (.int .i64 a.length)) (hts : ts = #[pt, it])
    (hp : Γ.P.underlying pt = some (.pointer el)) (hc : Γ.P.cellsOf el = 1) (h0 : a ≠ []) (hl : a.length ≤ 1000000) :
    Op1 Γ ⟨d, .call ⟨.builtin .unsafeString, #[x, y], ts⟩, t, pos, af, g⟩ e ((b, blk (a.map (fun c => .int .u8 c.toNat) ++ sp) el) :: H) (fun v H' => v = .string (bs a) ∧ ∃ o, H' = (b, o) :: H) := by
  intro w hw
  subst hts
  have hx := vnf_eq hx
  have hy := vnf_eq hy
  have hg : w.heap[b]? = some (blk (a.map (fun c => .int .u8 c.toNat) ++ sp) el) := hw.own_blk (.head _)
  have hpos := List.length_pos_iff.2 h0
  have hsh : w.shape? b = some (el, (a.map (fun c => Value.int .u8 c.toNat) ++ sp).toArray.size) := by unfold World.shape?; rw [hg]
  have hrun := Lib.run_unsafeString_row (P := Γ.P) (w := w) pt it t el hp hc b _ hsh a h0 (by simp) (by omega) (fun j c hj => by
    have := row_own (H := (b, blk (a.map (fun c => .int .u8 c.toNat) ++ sp) el) :: H) (.head _) w hw j (.int .u8 c.toNat) (by
      rw [List.getElem?_append_left (by rw [List.length_map]; exact (List.getElem?_eq_some_iff.1 hj).1), List.getElem?_map, hj]; rfl)
    rw [add_mk, Nat.zero_add]
    simpa using this)
  refine opW_run (v := .string (bs a)) (w' := w.freeze ⟨b, 0, none⟩ a.length) ?_ ?_
  · simp only [execOp, resolve, Sem.run_bind, Sem.run_pure, Result.andThen_ok, invoke, builtin, List.map_toArray, List.map_cons, List.map_nil, hx, hy, hrun]
    rfl
  · refine ⟨(b, Obj.cells (a.map (fun c => Value.int .u8 c.toNat) ++ sp).toArray el (0, 0 + a.length)) :: H, ?_, rfl, _, rfl⟩
    refine hw.turn ?_ ?_ ?_ ?_ ?_ ?_
    all_goals unfold World.freeze; rw [if_neg (by omega)]
    · simp
    · intro k hk
      simp only
      rw [Array.getElem?_modify, if_neg (Ne.symm hk)]
    · simp only
      rw [Array.getElem?_modify, if_pos rfl, hg]
      rfl
/-- A call of a function value that is lent all that stands there. -/
theorem x_callVA {f : Nat} {x : Operand} {l : List Operand} {ts : Array TypeId} {A B vs : List Value} (hx : vnf (ev e x) = some (.func (.func f) A.toArray B.toArray)) (hc : callable Γ.P f = true) (hv : evs e l = some vs) {R : Value → Heap → Prop}
    (hf : ∀ w, St Γ.w0 Γ.ms H w → Does Γ.P f (A ++ vs ++ B) w (H.map (·.1)) R) :
    Op1 Γ ⟨d, .call ⟨.value x, l.toArray, ts⟩, t, pos, af, g⟩ e H (fun v H2 => R v H2) := by
  intro w hw
  have key := x_callVF (Γ := Γ) (e := e) (d := d) (t := t) (pos := pos) (af := af) (g := g) (ts := ts) (F := H) (G := []) (H.map (·.1)) hx hc hv (R := R) (fun _ hb => mem_fst hb) (fun w hw => hf w (by simpa using hw))
  have := key w (by simpa using hw)
  refine opW_mono this ?_
  rintro v w' ⟨H2, h1, H', h2, rfl⟩
  exact ⟨H', by simpa using h1, h2⟩
/-- []byte(s): the string's bytes, and room. -/
theorem x_byt {x : Operand} {dst el : TypeId} {a : List UInt8} (hx : vnf (ev e x) = some (.string (bs a))) (hs : Γ.P.underlying t = some .string) (hd : Γ.P.underlying dst = some (.slice el)) (he : Γ.P.underlying el = some (.int .u8)) {ty : TypeId} :
    Op1 Γ ⟨d, .convert t dst x, ty, pos, af, g⟩ e H (fun v H' => ∃ b c sp fr, v = .slice (some ⟨b, 0, none⟩) a.length c ∧ H' = (b, Obj.cells (a.map (fun c => Value.int .u8 c.toNat) ++ sp).toArray el fr) :: H) := by
  intro w hw
  have hx := vnf_eq hx
  have key := Lib.run_convert_string_bytes (P := Γ.P) w t dst el (bs a) hs hd he
  refine opW_run (v := .slice (some ⟨w.heap.size, 0, none⟩) a.length (grownCap w (bs a).size 0 el)) (w' := Lib.bytesWorld w el (bs a)) ?_ ⟨_, ?_, w.heap.size, _, List.replicate (grownCap w (bs a).size 0 el - a.length) (.int .u8 0), ((Lib.bytesCells w el (bs a)).size, (Lib.bytesCells w el (bs a)).size + 1), rfl, rfl⟩
  · simp only [execOp, hx, Sem.run_bind, key, Result.andThen_ok, Sem.run_pure]
    rfl
  · have h1 := (hw.drew).alloc (Obj.cells (Lib.bytesCells w el (bs a)) el (0, 0))
    have e1 : (Lib.bytesCells w el (bs a)) = (a.map (fun c : UInt8 => Value.int .u8 c.toNat) ++ List.replicate (grownCap w (bs a).size 0 el - a.length) (Value.int .u8 0)).toArray := by
      unfold Lib.bytesCells
      rw [bs_size]
      apply Array.ext'
      simp [bs]
    have hsz : (w.heap.size) = ({ w with drawn := w.drawn + 1 } : World).heap.size := rfl
    refine St.turn (o := Obj.cells (Lib.bytesCells w el (bs a)) el (0, 0)) (w := ({ w with drawn := w.drawn + 1 } : World).alloc (Obj.cells (Lib.bytesCells w el (bs a)) el (0, 0))) h1 ?_ ?_ ?_ ?_ ?_ ?_
    · unfold Lib.bytesWorld World.freeze; rw [if_neg (by decide)]; rfl
    · unfold Lib.bytesWorld World.freeze; rw [if_neg (by decide)]; rfl
    · unfold Lib.bytesWorld World.freeze; rw [if_neg (by decide)]; rfl
    · rw [Lib.bytesWorld_size]; simp [World.alloc]
    · intro k hk
      rcases Nat.lt_or_ge k w.heap.size with h | h
      · rw [Lib.bytesWorld_at_old w el (bs a) k h]
        simp [World.alloc, Array.getElem?_push, Nat.ne_of_lt h]
      · have h2 : w.heap.size < k := by omega
        rw [Array.getElem?_eq_none (by rw [Lib.bytesWorld_size]; omega), Array.getElem?_eq_none (by simp [World.alloc]; omega)]
    · rw [Lib.bytesWorld_at_new, ← e1]
end
section
variable {P : Program} {e : Env} {d : Option Nat} {ty t : TypeId} {pos : String} {af : Array Edge} {g : Option (Nat × Bool)} {x : Operand} {a : List UInt8}
/-- s[l:h], either bound left out or not. -/
theorem light_cutS {lo hi : Option Operand} {jl jh : Option Int} (l h : Nat) (hx : vnf (ev e x) = some (.string (bs a))) (hu : P.underlying t = some .string) (hlo : bndF e lo = some jl) (hhi : bndF e hi = some jh)
    (hl : jl.getD 0 = (l : Int)) (hh : jh.getD (a.length : Int) = (h : Int)) (h1 : l ≤ h) (h2 : h ≤ a.length) :
    light P e ⟨d, .slice t x lo hi none, ty, pos, af, g⟩ = some (.string (bs ((a.drop l).take (h - l)))) := by
  refine light_of_pure ?_ rfl
  have hx := vnf_eq hx
  have hb := bounds_run (e := e) (lo := lo) (hi := hi) (isS := false) (n := (bs a).size) (c := (bs a).size) (jl := jl) (jh := jh) l h hlo hhi hl hh h1 (by rw [bs_size]; exact h2)
  simp only [execOp, hx, Instr.sliceAt, Instr.slice, bind_assoc, pure_underlying hu, Option.map_none, Option.isSome_none, Bool.false_eq_true, if_false, hb, pure_pure, bs_extract]
  rfl
/-- s[l:h] of a nil slice. -/
theorem light_cutN {lo hi : Option Operand} {jl jh : Option Int} {el s : Nat} (hx : vnf (ev e x) = some (.slice none 0 0)) (hu : slcP P t = some (el, s)) (hlo : bndF e lo = some jl) (hhi : bndF e hi = some jh)
    (hl : jl.getD 0 = ((0 : Nat) : Int)) (hh : jh.getD ((0 : Nat) : Int) = ((0 : Nat) : Int)) :
    light P e ⟨d, .slice t x lo hi none, ty, pos, af, g⟩ = some (.slice none 0 0) := by
  obtain ⟨g1, g2⟩ := slcP_spec hu
  have hx := vnf_eq hx
  refine light_of_pure ?_ rfl
  have hb := bounds_run (e := e) (lo := lo) (hi := hi) (isS := true) (n := 0) (c := 0) (jl := jl) (jh := jh) 0 0 hlo hhi hl hh (Nat.le_refl _) (Nat.le_refl _)
  simp only [execOp, hx, Instr.sliceAt, Instr.slice, bind_assoc, pure_underlying g1, Option.map_none, hb, pure_pure, pure_size g2]
  rfl
end
theorem cut1_0 (c : Nat) : cut1 0 0 c = 0 := by unfold cut1; split <;> rfl
end Go.VV
