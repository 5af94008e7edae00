/- A call's contract, said of more of the heap. Plain lemmas; no program. -/
import Derived.Lib.Builder
import Derived.Test.YtldehodcfajpjaaGreatQcD
set_option linter.unusedSimpArgs false
set_option linter.unusedVariables false
set_option maxRecDepth 100000
namespace Go.VV
open Go Go.RowKit
section
variable {Γ : Ctx} {P : Program} {e : Env} {H : Heap} {d : Option Nat} {t : TypeId} {pos : String} {af : Array Edge} {g : Option (Nat × Bool)}
theorem x_sdN {x : Operand} {ts : Array TypeId} (hx : vnf (ev e x) = some (.slice none 0 0)) :
  Op1 Γ ⟨d, .call ⟨.builtin .unsafeSliceData, #[x], ts⟩, t, pos, af, g⟩ e H (fun v H' => v = .pointer none ∧ H' = H) := by
 intro w hw
 have hx := vnf_eq hx
 refine opW_run (v := .pointer none) (w' := w) ?_ ⟨_, hw, rfl, rfl⟩
 simp only [execOp, resolve, Sem.run_bind, Sem.run_pure, Result.andThen_ok, invoke, builtin, List.map_toArray, List.map_cons, List.map_nil, hx]
 rfl
theorem x_sdS {x : Operand} {ts : Array TypeId} {b off n k : Nat} (hx : vnf (ev e x) = some (.slice (some ⟨b, off, none⟩) n (k + 1))) :
  Op1 Γ ⟨d, .call ⟨.builtin .unsafeSliceData, #[x], ts⟩, t, pos, af, g⟩ e H (fun v H' => v = .pointer (some ⟨b, off, none⟩) ∧ H' = H) := by
 intro w hw
 have hx := vnf_eq hx
 refine opW_run (v := .pointer (some ⟨b, off, none⟩)) (w' := w) ?_ ⟨_, hw, rfl, rfl⟩
 simp only [execOp, resolve, Sem.run_bind, Sem.run_pure, Result.andThen_ok, invoke, builtin, List.map_toArray, List.map_cons, List.map_nil, hx]
 rfl
theorem x_nePtr {tp te u : TypeId} {x y : Operand} {a : Addr} (hx : vnf (ev e x) = some (.pointer (some a))) (hy : vnf (ev e y) = some (.pointer (some a))) (hp : Γ.P.underlying tp = some (.pointer te)) (hte : (Γ.P.info? te).isSome = true) :
  Op1 Γ ⟨d, .binOp .neq tp x y u, t, pos, af, g⟩ e H (fun v H' => v = .bool false ∧ H' = H) := by
 intro w hw
 have hx := vnf_eq hx
 have hy := vnf_eq hy
 obtain ⟨j, hj⟩ := Option.isSome_iff_exists.1 hte
 have hg : (eqGuard .neq tp x y (.pointer (some a)) (.pointer (some a))).run Γ.P w = .ok () w := rfl
 refine opW_run (v := .bool false) (w' := w) ?_ ⟨_, hw, rfl, rfl⟩
 simp only [execOp, hx, hy, Sem.run_bind, hg, Lib.run_neq_ptr_same w a hp hj, Result.andThen_ok, Sem.run_pure]
theorem shape_of {w : World} {b : Nat} {l : List Value} {T : TypeId} {fr : Nat × Nat} (h : w.heap[b]? = some (.cells l.toArray T fr)) : w.shape? b = some (T, l.length) := by unfold World.shape?; rw [h]; rfl
theorem x_toU {src dst u : TypeId} {x : Operand} {b : Nat} {l : List Value} {T : TypeId} {fr : Nat × Nat} {n : Nat} (hx : vnf (ev e x) = some (.pointer (some ⟨b, 0, none⟩))) (hs : Γ.P.underlying src = some (.pointer u)) (hd : Γ.P.underlying dst = some .unsafePointer) (hn : sizeP Γ.P u = some n) (h0 : Nat.blt 0 n = true)
  (hm : (b, Obj.cells l.toArray T fr) ∈ H) (hl : 0 < l.length) : Op1 Γ ⟨d, .convert src dst x, t, pos, af, g⟩ e H (fun v H' => v = .pointer (some ⟨b, 0, none⟩) ∧ H' = H) := by
 intro w hw
 have hx := vnf_eq hx
 unfold sizeP at hn
 obtain ⟨j, hj, hjn⟩ := Option.map_eq_some_iff.1 hn
 have hpos : j.size ≠ 0 := by have : 0 < n := Nat.le_of_ble_eq_true h0; omega
 refine opW_run (v := .pointer (some ⟨b, 0, none⟩)) (w' := w) ?_ ⟨_, hw, rfl, rfl⟩
 simp only [execOp, hx, Sem.run_bind, Lib.run_to_unsafe w ⟨b, 0, none⟩ hs hd hj hpos (shape_of (hw.holds _ hm)) hl, Result.andThen_ok, Sem.run_pure]
theorem x_fromU {src dst u : TypeId} {x : Operand} {b n : Nat} {l : List Value} {T : TypeId} {fr : Nat × Nat} (hx : vnf (ev e x) = some (.pointer (some ⟨b, 0, none⟩))) (hs : Γ.P.underlying src = some .unsafePointer) (hd : Γ.P.underlying dst = some (.pointer u)) (hu : (Γ.P.info? u).isSome = true)
  (hm : (b, Obj.cells l.toArray T fr) ∈ H) (hl : l.length = n) (hli : liesAt Γ.P Γ.P.depth T (n / Γ.P.cellsOf T) 0 u 1 = true) : Op1 Γ ⟨d, .convert src dst x, t, pos, af, g⟩ e H (fun v H' => v = .pointer (some ⟨b, 0, none⟩) ∧ H' = H) := by
 intro w hw
 have hx := vnf_eq hx
 obtain ⟨j, hj⟩ := Option.isSome_iff_exists.1 hu
 subst hl
 refine opW_run (v := .pointer (some ⟨b, 0, none⟩)) (w' := w) ?_ ⟨_, hw, rfl, rfl⟩
 simp only [execOp, hx, Sem.run_bind, Lib.run_from_unsafe w ⟨b, 0, none⟩ hs hd hj (shape_of (hw.holds _ hm)) hli, Result.andThen_ok, Sem.run_pure]
theorem x_ustr0 {x y : Operand} {ts : Array TypeId} {pt it : TypeId} (hx : vnf (ev e x) = some (.pointer none)) (hy : vnf (ev e y) = some (.int .i64 0)) (hts : ts = #[pt, it]) :
  Op1 Γ ⟨d, .call ⟨.builtin .unsafeString, #[x, y], ts⟩, t, pos, af, g⟩ e H (fun v H' => v = .string (bs []) ∧ H' = H) := by
 intro w hw
 subst hts
 have hx := vnf_eq hx
 have hy := vnf_eq hy
 refine opW_run (v := .string (bs [])) (w' := w) ?_ ⟨_, hw, rfl, rfl⟩
 simp only [execOp, resolve, Sem.run_bind, Sem.run_pure, Result.andThen_ok, invoke, builtin, List.map_toArray, List.map_cons, List.map_nil, hx, hy]
 rfl
theorem x_makeN {tt el n : Nat} {x y : Operand} {z : Value} {i : TypeInfo} (hx : vnf (ev e x) = some (.int .i64 n)) (hy : vnf (ev e y) = some (.int .i64 n)) (hn : n ≤ 1000000000) (hu : slcP Γ.P tt = some (el, 1)) (hz : zeroP Γ.P el = some [z]) (hi : Γ.P.info? el = some i) (hb : i.bytes = 1) :
  Op1 Γ ⟨d, .makeSlice tt x y, t, pos, af, g⟩ e H (fun u H' => ∃ b, u = .slice (some ⟨b, 0, none⟩) n n ∧ H' = (b, blk (List.replicate n z) el) :: H) := by
 rcases Nat.eq_zero_or_pos n with h0 | h0
 ·subst h0
  intro w hw
  obtain ⟨h1, h2⟩ := slcP_spec hu
  have hx := vnf_eq hx
  have hy := vnf_eq hy
  have key : (Instr.makeSlice tt (.int .i64 (0 : Nat)) (.int .i64 (0 : Nat))).run Γ.P w = .ok (.slice (some ⟨w.heap.size, 0, none⟩) 0 0) (w.alloc (blk [] el)) := by
   unfold Instr.makeSlice
   have e1 : (typeInfo el).run Γ.P w = .ok i w := by simp [typeInfo, hi]
   have hw1 : IntKind.i64.wrap ((0 : Nat) : Int) = 0 := by decide
   have hpow : ((2 : Int) ^ 48) = 281474976710656 := by decide
   have hbad : (decide ((0 : Int) < 0) || decide ((i.bytes : Int) * 0 > 281474976710656) || decide ((0 : Int) < 0) || decide ((0 : Int) > 0)) = false := by rw [hb]; decide
   simp only [Sem.run_bind, run_underlying h1, Result.andThen_ok, asInt, asIntOf, Sem.run_pure, e1, hw1]
   simp only [hpow, hbad, Bool.false_eq_true, if_false, Sem.run_bind, run_askRoom, run_sizeOf h2, Result.andThen_ok, Sem.run_pure]
   rw [if_pos (show (0 : Int).toNat * 1 = 0 from rfl)]
   simp [newRow, newObj]
   rw [show (Array.map (fun x => (default : Value)) (Array.range 0)) = #[] from by simp]
   rfl
  refine opW_run (v := .slice (some ⟨w.heap.size, 0, none⟩) 0 0) (w' := w.alloc (blk [] el)) ?_ ⟨_, hw.alloc _, _, rfl, rfl⟩
  simp only [execOp, hx, hy, Sem.run_bind, key, Result.andThen_ok, Sem.run_pure]
 ·have hby : byteP Γ.P el n = true := by
   unfold byteP
   rw [hi]
   simp only [hb, Nat.mul_one]
   simp
   omega
  have h := x_make (Γ := Γ) (e := e) (H := H) (d := d) (t := t) (pos := pos) (af := af) (g := g) hx hy rfl rfl (Nat.le_refl n) hu hz (Nat.ble_eq_true_of_le (show 0 + 1 ≤ n * 1 by omega)) hby
  rw [Nat.mul_one, repL_one] at h
  exact h
theorem Vec.parts {T : Nat} {v : Value} {xs : List Value} {G : Heap} {n : Nat} (h : Vec T 1 v n xs G) (h0 : n = 0 → v = .slice none 0 0 ∧ G = []) : (n = 0 ∧ v = .slice none 0 0 ∧ G = []) ∨ ∃ b k sp, n ≠ 0 ∧ v = .slice (some ⟨b, 0, none⟩) n (k + 1) ∧ G = [(b, blk (xs ++ sp) T)] := by
 by_cases hn : n = 0
 ·exact .inl ⟨hn, h0 hn⟩
 ·obtain ⟨b, cp, sp, h1, h2, _, h4, _⟩ := h.full hn
  obtain ⟨k, rfl⟩ : ∃ k, cp = k + 1 := ⟨cp - 1, by omega⟩
  exact .inr ⟨b, k, sp, hn, h1, h2⟩
end
section
variable {P : Program} {e : Env}
theorem rets_cell4 {a b s u r : Nat} {T : TypeId} {l : List Value} {v v2 v3 : Value} {w : World} (h : vnf (e a) = some (.pointer (some ⟨b, 0, none⟩))) (hs : aggB P T = true) (hn : sizeP P T = some l.length) (hr : Row w b 0 l) (h2 : vnf (e s) = some v) (h3 : vnf (e u) = some v2) (h4 : vnf (e r) = some v3) :
  Rets P [.cell a T, .tmp s, .tmp u, .tmp r] e w (.tuple #[.agg l.toArray, v, v2, v3]) := by
 have h := vnf_eq h
 have hl := run_loadCells_list (P := P) w ⟨b, 0, none⟩ l hr.add
 have h2 := vnf_eq h2
 have h3 := vnf_eq h3
 have h4 := vnf_eq h4
 simp [Rets, resOf, h, h2, h3, h4, asAddr, loadVar, Sem.run_bind, run_isAgg_a hs, run_sizeOf hn, hl]
end
section
variable {Γ : Ctx} {e : Env} {F A G : Heap} {d : Option Nat} {t : TypeId} {pos : String} {af : Array Edge} {g : Option (Nat × Bool)} {f : Nat} {l : List Operand} {ts : Array TypeId}
theorem x_callMA {vs : List Value} (hc : callable Γ.P f = true) (hv : evs e l = some vs) {R : Value → Heap → Prop} (hf : ∀ w, St w (A.map (·.1)) A w → St Γ.w0 Γ.ms (A ++ (F ++ G)) w → Does Γ.P f vs w (A.map (·.1)) R) :
  Op1 Γ ⟨d, .call ⟨.value (.func f), l.toArray, ts⟩, t, pos, af, g⟩ e (F ++ (A ++ G)) (fun v H2 => ∃ H', R v H' ∧ H2 = F ++ (H' ++ G)) :=
 x_callM (F := F) (A := A) (G := G) (A.map (·.1)) hc hv (fun _ hb => mem_fst hb) (fun w hw => hf w (St.lentV hw) hw)
end
end Go.VV
namespace Go.VV
open Go
theorem Does.frame {P : Program} {f : Nat} {vs : List Value} {w : World} {ms ms2 : List Nat} {F G : Heap} {R R' : Value → Heap → Prop} (hw : St w ms (F ++ G) w) (hms : ∀ b ∈ ms2, ∃ o, (b, o) ∈ F) (hf : Does P f vs w ms2 R)
  (hr : ∀ v H' w', R v H' → St w ms (H' ++ G) w' → ∃ H2, St w ms H2 w' ∧ R' v H2) : Does P f vs w ms R' :=
 Calls.mono hf fun _ _ ⟨v, H', he, h1, h2⟩ => by
  obtain ⟨H2, h3, h4⟩ := hr v H' _ h2 (hw.call hms h1)
  exact ⟨v, H2, he, h3, h4⟩
theorem Does.turn {P : Program} {f : Nat} {vs : List Value} {w : World} {ms : List Nat} {R R' : Value → Heap → Prop} (hf : Does P f vs w ms R) (hr : ∀ v H' w', R v H' → St w ms H' w' → ∃ H2, St w ms H2 w' ∧ R' v H2) : Does P f vs w ms R' :=
 Calls.mono hf fun _ _ ⟨v, H', he, h1, h2⟩ => by
  obtain ⟨H2, h3, h4⟩ := hr v H' _ h2 h1
  exact ⟨v, H2, he, h3, h4⟩
end Go.VV
