/- Parts. -/
import Derived.Laws.LoneSync
import Derived.Lib.BufferWrite
import Derived.Lib.Builder
import Derived.Lib.ConvBytes
import Derived.Maps.RangeRun
import Derived.ScopeJumps
import Derived.Test.YtdbgagkcgdlnnaaGreatQtB
set_option maxRecDepth 100000
set_option maxHeartbeats 1000000
set_option linter.all false
namespace Go.VV
open Go Go.RowKit
abbrev Ent := Int × AH × Nat
def ent (k : AM) (e : Ent) : MapEntry := { key := .int k e.1, val := e.2.1, born := e.2.2 }
def dG (k : AM) (l : List Ent) (c : Nat) : Obj := .map (l.map (ent k)).toArray c
def gP (a : Int) : List Ent → Nat → Option (Nat × AH)
 | [], _ => none
 | e :: l, i => if a = e.1 then some (i, e.2.1) else gP a l (i + 1)
def aAB (k : AM) (a : Int) : ∀ (l : List Ent) (i : Nat), Instr.findNow (.int k) (.int k a) (l.map (ent k)) i = some (gP a l i)
 | [], _ => rfl
 | e :: l, i => by
  show (match Instr.sameNow (.int k) (.int k a) (ent k e).key with
   | some true => some (some (i, (ent k e).val))
   | some false => Instr.findNow (.int k) (.int k a) (l.map (ent k)) (i + 1)
   | none => none) = _
  have h1 : Instr.sameNow (.int k) (.int k a) (ent k e).key = some (a == e.1) := by show (if k = k then some (a == e.1) else none) = _; rw [if_pos rfl]
  rw [h1]
  unfold gP
  by_cases h : a = e.1
  ·rw [show (a == e.1) = true by simpa using h, if_pos h]; rfl
  ·rw [show (a == e.1) = false by simpa using h, if_neg h]; exact aAB k a l (i + 1)
def aBc (P : AL) (t : AJ) : Option (Nat × Nat × AM) := match P.underlying t with
 | some (.map kt el) => match P.underlying kt with
  | some (.int k) => some (kt, el, k)
  | _ => none
 | _ => none
def tI {P : AL} {t kt el : Nat} {k : AM} (h : aBc P t = some (kt, el, k)) : P.underlying t = some (.map kt el) ∧ P.underlying kt = some (.int k) := by
 unfold aBc at h
 split at h
 ·split at h
  ·rename_i h1 _ _ h2
   cases h
   exact ⟨h1, h2⟩
  ·cases h
 ·cases h
def aFK (P : AL) (t : AJ) : Option AH := (P.info? t).bind (·.zero)
def aIt {P : AL} {t : AJ} {z : AH} (h : aFK P t = some z) (w : AI) : (zeroValue t).run P w = .ok z w := by
 unfold aFK at h
 cases hi : P.info? t with
 | none => rw [hi] at h; cases h
 | some i =>
  rw [hi] at h
  simp [zeroValue, typeInfo, hi, show i.zero = some z from h]
def wN {P : AL} {w : AI} {b : Nat} {es : Array MapEntry} {c : Nat} (h : w.heap[b]? = some (.map es c)) : (getObj b).run P w = .ok (.map es c) w := by
 simp [getObj, Sem.run, h]
def wL {P : AL} {w : AI} {b : Nat} {es : Array MapEntry} {c : Nat} (h : w.heap[b]? = some (.map es c)) (o : Obj) : (setObj b o).run P w = .ok () { w with heap := w.heap.setIfInBounds b o } := by
 simp [setObj, Sem.run, h]
def tA {P : AL} {w : AI} {em : Bool} {kt : Nat} {k : AM} {a : Int} (h : P.underlying kt = some (.int k)) : (Instr.checkKey em 10000 kt (.int k a)).run P w = .ok () w := by
 show (Instr.checkKey em (9999 + 1) kt (.int k a)).run P w = _
 unfold Instr.checkKey
 simp only [ak, run_underlying h, ai]
 rfl
def uN {P : AL} {w : AI} {kt : Nat} {k : AM} {a : Int} (h : P.underlying kt = some (.int k)) (l : List Ent) : (Instr.findKey kt (.int k a) (l.map (ent k))).run P w = .ok (gP a l 0) w := by
 unfold Instr.findKey
 simp only [ak, run_underlying h, ai, aAB, av]
section
variable {Γ : Ctx} {e : Env} {H : aB} {d : AD} {ty : AJ} {pos : String} {af : AG} {g : Option (Nat × Bool)}
def aCW {t : AJ} (k : AM) : Op1 Γ ⟨d, .makeMap t none, ty, pos, af, g⟩ e H (fun u H' => ∃ b, u = .map (some b) ∧ H' = (b, dG k [] 0) :: H) := by
 intro w hw
 refine cY (v := .map (some w.heap.size)) (w' := w.alloc (dG k [] 0)) ?_ ⟨_, hw.alloc _, _, rfl, rfl⟩
 simp [execOp, Instr.makeMap, newObj]
 rfl
def St.setObj {w0 w : AI} {ms : AE} {i b : Nat} {o o' : Obj} (hw : St w0 ms H w) (hi : H[i]? = some (b, o)) : St w0 ms (H.set i (b, o')) { w with heap := w.heap.setIfInBounds b o' } := by
 have hb : w.heap[b]? = some o := hw.holds (b, o) (ay hi)
 have hlt : b < w.heap.size := (Array.getElem?_eq_some_iff.1 hb).1
 exact hw.setAt hi rfl rfl rfl (by simp) (fun k hk => by simp [fj (Ne.symm hk)]) (by simp [hlt])
def aD7 {t kt el : AJ} {m x y : AK} {b c : Nat} {k : AM} {a : Int} {v : AH} {l : List Ent} (i : Nat) (hu : aBc Γ.P t = some (kt, el, k)) (hm : vnf (ev e m) = some (.map (some b))) (hx : vnf (ev e x) = some (.int k a)) (hy : vnf (ev e y) = some v)
  (hi : H[i]? = some (b, dG k l c)) (hf : gP a l 0 = none) : Op1 Γ ⟨d, .mapUpdate t m x y, ty, pos, af, g⟩ e H (fun u H' => u = undef ∧ H' = H.set i (b, dG k (l ++ [(a, v, c)]) (c + 1))) := by
 intro w hw
 obtain ⟨h1, h2⟩ := tI hu
 have hm := aK hm
 have hx := aK hx
 have hy := aK hy
 have hb : w.heap[b]? = some (dG k l c) := hw.holds (b, _) (ay hi)
 have hS := hw.setObj (o' := dG k (l ++ [(a, v, c)]) (c + 1)) hi
 have e1 : ((l.map (ent k)).toArray.push { key := .int k a, val := v, born := c }) = ((l ++ [(a, v, c)]).map (ent k)).toArray := by simp [ent]
 refine aA6 (w' := { w with heap := w.heap.setIfInBounds b (dG k (l ++ [(a, v, c)]) (c + 1)) }) ?_ ⟨_, hS, rfl, rfl⟩
 have key : (Instr.mapUpdate t (.map (some b)) (.int k a) v).run Γ.P w = .ok () { w with heap := w.heap.setIfInBounds b (dG k (l ++ [(a, v, c)]) (c + 1)) } := by
  unfold Instr.mapUpdate
  simp only [ak, run_underlying h1, ai, wN hb, tA h2, d7, uN h2, hf, e1, wL hb]
  rfl
 simp only [execOp, hm, hx, hy, ak, key, ai, av]
def eE {t kt el : AJ} {m x y : AK} {b c : Nat} {k : AM} {a : Int} {v : AH} {l : List Ent} (i : Nat) (hu : aBc Γ.P t = some (kt, el, k)) (hm : vnf (ev e m) = some (.map (some b))) (hx : vnf (ev e x) = some (.int k a)) (hy : vnf (ev e y) = some v)
  (hi : H[i]? = some (b, dG k l c)) (hf : gP a l 0 = none) : Op1 Γ ⟨d, .insert t m x y, ty, pos, af, g⟩ e H (fun u H' => u = undef ∧ H' = H.set i (b, dG k (l ++ [(a, v, c)]) (c + 1))) := aD7 (d := d) (ty := ty) (pos := pos) (af := af) (g := g) i hu hm hx hy hi hf
def aEe (z : AH) : Option (Nat × AH) → Array AH
 | some (_, v) => #[v, .bool true]
 | none => #[z, .bool false]
def aFB {t kt el : AJ} {m x : AK} {b c : Nat} {k : AM} {a : Int} {z : AH} {l : List Ent} (hu : aBc Γ.P t = some (kt, el, k)) (hm : vnf (ev e m) = some (.map (some b))) (hx : vnf (ev e x) = some (.int k a)) (hz : aFK Γ.P el = some z)
  (hi : (b, dG k l c) ∈ H) : Op1 Γ ⟨d, .lookup t m x true, ty, pos, af, g⟩ e H (fun u H' => u = .tuple (aEe z (gP a l 0)) ∧ H' = H) := by
 intro w hw
 obtain ⟨h1, h2⟩ := tI hu
 have hm := aK hm
 have hx := aK hx
 have hb : w.heap[b]? = some (dG k l c) := hw.holds (b, _) hi
 refine cY (v := .tuple (aEe z (gP a l 0))) (w' := w) ?_ ⟨_, hw, rfl, rfl⟩
 have key : (Instr.lookup t (.map (some b)) (.int k a) true).run Γ.P w = .ok (.tuple (aEe z (gP a l 0))) w := by
  unfold Instr.lookup
  simp only [ak, run_underlying h1, ai, wN hb, tA h2, av, d7, uN h2]
  cases hf : gP a l 0 with
  | none => simp only [ak, aIt hz, ai, av]; rfl
  | some p => simp only [av, ai]; rfl
 simp only [execOp, hm, hx, ak, key, ai, av]
end
section
variable {Γ : Ctx} {e : Env} {H : aB} {d : AD} {t : AJ} {pos : String} {af : AG} {g : Option (Nat × Bool)}
def aRU {f : Nat} {fn : Func} {l : AF} {ts : Array AJ} {vs : AA} {E : Array AH → Sem AH} {u : AH} (hf : Γ.P.funcs[f]? = some fn) (hname : (fn.name == "runtime.NumGoroutine") = false)
  (hb : fn.body.isNone = true) (hn : Extern.findNext fn = none) (he : Extern.find fn = some E) (hv : evs e l = some vs) (hr : ∀ w, (E vs.toArray).run Γ.P w = .ok u w) :
  Op1 Γ ⟨d, .call ⟨.value (.func f), l.toArray, ts⟩, t, pos, af, g⟩ e H (fun v H' => v = u ∧ H' = H) := by
 intro w hw
 refine cY (v := u) (w' := w) ?_ ⟨H, hw, rfl, rfl⟩
 have hargs : l.map (ev e) = vs := sZ hv
 have h1 := run_callFunc_extern hf hname hb hn he vs.toArray w
 rw [hr w] at h1
 simp only [ai] at h1
 subst hargs
 simp [execOp, resolve, Deferred.ofValue, ev, invoke, h1]
def aRj {x y : AK} {ts : Array AJ} {pt it el : AJ} {b : Nat} {a : List UInt8} {sp : AA} (hx : vnf (ev e x) = some (.pointer (some ⟨b, 0, none⟩))) (hy : vnf (ev e y) = some (.int .i64 a.length)) (hts : ts = #[pt, it])
  (hp : Γ.P.underlying pt = some (.pointer el)) (hc : Γ.P.cellsOf el = 1) (h0 : a ≠ []) (hl : a.length ≤ 1000000) :
  Op1 Γ ⟨d, .call ⟨.builtin .unsafeString, #[x, y], ts⟩, t, pos, af, g⟩ e ((b, blk (a.map (fun c => .int .u8 c.toNat) ++ sp) el) :: H) (fun v H' => v = .string (bs a) ∧ ∃ o, H' = (b, o) :: H) := by
 intro w hw
 subst hts
 have hx := aK hx
 have hy := aK hy
 have hg : w.heap[b]? = some (blk (a.map (fun c => .int .u8 c.toNat) ++ sp) el) := hw.own_blk (.head _)
 have hpos := List.length_pos_iff.2 h0
 have hsh : w.shape? b = some (el, (a.map (fun c => Value.int .u8 c.toNat) ++ sp).toArray.size) := by unfold World.shape?; rw [hg]
 have hrun := Lib.run_unsafeString_row (P := Γ.P) (w := w) pt it t el hp hc b _ hsh a h0 (by simp) (by omega) (fun j c hj => by
  have := aA (H := (b, blk (a.map (fun c => .int .u8 c.toNat) ++ sp) el) :: H) (.head _) w hw j (.int .u8 c.toNat) (by
   rw [dp (by rw [i5]; exact (List.getElem?_eq_some_iff.1 hj).1), bz, hj]; rfl)
  rw [sE, az]
  simpa using this)
 refine cY (v := .string (bs a)) (w' := w.freeze ⟨b, 0, none⟩ a.length) ?_ ?_
 ·simp only [execOp, resolve, ak, av, ai, invoke, builtin, cj, be, ct, hx, hy, hrun]
  rfl
 ·refine ⟨(b, Obj.cells (a.map (fun c => Value.int .u8 c.toNat) ++ sp).toArray el (0, 0 + a.length)) :: H, ?_, rfl, _, rfl⟩
  refine hw.turn ?_ ?_ ?_ ?_ ?_ ?_
  all_goals unfold World.freeze; rw [if_neg (by omega)]
  ·simp
  ·intro k hk
   simp only
   rw [fv, if_neg (Ne.symm hk)]
  ·simp only
   rw [fv, if_pos rfl, hg]
   rfl
end
section
variable {Γ : Ctx} {P : AL} {e : Env} {H : aB} {d : AD} {t : AJ} {pos : String} {af : AG} {g : Option (Nat × Bool)}
def aRS {x : AK} {ts : Array AJ} (hx : vnf (ev e x) = some (.slice none 0 0)) :
  Op1 Γ ⟨d, .call ⟨.builtin .unsafeSliceData, #[x], ts⟩, t, pos, af, g⟩ e H (fun v H' => v = .pointer none ∧ H' = H) := by
 intro w hw
 have hx := aK hx
 refine cY (v := .pointer none) (w' := w) ?_ ⟨_, hw, rfl, rfl⟩
 simp only [execOp, resolve, ak, av, ai, invoke, builtin, cj, be, ct, hx]
 rfl
def aSk {x : AK} {ts : Array AJ} {b off n k : Nat} (hx : vnf (ev e x) = some (.slice (some ⟨b, off, none⟩) n (k + 1))) :
  Op1 Γ ⟨d, .call ⟨.builtin .unsafeSliceData, #[x], ts⟩, t, pos, af, g⟩ e H (fun v H' => v = .pointer (some ⟨b, off, none⟩) ∧ H' = H) := by
 intro w hw
 have hx := aK hx
 refine cY (v := .pointer (some ⟨b, off, none⟩)) (w' := w) ?_ ⟨_, hw, rfl, rfl⟩
 simp only [execOp, resolve, ak, av, ai, invoke, builtin, cj, be, ct, hx]
 rfl
def aPJ {tp te u : AJ} {x y : AK} {a : Addr} (hx : vnf (ev e x) = some (.pointer (some a))) (hy : vnf (ev e y) = some (.pointer (some a))) (hp : Γ.P.underlying tp = some (.pointer te)) (hte : (Γ.P.info? te).isSome = true) :
  Op1 Γ ⟨d, .binOp .neq tp x y u, t, pos, af, g⟩ e H (fun v H' => v = .bool false ∧ H' = H) := by
 intro w hw
 have hx := aK hx
 have hy := aK hy
 obtain ⟨j, hj⟩ := Option.isSome_iff_exists.1 hte
 have hg : (eqGuard .neq tp x y (.pointer (some a)) (.pointer (some a))).run Γ.P w = .ok () w := rfl
 refine cY (v := .bool false) (w' := w) ?_ ⟨_, hw, rfl, rfl⟩
 simp only [execOp, hx, hy, ak, hg, Lib.run_neq_ptr_same w a hp hj, ai, av]
def aFy {w : AI} {b : Nat} {l : AA} {T : AJ} {fr : Nat × Nat} (h : w.heap[b]? = some (.cells l.toArray T fr)) : w.shape? b = some (T, l.length) := by unfold World.shape?; rw [h]; rfl
def aR9 {src dst u : AJ} {x : AK} {b : Nat} {l : AA} {T : AJ} {fr : Nat × Nat} {n : Nat} (hx : vnf (ev e x) = some (.pointer (some ⟨b, 0, none⟩))) (hs : Γ.P.underlying src = some (.pointer u)) (hd : Γ.P.underlying dst = some .unsafePointer) (hn : fH Γ.P u = some n) (h0 : Nat.blt 0 n = true)
  (hm : (b, Obj.cells l.toArray T fr) ∈ H) (hl : 0 < l.length) : Op1 Γ ⟨d, .convert src dst x, t, pos, af, g⟩ e H (fun v H' => v = .pointer (some ⟨b, 0, none⟩) ∧ H' = H) := by
 intro w hw
 have hx := aK hx
 unfold fH at hn
 obtain ⟨j, hj, hjn⟩ := Option.map_eq_some_iff.1 hn
 have hpos : j.size ≠ 0 := by have : 0 < n := ag h0; omega
 refine cY (v := .pointer (some ⟨b, 0, none⟩)) (w' := w) ?_ ⟨_, hw, rfl, rfl⟩
 simp only [execOp, hx, ak, Lib.run_to_unsafe w ⟨b, 0, none⟩ hs hd hj hpos (aFy (hw.holds _ hm)) hl, ai, av]
def aPs {src dst u : AJ} {x : AK} {b n : Nat} {l : AA} {T : AJ} {fr : Nat × Nat} (hx : vnf (ev e x) = some (.pointer (some ⟨b, 0, none⟩))) (hs : Γ.P.underlying src = some .unsafePointer) (hd : Γ.P.underlying dst = some (.pointer u)) (hu : (Γ.P.info? u).isSome = true)
  (hm : (b, Obj.cells l.toArray T fr) ∈ H) (hl : l.length = n) (hli : liesAt Γ.P Γ.P.depth T (n / Γ.P.cellsOf T) 0 u 1 = true) : Op1 Γ ⟨d, .convert src dst x, t, pos, af, g⟩ e H (fun v H' => v = .pointer (some ⟨b, 0, none⟩) ∧ H' = H) := by
 intro w hw
 have hx := aK hx
 obtain ⟨j, hj⟩ := Option.isSome_iff_exists.1 hu
 subst hl
 refine cY (v := .pointer (some ⟨b, 0, none⟩)) (w' := w) ?_ ⟨_, hw, rfl, rfl⟩
 simp only [execOp, hx, ak, Lib.run_from_unsafe w ⟨b, 0, none⟩ hs hd hj (aFy (hw.holds _ hm)) hli, ai, av]
def aPN {x y : AK} {ts : Array AJ} {pt it : AJ} (hx : vnf (ev e x) = some (.pointer none)) (hy : vnf (ev e y) = some (.int .i64 0)) (hts : ts = #[pt, it]) :
  Op1 Γ ⟨d, .call ⟨.builtin .unsafeString, #[x, y], ts⟩, t, pos, af, g⟩ e H (fun v H' => v = .string (bs []) ∧ H' = H) := by
 intro w hw
 subst hts
 have hx := aK hx
 have hy := aK hy
 refine cY (v := .string (bs [])) (w' := w) ?_ ⟨_, hw, rfl, rfl⟩
 simp only [execOp, resolve, ak, av, ai, invoke, builtin, cj, be, ct, hx, hy]
 rfl
def aGF {tt el n : Nat} {x y : AK} {z : AH} {i : TypeInfo} (hx : vnf (ev e x) = some (.int .i64 n)) (hy : vnf (ev e y) = some (.int .i64 n)) (hn : n ≤ 1000000000) (hu : nL Γ.P tt = some (el, 1)) (hz : mY Γ.P el = some [z]) (hi : Γ.P.info? el = some i) (hb : i.bytes = 1) :
  Op1 Γ ⟨d, .makeSlice tt x y, t, pos, af, g⟩ e H (fun u H' => ∃ b, u = .slice (some ⟨b, 0, none⟩) n n ∧ H' = (b, blk (List.replicate n z) el) :: H) := by
 rcases dd n with h0 | h0
 ·subst h0
  intro w hw
  obtain ⟨h1, h2⟩ := iR hu
  have hx := aK hx
  have hy := aK hy
  have key : (Instr.makeSlice tt (.int .i64 (0 : Nat)) (.int .i64 (0 : Nat))).run Γ.P w = .ok (.slice (some ⟨w.heap.size, 0, none⟩) 0 0) (w.alloc (blk [] el)) := by
   unfold Instr.makeSlice
   have e1 : (typeInfo el).run Γ.P w = .ok i w := by simp [typeInfo, hi]
   have hw1 : IntKind.i64.wrap ((0 : Nat) : Int) = 0 := by decide
   have hpow : ((2 : Int) ^ 48) = 281474976710656 := by decide
   have hbad : (decide ((0 : Int) < 0) || decide ((i.bytes : Int) * 0 > 281474976710656) || decide ((0 : Int) < 0) || decide ((0 : Int) > 0)) = false := by rw [hb]; decide
   simp only [ak, run_underlying h1, ai, asInt, asIntOf, av, e1, hw1]
   simp only [hpow, hbad, Bool.false_eq_true, if_false, ak, run_askRoom, fM h2, ai, av]
   rw [if_pos (show (0 : Int).toNat * 1 = 0 from rfl)]
   simp [newRow, newObj]
   rw [show (Array.map (fun x => (default : AH)) (Array.range 0)) = #[] from by simp]
   rfl
  refine cY (v := .slice (some ⟨w.heap.size, 0, none⟩) 0 0) (w' := w.alloc (blk [] el)) ?_ ⟨_, hw.alloc _, _, rfl, rfl⟩
  simp only [execOp, hx, hy, ak, key, ai, av]
 ·have hby : aBn Γ.P el n = true := by
   unfold aBn
   rw [hi]
   simp only [hb, eo]
   simp
   omega
  have h := aQs (Γ := Γ) (e := e) (H := H) (d := d) (t := t) (pos := pos) (af := af) (g := g) hx hy rfl rfl (ax n) hu hz (Nat.ble_eq_true_of_le (show 0 + 1 ≤ n * 1 by omega)) hby
  rw [eo, aLK] at h
  exact h
def Vec.parts {T : Nat} {v : AH} {xs : AA} {G : aB} {n : Nat} (h : Vec T 1 v n xs G) (h0 : n = 0 → v = .slice none 0 0 ∧ G = []) : (n = 0 ∧ v = .slice none 0 0 ∧ G = []) ∨ ∃ b k sp, n ≠ 0 ∧ v = .slice (some ⟨b, 0, none⟩) n (k + 1) ∧ G = [(b, blk (xs ++ sp) T)] := by
 by_cases hn : n = 0
 ·exact .inl ⟨hn, h0 hn⟩
 ·obtain ⟨b, cp, sp, h1, h2, _, h4, _⟩ := h.full hn
  obtain ⟨k, rfl⟩ : ∃ k, cp = k + 1 := ⟨cp - 1, by omega⟩
  exact .inr ⟨b, k, sp, hn, h1, h2⟩
end
section
variable {P : AL} {e : Env}
def aB3 {a b s u r : Nat} {T : AJ} {l : AA} {v v2 v3 : AH} {w : AI} (h : vnf (e a) = some (.pointer (some ⟨b, 0, none⟩))) (hs : oC P T = true) (hn : fH P T = some l.length) (hr : Row w b 0 l) (h2 : vnf (e s) = some v) (h3 : vnf (e u) = some v2) (h4 : vnf (e r) = some v3) :
  jY P [.cell a T, .tmp s, .tmp u, .tmp r] e w (.tuple #[.agg l.toArray, v, v2, v3]) := by
 have h := aK h
 have hl := run_loadCells_list (P := P) w ⟨b, 0, none⟩ l hr.add
 have h2 := aK h2
 have h3 := aK h3
 have h4 := aK h4
 simp [jY, qH, h, h2, h3, h4, asAddr, loadVar, ak, lE hs, fM hn, hl]
end
section
variable {Γ : Ctx} {e : Env} {F A G : aB} {d : AD} {t : AJ} {pos : String} {af : AG} {g : Option (Nat × Bool)} {f : Nat} {l : AF} {ts : Array AJ}
def cB {vs : AA} (hc : cL Γ.P f = true) (hv : evs e l = some vs) {R : AH → aB → Prop} (hf : ∀ w, St w (A.map (·.1)) A w → St Γ.w0 Γ.ms (A ++ (F ++ G)) w → aC Γ.P f vs w (A.map (·.1)) R) :
  Op1 Γ ⟨d, .call ⟨.value (.func f), l.toArray, ts⟩, t, pos, af, g⟩ e (F ++ (A ++ G)) (fun v H2 => ∃ H', R v H' ∧ H2 = F ++ (H' ++ G)) :=
 aGI (F := F) (A := A) (G := G) (A.map (·.1)) hc hv (fun _ hb => eA hb) (fun w hw => hf w (St.lentV hw) hw)
end
end Go.VV
namespace Go.VV
open Go
def aC.frame {P : AL} {f : Nat} {vs : AA} {w : AI} {ms ms2 : AE} {F G : aB} {R R' : AH → aB → Prop} (hw : St w ms (F ++ G) w) (hms : ∀ b ∈ ms2, ∃ o, (b, o) ∈ F) (hf : aC P f vs w ms2 R)
  (hr : ∀ v H' w', R v H' → St w ms (H' ++ G) w' → ∃ H2, St w ms H2 w' ∧ R' v H2) : aC P f vs w ms R' :=
 Calls.mono hf fun _ _ ⟨v, H', he, h1, h2⟩ => by
  obtain ⟨H2, h3, h4⟩ := hr v H' _ h2 (hw.call hms h1)
  exact ⟨v, H2, he, h3, h4⟩
def aC.turn {P : AL} {f : Nat} {vs : AA} {w : AI} {ms : AE} {R R' : AH → aB → Prop} (hf : aC P f vs w ms R) (hr : ∀ v H' w', R v H' → St w ms H' w' → ∃ H2, St w ms H2 w' ∧ R' v H2) : aC P f vs w ms R' :=
 Calls.mono hf fun _ _ ⟨v, H', he, h1, h2⟩ => by
  obtain ⟨H2, h3, h4⟩ := hr v H' _ h2 h1
  exact ⟨v, H2, he, h3, h4⟩
end Go.VV
namespace Go.VV
open Go Go.RowKit
def kD (l : List Ent) (seen : AE) : List Ent := l.filter fun e => !(seen.contains e.2.2)
def itO (b since : Nat) (seen : AE) (c : Nat) : Obj := .mapIter (some b) since seen.toArray c
def aEW (k : AM) (l : List Ent) (seen : AE) : (leftOf (l.map (ent k)).toArray seen.toArray).toList = (kD l seen).map (ent k) := by
 unfold leftOf kD
 rw [Array.toList_filter, d7, List.filter_map]
 congr 1
 refine List.filter_congr fun x _ => ?_
 show (!seen.toArray.contains x.2.2) = (!seen.contains x.2.2)
 rw [List.contains_toArray]
def jO (a : Int) : List Ent → List Ent
 | [] => []
 | e :: l => if a = e.1 then l else e :: jO a l
def aBy (k : AM) (a : Int) : ∀ (l : List Ent) (i : Nat), (∀ j v, gP a l i = some (j, v) → i ≤ j ∧ ((l.map (ent k)).eraseIdx (j - i)) = (jO a l).map (ent k)) ∧ (gP a l i = none → jO a l = l)
 | [], i => ⟨fun _ _ h => (by cases h), fun _ => rfl⟩
 | e :: l, i => by
  obtain ⟨h1, h2⟩ := aBy k a l (i + 1)
  unfold gP jO
  by_cases h : a = e.1
  ·rw [if_pos h, if_pos h]
   refine ⟨fun j v h3 => ?_, fun h3 => (by cases h3)⟩
   cases h3
   exact ⟨ax _, by rw [Nat.sub_self]; rfl⟩
  ·rw [if_neg h, if_neg h]
   refine ⟨fun j v h3 => ?_, fun h3 => by rw [h2 h3]⟩
   obtain ⟨h4, h5⟩ := h1 j v h3
   refine ⟨by omega, ?_⟩
   rw [show j - i = (j - (i + 1)) + 1 by omega, be, be, List.eraseIdx_cons_succ, h5]
def aEC (a : Int) : ∀ (l : List Ent) (i j : Nat) (v : AH), gP a l i = some (j, v) → j < i + l.length
 | [], _, _, _, h => by cases h
 | e :: l, i, j, v, h => by
  unfold gP at h
  split at h
  ·cases h; simp
  ·have := aEC a l (i + 1) j v h; simp only [gk]; omega
section
variable {Γ : Ctx} {e : Env} {H : aB} {d : AD} {ty : AJ} {pos : String} {af : AG} {g : Option (Nat × Bool)} {k : AM} {l : List Ent} {b c : Nat}
def aIs {t kt el : AJ} {x : AK} (hu : aBc Γ.P t = some (kt, el, k)) (hm : vnf (ev e x) = some (.map (some b))) (hb : (b, dG k l c) ∈ H) :
  Op1 Γ ⟨d, .range t x, ty, pos, af, g⟩ e H (fun u H' => ∃ r, u = .pointer (some ⟨r, 0, none⟩) ∧ H' = (r, itO b c [] c) :: H) := by
 intro w hw
 have hb' : w.heap[b]? = some (dG k l c) := hw.holds (b, _) hb
 refine cY (v := .pointer (some ⟨w.heap.size, 0, none⟩)) (w' := w.alloc (itO b c [] c)) ?_ ⟨_, hw.alloc _, _, rfl, rfl⟩
 simp only [execOp, aK hm, ak, run_range_map w t kt el b _ c (tI hu).1 hb', ai, av]
 rfl
def aDw {x : AK} {r since c0 : Nat} {seen : AE} (i : Nat) (hx : vnf (ev e x) = some (.pointer (some ⟨r, 0, none⟩))) (hr : H[i]? = some (r, itO b since seen c0)) (hb : (b, dG k l c) ∈ H) (hold : ∀ y ∈ l, y.2.2 < since) (hsc : since ≤ c0) :
  Op1 Γ ⟨d, .next x false, ty, pos, af, g⟩ e H (fun u H' => (kD l seen = [] ∧ u = .tuple #[.bool false] ∧ H' = H) ∨ ∃ y ∈ kD l seen, u = .tuple #[.bool true, .int k y.1, y.2.1] ∧ H' = H.set i (r, itO b since (seen ++ [y.2.2]) c)) := by
 intro w hw
 have hr' : w.heap[r]? = some (itO b since seen c0) := hw.holds (r, _) (ay hr)
 have hb' : w.heap[b]? = some (dG k l c) := hw.holds (b, _) hb
 have hold' : ∀ y ∈ (l.map (ent k)).toArray.toList, y.born < since := by
  intro y hy
  rw [d7] at hy
  obtain ⟨z, hz, rfl⟩ := List.mem_map.1 hy
  exact hold z hz
 rcases run_next_at (P := Γ.P) w ty r b since c0 seen.toArray (l.map (ent k)).toArray c hr' hb' hold' hsc with ⟨h0, hrun⟩ | ⟨y, hy, w1, hw1, hrun⟩
 ·refine cY (v := .tuple #[.bool false]) (w' := w) ?_ ⟨H, hw, .inl ⟨?_, rfl, rfl⟩⟩
  ·simp only [execOp, aK hx, ak, hrun, ai, av]
  ·have h1 := aEW k l seen
   have h2 : (leftOf (l.map (ent k)).toArray seen.toArray).toList = [] := by rw [← Array.length_toList] at h0; exact List.length_eq_zero_iff.1 h0
   rw [h2] at h1
   exact List.map_eq_nil_iff.1 h1.symm
 ·rw [aEW] at hy
  obtain ⟨z, hz, rfl⟩ := List.mem_map.1 hy
  have hs1 : St Γ.w0 Γ.ms H w1 := by
   rcases hw1 with rfl | rfl
   ·exact hw
   ·exact hw.drew
  have hr1 : w1.heap[r]? = some (itO b since seen c0) := hs1.holds (r, _) (ay hr)
  have hlt : r < w1.heap.size := (Array.getElem?_eq_some_iff.1 hr1).1
  refine cY (v := .tuple #[.bool true, .int k z.1, z.2.1]) (w' := ChangeMaps.setBlock w1 r (itO b since (seen ++ [z.2.2]) c)) ?_ ⟨_, hs1.setAt hr rfl rfl rfl (by simp [ChangeMaps.setBlock]) (fun j hj => by simp [ChangeMaps.setBlock, fj (Ne.symm hj)]) (by simp [ChangeMaps.setBlock, hlt]), .inr ⟨z, hz, rfl, rfl⟩⟩
  simp only [execOp, aK hx, ak, hrun, ai, av]
  unfold itO
  rw [← List.push_toArray]
  rfl
def aIp {x : AK} {r since c0 : Nat} {seen : AE} (i : Nat) (hx : vnf (ev e x) = some (.pointer (some ⟨r, 0, none⟩))) (hr : H[i]? = some (r, itO b since seen c0)) (hb : (b, dG k l c) ∈ H) (hold : ∀ y ∈ l, y.2.2 < since) (hsc : since ≤ c0) (h0 : kD l seen = []) :
  Op1 Γ ⟨d, .next x false, ty, pos, af, g⟩ e H (fun u H' => u = .tuple #[.bool false] ∧ H' = H) := fun w hw => by
 refine iG (aDw i hx hr hb hold hsc w hw) ?_
 rintro v w' ⟨H', h1, ⟨_, h2, h3⟩ | ⟨y, hy, _⟩⟩
 ·exact ⟨H', h1, h2, h3⟩
 ·rw [h0] at hy; cases hy
def aIb {x : AK} {r since c0 : Nat} {seen : AE} (i : Nat) (hx : vnf (ev e x) = some (.pointer (some ⟨r, 0, none⟩))) (hr : H[i]? = some (r, itO b since seen c0)) (hb : (b, dG k l c) ∈ H) (hold : ∀ y ∈ l, y.2.2 < since) (hsc : since ≤ c0) (h0 : kD l seen ≠ []) :
  Op1 Γ ⟨d, .next x false, ty, pos, af, g⟩ e H (fun u H' => ∃ y, y ∈ kD l seen ∧ u = .tuple #[.bool true, .int k y.1, y.2.1] ∧ H' = H.set i (r, itO b since (seen ++ [y.2.2]) c)) := fun w hw => by
 refine iG (aDw i hx hr hb hold hsc w hw) ?_
 rintro v w' ⟨H', h1, ⟨h2, _⟩ | ⟨y, hy, h2, h3⟩⟩
 ·exact absurd h2 h0
 ·exact ⟨H', h1, y, hy, h2, h3⟩
def aIe {x : AK} {r since : Nat} {seen : AE} {y : Ent} (hx : vnf (ev e x) = some (.pointer (some ⟨r, 0, none⟩))) (hr : (r, itO b since (seen ++ [y.2.2]) c) ∈ H) (hb : (b, dG k l c) ∈ H) (hy : y ∈ l) (hn : (l.map (·.2.2)).Nodup) :
  Op1 Γ ⟨d, .entry x, ty, pos, af, g⟩ e H (fun u H' => u = .tuple #[.int k y.1, y.2.1] ∧ H' = H) := by
 intro w hw
 have hr' : w.heap[r]? = some (itO b since (seen ++ [y.2.2]) c) := hw.holds (r, _) hr
 have hb' : w.heap[b]? = some (dG k l c) := hw.holds (b, _) hb
 have e1 : (seen ++ [y.2.2]).toArray = seen.toArray.push y.2.2 := (List.push_toArray ..).symm
 unfold itO at hr'
 rw [e1] at hr'
 have hrun := run_entry_at (P := Γ.P) w r b since seen.toArray (l.map (ent k)).toArray c (ent k y) hr' hb' (by rw [d7]; exact List.mem_map.2 ⟨y, hy, rfl⟩) (by rw [d7, List.map_map]; exact hn)
 refine cY (v := .tuple #[.int k y.1, y.2.1]) (w' := w) ?_ ⟨H, hw, rfl, rfl⟩
 simp only [execOp, aK hx, ak, hrun, ai, av]
 rfl
def aLO {t kt el : AJ} {m x : AK} {a : Int} {ts : Array AJ} (i : Nat) (hu : aBc Γ.P t = some (kt, el, k)) (hts : ts = #[t, kt]) (hm : vnf (ev e m) = some (.map (some b))) (hx : vnf (ev e x) = some (.int k a)) (hi : H[i]? = some (b, dG k l c)) :
  Op1 Γ ⟨d, .call ⟨.builtin .delete, #[m, x], ts⟩, ty, pos, af, g⟩ e H (fun u H' => u = .tuple #[] ∧ H' = H.set i (b, dG k (jO a l) c)) := by
 intro w hw
 subst hts
 obtain ⟨h1, h2⟩ := tI hu
 have hb : w.heap[b]? = some (dG k l c) := hw.holds (b, _) (ay hi)
 obtain ⟨h3, h4⟩ := aBy k a l 0
 have key : (Builtin.delete_ #[t, kt] ty #[.map (some b), .int k a]).run Γ.P w = .ok (.tuple #[]) { w with heap := w.heap.setIfInBounds b (dG k (jO a l) c) } := by
  unfold Builtin.delete_
  simp only [cy, dt, dk, ak, run_underlying h1, ai, wN hb, tA h2, d7, uN h2]
  cases hf : gP a l 0 with
  | none =>
   rw [h4 hf]
   show (setObj b (dG k l c) >>= fun _ => pure (Value.tuple #[])).run Γ.P w = _
   rw [ak, wL hb, ai, av]
  | some p =>
   obtain ⟨j, v⟩ := p
   have hj : j < l.length := by have := aEC a l 0 j v hf; omega
   have e1 : ((l.map (ent k)).toArray.eraseIdxIfInBounds j) = ((jO a l).map (ent k)).toArray := by
    have := (h3 j v hf).2
    rw [Nat.sub_zero] at this
    rw [← this]
    simp [Array.eraseIdxIfInBounds, hj]
   simp only [e1]
   show (setObj b (dG k (jO a l) c) >>= fun _ => pure (Value.tuple #[])).run Γ.P w = _
   rw [ak, wL hb, ai, av]
 refine cY (v := .tuple #[]) (w' := { w with heap := w.heap.setIfInBounds b (dG k (jO a l) c) }) ?_ ⟨_, hw.setObj (o' := dG k (jO a l) c) hi, rfl, rfl⟩
 simp only [execOp, resolve, ak, av, ai, invoke, builtin, cj, be, ct, aK hm, aK hx, key]
end
def World.ext_run {P : AL} {e : Env} {f : Nat} {l : AF} {ts : Array AJ} {d : AD} {t : AJ} {pos : String} {af : AG} {g : Option (Nat × Bool)} {w w' : AI} {v : AH} {vs : AA}
  (hv : evs e l = some vs) (h : (callFunc f vs.toArray).run P w = .ok (.value v) w') : (execOp (ev e) ⟨d, .call ⟨.value (.func f), l.toArray, ts⟩, t, pos, af, g⟩).run P w = .ok (.value v) w' := by
 rw [← sZ hv] at h
 simpa [execOp, resolve, Deferred.ofValue, ev, invoke, bind, Sem.bind, Sem.run, pure] using h
section
variable {Γ : Ctx} {e : Env} {H : aB} {d : AD} {ty : AJ} {pos : String} {af : AG} {g : Option (Nat × Bool)} {f : Nat} {fn : Func} {l : AF} {ts : Array AJ} {b off : Nat} {cs : AA} {T : AJ}
def St.setIx {w0 w : AI} {ms : AE} {H : aB} (hw : St w0 ms H w) (i : Nat) (hi : H[i]? = some (b, blk cs T)) (v : AH) : St w0 ms (H.set i (b, blk (cs.set off v) T)) (w.setCell ⟨b, off, none⟩ v) := by
 have hg : w.heap[b]? = some (blk cs T) := hw.own_blk (ay hi)
 exact hw.setAt hi rfl rfl rfl (by simp [World.setCell]) (fun k hk => vI k hk) (yE hg v)
def aQG (i : Nat) (k : AM) {x y s : Int} (hf : Γ.P.funcs[f]? = some fn) (hname : (fn.name == "runtime.NumGoroutine") = false) (hb : fn.body.isNone = true) (hn : Extern.findNext fn = none)
  (he : Extern.find fn = some (Extern.Atomic.update (Op.intArith .add) k true)) (hv : evs e l = some [.pointer (some ⟨b, off, none⟩), .int k y]) (hi : H[i]? = some (b, blk cs T)) (hc : cs[off]? = some (.int k x))
  (hs : bM Γ.P (Op.intArith .add k x y) = some (.int k s)) :
  Op1 Γ ⟨d, .call ⟨.value (.func f), l.toArray, ts⟩, ty, pos, af, g⟩ e H (fun u H' => u = .int k s ∧ H' = H.set i (b, blk (cs.set off (.int k s)) T)) := fun w hw => by
 have hg : w.heap[b]? = some (blk cs T) := hw.own_blk (ay hi)
 exact cY (World.ext_run hv (run_call_add hf hname hb hn k he (by rw [iH hg]; simpa using hc) (rQ hg) (xT hs w))) ⟨_, hw.setIx i hi _, rfl, rfl⟩
end
def jS {P : AL} {b : Frame} {a : Act} {k : List Item} {cs : List Frame} {w : AI} {c : Code} : step P (lone (b.atR a (.code (.scope c) :: k)) cs w) = .next (lone (b.atR a (.code c :: .inScope c :: k)) cs w) :=
 step_lone_go (by simp [stepG, stepG.exec, Frame.atR])
def yA {P : AL} {b : Frame} {a : Act} {k : List Item} {cs : List Frame} {w : AI} {c : Code} : step P (lone (b.atR a (.inScope c :: k)) cs w) = .next (lone (b.atR a k) cs w) :=
 step_lone_go (by simp [stepG, stepG.exec, Frame.atR])
def aAZ {F : Fence} {n : Nat} {P : AL} {Q : Exit → Act → AI → Prop} {a : Act} {w : AI} {c rest : Code} (l : Nat) (J : Act → AI → Prop) (μ : Act → AI → Nat) (hf : findLabel c l = some rest)
  (first : c.wpIn F n P (Exit.jump l J Q) a w)
  (pass : ∀ a w, J a w → rest.wpIn F n P (Exit.jump l (fun a' w' => J a' w' ∧ μ a' w' < μ a w) Q) a w) : (Code.scope c).wpIn F n P Q a w := by
 intro b k cs hro hb hr
 have hg : gotoIn l (.inScope c :: k) = some (.code rest :: .inScope c :: k) := by simp [gotoIn, hf]
 have hx : ∀ id, exitTo id (.inScope c :: k) = exitTo id k := fun id => by simp [exitTo]
 have key : ∀ j a w, μ a w = j → J a w → ∃ e a' w', Q e a' w' ∧ ArrivesIn (Machine.fenced P F) P (lone (b.atR a (.code rest :: .inScope c :: k)) cs w) b k cs e a' w' := by
  intro j
  induction j using Nat.strongRecOn with
  | _ j ih =>
   intro a w hn hJ
   obtain ⟨e, a₁, w₁, hq, harr⟩ := pass a w hJ b (.inScope c :: k) cs hro hb hr
   cases e with
   | normal => exact ⟨.normal, a₁, w₁, hq, StepsIn.trans harr (.one (fenced_calm hb hr rfl) yA)⟩
   | exit id => exact ⟨.exit id, a₁, w₁, hq, fun k' hk => harr.1 k' (by rw [hx]; exact hk), fun h1 hk => harr.2 h1 (by rw [hx]; exact hk)⟩
   | goto l' =>
    obtain ⟨rfl, hJ', hlt⟩ := hq
    obtain ⟨e₂, a₂, w₂, hq₂, harr₂⟩ := ih _ (by omega) a₁ w₁ rfl hJ'
    exact ⟨e₂, a₂, w₂, hq₂, .of_steps (harr.1 _ hg) harr₂⟩
   | ret => exact ⟨_, a₁, w₁, hq, harr⟩
   | panic ch => exact ⟨_, a₁, w₁, hq, harr⟩
   | outgrown => exact ⟨_, a₁, w₁, hq, harr⟩
 have h0 : (lone (b.atR a (.code (.scope c) :: k)) cs w).fenced P F := fenced_calm hb hr rfl
 obtain ⟨e, a₁, w₁, hq, harr⟩ := first b (.inScope c :: k) cs hro hb hr
 cases e with
 | normal => exact ⟨.normal, a₁, w₁, hq, .head h0 jS (StepsIn.trans harr (.one (fenced_calm hb hr rfl) yA))⟩
 | exit id => exact ⟨.exit id, a₁, w₁, hq, fun k' hk => .head h0 jS (harr.1 k' (by rw [hx]; exact hk)), fun h1 hk => let ⟨k₁, h2, h3⟩ := harr.2 h1 (by rw [hx]; exact hk); ⟨k₁, h2, .head h0 jS h3⟩⟩
 | goto l' =>
  obtain ⟨rfl, hJ'⟩ := hq
  obtain ⟨e₂, a₂, w₂, hq₂, harr₂⟩ := key _ a₁ w₁ rfl hJ'
  exact ⟨e₂, a₂, w₂, hq₂, .of_steps (.head h0 jS (harr.1 _ hg)) harr₂⟩
 | ret => exact ⟨_, a₁, w₁, hq, .of_steps (.one h0 jS) harr⟩
 | panic ch => exact ⟨_, a₁, w₁, hq, .of_steps (.one h0 jS) harr⟩
 | outgrown => exact ⟨_, a₁, w₁, hq, .of_steps (.one h0 jS) harr⟩
def aPS {Γ : Ctx} {k : dS} {e : Env} {L : aB} {σ : Type} {c B : Code} (l : Nat) (M : AE) (vs : σ → List (Nat × AH)) (H : σ → aB) (J : σ → Prop) (μ : σ → Nat) (hf : findLabel c l = some (.seq .skip B)) (hX : ∀ j, lS k.X (2 * j + 1) = none)
    (first : (∀ s e1 L1, J s → lK e1 (vs s) → dU M e1 e → (∀ w, St Γ.w0 Γ.ms L1 w → St Γ.w0 Γ.ms (H s) w) →
        C Γ B ⟨k.N, k.R, (2 * l + 1, fun e' L' => ∃ s, J s ∧ lK e' (vs s) ∧ dU M e' e ∧ (∀ w, St Γ.w0 Γ.ms L' w → St Γ.w0 Γ.ms (H s) w)) :: k.X⟩ e1 L1) →
      C Γ c ⟨k.N, k.R, (2 * l + 1, fun e' L' => ∃ s, J s ∧ lK e' (vs s) ∧ dU M e' e ∧ (∀ w, St Γ.w0 Γ.ms L' w → St Γ.w0 Γ.ms (H s) w)) :: k.X⟩ e L)
    (pass : ∀ s x, J s → C Γ B ⟨k.N, k.R, (2 * l + 1, fun e' L' => ∃ s', J s' ∧ μ s' < μ s ∧ lK e' (vs s') ∧ dU M e' e ∧ (∀ w, St Γ.w0 Γ.ms L' w → St Γ.w0 Γ.ms (H s') w)) :: k.X⟩ (mix M (vs s) x e) (H s)) :
    C Γ (.scope c) k e L := by
  have hp : ∀ s e1 L1, J s → lK e1 (vs s) → dU M e1 e → (∀ w, St Γ.w0 Γ.ms L1 w → St Γ.w0 Γ.ms (H s) w) →
        C Γ B ⟨k.N, k.R, (2 * l + 1, fun e' L' => ∃ s, J s ∧ lK e' (vs s) ∧ dU M e' e ∧ (∀ w, St Γ.w0 Γ.ms L' w → St Γ.w0 Γ.ms (H s) w)) :: k.X⟩ e1 L1 := fun s e1 L1 hJ hs hA hH => by
    rw [vK hs hA]
    refine eP hH (aJQ (pass s e1 hJ) ?_)
    rintro (_ | id | l' | _ | _ | _) e2 L2 h2 <;> simp only [dS.at] at h2 ⊢
    · exact h2
    · rw [mG (by omega)] at h2 ⊢; exact h2
    · by_cases hl : l' = l
      · subst hl
        rw [uZ] at h2 ⊢
        obtain ⟨s', h3, _, h4⟩ := h2
        exact ⟨s', h3, h4⟩
      · rw [mG (by omega)] at h2 ⊢; exact h2
    · exact h2
  have first := first hp
  intro a w ha hw
  classical
  let I : σ → Act → AI → Prop := fun s a w => J s ∧ ∃ x, Rep Γ.n Γ.D (mix M (vs s) x e) a ∧ St Γ.w0 Γ.ms (H s) w
  let p : Act → AI → Nat → Prop := fun a w m => ∃ i, I i a w ∧ μ i = m
  let f : Act → AI → Nat := fun a w => if h : ∃ m, p a w m then Classical.choose (aDW h) else 0
  have hff : ∀ a w, (∃ m, p a w m) → p a w (f a w) ∧ ∀ k, k < f a w → ¬ p a w k := fun a w h => by
    have := Classical.choose_spec (aDW h)
    simp only [f, dif_pos h]
    exact this
  refine aAZ l (fun a w => ∃ s, I s a w) f hf ?_ ?_
  · refine wpIn_mono (first a w ha hw) ?_
    rintro ex a' w' ⟨e', L', h1, h2, h3⟩
    cases ex <;> simp only [dS.at, Exit.jump] at h3 ⊢
    case normal => exact ⟨e', L', h1, h2, h3⟩
    case ret => exact ⟨e', L', h1, h2, h3⟩
    case exit id => rw [mG (by omega)] at h3; exact ⟨e', L', h1, h2, h3⟩
    case goto l' =>
      by_cases hl : l' = l
      · subst hl
        rw [uZ] at h3
        obtain ⟨s, hJ, hs, hA, hH⟩ := h3
        exact ⟨rfl, s, hJ, e', by rw [← vK hs hA]; exact h1, hH _ h2⟩
      · rw [mG (by omega), hX] at h3
        exact h3.elim
  · intro a w hI
    obtain ⟨i1, hi1⟩ := hI
    obtain ⟨⟨s, ⟨hJ, x, ha, hw⟩, hm⟩, _⟩ := hff a w ⟨_, i1, hi1, rfl⟩
    refine wpIn_mono (aHI (aIQ (k := ⟨fun e L => C Γ B _ e L, _, _⟩) (pass s x hJ)) a w ha hw) ?_
    rintro ex a' w' ⟨e', L', h1, h2, h3⟩
    cases ex <;> simp only [dS.at, Exit.jump] at h3 ⊢
    case normal => exact ⟨e', L', h1, h2, h3⟩
    case ret => exact ⟨e', L', h1, h2, h3⟩
    case exit id => rw [mG (by omega)] at h3; exact ⟨e', L', h1, h2, h3⟩
    case goto l' =>
      by_cases hl : l' = l
      · subst hl
        rw [uZ] at h3
        obtain ⟨s', hJ', hlt, hs, hA, hH⟩ := h3
        have hI' : I s' a' w' := ⟨hJ', e', by rw [← vK hs hA]; exact h1, hH _ h2⟩
        refine ⟨rfl, ⟨s', hI'⟩, ?_⟩
        have h4 := (hff a' w' ⟨_, s', hI', rfl⟩).2
        rcases dh (f a' w') (f a w) with h5 | h5
        · exact h5
        · exact absurd ⟨s', hI', rfl⟩ (h4 (μ s') (by omega))
      · rw [mG (by omega), hX] at h3
        exact h3.elim
end Go.VV
