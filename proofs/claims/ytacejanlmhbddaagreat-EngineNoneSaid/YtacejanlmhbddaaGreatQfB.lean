/- Parts. -/
import Derived.Laws.BytesArg
import Derived.Laws.Externs
import Derived.Laws.Strings2
import Derived.Laws.StructEq
import Derived.Laws.World
import Derived.Lib.AppendZeros
import Derived.Lib.Overlaps
import Derived.Lib.SmallJoins
import Derived.OpenShut
import Derived.ProofKit
import Derived.RangeFuncRecord
import Derived.WalkKit
import Derived.Test.YtacejanlmhbddaaGreatQfA
set_option maxRecDepth 100000
set_option maxHeartbeats 1000000
set_option linter.all false
namespace Go.VV
open Go
section
variable {α : Type} {c : α → AA} {s : Nat}
def aF (c : α → AA) (l : List α) : AA := l.flatMap c
def kB (x : α) (l : List α) : aF c (x :: l) = c x ++ aF c l := rfl
def gJ (a b : List α) : aF c (a ++ b) = aF c a ++ aF c b := by simp [aF]
def bM (hc : ∀ x, (c x).length = s) (l : List α) : (aF c l).length = l.length * s := by
 induction l with
 | nil => simp [aF]
 | cons x l ih => rw [kB, dw, ih, hc, ii, i5, Nat.one_mul, ir]
def nH (X Y Z y : AA) (h : Y.length = y.length) : aO (X ++ (Y ++ Z)) X.length y = X ++ (y ++ Z) := by
 unfold aO
 have h1 : (X ++ (Y ++ Z)).take X.length = X := by simp
 have h2 : (X ++ (Y ++ Z)).drop (X.length + y.length) = Z := by
  rw [← h, ← cg]
  have : X.length + Y.length = (X ++ Y).length := by simp
  rw [this]; simp
 rw [h1, h2, cg]
def aAc (hc : ∀ x, (c x).length = s) (A B : List α) (x y : α) (sp : AA) : aO (aF c (A ++ x :: B) ++ sp) (0 + A.length * s) (c y) = aF c (A ++ y :: B) ++ sp := by
 have := nH (aF c A) (c x) (aF c B ++ sp) (c y) (by rw [hc, hc])
 rw [bM hc] at this
 simpa [gJ, kB, cg] using this
def aI5 (hc : ∀ x, (c x).length = s) (A B : List α) (x y z : α) (sp : AA) : aO (aF c ((A ++ [x]) ++ y :: B) ++ sp) (0 + (A ++ [x]).length * s) (c z) = aF c (A ++ x :: z :: B) ++ sp := by
 rw [aAc hc (A ++ [x]) B y z sp, cg]; rfl
def aEr (hc : ∀ x, (c x).length = s) (A B : List α) (x y : α) (sp : AA) : 0 + A.length * s + (c y).length ≤ (aF c (A ++ x :: B) ++ sp).length := by
 rw [dw, gJ, kB, dw, dw, bM hc, hc, hc]; omega
def Row.elem {w : AI} {b off : Nat} {A B : List α} {x : α} {sp : AA} (hc : ∀ x, (c x).length = s) (h : Row w b off (aF c (A ++ x :: B) ++ sp)) : Row w b (off + A.length * s) (c x) := by
 intro j v hv
 have hj : j < (c x).length := by
  rcases dk j (c x).length with h1 | h1
  ·exact h1
  ·rw [dm h1] at hv; cases hv
 have := h (A.length * s + j) v (by
  rw [gJ, kB, ← bM hc A, cg, ea (Nat.le_add_right _ _), f0, cg, cx hj]
  exact hv)
 rw [dt]; exact this
def Row.elem2 {w : AI} {b off : Nat} {A B : List α} {x y : α} {sp : AA} (hc : ∀ x, (c x).length = s) (h : Row w b off (aF c ((A ++ [x]) ++ y :: B) ++ sp)) : Row w b (off + A.length * s) (c x) := by
 rw [cg] at h
 exact Row.elem hc h
def aDy {l : List α} (h : 0 < l.length) : ∃ A a, l = A ++ [a] := by
 have hn : l ≠ [] := by intro h0; subst h0; simp at h
 exact ⟨l.dropLast, l.getLast hn, (List.dropLast_concat_getLast hn).symm⟩
def yL {A : List α} {x : α} (h : A.length < 1000000000) : IntKind.i64.wrap (((A ++ [x]).length : Int) - 1) = (A.length : Int) := by
 rw [dw, ar, aL (by omega) (by omega)]; omega
def uJ {l : List α} {j : Nat} (hj : j < l.length) : l = l.take j ++ l[j] :: l.drop (j + 1) := by
 rw [List.getElem_cons_drop, df]
def Row.nth {w : AI} {b off : Nat} {l : List α} (hc : ∀ x, (c x).length = s) (h : Row w b off (aF c l)) {j : Nat} (hj : j < l.length) : Row w b (off + j * s) (c l[j]) := by
 have h' : Row w b off (aF c (l.take j ++ l[j] :: l.drop (j + 1)) ++ []) := by rw [← uJ hj, bg]; exact h
 have := Row.elem hc h'
 rwa [ej, eq (by omega)] at this
def Row.nth' {w : AI} {b off : Nat} {l : List α} {x : α} (hc : ∀ x, (c x).length = s) (h : Row w b off (aF c l)) {j : Nat} (hj : l[j]? = some x) : Row w b (off + j * s) (c x) := by
 obtain ⟨h1, h2⟩ := List.getElem?_eq_some_iff.1 hj
 have := Row.nth hc h h1
 rwa [h2] at this
def Row.left {w : AI} {b off : Nat} {l r : AA} (h : Row w b off (l ++ r)) : Row w b off l := fun j v hv => h j v (by
 have hj : j < l.length := by
  rcases dk j l.length with h1 | h1
  ·exact h1
  ·rw [dm h1] at hv; cases hv
 rw [cx hj]; exact hv)
def Els (w : AI) (c : α → AA) (a : AC) (l : List α) : Prop := 0 < l.length → ∃ b off, a = some ⟨b, off, none⟩ ∧ Row w b off (aF c l)
def Els.nil (w : AI) (c : α → AA) (a : AC) : Els w c a [] := fun h => by simp at h
def Els.row {w : AI} {a : AC} {l : List α} (h : Els w c a l) {i : Nat} (hi : i < l.length) : ∃ b off, a = some ⟨b, off, none⟩ ∧ Row w b off (aF c l) := h (by omega)
def Els.later0 {w0 w : AI} {H : aC} {a : AC} {l : List α} (h : Els w0 c a l) (hw : St w0 [] H w) : Els w c a l := fun hl => by
 obtain ⟨b, off, ha, hr⟩ := h hl
 exact ⟨b, off, ha, aN hr (by simp) w hw⟩
def aF9 (G : aC) (c : α → AA) (a : AC) (l : List α) : Prop :=
 0 < l.length → ∃ b off, a = some ⟨b, off, none⟩ ∧ ∀ w : AI, (∀ x ∈ G, w.heap[x.1]? = some x.2) → Row w b off (aF c l)
def aF9.els {G H : aC} {a : AC} {l : List α} {w0 w : AI} {ms : AE} (h : aF9 G c a l) (hw : St w0 ms H w) (hs : ∀ x ∈ G, x ∈ H) : Els w c a l := fun hl => by
 obtain ⟨b, off, ha, hr⟩ := h hl
 exact ⟨b, off, ha, hr w fun x hx => hw.holds x (hs x hx)⟩
def Vec.gives {T n : Nat} {v : AH} {G : aC} {l : List α} (h : Vec T s v n (aF c l) G) (hc : ∀ x, (c x).length = s) (hs : 0 < s) : ∃ a cp, v = .slice a n cp ∧ l.length = n ∧ n ≤ cp ∧ aF9 G c a l := by
 have hl := h.len
 rw [bM hc] at hl
 have hn : l.length = n := gn hs hl
 generalize hx : aF c l = xs at h
 cases h with
 | nil => exact ⟨none, 0, rfl, hn, av _, fun h0 => by omega⟩
 | row b _ cap _ sp h1 h2 h3 h4 =>
  refine ⟨_, cap, rfl, hn, h4, fun _ => ⟨b, 0, rfl, fun w hw => ?_⟩⟩
  have := Row.all (w := w) (b := b) (hw _ (.head _))
  rw [← hx] at this
  exact this.left
end
def lZ {P : AL} {e : Env} {d : AD} {ty : AJ} {pos : String} {af : AG} {g : Option (Nat × Bool)} {t el n s : Nat} {parts : List (Nat × AK)} {ps : List (Nat × AH)} {l z : AA}
  (hu : wP P t = some (n, el, s)) (hz : oD P t = some z) (hp : xJ e parts = some ps) (hf : yH (fun i => some (i * s, s)) z ps = some l) :
  bN P e ⟨d, .build t parts.toArray, ty, pos, af, g⟩ = some (.agg l.toArray) := by
 refine bA ?_ rfl
 obtain ⟨h1, h2⟩ := sW hu
 have hpp := vA hp
 have hfl := oH hf
 have hzz : ∀ {α : Type} (f : AH → Sem α), ∃ zv : AH, zv.cells = z.toArray ∧ bS P (zeroValue t >>= f) = bS P (f zv) := by
  intro α f
  unfold oD at hz
  split at hz
  ·rename_i i hi
   split at hz
   ·rename_i zv hzv
    refine ⟨zv, pT hz, ?_⟩
    simp [zeroValue, typeInfo, program, bind, Sem.bind, bS, hi, hzv, pure]
   ·cases hz
  ·cases hz
 simp only [execOp, Instr.build, bind_assoc]
 obtain ⟨zv, hzc, hzr⟩ := hzz (fun zero => underlying t >>= fun d => _)
 rw [hzr, bQ h1]
 simp only [bind_assoc]
 rw [iR h2]
 have h9 : ((List.toArray parts).map fun (i, x) => (i, ev e x)).toList = ps := by simpa using hpp
 simp only [h9, hzc, hfl]
 rfl
def aAC {Γ : Ctx} {e : Env} {H : aC} {d : AD} {ty : AJ} {pos : String} {af : AG} {g : Option (Nat × Bool)} {t el n : Nat} (hu : oS Γ.P t = some (el, n)) :
  Op1 Γ ⟨d, .buildSlice t 0 #[], ty, pos, af, g⟩ e H (fun u H' => ∃ b, u = .slice (some ⟨b, 0, none⟩) 0 0 ∧ H' = (b, blk [] el) :: H) := by
 intro w hw
 obtain ⟨h1, h2⟩ := jH hu
 refine cH (v := .slice (some ⟨w.heap.size, 0, none⟩) 0 0) (w' := w.alloc (blk [] el)) ?_ ⟨_, hw.alloc _, _, rfl, rfl⟩
 have h3 : ¬ (0 : Nat) > 2 ^ 24 := by decide
 have hq : (#[] : Array (Nat × AK)).map (fun x => (x.1, ev e x.2)) = #[] := by simp
 have hm : (Array.range 0).map (fun x => (#[] : Array AH)[x % (#[] : Array AH).size]!) = #[] := by simp
 have key : (Instr.buildSlice t 0 #[]).run Γ.P w = .ok (.slice (some ⟨w.heap.size, 0, none⟩) 0 0) (w.alloc (blk [] el)) := by
  unfold Instr.buildSlice
  simp only [am, run_underlying h1, gL h2, aj, fw, if_true, if_neg h3, az, hm, Instr.fill]
  rfl
 simp only [execOp, hq, am, key, aj, az]
def aHS {kd : AM} {l : AB} {k : Nat} (h : k < l.length) : (l.map (Value.int kd))[k]? = some (.int kd (l.getD k 0)) := by simp [h]
def eR {G : aC} {b : Nat} (h : b ∈ G.map (·.1)) : ∃ o, (b, o) ∈ G := by
 obtain ⟨⟨b', o⟩, h1, h2⟩ := List.mem_map.1 h
 exact ⟨o, by simp only at h2; subst h2; exact h1⟩
def oQ {l vs : AA} (h : vs.length = l.length) : aO l 0 vs = vs := by
 unfold aO
 rw [gc, ci, bi, h, List.drop_length, bg]
def jI {α : Type} {c : α → AA} (A : List α) (x : α) : aF c (A ++ [x]) = aF c A ++ c x := by simp [aF]
section
variable {kd : AM} {f : Nat → Int} {N k : Nat}
def lB (kd : AM) (f : Nat → Int) (N k : Nat) : AA := (List.range k).map (fun i => Value.int kd (f i)) ++ List.replicate (N - k) (.int kd 0)
def aEi (kd : AM) (f : Nat → Int) (N : Nat) : List.replicate N (Value.int kd 0) = lB kd f N 0 := by simp [lB]
def yG (hk : k ≤ N) : (lB kd f N k).length = N := by simp [lB]; omega
def aKh (hk : k < N) : lB kd f N k = (List.range k).map (fun i => Value.int kd (f i)) ++ ([.int kd 0] ++ List.replicate (N - (k + 1)) (.int kd 0)) := by
 unfold lB
 have : N - k = (N - (k + 1)) + 1 := by omega
 rw [this, List.replicate_succ]; rfl
def yU (hk : k < N) (v : Int) (hv : v = f k) : aO (lB kd f N k) k [.int kd v] = lB kd f N (k + 1) := by
 have := nH ((List.range k).map (fun i => Value.int kd (f i))) [.int kd 0] (List.replicate (N - (k + 1)) (.int kd 0)) [.int kd v] rfl
 rw [iu, List.length_range] at this
 rw [aKh hk, this, hv]
 simp [lB, d7]
def aF3 (kd : AM) (f : Nat → Int) (N : Nat) : lB kd f N N = (List.range N).map (fun i => Value.int kd (f i)) := by simp [lB]
def aEu (kd : AM) (f : Nat → Int) (N k : Nat) : eD (lB kd f N k) = true := by
 refine List.all_eq_true.2 fun x hx => ?_
 rcases List.mem_append.1 hx with h | h
 ·obtain ⟨i, _, rfl⟩ := List.mem_map.1 h; rfl
 ·obtain ⟨_, rfl⟩ := List.mem_replicate.1 h; rfl
def aI4 {l : AA} {u v : AH} {k : Nat} (hk : k < l.length) : aO (aO l k [u]) k [v] = aO l k [v] := by
 have h1 : l = l.take k ++ ([l[k]] ++ l.drop (k + 1)) := by simp
 have hlen : (l.take k).length = k := by rw [ej]; omega
 generalize l.take k = X at *
 generalize l.drop (k + 1) = Z at *
 generalize l[k] = y at *
 have e : ∀ a b : AH, aO (X ++ ([a] ++ Z)) k [b] = X ++ ([b] ++ Z) := fun a b => by
  have := nH X [a] Z [b] rfl
  rwa [hlen] at this
 rw [h1, e, e, e]
def lK {l vs : AA} {o : Nat} (h : o + vs.length ≤ l.length) : (aO l o vs).length = l.length := by
 simp only [aO, dw, ej, gi]; omega
end
def yE (P : AL) (t0 : AJ) (name : String) (f : Nat) : Prop := ∀ (v : AH) (w : AI), (method (P.types.size + Made.depth) t0 v name).run P w = .ok (f, v) w
def aMJ {P : AL} {e : Env} {f : Nat} {x : AK} {t0 : AJ} {v : AH} {name : String} {l : AF} {ts : Array AJ} {d : AD} {t : AJ} {pos : String} {af : AG} {g : Option (Nat × Bool)}
  (hx : ev e x = .iface t0 v) (hm : yE P t0 name f) (hc : dG P f = true) (w : AI) :
  (execOp (ev e) ⟨d, .call ⟨.invoke x name, l.toArray, ts⟩, t, pos, af, g⟩).run P w = .ok (.enter f (#[v] ++ (l.map (ev e)).toArray)) w := by
 unfold dG at hc
 split at hc
 ·rename_i fn hf
  simp only [aq, ed] at hc
  obtain ⟨h1, h2⟩ := hc
  have hs : (program : Sem AL) = .program .pure := rfl
  have h3 : ¬ fn.name = "runtime.NumGoroutine" := by simpa using h1
  have h4 : ¬ fn.body = none := by
   intro hx; rw [hx] at h2; cases h2
  have hp : ∀ w, (program : Sem AL).run P w = .ok P w := fun w => rfl
  have hcf : ∀ (args : Array AH) w, (callFunc f args).run P w = .ok (.enter f args) w := fun args w => by
   simp [callFunc, bind, Sem.bind, Sem.run, hf, h3, h4, pure, hs]
  simp only [execOp, resolve, am, az, aj, invoke, callMethod, hx]
  simp [hm v w, hcf, hp, am, aj]
  exact c8 (by simp)
 ·cases hc
section
variable {Γ : Ctx} {e : Env} {H F G : aC} {d : AD} {t : AJ} {pos : String} {af : AG} {g : Option (Nat × Bool)} {f : Nat} {x : AK} {l : AF} {ts : Array AJ}
def aPL {t0 : AJ} {v : AH} {name : String} {vs : AA} (ms2 : AE) (hx : ev e x = .iface t0 v) (hm : yE Γ.P t0 name f) (hc : dG Γ.P f = true) (hv : evs e l = some vs) {R : AH → aC → Prop}
  (hms : ∀ b ∈ ms2, ∃ o, (b, o) ∈ F) (hf : ∀ w, St Γ.w0 Γ.ms (F ++ G) w → aB Γ.P f (v :: vs) w ms2 R) :
  Op1 Γ ⟨d, .call ⟨.invoke x name, l.toArray, ts⟩, t, pos, af, g⟩ e (F ++ G) (fun v H2 => ∃ H', R v H' ∧ H2 = H' ++ G) := fun w hw => by
 refine aAz (aMJ hx hm hc w) ?_
 have : #[v] ++ (l.map (ev e)).toArray = (v :: vs).toArray := by
  rw [uI hv]
  simp
 rw [this]
 refine Calls.mono (hf w hw) ?_
 rintro ex w' ⟨v, H', rfl, h1, h2⟩
 exact ⟨v, rfl, _, hw.call hms h1, H', h2, rfl⟩
def gP {A : aC} {t0 : AJ} {v : AH} {name : String} {vs : AA} (hx : ev e x = .iface t0 v) (hm : yE Γ.P t0 name f) (hc : dG Γ.P f = true) (hv : evs e l = some vs) {R : AH → aC → Prop}
  (hf : ∀ w, St Γ.w0 Γ.ms (A ++ F) w → aB Γ.P f (v :: vs) w (A.map (·.1)) R) :
  Op1 Γ ⟨d, .call ⟨.invoke x name, l.toArray, ts⟩, t, pos, af, g⟩ e (F ++ A) (fun v H2 => ∃ H', R v H' ∧ H2 = F ++ H') := fun w hw => by
 refine kJ (aPL (F := A) (G := F) (A.map (·.1)) hx hm hc hv (fun _ hb => eR hb) hf w (hw.perm aw)) ?_
 rintro v w' ⟨H2, h2, H', hR, rfl⟩
 exact ⟨F ++ H', h2.perm aw, H', hR, rfl⟩
def aR {A : aC} {vs : AA} (hc : dG Γ.P f = true) (hv : evs e l = some vs) {R : AH → aC → Prop}
  (hf : ∀ w, St Γ.w0 Γ.ms (A ++ F) w → aB Γ.P f vs w (A.map (·.1)) R) :
  Op1 Γ ⟨d, .call ⟨.value (.func f), l.toArray, ts⟩, t, pos, af, g⟩ e (F ++ A) (fun v H2 => ∃ H', R v H' ∧ H2 = F ++ H') := fun w hw => by
 refine kJ (eQ (A := A) (G := F) (A.map (·.1)) hc hv (fun _ hb => eR hb) hf w (hw.perm aw)) ?_
 rintro v w' ⟨H2, h2, H', hR, rfl⟩
 exact ⟨F ++ H', h2.perm aw, H', hR, rfl⟩
def aBR {A : aC} {B C vs : AA} (hx : vnf (ev e x) = some (.func (.func f) B.toArray C.toArray)) (hc : dG Γ.P f = true) (hv : evs e l = some vs) {R : AH → aC → Prop}
  (hf : ∀ w, St Γ.w0 Γ.ms (A ++ F) w → aB Γ.P f (B ++ vs ++ C) w (A.map (·.1)) R) :
  Op1 Γ ⟨d, .call ⟨.value x, l.toArray, ts⟩, t, pos, af, g⟩ e (F ++ A) (fun v H2 => ∃ H', R v H' ∧ H2 = F ++ H') := fun w hw => by
 refine kJ (aFY (F := A) (G := F) (A.map (·.1)) hx hc hv (fun _ hb => eR hb) hf w (hw.perm aw)) ?_
 rintro v w' ⟨H2, h2, H', hR, rfl⟩
 exact ⟨F ++ H', h2.perm aw, H', hR, rfl⟩
end
section
variable {P : AL} {e : Env} {H : aC}
def xK {a b c d : Nat} {T U : AJ} {l m : AA} {w : AI} (h : vnf (e a) = some (.pointer (some ⟨b, 0, none⟩))) (hs : qQ P T = true) (hn : gG P T = some l.length) (hr : Row w b 0 l)
  (h2 : vnf (e c) = some (.pointer (some ⟨d, 0, none⟩))) (hs2 : qQ P U = true) (hn2 : gG P U = some m.length) (hr2 : Row w d 0 m) :
  jA P [.cell a T, .cell c U] e w (.tuple #[.agg l.toArray, .agg m.toArray]) := by
 have h := aM h
 have hl := run_loadCells_list (P := P) w ⟨b, 0, none⟩ l hr.add
 have h2 := aM h2
 have hl2 := run_loadCells_list (P := P) w ⟨d, 0, none⟩ m hr2.add
 simp [jA, qB, h, h2, asAddr, loadVar, am, mD hs, gL hn, mD hs2, gL hn2, hl, hl2]
end
def aMg {w0 : AI} {ms : AE} (A : aC) {x : Nat × Obj} {R : aC} : ∀ w, St w0 ms (x :: (A ++ R)) w → St w0 ms (A ++ x :: R) w := fun _ hw => hw.perm List.perm_middle.symm
end Go.VV
namespace Go.VV
open Go Go.ChangeShapes Go.WideShapes Go.ChangeAt Go.RowKit
def zI {W W' : AI} {H : aC} (h : St W [] H W') : Below W.heap.size W W' :=
 ⟨h.os, h.tape, h.output, h.size, fun k hk => h.block k hk (by simp)⟩
section
variable {H : Type} {enc : AJ × AH → H} {P : AL} {W : AI}
def lW (hl : laidOutB P = true) {W' : AI} (bel : Below W.heap.size W W') : ∀ {ts : List AJ} {vs : AA} {ds : List (DataW H)} {p : List MemPlace},
  (ts.all fun t => P.readableRec t && decide (t < P.types.size)) = true → DataW.TrodAll enc P W 0 (fun _ => true) true ts vs ds p →
  DataW.TrodAll enc P W' 0 (fun b => decide (b < W.heap.size)) true ts vs ds p
 | [], vs, ds, p, _, h => by
  obtain ⟨rfl, rfl, rfl⟩ := trodAll_nil h
  exact trodAll_mk0
 | t :: ts, vs, ds, p, hr, h => by
  simp only [f2, aq, decide_eq_true_eq] at hr
  obtain ⟨v, vs', d, ds', p1, q, rfl, rfl, rfl, h1, h2⟩ := trodAll_cons h
  have hlt : ∀ x ∈ p1, x.block < W.heap.size := by obtain ⟨m, hm⟩ := h1; exact DataW.trod_lt m _ _ _ hm
  exact trodAll_cons_mk (Below.trod hl hr.1.1 hr.1.2 h1 bel hlt) (lW hl bel hr.2 h2)
def aBr {x : Int} (h : (Lit.int .u8 x).wf = true) : 0 ≤ x ∧ x < 256 := by
 simp only [Lit.wf, aq, decide_eq_true_eq] at h
 have h1 : IntKind.u8.min = 0 := by decide
 have h2 : IntKind.u8.max = 255 := by decide
 omega
def aSO {x : Int} (h : (Lit.int .u64 x).wf = true) : 0 ≤ x ∧ x ≤ 18446744073709551615 := by
 simp only [Lit.wf, aq, decide_eq_true_eq] at h
 have h1 : IntKind.u64.min = 0 := by decide
 have h2 : IntKind.u64.max = 18446744073709551615 := by decide
 omega
def aHz {l : AB} (h : ∀ x ∈ l, (Lit.int .u8 x).wf = true) : aT l := fun x hx => aBr (h x hx)
end
end Go.VV
namespace Go.VV
open Go
def St.put {w0 w : AI} {ms : AE} {b : Nat} {o : Obj} {R : aC} (h : St w0 ms ((b, o) :: R) w) (o' : Obj) : St w0 ms ((b, o') :: R) (w.putObj b o') :=
 h.turn rfl rfl rfl (by simp) (fun _ hk => World.putObj_heap_other hk) (World.putObj_heap_same (h.lt (x := (b, o)) (.head _)))
def rX : AE → AA → Env → Env
 | p :: ps, v :: vs, e => rX ps vs (e.set p v)
 | _, _, e => e
structure aAF (n : Nat) (e0 : Env) (ps : AE) (assign body : Code) (rec : Loop) : Prop where
 ready : rec.state = .ready
 calm : rec.pending = none
 params : rec.params = ps.toArray
 assign : rec.assign = assign
 body : rec.body = body
 rep : Rep n [] e0 { tmps := rec.tmps, defers := [] }
abbrev inR (Γ : Ctx) (n lb : Nat) : Ctx := ⟨Γ.P, n, Γ.w0, Γ.ms, some lb, []⟩
abbrev busy (rec : Loop) : Loop := { rec with state := .busy }
def aE8 (Γ : Ctx) (n lb : Nat) (rec : Loop) (ps : AE) (assign body : Code) (vs : AA) (e0 : Env) (H : aC) (K : AH → aC → Prop) : Prop :=
 C (inR Γ n lb) assign ⟨fun e1 H1 => ∃ G1, (∀ w, St Γ.w0 Γ.ms H1 w → St Γ.w0 Γ.ms ((lb, .loop rec) :: G1) w) ∧
   C (inR Γ n lb) body ⟨fun _ H2 => ∃ G2, (∀ w, St Γ.w0 Γ.ms H2 w → St Γ.w0 Γ.ms ((lb, .loop (busy rec)) :: G2) w) ∧ K (.bool true) ((lb, .loop rec) :: G2),
    fun _ H2 => ∃ G2, (∀ w, St Γ.w0 Γ.ms H2 w → St Γ.w0 Γ.ms ((lb, .loop (busy rec)) :: G2) w) ∧ K (.bool false) ((lb, .loop { rec with state := .done, pending := some .ret }) :: G2), []⟩ e1 ((lb, .loop (busy rec)) :: G1),
  fun _ _ => False, []⟩ (rX ps vs e0) H
def aCV {n : Nat} : ∀ {ps : AE} {vs : AA} {e : Env} {tmps : Array AH}, ps.all (fun p => Nat.blt p n) = true → Rep n [] e { tmps := tmps, defers := [] } →
  Rep n [] (rX ps vs e) { tmps := (ps.zip vs).foldl (fun tmps (t, a) => tmps.setIfInBounds t a) tmps, defers := [] }
 | [], _, _, _, _, h => by simpa [rX] using h
 | _ :: _, [], _, _, _, h => by simpa [rX] using h
 | p :: ps, v :: vs, e, tmps, hp, h => by
  simp only [f2, aq] at hp
  simp only [rX, List.zip_cons_cons, iq]
  exact aCV hp.2 (h.put (d := some p) (by simpa [cQ] using hp.1) v)
def aOg {Γ : Ctx} {n lb : Nat} {rec : Loop} {ps : AE} {assign body : Code} {vs : AA} {e0 : Env} {H : aC} {K : AH → aC → Prop} {r : AD}
  (hl : aAF n e0 ps assign body rec) (hp : ps.all (fun p => Nat.blt p n) = true) (h : aE8 Γ n lb rec ps assign body vs e0 H K) {w : AI} (hw : St Γ.w0 Γ.ms H w) :
  RoundIn (Fr r) 0 Γ.P lb rec.fn ((rec.params.zip vs.toArray).foldl (fun tmps (t, a) => tmps.setIfInBounds t a) rec.tmps) rec.assign rec.body w
   (fun ex w' => ∃ v H', ex = .returned v ∧ St Γ.w0 Γ.ms H' w' ∧ K v H') := by
 refine roundIn_of_wpIn (F := Fr r) trivial ?_
 have hrep := aCV (vs := vs) hp hl.rep
 have hz : (rec.params.zip vs.toArray).foldl (fun tmps (t, a) => tmps.setIfInBounds t a) rec.tmps = (ps.zip vs).foldl (fun tmps (t, a) => tmps.setIfInBounds t a) rec.tmps := by
  rw [hl.params, List.zip_toArray, List.foldl_toArray]
 rw [hz, hl.assign, hl.body]
 refine wpIn_mono (h _ w hrep hw) ?_
 rintro ex a1 w1 ⟨e1, H1, ha1, hw1, h1⟩
 cases ex <;> simp only [eJ.at, Exit.then, nB] at h1 ⊢
 case normal =>
  obtain ⟨G1, hG1, hb⟩ := h1
  have hw1 := hG1 _ hw1
  refine ⟨_, run_beginRound (hw1.holds (lb, _) (.head _)) hl.ready, ?_⟩
  refine wpIn_mono (hb a1 _ ha1 (hw1.put _)) ?_
  rintro ex a2 w2 ⟨e2, H2, _, hw2, h2⟩
  cases ex <;> simp only [eJ.at, roundPost, nB] at h2 ⊢
  case normal =>
   obtain ⟨G2, hG2, hk⟩ := h2
   have hw2 := hG2 _ hw2
   refine ⟨_, _, run_endRound none (hw2.holds (lb, _) (.head _)), ?_⟩
   refine ⟨_, _, rfl, hw2.put _, ?_⟩
   have : ({ busy rec with state := if (none : Option Code).isNone = true then LoopState.ready else LoopState.done, pending := none } : Loop) = rec := by
    have h1 := hl.ready
    have h2 := hl.calm
    cases rec
    simp only at h1 h2
    simp [h1, h2]
   rw [this]
   exact hk
  case ret =>
   obtain ⟨G2, hG2, hk⟩ := h2
   have hw2 := hG2 _ hw2
   refine ⟨_, _, run_endRound (some .ret) (hw2.holds (lb, _) (.head _)), ?_⟩
   exact ⟨_, _, rfl, hw2.put _, hk⟩
section
variable {Γ : Ctx} {k : eJ} {e : Env} {H G : aC} {ops rest : List Oper} {d : AD} {t : AJ} {pos : String} {af : AG} {g : Option (Nat × Bool)}
def aQM {n lb : Nat} {rec : Loop} {ps : AE} {assign body : Code} {vs : AA} {e0 : Env} {K : AH → aC → Prop} {x : AK} {l : AF} {ts : Array AJ}
  (hx : vnf (ev e x) = some (.func (.yield lb) #[] #[])) (hv : evs e l = some vs) (hg : gdB ops e ⟨d, .call ⟨.value x, l.toArray, ts⟩, t, pos, af, g⟩ = true) (hd : cQ Γ.n d = true)
  (hn : Nat.beq ps.length vs.length = true) (hp : ps.all (fun p => Nat.blt p n) = true) (hm : (lb, .loop rec) ∈ H)
  (hl : aAF n e0 ps assign body rec) (hR : aE8 Γ n lb rec ps assign body vs e0 H K)
  (hk : ∀ v H', K v H' → L1 Γ ops rest k (e.put d v) H') : L1 Γ ops (⟨d, .call ⟨.value x, l.toArray, ts⟩, t, pos, af, g⟩ :: rest) k e H := by
 intro a w ha hw
 unfold wpListIn
 rw [uG ha, if_pos hg]
 refine ⟨fun _ _ => trivial, ?_⟩
 rw [Oper.semAt_eq _ _ _ (fun c => by simp), ha.eval]
 have hx := aM hx
 have hsz : (vs.toArray).size = rec.params.size := by rw [hl.params]; simp; exact (bj hn).symm
 have hmap : (List.toArray l).map (ev e) = vs.toArray := by rw [← uI hv]; simp
 have hrun : (execOp (ev e) ⟨d, .call ⟨.value x, l.toArray, ts⟩, t, pos, af, g⟩).run Γ.P w =
   .ok (.round lb rec.fn ((rec.params.zip vs.toArray).foldl (fun tmps (t, a) => tmps.setIfInBounds t a) rec.tmps) rec.assign rec.body) w := by
  have hy := run_yield (P := Γ.P) (w := w) (r := rec) (args := vs.toArray) (hw.holds _ hm) hsz
  simp only [execOp, resolve, hmap, hx, Deferred.ofValue, invoke, pure_bind, Array.empty_append]
  exact hy
 rw [hrun]
 refine ⟨fun h => (by cases h), RoundIn.mono (aOg hl hp hR hw) ?_⟩
 rintro ex w' ⟨v, H', rfl, hw', hK⟩
 exact hk v H' hK _ _ (ha.put hd v) hw'
end
def T (Γ : Ctx) (fn : Func) (R : AH → aC → Prop) (c : Code) (e : Env) (H : aC) : Prop :=
 ∀ a w, Rep Γ.n Γ.D e a → St Γ.w0 Γ.ms H w → c.wpIn (Fr Γ.r) 0 Γ.P (bodyPostM (Fr none) 0 Γ.P fn (fun ex w' => ∃ v H, ex = .returned v ∧ St Γ.w0 Γ.ms H w' ∧ R v H)) a w
def T2 (Γ : Ctx) (fn : Func) (R : AH → aC → Prop) (y z : Code) (e : Env) (H : aC) : Prop :=
 ∀ a w, Rep Γ.n Γ.D e a → St Γ.w0 Γ.ms H w →
  y.wpIn (Fr Γ.r) 0 Γ.P (Exit.then (z.wpIn (Fr Γ.r) 0 Γ.P (bodyPostM (Fr none) 0 Γ.P fn (fun ex w' => ∃ v H, ex = .returned v ∧ St Γ.w0 Γ.ms H w' ∧ R v H)))
   (bodyPostM (Fr none) 0 Γ.P fn (fun ex w' => ∃ v H, ex = .returned v ∧ St Γ.w0 Γ.ms H w' ∧ R v H))) a w
def aKs {P : AL} {f : Nat} {fn : Func} {c : Code} {args : AA} {w : AI} {ms : AE} {R : AH → aC → Prop} {n : Nat} {H : aC}
  (hf : P.funcs[f]? = some fn) (hb : fn.body = some c) (hn : fn.ntmps = n) (hl : Nat.ble args.length n = true) (hH : St w ms H w)
  (h : T ⟨P, n, w, ms, none, []⟩ fn R c (aDH args) H) : aB P f args w ms R := by
 subst hn
 have hl' : args.length ≤ fn.ntmps := ae hl
 exact (callsIn_wide (n := 0)).1 (callsIn_of_wp_marks hf hb trivial (h _ w (aGm hl') hH))
section
variable {Γ : Ctx} {fn : Func} {R : AH → aC → Prop} {e : Env} {H : aC}
def aEg (hD : Γ.D = []) {ex : Exit} {a : Act} {w : AI} {e : Env} {H : aC} (hex : ex = .normal ∨ ex = .ret) (ha : Rep Γ.n Γ.D e a) (hw : St Γ.w0 Γ.ms H w) (h : oU Γ fn.results.toList R e H) :
  bodyPostM (Fr none) 0 Γ.P fn (fun ex w' => ∃ v H, ex = .returned v ∧ St Γ.w0 Γ.ms H w' ∧ R v H) ex a w := by
 obtain ⟨v, H', g1, g2, g3⟩ := h w hw
 have hd : a.defers = [] := by rw [ha.defers, hD]
 have key : LeavesInM (Fr none) 0 Γ.P fn a.tmps (fun ex w' => ∃ v H, ex = .returned v ∧ St Γ.w0 Γ.ms H w' ∧ R v H) a.defers .returning w := by
  rw [hd]
  exact ⟨v, by rw [xR ha]; exact g1, v, H', rfl, g2, g3⟩
 rcases hex with rfl | rfl <;> exact key
def aEX {x y : Code} (hD : Γ.D = []) (h : C Γ x ⟨fun e L => T Γ fn R y e L, oU Γ fn.results.toList R, []⟩ e H) : T Γ fn R (.seq x y) e H := by
 intro a w ha hw
 refine wpIn_seq (wpIn_mono (h a w ha hw) ?_)
 rintro ex a' w' ⟨e', L', h1, h2, h3⟩
 cases ex <;> simp only [eJ.at, Exit.then, nB] at h3 ⊢
 case normal => exact h3 a' w' h1 h2
 case ret => exact aEg hD (.inr rfl) h1 h2 h3
def aSP {x y z : Code} (hD : Γ.D = []) (h : C Γ x ⟨fun e L => T2 Γ fn R y z e L, oU Γ fn.results.toList R, []⟩ e H) : T Γ fn R (.seq (.seq x y) z) e H := by
 intro a w ha hw
 refine wpIn_seq (wpIn_seq (wpIn_mono (h a w ha hw) ?_))
 rintro ex a' w' ⟨e', L', h1, h2, h3⟩
 cases ex <;> simp only [eJ.at, Exit.then, nB] at h3 ⊢
 case normal => exact h3 a' w' h1 h2
 case ret => exact aEg hD (.inr rfl) h1 h2 h3
def aSe {c : Code} {D0 : Nat} (hD : Γ.D = [{ target := .collected D0, args := #[] }])
  (h : C Γ c ⟨fun e H => ∃ G, (∀ w, St Γ.w0 Γ.ms H w → St Γ.w0 Γ.ms ((D0, .deferred (some [])) :: G) w) ∧ oU Γ fn.results.toList R e G,
   fun e H => ∃ G, (∀ w, St Γ.w0 Γ.ms H w → St Γ.w0 Γ.ms ((D0, .deferred (some [])) :: G) w) ∧ oU Γ fn.results.toList R e G, []⟩ e H) : T Γ fn R c e H := by
 intro a w ha hw
 refine wpIn_mono (h a w ha hw) ?_
 have key : ∀ (e' : Env) (a' : Act) (w' : AI) (L' : aC), Rep Γ.n Γ.D e' a' → St Γ.w0 Γ.ms L' w' →
   (∃ G, (∀ w, St Γ.w0 Γ.ms L' w → St Γ.w0 Γ.ms ((D0, .deferred (some [])) :: G) w) ∧ oU Γ fn.results.toList R e' G) →
   LeavesInM (Fr none) 0 Γ.P fn a'.tmps (fun ex w' => ∃ v H, ex = .returned v ∧ St Γ.w0 Γ.ms H w' ∧ R v H) a'.defers .returning w' := by
  rintro e' a' w' L' h1 h2 ⟨G, hG, hE⟩
  have hw2 := hG _ h2
  have hd : a'.defers = [{ target := .collected D0, args := #[] }] := by rw [h1.defers, hD]
  rw [hd]
  have hw3 : St Γ.w0 Γ.ms G (w'.putObj D0 (.deferred none)) := (hw2.put (.deferred none)).sub (bf _ _)
  obtain ⟨v, H', g1, g2, g3⟩ := hE _ hw3
  refine ⟨by simp, .inl ⟨D0, _, rfl, run_takeDeferred (hw2.holds (D0, _) (.head _)), ?_⟩⟩
  exact ⟨v, by rw [xR h1]; exact g1, v, H', rfl, g2, g3⟩
 rintro ex a' w' ⟨e', L', h1, h2, h3⟩
 cases ex <;> simp only [eJ.at, nB] at h3 ⊢
 case normal => exact key e' a' w' L' h1 h2 h3
 case ret => exact key e' a' w' L' h1 h2 h3
def aPM {id : Nat} {x : AK} {ps : AE} {assign body z : Code} {f : Nat} {A B : AA} (hr : Γ.r = none) (hD : Γ.D = [])
  (hx : vnf (ev e x) = some (.func (.func f) A.toArray B.toArray)) (hc : dG Γ.P f = true)
  (h : ∀ (w : AI) (D0 lb : Nat) (rec : Loop), D0 = w.heap.size → lb = D0 + 1 → aAF Γ.n e ps assign body rec →
   ∀ w2, St Γ.w0 Γ.ms ((lb, .loop rec) :: (D0, .deferred (some [])) :: H) w2 → ∃ F G ms2 R2,
    (∀ w, St Γ.w0 Γ.ms ((lb, .loop rec) :: (D0, .deferred (some [])) :: H) w → St Γ.w0 Γ.ms (F ++ G) w) ∧ (∀ b ∈ ms2, ∃ o, (b, o) ∈ F) ∧
    aB Γ.P f (A ++ .func (.yield lb) #[] #[] :: B) w2 ms2 R2 ∧
    ∀ v H', R2 v H' → ∃ rec' G2, (∀ w, St Γ.w0 Γ.ms (H' ++ G) w → St Γ.w0 Γ.ms ((lb, .loop rec') :: G2) w) ∧ rec'.state ≠ .busy ∧ rec'.pending = none ∧
     T ⟨Γ.P, Γ.n, Γ.w0, Γ.ms, none, [{ target := .collected D0, args := #[] }]⟩ fn R z e ((lb, .loop { rec' with state := .exhausted }) :: G2)) :
  T2 Γ fn R (.block id (.rangeFunc x ps.toArray assign body)) z e H := by
 obtain ⟨P, n, w0, ms, r, D⟩ := Γ
 simp only at hr hD
 subst hr hD
 intro a w ha hw
 refine wpIn_block ?_
 refine wpIn_rangeFunc fun fno _ => ?_
 have he := run_enterLoop_outer (P := P) (w := w) fno a.tmps ps.toArray assign body
 have hw2 : St w0 ms ((w.heap.size + 1, .loop { state := .ready, pending := none, fn := fno, tmps := a.tmps, params := ps.toArray, assign, body, defers := w.heap.size }) :: (w.heap.size, .deferred (some [])) :: H)
   ((w.alloc (.deferred (some []))).alloc (.loop { state := .ready, pending := none, fn := fno, tmps := a.tmps, params := ps.toArray, assign, body, defers := w.heap.size })) := by
  have h1 := (hw.alloc (.deferred (some []))).alloc (.loop { state := .ready, pending := none, fn := fno, tmps := a.tmps, params := ps.toArray, assign, body, defers := w.heap.size })
  simpa using h1
 have hda : a.defers = [] := by rw [ha.defers]
 have hlo : aAF n e ps assign body { state := .ready, pending := none, fn := fno, tmps := a.tmps, params := ps.toArray, assign, body, defers := w.heap.size } :=
  ⟨rfl, rfl, rfl, rfl, rfl, ⟨rfl, ha.size, ha.look⟩⟩
 obtain ⟨F, G, ms2, R2, hFG, hms, hdo, hrest⟩ := h w _ _ _ rfl rfl hlo _ hw2
 have hx := aM hx
 have hcall : (invoke (.fn (.func f) B.toArray) (A.toArray ++ #[.func (.yield (w.heap.size + 1)) #[] #[]])).run P
   ((w.alloc (.deferred (some []))).alloc (.loop { state := .ready, pending := none, fn := fno, tmps := a.tmps, params := ps.toArray, assign, body, defers := w.heap.size })) =
   .ok (.enter f (A ++ .func (.yield (w.heap.size + 1)) #[] #[] :: B).toArray) ((w.alloc (.deferred (some []))).alloc (.loop { state := .ready, pending := none, fn := fno, tmps := a.tmps, params := ps.toArray, assign, body, defers := w.heap.size })) := by
  unfold dG at hc
  split at hc
  ·rename_i fn' hf
   simp only [aq, ed] at hc
   obtain ⟨h1, h2⟩ := hc
   have hs : (program : Sem AL) = .program .pure := rfl
   have h3 : ¬ fn'.name = "runtime.NumGoroutine" := by simpa using h1
   have h4 : ¬ fn'.body = none := by
    intro hx; rw [hx] at h2; cases h2
   simp [invoke, callFunc, bind, Sem.bind, Sem.run, hf, h3, h4, pure, hs]
  ·cases hc
 have hev : a.eval x = .func (.func f) A.toArray B.toArray := by rw [ha.eval]; exact hx
 refine ⟨w.heap.size + 1, _, _, { target := .fn (.func f) B.toArray, args := A.toArray ++ #[.func (.yield (w.heap.size + 1)) #[] #[]] }, _, f, _, _, he, ?_, fun _ _ => trivial, hcall, fun h => (by cases h), aBN (Calls.mono hdo ?_)⟩
 ·have hk : a.eval (.const (.func (.yield (w.heap.size + 1)) #[] #[])) = .func (.yield (w.heap.size + 1)) #[] #[] := by rw [ha.eval]; rfl
  simp only [resolve, hev, hk, Deferred.ofValue, cy, ce, cz, az]
 ·rintro ex w3 ⟨v, H', rfl, hw3, hR2⟩
  obtain ⟨rec', G2, hG2, hb, hpn, hT⟩ := hrest v H' hR2
  have hw4 := hG2 _ ((hFG _ hw2).call hms hw3)
  refine ⟨none, w3.putObj (w.heap.size + 1) (.loop { rec' with state := .exhausted }), ?_, ?_⟩
  ·have := run_endLoop (P := P) (hw4.holds (w.heap.size + 1, _) (.head _)) hb
   exact this.trans (by rw [hpn])
  ·simp only [Exit.inBlock, Exit.then]
   refine hT _ _ ⟨?_, ha.size, ha.look⟩ (hw4.put _)
   simp [hda]
end
section
variable {P : AL} {Γ : Ctx} {k : eJ} {e : Env} {H H' : aC} {ops rest : List Oper} {d : AD} {ty : AJ} {pos : String} {af : AG} {g : Option (Nat × Bool)}
 {S : AI → Prop} {need : AE} {pl : jT}
def bF (hs : ∀ w, St Γ.w0 Γ.ms H w → St Γ.w0 Γ.ms H' w) (h : L1 Γ ops rest k e H') : L1 Γ ops rest k e H := fun a w ha hw => h a w ha (hs w hw)
def eX (hs : ∀ w, St Γ.w0 Γ.ms H w → St Γ.w0 Γ.ms H' w) (h : L2 Γ ops S need pl k e H') : L2 Γ ops S need pl k e H := fun a w ha hw => h a w ha (hs w hw)
def aPz {w0 w : AI} {ms : AE} (A B R : aC) (h : St w0 ms (A ++ (B ++ R)) w) : St w0 ms (B ++ (A ++ R)) w := h.perm (by
 rw [← cg, ← cg]
 exact di R aw)
def aAD {t : AJ} {x y : AK} {T s by_ : Nat} {u : AH} {b n cp m : Nat} {l ys : AA} {ts : Array AJ} (i : Nat)
  (hx : vnf (ev e x) = some (.slice (some ⟨b, 0, none⟩) n cp)) (hy : ev e y = u) (hts : ts = #[t, t]) (hp : yJ Γ.P t = some (T, s, by_)) (hi : H[i]? = some (b, blk l T))
  (hs : ∀ w, St Γ.w0 Γ.ms H w → Src w s u m ys) (h1 : eD ys = true) (hroom : n + m ≤ cp) (hfit : n * s + ys.length ≤ l.length) :
  Op1 Γ ⟨d, .call ⟨.builtin .append, #[x, y], ts⟩, ty, pos, af, g⟩ e H (fun v' H' => v' = .slice (some ⟨b, 0, none⟩) (n + m) cp ∧ H' = H.set i (b, blk (aO l (n * s) ys) T)) := by
 intro w hw
 subst hts hy
 have hx := aM hx
 unfold yJ at hp
 split at hp <;> try cases hp
 rename_i el hu
 split at hp <;> try cases hp
 rename_i ti hti
 split at hp <;> try cases hp
 rename_i z hz
 split at hp <;> try cases hp
 have hg : w.heap[b]? = some (blk l T) := hw.own_blk (bq hi)
 have hs' := hs w hw
 generalize hue : ev e y = u at hs'
 cases hs' with
 | row b2 off2 m c ys hn hr =>
  have h3 := run_append_room (P := Γ.P) w t ty T ti hu hti b n cp l.toArray hg ⟨b2, off2, none⟩ m c ys hn hr.add (by simpa [eD] using h1) hroom (by simpa using hfit)
  refine cH (v := .slice (some ⟨b, 0, none⟩) (n + m) cp) (w' := w.setRow b (aO l (n * ti.size) ys).toArray) ?_ ⟨_, ?_, rfl, rfl⟩
  ·simp only [execOp, resolve, am, az, aj, invoke, builtin, cy, ce, cz, hx, hue, h3]
   rfl
  ·exact hw.setAt hi rfl rfl rfl (by simp [World.setRow]) (fun k hk => setRow_other w b k _ hk) (setRow_heap w b _ _ T _ hg)
def aFQ (z : AA) (n : Nat) : (Builtin.zeroCells z.toArray n).toList = kI (n * z.length) z := by
 unfold Builtin.zeroCells
 have := aDQ (n * z.length) z
 simp only [jb] at this ⊢
 rw [this]
def aBJ (n : Nat) (z : AA) : (kI n z).length = n := by simp [kI]
def aMB {n : Nat} {z : AA} (hz : eD z = true) (hl : 0 < z.length) : eD (kI n z) = true := by
 refine List.all_eq_true.2 fun x hx => ?_
 simp only [kI, iv] at hx
 obtain ⟨i, _, rfl⟩ := hx
 have hi : i % z.length < z.length := gz _ hl
 rw [cj, ak hi, je]
 exact List.all_eq_true.1 hz _ (eg _)
def aDB {t el : AJ} {x : AK} {s b off n c : Nat} {z l : AA} {T : AJ} {ts : Array AJ} (i : Nat)
  (hx : vnf (ev e x) = some (.slice (some ⟨b, off, none⟩) n c)) (hts : ts = #[t]) (hu : oS Γ.P t = some (el, s)) (hz : oD Γ.P el = some z) (hzl : Nat.blt 0 z.length = true) (h1 : eD z = true)
  (hi : H[i]? = some (b, blk l T)) (hn : 0 < n) (hl : off + n * z.length ≤ l.length) :
  Op1 Γ ⟨d, .call ⟨.builtin .clear, #[x], ts⟩, ty, pos, af, g⟩ e H (fun v' H' => v' = .tuple #[] ∧ H' = H.set i (b, blk (aO l off (kI (n * z.length) z)) T)) := by
 intro w hw
 subst hts
 obtain ⟨g1, g2⟩ := jH hu
 have hx := aM hx
 have hg : w.heap[b]? = some (blk l T) := hw.own_blk (bq hi)
 obtain ⟨zv, hzv, hzc⟩ := yN hz w
 have hzl : 0 < z.length := dq gt (ae hzl)
 have hst := run_storeCells_at Γ.P b off T (kI (n * z.length) z) 0 l.toArray w hg (by rw [aBJ]; simpa using hl) (by simpa [eD] using aMB (n := n * z.length) h1 hzl)
 simp only [gb] at hst
 have hn0 : n ≠ 0 := by omega
 have key : (Builtin.clear_ #[t] ty #[.slice (some ⟨b, off, none⟩) n c]).run Γ.P w = .ok (.tuple #[]) (w.setRow b (aO l off (kI (n * z.length) z)).toArray) := by
  obtain ⟨n', rfl⟩ : ∃ n', n = n' + 1 := ⟨n - 1, by omega⟩
  simp [Builtin.clear_, am, run_underlying g1, hzv, hzc, aFQ, hst, aO]
 refine cH (v := .tuple #[]) (w' := w.setRow b (aO l off (kI (n * z.length) z)).toArray) ?_ ⟨_, ?_, rfl, rfl⟩
 ·simp only [execOp, resolve, am, az, aj, invoke, builtin, cy, ce, cz, hx, key]
 ·exact hw.setAt hi rfl rfl rfl (by simp [World.setRow]) (fun k hk => setRow_other w b k _ hk) (setRow_heap w b _ _ T _ hg)
def zK {t : AJ} {x : AK} {lo hi mx : AK} {b off n c el s : Nat} {jl jh jm : Int} (l h m : Nat) (hx : vnf (ev e x) = some (.slice (some ⟨b, off, none⟩) n c))
  (hu : oS P t = some (el, s)) (hlo : mK e (some lo) = some (some jl)) (hhi : mK e (some hi) = some (some jh)) (hmx : mK e (some mx) = some (some jm)) (hl : jl = (l : Int)) (hh : jh = (h : Int)) (hm : jm = (m : Int))
  (h1 : l ≤ h) (h2 : h ≤ m) (h3 : m ≤ c) :
  bN P e ⟨d, .slice t x (some lo) (some hi) (some mx), ty, pos, af, g⟩ = some (.slice (some ⟨b, iA off l s m, none⟩) (h - l) (m - l)) := by
 obtain ⟨g1, g2⟩ := jH hu
 have hx := aM hx
 refine bA ?_ rfl
 have hb : Instr.sliceBounds true n c (some (ev e lo)) (some (ev e hi)) (some (ev e mx)) = pure (l, h, m) := by
  simp only [Instr.sliceBounds, tB hmx hm h3, tB hhi hh h2, tB hlo hl h1, pure_bind, Option.isSome_some, if_true]
 simp only [execOp, hx, Instr.sliceAt, Instr.slice, bind_assoc, bQ g1, gr, hb, fS, iR g2]
 unfold iA
 by_cases hcl : m = l
 ·simp only [hcl, if_true]; rfl
 ·simp only [hcl, if_false, qW]; rfl
end
def fl : List aC → aC
 | [] => []
 | [a] => a
 | a :: b :: r => a ++ fl (b :: r)
def aRX (a : aC) (cs : List aC) : fl (a :: cs) = a ++ fl cs := by
 cases cs with
 | nil => simp [fl]
 | cons b r => rfl
def aPr : ∀ (cs : List aC), fl cs = cs.flatten
 | [] => rfl
 | a :: cs => by rw [aRX, aPr cs, List.flatten_cons]
def aGd {α : Type} {a b : List (List α)} (h : a.Perm b) : a.flatten.Perm b.flatten := by
 induction h with
 | nil => exact .refl _
 | cons x _ ih => simpa using ih.append_left x
 | swap x y l =>
  simp only [List.flatten_cons]
  rw [← cg, ← cg]
  exact di _ aw
 | trans _ _ ih1 ih2 => exact ih1.trans ih2
def ixB (n : Nat) : AE → Bool
 | [] => true
 | i :: r => Nat.blt i n && !(r.any (Nat.beq i)) && ixB n r
def aRN {α : Type} : ∀ (ix : AE) (cs : List α), ixB cs.length ix = true → ∃ rest, cs.Perm (ix.filterMap (cs[·]?) ++ rest) := by
 intro ix cs h
 have hnd : ix.Nodup ∧ ∀ i ∈ ix, i < cs.length := by
  induction ix with
  | nil => exact ⟨List.nodup_nil, fun _ h => by cases h⟩
  | cons i r ih =>
   simp only [ixB, aq, ed] at h
   obtain ⟨⟨h1, h2⟩, h3⟩ := h
   obtain ⟨g1, g2⟩ := ih h3
   refine ⟨List.nodup_cons.2 ⟨fun hm => ?_, g1⟩, fun j hj => ?_⟩
   ·have : r.any (Nat.beq i) = true := List.any_eq_true.2 ⟨i, hm, Nat.beq_refl i⟩
    rw [this] at h2; cases h2
   ·rcases List.mem_cons.1 hj with rfl | hj
    ·exact dq (Nat.lt_succ_self _) (ae h1)
    ·exact g2 j hj
 have hall : cs = (List.range cs.length).filterMap (cs[·]?) := by
  clear h hnd
  induction cs with
  | nil => rfl
  | cons x L ih =>
   rw [ii, List.range_succ_eq_map, List.filterMap_cons]
   simp only [d9, List.filterMap_map, Function.comp_def, du]
   rw [← ih]
 refine ⟨((List.range cs.length).filter (fun i => !ix.contains i)).filterMap (cs[·]?), ?_⟩
 conv => lhs; rw [hall]
 rw [← List.filterMap_append]
 refine List.Perm.filterMap _ ?_
 rw [List.perm_ext_iff_of_nodup List.nodup_range (List.nodup_append.2 ⟨hnd.1, List.nodup_range.filter _, fun a ha b hb => by rintro rfl; simp at hb; exact hb.2 ha⟩)]
 intro a
 simp only [gd, ip, List.mem_filter, ed, List.contains_eq_mem, decide_eq_false_iff_not]
 constructor
 ·intro ha
  by_cases hm : a ∈ ix
  ·exact .inl hm
  ·exact .inr ⟨ha, hm⟩
 ·rintro (hm | hm)
  ·exact hnd.2 a hm
  ·exact hm.1
def St.fl {w0 w : AI} {ms : AE} (cs : List aC) (ix : AE) (hp : ixB cs.length ix = true) (h : St w0 ms (VV.fl cs) w) : St w0 ms (VV.fl (ix.filterMap (cs[·]?))) w := by
 obtain ⟨rest, hr⟩ := aRN ix cs hp
 rw [aPr] at h ⊢
 exact (h.perm (aGd hr)).sub (by rw [List.flatten_append]; exact cn _ _)
def St.as {w0 w : AI} {ms : AE} {L L' : aC} (h : St w0 ms L w) (he : L = L') : St w0 ms L' w := he ▸ h
end Go.VV
namespace Go.VV
open Go Go.ChangeShapes Go.WideShapes Go.ChangeAt Go.RowKit
inductive CK where
 | int (k : AM)
 | bool
 | str
def aU0 : CK → AH → Prop
 | .int k, v => ∃ n, v = .int k n ∧ (Lit.int k n).wf = true
 | .bool, v => ∃ b, v = .bool b
 | .str, v => ∃ s : ByteArray, v = .string s ∧ s.size ≤ maxLen
def Cks : List CK → AA → Prop
 | [], [] => True
 | k :: ks, v :: vs => aU0 k v ∧ Cks ks vs
 | _, _ => False
def Cks.app : ∀ {a b : List CK} {x y : AA}, Cks a x → Cks b y → Cks (a ++ b) (x ++ y)
 | [], _, [], _, _, h => h
 | _ :: _, _, _ :: _, _, h, h2 => ⟨h.1, Cks.app h.2 h2⟩
 | [], _, _ :: _, _, h, _ => h.elim
 | _ :: _, _, [], _, h, _ => h.elim
def Cks.len : ∀ {a : List CK} {x : AA}, Cks a x → a.length = x.length
 | [], [], _ => rfl
 | _ :: _, _ :: _, h => by simp [Cks.len h.2]
 | [], _ :: _, h => h.elim
 | _ :: _, [], h => h.elim
section
variable (P : AL)
def wX (f : AJ → Option (List CK)) : List Field → Nat → Option (List CK)
 | [], _ => some []
 | fd :: r, off => match f fd.type with
  | some ks => bif Nat.beq fd.offset off && Nat.beq (P.cellsOf fd.type) ks.length then (match wX f r (off + ks.length) with
   | some rs => some (ks ++ rs)
   | none => none) else none
  | none => none
def nN : Nat → AJ → Option (List CK)
 | 0, _ => none
 | n + 1, t => match P.underlying t with
  | some (.int k) => some [.int k]
  | some .bool => some [.bool]
  | some .string => some [.str]
  | some (.struct ⟨fs⟩) => match wX P (nN n) fs 0 with
   | some ks => bif Nat.beq (P.cellsOf t) ks.length then some ks else none
   | none => none
  | _ => none
end
section
variable {H : Type} {enc : AJ × AH → H} {P : AL} {W : AI} {base : Nat} {spare : Nat → Bool} {held : Bool}
def aDV {f : AJ → Option (List CK)} {n : Nat} {cs : AA} (hf : ∀ {t : AJ} {ks : List CK} {xs : AA} {y : DataW H × List MemPlace}, f t = some ks → DataW.trod enc P W base spare held n t xs = some y → Cks ks xs) :
  ∀ (fs : List Field) (off : Nat) (ks : List CK), wX P f fs off = some ks → (∀ fd ∈ fs, ∃ y, DataW.trod enc P W base spare held n fd.type ((cs.drop fd.offset).take (P.cellsOf fd.type)) = some y) → Cks ks ((cs.drop off).take ks.length)
 | [], off, ks, h, _ => by cases h; simp [Cks]
 | fd :: r, off, ks, h, hy => by
  simp only [wX] at h
  split at h
  ·rename_i k1 hk1
   by_cases hb : (Nat.beq fd.offset off && Nat.beq (P.cellsOf fd.type) k1.length) = true
   ·rw [hb, cond_true] at h
    simp only [aq] at hb
    have h1 := bj hb.1
    have h2 := bj hb.2
    split at h
    ·rename_i rs hrs
     cases h
     obtain ⟨y, hy1⟩ := hy fd (.head _)
     have a1 := hf hk1 hy1
     have a2 := aDV hf r _ rs hrs fun g hg => hy g (.tail _ hg)
     rw [h1, h2] at a1
     rw [dw, ie, ax]
     exact a1.app a2
    ·cases h
   ·simp only [ef] at hb
    rw [hb, cond_false] at h
    cases h
  ·cases h
def aBE : ∀ (m : Nat) {n : Nat} {t : AJ} {ks : List CK} {cs : AA} {y : DataW H × List MemPlace}, nN P m t = some ks → DataW.trod enc P W base spare held n t cs = some y → Cks ks cs
 | 0, _, _, _, _, _, h, _ => by cases h
 | m + 1, n, t, ks, cs, y, h, hy => by
  simp only [nN] at h
  split at h
  ·rename_i k ht
   cases h
   obtain ⟨x, rfl, _, hw⟩ := DataW.trod_int ht hy
   exact ⟨⟨x, rfl, hw⟩, trivial⟩
  ·rename_i ht
   cases h
   obtain ⟨b, rfl, _⟩ := DataW.trod_bool ht hy
   exact ⟨⟨b, rfl⟩, trivial⟩
  ·rename_i ht
   cases h
   obtain ⟨s, rfl, _, hs⟩ := DataW.trod_string ht hy
   exact ⟨⟨s, rfl, hs⟩, trivial⟩
  ·rename_i fs ht
   split at h
   ·rename_i k1 hk1
    by_cases hb : Nat.beq (P.cellsOf t) k1.length = true
    ·rw [hb, cond_true] at h
     cases h
     obtain ⟨xs, n', rfl, _, hl, hlen, hf⟩ := DataW.trod_struct ht hy
     have := aDV (cs := cs) (fun h1 h2 => aBE m h1 h2) fs 0 _ hk1 (fun fd hfd => by
      obtain ⟨i, hi, rfl⟩ := fy hfd
      have h3 := hf i fs[i] (by simp [hi])
      have hi' : i < xs.length := by rw [hlen]; simpa using hi
      rw [ak hi'] at h3
      exact ⟨_, h3⟩)
     rw [j0, ← bj hb, ← hl, db] at this
     exact this
    ·simp only [ef] at hb
     rw [hb, cond_false] at h
     cases h
   ·cases h
  ·cases h
def aGJ {α β : Type} {f : β → α} {p : β → Prop} : ∀ {L : List α}, (∀ r ∈ L, ∃ s, r = f s ∧ p s) → ∃ l : List β, L = l.map f ∧ ∀ s ∈ l, p s
 | [], _ => ⟨[], rfl, fun _ h => by cases h⟩
 | r :: L, h => by
  obtain ⟨s, rfl, hs⟩ := h r (.head _)
  obtain ⟨l, rfl, hl⟩ := aGJ (L := L) fun x hx => h x (.tail _ hx)
  exact ⟨s :: l, rfl, fun x hx => by rcases List.mem_cons.1 hx with rfl | hx; exact hs; exact hl x hx⟩
def aMi {α : Type} {t e : AJ} {ks : List CK} {c : α → AA} {p : α → Prop} (s : Nat) {cs : AA} {n : Nat} {y : DataW H × List MemPlace} (ht : P.underlying t = some (.slice e)) (hk : nN P 9 e = some ks) (hc : P.cellsOf e = s) (hs : Nat.blt 0 s = true)
  (hp : ∀ cs, Cks ks cs → ∃ x, cs = c x ∧ p x) (hf : DataW.trod enc P W 0 (fun _ => true) true n t cs = some y) :
  ∃ (a : AC) (cp : Nat) (l : List α), cs = [.slice a l.length cp] ∧ l.length ≤ cp ∧ l.length ≤ maxLen ∧ (∀ x ∈ l, p x) ∧ Els W c a l := by
 subst hc
 have hs : 0 < P.cellsOf e := dq gt (ae hs)
 rcases Deep.open_slice ht hf with ⟨rfl, _⟩ | ⟨x, len, cap, m, n, D, Pl, rfl, _, hl, hm, hmm, _, hel⟩
 ·exact ⟨none, 0, [], rfl, av _, al _, fun _ h => (by cases h), Els.nil _ _ _⟩
 ·have hlm : len ≤ m := by rw [hmm]; split <;> omega
  have key : ∀ i, i < len → ∃ y : α, (∀ j, j < P.cellsOf e → W.cell? ((x.add (i * P.cellsOf e)).add j) = (c y)[j]?) ∧ (c y).length = P.cellsOf e ∧ p y := fun i hi => by
   obtain ⟨cs, h1, h2⟩ := hel i (by omega)
   obtain ⟨_, h3, h4⟩ := World.cells?_some h1
   obtain ⟨y, rfl, hy⟩ := hp cs (aBE 9 hk h2)
   exact ⟨y, h4, h3, hy⟩
  have hne : ∀ i, i < len → ∃ y : Option α, ∃ z, y = some z ∧ (∀ j, j < P.cellsOf e → W.cell? ((x.add (i * P.cellsOf e)).add j) = (c z)[j]?) ∧ (c z).length = P.cellsOf e ∧ p z := fun i hi => by
   obtain ⟨y, h1⟩ := key i hi; exact ⟨some y, y, rfl, h1⟩
  obtain ⟨f, hfy⟩ := Deep.choose_lt hne
  have hex : ∀ o ∈ (List.range len).map f, ∃ z, o = some z ∧ p z := fun o ho => by
   obtain ⟨i, hi, rfl⟩ := List.mem_map.1 ho
   obtain ⟨z, h1, _, _, h4⟩ := hfy i (List.mem_range.1 hi)
   exact ⟨z, h1, h4⟩
  obtain ⟨L, hL, hLp⟩ := aGJ hex
  have hlen : L.length = len := by
   have := congrArg List.length hL
   simpa using this.symm
  refine ⟨some x, cap, L, by rw [hlen], by omega, by omega, hLp, fun h0 => ?_⟩
  obtain ⟨b, off, spot⟩ := x
  have hg : ∀ i, (hi : i < L.length) → f i = some L[i] := fun i hi => by
   have h5 : ((List.range len).map f)[i]? = (L.map some)[i]? := by rw [hL]
   rw [cq, cq, gq (by omega), ak hi] at h5
   simpa using h5
  have hcell : ∀ i j, (hi : i < L.length) → j < P.cellsOf e → W.cell? (((⟨b, off, spot⟩ : Addr).add (i * P.cellsOf e)).add j) = (c L[i])[j]? ∧ (c L[i]).length = P.cellsOf e := fun i j hi hj => by
   obtain ⟨z, h1, h2, h3, _⟩ := hfy i (by omega)
   have h6 := hg i hi
   rw [h1] at h6
   cases h6
   exact ⟨h2 j hj, h3⟩
  have hspot : spot = none := by
   obtain ⟨h7, h8⟩ := hcell 0 0 h0 hs
   rw [ak (by omega)] at h7
   simpa [Addr.add] using World.cell?_spot h7
  subst hspot
  refine ⟨b, off, rfl, fun k v hv => ?_⟩
  have hcl : ∀ z ∈ L, (c z).length = P.cellsOf e := fun z hz => by
   obtain ⟨i, hi, rfl⟩ := fy hz
   exact (hcell i 0 hi hs).2
  have main : ∀ (L : List α) (o : Nat), (∀ i j, (hi : i < L.length) → j < P.cellsOf e → W.cell? ⟨b, o + (i * P.cellsOf e + j), none⟩ = (c L[i])[j]?) → (∀ z ∈ L, (c z).length = P.cellsOf e) → ∀ k v, (aF c L)[k]? = some v → W.cell? ⟨b, o + k, none⟩ = some v := by
   intro L
   induction L with
   | nil => intro o _ _ k v hv; simp [aF] at hv
   | cons z L ih =>
    intro o hc1 hc2 k v hv
    have hz := hc2 z (.head _)
    rw [kB] at hv
    rcases dk k (P.cellsOf e) with hk1 | hk1
    ·rw [cx (by omega)] at hv
     have := hc1 0 k (by simp) hk1
     rw [fw, bi] at this
     rw [this]; exact hv
    ·rw [ea (by omega), hz] at hv
     have h9 := ih (o + P.cellsOf e) (fun i j hi hj => by
      have := hc1 (i + 1) j (by simpa using hi) hj
      rw [i5, Nat.one_mul] at this
      rw [show o + P.cellsOf e + (i * P.cellsOf e + j) = o + (i * P.cellsOf e + P.cellsOf e + j) by omega]
      exact this) (fun y hy => hc2 y (.tail _ hy)) (k - P.cellsOf e) v hv
     rw [show o + P.cellsOf e + (k - P.cellsOf e) = o + k by omega] at h9
     exact h9
  refine main L off (fun i j hi hj => ?_) hcl k v hv
  have := (hcell i j hi hj).1
  rw [qW, qW] at this
  rw [show off + (i * P.cellsOf e + j) = off + i * P.cellsOf e + j by omega]
  exact this
end
end Go.VV
namespace Go.VV
open Go
def jR : List CK → AA → Bool
 | [], [] => true
 | .int k :: ks, .int k' _ :: vs => decide (k = k') && jR ks vs
 | .bool :: ks, .bool _ :: vs => jR ks vs
 | .str :: ks, .string _ :: vs => jR ks vs
 | _, _ => false
def veq : AH → AH → Bool
 | .int _ a, .int _ b => a == b
 | .bool a, .bool b => a == b
 | .string a, .string b => a.toList == b.toList
 | _, _ => false
def nE : AA → AA → Bool
 | [], [] => true
 | x :: xs, y :: ys => veq x y && nE xs ys
 | _, _ => false
def qM : ∀ {a b : List CK} {xs : AA}, jR (a ++ b) xs = true → ∃ x y, xs = x ++ y ∧ jR a x = true ∧ jR b y = true
 | [], b, xs, h => ⟨[], xs, rfl, rfl, h⟩
 | .int k :: a, b, .int k' n :: vs, h => by
  simp only [cr, jR, aq] at h
  obtain ⟨x, y, rfl, h1, h2⟩ := qM (a := a) (b := b) (xs := vs) h.2
  exact ⟨.int k' n :: x, y, rfl, by simp only [jR, aq]; exact ⟨h.1, h1⟩, h2⟩
 | .bool :: a, b, .bool t :: vs, h => by
  obtain ⟨x, y, rfl, h1, h2⟩ := qM (a := a) (b := b) (xs := vs) h
  exact ⟨.bool t :: x, y, rfl, h1, h2⟩
 | .str :: a, b, .string t :: vs, h => by
  obtain ⟨x, y, rfl, h1, h2⟩ := qM (a := a) (b := b) (xs := vs) h
  exact ⟨.string t :: x, y, rfl, h1, h2⟩
def rK : ∀ {a : List CK} {x : AA}, jR a x = true → x.length = a.length
 | [], [], _ => rfl
 | .int _ :: a, .int _ _ :: x, h => by
  simp only [jR, aq] at h
  simp [rK (a := a) (x := x) h.2]
 | .bool :: a, .bool _ :: x, h => by simp [rK (a := a) (x := x) h]
 | .str :: a, .string _ :: x, h => by simp [rK (a := a) (x := x) h]
def aDA {k : AM} {x : AA} (h : jR [.int k] x = true) : ∃ n, x = [.int k n] := by
 cases x with
 | nil => simp [jR] at h
 | cons v r =>
  cases v <;> simp [jR] at h
  obtain ⟨rfl, h2⟩ := h
  cases r with
  | nil => exact ⟨_, rfl⟩
  | cons => simp [jR] at h2
def aGa : ∀ {a b x y : AA}, a.length = x.length → nE (a ++ b) (x ++ y) = (nE a x && nE b y)
 | [], b, [], y, _ => by simp [nE]
 | u :: a, b, v :: x, y, h => by
  simp only [cr, nE]
  rw [aGa (by simpa using h), Bool.and_assoc]
section
variable (P : AL)
def aE0 (f : AJ → Bool) : List Field → Bool
 | [] => true
 | fd :: r => !(fd.name == "_") && f fd.type && aE0 f r
def aB8 : Nat → AJ → Bool
 | 0, _ => false
 | n + 1, t => match P.underlying t with
  | some (.int _) => true
  | some .bool => true
  | some .string => true
  | some (.struct ⟨fs⟩) => !(P.stoodInHeld t) && Nat.beq ((gG P t).getD 0) (P.cellsOf t) && (gG P t).isSome && aE0 (aB8 n) fs
  | _ => false
def qK (t : AJ) (xs : AA) : AH := match P.underlying t with
 | some (.struct _) => .agg xs.toArray
 | _ => xs.headD undef
end
section
variable {P : AL}
def aF1 {w : AI} {t : AJ} {m : Nat} {ks : List CK} {X x R : AA} {off : Nat} (hk : nN P m t = some ks) (he : aB8 P m t = true) (hx : jR ks x = true) (hX : X.drop off = x ++ R) (hc : P.cellsOf t = ks.length) :
  (part t X.toArray off).run P w = .ok (qK P t x) w := by
 have hlen := rK hx
 cases m with
 | zero => cases hk
 | succ m =>
  simp only [nN] at hk
  simp only [aB8] at he
  split at hk
  ·rename_i k ht
   cases hk
   obtain ⟨n, rfl⟩ := aDA hx
   ·have h0 : X[off]? = some (.int k n) := by
     have := congrArg (·[0]?) hX
     simpa using this
    simp [part, isAgg, run_underlying ht, h0, qK, ht]
  ·rename_i ht
   cases hk
   match x, hx with
   | [.bool n], _ =>
    have h0 : X[off]? = some (.bool n) := by
     have := congrArg (·[0]?) hX
     simpa using this
    simp [part, isAgg, run_underlying ht, h0, qK, ht]
  ·rename_i ht
   cases hk
   match x, hx with
   | [.string n], _ =>
    have h0 : X[off]? = some (.string n) := by
     have := congrArg (·[0]?) hX
     simpa using this
    simp [part, isAgg, run_underlying ht, h0, qK, ht]
  ·rename_i fs ht
   rw [ht] at he
   simp only [aq] at he
   obtain ⟨⟨⟨_, h1⟩, h2⟩, _⟩ := he
   obtain ⟨n, hn⟩ := Option.isSome_iff_exists.1 h2
   rw [hn] at h1
   have h3 := bj h1
   simp only [je] at h3
   have hsz := gL hn w
   have h5 : (X.drop off).take n = x := by
    rw [hX, h3, hc, ← hlen, eh]
    rfl
   simp [part, isAgg, run_underlying ht, hsz, qK, ht]
   exact h5
  ·cases hk
def aBv : ∀ (m : Nat) {d : Nat} {w : AI} {t : AJ} {ks : List CK} {x y : AA}, m ≤ d → nN P m t = some ks → aB8 P m t = true → jR ks x = true → jR ks y = true →
  (Op.equalIn d t (qK P t x) (qK P t y)).run P w = .ok (nE x y) w
 | 0, _, _, _, _, _, _, _, h, _, _, _ => by cases h
 | m + 1, 0, _, _, _, _, _, hd, _, _, _, _ => by omega
 | m + 1, d + 1, w, t, ks, x, y, hd, hk, he, hx, hy => by
  simp only [nN] at hk
  simp only [aB8] at he
  split at hk
  ·rename_i k ht
   cases hk
   obtain ⟨n, rfl⟩ := aDA hx
   obtain ⟨n2, rfl⟩ := aDA hy
   simp [qK, ht, run_equalIn_int w d t k k n n2 ht, nE, veq]
  ·rename_i ht
   cases hk
   match x, y, hx, hy with
   | [.bool n], [.bool n2], _, _ => simp [qK, ht, run_equalIn_bool' w d t n n2 ht, nE, veq]
  ·rename_i ht
   cases hk
   match x, y, hx, hy with
   | [.string n], [.string n2], _, _ => simp [qK, ht, run_equalIn_string w d t n n2 ht, nE, veq]
  ·rename_i fs ht
   rw [ht] at he
   simp only [aq, ed] at he
   obtain ⟨⟨⟨hst, _⟩, _⟩, hof⟩ := he
   split at hk
   ·rename_i k1 hk1
    by_cases hb : Nat.beq (P.cellsOf t) k1.length = true
    ·rw [hb, cond_true] at hk
     cases hk
     have hfo : P.fieldsOf t = ⟨fs⟩ := by simp [Program.fieldsOf, ht]
     have hv : ∀ z, qK P t z = .agg z.toArray := fun z => by simp [qK, ht]
     rw [hv, hv, run_equalIn_struct w d t _ _ (by rw [hfo]; exact ht) hst, hfo]
     have key : ∀ (fs : List Field) (off : Nat) (ks : List CK) (x1 y1 : AA), wX P (nN P m) fs off = some ks → aE0 (aB8 P m) fs = true → jR ks x1 = true → jR ks y1 = true → (∃ r, x.drop off = x1 ++ r) → (∃ r, y.drop off = y1 ++ r) →
       (Op.eqFields d x.toArray y.toArray fs).run P w = .ok (nE x1 y1) w := by
      intro fs
      induction fs with
      | nil =>
       intro off ks x1 y1 h1 _ h3 h4 _ _
       cases h1
       match x1, y1, h3, h4 with
       | [], [], _, _ => simp [Op.eqFields, nE]
      | cons f fs ih =>
       intro off ks x1 y1 h1 h2 h3 h4 h5 h6
       simp only [wX] at h1
       simp only [aE0, aq, ed] at h2
       split at h1
       ·rename_i k2 hk2
        by_cases hb2 : (Nat.beq f.offset off && Nat.beq (P.cellsOf f.type) k2.length) = true
        ·rw [hb2, cond_true] at h1
         simp only [aq] at hb2
         have e1 := bj hb2.1
         have e2 := bj hb2.2
         split at h1
         ·rename_i rs hrs
          cases h1
          obtain ⟨xa, xb, rfl, ha1, ha2⟩ := qM h3
          obtain ⟨ya, yb, rfl, hb1, hb2⟩ := qM h4
          obtain ⟨r1, hr1⟩ := h5
          obtain ⟨r2, hr2⟩ := h6
          have p1 := aF1 (w := w) hk2 h2.1.2 ha1 (by rw [hr1, cg]) e2
          have p2 := aF1 (w := w) hk2 h2.1.2 hb1 (by rw [hr2, cg]) e2
          have p3 := aBv m (d := d) (w := w) (by omega) hk2 h2.1.2 ha1 hb1
          have hnm : f.name ≠ "_" := by
           have := h2.1.1
           intro h0; rw [h0] at this; simp at this
          have l1 := rK ha1
          have l2 := rK hb1
          have p4 := ih (off + k2.length) rs xb yb hrs h2.2 ha2 hb2 ⟨r1, by rw [← ax, hr1, cg, dx l1]⟩ ⟨r2, by rw [← ax, hr2, cg, dx l2]⟩
          rw [aGa (l1.trans l2.symm)]
          simp only [Op.eqFields, if_pos hnm, am, e1, p1, p2, p3, aj]
          cases nE xa ya
          ·simp
          ·simpa using p4
         ·cases h1
        ·simp only [ef] at hb2
         rw [hb2, cond_false] at h1
         cases h1
       ·cases h1
     exact key fs 0 _ x y hk1 hof hx hy ⟨[], by simp⟩ ⟨[], by simp⟩
    ·simp only [ef] at hb
     rw [hb, cond_false] at hk
     cases hk
   ·cases hk
  ·cases hk
section
variable {e : Env} {d : AD} {t u ty : AJ} {pos : String} {af : AG} {g : Option (Nat × Bool)} {x y : AK} {l r : AA} {ks : List CK}
def aOb (P : AL) (t : AJ) : Bool := aB8 P 9 t && !(P.eqGuardType P.depth t) && (match P.underlying t with
 | some (.struct _) => true
 | _ => false)
def aRH (hx : vnf (ev e x) = some (.agg ⟨l⟩)) (hy : vnf (ev e y) = some (.agg ⟨r⟩)) (hk : nN P 9 t = some ks) (hb : aOb P t = true) (h1 : jR ks l = true) (h2 : jR ks r = true) (w : AI) :
  (execOp (ev e) ⟨d, .binOp .eql t x y u, ty, pos, af, g⟩).run P w = .ok (.value (.bool (nE l r))) w := by
 have hx := aM hx
 have hy := aM hy
 simp only [aOb, aq, ed] at hb
 obtain ⟨⟨b1, b2⟩, b3⟩ := hb
 have hv : ∀ z : AA, qK P t z = .agg ⟨z⟩ := fun z => by
  unfold qK
  split at b3
  ·rename_i ht; first | rfl | rw [ht]
  ·cases b3
 have key := aBv 9 (d := 10000) (w := w) (by omega) hk b1 h1 h2
 rw [hv, hv] at key
 have hgd : (eqGuard .eql t x y (.agg ⟨l⟩) (.agg ⟨r⟩)).run P w = .ok () w := by simp [eqGuard, b2]
 simp only [execOp, hx, hy, am]
 rw [hgd]
 simp only [aj]
 rw [run_eql_struct (P := P) w t, key]
 rfl
variable {Γ : Ctx} {H : aC} {k : eJ} {ops rest : List Oper} {S : AI → Prop} {need : AE} {pl : jT} {i : Nat}
def aJm (hx : vnf (ev e x) = some (.agg ⟨l⟩)) (hy : vnf (ev e y) = some (.agg ⟨r⟩)) (hk : nN Γ.P 9 t = some ks) (hb : aOb Γ.P t = true) (h1 : jR ks l = true) (h2 : jR ks r = true)
  (hg : gdB ops e ⟨d, .binOp .eql t x y u, ty, pos, af, g⟩ = true) (hd : cQ Γ.n d = true) {b : Bool} (hv : nE l r = b) (h : L1 Γ ops rest k (e.put d (.bool b)) H) : L1 Γ ops (⟨d, .binOp .eql t x y u, ty, pos, af, g⟩ :: rest) k e H := by
 subst hv
 exact aFZ (K := fun u H' => u = .bool (nE l r) ∧ H' = H) hg hd (fun w hw => cH (aRH hx hy hk hb h1 h2 w) ⟨H, hw, rfl, rfl⟩) (by rintro _ _ ⟨rfl, rfl⟩; exact h)
end
end
end Go.VV
namespace Go.VV
open Go Go.RowKit
section
variable {P : AL} {Γ : Ctx} {e : Env} {H : aC} {d : AD} {ty : AJ} {pos : String} {af : AG} {g : Option (Nat × Bool)}
def Row.seg {w : AI} {b off : Nat} {L l : AA} (h : Row w b off L) (k n : Nat) (hs : vT ((L.drop k).take n) = some l) : Row w b (off + k) l := fun j v hv => by
 rw [← aCa hs, d8] at hv
 split at hv
 ·rw [dp] at hv
  rw [dt]; exact h _ _ hv
 ·cases hv
def hU {w0 : AI} {ms : AE} {b : Nat} {l l' : AA} {t : AJ} {fr : Nat × Nat} (hm : (b, Obj.cells l.toArray t fr) ∈ H) (k n : Nat) (hs : vT ((l.drop k).take n) = some l') : ∀ w, St w0 ms H w → Row w b k l' := fun w hw => by
 have := (aA (H := H) hm w hw).seg k n hs
 rwa [bi] at this
def jG {t : AJ} {x y : AK} {T s by_ : Nat} {v u : AH} {n m : Nat} {xs ys : AA} {G A : aC} {ts : Array AJ}
  (hx : ev e x = v) (hy : ev e y = u) (hts : ts = #[t, t]) (hp : yJ Γ.P t = some (T, s, by_)) (hv : Vec T s v n xs G)
  (hs : ∀ w, St Γ.w0 Γ.ms (A ++ G) w → Src w s u m ys) (h1 : eD ys = true) (hlen : n + m ≤ 140737488355328) (hb : (n + m) * by_ ≤ 140737488355328) :
  Op1 Γ ⟨d, .call ⟨.builtin .append, #[x, y], ts⟩, ty, pos, af, g⟩ e (A ++ G) (fun v' H' => ∃ G', Vec T s v' (n + m) (xs ++ ys) G' ∧ (v' = .slice none 0 0 → n = 0 ∧ m = 0) ∧ H' = G' ++ A) := by
 have key := gD (Γ := Γ) (e := e) (d := d) (ty := ty) (pos := pos) (af := af) (g := g) (A := A) (R := []) hx hy hts hp hv (fun w hw => hs w (by simpa using hw)) h1 hlen hb
 intro w hw
 refine kJ (key w (by simpa using hw)) ?_
 rintro v' w' ⟨H', h2, G', h3, h4, rfl⟩
 exact ⟨G' ++ A, by simpa using h2, G', h3, h4, rfl⟩
def Vec.as {T s n n' : Nat} {v : AH} {xs xs' : AA} {G : aC} (h : Vec T s v n xs G) (hn : n = n') (hx : xs = xs') : Vec T s v n' xs' G := by subst hn hx; exact h
def Vec.full {T s : Nat} {v : AH} {n : Nat} {xs : AA} {G : aC} (h : Vec T s v n xs G) (hn : n ≠ 0) :
  ∃ b cap sp, v = .slice (some ⟨b, 0, none⟩) n cap ∧ G = [(b, blk (xs ++ sp) T)] ∧ (xs ++ sp).length = cap * s ∧ n ≤ cap ∧ cap ≤ maxLen := by
 cases h with
 | nil => exact absurd rfl hn
 | row b _ cap _ sp h1 h2 h3 h4 => exact ⟨b, cap, sp, rfl, rfl, h2, h4, h3⟩
def Vec.alt {T s : Nat} {v : AH} {n : Nat} {xs : AA} {G : aC} (h : Vec T s v n xs G) :
  (v = .slice none 0 0 ∧ n = 0 ∧ xs = [] ∧ G = []) ∨ ∃ b cap sp, v = .slice (some ⟨b, 0, none⟩) n cap ∧ G = [(b, blk (xs ++ sp) T)] ∧ (xs ++ sp).length = cap * s ∧ n ≤ cap ∧ cap ≤ maxLen := by
 cases h with
 | nil => exact .inl ⟨rfl, rfl, rfl, rfl⟩
 | row b _ cap _ sp h1 h2 h3 h4 => exact .inr ⟨b, cap, sp, rfl, rfl, h2, h4, h3⟩
def Vec.all_ {α : Type} {c : α → AA} {T s b cap : Nat} {l : List α} {sp : AA} (hc : ∀ x, (c x).length = s) (h2 : (aF c l ++ sp).length = cap * s) (h4 : l.length ≤ cap) (h3 : cap ≤ maxLen) :
  Vec T s (.slice (some ⟨b, 0, none⟩) l.length cap) l.length (aF c l) [(b, blk (aF c l ++ sp) T)] :=
 .row b _ cap _ sp (bM hc l) h2 h3 h4
def uB {α : Type} {c : α → AA} (h : ∀ x, eD (c x) = true) (l : List α) : eD (aF c l) = true := by
 refine List.all_eq_true.2 fun x hx => ?_
 unfold aF at hx
 obtain ⟨y, _, hy⟩ := List.mem_flatMap.1 hx
 exact List.all_eq_true.1 (h y) x hy
def St.lentV {w0 w : AI} {ms : AE} {F G : aC} (h : St w0 ms (F ++ G) w) : St w (F.map (·.1)) F w := by
 have hn := h.nodup
 rw [be, dd] at hn
 exact ⟨rfl, rfl, rfl, av _, fun _ _ _ => rfl, hn.1, fun x hx => .inl (List.mem_map.2 ⟨x, hx, rfl⟩), fun x hx => h.holds x (gj _ hx)⟩
def St.lentA {w0 w : AI} {ms : AE} {F : aC} (h : St w0 ms F w) : St w (F.map (·.1)) F w := by
 have : St w0 ms (F ++ []) w := by simpa using h
 exact this.lentV
section
variable {α : Type} {c : α → AA} {s : Nat} (hc : ∀ x, (c x).length = s)
include hc
def aLS (l : List α) (j : Nat) : (aF c l).drop (j * s) = aF c (l.drop j) := by
 rcases dk j l.length with hj | hj
 ·have h1 : aF c l = aF c (l.take j) ++ aF c (l.drop j) := by rw [← gJ, df]
  have h2 : (aF c (l.take j)).length = j * s := by rw [bM hc, ej, eq (by omega)]
  rw [h1, ← h2, ey]
 ·rw [dj hj, dj (by rw [bM hc]; exact fo _ hj)]
  rfl
def aLQ {w : AI} {b off j cp : Nat} {l : List α} {sp : AA} (hr : Row w b off (aF c l ++ sp)) (hj : j ≤ l.length) (hcp : l.length ≤ cp) : Row w b (iA off j s cp) (aF c (l.drop j)) := by
 have h1 := (hr.left).cut (l := j) (k := l.length - j) (s := s) (c := cp) (by omega)
 rw [aLS hc] at h1
 have h2 : (aF c (l.drop j)).length = (l.length - j) * s := by rw [bM hc, gi]
 rw [← h2, db] at h1
 exact h1
def aN6 (l : List α) (sp zs : AA) {j : Nat} (_hj : j ≤ l.length) : ∃ sp', aO (aO (aF c l ++ sp) (0 * s) (aF c (l.drop j))) ((l.length - j) * s) zs = aF c (l.drop j) ++ sp' := by
 have h2 : (aF c (l.drop j)).length = (l.length - j) * s := by rw [bM hc, gi]
 rw [fw]
 unfold aO
 rw [gc, ci, bi]
 refine ⟨zs ++ ((aF c l ++ sp).drop (aF c (l.drop j)).length).drop zs.length, ?_⟩
 rw [← h2, g9, ← ax, ey, cg]
def vI (l : List α) (sp : AA) (j : Nat) : 0 * s + (aF c (l.drop j)).length ≤ (aF c l ++ sp).length := by
 rw [bM hc, dw, bM hc, gi, fw, bi]
 exact gv (fo _ (by omega)) (Nat.le_add_right _ _)
end
def aST (b off s n c : Nat) : Value.slice (some ⟨b, iA off 0 s c, none⟩) (n - 0) (c - 0) = .slice (some ⟨b, off, none⟩) n c := by
 simp only [iA, fw, gb, ite_self, ji]
end
end Go.VV
namespace Go.VV
open Go
section
variable {Γ : Ctx} {e : Env} {A : aC} {d : AD} {t : AJ} {pos : String} {af : AG} {g : Option (Nat × Bool)}
def cB {f : Nat} {l : AF} {ts : Array AJ} {vs : AA} (hc : dG Γ.P f = true) (hv : evs e l = some vs) {R : AH → aC → Prop}
  (hf : ∀ w, St Γ.w0 Γ.ms A w → aB Γ.P f vs w (A.map (·.1)) R) :
  Op1 Γ ⟨d, .call ⟨.value (.func f), l.toArray, ts⟩, t, pos, af, g⟩ e A (fun v H2 => R v H2) := by
 intro w hw
 have key := eQ (Γ := Γ) (e := e) (d := d) (t := t) (pos := pos) (af := af) (g := g) (ts := ts) (A := A) (G := []) (A.map (·.1)) hc hv (R := R) (fun _ hb => eR hb) (fun w hw => hf w (by simpa using hw))
 refine kJ (key w (by simpa using hw)) ?_
 rintro v w' ⟨H', h2, G', h3, rfl⟩
 exact ⟨G', by simpa using h2, h3⟩
end
def SlW {α : Type} (w : AI) (c : α → AA) (a : AC) (l : List α) : Prop := (a = none ∧ l = []) ∨ ∃ b off, a = some ⟨b, off, none⟩ ∧ Row w b off (aF c l)
def SlW.els {α : Type} {w : AI} {c : α → AA} {a : AC} {l : List α} (h : SlW w c a l) : Els w c a l := by
 rcases h with ⟨_, rfl⟩ | ⟨b, off, h1, h2⟩
 ·exact Els.nil _ _ _
 ·exact fun _ => ⟨b, off, h1, h2⟩
def SlW.later0 {α : Type} {w0 w : AI} {H : aC} {c : α → AA} {a : AC} {l : List α} (h : SlW w0 c a l) (hw : St w0 [] H w) : SlW w c a l := by
 rcases h with h | ⟨b, off, h1, h2⟩
 ·exact .inl h
 ·exact .inr ⟨b, off, h1, aN h2 (by simp) w hw⟩
def Vec.slw {α : Type} {c : α → AA} {T s n : Nat} {v : AH} {G : aC} {l : List α} (h : Vec T s v n (aF c l) G) (hc : ∀ x, (c x).length = s) (hs : 0 < s) :
  ∃ a cp, v = .slice a n cp ∧ l.length = n ∧ n ≤ cp ∧ (cp = 0 → n = 0) ∧ (a = none → cp = 0) ∧ ∀ w : AI, (∀ x ∈ G, w.heap[x.1]? = some x.2) → SlW w c a l := by
 have hl := h.len
 rw [bM hc] at hl
 have hn : l.length = n := gn hs hl
 generalize hx : aF c l = xs at h
 cases h with
 | nil => exact ⟨none, 0, rfl, hn, av _, fun _ => rfl, fun _ => rfl, fun _ _ => .inl ⟨rfl, cw hn⟩⟩
 | row b _ cap _ sp h1 h2 h3 h4 =>
  refine ⟨_, cap, rfl, hn, h4, fun h => by omega, fun h => by (cases h), fun w hw => .inr ⟨b, 0, rfl, ?_⟩⟩
  have := Row.all (w := w) (b := b) (hw _ (.head _))
  rw [← hx] at this
  exact this.left
def mE {Γ : Ctx} {F : aC} {b : Nat} {l l' : AA} {T : AJ} {fr : Nat × Nat} (hm : (b, Obj.cells l.toArray T fr) ∈ F) (k n : Nat) (hs : vT ((l.drop k).take n) = some l') : ∀ w, gR Γ F w → Row w b k l' :=
 fun w ⟨_, hw, hF⟩ => hU (hF _ hm) k n hs w hw
def RowsIn (G : aC) (b off : Nat) (xs : AA) : Prop := ∀ w : AI, (∀ x ∈ G, w.heap[x.1]? = some x.2) → Row w b off xs
def RowsIn.row {G H : aC} {b off : Nat} {xs : AA} (h : RowsIn G b off xs) (hs : ∀ x ∈ G, x ∈ H) {w0 : AI} {ms : AE} : ∀ w, St w0 ms H w → Row w b off xs :=
 fun w hw => h w fun x hx => hw.holds x (hs x hx)
section
variable {α : Type} {c : α → AA} {s : Nat}
def Row.at {w : AI} {b off : Nat} {l : List α} {i : Nat} {x : α} (h : Row w b off (aF c l)) (hc : ∀ x, (c x).length = s) (hi : l[i]? = some x) (j : Nat) {v : AH} (hv : (c x)[j]? = some v) :
  w.cell? ⟨b, off + i * s + j, none⟩ = some v := Row.nth' hc h hi j v hv
def Row.part {w : AI} {b off : Nat} {l : List α} {i : Nat} {x : α} (h : Row w b off (aF c l)) (hc : ∀ x, (c x).length = s) (hi : l[i]? = some x) (j n : Nat) {v : AA} (hv : vT (((c x).drop j).take n) = some v) :
  Row w b (off + i * s + j) v := (Row.nth' hc h hi).seg j n hv
def Vec.rows {T n : Nat} {v : AH} {G : aC} {l : List α} (h : Vec T s v n (aF c l) G) (hc : ∀ x, (c x).length = s) (hs : 0 < s) :
  ∃ a cp, v = .slice a n cp ∧ l.length = n ∧ n ≤ cp ∧ (0 < l.length → ∃ b, a = some ⟨b, 0, none⟩ ∧ RowsIn G b 0 (aF c l)) := by
 have hl := h.len
 rw [bM hc] at hl
 have hn : l.length = n := gn hs hl
 generalize hx : aF c l = xs at h
 cases h with
 | nil => exact ⟨none, 0, rfl, hn, av _, fun h0 => by omega⟩
 | row b _ cap _ sp h1 h2 h3 h4 =>
  refine ⟨_, cap, rfl, hn, h4, fun _ => ⟨b, rfl, fun w hw => ?_⟩⟩
  exact (Row.all (w := w) (b := b) (hw _ (.head _))).left
def zJ {l : List α} {i : Nat} {x : α} (h : l[i]? = some x) : (l.take (i + 1)) = l.take i ++ [x] := by
 rw [eu, h]; rfl
def zN {l : List α} {i : Nat} (h : i < l.length) : l[i]? = some l[i] := ak h
end
section
variable {α : Type} {c : α → AA} {s : Nat}
def Seg (c : α → AA) (l : List α) (v : AH) (G : aC) : Prop :=
 (v = .slice none 0 0 ∧ l = [] ∧ G = []) ∨ ∃ b off cp, v = .slice (some ⟨b, off, none⟩) l.length cp ∧ l.length ≤ cp ∧ RowsIn G b off (aF c l)
def Seg.nil : Seg c [] (.slice none 0 0) [] := .inl ⟨rfl, rfl, rfl⟩
def Seg.of {l : List α} {b off n cp : Nat} {G : aC} (hn : n = l.length) (h : l.length ≤ cp) (hr : RowsIn G b off (aF c l)) : Seg c l (.slice (some ⟨b, off, none⟩) n cp) G := by
 subst hn; exact .inr ⟨b, off, cp, rfl, h, hr⟩
def Seg.slice {l : List α} {v : AH} {G : aC} (h : Seg c l v G) : ∃ a cp, v = .slice a l.length cp ∧ l.length ≤ cp ∧ (0 < l.length → ∃ b off, a = some ⟨b, off, none⟩ ∧ RowsIn G b off (aF c l)) := by
 rcases h with ⟨rfl, rfl, rfl⟩ | ⟨b, off, cp, rfl, h1, h2⟩
 ·exact ⟨none, 0, rfl, av _, fun h => by simp at h⟩
 ·exact ⟨_, cp, rfl, h1, fun _ => ⟨b, off, rfl, h2⟩⟩
def RowsIn.left {G : aC} {b off : Nat} {xs ys : AA} (h : RowsIn G b off (xs ++ ys)) : RowsIn G b off xs := fun w hw => (h w hw).left
def RowsIn.own (b : Nat) (xs : AA) (T : AJ) : RowsIn [(b, blk xs T)] b 0 xs := fun w hw => Row.all (w := w) (b := b) (hw _ (.head _))
end
def aA4 {P : AL} {e : Env} {d : AD} {ty : AJ} {pos : String} {af : AG} {g : Option (Nat × Bool)} {t : AJ} {x hi : AK} {a : AC} {n c el s : Nat} {jh : Int} (h : Nat)
  (hx : vnf (ev e x) = some (.slice a n c)) (hu : oS P t = some (el, s)) (hhi : mK e (some hi) = some (some jh)) (hh : jh = (h : Int)) (h2 : h ≤ c) :
  bN P e ⟨d, .slice t x none (some hi) none, ty, pos, af, g⟩ = some (.slice a h c) := by
 obtain ⟨g1, g2⟩ := jH hu
 have hx := aM hx
 refine bA ?_ rfl
 have hb := zV (e := e) (lo := none) (hi := some hi) (isS := true) (n := n) (c := c) (jl := none) (jh := some jh) 0 h rfl hhi rfl (by simpa using hh) (al _) h2
 rw [io] at hb
 simp only [execOp, hx, Instr.sliceAt, Instr.slice, bind_assoc, bQ g1, io, hb, fS, iR g2]
 have : (if c = 0 then a else a.map (·.add (0 * s))) = a := by
  split
  ·rfl
  ·cases a <;> simp [Addr.add]
 rw [this]; rfl
def St.apart {w0 w : AI} {ms : AE} {F R : aC} (h : St w0 ms (F ++ R) w) {b : Nat} {o : Obj} (hm : (b, o) ∈ R) : b ∉ F.map (·.1) := fun hb => by
 have hn := h.nodup
 rw [be, dd] at hn
 exact hn.2.2 _ hb _ (List.mem_map.2 ⟨_, hm, rfl⟩) rfl
def bs (l : List UInt8) : ByteArray := ⟨⟨l⟩⟩
def aRa (l : List UInt8) : (bs l).toList = l := by rw [ByteArray.toList_eq]; rfl
def aRw (l : List UInt8) : strOfNums (l.map fun b => (b.toNat : Int)) = bs l := by
 unfold strOfNums bs
 congr 1
 have : ((fun n : Int => UInt8.ofNat n.toNat) ∘ fun b : UInt8 => (b.toNat : Int)) = id := by funext b; simp
 rw [jj, this, List.map_id]
section
variable {P : AL} {e : Env} {d : AD} {ty t u : AJ} {pos : String} {af : AG} {g : Option (Nat × Bool)} {x y : AK} {a b : List UInt8}
def aHe (hx : vnf (ev e x) = some (.string (bs a))) (hy : vnf (ev e y) = some (.string (bs b))) :
  bN P e ⟨d, .binOp .eql t x y u, ty, pos, af, g⟩ = some (.bool (a == b)) := by
 refine bA ?_ rfl
 simp [execOp, eqGuard, aM hx, aM hy, binOp, Op.stringOp, aRa, bS, bind, Sem.bind, pure]
end
section
variable {Γ : Ctx} {e : Env} {H : aC} {d : AD} {ty t dst el : AJ} {pos : String} {af : AG} {g : Option (Nat × Bool)} {x : AK}
def aTu (P : AL) (t : AJ) : Bool := match P.underlying t with
 | some (.slice el) => (match P.underlying el with
  | some (.int .u8) => true
  | _ => false)
 | _ => false
def aSd (P : AL) (t : AJ) : Bool := match P.underlying t with
 | some .string => true
 | _ => false
def aPv {b off n c : Nat} {l : List UInt8} (hx : vnf (ev e x) = some (.slice (some ⟨b, off, none⟩) n c)) (hs : aTu Γ.P t = true) (hd : aSd Γ.P dst = true) (hn : l.length = n)
  (hr : ∀ w, St Γ.w0 Γ.ms H w → Row w b off (l.map fun c => .int .u8 c.toNat)) :
  Op1 Γ ⟨d, .convert t dst x, ty, pos, af, g⟩ e H (fun v H' => v = .string (bs l) ∧ H' = H) := by
 intro w hw
 have hx := aM hx
 unfold aTu at hs
 split at hs <;> try cases hs
 rename_i el h1
 split at hs <;> try cases hs
 rename_i h2
 unfold aSd at hd
 split at hd <;> try cases hd
 rename_i h3
 have key := run_convert_bytes_arg (P := Γ.P) w t el h1 h2 b off n c (l.map fun c => (c.toNat : Int)) (by simpa using hn) (fun i hi => by
  have hi' : i < l.length := by omega
  have := hr w hw i (.int .u8 l[i].toNat) (by simp [hi'])
  simpa [List.getD, hi'] using this) dst h3
 rw [aRw] at key
 refine cH (v := .string (bs l)) (w' := w) ?_ ⟨_, hw, rfl, rfl⟩
 simp only [execOp, hx, am, key, aj, az]
end
def aAs {w : AI} {b off : Nat} {l : AA} {T : AJ} {fr : Nat × Nat} (h : w.heap[b]? = some (.cells l.toArray T fr)) (v : AH) : (w.setCell ⟨b, off, none⟩ v).heap[b]? = some (.cells (l.set off v).toArray T fr) := by
 unfold World.setCell
 simp only
 rw [ge, if_pos rfl, h]
 simp
def xI {w : AI} {a : Addr} {v : AH} (k : Nat) (hk : k ≠ a.block) : (w.setCell a v).heap[k]? = w.heap[k]? := by
 unfold World.setCell
 simp only
 rw [ge, if_neg (Ne.symm hk)]
def St.setCell {w0 w : AI} {ms : AE} {R : aC} {b off : Nat} {l : AA} {T : AJ} (h : St w0 ms ((b, blk l T) :: R) w) (v : AH) : St w0 ms ((b, blk (l.set off v) T) :: R) (w.setCell ⟨b, off, none⟩ v) :=
 h.turn rfl rfl rfl (by simp) (fun k hk => xI k hk) (aAs (h.holds (b, _) (.head _)) v)
def nM {w : AI} {b off : Nat} {l : AA} {T : AJ} (h : w.heap[b]? = some (blk l T)) : w.frozen? ⟨b, off, none⟩ = false := by
 simp [World.frozen?, h]
def St.after {w0 w w' : AI} {ms : AE} {A B : aC} (h : St w0 ms A w) (h' : St w (A.map (·.1)) B w') : St w0 ms B w' := by
 have h1 : St w0 ms (A ++ []) w := by simpa using h
 have := h1.call (F := A) (ms2 := A.map (·.1)) (fun b hb => eR hb) h'
 simpa using this
end Go.VV
namespace Go.VV
open Go Go.RowKit
section
variable {Γ : Ctx} {e : Env} {H : aC} {d : AD} {ty : AJ} {pos : String} {af : AG} {g : Option (Nat × Bool)}
def aEp {t : AJ} {x y : AK} {T s by_ : Nat} {a a2 : AC} {n cp n2 c2 : Nat} {ts : Array AJ}
  (hx : vnf (ev e x) = some (.slice a n cp)) (hy : vnf (ev e y) = some (.slice a2 n2 c2)) (h0 : n2 = 0) (hts : ts = #[t, t]) (hp : yJ Γ.P t = some (T, s, by_)) (hn : n ≤ cp) :
  Op1 Γ ⟨d, .call ⟨.builtin .append, #[x, y], ts⟩, ty, pos, af, g⟩ e H (fun v' H' => v' = .slice a n cp ∧ H' = H) := by
 intro w hw
 subst hts h0
 have hx := aM hx
 have hy := aM hy
 unfold yJ at hp
 split at hp <;> try cases hp
 rename_i el hu
 split at hp <;> try cases hp
 rename_i ti hti
 split at hp <;> try cases hp
 rename_i z hz
 split at hp <;> try cases hp
 have key : (Builtin.append_ #[t, t] ty #[.slice a n cp, .slice a2 0 c2]).run Γ.P w = .ok (.slice a n cp) w := by
  cases a <;> cases a2 <;> simp [Builtin.append_, run_underlying hu, sizeOf, typeInfo, hti, Builtin.lenOf, Builtin.firstCells, hn, storeCells, loadCells, loadCellsFrom]
 refine cH (v := .slice a n cp) (w' := w) ?_ ⟨_, hw, rfl, rfl⟩
 simp only [execOp, resolve, am, az, aj, invoke, builtin, cy, ce, cz, hx, hy, key]
end
section
variable {Γ : Ctx} {e : Env} {H : aC} {d : AD} {ty : AJ} {pos : String} {af : AG} {g : Option (Nat × Bool)}
def aPs (P : AL) (t : AJ) : Bool := match P.underlying t with
 | some (.int _) => true
 | _ => false
end
section
variable {P : AL} {e : Env} {d : AD} {ty t : AJ} {pos : String} {af : AG} {g : Option (Nat × Bool)} {x : AK}
def aEk {a : AC} {n c : Nat} (hx : vnf (ev e x) = some (.slice a n c)) (hu : aEV P t = true) :
  bN P e ⟨d, .call ⟨.builtin .cap, #[x], #[t]⟩, ty, pos, af, g⟩ = some (.int .i64 c) := by
 refine bA ?_ rfl
 have hx := aM hx
 unfold aEV at hu
 split at hu
 ·rename_i el h1
  simp only [execOp, resolve, cy, ce, cz, hx, fS, invoke, builtin, Builtin.cap_, bind_assoc, de, d9, bQ h1]
  rfl
 ·cases hu
end
def aZ {A B vs : AA} {o n : Nat} (ho : o = A.length + n) (_h : n + vs.length ≤ B.length) : aO (A ++ B) o vs = A ++ aO B n vs := by
 subst ho
 unfold aO
 rw [jk, ij, c8 (by omega), dj (by omega), ci, show A.length + n - A.length = n by omega, show A.length + n + vs.length - A.length = n + vs.length by omega]
 simp
def eA {A B vs : AA} {o : Nat} (h : o + vs.length ≤ A.length) : aO (A ++ B) o vs = aO A o vs ++ B := by
 unfold aO
 rw [i3 (by omega), i4 (by omega)]
 simp
def gK (l : AB) (o : Nat) (vs : AB) : AB := l.take o ++ vs ++ l.drop (o + vs.length)
def aPh {l vs : AB} {o : Nat} (h : o + vs.length ≤ l.length) : (gK l o vs).length = l.length := by
 unfold gK; simp; omega
def rL (k : AM) (l vs : AB) (o : Nat) : aO (l.map (.int k)) o (vs.map (.int k)) = (gK l o vs).map (.int k) := by
 unfold aO gK; simp [ew, go]
def aF7 {l : AB} {o : Nat} (h : o < l.length) (x : Int) : gK l o [x] = l.set o x := by
 unfold gK
 rw [dg, if_pos h]
 simp
def jM {l : AB} {o : Nat} (k : AM) (h : o < l.length) (x : Int) : aO (l.map (.int k)) o [.int k x] = (l.set o x).map (.int k) := by
 have := rL k l [x] o
 rw [aF7 h] at this
 exact this
def cX {l : AB} {k : AM} {j : Nat} (h : j < l.length) : (l.map (Value.int k))[j]? = some (.int k (l.getD j 0)) := by
 rw [cq, ak h, cj, ak h]; rfl
def eI {A B : AA} {o : Nat} {v : AH} (h : A[o]? = some v) : (A ++ B)[o]? = some v := by
 have hl : o < A.length := (List.getElem?_eq_some_iff.1 h).1
 rw [cx hl]; exact h
def bU {A B : AA} {o n : Nat} {v : AH} (ho : o = A.length + n) (h : B[n]? = some v) : (A ++ B)[o]? = some v := by
 subst ho
 rw [ea (by omega)]
 simpa using h
def Row.right {w : AI} {b off n : Nat} {A B : AA} (h : Row w b off (A ++ B)) (hn : n = off + A.length) : Row w b n B := fun j v hv => by
 subst hn
 have := h (A.length + j) v (bU rfl hv)
 rwa [← dt] at this
section
variable {Γ : Ctx} {e : Env} {H : aC} {d : AD} {ty : AJ} {pos : String} {af : AG} {g : Option (Nat × Bool)}
def aD {t : AJ} {x y : AK} {b off : Nat} {v : AH} {vs l l' : AA} {T : AJ} (i : Nat)
  (hx : vnf (ev e x) = some (.pointer (some ⟨b, off, none⟩))) (hy : vnf (ev e y) = some v) (hv : sK v = some vs) (hn : gG Γ.P t = some vs.length) (h1 : eD vs = true)
  (hi : H[i]? = some (b, blk l T)) (hl : off + vs.length ≤ l.length) (hp : aO l off vs = l') :
  Op1 Γ ⟨d, .store t x y, ty, pos, af, g⟩ e H (fun u H' => u = undef ∧ H' = H.set i (b, blk l' T)) := by
 subst hp
 exact dD i hx hy hv hn h1 hi hl
end
end Go.VV
namespace Go.VV
open Go Go.ChangeShapes Go.WideShapes Go.ChangeAt Go.RowKit
inductive KD where
 | int (k : AM)
 | bool
 | str
 | ints (k : AM)
 | rows (ks : List CK)
def aU8 (W : AI) : KD → AH → Prop
 | .int k, v => ∃ n, v = .int k n ∧ (Lit.int k n).wf = true
 | .bool, v => ∃ b, v = .bool b
 | .str, v => ∃ s : ByteArray, v = .string s ∧ s.size ≤ maxLen
 | .ints k, v => ∃ (a : AC) (c : Nat) (l : AB), v = .slice a l.length c ∧ l.length ≤ c ∧ l.length ≤ maxLen ∧ (∀ x ∈ l, (Lit.int k x).wf = true) ∧ Ns W k a l
 | .rows ks, v => ∃ (a : AC) (c : Nat) (l : List (List AH)), v = .slice a l.length c ∧ l.length ≤ c ∧ l.length ≤ maxLen ∧ (∀ x ∈ l, Cks ks x) ∧ Els W id a l
def KDs (W : AI) : List KD → AA → Prop
 | [], [] => True
 | k :: ks, v :: vs => aU8 W k v ∧ KDs W ks vs
 | _, _ => False
def KDs.app {W : AI} : ∀ {a b : List KD} {x y : AA}, KDs W a x → KDs W b y → KDs W (a ++ b) (x ++ y)
 | [], _, [], _, _, h => h
 | _ :: _, _, _ :: _, _, h, h2 => ⟨h.1, KDs.app h.2 h2⟩
 | [], _, _ :: _, _, h, _ => h.elim
 | _ :: _, _, [], _, h, _ => h.elim
def KDs.len {W : AI} : ∀ {a : List KD} {x : AA}, KDs W a x → a.length = x.length
 | [], [], _ => rfl
 | _ :: _, _ :: _, h => by simp [KDs.len h.2]
 | [], _ :: _, h => h.elim
 | _ :: _, [], h => h.elim
section
variable {Γ : Ctx} {e : Env} {H : aC} {d : AD} {ty : AJ} {pos : String} {af : AG} {g : Option (Nat × Bool)}
def aI7 {t tn : AJ} {x y : AK} {T s by_ : Nat} {n : Nat} {kk : AM} {ts : Array AJ}
  (hx : vnf (ev e x) = some (.slice none 0 0)) (hy : vnf (ev e y) = some (.int kk n)) (hts : ts = #[t, tn]) (htn : aPs Γ.P tn = true) (hp : yJ Γ.P t = some (T, s, by_))
  (h0 : 0 < n) (hlen : n ≤ 1000000) (hb : by_ ≤ 1000) :
  Op1 Γ ⟨d, .call ⟨.builtin .append, #[x, y], ts⟩, ty, pos, af, g⟩ e H (fun v' H' => ∃ b' cap sp, v' = .slice (some ⟨b', 0, none⟩) n cap ∧ H' = (b', blk sp T) :: H ∧ sp.length = cap * s ∧ n ≤ cap ∧ cap ≤ maxLen) := by
 intro w hw
 subst hts
 have hx := aM hx
 have hy := aM hy
 unfold aPs at htn
 split at htn <;> try cases htn
 rename_i kn hkn
 unfold yJ at hp
 split at hp <;> try cases hp
 rename_i el hu
 split at hp <;> try cases hp
 rename_i ti hti
 split at hp <;> try cases hp
 rename_i z hz
 split at hp <;> try cases hp
 rename_i hzs
 obtain ⟨hz1, hz2⟩ := hzs
 have h48 : n * ti.bytes ≤ 281474976710656 := by
  have : n * ti.bytes ≤ 1000000 * 1000 := Nat.mul_le_mul hlen hb
  omega
 have key := Lib.run_append_nil_zeros (P := Γ.P) w t tn ty T ti z kk kn hu hkn hti hz n h0 hz2 (by omega) h48
 have hge := grownCap_ge w n 0 T
 have hcm : grownCap w n 0 T ≤ maxLen := grownCap_le_maxLen w n 0 T (by unfold maxLen; omega)
 generalize hZ : (Builtin.zeroCells z.cells n ++ Builtin.zeroCells z.cells (grownCap w n 0 T - n)) = Z at key
 have hzl : Z.size = grownCap w n 0 T * ti.size := by
  rw [← hZ]
  simp only [Array.size_append, size_zeroCells, hz1, ← i5]
  congr 1
  omega
 obtain ⟨Z⟩ := Z
 refine cH (v := .slice (some ⟨w.heap.size, 0, none⟩) n (grownCap w n 0 T)) (w' := w.drew.alloc (blk Z T)) ?_ ⟨_, hw.drew.alloc _, w.heap.size, grownCap w n 0 T, Z, rfl, rfl, by simpa using hzl, hge, hcm⟩
 simp only [execOp, resolve, am, az, aj, invoke, builtin, cy, ce, cz, hx, hy, key]
end
end Go.VV
namespace Go.VV
open Go Go.RowKit
def lU {n : Int} (h1 : -9223372036854775808 ≤ n) (h2 : n ≤ 9223372036854775807) : Value.int .i64 (IntKind.i64.wrap n) = .int .i64 n := congrArg _ (aL h1 h2)
def aEY {n : Int} (h1 : 0 ≤ n) (h2 : n < 256) : Value.int .u8 (IntKind.u8.wrap n) = .int .u8 n := congrArg _ (qX h1 h2)
def aAd {n : Int} (h1 : 0 ≤ n) (h2 : n < 65536) : Value.int .u16 (IntKind.u16.wrap n) = .int .u16 n := congrArg _ (fT h1 h2)
def xN {n : Int} (h1 : 0 ≤ n) (h2 : n < 18446744073709551616) : Value.int .u64 (IntKind.u64.wrap n) = .int .u64 n := congrArg _ (eN h1 h2)
def aCJ (n : Int) : Value.int .u8 (IntKind.u8.wrap n) = .int .u8 (n % 256) := congrArg _ (fL n)
def wW (n : Int) : Value.int .u16 (IntKind.u16.wrap n) = .int .u16 (n % 65536) := congrArg _ (gF n)
def aBf (n : Int) : Value.int .u64 (IntKind.u64.wrap n) = .int .u64 (n % 18446744073709551616) := congrArg _ (aBQ n)
def aSK {k : AM} {a b : Int} (h : 0 ≤ a) : Value.int k (a.tmod b) = .int k (a % b) := congrArg _ (Int.tmod_eq_emod_of_nonneg h)
def iU : AM → Int
 | .u8 => 256
 | .u16 => 65536
 | .u64 => 18446744073709551616
 | .i64 => 9223372036854775808
 | _ => 0
def aA7 {k : AM} {n : Int} (h1 : 0 ≤ n) (h2 : n < iU k) : k.wrap n = n := by
 cases k <;> simp only [iU] at h2 <;> first | omega | exact qX h1 h2 | exact fT h1 h2 | exact eN h1 h2 | exact aL (by omega) (by omega)
def aBe {k : AM} {n : Int} (h1 : 0 ≤ n) (h2 : n < iU k) : (BitVec.ofInt k.bits n).toNat = n.toNat := by
 have : n < 2 ^ k.bits := by cases k <;> simp only [iU] at h2 <;> simp only [IntKind.bits] <;> omega
 rw [ez, Int.emod_eq_of_lt h1 (by simpa using this)]
def aSy {k : AM} {a b : Int} (h1 : 0 ≤ a) (h2 : a < iU k) (hb : 0 < b) : Value.int k (k.wrap (a.tdiv b)) = .int k (a / b) := by
 rw [ja h1, aA7 (jv h1 (by omega)) (Int.lt_of_le_of_lt (jn _ h1) h2)]
def iY {k : AM} {a n : Int} (d : Int) (h : 2 ^ min n.toNat k.bits = d) (hd : 0 < d) : Value.int k (shr k a n) = .int k (a / d) := by
 unfold shr
 rw [h, ec _ (by omega)]
def sN {k : AM} {a n : Int} (d : Int) (h : 2 ^ min n.toNat k.bits = d) : shl k a n = k.wrap (a * d) := by unfold shl; rw [h]
def uN {k : AM} {a n : Int} (d : Int) (h : 2 ^ min n.toNat k.bits = d) (h1 : 0 ≤ a * d) (h2 : a * d < iU k) : Value.int k (shl k a n) = .int k (a * d) := by rw [sN d h, aA7 h1 h2]
def aDg {a n : Int} (d : Int) (h : 2 ^ min n.toNat 8 = d) : Value.int .u8 (shl .u8 a n) = .int .u8 (a * d % 256) := by rw [sN d h, fL]
def aPk {a n : Int} (d : Int) (h : 2 ^ min n.toNat 16 = d) : Value.int .u16 (shl .u16 a n) = .int .u16 (a * d % 65536) := by rw [sN d h, gF]
def aFI {k : AM} {a b : Int} (h1 : 0 ≤ a) (h2 : a < iU k) (h3 : 0 ≤ b) (h4 : b < iU k) : aH k a b = ((a.toNat &&& b.toNat : Nat) : Int) := by
 unfold aH
 rw [gk, aBe h1 h2, aBe h3 h4]
 refine aA7 (f6 _) ?_
 have := Nat.and_le_left (n := a.toNat) (m := b.toNat)
 omega
def aDF {k : AM} {a b : Int} (h1 : 0 ≤ a) (h2 : a < iU k) (h3 : 0 ≤ b) (h4 : b < iU k) : bor k a b = ((a.toNat ||| b.toNat : Nat) : Int) := by
 unfold bor
 rw [BitVec.toNat_or, aBe h1 h2, aBe h3 h4]
 refine aA7 (f6 _) ?_
 have hm : ∃ m : Nat, iU k = ((2 ^ m : Nat) : Int) ∨ iU k = 0 := by
  cases k <;> first | exact ⟨8, .inl rfl⟩ | exact ⟨16, .inl rfl⟩ | exact ⟨64, .inl rfl⟩ | exact ⟨63, .inl rfl⟩ | exact ⟨0, .inr rfl⟩
 obtain ⟨m, hm | hm⟩ := hm
 ·have h5 : a.toNat < 2 ^ m := by rw [hm] at h2; omega
  have h6 : b.toNat < 2 ^ m := by rw [hm] at h4; omega
  have := Nat.or_lt_two_pow h5 h6
  rw [hm]; omega
 ·omega
def aK5 {k : AM} {a b : Int} (n : Nat) (d : Int) (hd : ((2 ^ n : Nat) : Int) = d) (hb : b = d - 1) (h1 : 0 ≤ a) (h2 : a < iU k) (h4 : b < iU k) : aH k a b = a % d := by
 have hp : 0 < (2 : Nat) ^ n := jw n
 rw [aFI h1 h2 (by omega) h4]
 have : b.toNat = 2 ^ n - 1 := by omega
 rw [this, er, ← hd]
 obtain ⟨m, rfl⟩ : ∃ m : Nat, a = m := ⟨a.toNat, by omega⟩
 simp
def iG {k : AM} {a b : Int} (n : Nat) (d : Int) (hd : ((2 ^ n : Nat) : Int) = d) (hb : b = d - 1) (h1 : 0 ≤ a) (h2 : a < iU k) (h4 : b < iU k) : Value.int k (aH k a b) = .int k (a % d) := congrArg _ (aK5 n d hd hb h1 h2 h4)
def aOX {k : AM} {a b : Int} (n : Nat) (hb : ((2 ^ n : Nat) : Int) = b) (h1 : 0 ≤ a) (h2 : a < iU k) (h4 : b < iU k) : aH k a b = a / b % 2 * b := by
 have hp : 0 < (2 : Nat) ^ n := jw n
 rw [aFI h1 h2 (by omega) h4]
 have hbn : b.toNat = 2 ^ n := by omega
 rw [hbn]
 have key : a.toNat &&& 2 ^ n = (a.toNat / 2 ^ n % 2) * 2 ^ n := by
  apply iw
  intro i
  rw [jx, Nat.testBit_two_pow]
  by_cases hi : n = i
  ·subst hi
   simp only [decide_true, ig]
   rw [Nat.testBit_mul_two_pow]
   simp [Nat.testBit_eq_decide_div_mod_eq]
  ·simp only [hi, decide_false, Bool.and_false]
   rw [Nat.testBit_mul_two_pow]
   rcases dk i n with h | h
   ·simp [show ¬ n ≤ i by omega]
   ·rcases Nat.mod_two_eq_zero_or_one (a.toNat / 2 ^ n) with h3 | h3 <;> rw [h3]
    ·simp
    ·obtain ⟨q, hq⟩ : ∃ q, i - n = q + 1 := ⟨i - n - 1, by omega⟩
     rw [hq, Nat.testBit_succ]
     simp
 rw [key]
 obtain ⟨m, rfl⟩ : ∃ m : Nat, a = m := ⟨a.toNat, by omega⟩
 rw [← hb]
 simp
def uP {k : AM} {a b : Int} (n : Nat) (hb : ((2 ^ n : Nat) : Int) = b) (h1 : 0 ≤ a) (h2 : a < iU k) (h4 : b < iU k) : Value.int k (aH k a b) = .int k (a / b % 2 * b) := congrArg _ (aOX n hb h1 h2 h4)
section
variable {P : AL} {e : Env} {d : AD} {ty t u : AJ} {pos : String} {af : AG} {g : Option (Nat × Bool)} {x y : AK} {k : AM} {a b : Int}
def jD (hx : vnf (ev e x) = some (.int k a)) (hy : vnf (ev e y) = some (.int k b)) : bN P e ⟨d, .binOp .add t x y u, ty, pos, af, g⟩ = some (.int k (k.wrap (a + b))) := by
 refine bA ?_ rfl
 simp [execOp, eqGuard, aM hx, aM hy, binOp, Op.intArith, bS, bind, Sem.bind, pure]
def iV (hx : vnf (ev e x) = some (.int k a)) (hy : vnf (ev e y) = some (.int k b)) : bN P e ⟨d, .binOp .sub t x y u, ty, pos, af, g⟩ = some (.int k (k.wrap (a - b))) := by
 refine bA ?_ rfl
 simp [execOp, eqGuard, aM hx, aM hy, binOp, Op.intArith, bS, bind, Sem.bind, pure]
def yR (hx : vnf (ev e x) = some (.int k a)) (hy : vnf (ev e y) = some (.int k b)) : bN P e ⟨d, .binOp .mul t x y u, ty, pos, af, g⟩ = some (.int k (k.wrap (a * b))) := by
 refine bA ?_ rfl
 simp [execOp, eqGuard, aM hx, aM hy, binOp, Op.intArith, bS, bind, Sem.bind, pure]
def bE (hx : vnf (ev e x) = some (.int k a)) (hy : vnf (ev e y) = some (.int k b)) : bN P e ⟨d, .binOp .and t x y u, ty, pos, af, g⟩ = some (.int k (aH k a b)) := by
 refine bA ?_ rfl
 simp [execOp, eqGuard, aM hx, aM hy, binOp, Op.intBits, bS, bind, Sem.bind, pure, aH]
def cT (hx : vnf (ev e x) = some (.int k a)) (hy : vnf (ev e y) = some (.int k b)) : bN P e ⟨d, .binOp .or t x y u, ty, pos, af, g⟩ = some (.int k (bor k a b)) := by
 refine bA ?_ rfl
 simp [execOp, eqGuard, aM hx, aM hy, binOp, Op.intBits, bS, bind, Sem.bind, pure, bor]
def aEZ (hx : vnf (ev e x) = some (.int k a)) (hy : vnf (ev e y) = some (.int k b)) : bN P e ⟨d, .binOp .xor t x y u, ty, pos, af, g⟩ = some (.int k (kM k a b)) := by
 refine bA ?_ rfl
 simp [execOp, eqGuard, aM hx, aM hy, binOp, Op.intBits, bS, bind, Sem.bind, pure, kM]
def tC (hx : vnf (ev e x) = some (.int k a)) (hy : vnf (ev e y) = some (.int k b)) : bN P e ⟨d, .binOp .andNot t x y u, ty, pos, af, g⟩ = some (.int k (hQ k a b)) := by
 refine bA ?_ rfl
 simp [execOp, eqGuard, aM hx, aM hy, binOp, Op.intBits, bS, bind, Sem.bind, pure, hQ]
def aNY (P : AL) (t : AJ) : Option AM := match P.underlying t with
 | some (.int k) => some k
 | _ => none
def dN {src dst : AJ} {k2 : AM} {n : Int} (hx : vnf (ev e x) = some (.int k n)) (hs : aNY P src = some k) (hd : aNY P dst = some k2) : bN P e ⟨d, .convert src dst x, ty, pos, af, g⟩ = some (.int k2 (k2.wrap n)) := by
 refine bA ?_ rfl
 unfold aNY at hs hd
 split at hs <;> try cases hs
 split at hd <;> try cases hd
 rename_i h1 _ h2
 simp only [execOp, convert, bind_assoc, bQ h1, bQ h2, aM hx]
 rfl
end
end Go.VV
namespace Go.VV
def aE7 {a b : Int} (h : (a != b) = true) : a ≠ b := by simpa using h
def aE1 {a b : Int} (h : (a != b) = false) : a = b := by simpa using h
end Go.VV
namespace Go.VV
def Vec.cap_le {T s n m c : Nat} {a : AC} {xs : AA} {G : aC} (h : Vec T s (.slice a m c) n xs G) : n ≤ c ∧ m = n := by
 cases h with
 | nil => exact ⟨av _, rfl⟩
 | row b n cap xs sp hn hc hm hle => exact ⟨hle, rfl⟩
section
variable {Γ : Ctx} {e : Env} {H : aC} {d : AD} {t : AJ} {pos : String} {af : AG} {g : Option (Nat × Bool)}
def rF {x y : AK} {ts : Array AJ} {tx ty el : AJ} {b off dl dc m : Nat} {u : AH} {l l' ys : AA} {T : AJ} (i : Nat)
  (hx : vnf (ev e x) = some (.slice (some ⟨b, off, none⟩) dl dc)) (hy : ev e y = u) (hts : ts = #[tx, ty]) (hu : oS Γ.P tx = some (el, 1))
  (hi : H[i]? = some (b, blk l T)) (hs : ∀ w, St Γ.w0 Γ.ms H w → Src w 1 u m ys) (h1 : eD ys = true) (hl : off + min m dl ≤ l.length) (hp : aO l off (ys.take (min m dl)) = l') :
  Op1 Γ ⟨d, .call ⟨.builtin .copy, #[x, y], ts⟩, t, pos, af, g⟩ e H (fun v H' => v = .int .i64 (min m dl : Nat) ∧ H' = H.set i (b, blk l' T)) := by
 subst hp
 exact aFd i hx hy hts hu hi hs h1 hl
end
def jK {off l c : Nat} (h : c ≠ l) : cut1 off l c = off + l := by unfold cut1; rw [if_neg h]
def Row.dropK {k : AM} {w : AI} {b off : Nat} {l : AB} (h : Row w b off (l.map (.int k))) (n : Nat) : Row w b (off + n) ((l.drop n).map (.int k)) := fun j v hv => by
 have := h (n + j) v (by
  rw [cq, dp] at hv
  rw [cq]; exact hv)
 rwa [← dt] at this
def Row.takeK {k : AM} {w : AI} {b off : Nat} {l : AB} (h : Row w b off (l.map (.int k))) (n : Nat) : Row w b off ((l.take n).map (.int k)) := fun j v hv => h j v (by
 rw [cq, d8] at hv
 split at hv
 ·rw [cq]; exact hv
 ·simp at hv)
def aGK {A Z B : AB} {n : Nat} (h : A.length = n) : gK (A ++ Z) n B = A ++ B ++ Z.drop B.length := by
 subst h
 unfold gK
 rw [g9, ij]
 simp
def aFp {l vs : AB} (h : vs.length = l.length) : gK l 0 vs = vs := by
 unfold gK; simp [h]
def nD (l : AB) (n j : Nat) : (l.drop n).getD j 0 = l.getD (n + j) 0 := by simp [cj, dp]
def sY (l : AB) {n j : Nat} (h : j < n) : (l.take n).getD j 0 = l.getD j 0 := by rw [cj, List.getElem?_take_of_lt h, ← cj]
end Go.VV
namespace Go.VV
open Go Go.RowKit
def aSR {l : AB} {i : Nat} (hi : i < l.length) (h : 3 < l.getD i 0) : (l.any fun x => decide (3 < x)) = true := by
 rw [List.any_eq_true]
 refine ⟨l[i], eg hi, ?_⟩
 rw [cj, ak hi] at h
 simpa using h
def aOe {l : AB} (h : ∀ j, j < l.length → ¬ 3 < l.getD j 0) : (l.any fun x => decide (3 < x)) = false := by
 rw [List.any_eq_false]
 intro x hx
 obtain ⟨i, hi, rfl⟩ := fy hx
 have := h i hi
 rw [cj, ak hi] at this
 simpa using this
def aQc {x y : Int} (hx : 0 ≤ x ∧ x < 256) (hy : 0 ≤ y ∧ y < 256) : bor .i64 x (256 * y) = x + 256 * y := by
 rw [aDF hx.1 (by show _ < (9223372036854775808 : Int); omega) (by omega) (by show _ < (9223372036854775808 : Int); omega)]
 have h1 : (256 * y).toNat = 2 ^ 8 * y.toNat := by omega
 rw [h1, jz, ← fe (by omega)]
 omega
def m_m {p : Prop} (h : p := by repeat (first | exact .head _ | refine .tail _ ?_ | refine fi _ ?_)) : p := h
def a_g {p : Prop} (h : p := by repeat (first | exact eF.refl _ _ | exact eF.mix rfl | refine eF.put rfl ?_ | refine eF.keep rfl ?_)) : p := h
def r_f {p q : Prop} (h : p) (k : p → q := by first | exact ct | exact c7 | exact eq_of_beq | exact ne_of_beq_false | exact aE7 | exact aE1 | exact id) : q := k h
def s_z {p : Prop} (h : p := by first | rfl | exact ae rfl | (simp; done)) : p := h
def s_t {p : Prop} (h : p := by first | exact dD 0 rfl rfl rfl rfl rfl rfl s_z | exact dD 1 rfl rfl rfl rfl rfl rfl s_z | exact dD 2 rfl rfl rfl rfl rfl rfl s_z | exact dD 3 rfl rfl rfl rfl rfl rfl s_z) : p := h
def l_n {p : Prop} (h : p := by first | exact aEx rfl rfl | exact aIQ rfl rfl | rfl) : p := h
def o_m {p : Prop} (h : p := by omega) : p := h
def c_u {p q : Prop} (k : p) (h : p → q := by intro k; simp only [cr, ci, ai, ay]; exact k) : q := h k
def n_h {p : Prop} (h : p := by intro h; cases h) : p := h
section
variable {P : AL} {Γ : Ctx} {k : eJ} {e : Env} {H F : aC} {ops rest : List Oper} {d : AD} {op : Op} {t : AJ} {pos : String} {af : AG} {g : Option (Nat × Bool)}
  {need : AE} {pl : jT} {i : Nat} {S : AI → Prop}
def Rl {v : AH} (h : L1 Γ ops rest k (e.put d v) H) (hl : bN Γ.P e ⟨d, op, t, pos, af, g⟩ = some v := by exact rfl) (hg : gdB ops e ⟨d, op, t, pos, af, g⟩ = true := by exact rfl) (hd : cQ Γ.n d = true := by exact rfl) :
    L1 Γ ops (⟨d, op, t, pos, af, g⟩ :: rest) k e H := l_l hl hg hd h
def RLa {u f : Nat} {x : AK} {v : AH} (h : L1 Γ ops rest k (e.put d v) H) (hl : bN Γ.P e ⟨d, .fieldAddr u x f, t, pos, af, g⟩ = some v := by exact rA rfl rfl) (hg : gdB ops e ⟨d, .fieldAddr u x f, t, pos, af, g⟩ = true := by exact rfl) (hd : cQ Γ.n d = true := by exact rfl) :
    L1 Γ ops (⟨d, .fieldAddr u x f, t, pos, af, g⟩ :: rest) k e H := l_l hl hg hd h
def RLp (h : L1 Γ ops rest k (e.put d undef) H) (hg : gdB ops e ⟨d, op, t, pos, af, g⟩ = false := by exact rfl) (hd : cQ Γ.n d = true := by exact rfl) : L1 Γ ops (⟨d, op, t, pos, af, g⟩ :: rest) k e H := l_p hg hd h
def RD {v : AH} (h : L2 Γ ops S need pl k (e.put d v) H) (ho : ops[i]? = some ⟨d, op, t, pos, af, g⟩ := by exact rfl) (hl : bN Γ.P e ⟨d, op, t, pos, af, g⟩ = some v := by exact rfl) (hv : pG v = true := by exact rfl)
    (hg : gdB ops e ⟨d, op, t, pos, af, g⟩ = true := by exact rfl) (hd : cQ Γ.n d = true := by exact rfl) : L2 Γ ops S need (.step true i pl) k e H := rU ho hl hv hg hd h
def RDa {v : AH} (h : L2 Γ ops S need pl k (e.put d v) H) (ho : ops[i]? = some ⟨d, op, t, pos, af, g⟩ := by exact rfl) (hl : bN Γ.P e ⟨d, op, t, pos, af, g⟩ = some v := by exact rA rfl rfl) (hv : pG v = true := by exact rfl)
    (hg : gdB ops e ⟨d, op, t, pos, af, g⟩ = true := by exact rfl) (hd : cQ Γ.n d = true := by exact rfl) : L2 Γ ops S need (.step true i pl) k e H := rU ho hl hv hg hd h
def RLo {T : AJ} {x : AK} {b off : Nat} {l : AA} {U : AJ} {fr : Nat × Nat} {v : AH} (h : L1 Γ ops rest k (e.put d v) H) (hx : vnf (ev e x) = some (.pointer (some ⟨b, off, none⟩)) := by exact rfl) (hs : mB Γ.P T = true := by exact rfl)
    (hm : (b, Obj.cells l.toArray U fr) ∈ H := by exact m_m) (hv : l[off]? = some v := by exact rfl) (hg : gdB ops e ⟨d, .load T x, t, pos, af, g⟩ = true := by exact rfl) (hd : cQ Γ.n d = true := by exact rfl) :
    L1 Γ ops (⟨d, .load T x, t, pos, af, g⟩ :: rest) k e H := l_x (aE hx hs (aJ hm hv)) hg hd (by rintro _ _ ⟨rfl, rfl⟩; exact h)
def RDo {T : AJ} {x : AK} {b off : Nat} {l : AA} {U : AJ} {fr : Nat × Nat} {v : AH} (h : L2 Γ ops (gR Γ F) need pl k (e.put d v) H) (ho : ops[i]? = some ⟨d, .load T x, t, pos, af, g⟩ := by exact rfl) (hx : vnf (ev e x) = some (.pointer (some ⟨b, off, none⟩)) := by exact rfl) (hs : mB Γ.P T = true := by exact rfl)
    (hm : (b, Obj.cells l.toArray U fr) ∈ F := by exact m_m) (hv : l[off]? = some v := by exact rfl) (hg : gdB ops e ⟨d, .load T x, t, pos, af, g⟩ = true := by exact rfl) (hd : cQ Γ.n d = true := by exact rfl) :
    L2 Γ ops (gR Γ F) need (.step true i pl) k e H := aKK ho hx hs (cJ hm hv) hg hd h
def RLb {b : Bool} (ht : b = true → L1 Γ ops rest k (e.put d (.bool true)) H) (hf : b = false → L1 Γ ops rest k (e.put d (.bool false)) H) (hl : bN Γ.P e ⟨d, op, t, pos, af, g⟩ = some (.bool b) := by exact rfl) (hg : gdB ops e ⟨d, op, t, pos, af, g⟩ = true := by exact rfl) (hd : cQ Γ.n d = true := by exact rfl) :
    L1 Γ ops (⟨d, op, t, pos, af, g⟩ :: rest) k e H := l_b hl hg hd ht hf
def RLv {f : Nat} {l : AF} {ts : Array AJ} {vs : AA} {u : AH} (hc : dG Γ.P f = true) (hf : ∀ w, St Γ.w0 Γ.ms H w → aB Γ.P f vs w [] (fun v H' => H' = [] ∧ v = u))
    (h : L1 Γ ops rest k (e.put d u) H) (hv : evs e l = some vs := by exact rfl) (hg : gdB ops e ⟨d, .call ⟨.value (.func f), l.toArray, ts⟩, t, pos, af, g⟩ = true := by exact rfl) (hd : cQ Γ.n d = true := by exact rfl) :
    L1 Γ ops (⟨d, .call ⟨.value (.func f), l.toArray, ts⟩, t, pos, af, g⟩ :: rest) k e H := l_x (bJ hc hv hf) hg hd (by rintro _ _ ⟨rfl, rfl⟩; exact h)
end
structure Wr (q : Prop) : Prop where
  u : q
def G_L {p q : Prop} (k_ : q) (h : Wr q → p := by intro k_; (first | refine RLa ?_ | refine RLo ?_ | refine RLp ?_ | refine Rl ?_); exact k_.u) : p := h ⟨k_⟩
def G_D {p q : Prop} (k_ : q) (h : Wr q → p := by intro k_; (first | refine RDa ?_ | refine RDo ?_ | refine aLp rfl rfl rfl ?_ | refine RD ?_); exact k_.u) : p := h ⟨k_⟩
section
variable {P : AL} {Γ : Ctx} {k : eJ} {e : Env} {H F L : aC} {ops rest : List Oper} {d : AD} {op : Op} {t : AJ} {pos : String} {af : AG} {g : Option (Nat × Bool)}
  {need : AE} {pl : jT} {i : Nat} {S : AI → Prop} {T F1 : Prop}
def KC {c : AK} {x y : Code} {b : Bool} (h1 : b = true → T → C Γ x k e L) (h2 : b = false → F1 → C Γ y k e L) (hc : ev e c = .bool b := by exact rfl)
    (k1 : b = true → T := by first | exact ct | exact eq_of_beq | exact aE7 | exact id) (k2 : b = false → F1 := by first | exact c7 | exact ne_of_beq_false | exact aE1 | exact id) : C Γ (.cond c x y) k e L :=
  aCO hc (fun h => h1 h (k1 h)) (fun h => h2 h (k2 h))
def KL {b : Bool} (ht : b = true → T → L1 Γ ops rest k (e.put d (.bool true)) H) (hf : b = false → F1 → L1 Γ ops rest k (e.put d (.bool false)) H) (hl : bN Γ.P e ⟨d, op, t, pos, af, g⟩ = some (.bool b) := by exact rfl) (hg : gdB ops e ⟨d, op, t, pos, af, g⟩ = true := by exact rfl) (hd : cQ Γ.n d = true := by exact rfl)
    (k1 : b = true → T := by first | exact ct | exact eq_of_beq | exact aE7 | exact id) (k2 : b = false → F1 := by first | exact c7 | exact ne_of_beq_false | exact aE1 | exact id) :
    L1 Γ ops (⟨d, op, t, pos, af, g⟩ :: rest) k e H := l_b hl hg hd (fun h => ht h (k1 h)) (fun h => hf h (k2 h))
def KE {b : Bool} (ht : b = true → T → L2 Γ ops S need pl k (e.put d (.bool true)) H) (hf : b = false → F1 → L2 Γ ops S need pl k (e.put d (.bool false)) H) (ho : ops[i]? = some ⟨d, op, t, pos, af, g⟩ := by exact rfl) (hl : bN Γ.P e ⟨d, op, t, pos, af, g⟩ = some (.bool b) := by exact rfl) (hg : gdB ops e ⟨d, op, t, pos, af, g⟩ = true := by exact rfl) (hd : cQ Γ.n d = true := by exact rfl)
    (k1 : b = true → T := by first | exact ct | exact eq_of_beq | exact aE7 | exact id) (k2 : b = false → F1 := by first | exact c7 | exact ne_of_beq_false | exact aE1 | exact id) :
    L2 Γ ops S need (.step true i pl) k e H := aSt ho hl hg hd (fun h => ht h (k1 h)) (fun h => hf h (k2 h))
def RX {K : AH → aC → Prop} (hop : Op1 Γ ⟨d, op, t, pos, af, g⟩ e H K) (hg : (gdB ops e ⟨d, op, t, pos, af, g⟩ && cQ Γ.n d) = true) (hk : ∀ v H', K v H' → L1 Γ ops rest k (e.put d v) H') :
    L1 Γ ops (⟨d, op, t, pos, af, g⟩ :: rest) k e H := l_x hop (Bool.and_eq_true_iff.1 hg).1 (Bool.and_eq_true_iff.1 hg).2 hk
def RY {v : AH} (hl : bN Γ.P e ⟨d, op, t, pos, af, g⟩ = some v) (hg : (gdB ops e ⟨d, op, t, pos, af, g⟩ && cQ Γ.n d) = true) (h : L1 Γ ops rest k (e.put d v) H) :
    L1 Γ ops (⟨d, op, t, pos, af, g⟩ :: rest) k e H := l_l hl (Bool.and_eq_true_iff.1 hg).1 (Bool.and_eq_true_iff.1 hg).2 h
def RW {v u : AH} (hl : bN Γ.P e ⟨d, op, t, pos, af, g⟩ = some u) (hg : (gdB ops e ⟨d, op, t, pos, af, g⟩ && cQ Γ.n d) = true) (hv : u = v) (h : L1 Γ ops rest k (e.put d v) H) :
    L1 Γ ops (⟨d, op, t, pos, af, g⟩ :: rest) k e H := aVe hl (Bool.and_eq_true_iff.1 hg).1 (Bool.and_eq_true_iff.1 hg).2 hv h
def DX {K : AH → aC → Prop} (ho : ops[i]? = some ⟨d, op, t, pos, af, g⟩) (hop : Op1 Γ ⟨d, op, t, pos, af, g⟩ e H K) (hg : (gdB ops e ⟨d, op, t, pos, af, g⟩ && cQ Γ.n d) = true) (hn : need.any (Nat.beq i) = true → ∀ v H', K v H' → ∀ x ∈ F, x ∈ H')
    (hk : ∀ v H', K v H' → L2 Γ ops (gR Γ F) need pl k (e.put d v) H') :
    L2 Γ ops (gR Γ F) need (.step false i pl) k e H := d_x ho hop (Bool.and_eq_true_iff.1 hg).1 (Bool.and_eq_true_iff.1 hg).2 hn hk
def DW {v u : AH} (ho : ops[i]? = some ⟨d, op, t, pos, af, g⟩) (hl : bN Γ.P e ⟨d, op, t, pos, af, g⟩ = some u) (hg : (pG u && (gdB ops e ⟨d, op, t, pos, af, g⟩ && cQ Γ.n d)) = true) (hv : u = v) (h : L2 Γ ops S need pl k (e.put d v) H) :
    L2 Γ ops S need (.step true i pl) k e H := aU9 ho hl (Bool.and_eq_true_iff.1 hg).1 (Bool.and_eq_true_iff.1 (Bool.and_eq_true_iff.1 hg).2).1 (Bool.and_eq_true_iff.1 (Bool.and_eq_true_iff.1 hg).2).2 hv h
def DY {v : AH} (ho : ops[i]? = some ⟨d, op, t, pos, af, g⟩) (hl : bN Γ.P e ⟨d, op, t, pos, af, g⟩ = some v) (hg : (pG v && (gdB ops e ⟨d, op, t, pos, af, g⟩ && cQ Γ.n d)) = true) (h : L2 Γ ops S need pl k (e.put d v) H) :
    L2 Γ ops S need (.step true i pl) k e H := rU ho hl (Bool.and_eq_true_iff.1 hg).1 (Bool.and_eq_true_iff.1 (Bool.and_eq_true_iff.1 hg).2).1 (Bool.and_eq_true_iff.1 (Bool.and_eq_true_iff.1 hg).2).2 h
def DL {T : AJ} {x : AK} {b off : Nat} {v : AH} (ho : ops[i]? = some ⟨d, .load T x, t, pos, af, g⟩) (hx : vnf (ev e x) = some (.pointer (some ⟨b, off, none⟩))) (hs : mB Γ.P T = true)
    (hc : ∀ w, gR Γ F w → w.cell? ⟨b, off, none⟩ = some v) (hg : (gdB ops e ⟨d, .load T x, t, pos, af, g⟩ && cQ Γ.n d) = true) (h : L2 Γ ops (gR Γ F) need pl k (e.put d v) H) :
    L2 Γ ops (gR Γ F) need (.step true i pl) k e H := aKK ho hx hs hc (Bool.and_eq_true_iff.1 hg).1 (Bool.and_eq_true_iff.1 hg).2 h
def RZ {v : AH} {H2 : aC} (hop : Op1 Γ ⟨d, op, t, pos, af, g⟩ e H (fun u H' => u = v ∧ H' = H2)) (hg : (gdB ops e ⟨d, op, t, pos, af, g⟩ && cQ Γ.n d) = true) (hk : L1 Γ ops rest k (e.put d v) H2) :
    L1 Γ ops (⟨d, op, t, pos, af, g⟩ :: rest) k e H := RX hop hg (by rintro _ _ ⟨rfl, rfl⟩; exact hk)
def DZ {v : AH} {H2 : aC} (ho : ops[i]? = some ⟨d, op, t, pos, af, g⟩) (hop : Op1 Γ ⟨d, op, t, pos, af, g⟩ e H (fun u H' => u = v ∧ H' = H2)) (hg : (gdB ops e ⟨d, op, t, pos, af, g⟩ && cQ Γ.n d) = true) (hn : need.any (Nat.beq i) = true → ∀ u H', (u = v ∧ H' = H2) → ∀ x ∈ F, x ∈ H')
    (hk : L2 Γ ops (gR Γ F) need pl k (e.put d v) H2) : L2 Γ ops (gR Γ F) need (.step false i pl) k e H := DX ho hop hg hn (by rintro _ _ ⟨rfl, rfl⟩; exact hk)
def RS {v : AH} (h : L1 Γ ops rest k (e.put d v) H) (hl : bN Γ.P e ⟨d, op, t, pos, af, g⟩ = some v := by exact eL rfl rfl rfl rfl) (hg : (gdB ops e ⟨d, op, t, pos, af, g⟩ && cQ Γ.n d) = true := by exact rfl) :
    L1 Γ ops (⟨d, op, t, pos, af, g⟩ :: rest) k e H := RY hl hg h
def E0 {Γ : Ctx} {s : Nat} {R : AH → aC → Prop} {v : AH} (hv : vnf (e s) = some v) (h : R v []) : oU Γ [.tmp s] R e H := aG (fun _ _ => sR hv) h
def EV {Γ : Ctx} {s : Nat} {R : AH → aC → Prop} {H' : aC} {v : AH} (hv : vnf (e s) = some v) (hh : H'.Sublist H) (h : R v H') : oU Γ [.tmp s] R e H := fM (fun _ _ => sR hv) hh h
def EN {Γ : Ctx} {R : AH → aC → Prop} {H' : aC} (hh : H'.Sublist H) (h : R (.tuple #[]) H') : oU Γ [] R e H := fM (fun _ _ => eT) hh h
end
@[reducible] def pln : AE → jT
  | [] => .done
  | n :: l => .step (Nat.beq (n % 2) 0) (n / 2) (pln l)
def DR {Γ : Ctx} {k : eJ} {e : Env} {H : aC} {id : Nat} {l : List Oper} (need : AE) (pl : jT) (h : L2 Γ l (gR Γ H) need pl k e H) (hm : Γ.P.follows .mixedOrders = true := by exact rfl) (hs : aBS l.toArray = true := by kernel_rfl)
    (hB : jV .any l.toArray (fun i => need.any (Nat.beq i)) pl l.toArray.size true (Array.replicate l.toArray.size false) true = true := by kernel_rfl) : C Γ (.region id l.toArray true) k e H := iE H need pl hm hs hB (fun _ h => h) h
end Go.VV
namespace Go.VV
open Go Go.ChangeShapes Go.WideShapes Go.ChangeAt Go.RowKit
inductive NK where
 | int (k : AM)
 | bool
 | str
 | ints (k : AM)
 | rows (ks : List CK)
def aU1 (W : AI) : NK → AH → Prop
 | .int k, v => ∃ n, v = .int k n ∧ (Lit.int k n).wf = true
 | .bool, v => ∃ b, v = .bool b
 | .str, v => ∃ s : ByteArray, v = .string s ∧ s.size ≤ maxLen
 | .ints k, v => ∃ (a : AC) (c : Nat) (l : AB), v = .slice a l.length c ∧ l.length ≤ c ∧ l.length ≤ maxLen ∧ (∀ x ∈ l, (Lit.int k x).wf = true) ∧ Ns W k a l
 | .rows ks, v => ∃ (a : AC) (c : Nat) (l : List (List AH)), v = .slice a l.length c ∧ l.length ≤ c ∧ l.length ≤ maxLen ∧ (∀ x ∈ l, Cks ks x) ∧ Els W id a l
def Nks (W : AI) : List NK → AA → Prop
 | [], [] => True
 | k :: ks, v :: vs => aU1 W k v ∧ Nks W ks vs
 | _, _ => False
def Nks.app {W : AI} : ∀ {a b : List NK} {x y : AA}, Nks W a x → Nks W b y → Nks W (a ++ b) (x ++ y)
 | [], _, [], _, _, h => h
 | _ :: _, _, _ :: _, _, h, h2 => ⟨h.1, Nks.app h.2 h2⟩
 | [], _, _ :: _, _, h, _ => h.elim
 | _ :: _, _, [], _, h, _ => h.elim
def Nks.len {W : AI} : ∀ {a : List NK} {x : AA}, Nks W a x → a.length = x.length
 | [], [], _ => rfl
 | _ :: _, _ :: _, h => by simp [Nks.len h.2]
 | [], _ :: _, h => h.elim
 | _ :: _, [], h => h.elim
section
variable (P : AL)
def aBn (f : AJ → Option (List NK)) : List Field → Nat → Option (List NK)
 | [], _ => some []
 | fd :: r, off => match f fd.type with
  | some ks => bif Nat.beq fd.offset off && Nat.beq (P.cellsOf fd.type) ks.length then (match aBn f r (off + ks.length) with
   | some rs => some (ks ++ rs)
   | none => none) else none
  | none => none
def aCm : Nat → AJ → Option (List NK)
 | 0, _ => none
 | n + 1, t => match P.underlying t with
  | some (.int k) => some [.int k]
  | some .bool => some [.bool]
  | some .string => some [.str]
  | some (.slice e) => match P.underlying e with
   | some (.int k) => bif Nat.beq (P.cellsOf e) 1 then some [.ints k] else none
   | _ => match nN P 9 e with
    | some ks => bif Nat.blt 0 (P.cellsOf e) then some [.rows ks] else none
    | none => none
  | some (.struct ⟨fs⟩) => match aBn P (aCm n) fs 0 with
   | some ks => bif Nat.beq (P.cellsOf t) ks.length then some ks else none
   | none => none
  | _ => none
end
def aG5 {H : Type} {enc : AJ × AH → H} {P : AL} {W : AI} {n : Nat} {t e : AJ} {k : AM} {cs : AA} {y : DataW H × List MemPlace} (ht : P.underlying t = some (.slice e)) (he : P.underlying e = some (.int k)) (hc : P.cellsOf e = 1)
  (hf : DataW.trod enc P W 0 (fun _ => true) true n t cs = some y) : Nks W [NK.ints k] cs := by
 rcases open_ints ht he hc hf with ⟨rfl, _⟩ | ⟨x, l, c, zs, rfl, _, hl, hm, hz, _, hcell, hwz⟩
 ·exact ⟨⟨none, 0, [], rfl, av _, al _, by simp, Ns.nil _ _ _⟩, trivial⟩
 ·have hz' : zs.length = c := by simpa using hz
  have hlen : (zs.take l).length = l := by rw [ej]; omega
  refine ⟨⟨some x, c, zs.take l, by rw [hlen], by omega, by omega, fun y hy => hwz y (cu hy), fun h0 => ?_⟩, trivial⟩
  obtain ⟨b, off, spot⟩ := x
  have h1 := hcell 0 (by omega)
  have hspot : spot = none := by simpa [Addr.add] using World.cell?_spot h1
  subst hspot
  refine ⟨b, off, rfl, fun j v hv => ?_⟩
  rw [cq] at hv
  rw [d8] at hv
  split at hv
  ·have hj : j < zs.length := by omega
   have := hcell j hj
   have hadd : (⟨b, off, none⟩ : Addr).add j = ⟨b, off + j, none⟩ := by unfold Addr.add; split <;> simp_all
   rw [hadd] at this
   rw [ak hj] at hv
   simp only [gr, Option.some.injEq] at hv
   subst hv
   simpa [cj, hj] using this
  ·cases hv
section
variable {H : Type} {enc : AJ × AH → H} {P : AL} {W : AI}
def aC2 {f : AJ → Option (List NK)} {n : Nat} {cs : AA} (hf : ∀ {t : AJ} {ks : List NK} {xs : AA} {y : DataW H × List MemPlace}, f t = some ks → DataW.trod enc P W 0 (fun _ => true) true n t xs = some y → Nks W ks xs) :
  ∀ (fs : List Field) (off : Nat) (ks : List NK), aBn P f fs off = some ks → (∀ fd ∈ fs, ∃ y, DataW.trod enc P W 0 (fun _ => true) true n fd.type ((cs.drop fd.offset).take (P.cellsOf fd.type)) = some y) → Nks W ks ((cs.drop off).take ks.length)
 | [], off, ks, h, _ => by cases h; simp [Nks]
 | fd :: r, off, ks, h, hy => by
  simp only [aBn] at h
  split at h
  ·rename_i k1 hk1
   by_cases hb : (Nat.beq fd.offset off && Nat.beq (P.cellsOf fd.type) k1.length) = true
   ·rw [hb, cond_true] at h
    simp only [aq] at hb
    have h1 := bj hb.1
    have h2 := bj hb.2
    split at h
    ·rename_i rs hrs
     cases h
     obtain ⟨y, hy1⟩ := hy fd (.head _)
     have a1 := hf hk1 hy1
     have a2 := aC2 hf r _ rs hrs fun g hg => hy g (.tail _ hg)
     rw [h1, h2] at a1
     rw [dw, ie, ax]
     exact a1.app a2
    ·cases h
   ·simp only [ef] at hb
    rw [hb, cond_false] at h
    cases h
  ·cases h
def aEb : ∀ (m : Nat) {n : Nat} {t : AJ} {ks : List NK} {cs : AA} {y : DataW H × List MemPlace}, aCm P m t = some ks → DataW.trod enc P W 0 (fun _ => true) true n t cs = some y → Nks W ks cs
 | 0, _, _, _, _, _, h, _ => by cases h
 | m + 1, n, t, ks, cs, y, h, hy => by
  simp only [aCm] at h
  split at h
  ·rename_i k ht
   cases h
   obtain ⟨x, rfl, _, hw⟩ := DataW.trod_int ht hy
   exact ⟨⟨x, rfl, hw⟩, trivial⟩
  ·rename_i ht
   cases h
   obtain ⟨b, rfl, _⟩ := DataW.trod_bool ht hy
   exact ⟨⟨b, rfl⟩, trivial⟩
  ·rename_i ht
   cases h
   obtain ⟨s, rfl, _, hs⟩ := DataW.trod_string ht hy
   exact ⟨⟨s, rfl, hs⟩, trivial⟩
  ·rename_i e ht
   split at h
   ·rename_i k he
    by_cases hb : Nat.beq (P.cellsOf e) 1 = true
    ·rw [hb, cond_true] at h
     cases h
     exact aG5 ht he (bj hb) hy
    ·simp only [ef] at hb
     rw [hb, cond_false] at h
     cases h
   ·split at h
    ·rename_i ks1 hk1
     by_cases hb : Nat.blt 0 (P.cellsOf e) = true
     ·rw [hb, cond_true] at h
      cases h
      obtain ⟨a, cp, l, rfl, h1⟩ := aMi (c := id) (p := Cks ks1) _ ht hk1 rfl hb (fun cs hc => ⟨cs, rfl, hc⟩) hy
      exact ⟨⟨a, cp, l, rfl, h1⟩, trivial⟩
     ·simp only [ef] at hb
      rw [hb, cond_false] at h
      cases h
    ·cases h
  ·rename_i fs ht
   split at h
   ·rename_i k1 hk1
    by_cases hb : Nat.beq (P.cellsOf t) k1.length = true
    ·rw [hb, cond_true] at h
     cases h
     obtain ⟨xs, n', rfl, _, hl, hlen, hf⟩ := DataW.trod_struct ht hy
     have := aC2 (cs := cs) (fun h1 h2 => aEb m h1 h2) fs 0 _ hk1 (fun fd hfd => by
      obtain ⟨i, hi, rfl⟩ := fy hfd
      have h3 := hf i fs[i] (by simp [hi])
      have hi' : i < xs.length := by rw [hlen]; simpa using hi
      rw [ak hi'] at h3
      exact ⟨_, h3⟩)
     rw [j0, ← bj hb, ← hl, db] at this
     exact this
    ·simp only [ef] at hb
     rw [hb, cond_false] at h
     cases h
   ·cases h
  ·cases h
def vG {α : Type} {r : Reach} {b0 : Nat} {t : AJ} {fs : Array Field} {ks : List NK} {c : α → AA} {p : α → Prop} {v : AH} {d : DataW H} {q : List MemPlace} (ht : P.underlying t = some (.struct fs)) (hk : aCm P 9 t = some ks)
  (hp : ∀ cs, Nks W ks cs → ∃ x, cs = c x ∧ p x) (hv : Value.okWide P W r b0 t v) (h : DataW.Trod enc P W 0 (fun _ => true) true t v d q) : ∃ x : α, v = .agg (c x).toArray ∧ p x := by
 obtain ⟨⟨cs⟩, rfl, _⟩ := okWide_struct ht hv
 obtain ⟨fuel, hf⟩ := h
 have h1 := aEb 9 hk hf
 simp only [Value.cells] at h1
 obtain ⟨x, hx, hpx⟩ := hp _ h1
 exact ⟨x, by rw [← hx], hpx⟩
def aRn {α : Type} {ks : List CK} {c : α → AA} {p : α → Prop} {a : AC} {L : List (List AH)} (hp : ∀ cs, Cks ks cs → ∃ x, cs = c x ∧ p x) (h : ∀ x ∈ L, Cks ks x) (he : Els W id a L) : ∃ l : List α, L.length = l.length ∧ (∀ x ∈ l, p x) ∧ Els W c a l := by
 obtain ⟨l, rfl, hl⟩ := aGJ (f := c) (p := p) fun x hx => hp x (h x hx)
 refine ⟨l, iu _, hl, fun h0 => ?_⟩
 obtain ⟨b, o, h1, h2⟩ := he (by simpa using h0)
 exact ⟨b, o, h1, by simpa [aF, List.flatMap_map] using h2⟩
end
end Go.VV
namespace Go.VV
open Go Go.RowKit
section
variable {Γ : Ctx} {e : Env} {d : AD} {t : AJ} {pos : String} {af : AG} {g : Option (Nat × Bool)}
def aHt {F A G : aC} {f : Nat} {l : AF} {ts : Array AJ} {vs : AA} (ms2 : AE) (hc : dG Γ.P f = true) (hv : evs e l = some vs) {R : AH → aC → Prop}
  (hms : ∀ b ∈ ms2, ∃ o, (b, o) ∈ A) (hf : ∀ w, St Γ.w0 Γ.ms (A ++ (F ++ G)) w → aB Γ.P f vs w ms2 R) :
  Op1 Γ ⟨d, .call ⟨.value (.func f), l.toArray, ts⟩, t, pos, af, g⟩ e (F ++ (A ++ G)) (fun v H2 => ∃ H', R v H' ∧ H2 = F ++ (H' ++ G)) := by
 have key := eQ (Γ := Γ) (e := e) (d := d) (t := t) (pos := pos) (af := af) (g := g) (A := A) (G := F ++ G) (ts := ts) (vs := vs) ms2 hc hv hms hf
 intro w hw
 have hw2 : St Γ.w0 Γ.ms (A ++ (F ++ G)) w := hw.perm (by
  rw [← cg, ← cg]
  exact di _ aw)
 refine kJ (key w hw2) ?_
 rintro v w' ⟨H2, h2, H', hR, rfl⟩
 refine ⟨F ++ (H' ++ G), h2.perm ?_, H', hR, rfl⟩
 rw [← cg, ← cg]
 exact di _ aw
end
def Row.apart {w0 w : AI} {b off : Nat} {l : AA} (h : Row w0 b off l) (hl : 0 < l.length) {H : aC} (hw : St w0 [] H w) {x : Nat × Obj} (hm : x ∈ H) : b ≠ x.1 := by
 rintro rfl
 have h1 := h 0 (l[0]) (by rw [ak hl])
 have h2 := (hw.own x hm).resolve_left (by simp)
 have h3 : w0.heap[x.1]? = none := ei (by omega)
 simp [World.cell?, h3] at h1
def Ns.apart {w0 w : AI} {k : AM} {a : AC} {l : AB} (h : Ns w0 k a l) (hl : 0 < l.length) {H : aC} (hw : St w0 [] H w) {x : Nat × Obj} (hm : x ∈ H) {p : Addr} (hp : a = some p) : p.block ≠ x.1 := by
 obtain ⟨b, off, rfl, hr⟩ := h hl
 cases hp
 exact hr.apart (by simpa using hl) hw hm
def Ns.old {w0 w : AI} {ms : AE} {H : aC} {k : AM} {a : AC} {l : AB} (h : Ns w0 k a l) (hne : 0 < l.length → ∀ p, a = some p → p.block ∉ ms) (hw : St w0 ms H w) : Ns w k a l := fun hl => by
 obtain ⟨b, off, rfl, hr⟩ := h hl
 exact ⟨b, off, rfl, aN hr (hne hl _ rfl) w hw⟩
end Go.VV
