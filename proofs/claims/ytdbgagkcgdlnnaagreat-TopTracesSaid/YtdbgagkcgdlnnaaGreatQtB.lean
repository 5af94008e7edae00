/- Parts. -/
import Derived.Laws.BytesArg
import Derived.Laws.Externs
import Derived.Laws.Strings2
import Derived.Laws.StructEq
import Derived.Laws.World
import Derived.Lib.AppendZeros
import Derived.Lib.Overlaps
import Derived.Lib.SmallJoins
import Derived.OpenShut
import Derived.ProofKit
import Derived.RangeFuncRecord
import Derived.WalkKit
import Derived.Test.YtdbgagkcgdlnnaaGreatQtA
set_option maxRecDepth 100000
set_option maxHeartbeats 1000000
set_option linter.all false
namespace Go.VV
open Go
def aHJ {P : AL} {t : AJ} {a b : Bool} (hu : P.underlying t = some .bool) : bM P (Op.equal t (.bool a) (.bool b)) = some (a == b) := by
 obtain ⟨n, hn⟩ : ∃ n, Op.maxDepth = n + 1 := ⟨9999, rfl⟩
 unfold Op.equal
 rw [hn]
 simp only [Op.equalIn]
 rw [bI hu]
 rfl
def aH1 {α β : Type} {P : AL} {s : Sem α} {f : α → Sem β} {a : α} (h : bM P s = some a) : bM P (s >>= f) = bM P (f a) := by
 induction s with
 | pure b => simp only [bM] at h; cases h; rfl
 | program k ih => simp only [bM] at h; exact ih P h
 | _ => simp [bM] at h
section
variable {P : AL} {e : Env} {d : AD} {x y : AK} {t ty : AJ} {u : AJ} {pos : String} {af : AG} {g : Option (Nat × Bool)} {a b : Bool}
def uI (hx : vnf (ev e x) = some (.bool a)) (hy : vnf (ev e y) = some (.bool b)) (hu : P.underlying t = some .bool) :
  bH P e ⟨d, .binOp .eql t x y u, ty, pos, af, g⟩ = some (.bool (a == b)) := by
 refine aX ?_ rfl
 have hx := aK hx
 have hy := aK hy
 have key := aHJ (a := a) (b := b) hu
 generalize hE : Op.equal t (.bool a) (.bool b) = E at key
 simp only [execOp, hx, hy]
 unfold eqGuard binOp
 simp only [hE]
 simp only [ii, Bool.false_eq_true, if_false, pure_bind, bind_assoc]
 exact (aH1 key).trans rfl
end
def zG {Γ : Ctx} {k : dS} {e : Env} {L : aB} {x y : Code} (M : AE) (vs : List (Nat × AH))
  (h1 : C Γ x ⟨fun e' L' => lK e' vs ∧ dU M e' e ∧ (∀ w, St Γ.w0 Γ.ms L' w → St Γ.w0 Γ.ms L w), k.R, k.X⟩ e L)
  (h2 : ∀ u, C Γ y k (mix M vs u e) L) : C Γ (.seq x y) k e L :=
 pJ (σ := Unit) M (fun _ => vs) (fun _ => L) (fun _ => True) (aJQ h1 (by rintro (_ | _ | j) e' L' h <;> first | exact ⟨(), trivial, h.1, h.2.1, h.2.2⟩ | exact h)) (fun _ u _ => h2 u)
def dU.keep {M M' : AE} {vs : List (Nat × AH)} {x e e0 : Env} (hs : (M'.all (fun t => M.any (Nat.beq t)) && vs.all (fun p => M.any (Nat.beq p.1))) = true) (h : dU M e e0) : dU M (VV.mix M' vs x e) e0 := by
 simp only [al, List.all_eq_true] at hs
 intro t ht
 unfold VV.mix
 cases hq : vs.find? (fun p => Nat.beq p.1 t) with
 | some p =>
  exfalso
  have h1 := io hq
  have h2 := hs.2 p h1
  have h3 : Nat.beq p.1 t = true := by have := List.find?_some hq; simpa using this
  rw [bi h3, ht] at h2
  cases h2
 | none =>
  cases hm : M'.any (Nat.beq t) with
  | false => exact h t ht
  | true =>
   exfalso
   obtain ⟨u, hu, hb⟩ := List.any_eq_true.1 hm
   have h2 := hs.1 u hu
   rw [← bi hb, ht] at h2
   cases h2
def qA {Γ : Ctx} {k : dS} {e : Env} {L : aB} {σ : Type} {c : Code} (M : AE) (vs : σ → List (Nat × AH)) (J : σ → Prop) (μ : σ → Nat) (s0 : σ)
  (h0 : J s0) (hv : lK e (vs s0))
  (round : ∀ s x, J s → C Γ c ⟨fun e' L' => ∃ s', J s' ∧ μ s' < μ s ∧ lK e' (vs s') ∧ dU M e' e ∧ (∀ w, St Γ.w0 Γ.ms L' w → St Γ.w0 Γ.ms L w), k.R, k.X⟩ (mix M (vs s) x e) L) :
  C Γ (.loop c) k e L := bG M vs (fun _ => L) J μ s0 h0 hv (fun _ h => h) round
def aID {P : AL} {e : Env} {f : Nat} {x : AK} {A B : Array AH} {l : AF} {ts : Array AJ} {d : AD} {t : AJ} {pos : String} {af : AG} {g : Option (Nat × Bool)}
  (hx : ev e x = .func (.func f) A B) (hc : cL P f = true) (w : AI) :
  (execOp (ev e) ⟨d, .call ⟨.value x, l.toArray, ts⟩, t, pos, af, g⟩).run P w = .ok (.enter f (A ++ (l.map (ev e)).toArray ++ B)) w := by
 unfold cL at hc
 split at hc
 ·rename_i fn hf
  simp only [al, dw] at hc
  obtain ⟨h1, h2⟩ := hc
  have hs : (program : Sem AL) = .program .pure := rfl
  have h3 : ¬ fn.name = "runtime.NumGoroutine" := by simpa using h1
  have h4 : ¬ fn.body = none := by
   intro hx; rw [hx] at h2; cases h2
  simp [execOp, resolve, Deferred.ofValue, hx, invoke, callFunc, bind, Sem.bind, Sem.run, hf, h3, h4, pure, hs]
 ·cases hc
section
variable {Γ : Ctx} {e : Env} {H F G : aB} {d : AD} {t : AJ} {pos : String} {af : AG} {g : Option (Nat × Bool)} {f : Nat} {x : AK} {l : AF} {ts : Array AJ}
def aEM {A B : AA} {vs : AA} (ms2 : AE) (hx : vnf (ev e x) = some (.func (.func f) A.toArray B.toArray)) (hc : cL Γ.P f = true) (hv : evs e l = some vs) {R : AH → aB → Prop}
  (hms : ∀ b ∈ ms2, ∃ o, (b, o) ∈ F) (hf : ∀ w, St Γ.w0 Γ.ms (F ++ G) w → aC Γ.P f (A ++ vs ++ B) w ms2 R) :
  Op1 Γ ⟨d, .call ⟨.value x, l.toArray, ts⟩, t, pos, af, g⟩ e (F ++ G) (fun v H2 => ∃ H', R v H' ∧ H2 = H' ++ G) := fun w hw => by
 refine zI (aID (aK hx) hc w) ?_
 have : A.toArray ++ (l.map (ev e)).toArray ++ B.toArray = (A ++ vs ++ B).toArray := by
  rw [sZ hv]
  simp
 rw [this]
 refine Calls.mono (hf w hw) ?_
 rintro ex w' ⟨v, H', rfl, h1, h2⟩
 exact ⟨v, rfl, _, hw.call hms h1, H', h2, rfl⟩
def aPx {A B : AA} {vs : AA} (hx : vnf (ev e x) = some (.func (.func f) A.toArray B.toArray)) (hc : cL Γ.P f = true) (hv : evs e l = some vs) {R : AH → aB → Prop}
  (hf : ∀ w, St Γ.w0 Γ.ms H w → aC Γ.P f (A ++ vs ++ B) w [] R) :
  Op1 Γ ⟨d, .call ⟨.value x, l.toArray, ts⟩, t, pos, af, g⟩ e H (fun v H2 => ∃ H', R v H' ∧ H2 = H' ++ H) := aEM (F := []) [] hx hc hv (by simp) hf
def aIN {A B : AA} {vs : AA} {u : AH} (hx : vnf (ev e x) = some (.func (.func f) A.toArray B.toArray)) (hc : cL Γ.P f = true) (hv : evs e l = some vs)
  (hf : ∀ w, St Γ.w0 Γ.ms H w → aC Γ.P f (A ++ vs ++ B) w [] (fun v H' => H' = [] ∧ v = u)) :
  Op1 Γ ⟨d, .call ⟨.value x, l.toArray, ts⟩, t, pos, af, g⟩ e H (fun v H' => v = u ∧ H' = H) := fun w hw => by
 refine iG (aPx hx hc hv hf w hw) ?_
 rintro v w' ⟨H', h1, H2, ⟨h2, h3⟩, h4⟩
 subst h2 h4
 exact ⟨_, h1, h3, rfl⟩
end
def St.lent {w : AI} {F : aB} (hn : (F.map (·.1)).Nodup) (hF : ∀ x ∈ F, w.heap[x.1]? = some x.2) : St w (F.map (·.1)) F w :=
 ⟨rfl, rfl, rfl, ax _, fun _ _ _ => rfl, hn, fun x hx => .inl (List.mem_map.2 ⟨x, hx, rfl⟩), hF⟩
def St.lent1 {w : AI} {b : Nat} {o : Obj} (h : w.heap[b]? = some o) : St w [b] [(b, o)] w := St.lent (F := [(b, o)]) (by simp) (by simpa using h)
section
variable {α : Type} {c : α → AA} {s : Nat}
def aE (c : α → AA) (l : List α) : AA := l.flatMap c
def kM (x : α) (l : List α) : aE c (x :: l) = c x ++ aE c l := rfl
def fJ (a b : List α) : aE c (a ++ b) = aE c a ++ aE c b := by simp [aE]
def bL (hc : ∀ x, (c x).length = s) (l : List α) : (aE c l).length = l.length * s := by
 induction l with
 | nil => simp [aE]
 | cons x l ih => rw [kM, d5, ih, hc, gk, i9, Nat.one_mul, gt]
def nO (X Y Z y : AA) (h : Y.length = y.length) : aP (X ++ (Y ++ Z)) X.length y = X ++ (y ++ Z) := by
 unfold aP
 have h1 : (X ++ (Y ++ Z)).take X.length = X := by simp
 have h2 : (X ++ (Y ++ Z)).drop (X.length + y.length) = Z := by
  rw [← h, ← bg]
  have : X.length + Y.length = (X ++ Y).length := by simp
  rw [this]; simp
 rw [h1, h2, bg]
def zD (hc : ∀ x, (c x).length = s) (A B : List α) (x y : α) (sp : AA) : aP (aE c (A ++ x :: B) ++ sp) (0 + A.length * s) (c y) = aE c (A ++ y :: B) ++ sp := by
 have := nO (aE c A) (c x) (aE c B ++ sp) (c y) (by rw [hc, hc])
 rw [bL hc] at this
 simpa [fJ, kM, bg] using this
def aHm (hc : ∀ x, (c x).length = s) (A B : List α) (x y z : α) (sp : AA) : aP (aE c ((A ++ [x]) ++ y :: B) ++ sp) (0 + (A ++ [x]).length * s) (c z) = aE c (A ++ x :: z :: B) ++ sp := by
 rw [zD hc (A ++ [x]) B y z sp, bg]; rfl
def aDj (hc : ∀ x, (c x).length = s) (A B : List α) (x y : α) (sp : AA) : 0 + A.length * s + (c y).length ≤ (aE c (A ++ x :: B) ++ sp).length := by
 rw [d5, fJ, kM, d5, d5, bL hc, hc, hc]; omega
def Row.elem {w : AI} {b off : Nat} {A B : List α} {x : α} {sp : AA} (hc : ∀ x, (c x).length = s) (h : Row w b off (aE c (A ++ x :: B) ++ sp)) : Row w b (off + A.length * s) (c x) := by
 intro j v hv
 have hj : j < (c x).length := by
  rcases dh j (c x).length with h1 | h1
  ·exact h1
  ·rw [da h1] at hv; cases hv
 have := h (A.length * s + j) v (by
  rw [fJ, kM, ← bL hc A, bg, d9 (Nat.le_add_right _ _), gc, bg, dp hj]
  exact hv)
 rw [dg]; exact this
def Row.elem2 {w : AI} {b off : Nat} {A B : List α} {x y : α} {sp : AA} (hc : ∀ x, (c x).length = s) (h : Row w b off (aE c ((A ++ [x]) ++ y :: B) ++ sp)) : Row w b (off + A.length * s) (c x) := by
 rw [bg] at h
 exact Row.elem hc h
def aCG {l : List α} (h : 0 < l.length) : ∃ A a, l = A ++ [a] := by
 have hn : l ≠ [] := by intro h0; subst h0; simp at h
 exact ⟨l.dropLast, l.getLast hn, (List.dropLast_concat_getLast hn).symm⟩
def wV {A : List α} {x : α} (h : A.length < 1000000000) : IntKind.i64.wrap (((A ++ [x]).length : Int) - 1) = (A.length : Int) := by
 rw [d5, aq, aI (by omega) (by omega)]; omega
def sK {l : List α} {j : Nat} (hj : j < l.length) : l = l.take j ++ l[j] :: l.drop (j + 1) := by
 rw [List.getElem_cons_drop, dj]
def Row.nth {w : AI} {b off : Nat} {l : List α} (hc : ∀ x, (c x).length = s) (h : Row w b off (aE c l)) {j : Nat} (hj : j < l.length) : Row w b (off + j * s) (c l[j]) := by
 have h' : Row w b off (aE c (l.take j ++ l[j] :: l.drop (j + 1)) ++ []) := by rw [← sK hj, bq]; exact h
 have := Row.elem hc h'
 rwa [ej, er (by omega)] at this
def Row.nth' {w : AI} {b off : Nat} {l : List α} {x : α} (hc : ∀ x, (c x).length = s) (h : Row w b off (aE c l)) {j : Nat} (hj : l[j]? = some x) : Row w b (off + j * s) (c x) := by
 obtain ⟨h1, h2⟩ := List.getElem?_eq_some_iff.1 hj
 have := Row.nth hc h h1
 rwa [h2] at this
def Row.left {w : AI} {b off : Nat} {l r : AA} (h : Row w b off (l ++ r)) : Row w b off l := fun j v hv => h j v (by
 have hj : j < l.length := by
  rcases dh j l.length with h1 | h1
  ·exact h1
  ·rw [da h1] at hv; cases hv
 rw [dp hj]; exact hv)
def Els (w : AI) (c : α → AA) (a : AC) (l : List α) : Prop := 0 < l.length → ∃ b off, a = some ⟨b, off, none⟩ ∧ Row w b off (aE c l)
def Els.nil (w : AI) (c : α → AA) (a : AC) : Els w c a [] := fun h => by simp at h
def Els.row {w : AI} {a : AC} {l : List α} (h : Els w c a l) {i : Nat} (hi : i < l.length) : ∃ b off, a = some ⟨b, off, none⟩ ∧ Row w b off (aE c l) := h (by omega)
def Els.later0 {w0 w : AI} {H : aB} {a : AC} {l : List α} (h : Els w0 c a l) (hw : St w0 [] H w) : Els w c a l := fun hl => by
 obtain ⟨b, off, ha, hr⟩ := h hl
 exact ⟨b, off, ha, aR hr (by simp) w hw⟩
def aFA (G : aB) (c : α → AA) (a : AC) (l : List α) : Prop :=
 0 < l.length → ∃ b off, a = some ⟨b, off, none⟩ ∧ ∀ w : AI, (∀ x ∈ G, w.heap[x.1]? = some x.2) → Row w b off (aE c l)
def aFA.els {G H : aB} {a : AC} {l : List α} {w0 w : AI} {ms : AE} (h : aFA G c a l) (hw : St w0 ms H w) (hs : ∀ x ∈ G, x ∈ H) : Els w c a l := fun hl => by
 obtain ⟨b, off, ha, hr⟩ := h hl
 exact ⟨b, off, ha, hr w fun x hx => hw.holds x (hs x hx)⟩
def Vec.gives {T n : Nat} {v : AH} {G : aB} {l : List α} (h : Vec T s v n (aE c l) G) (hc : ∀ x, (c x).length = s) (hs : 0 < s) : ∃ a cp, v = .slice a n cp ∧ l.length = n ∧ n ≤ cp ∧ aFA G c a l := by
 have hl := h.len
 rw [bL hc] at hl
 have hn : l.length = n := f4 hs hl
 generalize hx : aE c l = xs at h
 cases h with
 | nil => exact ⟨none, 0, rfl, hn, ax _, fun h0 => by omega⟩
 | row b _ cap _ sp h1 h2 h3 h4 =>
  refine ⟨_, cap, rfl, hn, h4, fun _ => ⟨b, 0, rfl, fun w hw => ?_⟩⟩
  have := Row.all (w := w) (b := b) (hw _ (.head _))
  rw [← hx] at this
  exact this.left
end
def jW {P : AL} {e : Env} {d : AD} {ty : AJ} {pos : String} {af : AG} {g : Option (Nat × Bool)} {t el n s : Nat} {parts : List (Nat × AK)} {ps : List (Nat × AH)} {l z : AA}
  (hu : uM P t = some (n, el, s)) (hz : mY P t = some z) (hp : vG e parts = some ps) (hf : xD (fun i => some (i * s, s)) z ps = some l) :
  bH P e ⟨d, .build t parts.toArray, ty, pos, af, g⟩ = some (.agg l.toArray) := by
 refine aX ?_ rfl
 obtain ⟨h1, h2⟩ := rH hu
 have hpp := uG hp
 have hfl := mS hf
 have hzz : ∀ {α : Type} (f : AH → Sem α), ∃ zv : AH, zv.cells = z.toArray ∧ bM P (zeroValue t >>= f) = bM P (f zv) := by
  intro α f
  unfold mY at hz
  split at hz
  ·rename_i i hi
   split at hz
   ·rename_i zv hzv
    refine ⟨zv, nW hz, ?_⟩
    simp [zeroValue, typeInfo, program, bind, Sem.bind, bM, hi, hzv, pure]
   ·cases hz
  ·cases hz
 simp only [execOp, Instr.build, bind_assoc]
 obtain ⟨zv, hzc, hzr⟩ := hzz (fun zero => underlying t >>= fun d => _)
 rw [hzr, bI h1]
 simp only [bind_assoc]
 rw [hY h2]
 have h9 : ((List.toArray parts).map fun (i, x) => (i, ev e x)).toList = ps := by simpa using hpp
 simp only [h9, hzc, hfl]
 rfl
def aKZ {Γ : Ctx} {e : Env} {H : aB} {d : AD} {ty : AJ} {pos : String} {af : AG} {g : Option (Nat × Bool)} {t el n : Nat} (hu : nL Γ.P t = some (el, n)) :
  Op1 Γ ⟨d, .buildSlice t 0 #[], ty, pos, af, g⟩ e H (fun u H' => ∃ b, u = .slice (some ⟨b, 0, none⟩) 0 0 ∧ H' = (b, blk [] el) :: H) := by
 intro w hw
 obtain ⟨h1, h2⟩ := iR hu
 refine cY (v := .slice (some ⟨w.heap.size, 0, none⟩) 0 0) (w' := w.alloc (blk [] el)) ?_ ⟨_, hw.alloc _, _, rfl, rfl⟩
 have h3 : ¬ (0 : Nat) > 2 ^ 24 := by decide
 have hq : (#[] : Array (Nat × AK)).map (fun x => (x.1, ev e x.2)) = #[] := by simp
 have hm : (Array.range 0).map (fun x => (#[] : Array AH)[x % (#[] : Array AH).size]!) = #[] := by simp
 have key : (Instr.buildSlice t 0 #[]).run Γ.P w = .ok (.slice (some ⟨w.heap.size, 0, none⟩) 0 0) (w.alloc (blk [] el)) := by
  unfold Instr.buildSlice
  simp only [ak, run_underlying h1, fM h2, ai, f8, if_true, if_neg h3, av, hm, Instr.fill]
  rfl
 simp only [execOp, hq, ak, key, ai, av]
def aGG {kd : AM} {l : AB} {k : Nat} (h : k < l.length) : (l.map (Value.int kd))[k]? = some (.int kd (l.getD k 0)) := by simp [h]
def eA {G : aB} {b : Nat} (h : b ∈ G.map (·.1)) : ∃ o, (b, o) ∈ G := by
 obtain ⟨⟨b', o⟩, h1, h2⟩ := List.mem_map.1 h
 exact ⟨o, by simp only at h2; subst h2; exact h1⟩
def xN {l vs : AA} (h : vs.length = l.length) : aP l 0 vs = vs := by
 unfold aP
 rw [gb, bw, az, h, List.drop_length, bq]
def jM {α : Type} {c : α → AA} (A : List α) (x : α) : aE c (A ++ [x]) = aE c A ++ c x := by simp [aE]
section
variable {kd : AM} {f : Nat → Int} {N k : Nat}
def kU (kd : AM) (f : Nat → Int) (N k : Nat) : AA := (List.range k).map (fun i => Value.int kd (f i)) ++ List.replicate (N - k) (.int kd 0)
def aC2 (kd : AM) (f : Nat → Int) (N : Nat) : List.replicate N (Value.int kd 0) = kU kd f N 0 := by simp [kU]
def xP (hk : k ≤ N) : (kU kd f N k).length = N := by simp [kU]; omega
def aKA (hk : k < N) : kU kd f N k = (List.range k).map (fun i => Value.int kd (f i)) ++ ([.int kd 0] ++ List.replicate (N - (k + 1)) (.int kd 0)) := by
 unfold kU
 have : N - k = (N - (k + 1)) + 1 := by omega
 rw [this, List.replicate_succ]; rfl
def wY (hk : k < N) (v : Int) (hv : v = f k) : aP (kU kd f N k) k [.int kd v] = kU kd f N (k + 1) := by
 have := nO ((List.range k).map (fun i => Value.int kd (f i))) [.int kd 0] (List.replicate (N - (k + 1)) (.int kd 0)) [.int kd v] rfl
 rw [i5, List.length_range] at this
 rw [aKA hk, this, hv]
 simp [kU, dq]
def aFD (kd : AM) (f : Nat → Int) (N : Nat) : kU kd f N N = (List.range N).map (fun i => Value.int kd (f i)) := by simp [kU]
def aDy (kd : AM) (f : Nat → Int) (N k : Nat) : fE (kU kd f N k) = true := by
 refine List.all_eq_true.2 fun x hx => ?_
 rcases List.mem_append.1 hx with h | h
 ·obtain ⟨i, _, rfl⟩ := List.mem_map.1 h; rfl
 ·obtain ⟨_, rfl⟩ := List.mem_replicate.1 h; rfl
def aG7 {l : AA} {u v : AH} {k : Nat} (hk : k < l.length) : aP (aP l k [u]) k [v] = aP l k [v] := by
 have h1 : l = l.take k ++ ([l[k]] ++ l.drop (k + 1)) := by simp
 have hlen : (l.take k).length = k := by rw [ej]; omega
 generalize l.take k = X at *
 generalize l.drop (k + 1) = Z at *
 generalize l[k] = y at *
 have e : ∀ a b : AH, aP (X ++ ([a] ++ Z)) k [b] = X ++ ([b] ++ Z) := fun a b => by
  have := nO X [a] Z [b] rfl
  rwa [hlen] at this
 rw [h1, e, e, e]
def kS {l vs : AA} {o : Nat} (h : o + vs.length ≤ l.length) : (aP l o vs).length = l.length := by
 simp only [aP, d5, ej, fx]; omega
end
def wD (P : AL) (t0 : AJ) (name : String) (f : Nat) : Prop := ∀ (v : AH) (w : AI), (method (P.types.size + Made.depth) t0 v name).run P w = .ok (f, v) w
def aKS {P : AL} {e : Env} {f : Nat} {x : AK} {t0 : AJ} {v : AH} {name : String} {l : AF} {ts : Array AJ} {d : AD} {t : AJ} {pos : String} {af : AG} {g : Option (Nat × Bool)}
  (hx : ev e x = .iface t0 v) (hm : wD P t0 name f) (hc : cL P f = true) (w : AI) :
  (execOp (ev e) ⟨d, .call ⟨.invoke x name, l.toArray, ts⟩, t, pos, af, g⟩).run P w = .ok (.enter f (#[v] ++ (l.map (ev e)).toArray)) w := by
 unfold cL at hc
 split at hc
 ·rename_i fn hf
  simp only [al, dw] at hc
  obtain ⟨h1, h2⟩ := hc
  have hs : (program : Sem AL) = .program .pure := rfl
  have h3 : ¬ fn.name = "runtime.NumGoroutine" := by simpa using h1
  have h4 : ¬ fn.body = none := by
   intro hx; rw [hx] at h2; cases h2
  have hp : ∀ w, (program : Sem AL).run P w = .ok P w := fun w => rfl
  have hcf : ∀ (args : Array AH) w, (callFunc f args).run P w = .ok (.enter f args) w := fun args w => by
   simp [callFunc, bind, Sem.bind, Sem.run, hf, h3, h4, pure, hs]
  simp only [execOp, resolve, ak, av, ai, invoke, callMethod, hx]
  simp [hm v w, hcf, hp, ak, ai]
  exact cw (by simp)
 ·cases hc
section
variable {Γ : Ctx} {e : Env} {H F G : aB} {d : AD} {t : AJ} {pos : String} {af : AG} {g : Option (Nat × Bool)} {f : Nat} {x : AK} {l : AF} {ts : Array AJ}
def aP2 {t0 : AJ} {v : AH} {name : String} {vs : AA} (ms2 : AE) (hx : ev e x = .iface t0 v) (hm : wD Γ.P t0 name f) (hc : cL Γ.P f = true) (hv : evs e l = some vs) {R : AH → aB → Prop}
  (hms : ∀ b ∈ ms2, ∃ o, (b, o) ∈ F) (hf : ∀ w, St Γ.w0 Γ.ms (F ++ G) w → aC Γ.P f (v :: vs) w ms2 R) :
  Op1 Γ ⟨d, .call ⟨.invoke x name, l.toArray, ts⟩, t, pos, af, g⟩ e (F ++ G) (fun v H2 => ∃ H', R v H' ∧ H2 = H' ++ G) := fun w hw => by
 refine zI (aKS hx hm hc w) ?_
 have : #[v] ++ (l.map (ev e)).toArray = (v :: vs).toArray := by
  rw [sZ hv]
  simp
 rw [this]
 refine Calls.mono (hf w hw) ?_
 rintro ex w' ⟨v, H', rfl, h1, h2⟩
 exact ⟨v, rfl, _, hw.call hms h1, H', h2, rfl⟩
def fT {A : aB} {t0 : AJ} {v : AH} {name : String} {vs : AA} (hx : ev e x = .iface t0 v) (hm : wD Γ.P t0 name f) (hc : cL Γ.P f = true) (hv : evs e l = some vs) {R : AH → aB → Prop}
  (hf : ∀ w, St Γ.w0 Γ.ms (A ++ F) w → aC Γ.P f (v :: vs) w (A.map (·.1)) R) :
  Op1 Γ ⟨d, .call ⟨.invoke x name, l.toArray, ts⟩, t, pos, af, g⟩ e (F ++ A) (fun v H2 => ∃ H', R v H' ∧ H2 = F ++ H') := fun w hw => by
 refine iG (aP2 (F := A) (G := F) (A.map (·.1)) hx hm hc hv (fun _ hb => eA hb) hf w (hw.perm au)) ?_
 rintro v w' ⟨H2, h2, H', hR, rfl⟩
 exact ⟨F ++ H', h2.perm au, H', hR, rfl⟩
def aS {A : aB} {vs : AA} (hc : cL Γ.P f = true) (hv : evs e l = some vs) {R : AH → aB → Prop}
  (hf : ∀ w, St Γ.w0 Γ.ms (A ++ F) w → aC Γ.P f vs w (A.map (·.1)) R) :
  Op1 Γ ⟨d, .call ⟨.value (.func f), l.toArray, ts⟩, t, pos, af, g⟩ e (F ++ A) (fun v H2 => ∃ H', R v H' ∧ H2 = F ++ H') := fun w hw => by
 refine iG (dY (A := A) (G := F) (A.map (·.1)) hc hv (fun _ hb => eA hb) hf w (hw.perm au)) ?_
 rintro v w' ⟨H2, h2, H', hR, rfl⟩
 exact ⟨F ++ H', h2.perm au, H', hR, rfl⟩
def aAM {A : aB} {B C vs : AA} (hx : vnf (ev e x) = some (.func (.func f) B.toArray C.toArray)) (hc : cL Γ.P f = true) (hv : evs e l = some vs) {R : AH → aB → Prop}
  (hf : ∀ w, St Γ.w0 Γ.ms (A ++ F) w → aC Γ.P f (B ++ vs ++ C) w (A.map (·.1)) R) :
  Op1 Γ ⟨d, .call ⟨.value x, l.toArray, ts⟩, t, pos, af, g⟩ e (F ++ A) (fun v H2 => ∃ H', R v H' ∧ H2 = F ++ H') := fun w hw => by
 refine iG (aEM (F := A) (G := F) (A.map (·.1)) hx hc hv (fun _ hb => eA hb) hf w (hw.perm au)) ?_
 rintro v w' ⟨H2, h2, H', hR, rfl⟩
 exact ⟨F ++ H', h2.perm au, H', hR, rfl⟩
end
section
variable {P : AL} {e : Env} {H : aB}
def vE {a b c d : Nat} {T U : AJ} {l m : AA} {w : AI} (h : vnf (e a) = some (.pointer (some ⟨b, 0, none⟩))) (hs : oC P T = true) (hn : fH P T = some l.length) (hr : Row w b 0 l)
  (h2 : vnf (e c) = some (.pointer (some ⟨d, 0, none⟩))) (hs2 : oC P U = true) (hn2 : fH P U = some m.length) (hr2 : Row w d 0 m) :
  jY P [.cell a T, .cell c U] e w (.tuple #[.agg l.toArray, .agg m.toArray]) := by
 have h := aK h
 have hl := run_loadCells_list (P := P) w ⟨b, 0, none⟩ l hr.add
 have h2 := aK h2
 have hl2 := run_loadCells_list (P := P) w ⟨d, 0, none⟩ m hr2.add
 simp [jY, qH, h, h2, asAddr, loadVar, ak, lE hs, fM hn, lE hs2, fM hn2, hl, hl2]
end
def aKx {w0 : AI} {ms : AE} (A : aB) {x : Nat × Obj} {R : aB} : ∀ w, St w0 ms (x :: (A ++ R)) w → St w0 ms (A ++ x :: R) w := fun _ hw => hw.perm List.perm_middle.symm
end Go.VV
namespace Go.VV
open Go Go.ChangeShapes Go.WideShapes Go.ChangeAt Go.RowKit
def aLj {W W' : AI} {H : aB} (h : St W [] H W') : Below W.heap.size W W' :=
 ⟨h.os, h.tape, h.output, h.size, fun k hk => h.block k hk (by simp)⟩
section
variable {H : Type} {enc : AJ × AH → H} {P : AL} {W : AI}
def xZ (hl : laidOutB P = true) {W' : AI} (bel : Below W.heap.size W W') : ∀ {ts : List AJ} {vs : AA} {ds : List (DataW H)} {p : List MemPlace},
  (ts.all fun t => P.readableRec t && decide (t < P.types.size)) = true → DataW.TrodAll enc P W 0 (fun _ => true) true ts vs ds p →
  DataW.TrodAll enc P W' 0 (fun b => decide (b < W.heap.size)) true ts vs ds p
 | [], vs, ds, p, _, h => by
  obtain ⟨rfl, rfl, rfl⟩ := trodAll_nil h
  exact trodAll_mk0
 | t :: ts, vs, ds, p, hr, h => by
  simp only [ij, al, decide_eq_true_eq] at hr
  obtain ⟨v, vs', d, ds', p1, q, rfl, rfl, rfl, h1, h2⟩ := trodAll_cons h
  have hlt : ∀ x ∈ p1, x.block < W.heap.size := by obtain ⟨m, hm⟩ := h1; exact DataW.trod_lt m _ _ _ hm
  exact trodAll_cons_mk (Below.trod hl hr.1.1 hr.1.2 h1 bel hlt) (xZ hl bel hr.2 h2)
def aLo {r : Reach} {b0 : Nat} {t e : AJ} {k : AM} {v : AH} {d : DataW H} {p : List MemPlace} (ht : P.underlying t = some (.slice e)) (he : P.underlying e = some (.int k)) (hc : P.cellsOf e = 1)
  (hv : Value.okWide P W r b0 t v) (h : DataW.Trod enc P W 0 (fun _ => true) true t v d p) :
  ∃ (a : AC) (c : Nat) (l : AB), v = .slice a l.length c ∧ l.length ≤ c ∧ l.length ≤ maxLen ∧ (∀ x ∈ l, (Lit.int k x).wf = true) ∧ Ns W k a l := by
 obtain ⟨a, len, cap, rfl⟩ := okWide_slice ht hv
 obtain ⟨fuel, hf⟩ := h
 rcases open_ints ht he hc hf with ⟨hcs, _⟩ | ⟨x, l, c, zs, hcs, _, hl, hm, hz, _, hcell, hwz⟩
 ·simp [Value.cells] at hcs
  obtain ⟨rfl, rfl, rfl⟩ := hcs
  exact ⟨none, 0, [], rfl, ax _, aj _, by simp, Ns.nil _ _ _⟩
 ·simp [Value.cells] at hcs
  obtain ⟨rfl, rfl, rfl⟩ := hcs
  have hz' : zs.length = cap := by simpa using hz
  have hlen : (zs.take len).length = len := by rw [ej]; omega
  refine ⟨some x, cap, zs.take len, by rw [hlen], by omega, by omega, fun y hy => hwz y (du hy), fun h0 => ?_⟩
  obtain ⟨b, off, spot⟩ := x
  have h1 := hcell 0 (by omega)
  have hspot : spot = none := by simpa [Addr.add] using World.cell?_spot h1
  subst hspot
  refine ⟨b, off, rfl, fun j v hv => ?_⟩
  rw [bz] at hv
  rw [dz] at hv
  split at hv
  ·have hj : j < zs.length := by omega
   have := hcell j hj
   have hadd : (⟨b, off, none⟩ : Addr).add j = ⟨b, off + j, none⟩ := by unfold Addr.add; split <;> simp_all
   rw [hadd] at this
   rw [am hj] at hv
   simp only [go, Option.some.injEq] at hv
   subst hv
   simpa [co, hj] using this
  ·cases hv
def aNw {x : Int} (h : (Lit.int .u8 x).wf = true) : 0 ≤ x ∧ x < 256 := by
 simp only [Lit.wf, al, decide_eq_true_eq] at h
 have h1 : IntKind.u8.min = 0 := by decide
 have h2 : IntKind.u8.max = 255 := by decide
 omega
def aPi {l : AB} (h : ∀ x ∈ l, (Lit.int .u8 x).wf = true) : aY l := fun x hx => aNw (h x hx)
end
end Go.VV
namespace Go.VV
open Go
def St.put {w0 w : AI} {ms : AE} {b : Nat} {o : Obj} {R : aB} (h : St w0 ms ((b, o) :: R) w) (o' : Obj) : St w0 ms ((b, o') :: R) (w.putObj b o') :=
 h.turn rfl rfl rfl (by simp) (fun _ hk => World.putObj_heap_other hk) (World.putObj_heap_same (h.lt (x := (b, o)) (.head _)))
def pK : AE → AA → Env → Env
 | p :: ps, v :: vs, e => pK ps vs (e.set p v)
 | _, _, e => e
structure vU (n : Nat) (e0 : Env) (ps : AE) (assign body : Code) (rec : Loop) : Prop where
 ready : rec.state = .ready
 calm : rec.pending = none
 params : rec.params = ps.toArray
 assign : rec.assign = assign
 body : rec.body = body
 rep : Rep n [] e0 { tmps := rec.tmps, defers := [] }
abbrev inR (Γ : Ctx) (n lb : Nat) : Ctx := ⟨Γ.P, n, Γ.w0, Γ.ms, some lb, []⟩
abbrev busy (rec : Loop) : Loop := { rec with state := .busy }
def aRr (Γ : Ctx) (lb : Nat) (rec : Loop) (K : AH → aB → Prop) (c : Code) (_ : Env) (H2 : aB) : Prop :=
 ∃ G2, (∀ w, St Γ.w0 Γ.ms H2 w → St Γ.w0 Γ.ms ((lb, .loop (busy rec)) :: G2) w) ∧ K (.bool false) ((lb, .loop { rec with state := .done, pending := some c }) :: G2)
def aDI (Γ : Ctx) (n lb : Nat) (rec : Loop) (ps : AE) (assign body : Code) (vs : AA) (e0 : Env) (H : aB) (K : AH → aB → Prop) (js : AE := []) : Prop :=
 C (inR Γ n lb) assign ⟨fun e1 H1 => ∃ G1, (∀ w, St Γ.w0 Γ.ms H1 w → St Γ.w0 Γ.ms ((lb, .loop rec) :: G1) w) ∧
   C (inR Γ n lb) body ⟨fun _ H2 => ∃ G2, (∀ w, St Γ.w0 Γ.ms H2 w → St Γ.w0 Γ.ms ((lb, .loop (busy rec)) :: G2) w) ∧ K (.bool true) ((lb, .loop rec) :: G2),
    aRr Γ lb rec K .ret, js.map fun j => (2 * j, aRr Γ lb rec K (.exit j))⟩ e1 ((lb, .loop (busy rec)) :: G1),
  fun _ _ => False, []⟩ (pK ps vs e0) H
def aA3 {f : Nat → Env → aB → Prop} : ∀ {js : AE} {i : Nat} {K : Env → aB → Prop}, lS (js.map fun j => (2 * j, f j)) i = some K → ∃ j, i = 2 * j ∧ K = f j
 | j :: js, i, K, h => by
  by_cases hi : 2 * j = i
  ·subst hi
   rw [be, uZ] at h
   exact ⟨j, rfl, (ae h).symm⟩
  ·rw [be, mG hi] at h
   exact aA3 h
def aB2 {n : Nat} : ∀ {ps : AE} {vs : AA} {e : Env} {tmps : Array AH}, ps.all (fun p => Nat.blt p n) = true → Rep n [] e { tmps := tmps, defers := [] } →
  Rep n [] (pK ps vs e) { tmps := (ps.zip vs).foldl (fun tmps (t, a) => tmps.setIfInBounds t a) tmps, defers := [] }
 | [], _, _, _, _, h => by simpa [pK] using h
 | _ :: _, [], _, _, _, h => by simpa [pK] using h
 | p :: ps, v :: vs, e, tmps, hp, h => by
  simp only [ij, al] at hp
  simp only [pK, List.zip_cons_cons, f6]
  exact aB2 hp.2 (h.put (d := some p) (by simpa [cJ] using hp.1) v)
def aLc {Γ : Ctx} {n lb : Nat} {rec : Loop} {ps : AE} {assign body : Code} {vs : AA} {e0 : Env} {H : aB} {K : AH → aB → Prop} {r : AD}
  (hl : vU n e0 ps assign body rec) (hp : ps.all (fun p => Nat.blt p n) = true) {js : AE} (h : aDI Γ n lb rec ps assign body vs e0 H K js) {w : AI} (hw : St Γ.w0 Γ.ms H w) :
  RoundIn (Fr r) 0 Γ.P lb rec.fn ((rec.params.zip vs.toArray).foldl (fun tmps (t, a) => tmps.setIfInBounds t a) rec.tmps) rec.assign rec.body w
   (fun ex w' => ∃ v H', ex = .returned v ∧ St Γ.w0 Γ.ms H' w' ∧ K v H') := by
 refine roundIn_of_wpIn (F := Fr r) trivial ?_
 have hrep := aB2 (vs := vs) hp hl.rep
 have hz : (rec.params.zip vs.toArray).foldl (fun tmps (t, a) => tmps.setIfInBounds t a) rec.tmps = (ps.zip vs).foldl (fun tmps (t, a) => tmps.setIfInBounds t a) rec.tmps := by
  rw [hl.params, List.zip_toArray, List.foldl_toArray]
 rw [hz, hl.assign, hl.body]
 refine wpIn_mono (h _ w hrep hw) ?_
 rintro ex a1 w1 ⟨e1, H1, ha1, hw1, h1⟩
 cases ex <;> simp only [dS.at, Exit.then, lS] at h1 ⊢
 case normal =>
  obtain ⟨G1, hG1, hb⟩ := h1
  have hw1 := hG1 _ hw1
  refine ⟨_, run_beginRound (hw1.holds (lb, _) (.head _)) hl.ready, ?_⟩
  refine wpIn_mono (hb a1 _ ha1 (hw1.put _)) ?_
  rintro ex a2 w2 ⟨e2, H2, _, hw2, h2⟩
  cases ex <;> simp only [dS.at, roundPost] at h2 ⊢
  case exit j =>
   split at h2
   ·rename_i K' hK
    obtain ⟨j', hj, rfl⟩ := aA3 hK
    obtain rfl : j = j' := by omega
    obtain ⟨G2, hG2, hk⟩ := h2
    have hw2 := hG2 _ hw2
    exact ⟨_, _, run_endRound (some (.exit j)) (hw2.holds (lb, _) (.head _)), _, _, rfl, hw2.put _, hk⟩
   ·exact h2.elim
  case goto l =>
   split at h2
   ·rename_i K' hK
    obtain ⟨j', hj, rfl⟩ := aA3 hK
    omega
   ·exact h2.elim
  case normal =>
   obtain ⟨G2, hG2, hk⟩ := h2
   have hw2 := hG2 _ hw2
   refine ⟨_, _, run_endRound none (hw2.holds (lb, _) (.head _)), ?_⟩
   refine ⟨_, _, rfl, hw2.put _, ?_⟩
   have : ({ busy rec with state := if (none : Option Code).isNone = true then LoopState.ready else LoopState.done, pending := none } : Loop) = rec := by
    have h1 := hl.ready
    have h2 := hl.calm
    cases rec
    simp only at h1 h2
    simp [h1, h2]
   rw [this]
   exact hk
  case ret =>
   obtain ⟨G2, hG2, hk⟩ := h2
   have hw2 := hG2 _ hw2
   refine ⟨_, _, run_endRound (some .ret) (hw2.holds (lb, _) (.head _)), ?_⟩
   exact ⟨_, _, rfl, hw2.put _, hk⟩
section
variable {Γ : Ctx} {k : dS} {e : Env} {H G : aB} {ops rest : List Oper} {d : AD} {t : AJ} {pos : String} {af : AG} {g : Option (Nat × Bool)}
def aPC {n lb : Nat} {rec : Loop} {ps : AE} {assign body : Code} {vs : AA} {e0 : Env} {K : AH → aB → Prop} {x : AK} {l : AF} {ts : Array AJ}
  (hx : vnf (ev e x) = some (.func (.yield lb) #[] #[])) (hv : evs e l = some vs) (hg : gdB ops e ⟨d, .call ⟨.value x, l.toArray, ts⟩, t, pos, af, g⟩ = true) (hd : cJ Γ.n d = true)
  (hn : Nat.beq ps.length vs.length = true) (hp : ps.all (fun p => Nat.blt p n) = true) (hm : (lb, .loop rec) ∈ H)
  (hl : vU n e0 ps assign body rec) {js : AE} (hR : aDI Γ n lb rec ps assign body vs e0 H K js)
  (hk : ∀ v H', K v H' → L1 Γ ops rest k (e.put d v) H') : L1 Γ ops (⟨d, .call ⟨.value x, l.toArray, ts⟩, t, pos, af, g⟩ :: rest) k e H := by
 intro a w ha hw
 unfold wpListIn
 rw [tD ha, if_pos hg]
 refine ⟨fun _ _ => trivial, ?_⟩
 rw [Oper.semAt_eq _ _ _ (fun c => by simp), ha.eval]
 have hx := aK hx
 have hsz : (vs.toArray).size = rec.params.size := by rw [hl.params]; simp; exact (bi hn).symm
 have hmap : (List.toArray l).map (ev e) = vs.toArray := by rw [← sZ hv]; simp
 have hrun : (execOp (ev e) ⟨d, .call ⟨.value x, l.toArray, ts⟩, t, pos, af, g⟩).run Γ.P w =
   .ok (.round lb rec.fn ((rec.params.zip vs.toArray).foldl (fun tmps (t, a) => tmps.setIfInBounds t a) rec.tmps) rec.assign rec.body) w := by
  have hy := run_yield (P := Γ.P) (w := w) (r := rec) (args := vs.toArray) (hw.holds _ hm) hsz
  simp only [execOp, resolve, hmap, hx, Deferred.ofValue, invoke, pure_bind, Array.empty_append]
  exact hy
 rw [hrun]
 refine ⟨fun h => (by cases h), RoundIn.mono (aLc hl hp hR hw) ?_⟩
 rintro ex w' ⟨v, H', rfl, hw', hK⟩
 exact hk v H' hK _ _ (ha.put hd v) hw'
end
def T (Γ : Ctx) (fn : Func) (R : AH → aB → Prop) (c : Code) (e : Env) (H : aB) : Prop :=
 ∀ a w, Rep Γ.n Γ.D e a → St Γ.w0 Γ.ms H w → c.wpIn (Fr Γ.r) 0 Γ.P (bodyPostM (Fr none) 0 Γ.P fn (fun ex w' => ∃ v H, ex = .returned v ∧ St Γ.w0 Γ.ms H w' ∧ R v H)) a w
def T2 (Γ : Ctx) (fn : Func) (R : AH → aB → Prop) (y z : Code) (e : Env) (H : aB) : Prop :=
 ∀ a w, Rep Γ.n Γ.D e a → St Γ.w0 Γ.ms H w →
  y.wpIn (Fr Γ.r) 0 Γ.P (Exit.then (z.wpIn (Fr Γ.r) 0 Γ.P (bodyPostM (Fr none) 0 Γ.P fn (fun ex w' => ∃ v H, ex = .returned v ∧ St Γ.w0 Γ.ms H w' ∧ R v H)))
   (bodyPostM (Fr none) 0 Γ.P fn (fun ex w' => ∃ v H, ex = .returned v ∧ St Γ.w0 Γ.ms H w' ∧ R v H))) a w
def aKW {P : AL} {f : Nat} {fn : Func} {c : Code} {args : AA} {w : AI} {ms : AE} {R : AH → aB → Prop} {n : Nat} {H : aB}
  (hf : P.funcs[f]? = some fn) (hb : fn.body = some c) (hn : fn.ntmps = n) (hl : Nat.ble args.length n = true) (hH : St w ms H w)
  (h : T ⟨P, n, w, ms, none, []⟩ fn R c (aCu args) H) : aC P f args w ms R := by
 subst hn
 have hl' : args.length ≤ fn.ntmps := ag hl
 exact (callsIn_wide (n := 0)).1 (callsIn_of_wp_marks hf hb trivial (h _ w (aEA hl') hH))
section
variable {Γ : Ctx} {fn : Func} {R : AH → aB → Prop} {e : Env} {H : aB}
def aDo (hD : Γ.D = []) {ex : Exit} {a : Act} {w : AI} {e : Env} {H : aB} (hex : ex = .normal ∨ ex = .ret) (ha : Rep Γ.n Γ.D e a) (hw : St Γ.w0 Γ.ms H w) (h : nE Γ fn.results.toList R e H) :
  bodyPostM (Fr none) 0 Γ.P fn (fun ex w' => ∃ v H, ex = .returned v ∧ St Γ.w0 Γ.ms H w' ∧ R v H) ex a w := by
 obtain ⟨v, H', g1, g2, g3⟩ := h w hw
 have hd : a.defers = [] := by rw [ha.defers, hD]
 have key : LeavesInM (Fr none) 0 Γ.P fn a.tmps (fun ex w' => ∃ v H, ex = .returned v ∧ St Γ.w0 Γ.ms H w' ∧ R v H) a.defers .returning w := by
  rw [hd]
  exact ⟨v, by rw [wW ha]; exact g1, v, H', rfl, g2, g3⟩
 rcases hex with rfl | rfl <;> exact key
def aDZ {x y : Code} (hD : Γ.D = []) (h : C Γ x ⟨fun e L => T Γ fn R y e L, nE Γ fn.results.toList R, []⟩ e H) : T Γ fn R (.seq x y) e H := by
 intro a w ha hw
 refine wpIn_seq (wpIn_mono (h a w ha hw) ?_)
 rintro ex a' w' ⟨e', L', h1, h2, h3⟩
 cases ex <;> simp only [dS.at, Exit.then, lS] at h3 ⊢
 case normal => exact h3 a' w' h1 h2
 case ret => exact aDo hD (.inr rfl) h1 h2 h3
def aQo {x y z : Code} (hD : Γ.D = []) (h : C Γ x ⟨fun e L => T2 Γ fn R y z e L, nE Γ fn.results.toList R, []⟩ e H) : T Γ fn R (.seq (.seq x y) z) e H := by
 intro a w ha hw
 refine wpIn_seq (wpIn_seq (wpIn_mono (h a w ha hw) ?_))
 rintro ex a' w' ⟨e', L', h1, h2, h3⟩
 cases ex <;> simp only [dS.at, Exit.then, lS] at h3 ⊢
 case normal => exact h3 a' w' h1 h2
 case ret => exact aDo hD (.inr rfl) h1 h2 h3
def aQN {c : Code} {D0 : Nat} (hD : Γ.D = [{ target := .collected D0, args := #[] }])
  (h : C Γ c ⟨fun e H => ∃ G, (∀ w, St Γ.w0 Γ.ms H w → St Γ.w0 Γ.ms ((D0, .deferred (some [])) :: G) w) ∧ nE Γ fn.results.toList R e G,
   fun e H => ∃ G, (∀ w, St Γ.w0 Γ.ms H w → St Γ.w0 Γ.ms ((D0, .deferred (some [])) :: G) w) ∧ nE Γ fn.results.toList R e G, []⟩ e H) : T Γ fn R c e H := by
 intro a w ha hw
 refine wpIn_mono (h a w ha hw) ?_
 have key : ∀ (e' : Env) (a' : Act) (w' : AI) (L' : aB), Rep Γ.n Γ.D e' a' → St Γ.w0 Γ.ms L' w' →
   (∃ G, (∀ w, St Γ.w0 Γ.ms L' w → St Γ.w0 Γ.ms ((D0, .deferred (some [])) :: G) w) ∧ nE Γ fn.results.toList R e' G) →
   LeavesInM (Fr none) 0 Γ.P fn a'.tmps (fun ex w' => ∃ v H, ex = .returned v ∧ St Γ.w0 Γ.ms H w' ∧ R v H) a'.defers .returning w' := by
  rintro e' a' w' L' h1 h2 ⟨G, hG, hE⟩
  have hw2 := hG _ h2
  have hd : a'.defers = [{ target := .collected D0, args := #[] }] := by rw [h1.defers, hD]
  rw [hd]
  have hw3 : St Γ.w0 Γ.ms G (w'.putObj D0 (.deferred none)) := (hw2.put (.deferred none)).sub (ce _ _)
  obtain ⟨v, H', g1, g2, g3⟩ := hE _ hw3
  refine ⟨by simp, .inl ⟨D0, _, rfl, run_takeDeferred (hw2.holds (D0, _) (.head _)), ?_⟩⟩
  exact ⟨v, by rw [wW h1]; exact g1, v, H', rfl, g2, g3⟩
 rintro ex a' w' ⟨e', L', h1, h2, h3⟩
 cases ex <;> simp only [dS.at, lS] at h3 ⊢
 case normal => exact key e' a' w' L' h1 h2 h3
 case ret => exact key e' a' w' L' h1 h2 h3
def aLZ {id : Nat} {x : AK} {ps : AE} {assign body z : Code} {f : Nat} {A B : AA} (hr : Γ.r = none) (hD : Γ.D = [])
  (hx : vnf (ev e x) = some (.func (.func f) A.toArray B.toArray)) (hc : cL Γ.P f = true)
  (h : ∀ (w : AI) (D0 lb : Nat) (rec : Loop), D0 = w.heap.size → lb = D0 + 1 → vU Γ.n e ps assign body rec →
   ∀ w2, St Γ.w0 Γ.ms ((lb, .loop rec) :: (D0, .deferred (some [])) :: H) w2 → ∃ F G ms2 R2,
    (∀ w, St Γ.w0 Γ.ms ((lb, .loop rec) :: (D0, .deferred (some [])) :: H) w → St Γ.w0 Γ.ms (F ++ G) w) ∧ (∀ b ∈ ms2, ∃ o, (b, o) ∈ F) ∧
    aC Γ.P f (A ++ .func (.yield lb) #[] #[] :: B) w2 ms2 R2 ∧
    ∀ v H', R2 v H' → ∃ rec' G2, (∀ w, St Γ.w0 Γ.ms (H' ++ G) w → St Γ.w0 Γ.ms ((lb, .loop rec') :: G2) w) ∧ rec'.state ≠ .busy ∧ (rec'.pending = none ∨ rec'.pending = some (.exit id)) ∧
     T ⟨Γ.P, Γ.n, Γ.w0, Γ.ms, none, [{ target := .collected D0, args := #[] }]⟩ fn R z e ((lb, .loop { rec' with state := .exhausted }) :: G2)) :
  T2 Γ fn R (.block id (.rangeFunc x ps.toArray assign body)) z e H := by
 obtain ⟨P, n, w0, ms, r, D⟩ := Γ
 simp only at hr hD
 subst hr hD
 intro a w ha hw
 refine wpIn_block ?_
 refine wpIn_rangeFunc fun fno _ => ?_
 have he := run_enterLoop_outer (P := P) (w := w) fno a.tmps ps.toArray assign body
 have hw2 : St w0 ms ((w.heap.size + 1, .loop { state := .ready, pending := none, fn := fno, tmps := a.tmps, params := ps.toArray, assign, body, defers := w.heap.size }) :: (w.heap.size, .deferred (some [])) :: H)
   ((w.alloc (.deferred (some []))).alloc (.loop { state := .ready, pending := none, fn := fno, tmps := a.tmps, params := ps.toArray, assign, body, defers := w.heap.size })) := by
  have h1 := (hw.alloc (.deferred (some []))).alloc (.loop { state := .ready, pending := none, fn := fno, tmps := a.tmps, params := ps.toArray, assign, body, defers := w.heap.size })
  simpa using h1
 have hda : a.defers = [] := by rw [ha.defers]
 have hlo : vU n e ps assign body { state := .ready, pending := none, fn := fno, tmps := a.tmps, params := ps.toArray, assign, body, defers := w.heap.size } :=
  ⟨rfl, rfl, rfl, rfl, rfl, ⟨rfl, ha.size, ha.look⟩⟩
 obtain ⟨F, G, ms2, R2, hFG, hms, hdo, hrest⟩ := h w _ _ _ rfl rfl hlo _ hw2
 have hx := aK hx
 have hcall : (invoke (.fn (.func f) B.toArray) (A.toArray ++ #[.func (.yield (w.heap.size + 1)) #[] #[]])).run P
   ((w.alloc (.deferred (some []))).alloc (.loop { state := .ready, pending := none, fn := fno, tmps := a.tmps, params := ps.toArray, assign, body, defers := w.heap.size })) =
   .ok (.enter f (A ++ .func (.yield (w.heap.size + 1)) #[] #[] :: B).toArray) ((w.alloc (.deferred (some []))).alloc (.loop { state := .ready, pending := none, fn := fno, tmps := a.tmps, params := ps.toArray, assign, body, defers := w.heap.size })) := by
  unfold cL at hc
  split at hc
  ·rename_i fn' hf
   simp only [al, dw] at hc
   obtain ⟨h1, h2⟩ := hc
   have hs : (program : Sem AL) = .program .pure := rfl
   have h3 : ¬ fn'.name = "runtime.NumGoroutine" := by simpa using h1
   have h4 : ¬ fn'.body = none := by
    intro hx; rw [hx] at h2; cases h2
   simp [invoke, callFunc, bind, Sem.bind, Sem.run, hf, h3, h4, pure, hs]
  ·cases hc
 have hev : a.eval x = .func (.func f) A.toArray B.toArray := by rw [ha.eval]; exact hx
 refine ⟨w.heap.size + 1, _, _, { target := .fn (.func f) B.toArray, args := A.toArray ++ #[.func (.yield (w.heap.size + 1)) #[] #[]] }, _, f, _, _, he, ?_, fun _ _ => trivial, hcall, fun h => (by cases h), aBe (Calls.mono hdo ?_)⟩
 ·have hk : a.eval (.const (.func (.yield (w.heap.size + 1)) #[] #[])) = .func (.yield (w.heap.size + 1)) #[] #[] := by rw [ha.eval]; rfl
  simp only [resolve, hev, hk, Deferred.ofValue, cj, be, ct, av]
 ·rintro ex w3 ⟨v, H', rfl, hw3, hR2⟩
  obtain ⟨rec', G2, hG2, hb, hpn, hT⟩ := hrest v H' hR2
  have hw4 := hG2 _ ((hFG _ hw2).call hms hw3)
  refine ⟨rec'.pending, w3.putObj (w.heap.size + 1) (.loop { rec' with state := .exhausted }), ?_, ?_⟩
  ·exact run_endLoop (P := P) (hw4.holds (w.heap.size + 1, _) (.head _)) hb
  ·have hw5 := hw4.put (.loop { rec' with state := .exhausted })
   generalize w3.putObj (w.heap.size + 1) (.loop { rec' with state := .exhausted }) = w5 at hw5 ⊢
   rcases hpn with hpn | hpn <;> rw [hpn]
   ·simp only [Exit.inBlock, Exit.then]
    refine hT _ _ ⟨?_, ha.size, ha.look⟩ hw5
    simp [hda]
   ·refine wpIn_exit ?_
    simp only [Exit.inBlock, if_pos, Exit.then]
    refine hT _ _ ⟨?_, ha.size, ha.look⟩ hw5
    simp [hda]
def aOE {id : Nat} {x : AK} {ps : AE} {assign body z : Code} {f : Nat} {A B : AA} (hr : Γ.r = none) (hD : Γ.D = [])
  (hx : vnf (ev e x) = some (.func (.func f) A.toArray B.toArray)) (hc : cL Γ.P f = true)
  (h : ∀ (w : AI) (D0 lb : Nat) (rec : Loop), D0 = w.heap.size → lb = D0 + 1 → vU Γ.n e ps assign body rec →
   ∀ w2, St Γ.w0 Γ.ms ((lb, .loop rec) :: (D0, .deferred (some [])) :: H) w2 → ∃ F G ms2 R2,
    (∀ w, St Γ.w0 Γ.ms ((lb, .loop rec) :: (D0, .deferred (some [])) :: H) w → St Γ.w0 Γ.ms (F ++ G) w) ∧ (∀ b ∈ ms2, ∃ o, (b, o) ∈ F) ∧
    aC Γ.P f (A ++ .func (.yield lb) #[] #[] :: B) w2 ms2 R2 ∧
    ∀ v H', R2 v H' → ∃ rec' G2, (∀ w, St Γ.w0 Γ.ms (H' ++ G) w → St Γ.w0 Γ.ms ((lb, .loop rec') :: G2) w) ∧ rec'.state ≠ .busy ∧ rec'.pending = none ∧
     T ⟨Γ.P, Γ.n, Γ.w0, Γ.ms, none, [{ target := .collected D0, args := #[] }]⟩ fn R z e ((lb, .loop { rec' with state := .exhausted }) :: G2)) :
  T2 Γ fn R (.block id (.rangeFunc x ps.toArray assign body)) z e H :=
 aLZ hr hD hx hc fun w D0 lb rec h1 h2 h3 w2 h4 => by
  obtain ⟨F, G, ms2, R2, k1, k2, k3, k4⟩ := h w D0 lb rec h1 h2 h3 w2 h4
  refine ⟨F, G, ms2, R2, k1, k2, k3, fun v H' h9 => ?_⟩
  obtain ⟨rec', G2, q1, q2, q3, q4⟩ := k4 v H' h9
  exact ⟨rec', G2, q1, q2, .inl q3, q4⟩
end
section
variable {P : AL} {Γ : Ctx} {k : dS} {e : Env} {H H' : aB} {ops rest : List Oper} {d : AD} {ty : AJ} {pos : String} {af : AG} {g : Option (Nat × Bool)}
 {S : AI → Prop} {need : AE} {pl : hQ}
def cE (hs : ∀ w, St Γ.w0 Γ.ms H w → St Γ.w0 Γ.ms H' w) (h : L1 Γ ops rest k e H') : L1 Γ ops rest k e H := fun a w ha hw => h a w ha (hs w hw)
def gL (hs : ∀ w, St Γ.w0 Γ.ms H w → St Γ.w0 Γ.ms H' w) (h : L2 Γ ops S need pl k e H') : L2 Γ ops S need pl k e H := fun a w ha hw => h a w ha (hs w hw)
def aNK {w0 w : AI} {ms : AE} (A B R : aB) (h : St w0 ms (A ++ (B ++ R)) w) : St w0 ms (B ++ (A ++ R)) w := h.perm (by
 rw [← bg, ← bg]
 exact c8 R au)
def aDg {t : AJ} {x y : AK} {T s by_ : Nat} {u : AH} {b n cp m : Nat} {l ys : AA} {ts : Array AJ} (i : Nat)
  (hx : vnf (ev e x) = some (.slice (some ⟨b, 0, none⟩) n cp)) (hy : ev e y = u) (hts : ts = #[t, t]) (hp : uL Γ.P t = some (T, s, by_)) (hi : H[i]? = some (b, blk l T))
  (hs : ∀ w, St Γ.w0 Γ.ms H w → Src w s u m ys) (h1 : fE ys = true) (hroom : n + m ≤ cp) (hfit : n * s + ys.length ≤ l.length) :
  Op1 Γ ⟨d, .call ⟨.builtin .append, #[x, y], ts⟩, ty, pos, af, g⟩ e H (fun v' H' => v' = .slice (some ⟨b, 0, none⟩) (n + m) cp ∧ H' = H.set i (b, blk (aP l (n * s) ys) T)) := by
 intro w hw
 subst hts hy
 have hx := aK hx
 unfold uL at hp
 split at hp <;> try cases hp
 rename_i el hu
 split at hp <;> try cases hp
 rename_i ti hti
 split at hp <;> try cases hp
 rename_i z hz
 split at hp <;> try cases hp
 have hg : w.heap[b]? = some (blk l T) := hw.own_blk (ay hi)
 have hs' := hs w hw
 generalize hue : ev e y = u at hs'
 cases hs' with
 | row b2 off2 m c ys hn hr =>
  have h3 := run_append_room (P := Γ.P) w t ty T ti hu hti b n cp l.toArray hg ⟨b2, off2, none⟩ m c ys hn hr.add (by simpa [fE] using h1) hroom (by simpa using hfit)
  refine cY (v := .slice (some ⟨b, 0, none⟩) (n + m) cp) (w' := w.setRow b (aP l (n * ti.size) ys).toArray) ?_ ⟨_, ?_, rfl, rfl⟩
  ·simp only [execOp, resolve, ak, av, ai, invoke, builtin, cj, be, ct, hx, hue, h3]
   rfl
  ·exact hw.setAt hi rfl rfl rfl (by simp [World.setRow]) (fun k hk => setRow_other w b k _ hk) (setRow_heap w b _ _ T _ hg)
def aEF (z : AA) (n : Nat) : (Builtin.zeroCells z.toArray n).toList = jT (n * z.length) z := by
 unfold Builtin.zeroCells
 have := aCh (n * z.length) z
 simp only [im] at this ⊢
 rw [this]
def aBb (n : Nat) (z : AA) : (jT n z).length = n := by simp [jT]
def aI6 {n : Nat} {z : AA} (hz : fE z = true) (hl : 0 < z.length) : fE (jT n z) = true := by
 refine List.all_eq_true.2 fun x hx => ?_
 simp only [jT, gu] at hx
 obtain ⟨i, _, rfl⟩ := hx
 have hi : i % z.length < z.length := gv _ hl
 rw [co, am hi, gj]
 exact List.all_eq_true.1 hz _ (fh _)
def aGl {t el : AJ} {x : AK} {s b off n c : Nat} {z l : AA} {T : AJ} {ts : Array AJ} (i : Nat)
  (hx : vnf (ev e x) = some (.slice (some ⟨b, off, none⟩) n c)) (hts : ts = #[t]) (hu : nL Γ.P t = some (el, s)) (hz : mY Γ.P el = some z) (hzl : Nat.blt 0 z.length = true) (h1 : fE z = true)
  (hi : H[i]? = some (b, blk l T)) (hn : 0 < n) (hl : off + n * z.length ≤ l.length) :
  Op1 Γ ⟨d, .call ⟨.builtin .clear, #[x], ts⟩, ty, pos, af, g⟩ e H (fun v' H' => v' = .tuple #[] ∧ H' = H.set i (b, blk (aP l off (jT (n * z.length) z)) T)) := by
 intro w hw
 subst hts
 obtain ⟨g1, g2⟩ := iR hu
 have hx := aK hx
 have hg : w.heap[b]? = some (blk l T) := hw.own_blk (ay hi)
 obtain ⟨zv, hzv, hzc⟩ := xH hz w
 have hzl : 0 < z.length := de gr (ag hzl)
 have hst := run_storeCells_at Γ.P b off T (jT (n * z.length) z) 0 l.toArray w hg (by rw [aBb]; simpa using hl) (by simpa [fE] using aI6 (n := n * z.length) h1 hzl)
 simp only [gn] at hst
 have hn0 : n ≠ 0 := by omega
 have key : (Builtin.clear_ #[t] ty #[.slice (some ⟨b, off, none⟩) n c]).run Γ.P w = .ok (.tuple #[]) (w.setRow b (aP l off (jT (n * z.length) z)).toArray) := by
  obtain ⟨n', rfl⟩ : ∃ n', n = n' + 1 := ⟨n - 1, by omega⟩
  simp [Builtin.clear_, ak, run_underlying g1, hzv, hzc, aEF, hst, aP]
 refine cY (v := .tuple #[]) (w' := w.setRow b (aP l off (jT (n * z.length) z)).toArray) ?_ ⟨_, ?_, rfl, rfl⟩
 ·simp only [execOp, resolve, ak, av, ai, invoke, builtin, cj, be, ct, hx, key]
 ·exact hw.setAt hi rfl rfl rfl (by simp [World.setRow]) (fun k hk => setRow_other w b k _ hk) (setRow_heap w b _ _ T _ hg)
def aBv {t : AJ} {x : AK} {lo hi mx : AK} {b off n c el s : Nat} {jl jh jm : Int} (l h m : Nat) (hx : vnf (ev e x) = some (.slice (some ⟨b, off, none⟩) n c))
  (hu : nL P t = some (el, s)) (hlo : lH e (some lo) = some (some jl)) (hhi : lH e (some hi) = some (some jh)) (hmx : lH e (some mx) = some (some jm)) (hl : jl = (l : Int)) (hh : jh = (h : Int)) (hm : jm = (m : Int))
  (h1 : l ≤ h) (h2 : h ≤ m) (h3 : m ≤ c) :
  bH P e ⟨d, .slice t x (some lo) (some hi) (some mx), ty, pos, af, g⟩ = some (.slice (some ⟨b, iF off l s m, none⟩) (h - l) (m - l)) := by
 obtain ⟨g1, g2⟩ := iR hu
 have hx := aK hx
 refine aX ?_ rfl
 have hb : Instr.sliceBounds true n c (some (ev e lo)) (some (ev e hi)) (some (ev e mx)) = pure (l, h, m) := by
  simp only [Instr.sliceBounds, qW hmx hm h3, qW hhi hh h2, qW hlo hl h1, pure_bind, Option.isSome_some, if_true]
 simp only [execOp, hx, Instr.sliceAt, Instr.slice, bind_assoc, bI g1, go, hb, eK, hY g2]
 unfold iF
 by_cases hcl : m = l
 ·simp only [hcl, if_true]; rfl
 ·simp only [hcl, if_false, sE]; rfl
end
def fl : List aB → aB
 | [] => []
 | [a] => a
 | a :: b :: r => a ++ fl (b :: r)
def aOc (a : aB) (cs : List aB) : fl (a :: cs) = a ++ fl cs := by
 cases cs with
 | nil => simp [fl]
 | cons b r => rfl
def aNu : ∀ (cs : List aB), fl cs = cs.flatten
 | [] => rfl
 | a :: cs => by rw [aOc, aNu cs, List.flatten_cons]
def aFF {α : Type} {a b : List (List α)} (h : a.Perm b) : a.flatten.Perm b.flatten := by
 induction h with
 | nil => exact .refl _
 | cons x _ ih => simpa using ih.append_left x
 | swap x y l =>
  simp only [List.flatten_cons]
  rw [← bg, ← bg]
  exact c8 _ au
 | trans _ _ ih1 ih2 => exact ih1.trans ih2
def ixB (n : Nat) : AE → Bool
 | [] => true
 | i :: r => Nat.blt i n && !(r.any (Nat.beq i)) && ixB n r
def aOa {α : Type} : ∀ (ix : AE) (cs : List α), ixB cs.length ix = true → ∃ rest, cs.Perm (ix.filterMap (cs[·]?) ++ rest) := by
 intro ix cs h
 have hnd : ix.Nodup ∧ ∀ i ∈ ix, i < cs.length := by
  induction ix with
  | nil => exact ⟨List.nodup_nil, fun _ h => by cases h⟩
  | cons i r ih =>
   simp only [ixB, al, dw] at h
   obtain ⟨⟨h1, h2⟩, h3⟩ := h
   obtain ⟨g1, g2⟩ := ih h3
   refine ⟨List.nodup_cons.2 ⟨fun hm => ?_, g1⟩, fun j hj => ?_⟩
   ·have : r.any (Nat.beq i) = true := List.any_eq_true.2 ⟨i, hm, Nat.beq_refl i⟩
    rw [this] at h2; cases h2
   ·rcases List.mem_cons.1 hj with rfl | hj
    ·exact de (Nat.lt_succ_self _) (ag h1)
    ·exact g2 j hj
 have hall : cs = (List.range cs.length).filterMap (cs[·]?) := by
  clear h hnd
  induction cs with
  | nil => rfl
  | cons x L ih =>
   rw [gk, List.range_succ_eq_map, List.filterMap_cons]
   simp only [dt, List.filterMap_map, Function.comp_def, dk]
   rw [← ih]
 refine ⟨((List.range cs.length).filter (fun i => !ix.contains i)).filterMap (cs[·]?), ?_⟩
 conv => lhs; rw [hall]
 rw [← List.filterMap_append]
 refine List.Perm.filterMap _ ?_
 rw [List.perm_ext_iff_of_nodup List.nodup_range (List.nodup_append.2 ⟨hnd.1, List.nodup_range.filter _, fun a ha b hb => by rintro rfl; simp at hb; exact hb.2 ha⟩)]
 intro a
 simp only [fq, gq, List.mem_filter, dw, List.contains_eq_mem, decide_eq_false_iff_not]
 constructor
 ·intro ha
  by_cases hm : a ∈ ix
  ·exact .inl hm
  ·exact .inr ⟨ha, hm⟩
 ·rintro (hm | hm)
  ·exact hnd.2 a hm
  ·exact hm.1
def St.fl {w0 w : AI} {ms : AE} (cs : List aB) (ix : AE) (hp : ixB cs.length ix = true) (h : St w0 ms (VV.fl cs) w) : St w0 ms (VV.fl (ix.filterMap (cs[·]?))) w := by
 obtain ⟨rest, hr⟩ := aOa ix cs hp
 rw [aNu] at h ⊢
 exact (h.perm (aFF hr)).sub (by rw [List.flatten_append]; exact cq _ _)
def St.as {w0 w : AI} {ms : AE} {L L' : aB} (h : St w0 ms L w) (he : L = L') : St w0 ms L' w := he ▸ h
end Go.VV
namespace Go.VV
open Go Go.ChangeShapes Go.WideShapes Go.ChangeAt Go.RowKit
inductive CK where
 | int (k : AM)
 | bool
 | str
def aSV : CK → AH → Prop
 | .int k, v => ∃ n, v = .int k n ∧ (Lit.int k n).wf = true
 | .bool, v => ∃ b, v = .bool b
 | .str, v => ∃ s : ByteArray, v = .string s ∧ s.size ≤ maxLen
def Cks : List CK → AA → Prop
 | [], [] => True
 | k :: ks, v :: vs => aSV k v ∧ Cks ks vs
 | _, _ => False
def Cks.len : ∀ {a : List CK} {x : AA}, Cks a x → a.length = x.length
 | [], [], _ => rfl
 | _ :: _, _ :: _, h => by simp [Cks.len h.2]
 | [], _ :: _, h => h.elim
 | _ :: _, [], h => h.elim
section
variable (P : AL)
def aBq (f : AJ → Option (List CK)) : List Field → Nat → Option (List CK)
 | [], _ => some []
 | fd :: r, off => match f fd.type with
  | some ks => bif Nat.beq fd.offset off && Nat.beq (P.cellsOf fd.type) ks.length then (match aBq f r (off + ks.length) with
   | some rs => some (ks ++ rs)
   | none => none) else none
  | none => none
def tW : Nat → AJ → Option (List CK)
 | 0, _ => none
 | n + 1, t => match P.underlying t with
  | some (.int k) => some [.int k]
  | some .bool => some [.bool]
  | some .string => some [.str]
  | some (.struct ⟨fs⟩) => match aBq P (tW n) fs 0 with
   | some ks => bif Nat.beq (P.cellsOf t) ks.length then some ks else none
   | none => none
  | _ => none
end
end Go.VV
namespace Go.VV
open Go
def iZ : List CK → AA → Bool
 | [], [] => true
 | .int k :: ks, .int k' _ :: vs => decide (k = k') && iZ ks vs
 | .bool :: ks, .bool _ :: vs => iZ ks vs
 | .str :: ks, .string _ :: vs => iZ ks vs
 | _, _ => false
def veq : AH → AH → Bool
 | .int _ a, .int _ b => a == b
 | .bool a, .bool b => a == b
 | .string a, .string b => a.toList == b.toList
 | _, _ => false
def mK : AA → AA → Bool
 | [], [] => true
 | x :: xs, y :: ys => veq x y && mK xs ys
 | _, _ => false
def oQ : ∀ {a b : List CK} {xs : AA}, iZ (a ++ b) xs = true → ∃ x y, xs = x ++ y ∧ iZ a x = true ∧ iZ b y = true
 | [], b, xs, h => ⟨[], xs, rfl, rfl, h⟩
 | .int k :: a, b, .int k' n :: vs, h => by
  simp only [cg, iZ, al] at h
  obtain ⟨x, y, rfl, h1, h2⟩ := oQ (a := a) (b := b) (xs := vs) h.2
  exact ⟨.int k' n :: x, y, rfl, by simp only [iZ, al]; exact ⟨h.1, h1⟩, h2⟩
 | .bool :: a, b, .bool t :: vs, h => by
  obtain ⟨x, y, rfl, h1, h2⟩ := oQ (a := a) (b := b) (xs := vs) h
  exact ⟨.bool t :: x, y, rfl, h1, h2⟩
 | .str :: a, b, .string t :: vs, h => by
  obtain ⟨x, y, rfl, h1, h2⟩ := oQ (a := a) (b := b) (xs := vs) h
  exact ⟨.string t :: x, y, rfl, h1, h2⟩
def pZ : ∀ {a : List CK} {x : AA}, iZ a x = true → x.length = a.length
 | [], [], _ => rfl
 | .int _ :: a, .int _ _ :: x, h => by
  simp only [iZ, al] at h
  simp [pZ (a := a) (x := x) h.2]
 | .bool :: a, .bool _ :: x, h => by simp [pZ (a := a) (x := x) h]
 | .str :: a, .string _ :: x, h => by simp [pZ (a := a) (x := x) h]
def aCs {k : AM} {x : AA} (h : iZ [.int k] x = true) : ∃ n, x = [.int k n] := by
 cases x with
 | nil => simp [iZ] at h
 | cons v r =>
  cases v <;> simp [iZ] at h
  obtain ⟨rfl, h2⟩ := h
  cases r with
  | nil => exact ⟨_, rfl⟩
  | cons => simp [iZ] at h2
def aEv : ∀ {a b x y : AA}, a.length = x.length → mK (a ++ b) (x ++ y) = (mK a x && mK b y)
 | [], b, [], y, _ => by simp [mK]
 | u :: a, b, v :: x, y, h => by
  simp only [cg, mK]
  rw [aEv (by simpa using h), Bool.and_assoc]
section
variable (P : AL)
def aDS (f : AJ → Bool) : List Field → Bool
 | [] => true
 | fd :: r => !(fd.name == "_") && f fd.type && aDS f r
def aAE : Nat → AJ → Bool
 | 0, _ => false
 | n + 1, t => match P.underlying t with
  | some (.int _) => true
  | some .bool => true
  | some .string => true
  | some (.struct ⟨fs⟩) => !(P.stoodInHeld t) && Nat.beq ((fH P t).getD 0) (P.cellsOf t) && (fH P t).isSome && aDS (aAE n) fs
  | _ => false
def pE (t : AJ) (xs : AA) : AH := match P.underlying t with
 | some (.struct _) => .agg xs.toArray
 | _ => xs.headD undef
end
section
variable {P : AL}
def aEV {w : AI} {t : AJ} {m : Nat} {ks : List CK} {X x R : AA} {off : Nat} (hk : tW P m t = some ks) (he : aAE P m t = true) (hx : iZ ks x = true) (hX : X.drop off = x ++ R) (hc : P.cellsOf t = ks.length) :
  (part t X.toArray off).run P w = .ok (pE P t x) w := by
 have hlen := pZ hx
 cases m with
 | zero => cases hk
 | succ m =>
  simp only [tW] at hk
  simp only [aAE] at he
  split at hk
  ·rename_i k ht
   cases hk
   obtain ⟨n, rfl⟩ := aCs hx
   ·have h0 : X[off]? = some (.int k n) := by
     have := congrArg (·[0]?) hX
     simpa using this
    simp [part, isAgg, run_underlying ht, h0, pE, ht]
  ·rename_i ht
   cases hk
   match x, hx with
   | [.bool n], _ =>
    have h0 : X[off]? = some (.bool n) := by
     have := congrArg (·[0]?) hX
     simpa using this
    simp [part, isAgg, run_underlying ht, h0, pE, ht]
  ·rename_i ht
   cases hk
   match x, hx with
   | [.string n], _ =>
    have h0 : X[off]? = some (.string n) := by
     have := congrArg (·[0]?) hX
     simpa using this
    simp [part, isAgg, run_underlying ht, h0, pE, ht]
  ·rename_i fs ht
   rw [ht] at he
   simp only [al] at he
   obtain ⟨⟨⟨_, h1⟩, h2⟩, _⟩ := he
   obtain ⟨n, hn⟩ := Option.isSome_iff_exists.1 h2
   rw [hn] at h1
   have h3 := bi h1
   simp only [gj] at h3
   have hsz := fM hn w
   have h5 : (X.drop off).take n = x := by
    rw [hX, h3, hc, ← hlen, eg]
    rfl
   simp [part, isAgg, run_underlying ht, hsz, pE, ht]
   exact h5
  ·cases hk
def aAA : ∀ (m : Nat) {d : Nat} {w : AI} {t : AJ} {ks : List CK} {x y : AA}, m ≤ d → tW P m t = some ks → aAE P m t = true → iZ ks x = true → iZ ks y = true →
  (Op.equalIn d t (pE P t x) (pE P t y)).run P w = .ok (mK x y) w
 | 0, _, _, _, _, _, _, _, h, _, _, _ => by cases h
 | m + 1, 0, _, _, _, _, _, hd, _, _, _, _ => by omega
 | m + 1, d + 1, w, t, ks, x, y, hd, hk, he, hx, hy => by
  simp only [tW] at hk
  simp only [aAE] at he
  split at hk
  ·rename_i k ht
   cases hk
   obtain ⟨n, rfl⟩ := aCs hx
   obtain ⟨n2, rfl⟩ := aCs hy
   simp [pE, ht, run_equalIn_int w d t k k n n2 ht, mK, veq]
  ·rename_i ht
   cases hk
   match x, y, hx, hy with
   | [.bool n], [.bool n2], _, _ => simp [pE, ht, run_equalIn_bool' w d t n n2 ht, mK, veq]
  ·rename_i ht
   cases hk
   match x, y, hx, hy with
   | [.string n], [.string n2], _, _ => simp [pE, ht, run_equalIn_string w d t n n2 ht, mK, veq]
  ·rename_i fs ht
   rw [ht] at he
   simp only [al, dw] at he
   obtain ⟨⟨⟨hst, _⟩, _⟩, hof⟩ := he
   split at hk
   ·rename_i k1 hk1
    by_cases hb : Nat.beq (P.cellsOf t) k1.length = true
    ·rw [hb, cond_true] at hk
     cases hk
     have hfo : P.fieldsOf t = ⟨fs⟩ := by simp [Program.fieldsOf, ht]
     have hv : ∀ z, pE P t z = .agg z.toArray := fun z => by simp [pE, ht]
     rw [hv, hv, run_equalIn_struct w d t _ _ (by rw [hfo]; exact ht) hst, hfo]
     have key : ∀ (fs : List Field) (off : Nat) (ks : List CK) (x1 y1 : AA), aBq P (tW P m) fs off = some ks → aDS (aAE P m) fs = true → iZ ks x1 = true → iZ ks y1 = true → (∃ r, x.drop off = x1 ++ r) → (∃ r, y.drop off = y1 ++ r) →
       (Op.eqFields d x.toArray y.toArray fs).run P w = .ok (mK x1 y1) w := by
      intro fs
      induction fs with
      | nil =>
       intro off ks x1 y1 h1 _ h3 h4 _ _
       cases h1
       match x1, y1, h3, h4 with
       | [], [], _, _ => simp [Op.eqFields, mK]
      | cons f fs ih =>
       intro off ks x1 y1 h1 h2 h3 h4 h5 h6
       simp only [aBq] at h1
       simp only [aDS, al, dw] at h2
       split at h1
       ·rename_i k2 hk2
        by_cases hb2 : (Nat.beq f.offset off && Nat.beq (P.cellsOf f.type) k2.length) = true
        ·rw [hb2, cond_true] at h1
         simp only [al] at hb2
         have e1 := bi hb2.1
         have e2 := bi hb2.2
         split at h1
         ·rename_i rs hrs
          cases h1
          obtain ⟨xa, xb, rfl, ha1, ha2⟩ := oQ h3
          obtain ⟨ya, yb, rfl, hb1, hb2⟩ := oQ h4
          obtain ⟨r1, hr1⟩ := h5
          obtain ⟨r2, hr2⟩ := h6
          have p1 := aEV (w := w) hk2 h2.1.2 ha1 (by rw [hr1, bg]) e2
          have p2 := aEV (w := w) hk2 h2.1.2 hb1 (by rw [hr2, bg]) e2
          have p3 := aAA m (d := d) (w := w) (by omega) hk2 h2.1.2 ha1 hb1
          have hnm : f.name ≠ "_" := by
           have := h2.1.1
           intro h0; rw [h0] at this; simp at this
          have l1 := pZ ha1
          have l2 := pZ hb1
          have p4 := ih (off + k2.length) rs xb yb hrs h2.2 ha2 hb2 ⟨r1, by rw [← bf, hr1, bg, dr l1]⟩ ⟨r2, by rw [← bf, hr2, bg, dr l2]⟩
          rw [aEv (l1.trans l2.symm)]
          simp only [Op.eqFields, if_pos hnm, ak, e1, p1, p2, p3, ai]
          cases mK xa ya
          ·simp
          ·simpa using p4
         ·cases h1
        ·simp only [iv] at hb2
         rw [hb2, cond_false] at h1
         cases h1
       ·cases h1
     exact key fs 0 _ x y hk1 hof hx hy ⟨[], by simp⟩ ⟨[], by simp⟩
    ·simp only [iv] at hb
     rw [hb, cond_false] at hk
     cases hk
   ·cases hk
  ·cases hk
section
variable {e : Env} {d : AD} {t u ty : AJ} {pos : String} {af : AG} {g : Option (Nat × Bool)} {x y : AK} {l r : AA} {ks : List CK}
def aNq (P : AL) (t : AJ) : Bool := aAE P 9 t && !(P.eqGuardType P.depth t) && (match P.underlying t with
 | some (.struct _) => true
 | _ => false)
def aN1 (hx : vnf (ev e x) = some (.agg ⟨l⟩)) (hy : vnf (ev e y) = some (.agg ⟨r⟩)) (hk : tW P 9 t = some ks) (hb : aNq P t = true) (h1 : iZ ks l = true) (h2 : iZ ks r = true) (w : AI) :
  (execOp (ev e) ⟨d, .binOp .neq t x y u, ty, pos, af, g⟩).run P w = .ok (.value (.bool (!(mK l r)))) w := by
 have hx := aK hx
 have hy := aK hy
 simp only [aNq, al, dw] at hb
 obtain ⟨⟨b1, b2⟩, b3⟩ := hb
 have hv : ∀ z : AA, pE P t z = .agg ⟨z⟩ := fun z => by
  unfold pE
  split at b3
  ·rename_i ht; first | rfl | rw [ht]
  ·cases b3
 have key := aAA 9 (d := 10000) (w := w) (by omega) hk b1 h1 h2
 rw [hv, hv] at key
 have hgd : (eqGuard .neq t x y (.agg ⟨l⟩) (.agg ⟨r⟩)).run P w = .ok () w := by simp [eqGuard, b2]
 simp only [execOp, hx, hy, ak]
 rw [hgd]
 simp only [ai]
 rw [run_neq_struct (P := P) w t, key]
 rfl
variable {Γ : Ctx} {H : aB} {k : dS} {ops rest : List Oper} {S : AI → Prop} {need : AE} {pl : hQ} {i : Nat}
def aSo (ho : ops[i]? = some ⟨d, .binOp .neq t x y u, ty, pos, af, g⟩) (hx : vnf (ev e x) = some (.agg ⟨l⟩)) (hy : vnf (ev e y) = some (.agg ⟨r⟩)) (hk : tW Γ.P 9 t = some ks) (hb : aNq Γ.P t = true) (h1 : iZ ks l = true) (h2 : iZ ks r = true)
  (hg : gdB ops e ⟨d, .binOp .neq t x y u, ty, pos, af, g⟩ = true) (hd : cJ Γ.n d = true) {b : Bool} (hv : (!(mK l r)) = b) (h : L2 Γ ops S need pl k (e.put d (.bool b)) H) : L2 Γ ops S need (.step true i pl) k e H := by
 subst hv
 exact rX ho hg hd (fun w _ => aN1 hx hy hk hb h1 h2 w) h
end
end
end Go.VV
namespace Go.VV
open Go Go.RowKit
section
variable {P : AL} {Γ : Ctx} {e : Env} {H : aB} {d : AD} {ty : AJ} {pos : String} {af : AG} {g : Option (Nat × Bool)}
def Row.seg {w : AI} {b off : Nat} {L l : AA} (h : Row w b off L) (k n : Nat) (hs : tP ((L.drop k).take n) = some l) : Row w b (off + k) l := fun j v hv => by
 rw [← aAN hs, dz] at hv
 split at hv
 ·rw [db] at hv
  rw [dg]; exact h _ _ hv
 ·cases hv
def gH {w0 : AI} {ms : AE} {b : Nat} {l l' : AA} {t : AJ} {fr : Nat × Nat} (hm : (b, Obj.cells l.toArray t fr) ∈ H) (k n : Nat) (hs : tP ((l.drop k).take n) = some l') : ∀ w, St w0 ms H w → Row w b k l' := fun w hw => by
 have := (aA (H := H) hm w hw).seg k n hs
 rwa [az] at this
def iS {t : AJ} {x y : AK} {T s by_ : Nat} {v u : AH} {n m : Nat} {xs ys : AA} {G A : aB} {ts : Array AJ}
  (hx : ev e x = v) (hy : ev e y = u) (hts : ts = #[t, t]) (hp : uL Γ.P t = some (T, s, by_)) (hv : Vec T s v n xs G)
  (hs : ∀ w, St Γ.w0 Γ.ms (A ++ G) w → Src w s u m ys) (h1 : fE ys = true) (hlen : n + m ≤ 140737488355328) (hb : (n + m) * by_ ≤ 140737488355328) :
  Op1 Γ ⟨d, .call ⟨.builtin .append, #[x, y], ts⟩, ty, pos, af, g⟩ e (A ++ G) (fun v' H' => ∃ G', Vec T s v' (n + m) (xs ++ ys) G' ∧ (v' = .slice none 0 0 → n = 0 ∧ m = 0) ∧ H' = G' ++ A) := by
 have key := gD (Γ := Γ) (e := e) (d := d) (ty := ty) (pos := pos) (af := af) (g := g) (A := A) (R := []) hx hy hts hp hv (fun w hw => hs w (by simpa using hw)) h1 hlen hb
 intro w hw
 refine iG (key w (by simpa using hw)) ?_
 rintro v' w' ⟨H', h2, G', h3, h4, rfl⟩
 exact ⟨G' ++ A, by simpa using h2, G', h3, h4, rfl⟩
def Vec.as {T s n n' : Nat} {v : AH} {xs xs' : AA} {G : aB} (h : Vec T s v n xs G) (hn : n = n') (hx : xs = xs') : Vec T s v n' xs' G := by subst hn hx; exact h
def Vec.full {T s : Nat} {v : AH} {n : Nat} {xs : AA} {G : aB} (h : Vec T s v n xs G) (hn : n ≠ 0) :
  ∃ b cap sp, v = .slice (some ⟨b, 0, none⟩) n cap ∧ G = [(b, blk (xs ++ sp) T)] ∧ (xs ++ sp).length = cap * s ∧ n ≤ cap ∧ cap ≤ maxLen := by
 cases h with
 | nil => exact absurd rfl hn
 | row b _ cap _ sp h1 h2 h3 h4 => exact ⟨b, cap, sp, rfl, rfl, h2, h4, h3⟩
def Vec.alt {T s : Nat} {v : AH} {n : Nat} {xs : AA} {G : aB} (h : Vec T s v n xs G) :
  (v = .slice none 0 0 ∧ n = 0 ∧ xs = [] ∧ G = []) ∨ ∃ b cap sp, v = .slice (some ⟨b, 0, none⟩) n cap ∧ G = [(b, blk (xs ++ sp) T)] ∧ (xs ++ sp).length = cap * s ∧ n ≤ cap ∧ cap ≤ maxLen := by
 cases h with
 | nil => exact .inl ⟨rfl, rfl, rfl, rfl⟩
 | row b _ cap _ sp h1 h2 h3 h4 => exact .inr ⟨b, cap, sp, rfl, rfl, h2, h4, h3⟩
def Vec.all_ {α : Type} {c : α → AA} {T s b cap : Nat} {l : List α} {sp : AA} (hc : ∀ x, (c x).length = s) (h2 : (aE c l ++ sp).length = cap * s) (h4 : l.length ≤ cap) (h3 : cap ≤ maxLen) :
  Vec T s (.slice (some ⟨b, 0, none⟩) l.length cap) l.length (aE c l) [(b, blk (aE c l ++ sp) T)] :=
 .row b _ cap _ sp (bL hc l) h2 h3 h4
def tH {α : Type} {c : α → AA} (h : ∀ x, fE (c x) = true) (l : List α) : fE (aE c l) = true := by
 refine List.all_eq_true.2 fun x hx => ?_
 unfold aE at hx
 obtain ⟨y, _, hy⟩ := List.mem_flatMap.1 hx
 exact List.all_eq_true.1 (h y) x hy
def St.lentV {w0 w : AI} {ms : AE} {F G : aB} (h : St w0 ms (F ++ G) w) : St w (F.map (·.1)) F w := by
 have hn := h.nodup
 rw [aw, cx] at hn
 exact ⟨rfl, rfl, rfl, ax _, fun _ _ _ => rfl, hn.1, fun x hx => .inl (List.mem_map.2 ⟨x, hx, rfl⟩), fun x hx => h.holds x (fy _ hx)⟩
def St.lentA {w0 w : AI} {ms : AE} {F : aB} (h : St w0 ms F w) : St w (F.map (·.1)) F w := by
 have : St w0 ms (F ++ []) w := by simpa using h
 exact this.lentV
section
variable {α : Type} {c : α → AA} {s : Nat} (hc : ∀ x, (c x).length = s)
include hc
def aIR (l : List α) (j : Nat) : (aE c l).drop (j * s) = aE c (l.drop j) := by
 rcases dh j l.length with hj | hj
 ·have h1 : aE c l = aE c (l.take j) ++ aE c (l.drop j) := by rw [← fJ, dj]
  have h2 : (aE c (l.take j)).length = j * s := by rw [bL hc, ej, er (by omega)]
  rw [h1, ← h2, fu]
 ·rw [dm hj, dm (by rw [bL hc]; exact ew _ hj)]
  rfl
def aKj {w : AI} {b off j cp : Nat} {l : List α} {sp : AA} (hr : Row w b off (aE c l ++ sp)) (hj : j ≤ l.length) (hcp : l.length ≤ cp) : Row w b (iF off j s cp) (aE c (l.drop j)) := by
 have h1 := (hr.left).cut (l := j) (k := l.length - j) (s := s) (c := cp) (by omega)
 rw [aIR hc] at h1
 have h2 : (aE c (l.drop j)).length = (l.length - j) * s := by rw [bL hc, fx]
 rw [← h2, di] at h1
 exact h1
def aL2 (l : List α) (sp zs : AA) {j : Nat} (_hj : j ≤ l.length) : ∃ sp', aP (aP (aE c l ++ sp) (0 * s) (aE c (l.drop j))) ((l.length - j) * s) zs = aE c (l.drop j) ++ sp' := by
 have h2 : (aE c (l.drop j)).length = (l.length - j) * s := by rw [bL hc, fx]
 rw [f8]
 unfold aP
 rw [gb, bw, az]
 refine ⟨zs ++ ((aE c l ++ sp).drop (aE c (l.drop j)).length).drop zs.length, ?_⟩
 rw [← h2, ib, ← bf, fu, bg]
def tL (l : List α) (sp : AA) (j : Nat) : 0 * s + (aE c (l.drop j)).length ≤ (aE c l ++ sp).length := by
 rw [bL hc, d5, bL hc, fx, f8, az]
 exact f7 (ew _ (by omega)) (Nat.le_add_right _ _)
end
def aRG (b off s n c : Nat) : Value.slice (some ⟨b, iF off 0 s c, none⟩) (n - 0) (c - 0) = .slice (some ⟨b, off, none⟩) n c := by
 simp only [iF, f8, gn, ite_self, Nat.sub_zero]
end
end Go.VV
namespace Go.VV
open Go
section
variable {Γ : Ctx} {e : Env} {A : aB} {d : AD} {t : AJ} {pos : String} {af : AG} {g : Option (Nat × Bool)}
def dB {f : Nat} {l : AF} {ts : Array AJ} {vs : AA} (hc : cL Γ.P f = true) (hv : evs e l = some vs) {R : AH → aB → Prop}
  (hf : ∀ w, St Γ.w0 Γ.ms A w → aC Γ.P f vs w (A.map (·.1)) R) :
  Op1 Γ ⟨d, .call ⟨.value (.func f), l.toArray, ts⟩, t, pos, af, g⟩ e A (fun v H2 => R v H2) := by
 intro w hw
 have key := dY (Γ := Γ) (e := e) (d := d) (t := t) (pos := pos) (af := af) (g := g) (ts := ts) (A := A) (G := []) (A.map (·.1)) hc hv (R := R) (fun _ hb => eA hb) (fun w hw => hf w (by simpa using hw))
 refine iG (key w (by simpa using hw)) ?_
 rintro v w' ⟨H', h2, G', h3, rfl⟩
 exact ⟨G', by simpa using h2, h3⟩
end
def SlW {α : Type} (w : AI) (c : α → AA) (a : AC) (l : List α) : Prop := (a = none ∧ l = []) ∨ ∃ b off, a = some ⟨b, off, none⟩ ∧ Row w b off (aE c l)
def SlW.els {α : Type} {w : AI} {c : α → AA} {a : AC} {l : List α} (h : SlW w c a l) : Els w c a l := by
 rcases h with ⟨_, rfl⟩ | ⟨b, off, h1, h2⟩
 ·exact Els.nil _ _ _
 ·exact fun _ => ⟨b, off, h1, h2⟩
def SlW.later0 {α : Type} {w0 w : AI} {H : aB} {c : α → AA} {a : AC} {l : List α} (h : SlW w0 c a l) (hw : St w0 [] H w) : SlW w c a l := by
 rcases h with h | ⟨b, off, h1, h2⟩
 ·exact .inl h
 ·exact .inr ⟨b, off, h1, aR h2 (by simp) w hw⟩
def Vec.slw {α : Type} {c : α → AA} {T s n : Nat} {v : AH} {G : aB} {l : List α} (h : Vec T s v n (aE c l) G) (hc : ∀ x, (c x).length = s) (hs : 0 < s) :
  ∃ a cp, v = .slice a n cp ∧ l.length = n ∧ n ≤ cp ∧ (cp = 0 → n = 0) ∧ (a = none → cp = 0) ∧ ∀ w : AI, (∀ x ∈ G, w.heap[x.1]? = some x.2) → SlW w c a l := by
 have hl := h.len
 rw [bL hc] at hl
 have hn : l.length = n := f4 hs hl
 generalize hx : aE c l = xs at h
 cases h with
 | nil => exact ⟨none, 0, rfl, hn, ax _, fun _ => rfl, fun _ => rfl, fun _ _ => .inl ⟨rfl, ci hn⟩⟩
 | row b _ cap _ sp h1 h2 h3 h4 =>
  refine ⟨_, cap, rfl, hn, h4, fun h => by omega, fun h => by (cases h), fun w hw => .inr ⟨b, 0, rfl, ?_⟩⟩
  have := Row.all (w := w) (b := b) (hw _ (.head _))
  rw [← hx] at this
  exact this.left
def jX {Γ : Ctx} {F : aB} {b : Nat} {l l' : AA} {T : AJ} {fr : Nat × Nat} (hm : (b, Obj.cells l.toArray T fr) ∈ F) (k n : Nat) (hs : tP ((l.drop k).take n) = some l') : ∀ w, fN Γ F w → Row w b k l' :=
 fun w ⟨_, hw, hF⟩ => gH (hF _ hm) k n hs w hw
def RowsIn (G : aB) (b off : Nat) (xs : AA) : Prop := ∀ w : AI, (∀ x ∈ G, w.heap[x.1]? = some x.2) → Row w b off xs
def RowsIn.row {G H : aB} {b off : Nat} {xs : AA} (h : RowsIn G b off xs) (hs : ∀ x ∈ G, x ∈ H) {w0 : AI} {ms : AE} : ∀ w, St w0 ms H w → Row w b off xs :=
 fun w hw => h w fun x hx => hw.holds x (hs x hx)
section
variable {α : Type} {c : α → AA} {s : Nat}
def Row.at {w : AI} {b off : Nat} {l : List α} {i : Nat} {x : α} (h : Row w b off (aE c l)) (hc : ∀ x, (c x).length = s) (hi : l[i]? = some x) (j : Nat) {v : AH} (hv : (c x)[j]? = some v) :
  w.cell? ⟨b, off + i * s + j, none⟩ = some v := Row.nth' hc h hi j v hv
def Row.part {w : AI} {b off : Nat} {l : List α} {i : Nat} {x : α} (h : Row w b off (aE c l)) (hc : ∀ x, (c x).length = s) (hi : l[i]? = some x) (j n : Nat) {v : AA} (hv : tP (((c x).drop j).take n) = some v) :
  Row w b (off + i * s + j) v := (Row.nth' hc h hi).seg j n hv
def Vec.rows {T n : Nat} {v : AH} {G : aB} {l : List α} (h : Vec T s v n (aE c l) G) (hc : ∀ x, (c x).length = s) (hs : 0 < s) :
  ∃ a cp, v = .slice a n cp ∧ l.length = n ∧ n ≤ cp ∧ (0 < l.length → ∃ b, a = some ⟨b, 0, none⟩ ∧ RowsIn G b 0 (aE c l)) := by
 have hl := h.len
 rw [bL hc] at hl
 have hn : l.length = n := f4 hs hl
 generalize hx : aE c l = xs at h
 cases h with
 | nil => exact ⟨none, 0, rfl, hn, ax _, fun h0 => by omega⟩
 | row b _ cap _ sp h1 h2 h3 h4 =>
  refine ⟨_, cap, rfl, hn, h4, fun _ => ⟨b, rfl, fun w hw => ?_⟩⟩
  exact (Row.all (w := w) (b := b) (hw _ (.head _))).left
def sQ {l : List α} {i : Nat} {x : α} (h : l[i]? = some x) : (l.take (i + 1)) = l.take i ++ [x] := by
 rw [fk, h]; rfl
def tE {l : List α} {i : Nat} (h : i < l.length) : l[i]? = some l[i] := am h
end
section
variable {α : Type} {c : α → AA} {s : Nat}
def Seg (c : α → AA) (l : List α) (v : AH) (G : aB) : Prop :=
 (v = .slice none 0 0 ∧ l = [] ∧ G = []) ∨ ∃ b off cp, v = .slice (some ⟨b, off, none⟩) l.length cp ∧ l.length ≤ cp ∧ RowsIn G b off (aE c l)
def Seg.nil : Seg c [] (.slice none 0 0) [] := .inl ⟨rfl, rfl, rfl⟩
def Seg.of {l : List α} {b off n cp : Nat} {G : aB} (hn : n = l.length) (h : l.length ≤ cp) (hr : RowsIn G b off (aE c l)) : Seg c l (.slice (some ⟨b, off, none⟩) n cp) G := by
 subst hn; exact .inr ⟨b, off, cp, rfl, h, hr⟩
def Seg.slice {l : List α} {v : AH} {G : aB} (h : Seg c l v G) : ∃ a cp, v = .slice a l.length cp ∧ l.length ≤ cp ∧ (0 < l.length → ∃ b off, a = some ⟨b, off, none⟩ ∧ RowsIn G b off (aE c l)) := by
 rcases h with ⟨rfl, rfl, rfl⟩ | ⟨b, off, cp, rfl, h1, h2⟩
 ·exact ⟨none, 0, rfl, ax _, fun h => by simp at h⟩
 ·exact ⟨_, cp, rfl, h1, fun _ => ⟨b, off, rfl, h2⟩⟩
def RowsIn.left {G : aB} {b off : Nat} {xs ys : AA} (h : RowsIn G b off (xs ++ ys)) : RowsIn G b off xs := fun w hw => (h w hw).left
def RowsIn.own (b : Nat) (xs : AA) (T : AJ) : RowsIn [(b, blk xs T)] b 0 xs := fun w hw => Row.all (w := w) (b := b) (hw _ (.head _))
end
def aCp {P : AL} {e : Env} {d : AD} {ty : AJ} {pos : String} {af : AG} {g : Option (Nat × Bool)} {t : AJ} {x hi : AK} {a : AC} {n c el s : Nat} {jh : Int} (h : Nat)
  (hx : vnf (ev e x) = some (.slice a n c)) (hu : nL P t = some (el, s)) (hhi : lH e (some hi) = some (some jh)) (hh : jh = (h : Int)) (h2 : h ≤ c) :
  bH P e ⟨d, .slice t x none (some hi) none, ty, pos, af, g⟩ = some (.slice a h c) := by
 obtain ⟨g1, g2⟩ := iR hu
 have hx := aK hx
 refine aX ?_ rfl
 have hb := wJ (e := e) (lo := none) (hi := some hi) (isS := true) (n := n) (c := c) (jl := none) (jh := some jh) 0 h rfl hhi rfl (by simpa using hh) (aj _) h2
 rw [gp] at hb
 simp only [execOp, hx, Instr.sliceAt, Instr.slice, bind_assoc, bI g1, gp, hb, eK, hY g2]
 have : (if c = 0 then a else a.map (·.add (0 * s))) = a := by
  split
  ·rfl
  ·cases a <;> simp [Addr.add]
 rw [this]; rfl
def St.apart {w0 w : AI} {ms : AE} {F R : aB} (h : St w0 ms (F ++ R) w) {b : Nat} {o : Obj} (hm : (b, o) ∈ R) : b ∉ F.map (·.1) := fun hb => by
 have hn := h.nodup
 rw [aw, cx] at hn
 exact hn.2.2 _ hb _ (List.mem_map.2 ⟨_, hm, rfl⟩) rfl
def bs (l : List UInt8) : ByteArray := ⟨⟨l⟩⟩
def aGR (l : List UInt8) : (bs l).size = l.length := rfl
def aJx (a b : List UInt8) : bs a ++ bs b = bs (a ++ b) := by
 apply ByteArray.ext
 simp [bs]
def aN9 (l : List UInt8) : (bs l).toList = l := by rw [ByteArray.toList_eq]; rfl
def aPz (l : List UInt8) : strOfNums (l.map fun b => (b.toNat : Int)) = bs l := by
 unfold strOfNums bs
 congr 1
 have : ((fun n : Int => UInt8.ofNat n.toNat) ∘ fun b : UInt8 => (b.toNat : Int)) = id := by funext b; simp
 rw [List.map_map, this, List.map_id]
section
variable {P : AL} {e : Env} {d : AD} {ty t u : AJ} {pos : String} {af : AG} {g : Option (Nat × Bool)} {x y : AK} {a b : List UInt8}
def aN (hx : vnf (ev e x) = some (.string (bs a))) (hy : vnf (ev e y) = some (.string (bs b))) (h : a.length + b.length ≤ 1000000) :
  bH P e ⟨d, .binOp .add t x y u, ty, pos, af, g⟩ = some (.string (bs (a ++ b))) := by
 refine aX ?_ rfl
 have h1 : ¬ (((bs a).size + (bs b).size : Nat) : Int) > IntKind.i64.max := by
  have : IntKind.i64.max = 9223372036854775807 := by decide
  rw [aGR, aGR]; omega
 simp only [execOp, eqGuard, aK hx, aK hy, binOp, Op.stringOp, if_neg h1, aJx]
 rfl
def qQ (hx : vnf (ev e x) = some (.string (bs a))) (hy : vnf (ev e y) = some (.string (bs b))) :
  bH P e ⟨d, .binOp .neq t x y u, ty, pos, af, g⟩ = some (.bool (!(a == b))) := by
 refine aX ?_ rfl
 simp [execOp, eqGuard, aK hx, aK hy, binOp, Op.stringOp, aN9, bM, bind, Sem.bind, pure]
def aEp (hx : vnf (ev e x) = some (.string (bs a))) (hu : P.underlying t = some .string) :
  bH P e ⟨d, .call ⟨.builtin .len, #[x], #[t]⟩, ty, pos, af, g⟩ = some (.int .i64 a.length) := aBw hx hu
def aFu {i : AK} {k : AM} {j : Int} (m : Nat) {c : UInt8} (hx : vnf (ev e x) = some (.string (bs a))) (hi : vnf (ev e i) = some (.int k j)) (hu : P.underlying t = some .string) (hj : j = (m : Int)) (hc : a[m]? = some c) :
  bH P e ⟨d, .index t x i, ty, pos, af, g⟩ = some (.int .u8 c.toNat) := by
 refine aX ?_ rfl
 subst hj
 have h1 : (bs a)[m]? = some c := by
  obtain ⟨h3, h4⟩ := List.getElem?_eq_some_iff.1 hc
  rw [ByteArray.getElem?_lt' (bs a) m h3, ← h4]; rfl
 have h2 : (if (0 : Int) ≤ (m : Int) then (bs a)[(m : Int).toNat]? else none) = some c := by
  rw [if_pos (by omega), bj, h1]
 simp only [execOp, Instr.index, aK hx, aK hi, asIntOf, bind_assoc, eK, bI hu, h2]
 rfl
end
section
variable {Γ : Ctx} {e : Env} {H : aB} {d : AD} {ty t dst el : AJ} {pos : String} {af : AG} {g : Option (Nat × Bool)} {x : AK}
def aQx (P : AL) (t : AJ) : Bool := match P.underlying t with
 | some (.slice el) => (match P.underlying el with
  | some (.int .u8) => true
  | _ => false)
 | _ => false
def aQT (P : AL) (t : AJ) : Bool := match P.underlying t with
 | some .string => true
 | _ => false
def aSw {b off n c : Nat} {l : List UInt8} (hx : vnf (ev e x) = some (.slice (some ⟨b, off, none⟩) n c)) (hs : aQx Γ.P t = true) (hd : aQT Γ.P dst = true) (hn : l.length = n)
  (hr : ∀ w, St Γ.w0 Γ.ms H w → Row w b off (l.map fun c => .int .u8 c.toNat)) :
  Op1 Γ ⟨d, .convert t dst x, ty, pos, af, g⟩ e H (fun v H' => v = .string (bs l) ∧ H' = H) := by
 intro w hw
 have hx := aK hx
 unfold aQx at hs
 split at hs <;> try cases hs
 rename_i el h1
 split at hs <;> try cases hs
 rename_i h2
 unfold aQT at hd
 split at hd <;> try cases hd
 rename_i h3
 have key := run_convert_bytes_arg (P := Γ.P) w t el h1 h2 b off n c (l.map fun c => (c.toNat : Int)) (by simpa using hn) (fun i hi => by
  have hi' : i < l.length := by omega
  have := hr w hw i (.int .u8 l[i].toNat) (by simp [hi'])
  simpa [List.getD, hi'] using this) dst h3
 rw [aPz] at key
 refine cY (v := .string (bs l)) (w' := w) ?_ ⟨_, hw, rfl, rfl⟩
 simp only [execOp, hx, ak, key, ai, av]
end
def yE {w : AI} {b off : Nat} {l : AA} {T : AJ} {fr : Nat × Nat} (h : w.heap[b]? = some (.cells l.toArray T fr)) (v : AH) : (w.setCell ⟨b, off, none⟩ v).heap[b]? = some (.cells (l.set off v).toArray T fr) := by
 unfold World.setCell
 simp only
 rw [fv, if_pos rfl, h]
 simp
def vI {w : AI} {a : Addr} {v : AH} (k : Nat) (hk : k ≠ a.block) : (w.setCell a v).heap[k]? = w.heap[k]? := by
 unfold World.setCell
 simp only
 rw [fv, if_neg (Ne.symm hk)]
def St.setCell {w0 w : AI} {ms : AE} {R : aB} {b off : Nat} {l : AA} {T : AJ} (h : St w0 ms ((b, blk l T) :: R) w) (v : AH) : St w0 ms ((b, blk (l.set off v) T) :: R) (w.setCell ⟨b, off, none⟩ v) :=
 h.turn rfl rfl rfl (by simp) (fun k hk => vI k hk) (yE (h.holds (b, _) (.head _)) v)
def rQ {w : AI} {b off : Nat} {l : AA} {T : AJ} (h : w.heap[b]? = some (blk l T)) : w.frozen? ⟨b, off, none⟩ = false := by
 simp [World.frozen?, h]
def St.after {w0 w w' : AI} {ms : AE} {A B : aB} (h : St w0 ms A w) (h' : St w (A.map (·.1)) B w') : St w0 ms B w' := by
 have h1 : St w0 ms (A ++ []) w := by simpa using h
 have := h1.call (F := A) (ms2 := A.map (·.1)) (fun b hb => eA hb) h'
 simpa using this
end Go.VV
namespace Go.VV
open Go Go.RowKit
section
variable {Γ : Ctx} {e : Env} {H : aB} {d : AD} {ty : AJ} {pos : String} {af : AG} {g : Option (Nat × Bool)}
def aDu {t : AJ} {x y : AK} {T s by_ : Nat} {a a2 : AC} {n cp n2 c2 : Nat} {ts : Array AJ}
  (hx : vnf (ev e x) = some (.slice a n cp)) (hy : vnf (ev e y) = some (.slice a2 n2 c2)) (h0 : n2 = 0) (hts : ts = #[t, t]) (hp : uL Γ.P t = some (T, s, by_)) (hn : n ≤ cp) :
  Op1 Γ ⟨d, .call ⟨.builtin .append, #[x, y], ts⟩, ty, pos, af, g⟩ e H (fun v' H' => v' = .slice a n cp ∧ H' = H) := by
 intro w hw
 subst hts h0
 have hx := aK hx
 have hy := aK hy
 unfold uL at hp
 split at hp <;> try cases hp
 rename_i el hu
 split at hp <;> try cases hp
 rename_i ti hti
 split at hp <;> try cases hp
 rename_i z hz
 split at hp <;> try cases hp
 have key : (Builtin.append_ #[t, t] ty #[.slice a n cp, .slice a2 0 c2]).run Γ.P w = .ok (.slice a n cp) w := by
  cases a <;> cases a2 <;> simp [Builtin.append_, run_underlying hu, sizeOf, typeInfo, hti, Builtin.lenOf, Builtin.firstCells, hn, storeCells, loadCells, loadCellsFrom]
 refine cY (v := .slice a n cp) (w' := w) ?_ ⟨_, hw, rfl, rfl⟩
 simp only [execOp, resolve, ak, av, ai, invoke, builtin, cj, be, ct, hx, hy, key]
end
section
variable {Γ : Ctx} {e : Env} {H : aB} {d : AD} {ty : AJ} {pos : String} {af : AG} {g : Option (Nat × Bool)}
def aNv (P : AL) (t : AJ) : Bool := match P.underlying t with
 | some (.int _) => true
 | _ => false
end
section
variable {P : AL} {e : Env} {d : AD} {ty t : AJ} {pos : String} {af : AG} {g : Option (Nat × Bool)} {x : AK}
def aCN {a : AC} {n c : Nat} (hx : vnf (ev e x) = some (.slice a n c)) (hu : aDX P t = true) :
  bH P e ⟨d, .call ⟨.builtin .cap, #[x], #[t]⟩, ty, pos, af, g⟩ = some (.int .i64 c) := by
 refine aX ?_ rfl
 have hx := aK hx
 unfold aDX at hu
 split at hu
 ·rename_i el h1
  simp only [execOp, resolve, cj, be, ct, hx, eK, invoke, builtin, Builtin.cap_, bind_assoc, cy, dt, bI h1]
  rfl
 ·cases hu
end
def bQ {A B vs : AA} {o n : Nat} (ho : o = A.length + n) (_h : n + vs.length ≤ B.length) : aP (A ++ B) o vs = A ++ aP B n vs := by
 subst ho
 unfold aP
 rw [iw, iy, cw (by omega), dm (by omega), bw, show A.length + n - A.length = n by omega, show A.length + n + vs.length - A.length = n + vs.length by omega]
 simp
def eU {A B vs : AA} {o : Nat} (h : o + vs.length ≤ A.length) : aP (A ++ B) o vs = aP A o vs ++ B := by
 unfold aP
 rw [g9 (by omega), ia (by omega)]
 simp
def kR (l : AB) (o : Nat) (vs : AB) : AB := l.take o ++ vs ++ l.drop (o + vs.length)
def aLR {l vs : AB} {o : Nat} (h : o + vs.length ≤ l.length) : (kR l o vs).length = l.length := by
 unfold kR; simp; omega
def aE3 (k : AM) (l vs : AB) (o : Nat) : aP (l.map (.int k)) o (vs.map (.int k)) = (kR l o vs).map (.int k) := by
 unfold aP kR; simp [ik, f5]
def aMy {l : AB} {o : Nat} (h : o < l.length) (x : Int) : kR l o [x] = l.set o x := by
 unfold kR
 rw [cz, if_pos h]
 simp
def jE {l : AB} {o : Nat} (k : AM) (h : o < l.length) (x : Int) : aP (l.map (.int k)) o [.int k x] = (l.set o x).map (.int k) := by
 have := aE3 k l [x] o
 rw [aMy h] at this
 exact this
def dL {l : AB} {k : AM} {j : Nat} (h : j < l.length) : (l.map (Value.int k))[j]? = some (.int k (l.getD j 0)) := by
 rw [bz, am h, co, am h]; rfl
def eG {A B : AA} {o : Nat} {v : AH} (h : A[o]? = some v) : (A ++ B)[o]? = some v := by
 have hl : o < A.length := (List.getElem?_eq_some_iff.1 h).1
 rw [dp hl]; exact h
def cH {A B : AA} {o n : Nat} {v : AH} (ho : o = A.length + n) (h : B[n]? = some v) : (A ++ B)[o]? = some v := by
 subst ho
 rw [d9 (by omega)]
 simpa using h
def Row.right {w : AI} {b off n : Nat} {A B : AA} (h : Row w b off (A ++ B)) (hn : n = off + A.length) : Row w b n B := fun j v hv => by
 subst hn
 have := h (A.length + j) v (cH rfl hv)
 rwa [← dg] at this
section
variable {Γ : Ctx} {e : Env} {H : aB} {d : AD} {ty : AJ} {pos : String} {af : AG} {g : Option (Nat × Bool)}
def aD {t : AJ} {x y : AK} {b off : Nat} {v : AH} {vs l l' : AA} {T : AJ} (i : Nat)
  (hx : vnf (ev e x) = some (.pointer (some ⟨b, off, none⟩))) (hy : vnf (ev e y) = some v) (hv : qT v = some vs) (hn : fH Γ.P t = some vs.length) (h1 : fE vs = true)
  (hi : H[i]? = some (b, blk l T)) (hl : off + vs.length ≤ l.length) (hp : aP l off vs = l') :
  Op1 Γ ⟨d, .store t x y, ty, pos, af, g⟩ e H (fun u H' => u = undef ∧ H' = H.set i (b, blk l' T)) := by
 subst hp
 exact cQ i hx hy hv hn h1 hi hl
end
end Go.VV
namespace Go.VV
open Go Go.ChangeShapes Go.WideShapes Go.ChangeAt Go.RowKit
inductive KD where
 | int (k : AM)
 | bool
 | str
 | ints (k : AM)
 | rows (ks : List CK)
def aSI (W : AI) : KD → AH → Prop
 | .int k, v => ∃ n, v = .int k n ∧ (Lit.int k n).wf = true
 | .bool, v => ∃ b, v = .bool b
 | .str, v => ∃ s : ByteArray, v = .string s ∧ s.size ≤ maxLen
 | .ints k, v => ∃ (a : AC) (c : Nat) (l : AB), v = .slice a l.length c ∧ l.length ≤ c ∧ l.length ≤ maxLen ∧ (∀ x ∈ l, (Lit.int k x).wf = true) ∧ Ns W k a l
 | .rows ks, v => ∃ (a : AC) (c : Nat) (l : List (List AH)), v = .slice a l.length c ∧ l.length ≤ c ∧ l.length ≤ maxLen ∧ (∀ x ∈ l, Cks ks x) ∧ Els W id a l
def KDs (W : AI) : List KD → AA → Prop
 | [], [] => True
 | k :: ks, v :: vs => aSI W k v ∧ KDs W ks vs
 | _, _ => False
def KDs.len {W : AI} : ∀ {a : List KD} {x : AA}, KDs W a x → a.length = x.length
 | [], [], _ => rfl
 | _ :: _, _ :: _, h => by simp [KDs.len h.2]
 | [], _ :: _, h => h.elim
 | _ :: _, [], h => h.elim
section
variable {Γ : Ctx} {e : Env} {H : aB} {d : AD} {ty : AJ} {pos : String} {af : AG} {g : Option (Nat × Bool)}
def aHE {t tn : AJ} {x y : AK} {T s by_ : Nat} {n : Nat} {kk : AM} {ts : Array AJ}
  (hx : vnf (ev e x) = some (.slice none 0 0)) (hy : vnf (ev e y) = some (.int kk n)) (hts : ts = #[t, tn]) (htn : aNv Γ.P tn = true) (hp : uL Γ.P t = some (T, s, by_))
  (h0 : 0 < n) (hlen : n ≤ 1000000) (hb : by_ ≤ 1000) :
  Op1 Γ ⟨d, .call ⟨.builtin .append, #[x, y], ts⟩, ty, pos, af, g⟩ e H (fun v' H' => ∃ b' cap sp, v' = .slice (some ⟨b', 0, none⟩) n cap ∧ H' = (b', blk sp T) :: H ∧ sp.length = cap * s ∧ n ≤ cap ∧ cap ≤ maxLen) := by
 intro w hw
 subst hts
 have hx := aK hx
 have hy := aK hy
 unfold aNv at htn
 split at htn <;> try cases htn
 rename_i kn hkn
 unfold uL at hp
 split at hp <;> try cases hp
 rename_i el hu
 split at hp <;> try cases hp
 rename_i ti hti
 split at hp <;> try cases hp
 rename_i z hz
 split at hp <;> try cases hp
 rename_i hzs
 obtain ⟨hz1, hz2⟩ := hzs
 have h48 : n * ti.bytes ≤ 281474976710656 := by
  have : n * ti.bytes ≤ 1000000 * 1000 := Nat.mul_le_mul hlen hb
  omega
 have key := Lib.run_append_nil_zeros (P := Γ.P) w t tn ty T ti z kk kn hu hkn hti hz n h0 hz2 (by omega) h48
 have hge := grownCap_ge w n 0 T
 have hcm : grownCap w n 0 T ≤ maxLen := grownCap_le_maxLen w n 0 T (by unfold maxLen; omega)
 generalize hZ : (Builtin.zeroCells z.cells n ++ Builtin.zeroCells z.cells (grownCap w n 0 T - n)) = Z at key
 have hzl : Z.size = grownCap w n 0 T * ti.size := by
  rw [← hZ]
  simp only [Array.size_append, size_zeroCells, hz1, ← i9]
  congr 1
  omega
 obtain ⟨Z⟩ := Z
 refine cY (v := .slice (some ⟨w.heap.size, 0, none⟩) n (grownCap w n 0 T)) (w' := w.drew.alloc (blk Z T)) ?_ ⟨_, hw.drew.alloc _, w.heap.size, grownCap w n 0 T, Z, rfl, rfl, by simpa using hzl, hge, hcm⟩
 simp only [execOp, resolve, ak, av, ai, invoke, builtin, cj, be, ct, hx, hy, key]
end
end Go.VV
namespace Go.VV
open Go Go.RowKit
def lL {n : Int} (h1 : -9223372036854775808 ≤ n) (h2 : n ≤ 9223372036854775807) : Value.int .i64 (IntKind.i64.wrap n) = .int .i64 n := congrArg _ (aI h1 h2)
def aDJ {n : Int} (h1 : 0 ≤ n) (h2 : n < 256) : Value.int .u8 (IntKind.u8.wrap n) = .int .u8 n := congrArg _ (oU h1 h2)
def zC {n : Int} (h1 : 0 ≤ n) (h2 : n < 65536) : Value.int .u16 (IntKind.u16.wrap n) = .int .u16 n := congrArg _ (eV h1 h2)
def qX {n : Int} (h1 : 0 ≤ n) (h2 : n < 18446744073709551616) : Value.int .u64 (IntKind.u64.wrap n) = .int .u64 n := congrArg _ (iT h1 h2)
def aBt (n : Int) : Value.int .u8 (IntKind.u8.wrap n) = .int .u8 (n % 256) := congrArg _ (eX n)
def vV (n : Int) : Value.int .u16 (IntKind.u16.wrap n) = .int .u16 (n % 65536) := congrArg _ (eT n)
def zX (n : Int) : Value.int .u64 (IntKind.u64.wrap n) = .int .u64 (n % 18446744073709551616) := congrArg _ (aBf n)
def aQC {k : AM} {a b : Int} (h : 0 ≤ a) : Value.int k (a.tmod b) = .int k (a % b) := congrArg _ (Int.tmod_eq_emod_of_nonneg h)
def iE : AM → Int
 | .u8 => 256
 | .u16 => 65536
 | .u64 => 18446744073709551616
 | .i64 => 9223372036854775808
 | _ => 0
def zY {k : AM} {n : Int} (h1 : 0 ≤ n) (h2 : n < iE k) : k.wrap n = n := by
 cases k <;> simp only [iE] at h2 <;> first | omega | exact oU h1 h2 | exact eV h1 h2 | exact iT h1 h2 | exact aI (by omega) (by omega)
def aAc {k : AM} {n : Int} (h1 : 0 ≤ n) (h2 : n < iE k) : (BitVec.ofInt k.bits n).toNat = n.toNat := by
 have : n < 2 ^ k.bits := by cases k <;> simp only [iE] at h2 <;> simp only [IntKind.bits] <;> omega
 rw [ep, Int.emod_eq_of_lt h1 (by simpa using this)]
def aRw {k : AM} {a b : Int} (h1 : 0 ≤ a) (h2 : a < iE k) (hb : 0 < b) : Value.int k (k.wrap (a.tdiv b)) = .int k (a / b) := by
 rw [il h1, zY (gw h1 (by omega)) (Int.lt_of_le_of_lt (gl _ h1) h2)]
def iK {k : AM} {a n : Int} (d : Int) (h : 2 ^ min n.toNat k.bits = d) (hd : 0 < d) : Value.int k (shr k a n) = .int k (a / d) := by
 unfold shr
 rw [h, dv _ (by omega)]
def aBC {k : AM} {a n : Int} (d : Int) (h : 2 ^ min n.toNat k.bits = d) : shl k a n = k.wrap (a * d) := by unfold shl; rw [h]
def sS {k : AM} {a n : Int} (d : Int) (h : 2 ^ min n.toNat k.bits = d) (h1 : 0 ≤ a * d) (h2 : a * d < iE k) : Value.int k (shl k a n) = .int k (a * d) := by rw [aBC d h, zY h1 h2]
def aCl {a n : Int} (d : Int) (h : 2 ^ min n.toNat 8 = d) : Value.int .u8 (shl .u8 a n) = .int .u8 (a * d % 256) := by rw [aBC d h, eX]
def aLW {a n : Int} (d : Int) (h : 2 ^ min n.toNat 16 = d) : Value.int .u16 (shl .u16 a n) = .int .u16 (a * d % 65536) := by rw [aBC d h, eT]
def aFM {k : AM} {a b : Int} (h1 : 0 ≤ a) (h2 : a < iE k) (h3 : 0 ≤ b) (h4 : b < iE k) : aG k a b = ((a.toNat &&& b.toNat : Nat) : Int) := by
 unfold aG
 rw [fz, aAc h1 h2, aAc h3 h4]
 refine zY (ic _) ?_
 have := Nat.and_le_left (n := a.toNat) (m := b.toNat)
 omega
def aPY {k : AM} {a b : Int} (h1 : 0 ≤ a) (h2 : a < iE k) (h3 : 0 ≤ b) (h4 : b < iE k) : bor k a b = ((a.toNat ||| b.toNat : Nat) : Int) := by
 unfold bor
 rw [BitVec.toNat_or, aAc h1 h2, aAc h3 h4]
 refine zY (ic _) ?_
 have hm : ∃ m : Nat, iE k = ((2 ^ m : Nat) : Int) ∨ iE k = 0 := by
  cases k <;> first | exact ⟨8, .inl rfl⟩ | exact ⟨16, .inl rfl⟩ | exact ⟨64, .inl rfl⟩ | exact ⟨63, .inl rfl⟩ | exact ⟨0, .inr rfl⟩
 obtain ⟨m, hm | hm⟩ := hm
 ·have h5 : a.toNat < 2 ^ m := by rw [hm] at h2; omega
  have h6 : b.toNat < 2 ^ m := by rw [hm] at h4; omega
  have := Nat.or_lt_two_pow h5 h6
  rw [hm]; omega
 ·omega
def aJB {k : AM} {a b : Int} (n : Nat) (d : Int) (hd : ((2 ^ n : Nat) : Int) = d) (hb : b = d - 1) (h1 : 0 ≤ a) (h2 : a < iE k) (h4 : b < iE k) : aG k a b = a % d := by
 have hp : 0 < (2 : Nat) ^ n := i6 n
 rw [aFM h1 h2 (by omega) h4]
 have : b.toNat = 2 ^ n - 1 := by omega
 rw [this, dx, ← hd]
 obtain ⟨m, rfl⟩ : ∃ m : Nat, a = m := ⟨a.toNat, by omega⟩
 simp
def gR {k : AM} {a b : Int} (n : Nat) (d : Int) (hd : ((2 ^ n : Nat) : Int) = d) (hb : b = d - 1) (h1 : 0 ≤ a) (h2 : a < iE k) (h4 : b < iE k) : Value.int k (aG k a b) = .int k (a % d) := congrArg _ (aJB n d hd hb h1 h2 h4)
def aLp {k : AM} {a b : Int} (n : Nat) (hb : ((2 ^ n : Nat) : Int) = b) (h1 : 0 ≤ a) (h2 : a < iE k) (h4 : b < iE k) : aG k a b = a / b % 2 * b := by
 have hp : 0 < (2 : Nat) ^ n := i6 n
 rw [aFM h1 h2 (by omega) h4]
 have hbn : b.toNat = 2 ^ n := by omega
 rw [hbn]
 have key : a.toNat &&& 2 ^ n = (a.toNat / 2 ^ n % 2) * 2 ^ n := by
  apply gx
  intro i
  rw [i7, Nat.testBit_two_pow]
  by_cases hi : n = i
  ·subst hi
   simp only [decide_true, Bool.and_true]
   rw [Nat.testBit_mul_two_pow]
   simp [Nat.testBit_eq_decide_div_mod_eq]
  ·simp only [hi, decide_false, Bool.and_false]
   rw [Nat.testBit_mul_two_pow]
   rcases dh i n with h | h
   ·simp [show ¬ n ≤ i by omega]
   ·rcases Nat.mod_two_eq_zero_or_one (a.toNat / 2 ^ n) with h3 | h3 <;> rw [h3]
    ·simp
    ·obtain ⟨q, hq⟩ : ∃ q, i - n = q + 1 := ⟨i - n - 1, by omega⟩
     rw [hq, Nat.testBit_succ]
     simp
 rw [key]
 obtain ⟨m, rfl⟩ : ∃ m : Nat, a = m := ⟨a.toNat, by omega⟩
 rw [← hb]
 simp
def sO {k : AM} {a b : Int} (n : Nat) (hb : ((2 ^ n : Nat) : Int) = b) (h1 : 0 ≤ a) (h2 : a < iE k) (h4 : b < iE k) : Value.int k (aG k a b) = .int k (a / b % 2 * b) := congrArg _ (aLp n hb h1 h2 h4)
section
variable {P : AL} {e : Env} {d : AD} {ty t u : AJ} {pos : String} {af : AG} {g : Option (Nat × Bool)} {x y : AK} {k : AM} {a b : Int}
def jI (hx : vnf (ev e x) = some (.int k a)) (hy : vnf (ev e y) = some (.int k b)) : bH P e ⟨d, .binOp .add t x y u, ty, pos, af, g⟩ = some (.int k (k.wrap (a + b))) := by
 refine aX ?_ rfl
 simp [execOp, eqGuard, aK hx, aK hy, binOp, Op.intArith, bM, bind, Sem.bind, pure]
def iB (hx : vnf (ev e x) = some (.int k a)) (hy : vnf (ev e y) = some (.int k b)) : bH P e ⟨d, .binOp .sub t x y u, ty, pos, af, g⟩ = some (.int k (k.wrap (a - b))) := by
 refine aX ?_ rfl
 simp [execOp, eqGuard, aK hx, aK hy, binOp, Op.intArith, bM, bind, Sem.bind, pure]
def aAm (hx : vnf (ev e x) = some (.int k a)) (hy : vnf (ev e y) = some (.int k b)) : bH P e ⟨d, .binOp .mul t x y u, ty, pos, af, g⟩ = some (.int k (k.wrap (a * b))) := by
 refine aX ?_ rfl
 simp [execOp, eqGuard, aK hx, aK hy, binOp, Op.intArith, bM, bind, Sem.bind, pure]
def bA (hx : vnf (ev e x) = some (.int k a)) (hy : vnf (ev e y) = some (.int k b)) : bH P e ⟨d, .binOp .and t x y u, ty, pos, af, g⟩ = some (.int k (aG k a b)) := by
 refine aX ?_ rfl
 simp [execOp, eqGuard, aK hx, aK hy, binOp, Op.intBits, bM, bind, Sem.bind, pure, aG]
def cM (hx : vnf (ev e x) = some (.int k a)) (hy : vnf (ev e y) = some (.int k b)) : bH P e ⟨d, .binOp .or t x y u, ty, pos, af, g⟩ = some (.int k (bor k a b)) := by
 refine aX ?_ rfl
 simp [execOp, eqGuard, aK hx, aK hy, binOp, Op.intBits, bM, bind, Sem.bind, pure, bor]
def aDL (hx : vnf (ev e x) = some (.int k a)) (hy : vnf (ev e y) = some (.int k b)) : bH P e ⟨d, .binOp .xor t x y u, ty, pos, af, g⟩ = some (.int k (jZ k a b)) := by
 refine aX ?_ rfl
 simp [execOp, eqGuard, aK hx, aK hy, binOp, Op.intBits, bM, bind, Sem.bind, pure, jZ]
def sJ (hx : vnf (ev e x) = some (.int k a)) (hy : vnf (ev e y) = some (.int k b)) : bH P e ⟨d, .binOp .andNot t x y u, ty, pos, af, g⟩ = some (.int k (iO k a b)) := by
 refine aX ?_ rfl
 simp [execOp, eqGuard, aK hx, aK hy, binOp, Op.intBits, bM, bind, Sem.bind, pure, iO]
def aNp (P : AL) (t : AJ) : Option AM := match P.underlying t with
 | some (.int k) => some k
 | _ => none
def dM {src dst : AJ} {k2 : AM} {n : Int} (hx : vnf (ev e x) = some (.int k n)) (hs : aNp P src = some k) (hd : aNp P dst = some k2) : bH P e ⟨d, .convert src dst x, ty, pos, af, g⟩ = some (.int k2 (k2.wrap n)) := by
 refine aX ?_ rfl
 unfold aNp at hs hd
 split at hs <;> try cases hs
 split at hd <;> try cases hd
 rename_i h1 _ h2
 simp only [execOp, convert, bind_assoc, bI h1, bI h2, aK hx]
 rfl
end
end Go.VV
namespace Go.VV
def aDP {a b : Int} (h : (a != b) = true) : a ≠ b := by simpa using h
def aDK {a b : Int} (h : (a != b) = false) : a = b := by simpa using h
end Go.VV
namespace Go.VV
def Vec.cap_le {T s n m c : Nat} {a : AC} {xs : AA} {G : aB} (h : Vec T s (.slice a m c) n xs G) : n ≤ c ∧ m = n := by
 cases h with
 | nil => exact ⟨ax _, rfl⟩
 | row b n cap xs sp hn hc hm hle => exact ⟨hle, rfl⟩
section
variable {Γ : Ctx} {e : Env} {H : aB} {d : AD} {t : AJ} {pos : String} {af : AG} {g : Option (Nat × Bool)}
def aMt {x y : AK} {ts : Array AJ} {tx ty el : AJ} {b off dl dc m : Nat} {u : AH} {l l' ys : AA} {T : AJ} (i : Nat)
  (hx : vnf (ev e x) = some (.slice (some ⟨b, off, none⟩) dl dc)) (hy : ev e y = u) (hts : ts = #[tx, ty]) (hu : nL Γ.P tx = some (el, 1))
  (hi : H[i]? = some (b, blk l T)) (hs : ∀ w, St Γ.w0 Γ.ms H w → Src w 1 u m ys) (h1 : fE ys = true) (hl : off + min m dl ≤ l.length) (hp : aP l off (ys.take (min m dl)) = l') :
  Op1 Γ ⟨d, .call ⟨.builtin .copy, #[x, y], ts⟩, t, pos, af, g⟩ e H (fun v H' => v = .int .i64 (min m dl : Nat) ∧ H' = H.set i (b, blk l' T)) := by
 subst hp
 exact aJb i hx hy hts hu hi hs h1 hl
end
def sA {off l c : Nat} (h : c ≠ l) : cut1 off l c = off + l := by unfold cut1; rw [if_neg h]
def Row.dropK {k : AM} {w : AI} {b off : Nat} {l : AB} (h : Row w b off (l.map (.int k))) (n : Nat) : Row w b (off + n) ((l.drop n).map (.int k)) := fun j v hv => by
 have := h (n + j) v (by
  rw [bz, db] at hv
  rw [bz]; exact hv)
 rwa [← dg] at this
def Row.takeK {k : AM} {w : AI} {b off : Nat} {l : AB} (h : Row w b off (l.map (.int k))) (n : Nat) : Row w b off ((l.take n).map (.int k)) := fun j v hv => h j v (by
 rw [bz, dz] at hv
 split at hv
 ·rw [bz]; exact hv
 ·simp at hv)
def yO (l : AB) (n j : Nat) : (l.drop n).getD j 0 = l.getD (n + j) 0 := by simp [co, db]
def aCX (l : AB) {n j : Nat} (h : j < n) : (l.take n).getD j 0 = l.getD j 0 := by rw [co, List.getElem?_take_of_lt h, ← co]
end Go.VV
namespace Go.VV
open Go Go.RowKit
def m_m {p : Prop} (h : p := by repeat (first | exact .head _ | refine .tail _ ?_ | refine et _ ?_)) : p := h
def a_g {p : Prop} (h : p := by repeat (first | exact dU.refl _ _ | exact dU.mix rfl | refine dU.put rfl ?_ | refine dU.keep rfl ?_)) : p := h
def r_f {p q : Prop} (h : p) (k : p → q := by first | exact c7 | exact df | exact eq_of_beq | exact ne_of_beq_false | exact aDP | exact aDK | exact id) : q := k h
def s_z {p : Prop} (h : p := by first | rfl | exact ag rfl | (simp; done)) : p := h
def s_t {p : Prop} (h : p := by first | exact cQ 0 rfl rfl rfl rfl rfl rfl s_z | exact cQ 1 rfl rfl rfl rfl rfl rfl s_z | exact cQ 2 rfl rfl rfl rfl rfl rfl s_z | exact cQ 3 rfl rfl rfl rfl rfl rfl s_z) : p := h
def l_n {p : Prop} (h : p := by first | exact aDh rfl rfl | exact aBw rfl rfl | rfl) : p := h
def o_m {p : Prop} (h : p := by omega) : p := h
def c_u {p q : Prop} (k : p) (h : p → q := by intro k; simp only [cg, bw, ap, cn]; exact k) : q := h k
def n_h {p : Prop} (h : p := by intro h; cases h) : p := h
section
variable {P : AL} {Γ : Ctx} {k : dS} {e : Env} {H F : aB} {ops rest : List Oper} {d : AD} {op : Op} {t : AJ} {pos : String} {af : AG} {g : Option (Nat × Bool)}
  {need : AE} {pl : hQ} {i : Nat} {S : AI → Prop}
def Rl {v : AH} (h : L1 Γ ops rest k (e.put d v) H) (hl : bH Γ.P e ⟨d, op, t, pos, af, g⟩ = some v := by exact rfl) (hg : gdB ops e ⟨d, op, t, pos, af, g⟩ = true := by exact rfl) (hd : cJ Γ.n d = true := by exact rfl) :
    L1 Γ ops (⟨d, op, t, pos, af, g⟩ :: rest) k e H := l_l hl hg hd h
def RLa {u f : Nat} {x : AK} {v : AH} (h : L1 Γ ops rest k (e.put d v) H) (hl : bH Γ.P e ⟨d, .fieldAddr u x f, t, pos, af, g⟩ = some v := by exact qE rfl rfl) (hg : gdB ops e ⟨d, .fieldAddr u x f, t, pos, af, g⟩ = true := by exact rfl) (hd : cJ Γ.n d = true := by exact rfl) :
    L1 Γ ops (⟨d, .fieldAddr u x f, t, pos, af, g⟩ :: rest) k e H := l_l hl hg hd h
def RLp (h : L1 Γ ops rest k (e.put d undef) H) (hg : gdB ops e ⟨d, op, t, pos, af, g⟩ = false := by exact rfl) (hd : cJ Γ.n d = true := by exact rfl) : L1 Γ ops (⟨d, op, t, pos, af, g⟩ :: rest) k e H := l_p hg hd h
def RD {v : AH} (h : L2 Γ ops S need pl k (e.put d v) H) (ho : ops[i]? = some ⟨d, op, t, pos, af, g⟩ := by exact rfl) (hl : bH Γ.P e ⟨d, op, t, pos, af, g⟩ = some v := by exact rfl) (hv : nJ v = true := by exact rfl)
    (hg : gdB ops e ⟨d, op, t, pos, af, g⟩ = true := by exact rfl) (hd : cJ Γ.n d = true := by exact rfl) : L2 Γ ops S need (.step true i pl) k e H := pN ho hl hv hg hd h
def RDa {v : AH} (h : L2 Γ ops S need pl k (e.put d v) H) (ho : ops[i]? = some ⟨d, op, t, pos, af, g⟩ := by exact rfl) (hl : bH Γ.P e ⟨d, op, t, pos, af, g⟩ = some v := by exact qE rfl rfl) (hv : nJ v = true := by exact rfl)
    (hg : gdB ops e ⟨d, op, t, pos, af, g⟩ = true := by exact rfl) (hd : cJ Γ.n d = true := by exact rfl) : L2 Γ ops S need (.step true i pl) k e H := pN ho hl hv hg hd h
def RLo {T : AJ} {x : AK} {b off : Nat} {l : AA} {U : AJ} {fr : Nat × Nat} {v : AH} (h : L1 Γ ops rest k (e.put d v) H) (hx : vnf (ev e x) = some (.pointer (some ⟨b, off, none⟩)) := by exact rfl) (hs : lF Γ.P T = true := by exact rfl)
    (hm : (b, Obj.cells l.toArray U fr) ∈ H := by exact m_m) (hv : l[off]? = some v := by exact rfl) (hg : gdB ops e ⟨d, .load T x, t, pos, af, g⟩ = true := by exact rfl) (hd : cJ Γ.n d = true := by exact rfl) :
    L1 Γ ops (⟨d, .load T x, t, pos, af, g⟩ :: rest) k e H := l_x (aH hx hs (aT hm hv)) hg hd (by rintro _ _ ⟨rfl, rfl⟩; exact h)
def RDo {T : AJ} {x : AK} {b off : Nat} {l : AA} {U : AJ} {fr : Nat × Nat} {v : AH} (h : L2 Γ ops (fN Γ F) need pl k (e.put d v) H) (ho : ops[i]? = some ⟨d, .load T x, t, pos, af, g⟩ := by exact rfl) (hx : vnf (ev e x) = some (.pointer (some ⟨b, off, none⟩)) := by exact rfl) (hs : lF Γ.P T = true := by exact rfl)
    (hm : (b, Obj.cells l.toArray U fr) ∈ F := by exact m_m) (hv : l[off]? = some v := by exact rfl) (hg : gdB ops e ⟨d, .load T x, t, pos, af, g⟩ = true := by exact rfl) (hd : cJ Γ.n d = true := by exact rfl) :
    L2 Γ ops (fN Γ F) need (.step true i pl) k e H := aKi ho hx hs (cZ hm hv) hg hd h
def RLb {b : Bool} (ht : b = true → L1 Γ ops rest k (e.put d (.bool true)) H) (hf : b = false → L1 Γ ops rest k (e.put d (.bool false)) H) (hl : bH Γ.P e ⟨d, op, t, pos, af, g⟩ = some (.bool b) := by exact rfl) (hg : gdB ops e ⟨d, op, t, pos, af, g⟩ = true := by exact rfl) (hd : cJ Γ.n d = true := by exact rfl) :
    L1 Γ ops (⟨d, op, t, pos, af, g⟩ :: rest) k e H := l_b hl hg hd ht hf
def RLv {f : Nat} {l : AF} {ts : Array AJ} {vs : AA} {u : AH} (hc : cL Γ.P f = true) (hf : ∀ w, St Γ.w0 Γ.ms H w → aC Γ.P f vs w [] (fun v H' => H' = [] ∧ v = u))
    (h : L1 Γ ops rest k (e.put d u) H) (hv : evs e l = some vs := by exact rfl) (hg : gdB ops e ⟨d, .call ⟨.value (.func f), l.toArray, ts⟩, t, pos, af, g⟩ = true := by exact rfl) (hd : cJ Γ.n d = true := by exact rfl) :
    L1 Γ ops (⟨d, .call ⟨.value (.func f), l.toArray, ts⟩, t, pos, af, g⟩ :: rest) k e H := l_x (aZ hc hv hf) hg hd (by rintro _ _ ⟨rfl, rfl⟩; exact h)
end
structure Wr (q : Prop) : Prop where
  u : q
def G_L {p q : Prop} (k_ : q) (h : Wr q → p := by intro k_; (first | refine RLa ?_ | refine RLo ?_ | refine RLp ?_ | refine Rl ?_); exact k_.u) : p := h ⟨k_⟩
def G_D {p q : Prop} (k_ : q) (h : Wr q → p := by intro k_; (first | refine RDa ?_ | refine RDo ?_ | refine aKo rfl rfl rfl ?_ | refine RD ?_); exact k_.u) : p := h ⟨k_⟩
section
variable {P : AL} {Γ : Ctx} {k : dS} {e : Env} {H F L : aB} {ops rest : List Oper} {d : AD} {op : Op} {t : AJ} {pos : String} {af : AG} {g : Option (Nat × Bool)}
  {need : AE} {pl : hQ} {i : Nat} {S : AI → Prop} {T F1 : Prop}
def KC {c : AK} {x y : Code} {b : Bool} (h1 : b = true → T → C Γ x k e L) (h2 : b = false → F1 → C Γ y k e L) (hc : ev e c = .bool b := by exact rfl)
    (k1 : b = true → T := by first | exact c7 | exact eq_of_beq | exact aDP | exact id) (k2 : b = false → F1 := by first | exact df | exact ne_of_beq_false | exact aDK | exact id) : C Γ (.cond c x y) k e L :=
  aBM hc (fun h => h1 h (k1 h)) (fun h => h2 h (k2 h))
def KL {b : Bool} (ht : b = true → T → L1 Γ ops rest k (e.put d (.bool true)) H) (hf : b = false → F1 → L1 Γ ops rest k (e.put d (.bool false)) H) (hl : bH Γ.P e ⟨d, op, t, pos, af, g⟩ = some (.bool b) := by exact rfl) (hg : gdB ops e ⟨d, op, t, pos, af, g⟩ = true := by exact rfl) (hd : cJ Γ.n d = true := by exact rfl)
    (k1 : b = true → T := by first | exact c7 | exact eq_of_beq | exact aDP | exact id) (k2 : b = false → F1 := by first | exact df | exact ne_of_beq_false | exact aDK | exact id) :
    L1 Γ ops (⟨d, op, t, pos, af, g⟩ :: rest) k e H := l_b hl hg hd (fun h => ht h (k1 h)) (fun h => hf h (k2 h))
def KE {b : Bool} (ht : b = true → T → L2 Γ ops S need pl k (e.put d (.bool true)) H) (hf : b = false → F1 → L2 Γ ops S need pl k (e.put d (.bool false)) H) (ho : ops[i]? = some ⟨d, op, t, pos, af, g⟩ := by exact rfl) (hl : bH Γ.P e ⟨d, op, t, pos, af, g⟩ = some (.bool b) := by exact rfl) (hg : gdB ops e ⟨d, op, t, pos, af, g⟩ = true := by exact rfl) (hd : cJ Γ.n d = true := by exact rfl)
    (k1 : b = true → T := by first | exact c7 | exact eq_of_beq | exact aDP | exact id) (k2 : b = false → F1 := by first | exact df | exact ne_of_beq_false | exact aDK | exact id) :
    L2 Γ ops S need (.step true i pl) k e H := aRi ho hl hg hd (fun h => ht h (k1 h)) (fun h => hf h (k2 h))
def RX {K : AH → aB → Prop} (hop : Op1 Γ ⟨d, op, t, pos, af, g⟩ e H K) (hg : (gdB ops e ⟨d, op, t, pos, af, g⟩ && cJ Γ.n d) = true) (hk : ∀ v H', K v H' → L1 Γ ops rest k (e.put d v) H') :
    L1 Γ ops (⟨d, op, t, pos, af, g⟩ :: rest) k e H := l_x hop (Bool.and_eq_true_iff.1 hg).1 (Bool.and_eq_true_iff.1 hg).2 hk
def RY {v : AH} (hl : bH Γ.P e ⟨d, op, t, pos, af, g⟩ = some v) (hg : (gdB ops e ⟨d, op, t, pos, af, g⟩ && cJ Γ.n d) = true) (h : L1 Γ ops rest k (e.put d v) H) :
    L1 Γ ops (⟨d, op, t, pos, af, g⟩ :: rest) k e H := l_l hl (Bool.and_eq_true_iff.1 hg).1 (Bool.and_eq_true_iff.1 hg).2 h
def RW {v u : AH} (hl : bH Γ.P e ⟨d, op, t, pos, af, g⟩ = some u) (hg : (gdB ops e ⟨d, op, t, pos, af, g⟩ && cJ Γ.n d) = true) (hv : u = v) (h : L1 Γ ops rest k (e.put d v) H) :
    L1 Γ ops (⟨d, op, t, pos, af, g⟩ :: rest) k e H := aSM hl (Bool.and_eq_true_iff.1 hg).1 (Bool.and_eq_true_iff.1 hg).2 hv h
def DX {K : AH → aB → Prop} (ho : ops[i]? = some ⟨d, op, t, pos, af, g⟩) (hop : Op1 Γ ⟨d, op, t, pos, af, g⟩ e H K) (hg : (gdB ops e ⟨d, op, t, pos, af, g⟩ && cJ Γ.n d) = true) (hn : need.any (Nat.beq i) = true → ∀ v H', K v H' → ∀ x ∈ F, x ∈ H')
    (hk : ∀ v H', K v H' → L2 Γ ops (fN Γ F) need pl k (e.put d v) H') :
    L2 Γ ops (fN Γ F) need (.step false i pl) k e H := d_x ho hop (Bool.and_eq_true_iff.1 hg).1 (Bool.and_eq_true_iff.1 hg).2 hn hk
def DW {v u : AH} (ho : ops[i]? = some ⟨d, op, t, pos, af, g⟩) (hl : bH Γ.P e ⟨d, op, t, pos, af, g⟩ = some u) (hg : (nJ u && (gdB ops e ⟨d, op, t, pos, af, g⟩ && cJ Γ.n d)) = true) (hv : u = v) (h : L2 Γ ops S need pl k (e.put d v) H) :
    L2 Γ ops S need (.step true i pl) k e H := aSF ho hl (Bool.and_eq_true_iff.1 hg).1 (Bool.and_eq_true_iff.1 (Bool.and_eq_true_iff.1 hg).2).1 (Bool.and_eq_true_iff.1 (Bool.and_eq_true_iff.1 hg).2).2 hv h
def DY {v : AH} (ho : ops[i]? = some ⟨d, op, t, pos, af, g⟩) (hl : bH Γ.P e ⟨d, op, t, pos, af, g⟩ = some v) (hg : (nJ v && (gdB ops e ⟨d, op, t, pos, af, g⟩ && cJ Γ.n d)) = true) (h : L2 Γ ops S need pl k (e.put d v) H) :
    L2 Γ ops S need (.step true i pl) k e H := pN ho hl (Bool.and_eq_true_iff.1 hg).1 (Bool.and_eq_true_iff.1 (Bool.and_eq_true_iff.1 hg).2).1 (Bool.and_eq_true_iff.1 (Bool.and_eq_true_iff.1 hg).2).2 h
def DL {T : AJ} {x : AK} {b off : Nat} {v : AH} (ho : ops[i]? = some ⟨d, .load T x, t, pos, af, g⟩) (hx : vnf (ev e x) = some (.pointer (some ⟨b, off, none⟩))) (hs : lF Γ.P T = true)
    (hc : ∀ w, fN Γ F w → w.cell? ⟨b, off, none⟩ = some v) (hg : (gdB ops e ⟨d, .load T x, t, pos, af, g⟩ && cJ Γ.n d) = true) (h : L2 Γ ops (fN Γ F) need pl k (e.put d v) H) :
    L2 Γ ops (fN Γ F) need (.step true i pl) k e H := aKi ho hx hs hc (Bool.and_eq_true_iff.1 hg).1 (Bool.and_eq_true_iff.1 hg).2 h
def RZ {v : AH} {H2 : aB} (hop : Op1 Γ ⟨d, op, t, pos, af, g⟩ e H (fun u H' => u = v ∧ H' = H2)) (hg : (gdB ops e ⟨d, op, t, pos, af, g⟩ && cJ Γ.n d) = true) (hk : L1 Γ ops rest k (e.put d v) H2) :
    L1 Γ ops (⟨d, op, t, pos, af, g⟩ :: rest) k e H := RX hop hg (by rintro _ _ ⟨rfl, rfl⟩; exact hk)
def DZ {v : AH} {H2 : aB} (ho : ops[i]? = some ⟨d, op, t, pos, af, g⟩) (hop : Op1 Γ ⟨d, op, t, pos, af, g⟩ e H (fun u H' => u = v ∧ H' = H2)) (hg : (gdB ops e ⟨d, op, t, pos, af, g⟩ && cJ Γ.n d) = true) (hn : need.any (Nat.beq i) = true → ∀ u H', (u = v ∧ H' = H2) → ∀ x ∈ F, x ∈ H')
    (hk : L2 Γ ops (fN Γ F) need pl k (e.put d v) H2) : L2 Γ ops (fN Γ F) need (.step false i pl) k e H := DX ho hop hg hn (by rintro _ _ ⟨rfl, rfl⟩; exact hk)
def RS {v : AH} (h : L1 Γ ops rest k (e.put d v) H) (hl : bH Γ.P e ⟨d, op, t, pos, af, g⟩ = some v := by exact eB rfl rfl rfl rfl) (hg : (gdB ops e ⟨d, op, t, pos, af, g⟩ && cJ Γ.n d) = true := by exact rfl) :
    L1 Γ ops (⟨d, op, t, pos, af, g⟩ :: rest) k e H := RY hl hg h
def E0 {Γ : Ctx} {s : Nat} {R : AH → aB → Prop} {v : AH} (hv : vnf (e s) = some v) (h : R v []) : nE Γ [.tmp s] R e H := aF (fun _ _ => sN hv) h
def EV {Γ : Ctx} {s : Nat} {R : AH → aB → Prop} {H' : aB} {v : AH} (hv : vnf (e s) = some v) (hh : H'.Sublist H) (h : R v H') : nE Γ [.tmp s] R e H := iN (fun _ _ => sN hv) hh h
def EN {Γ : Ctx} {R : AH → aB → Prop} {H' : aB} (hh : H'.Sublist H) (h : R (.tuple #[]) H') : nE Γ [] R e H := iN (fun _ _ => eL) hh h
end
@[reducible] def pln : AE → hQ
  | [] => .done
  | n :: l => .step (Nat.beq (n % 2) 0) (n / 2) (pln l)
def DR {Γ : Ctx} {k : dS} {e : Env} {H : aB} {id : Nat} {l : List Oper} (need : AE) (pl : hQ) (h : L2 Γ l (fN Γ H) need pl k e H) (hm : Γ.P.follows .mixedOrders = true := by exact rfl) (hs : wT l.toArray = true := by kernel_rfl)
    (hB : gO .any l.toArray (fun i => need.any (Nat.beq i)) pl l.toArray.size true (Array.replicate l.toArray.size false) true = true := by kernel_rfl) : C Γ (.region id l.toArray true) k e H := gM H need pl hm hs hB (fun _ h => h) h
end Go.VV
namespace Go.VV
open Go Go.ChangeShapes Go.WideShapes Go.ChangeAt Go.RowKit
inductive NK where
 | int (k : AM)
 | bool
 | str
 | ints (k : AM)
 | rows (ks : List CK)
def aSQ (W : AI) : NK → AH → Prop
 | .int k, v => ∃ n, v = .int k n ∧ (Lit.int k n).wf = true
 | .bool, v => ∃ b, v = .bool b
 | .str, v => ∃ s : ByteArray, v = .string s ∧ s.size ≤ maxLen
 | .ints k, v => ∃ (a : AC) (c : Nat) (l : AB), v = .slice a l.length c ∧ l.length ≤ c ∧ l.length ≤ maxLen ∧ (∀ x ∈ l, (Lit.int k x).wf = true) ∧ Ns W k a l
 | .rows ks, v => ∃ (a : AC) (c : Nat) (l : List (List AH)), v = .slice a l.length c ∧ l.length ≤ c ∧ l.length ≤ maxLen ∧ (∀ x ∈ l, Cks ks x) ∧ Els W id a l
def Nks (W : AI) : List NK → AA → Prop
 | [], [] => True
 | k :: ks, v :: vs => aSQ W k v ∧ Nks W ks vs
 | _, _ => False
def Nks.len {W : AI} : ∀ {a : List NK} {x : AA}, Nks W a x → a.length = x.length
 | [], [], _ => rfl
 | _ :: _, _ :: _, h => by simp [Nks.len h.2]
 | [], _ :: _, h => h.elim
 | _ :: _, [], h => h.elim
end Go.VV
namespace Go.VV
open Go Go.RowKit
section
variable {Γ : Ctx} {e : Env} {d : AD} {t : AJ} {pos : String} {af : AG} {g : Option (Nat × Bool)}
def aGI {F A G : aB} {f : Nat} {l : AF} {ts : Array AJ} {vs : AA} (ms2 : AE) (hc : cL Γ.P f = true) (hv : evs e l = some vs) {R : AH → aB → Prop}
  (hms : ∀ b ∈ ms2, ∃ o, (b, o) ∈ A) (hf : ∀ w, St Γ.w0 Γ.ms (A ++ (F ++ G)) w → aC Γ.P f vs w ms2 R) :
  Op1 Γ ⟨d, .call ⟨.value (.func f), l.toArray, ts⟩, t, pos, af, g⟩ e (F ++ (A ++ G)) (fun v H2 => ∃ H', R v H' ∧ H2 = F ++ (H' ++ G)) := by
 have key := dY (Γ := Γ) (e := e) (d := d) (t := t) (pos := pos) (af := af) (g := g) (A := A) (G := F ++ G) (ts := ts) (vs := vs) ms2 hc hv hms hf
 intro w hw
 have hw2 : St Γ.w0 Γ.ms (A ++ (F ++ G)) w := hw.perm (by
  rw [← bg, ← bg]
  exact c8 _ au)
 refine iG (key w hw2) ?_
 rintro v w' ⟨H2, h2, H', hR, rfl⟩
 refine ⟨F ++ (H' ++ G), h2.perm ?_, H', hR, rfl⟩
 rw [← bg, ← bg]
 exact c8 _ au
end
def Row.apart {w0 w : AI} {b off : Nat} {l : AA} (h : Row w0 b off l) (hl : 0 < l.length) {H : aB} (hw : St w0 [] H w) {x : Nat × Obj} (hm : x ∈ H) : b ≠ x.1 := by
 rintro rfl
 have h1 := h 0 (l[0]) (by rw [am hl])
 have h2 := (hw.own x hm).resolve_left (by simp)
 have h3 : w0.heap[x.1]? = none := d8 (by omega)
 simp [World.cell?, h3] at h1
def Ns.apart {w0 w : AI} {k : AM} {a : AC} {l : AB} (h : Ns w0 k a l) (hl : 0 < l.length) {H : aB} (hw : St w0 [] H w) {x : Nat × Obj} (hm : x ∈ H) {p : Addr} (hp : a = some p) : p.block ≠ x.1 := by
 obtain ⟨b, off, rfl, hr⟩ := h hl
 cases hp
 exact hr.apart (by simpa using hl) hw hm
def Ns.old {w0 w : AI} {ms : AE} {H : aB} {k : AM} {a : AC} {l : AB} (h : Ns w0 k a l) (hne : 0 < l.length → ∀ p, a = some p → p.block ∉ ms) (hw : St w0 ms H w) : Ns w k a l := fun hl => by
 obtain ⟨b, off, rfl, hr⟩ := h hl
 exact ⟨b, off, rfl, aR hr (hne hl _ rfl) w hw⟩
section
variable {P : AL} {e : Env} {d : AD} {ty : AJ} {pos : String} {af : AG} {g : Option (Nat × Bool)}
def aBE {α : Type} {t : AJ} {b : Bool} (h : oC P t = b) (hu : (P.underlying t).isSome = true) (K : Bool → Sem α) : bM P (isAgg t >>= K) = bM P (K b) := by
 subst h
 unfold oC
 cases hd : P.underlying t with
 | none => rw [hd] at hu; cases hu
 | some D =>
  simp only [isAgg, bind_assoc, bI hd]
  cases D <;> rfl
def qO {t el n : Nat} {x i : AK} {k : AM} {j : Int} {l : AA} {u v : AH} (m : Nat) (hu : uM P t = some (n, el, 1)) (hs : oC P el = false) (hsu : (P.underlying el).isSome = true) (hx : vnf (ev e x) = some (.agg ⟨l⟩)) (hi : vnf (ev e i) = some (.int k j)) (hj : j = (m : Int)) (hm : m < n) (hv : l[m]? = some u) (hw : vnf u = some v) :
  bH P e ⟨d, .index t x i, ty, pos, af, g⟩ = some v := by
 have hn := aK hw
 subst hn
 obtain ⟨h1, h2⟩ := rH hu
 have hx := aK hx
 have hi := aK hi
 subst hj
 refine aX ?_ hw
 have h3 : (0 : Int) ≤ (m : Int) ∧ (m : Int) < (n : Int) := ⟨by omega, by omega⟩
 simp only [execOp, hx, hi, Instr.index, asIntOf, eK, bind_assoc, bI h1, h3, and_self, if_true, hY h2, bj, part, aBE hs hsu, eo]
 have h6 : (Array.mk l)[m]? = some u := by simpa using hv
 simp [h6, bM, pure, bind, Sem.bind]
def qJ {t el n s : Nat} {x i : AK} {k : AM} {j : Int} {l c : AA} (m : Nat) (hu : uM P t = some (n, el, s)) (hs : oC P el = true) (hsu : (P.underlying el).isSome = true) (hx : vnf (ev e x) = some (.agg ⟨l⟩)) (hi : vnf (ev e i) = some (.int k j)) (hj : j = (m : Int)) (hm : m < n) (hv : (l.drop (m * s)).take s = c) :
  bH P e ⟨d, .index t x i, ty, pos, af, g⟩ = some (.agg ⟨c⟩) := by
 obtain ⟨h1, h2⟩ := rH hu
 have hx := aK hx
 have hi := aK hi
 subst hj
 refine aX ?_ rfl
 have h3 : (0 : Int) ≤ (m : Int) ∧ (m : Int) < (n : Int) := ⟨by omega, by omega⟩
 simp only [execOp, hx, hi, Instr.index, asIntOf, eK, bind_assoc, bI h1, h3, and_self, if_true, hY h2, bj, part, aBE hs hsu]
 have h6 : (Array.mk l).extract (m * s) (m * s + s) = Array.mk c := by
  rw [← hv]
  simp
 rw [h6]
 rfl
end
end Go.VV
