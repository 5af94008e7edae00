/- Structs, arrays and slices that are built of their parts, by lists. Plain lemmas; no program. -/
import Derived.Test.YtjceoaomkbabmaaVvF
namespace Go.VV
open Go Go.RowKit

/-- A list, its spine written out. -/
def spine {α : Type} : List α → Option (List α)
  | [] => some []
  | x :: r => match spine r with
    | some r' => some (x :: r')
    | none => none
theorem spine_eq {α : Type} : ∀ {l l' : List α}, spine l = some l' → l = l'
  | [], _, h => by cases h; rfl
  | x :: r, l', h => by
    simp only [spine] at h
    split at h
    · rename_i r' hr
      cases h
      rw [spine_eq hr]
    · cases h

def layL (off : Nat) : List Value → Nat → List Value → List Value
  | [], _, l => l
  | v :: vs, j, l => layL off vs (j + 1) (l.set (off + j) v)

def fillL (place : Nat → Option (Nat × Nat)) (l : List Value) : List (Nat × Value) → Option (List Value)
  | [] => spine l
  | (i, v) :: rest =>
    match place i, cellsF v with
    | some (off, size), some vs => bif Nat.beq vs.length size && Nat.ble (off + vs.length) l.length then fillL place (layL off vs 0 l) rest else none
    | _, _ => none

theorem lay_eq (off : Nat) : ∀ (vs : List Value) (j : Nat) (l : List Value),
    (layL off vs j l).toArray = (vs.zipIdx j).foldl (fun (cs : Array Value) (c : Value × Nat) => cs.setIfInBounds (off + c.2) c.1) l.toArray
  | [], _, _ => rfl
  | v :: vs, j, l => by
    simp only [layL, List.zipIdx_cons, List.foldl_cons]
    rw [lay_eq off vs (j + 1) _]
    congr 1
    simp

theorem fill_of_fillL {place : Nat → Option (Nat × Nat)} : ∀ {ps : List (Nat × Value)} {l l' : List Value}, fillL place l ps = some l' → Instr.fill place l.toArray ps = some l'.toArray
  | [], l, l', h => by
    simp only [fillL] at h
    rw [spine_eq h]
    rfl
  | (i, v) :: rest, l, l', h => by
    simp only [fillL] at h
    split at h
    · rename_i off size vs hp hv
      have hc := cellsF_eq hv
      by_cases hb : (Nat.beq vs.length size && Nat.ble (off + vs.length) l.length) = true
      · rw [hb, cond_true] at h
        simp only [Bool.and_eq_true] at hb
        have h1 := Nat.eq_of_beq_eq_true hb.1
        have h2 := Nat.le_of_ble_eq_true hb.2
        have h3 := fill_of_fillL h
        simp only [Instr.fill, hp, hc, List.size_toArray]
        rw [if_neg (by simp [h1]; omega)]
        rw [← h3]
        congr 1
        rw [lay_eq]
        simp
      · simp only [Bool.not_eq_true] at hb
        rw [hb, cond_false] at h
        cases h
    · cases h

section
variable {Γ : Ctx} {e : Env} {H : Heap} {d : Option Nat} {ty : TypeId} {pos : String} {af : Array Edge} {g : Option (Nat × Bool)}

def partsF (e : Env) : List (Nat × Operand) → Option (List (Nat × Value))
  | [] => some []
  | (i, x) :: r => match vnf (ev e x), partsF e r with
    | some v, some vs => some ((i, v) :: vs)
    | _, _ => none
theorem partsF_eq {e : Env} : ∀ {l : List (Nat × Operand)} {vs : List (Nat × Value)}, partsF e l = some vs → l.map (fun p => (p.1, ev e p.2)) = vs
  | [], _, h => by cases h; rfl
  | (i, x) :: r, vs, h => by
    simp only [partsF] at h
    split at h
    · rename_i v us h1 h2
      cases h
      simp only [List.map_cons, vnf_eq h1, partsF_eq h2]
    · cases h

def repL (n : Nat) (z : List Value) : List Value := (List.range n).map (fun i => z.getD (i % z.length) default)
theorem repL_eq (n : Nat) (z : List Value) : (Array.range n).map (z.toArray[· % z.toArray.size]!) = (repL n z).toArray := by
  apply Array.ext
  · simp [repL]
  · intro i h1 h2
    simp only [repL, Array.getElem_map, Array.getElem_range, List.getElem_toArray, List.getElem_map, List.getElem_range, List.size_toArray, getElem!_def, List.getElem?_toArray, List.getD_eq_getElem?_getD]
    cases z[i % z.length]? <;> rfl

theorem x_slc {t el : TypeId} {len n : Nat} {parts : List (Nat × Operand)} {ps : List (Nat × Value)} {l : List Value} {z : List Value}
    (hu : slcP Γ.P t = some (el, n)) (hp : partsF e parts = some ps) (hsm : Nat.ble (len * n) 16777216 = true) (hpos : Nat.ble 1 (len * n) = true)
    (hz : zeroP Γ.P el = some z) (hf : fillL (fun i => some (i * n, n)) (repL (len * n) z) ps = some l) :
    Op1 Γ ⟨d, .buildSlice t len parts.toArray, ty, pos, af, g⟩ e H (fun u H' => ∃ b, u = .slice (some ⟨b, 0, none⟩) len len ∧ H' = (b, blk l el) :: H) := by
  obtain ⟨h1, h2⟩ := slcP_spec hu
  refine x_buildSlice h1 (ps := ps) ?_ h2 hsm hpos hz ?_
  · have := partsF_eq hp
    simpa using this
  · rw [repL_eq]
    exact fill_of_fillL hf

/-- A struct's fields: where each lies, and how long it is. -/
def placesF (P : Program) : List Field → Option (List (Nat × Nat))
  | [] => some []
  | f :: r => match sizeP P f.type, placesF P r with
    | some s, some ps => some ((f.offset, s) :: ps)
    | _, _ => none
def strP (P : Program) (t : TypeId) : Option (List (Nat × Nat)) :=
  match P.underlying t with
  | some (.struct ⟨fs⟩) => placesF P fs
  | _ => none

theorem placesF_run {P : Program} : ∀ {fs : List Field} {ps : List (Nat × Nat)}, placesF P fs = some ps →
    ∀ {α : Type} (f : Array (Nat × Nat) → Sem α), pureOf P (fs.toArray.mapM (fun f => do pure (f.offset, ← sizeOf f.type)) >>= f) = pureOf P (f ps.toArray) := by
  intro fs
  have key : ∀ (fs : List Field) (ps : List (Nat × Nat)), placesF P fs = some ps → ∀ {α : Type} (f : List (Nat × Nat) → Sem α), pureOf P ((fs.mapM (fun f => (do pure (f.offset, ← sizeOf f.type) : Sem (Nat × Nat)))) >>= f) = pureOf P (f ps) := by
    intro fs
    induction fs with
    | nil => intro ps h α f; cases h; simp
    | cons x r ih =>
      intro ps h α f
      simp only [placesF] at h
      split at h
      · rename_i s ps' h1 h2
        cases h
        simp only [List.mapM_cons, bind_assoc, pure_size h1, pure_bind]
        rw [ih ps' h2]
      · cases h
  intro ps h α f
  have h1 := key fs ps h (fun l => f l.toArray)
  rw [← h1]
  simp [List.mapM_toArray]

theorem light_struct {t : TypeId} {parts : List (Nat × Operand)} {ps : List (Nat × Value)} {l z : List Value} {pl : List (Nat × Nat)}
    (hu : strP Γ.P t = some pl) (hz : zeroP Γ.P t = some z) (hp : partsF e parts = some ps) (hf : fillL (fun i => pl[i]?) z ps = some l) :
    light Γ.P e ⟨d, .build t parts.toArray, ty, pos, af, g⟩ = some (.agg l.toArray) := by
  refine light_of_pure ?_ rfl
  unfold strP at hu
  split at hu
  · rename_i fs h1
    have hpp := partsF_eq hp
    have hfl := fill_of_fillL hf
    have hzz : ∀ {α : Type} (f : Value → Sem α), ∃ zv : Value, zv.cells = z.toArray ∧ pureOf Γ.P (zeroValue t >>= f) = pureOf Γ.P (f zv) := by
      intro α f
      unfold zeroP at hz
      split at hz
      · rename_i i hi
        split at hz
        · rename_i zv hzv
          refine ⟨zv, cellsF_eq hz, ?_⟩
          simp [zeroValue, typeInfo, program, bind, Sem.bind, pureOf, hi, hzv, pure]
        · cases hz
      · cases hz
    simp only [execOp, Instr.build, bind_assoc]
    obtain ⟨zv, hzc, hzr⟩ := hzz (fun zero => underlying t >>= fun d => _)
    rw [hzr, pure_underlying h1]
    simp only [bind_assoc]
    rw [placesF_run hu]
    have h9 : ((List.toArray parts).map fun (i, x) => (i, ev e x)).toList = ps := by simpa using hpp
    simp only [h9, hzc, List.getElem?_toArray, hfl]
    rfl
  · cases hu


/-- Where a field lies (one that takes cells). -/
def fldP (P : Program) (t f : Nat) : Option Nat :=
  match P.underlying t with
  | some (.struct ⟨fs⟩) => match fs[f]? with
    | some ⟨_, ft, o, _, _, _, _⟩ => match sizeP P ft with
      | some (_ + 1) => some o
      | _ => none
    | none => none
  | _ => none
theorem light_fa {t f o b off : Nat} {x : Operand} (hu : fldP Γ.P t f = some o) (hx : vnf (ev e x) = some (.pointer (some ⟨b, off, none⟩))) :
    light Γ.P e ⟨d, .fieldAddr t x f, ty, pos, af, g⟩ = some (.pointer (some ⟨b, off + o, none⟩)) := by
  refine light_of_pure ?_ rfl
  have hx := vnf_eq hx
  unfold fldP at hu
  split at hu
  · rename_i fs h1
    split at hu
    · rename_i nm ft o' em tg pp bo h2
      split at hu
      · rename_i k h3
        cases hu
        have h4 : (fs.toArray)[f]? = some ⟨nm, ft, o, em, tg, pp, bo⟩ := by simpa using h2
        simp only [execOp, Instr.fieldAt, bind_assoc, pure_underlying h1, h4, hx, Instr.sureAddr, pure_pure, fieldPlace, pure_size h3]
        simp [add_mk, pureOf, pure, bind, Sem.bind]
      · cases hu
    · cases hu
  · cases hu

def fldV (P : Program) (t f : Nat) : Option (Nat × Nat) :=
  match P.underlying t with
  | some (.struct ⟨fs⟩) => match fs[f]? with
    | some ⟨_, ft, o, _, _, _, _⟩ => some (ft, o)
    | none => none
  | _ => none
/-- x.f, x a struct by value, the field of one cell. -/
theorem light_fs {t f ft o : Nat} {x : Operand} {l : List Value} {v u : Value} (hu : fldV Γ.P t f = some (ft, o)) (hs : scalarB Γ.P ft = true) (hx : vnf (ev e x) = some (.agg ⟨l⟩)) (hv : l[o]? = some u) (hw : vnf u = some v) :
    light Γ.P e ⟨d, .field t x f, ty, pos, af, g⟩ = some v := by
  have hn := vnf_eq hw
  subst hn
  refine light_of_pure ?_ hw
  have hx := vnf_eq hx
  unfold fldV at hu
  split at hu
  · rename_i fs h1
    split at hu
    · rename_i nm ft' o' em tg pp bo h2
      cases hu
      have h4 : (fs.toArray)[f]? = some ⟨nm, ft, o, em, tg, pp, bo⟩ := by simpa using h2
      have h5 : ∀ {α : Type} (K : Bool → Sem α), pureOf Γ.P (isAgg ft >>= K) = pureOf Γ.P (K false) := by
        intro α K
        unfold scalarB at hs
        split at hs <;> try cases hs
        rename_i D hd1 hd2 hd
        simp only [isAgg, bind_assoc, pure_underlying hd]
        cases D <;> first | rfl | (exfalso; exact hd1 _ rfl) | (exfalso; exact hd2 _ _ rfl)
      simp only [execOp, Instr.field, bind_assoc, pure_underlying h1, h4, hx, asAgg, pure_pure, part, h5]
      have h6 : (Array.mk l)[o]? = some u := by simpa using hv
      simp [h6, pureOf, pure, bind, Sem.bind]
    · cases hu
  · cases hu
end
end Go.VV
