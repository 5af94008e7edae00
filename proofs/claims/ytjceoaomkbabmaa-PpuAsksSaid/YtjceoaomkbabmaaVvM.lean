/- More operations on slices: append in place, append of a nil slice, clear, cuts with three bounds; heaps in another order. Plain lemmas; no program. -/
import Derived.Test.YtjceoaomkbabmaaVvR
namespace Go.VV
open Go

section
variable {P : Program} {Γ : Ctx} {k : Kont} {e : Env} {H H' : Heap} {ops rest : List Oper} {d : Option Nat} {ty : TypeId} {pos : String} {af : Array Edge} {g : Option (Nat × Bool)}
  {S : World → Prop} {need : List Nat} {pl : Plan}

theorem l_heap (hs : ∀ w, St Γ.w0 Γ.ms H w → St Γ.w0 Γ.ms H' w) (h : L1 Γ ops rest k e H') : L1 Γ ops rest k e H := fun a w ha hw => h a w ha (hs w hw)
theorem d_heap (hs : ∀ w, St Γ.w0 Γ.ms H w → St Γ.w0 Γ.ms H' w) (h : L2 Γ ops S need pl k e H') : L2 Γ ops S need pl k e H := fun a w ha hw => h a w ha (hs w hw)
/-- The second part first. -/
theorem perm2 {w0 w : World} {ms : List Nat} (A B R : Heap) (h : St w0 ms (A ++ (B ++ R)) w) : St w0 ms (B ++ (A ++ R)) w := h.perm (by
  rw [← List.append_assoc, ← List.append_assoc]
  exact List.Perm.append_right R List.perm_append_comm)

/-- append(s, x..): there is room for it. -/
theorem x_appendR {t : TypeId} {x y : Operand} {T s by_ : Nat} {u : Value} {b n cp m : Nat} {l ys : List Value} {ts : Array TypeId} (i : Nat)
    (hx : vnf (ev e x) = some (.slice (some ⟨b, 0, none⟩) n cp)) (hy : ev e y = u) (hts : ts = #[t, t]) (hp : appP Γ.P t = some (T, s, by_)) (hi : H[i]? = some (b, blk l T))
    (hs : ∀ w, St Γ.w0 Γ.ms H w → Src w s u m ys) (h1 : ones ys = true) (hroom : n + m ≤ cp) (hfit : n * s + ys.length ≤ l.length) :
    Op1 Γ ⟨d, .call ⟨.builtin .append, #[x, y], ts⟩, ty, pos, af, g⟩ e H (fun v' H' => v' = .slice (some ⟨b, 0, none⟩) (n + m) cp ∧ H' = H.set i (b, blk (putL l (n * s) ys) T)) := by
  intro w hw
  subst hts hy
  have hx := vnf_eq hx
  unfold appP at hp
  split at hp <;> try cases hp
  rename_i el hu
  split at hp <;> try cases hp
  rename_i ti hti
  split at hp <;> try cases hp
  rename_i z hz
  split at hp <;> try cases hp
  have hg : w.heap[b]? = some (blk l T) := hw.own_blk (List.mem_of_getElem? hi)
  have hs' := hs w hw
  generalize hue : ev e y = u at hs'
  cases hs' with
  | row b2 off2 m c ys hn hr =>
    have h3 := run_append_room (P := Γ.P) w t ty T ti hu hti b n cp l.toArray hg ⟨b2, off2, none⟩ m c ys hn hr.add (by simpa [ones] using h1) hroom (by simpa using hfit)
    refine opW_run (v := .slice (some ⟨b, 0, none⟩) (n + m) cp) (w' := w.setRow b (putL l (n * ti.size) ys).toArray) ?_ ⟨_, ?_, rfl, rfl⟩
    · simp only [execOp, resolve, Sem.run_bind, Sem.run_pure, Result.andThen_ok, invoke, builtin, List.map_toArray, List.map_cons, List.map_nil, hx, hue, h3]
      rfl
    · exact hw.setAt hi rfl rfl rfl (by simp [World.setRow]) (fun k hk => setRow_other w b k _ hk) (setRow_heap w b _ _ T _ hg)

/-- append(s, nil..). -/
theorem x_append0 {t : TypeId} {x y : Operand} {T s by_ : Nat} {a : Option Addr} {n cp : Nat} {ts : Array TypeId}
    (hx : vnf (ev e x) = some (.slice a n cp)) (hy : vnf (ev e y) = some (.slice none 0 0)) (hts : ts = #[t, t]) (hp : appP Γ.P t = some (T, s, by_)) (hn : n ≤ cp) :
    Op1 Γ ⟨d, .call ⟨.builtin .append, #[x, y], ts⟩, ty, pos, af, g⟩ e H (fun v' H' => v' = .slice a n cp ∧ H' = H) := by
  intro w hw
  subst hts
  have hx := vnf_eq hx
  have hy := vnf_eq hy
  unfold appP at hp
  split at hp <;> try cases hp
  rename_i el hu
  split at hp <;> try cases hp
  rename_i ti hti
  split at hp <;> try cases hp
  rename_i z hz
  split at hp <;> try cases hp
  have key : (Builtin.append_ #[t, t] ty #[.slice a n cp, .slice none 0 0]).run Γ.P w = .ok (.slice a n cp) w := by
    cases a with
    | none => simp [Builtin.append_, run_underlying hu, sizeOf, typeInfo, hti, Builtin.lenOf, Builtin.firstCells, hn]
    | some p =>
      simp [Builtin.append_, run_underlying hu, sizeOf, typeInfo, hti, Builtin.lenOf, Builtin.firstCells, hn, storeCells]
  refine opW_run (v := .slice a n cp) (w' := w) ?_ ⟨_, hw, rfl, rfl⟩
  simp only [execOp, resolve, Sem.run_bind, Sem.run_pure, Result.andThen_ok, invoke, builtin, List.map_toArray, List.map_cons, List.map_nil, hx, hy, key]

theorem zeroCells_eq (z : List Value) (n : Nat) : (Builtin.zeroCells z.toArray n).toList = repL (n * z.length) z := by
  unfold Builtin.zeroCells
  have := repL_eq (n * z.length) z
  simp only [List.size_toArray] at this ⊢
  rw [this]
theorem repL_len (n : Nat) (z : List Value) : (repL n z).length = n := by simp [repL]
theorem repL_ones {n : Nat} {z : List Value} (hz : ones z = true) (hl : 0 < z.length) : ones (repL n z) = true := by
  refine List.all_eq_true.2 fun x hx => ?_
  simp only [repL, List.mem_map] at hx
  obtain ⟨i, _, rfl⟩ := hx
  have hi : i % z.length < z.length := Nat.mod_lt _ hl
  rw [List.getD_eq_getElem?_getD, List.getElem?_eq_getElem hi, Option.getD_some]
  exact List.all_eq_true.1 hz _ (List.getElem_mem _)

/-- clear(s). -/
theorem x_clear {t el : TypeId} {x : Operand} {s b off n c : Nat} {z l : List Value} {T : TypeId} {ts : Array TypeId} (i : Nat)
    (hx : vnf (ev e x) = some (.slice (some ⟨b, off, none⟩) n c)) (hts : ts = #[t]) (hu : slcP Γ.P t = some (el, s)) (hz : zeroP Γ.P el = some z) (hzl : Nat.blt 0 z.length = true) (h1 : ones z = true)
    (hi : H[i]? = some (b, blk l T)) (hn : 0 < n) (hl : off + n * z.length ≤ l.length) :
    Op1 Γ ⟨d, .call ⟨.builtin .clear, #[x], ts⟩, ty, pos, af, g⟩ e H (fun v' H' => v' = .tuple #[] ∧ H' = H.set i (b, blk (putL l off (repL (n * z.length) z)) T)) := by
  intro w hw
  subst hts
  obtain ⟨g1, g2⟩ := slcP_spec hu
  have hx := vnf_eq hx
  have hg : w.heap[b]? = some (blk l T) := hw.own_blk (List.mem_of_getElem? hi)
  obtain ⟨zv, hzv, hzc⟩ := run_zero hz w
  have hzl : 0 < z.length := Nat.lt_of_lt_of_le Nat.zero_lt_one (Nat.le_of_ble_eq_true hzl)
  have hst := run_storeCells_at Γ.P b off T (repL (n * z.length) z) 0 l.toArray w hg (by rw [repL_len]; simpa using hl) (by simpa [ones] using repL_ones (n := n * z.length) h1 hzl)
  simp only [Nat.add_zero] at hst
  have hn0 : n ≠ 0 := by omega
  have key : (Builtin.clear_ #[t] ty #[.slice (some ⟨b, off, none⟩) n c]).run Γ.P w = .ok (.tuple #[]) (w.setRow b (putL l off (repL (n * z.length) z)).toArray) := by
    obtain ⟨n', rfl⟩ : ∃ n', n = n' + 1 := ⟨n - 1, by omega⟩
    simp [Builtin.clear_, Sem.run_bind, run_underlying g1, hzv, hzc, zeroCells_eq, hst, putL]
  refine opW_run (v := .tuple #[]) (w' := w.setRow b (putL l off (repL (n * z.length) z)).toArray) ?_ ⟨_, ?_, rfl, rfl⟩
  · simp only [execOp, resolve, Sem.run_bind, Sem.run_pure, Result.andThen_ok, invoke, builtin, List.map_toArray, List.map_cons, List.map_nil, hx, key]
  · exact hw.setAt hi rfl rfl rfl (by simp [World.setRow]) (fun k hk => setRow_other w b k _ hk) (setRow_heap w b _ _ T _ hg)

/-- s[l:h:m]. -/
theorem cut3_slice {t : TypeId} {x : Operand} {lo hi mx : Operand} {b off n c el s : Nat} {jl jh jm : Int} (l h m : Nat) (hx : vnf (ev e x) = some (.slice (some ⟨b, off, none⟩) n c))
    (hu : slcP P t = some (el, s)) (hlo : bndF e (some lo) = some (some jl)) (hhi : bndF e (some hi) = some (some jh)) (hmx : bndF e (some mx) = some (some jm)) (hl : jl = (l : Int)) (hh : jh = (h : Int)) (hm : jm = (m : Int))
    (h1 : l ≤ h) (h2 : h ≤ m) (h3 : m ≤ c) :
    light P e ⟨d, .slice t x (some lo) (some hi) (some mx), ty, pos, af, g⟩ = some (.slice (some ⟨b, cutAt off l s m, none⟩) (h - l) (m - l)) := by
  obtain ⟨g1, g2⟩ := slcP_spec hu
  have hx := vnf_eq hx
  refine light_of_pure ?_ rfl
  have hb : Instr.sliceBounds true n c (some (ev e lo)) (some (ev e hi)) (some (ev e mx)) = pure (l, h, m) := by
    simp only [Instr.sliceBounds, bound_run hmx hm h3, bound_run hhi hh h2, bound_run hlo hl h1, pure_bind, Option.isSome_some, if_true]
  simp only [execOp, hx, Instr.sliceAt, Instr.slice, bind_assoc, pure_underlying g1, Option.map_some, hb, pure_pure, pure_size g2]
  unfold cutAt
  by_cases hcl : m = l
  · simp only [hcl, if_true]; rfl
  · simp only [hcl, if_false, add_mk]; rfl
end
end Go.VV
