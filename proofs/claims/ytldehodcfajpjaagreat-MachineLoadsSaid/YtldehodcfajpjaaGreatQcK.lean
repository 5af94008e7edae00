/- A machine decoded: what its copy is, and what it comes to. Plain laws, no program. -/
import Derived.Test.YtldehodcfajpjaaGreatQcJ
set_option linter.unusedSimpArgs false
set_option linter.unusedVariables false
set_option maxRecDepth 100000
namespace Go.Proofs.YtldehodcfajpjaaGreat
open Go Go.VV
def dgt (x : Int) (i : Nat) : Int := x / 256 ^ i % 256
def dgts (n : Nat) (x : Int) : List Int := (List.range n).map (dgt x)
def val (l : List Int) : Nat → Int
 | 0 => 0
 | i + 1 => val l i + l.getD i 0 * 256 ^ i
theorem dgts_len (n : Nat) (x : Int) : (dgts n x).length = n := by simp [dgts]
theorem dgt_ok (x : Int) (i : Nat) : 0 ≤ dgt x i ∧ dgt x i < 256 := ⟨Int.emod_nonneg _ y_c, Int.emod_lt_of_pos _ y_c⟩
theorem dgts_byts (n : Nat) (x : Int) : Byts (dgts n x) := fun y hy => by
 simp only [dgts, List.mem_map, List.mem_range] at hy
 obtain ⟨i, _, rfl⟩ := hy
 exact dgt_ok x i
theorem dgts_succ (n : Nat) (x : Int) : dgts (n + 1) x = dgts n x ++ [dgt x n] := by simp [dgts, List.range_succ]
theorem p256 (i : Nat) : (0 : Int) < 256 ^ i := Int.pow_pos y_c
theorem val_ok {l : List Int} (h : Byts l) : ∀ i, 0 ≤ val l i ∧ val l i < 256 ^ i
 | 0 => by simp [val]
 | i + 1 => by
  have h1 := val_ok h i
  have h2 := h.get i
  have hp := p256 i
  have h3 : l.getD i 0 * 256 ^ i ≤ 255 * 256 ^ i := Int.mul_le_mul_of_nonneg_right o_m o_m
  have h4 : 0 ≤ l.getD i 0 * 256 ^ i := Int.mul_nonneg h2.1 o_m
  have h5 : (256 : Int) ^ (i + 1) = 256 ^ i * 256 := Int.pow_succ ..
  unfold val
  rw [h5]
  constructor <;> omega
theorem p256_le {a b : Nat} (h : a ≤ b) : (256 : Int) ^ a ≤ 256 ^ b := by
 have h1 := Nat.pow_le_pow_right (n := 256) y_c h
 have h2 : ((256 ^ a : Nat) : Int) ≤ ((256 ^ b : Nat) : Int) := by omega
 simpa using h2
theorem shl_at {b y : Int} {i : Nat} (hi : i < 8) (hy : y = ((8 * i : Nat) : Int)) (hb : 0 ≤ b ∧ b < 256) : shl .u64 b y = b * 256 ^ i := by
 subst hy
 have h : (2 : Int) ^ min (((8 * i : Nat) : Int)).toNat IntKind.u64.bits = 256 ^ i := by
  rcases (show i = 0 ∨ i = 1 ∨ i = 2 ∨ i = 3 ∨ i = 4 ∨ i = 5 ∨ i = 6 ∨ i = 7 by omega) with rfl | rfl | rfl | rfl | rfl | rfl | rfl | rfl <;> decide
 have h1 := p256 i
 have h2 := p256_le (show i ≤ 7 by omega)
 have h3 : b * 256 ^ i ≤ 255 * 256 ^ i := Int.mul_le_mul_of_nonneg_right o_m o_m
 have h4 : 0 ≤ b * 256 ^ i := Int.mul_nonneg hb.1 o_m
 rw [shl_eq _ h, wrap_u64]
 exact Int.emod_eq_of_lt h4 o_m
theorem shr_at {x y : Int} {i : Nat} (hi : i < 8) (hy : y = ((8 * i : Nat) : Int)) : IntKind.u8.wrap (shr .u64 x y) = dgt x i := by
 subst hy
 rw [wrap_u8]
 unfold dgt shr
 have hp := p256 i
 rw [Int.fdiv_eq_ediv_of_nonneg _ (Int.le_of_lt (Int.pow_pos y_c))]
 rcases (show i = 0 ∨ i = 1 ∨ i = 2 ∨ i = 3 ∨ i = 4 ∨ i = 5 ∨ i = 6 ∨ i = 7 by omega) with rfl | rfl | rfl | rfl | rfl | rfl | rfl | rfl
 all_goals rfl
theorem bor_at {A b y : Int} {i : Nat} (hi : i < 8) (hy : y = ((8 * i : Nat) : Int)) (hA : 0 ≤ A ∧ A < 256 ^ i) (hb : 0 ≤ b ∧ b < 256) : bor .u64 A (shl .u64 b y) = A + b * 256 ^ i := by
 rw [shl_at hi hy hb]
 have key : ∀ k : Nat, (256 : Int) ^ i = ((2 ^ k : Nat) : Int) → k ≤ 56 → bor .u64 A (b * 256 ^ i) = A + b * 256 ^ i := by
  intro k hk hk2
  have hle : 2 ^ k ≤ 2 ^ 56 := Nat.pow_le_pow_right y_c hk2
  have hpos : 0 < 2 ^ k := Nat.pow_pos y_c
  rw [hk] at hA ⊢
  obtain ⟨a, rfl⟩ : ∃ a : Nat, A = a := ⟨A.toNat, y_D⟩
  obtain ⟨n, rfl⟩ : ∃ n : Nat, b = n := ⟨b.toNat, y_D⟩
  have h1 : n * 2 ^ k ≤ 255 * 2 ^ k := Nat.mul_le_mul_right _ o_m
  have h2 : a < 2 ^ k := by omega
  have e1 : ((n : Int) * ((2 ^ k : Nat) : Int)) = ((n * 2 ^ k : Nat) : Int) := (Int.natCast_mul ..).symm
  rw [e1, bor_nat o_m (by show (a : Int) < 18446744073709551616; omega) o_m (by show ((n * 2 ^ k : Nat) : Int) < 18446744073709551616; omega)]
  have e2 : a ||| n * 2 ^ k = n * 2 ^ k + a := by rw [Nat.or_comm, Nat.mul_comm]; exact (Nat.two_pow_add_eq_or_of_lt h2 n).symm
  rw [Int.toNat_natCast, Int.toNat_natCast, e2]
  omega
 rcases (show i = 0 ∨ i = 1 ∨ i = 2 ∨ i = 3 ∨ i = 4 ∨ i = 5 ∨ i = 6 ∨ i = 7 by omega) with rfl | rfl | rfl | rfl | rfl | rfl | rfl | rfl
 ·exact key 0 rfl y_c
 ·exact key 8 rfl y_c
 ·exact key 16 rfl y_c
 ·exact key 24 rfl y_c
 ·exact key 32 rfl y_c
 ·exact key 40 rfl y_c
 ·exact key 48 rfl y_c
 ·exact key 56 rfl y_c
inductive FK where
 | byte
 | word
 | bool
 | int (n : Nat)
 | long (n : Nat)
deriving DecidableEq
def FK.many : FK → Nat
 | .byte => 1
 | .word => 2
 | .bool => 1
 | .int n => n
 | .long n => n
def FK.cell : FK → Int → Value
 | .byte, x => .int .u8 x
 | .word, x => .int .u16 x
 | .bool, x => .bool (x == 1)
 | .int _, x => .int .i64 x
 | .long _, x => .int .u64 x
def FK.at (L : List Value) (o : Nat) : Int := match L[o]? with
 | some (.int _ x) => x
 | some (.bool b) => if b = true then 1 else 0
 | _ => 0
def FK.ok : FK → Int → Prop
 | .byte, x => 0 ≤ x ∧ x < 256
 | .word, x => 0 ≤ x ∧ x < 65536
 | .bool, x => x = 0 ∨ x = 1
 | .int _, x => -9223372036854775808 ≤ x ∧ x ≤ 9223372036854775807
 | .long _, x => 0 ≤ x ∧ x < 18446744073709551616
def Fit (k : FK) (L : List Value) (o : Nat) : Prop := ∃ x, L[o]? = some (k.cell x) ∧ k.ok x
abbrev Ps := List Value × List Int
def pass1 (r : Bool) (k : FK) (s : Ps) (o : Nat) : Ps :=
 if r = true then (putL s.1 o [k.cell (val s.2 k.many)], s.2.drop k.many) else (s.1, s.2 ++ dgts k.many (FK.at s.1 o))
def passes (r : Bool) (k : FK) (os : List Nat) (s : Ps) : Ps := os.foldl (pass1 r k) s
theorem passes_snoc {r : Bool} {k : FK} {os : List Nat} {s : Ps} {i o : Nat} (h : os[i]? = some o) : passes r k (os.take (i + 1)) s = pass1 r k (passes r k (os.take i) s) o := by
 unfold passes
 rw [List.take_add_one, h, List.foldl_append]
 rfl
theorem Fit.at {k : FK} {L : List Value} {o : Nat} (h : Fit k L o) : L[o]? = some (k.cell (FK.at L o)) ∧ k.ok (FK.at L o) := by
 obtain ⟨x, hx, hk⟩ := h
 have : FK.at L o = x := by
  unfold FK.at; rw [hx]
  cases k <;> try rfl
  rcases hk with rfl | rfl <;> rfl
 rw [this]; exact ⟨hx, hk⟩
theorem Fit.lt {k : FK} {L : List Value} {o : Nat} (h : Fit k L o) : o < L.length := by
 obtain ⟨x, hx, _⟩ := h
 exact (List.getElem?_eq_some_iff.1 hx).1
theorem putL_get {l : List Value} {o j : Nat} {v : Value} (ho : o < l.length) : (putL l o [v])[j]? = if j = o then some v else l[j]? := by
 have e : putL l o [v] = l.set o v := by
  unfold putL
  rw [List.set_eq_take_append_cons_drop, if_pos ho, List.append_assoc]; rfl
 rw [e, List.getElem?_set]
 split
 ·rename_i h; subst h; rw [if_pos rfl]
 ·rename_i h; rw [if_neg (Ne.symm h)]
theorem Fit.put {k k' : FK} {L : List Value} {o o' : Nat} {x : Int} (h : Fit k L o) (h' : Fit k' L o') (hx : k'.ok x) (hk : o = o' → k = k') : Fit k (putL L o' [k'.cell x]) o := by
 by_cases ho : o = o'
 ·subst ho; cases hk rfl
  exact ⟨x, by rw [putL_get h.lt, if_pos rfl], hx⟩
 ·obtain ⟨y, hy, hky⟩ := h
  exact ⟨y, by rw [putL_get h'.lt, if_neg ho]; exact hy, hky⟩
def FK.fits : FK → Prop
 | .int n => n ≤ 4
 | .long n => n ≤ 8
 | _ => True
theorem FK.val_ok {k : FK} (hk : k.fits) {l : List Int} (h : Byts l) : ∃ y, k.cell (val l k.many) = k.cell y ∧ k.ok y := by
 have hv := Go.Proofs.YtldehodcfajpjaaGreat.val_ok h k.many
 cases k with
 | byte => exact ⟨_, rfl, hv⟩
 | word => exact ⟨_, rfl, hv⟩
 | bool =>
  by_cases h1 : val l 1 = 1
  ·exact ⟨1, by show Value.bool (val l 1 == 1) = _; rw [h1]; rfl, .inr rfl⟩
  ·exact ⟨0, by show Value.bool (val l 1 == 1) = .bool (0 == 1); rw [show (val l 1 == 1) = false by simpa using h1]; rfl, .inl rfl⟩
 | int n =>
  have h4 := p256_le (show n ≤ 4 from hk)
  exact ⟨_, rfl, by have := hv.1; show -9223372036854775808 ≤ val l n; simp only [FK.many] at this; omega, by have := hv.2; show val l n ≤ 9223372036854775807; simp only [FK.many] at this; omega⟩
 | long n =>
  have h8 := p256_le (show n ≤ 8 from hk)
  exact ⟨_, rfl, hv.1, by have := hv.2; show val l n < 18446744073709551616; simp only [FK.many] at this; omega⟩
theorem byts_app {a b : List Int} (ha : Byts a) (hb : Byts b) : Byts (a ++ b) := fun x hx => (List.mem_append.1 hx).elim (ha x) (hb x)
theorem byts_drop {a : List Int} (h : Byts a) (n : Nat) : Byts (a.drop n) := fun x hx => h x (List.mem_of_mem_drop hx)
section
variable {r : Bool} {k : FK} {s : Ps}
theorem pass1_byts (h : Byts s.2) (o : Nat) : Byts (pass1 r k s o).2 := by
 unfold pass1
 split
 ·exact byts_drop h _
 ·exact byts_app h (dgts_byts _ _)
theorem passes_byts : ∀ {os : List Nat} {s : Ps}, Byts s.2 → Byts (passes r k os s).2
 | [], _, h => h
 | o :: os, _, h => passes_byts (os := os) (pass1_byts h o)
def lenB (r : Bool) (n : Nat) (m : Nat) : Nat := if r = true then m - n else m + n
theorem passes_len : ∀ {os : List Nat} {s : Ps}, (passes r k os s).2.length = lenB r (os.length * k.many) s.2.length
 | [], s => by unfold lenB; simp [passes]
 | o :: os, s => by
  show (passes r k os (pass1 r k s o)).2.length = _
  rw [passes_len]
  unfold pass1 lenB
  rw [List.length_cons, Nat.succ_mul]
  cases r
  ·simp [dgts_len]; omega
  ·simp; omega
theorem pass1_fit (hf : k.fits) (hb : Byts s.2) {o : Nat} (ho : Fit k s.1 o) {k' : FK} {o' : Nat} (h : Fit k' s.1 o') (hk : o' = o → k' = k) : Fit k' (pass1 r k s o).1 o' := by
 unfold pass1
 split
 ·obtain ⟨y, hy, hok⟩ := FK.val_ok hf hb
  show Fit k' (putL s.1 o [k.cell (val s.2 k.many)]) o'
  rw [hy]
  exact h.put ho hok hk
 ·exact h
theorem passes_fit (hf : k.fits) {k' : FK} {o' : Nat} : ∀ {os : List Nat} {s : Ps}, Byts s.2 → (∀ o ∈ os, Fit k s.1 o) → Fit k' s.1 o' → (o' ∈ os → k' = k) → Fit k' (passes r k os s).1 o'
 | [], _, _, _, h, _ => h
 | o :: os, s, hb, hs, h, hk => by
  show Fit k' (passes r k os (pass1 r k s o)).1 o'
  have ho := hs o (.head _)
  exact passes_fit hf (pass1_byts hb o) (fun x hx => pass1_fit hf hb ho (hs x (.tail _ hx)) (fun _ => rfl)) (pass1_fit hf hb ho h (fun e => hk (e ▸ .head _))) (fun hx => hk (.tail _ hx))
theorem putL_len1 {l : List Value} {o : Nat} {v : Value} (h : o < l.length) : (putL l o [v]).length = l.length := putL_len y_cN
theorem passes_app (a b : List Nat) : passes r k (a ++ b) s = passes r k b (passes r k a s) := List.foldl_append ..
end
def goes (r : Bool) (n : Nat) (x : Int) (bs : List Int) : Int × List Int := if r = true then (val bs n, bs.drop n) else (x, bs ++ dgts n x)
theorem putL_same {L : List Value} {o : Nat} {v : Value} (h : L[o]? = some v) : putL L o [v] = L := by
 have ho := (List.getElem?_eq_some_iff.1 h).1
 refine List.ext_getElem? fun j => ?_
 rw [putL_get ho]
 split
 ·rename_i e; subst e; exact h.symm
 ·rfl
theorem pass1_goes {k : FK} {s : Ps} {o : Nat} (h : Fit k s.1 o) (r : Bool) : pass1 r k s o = (putL s.1 o [k.cell (goes r k.many (FK.at s.1 o) s.2).1], (goes r k.many (FK.at s.1 o) s.2).2) := by
 unfold pass1 goes
 cases r
 ·show (s.1, _) = (putL s.1 o [k.cell (FK.at s.1 o)], _); rw [putL_same h.at.1]; rfl
 ·rfl
theorem goes_lt {r : Bool} {n : Nat} {x : Int} {bs : List Int} (hx : 0 ≤ x ∧ x < 256 ^ n) (hb : Byts bs) : 0 ≤ (goes r n x bs).1 ∧ (goes r n x bs).1 < 256 ^ n := by
 unfold goes; split
 ·exact Go.Proofs.YtldehodcfajpjaaGreat.val_ok hb n
 ·exact hx
theorem dgt_mod {x : Int} {i : Nat} (hi : i < 8) : dgt (x % 18446744073709551616) i = dgt x i := by
 unfold dgt
 rcases (show i = 0 ∨ i = 1 ∨ i = 2 ∨ i = 3 ∨ i = 4 ∨ i = 5 ∨ i = 6 ∨ i = 7 by omega) with rfl | rfl | rfl | rfl | rfl | rfl | rfl | rfl
 all_goals omega
theorem dgts_mod {x : Int} {n : Nat} (hn : n ≤ 8) : dgts n (x % 18446744073709551616) = dgts n x := by
 unfold dgts
 refine List.map_congr_left fun i hi => dgt_mod ?_
 have := List.mem_range.1 hi; omega
theorem goes_int {r : Bool} {n : Nat} {x : Int} {bs : List Int} (hn : n ≤ 4) (hx : -9223372036854775808 ≤ x ∧ x ≤ 9223372036854775807) (hb : Byts bs) :
  IntKind.i64.wrap (goes r n (x % 18446744073709551616) bs).1 = (goes r n x bs).1 ∧ (goes r n (x % 18446744073709551616) bs).2 = (goes r n x bs).2 := by
 unfold goes
 cases r
 ·exact ⟨by show IntKind.i64.wrap (x % 18446744073709551616) = x; rw [wrapI64]; omega, by show bs ++ dgts n _ = bs ++ dgts n _; rw [dgts_mod o_m]⟩
 ·have hv := Go.Proofs.YtldehodcfajpjaaGreat.val_ok hb n
  have h4 := p256_le hn
  exact ⟨by show IntKind.i64.wrap (val bs n) = val bs n; rw [wrap_i64 o_m o_m], rfl⟩
def Typed (ty : Nat → Option FK) (L : List Value) : Prop := ∀ o k, ty o = some k → Fit k L o
structure LineOk (r : Bool) (n : Nat) (s : Ps) : Prop where
 byts : Byts s.2
 en : r = true → n ≤ s.2.length
 sz : s.2.length + n ≤ 1000000
theorem LineOk.pass {r : Bool} {k : FK} {os : List Nat} {n : Nat} {s : Ps} (h : LineOk r (os.length * k.many + n) s) : LineOk r n (passes r k os s) := by
 have h1 := h.sz
 refine ⟨passes_byts h.byts, fun hr => ?_, ?_⟩
 ·have h2 := h.en hr
  rw [passes_len]; unfold lenB; rw [if_pos hr]; omega
 ·rw [passes_len]; unfold lenB; split <;> omega
theorem LineOk.le {r : Bool} {n m : Nat} {s : Ps} (h : LineOk r n s) (hm : m ≤ n) : LineOk r m s := ⟨h.byts, fun hr => Nat.le_trans hm (h.en hr), by have := h.sz; omega⟩
theorem Typed.pass {ty : Nat → Option FK} {r : Bool} {k : FK} {os : List Nat} {s : Ps} (h : Typed ty s.1) (hf : k.fits) (hb : Byts s.2) (ho : ∀ o ∈ os, ty o = some k) : Typed ty (passes r k os s).1 := fun o' k' h' =>
 passes_fit hf hb (fun o hx => h o k (ho o hx)) (h o' k' h') fun hx => by rw [ho o' hx] at h'; exact (Option.some.inj h').symm
theorem LineOk.at {r : Bool} {k : FK} {os : List Nat} {s : Ps} {i : Nat} (h : LineOk r (os.length * k.many) s) (hi : i < os.length) : LineOk r k.many (passes r k (os.take i) s) := by
 have h1 : i * k.many + k.many ≤ os.length * k.many := by rw [← Nat.succ_mul]; exact Nat.mul_le_mul_right _ hi
 exact LineOk.pass (h.le (by rw [List.length_take, Nat.min_eq_left o_m]; exact h1))
theorem passes_fit_at {r : Bool} {k : FK} {os : List Nat} {s : Ps} {i o : Nat} (hk : k.fits) (hb : Byts s.2) (hos : ∀ o ∈ os, Fit k s.1 o) (ho : os[i]? = some o) : Fit k (passes r k (os.take i) s).1 o :=
 passes_fit hk hb (fun x hx => hos x (List.mem_of_mem_take hx)) (hos o (List.mem_of_getElem? ho)) (fun _ => rfl)
def offs (o n : Nat) : List Nat := (List.range n).map (o + ·)
theorem offs_len (o n : Nat) : (offs o n).length = n := by simp [offs]
theorem offs_mem {o n x : Nat} (h : x ∈ offs o n) : ∃ i, i < n ∧ x = o + i := by
 simp only [offs, List.mem_map, List.mem_range] at h
 obtain ⟨i, h1, h2⟩ := h
 exact ⟨i, h1, h2.symm⟩
theorem mem_offs {o n i : Nat} (h : i < n) : o + i ∈ offs o n := by
 simp only [offs, List.mem_map, List.mem_range]
 exact ⟨i, h, rfl⟩
theorem passes_offs (r : Bool) (k : FK) (o i : Nat) (s : Ps) : passes r k (offs o (i + 1)) s = passes r k [o + i] (passes r k (offs o i) s) := by
 unfold offs
 rw [List.range_succ, List.map_append, passes_app]; rfl
def LineB (T : Nat) (r : Bool) (va : Value) (bs : List Int) (G : Heap) : Prop :=
 if r = true then ∃ (cb off c : Nat) (all : List Value), va = .slice (some ⟨cb, off, none⟩) bs.length c ∧ bs.length ≤ c ∧ G = [(cb, blk all T)] ∧ ∀ j v, (bs.map (Value.int .u8))[j]? = some v → all[off + j]? = some v
 else Vec T 1 va bs.length (bs.map (.int .u8)) G
theorem LineB.read {T : Nat} {va : Value} {bs : List Int} {G : Heap} (h : LineB T true va bs G) : ∃ (cb off c : Nat) (all : List Value), va = .slice (some ⟨cb, off, none⟩) bs.length c ∧ bs.length ≤ c ∧ G = [(cb, blk all T)] ∧ ∀ j v, (bs.map (Value.int .u8))[j]? = some v → all[off + j]? = some v := h
theorem LineB.write {T : Nat} {va : Value} {bs : List Int} {G : Heap} (h : LineB T false va bs G) : Vec T 1 va bs.length (bs.map (.int .u8)) G := h
theorem LineB.cut {T cb off c n : Nat} {bs : List Int} {all : List Value} (hle : bs.length ≤ c) (hn : n ≤ bs.length) (hall : ∀ j v, (bs.map (Value.int .u8))[j]? = some v → all[off + j]? = some v) :
  LineB T true (.slice (some ⟨cb, cut1 off n c, none⟩) (bs.length - n) (c - n)) (bs.drop n) [(cb, blk all T)] := by
 refine ⟨cb, cut1 off n c, c - n, all, by rw [List.length_drop], by rw [List.length_drop]; omega, rfl, fun j v hv => ?_⟩
 rw [List.map_drop, List.getElem?_drop] at hv
 by_cases hc : c = n
 ·rw [List.getElem?_eq_none (by rw [List.length_map]; omega)] at hv; cases hv
 ·rw [cut1_on hc, Nat.add_assoc]; exact hall _ _ hv
def cPtr (b : Nat) (o : Nat) : List Value := [.pointer (some ⟨b, o, none⟩)]
theorem cPtr_len (b o : Nat) : (cPtr b o).length = 1 := rfl
theorem St.apartT {w0 w : World} {ms : List Nat} {A : Heap} {x : Nat × Obj} {G : Heap} (hw : St w0 ms (A ++ ([x] ++ G)) w) : x.1 ∉ A.map (·.1) := fun hx => by
 have h := hw.nodup
 rw [List.map_append, List.nodup_append] at h
 exact h.2.2 _ hx _ y_z rfl
def tyM (o : Nat) : Option FK :=
 if o < 8 then some .byte else if o < 10 then some .word else if o < 14 then some .bool else if o < 17 then none else if o < 19 then some .bool else if o < 21 then some (.int 2) else if o < 25 then some .byte
 else if o < 26 then some (.int 2) else if o < 27 then some (.int 4) else if o < 29 then some .bool else if o < 34 then some .byte else if o < 35 then some .word else if o < 38 then some .byte else if o < 39 then some .bool
 else if o < 44 then some .byte else if o < 47 then some (.int 2) else if o < 48 then some .byte else if o < 49 then some (.int 2) else if o < 97 then some .byte else if o < 98 then some .bool else if o < 100 then some (.int 2)
 else if o < 116 then (if o % 4 = 0 then some .bool else some (.int 2)) else if o < 118 then some (.int 2) else if o < 119 then some .bool else if o < 121 then some .byte else if o < 123 then some (.long 8) else if o < 135 then none
 else if o < 8454 then some .byte else none
def gA : List Nat := [0, 1, 2, 3, 4, 5, 6, 7, 119, 120, 21, 39, 40, 47]
def gW : List Nat := [8, 9, 34]
def gB : List Nat := [10, 11, 12, 13, 17, 18, 38, 27, 28]
def gI : List Nat := [19, 20, 25, 44, 45, 46, 48]
def gC : List Nat := [22, 23, 24, 35, 36, 37, 41, 42, 43]
def passV (r : Bool) (s : Ps) : Nat → Ps
 | 0 => s
 | i + 1 => passes r (.int 2) [101 + 4 * i, 102 + 4 * i, 103 + 4 * i] (passes r .bool [100 + 4 * i] (passV r s i))
def passB (r : Bool) (s : Ps) : Ps := passV r (passes r (.int 2) [98, 99, 116, 117] (passes r .bool [97, 118] (passes r .byte (offs 49 48) s))) 4
def pass8 (r : Bool) (s : Ps) : Ps :=
 passes r .byte gC (passes r (.int 4) [26] (passes r (.int 2) gI (pass1 r (.long 8) (pass1 r (.long 8) (passes r .bool gB (passes r .word gW (passes r .byte gA s))) 121) 122)))
def passM (r : Bool) (s : Ps) : Ps := passes r .byte (offs 8327 127) (passes r .byte (offs 135 8192) (passB r (passes r .byte (offs 29 5) (pass8 r s))))
theorem perm_two {α : Type} (G : List α) (x y : α) : ((G ++ [x]) ++ [y]).Perm ((G ++ [y]) ++ [x]) := by
 rw [List.append_assoc, List.append_assoc]
 exact List.Perm.append_left _ (List.Perm.swap _ _ _)
theorem ty_A : ∀ o ∈ gA, tyM o = some .byte := by decide
theorem ty_W : ∀ o ∈ gW, tyM o = some .word := by decide
theorem ty_B : ∀ o ∈ gB, tyM o = some .bool := by decide
theorem ty_I : ∀ o ∈ gI, tyM o = some (.int 2) := by decide
theorem ty_C : ∀ o ∈ gC, tyM o = some .byte := by decide
theorem ty_offs {a n : Nat} (h : ∀ i, i < n → tyM (a + i) = some .byte) : ∀ o ∈ offs a n, tyM o = some .byte := fun o ho => by
 obtain ⟨i, hi, rfl⟩ := offs_mem ho
 exact h i hi
theorem ty_held : ∀ o ∈ offs 29 5, tyM o = some .byte := by decide
theorem ty_regs : ∀ o ∈ offs 49 48, tyM o = some .byte := ty_offs fun i hi => by
 have key : ∀ k : Fin 48, tyM (49 + k.val) = some .byte := by decide
 exact key ⟨i, hi⟩
theorem ty_work : ∀ o ∈ offs 135 8192, tyM o = some .byte := ty_offs fun i hi => by unfold tyM; repeat (first | rw [if_neg o_m] | rw [if_pos o_m])
theorem ty_high : ∀ o ∈ offs 8327 127, tyM o = some .byte := ty_offs fun i hi => by unfold tyM; repeat (first | rw [if_neg o_m] | rw [if_pos o_m])
structure Thru (r : Bool) (n : Nat) (s : Ps) : Prop where
 ty : Typed tyM s.1
 ok : LineOk r n s
section
variable {r : Bool} {s : Ps} {n : Nat}
theorem Thru.pass {k : FK} {os : List Nat} (h : Thru r (os.length * k.many + n) s) (hk : k.fits) (ho : ∀ o ∈ os, tyM o = some k) : Thru r n (passes r k os s) := ⟨h.ty.pass hk h.ok.byts ho, h.ok.pass⟩
theorem Thru.fit {k : FK} {os : List Nat} (h : Thru r n s) (ho : ∀ o ∈ os, tyM o = some k) : ∀ o ∈ os, Fit k s.1 o := fun o hx => h.ty o k (ho o hx)
theorem Thru.le {m : Nat} (h : Thru r n s) (hm : m ≤ n) : Thru r m s := ⟨h.ty, h.ok.le hm⟩
theorem Thru.one {k : FK} {o : Nat} (h : Thru r (k.many + n) s) (hk : k.fits) (ho : tyM o = some k) : Thru r n (pass1 r k s o) :=
 Thru.pass (os := [o]) (k := k) (h.le y_z) hk y_dz
theorem ty_v0 {i : Nat} (hi : i < 4) : ∀ o ∈ [100 + 4 * i], tyM o = some .bool := by
 rcases (show i = 0 ∨ i = 1 ∨ i = 2 ∨ i = 3 by omega) with rfl | rfl | rfl | rfl <;> decide
theorem ty_v1 {i : Nat} (hi : i < 4) : ∀ o ∈ [101 + 4 * i, 102 + 4 * i, 103 + 4 * i], tyM o = some (.int 2) := by
 rcases (show i = 0 ∨ i = 1 ∨ i = 2 ∨ i = 3 by omega) with rfl | rfl | rfl | rfl <;> decide
theorem Thru.voices (h : Thru r (28 + n) s) : ∀ i, i ≤ 4 → Thru r (7 * (4 - i) + n) (passV r s i)
 | 0, _ => h
 | i + 1, hi => ((((h.voices i o_m).le (m := 1 + (6 + (7 * (4 - (i + 1)) + n))) o_m).pass (k := .bool) (os := [100 + 4 * i]) trivial (ty_v0 o_m)).pass (k := .int 2) (os := [101 + 4 * i, 102 + 4 * i, 103 + 4 * i]) (show 2 ≤ 4 by decide) (ty_v1 o_m))
theorem Thru.board (h : Thru r (86 + n) s) : Thru r n (passB r s) := by
 have h1 := (h.le (m := 48 * 1 + (38 + n)) o_m).pass (k := .byte) (os := offs 49 48) trivial ty_regs
 have h2 := (h1.le (m := 2 + (36 + n)) o_m).pass (k := .bool) (os := [97, 118]) trivial (show ∀ o ∈ [97, 118], tyM o = some .bool by decide)
 have h3 := (h2.le (m := 8 + (28 + n)) o_m).pass (k := .int 2) (os := [98, 99, 116, 117]) (show 2 ≤ 4 by decide) (show ∀ o ∈ [98, 99, 116, 117], tyM o = some (.int 2) by decide)
 exact (h3.voices 4 y_c).le o_m
theorem pass1_out {k : FK} {o j : Nat} (h : Fit k s.1 o) (hj : j ≠ o) : (pass1 r k s o).1[j]? = s.1[j]? := by
 unfold pass1
 split
 ·show (putL s.1 o _)[j]? = _; rw [putL_get h.lt, if_neg hj]
 ·rfl
theorem passes_out {k : FK} {j : Nat} (hk : k.fits) (hj : tyM j = none) : ∀ {os : List Nat} {s : Ps}, Typed tyM s.1 → Byts s.2 → (∀ o ∈ os, tyM o = some k) → (passes r k os s).1[j]? = s.1[j]?
 | [], _, _, _, _ => rfl
 | o :: os, s, h, hb, ho => by
  show (passes r k os (pass1 r k s o)).1[j]? = _
  have h1 : Typed tyM (pass1 r k s o).1 := Typed.pass (os := [o]) (k := k) h hk hb (by intro x hx; rw [List.mem_singleton.1 hx]; exact ho o (.head _))
  rw [passes_out hk hj h1 (pass1_byts hb o) (fun x hx => ho x (.tail _ hx)), pass1_out (h o k (ho o (.head _))) (by rintro rfl; rw [ho j (.head _)] at hj; cases hj)]
structure Outs (j : Nat) (s s' : Ps) : Prop where
 ty : Typed tyM s'.1
 byts : Byts s'.2
 at_ : s'.1[j]? = s.1[j]?
theorem Outs.pass {j : Nat} {s' : Ps} (h : Outs j s s') (hj : tyM j = none) {k : FK} {os : List Nat} (hk : k.fits) (ho : ∀ o ∈ os, tyM o = some k) : Outs j s (passes r k os s') := ⟨h.ty.pass hk h.byts ho, passes_byts h.byts, (passes_out hk hj h.ty h.byts ho).trans h.at_⟩
theorem Outs.one {j : Nat} {s' : Ps} (h : Outs j s s') (hj : tyM j = none) {k : FK} {o : Nat} (hk : k.fits) (ho : tyM o = some k) : Outs j s (pass1 r k s' o) := h.pass (os := [o]) hj hk y_dz
theorem Outs.voices {j : Nat} {s' : Ps} (h : Outs j s s') (hj : tyM j = none) : ∀ i, i ≤ 4 → Outs j s (passV r s' i)
 | 0, _ => h
 | i + 1, hi => ((h.voices hj i o_m).pass hj (k := .bool) trivial (ty_v0 o_m)).pass hj (k := .int 2) (show 2 ≤ 4 by decide) (ty_v1 o_m)
theorem Outs.all {j : Nat} (h : Outs j s s) (hj : tyM j = none) : Outs j s (passM r s) := by
 have h8 : Outs j s (pass8 r s) := (((((((h.pass hj (k := .byte) trivial ty_A).pass hj (k := .word) trivial ty_W).pass hj (k := .bool) trivial ty_B).one hj (k := .long 8) (o := 121) (show 8 ≤ 8 by decide) y_c).one hj (k := .long 8) (o := 122) (show 8 ≤ 8 by decide) y_c).pass hj (k := .int 2) (show 2 ≤ 4 by decide) ty_I).pass hj (k := .int 4) (show 4 ≤ 4 by decide) (show ∀ o ∈ [26], tyM o = some (.int 4) by decide)).pass hj (k := .byte) trivial ty_C
 have h9 := (((h8.pass hj (r := r) (k := .byte) trivial ty_held).pass hj (r := r) (k := .byte) trivial ty_regs).pass hj (r := r) (k := .bool) (os := [97, 118]) trivial y_c).pass hj (r := r) (k := .int 2) (os := [98, 99, 116, 117]) (show 2 ≤ 4 by decide) y_c
 exact ((h9.voices hj 4 y_c).pass hj (k := .byte) trivial ty_work).pass hj (k := .byte) trivial ty_high
theorem passM_out (r : Bool) (s : Ps) {j : Nat} (hj : tyM j = none) (ht : Typed tyM s.1) (hb : Byts s.2) : (passM r s).1[j]? = s.1[j]? := (Outs.all ⟨ht, hb, rfl⟩ hj).at_
end
def vt (bs : List Int) (p n : Nat) : Int := val (bs.drop p) n
def bo (bs : List Int) (p : Nat) : Bool := vt bs p 1 == 1
section
variable {A : Ad} {acc : Value} {m : Mm} (h : MLn m) (bs : List Int)
def dA (m : Mm) (bs : List Int) (p : Nat) : Mm := { m with cpu := { m.cpu with r := { m.cpu.r with a := vt bs p 1, f := vt bs (p + 1) 1, b := vt bs (p + 2) 1, c := vt bs (p + 3) 1, d := vt bs (p + 4) 1, e := vt bs (p + 5) 1, h := vt bs (p + 6) 1, l := vt bs (p + 7) 1 } } }
def dW (m : Mm) (bs : List Int) (p : Nat) : Mm := { m with cpu := { m.cpu with r := { m.cpu.r with sp := vt bs p 2, pc := vt bs (p + 2) 2 } }, tm := { m.tm with cnt := vt bs (p + 4) 2 } }
def dI (m : Mm) (bs : List Int) (p : Nat) : Mm := { m with bk := { m.bk with low := vt bs p 2, high := vt bs (p + 2) 2 }, ck := { m.ck with day := vt bs (p + 4) 2 }, pt := { m.pt with bits := vt bs (p + 6) 2, count := vt bs (p + 8) 2, sent := vt bs (p + 10) 2 }, cp := { m.cp with left := vt bs (p + 12) 2 } }
include h
end
def brdE (b : Bd) : List Value := [.bool b.on, .int .i64 b.div, .int .i64 b.step] ++ (flat cVc b.vs ++ [.int .i64 b.pitch, .int .i64 b.slide, .bool b.slides])
section
variable {A : Ad} {acc : Value} {m : Mm} (h : MLn m) (bs : List Int)
theorem cMm_bd : cMm A acc m = (headM m ++ m.bd.regs.map (.int .u8)) ++ (brdE m.bd ++ tailM A acc m) := by
 rw [cMm_eq]
 show headM m ++ ((m.bd.regs.map (.int .u8) ++ brdE m.bd) ++ tailM A acc m) = _
 simp only [List.append_assoc]
include h
theorem vs_four : ∃ a b c d, m.bd.vs = [a, b, c, d] := by
 have h4 := h.bd.lV
 match e : m.bd.vs, h4 with
 | [a, b, c, d], _ => exact ⟨a, b, c, d, rfl⟩
end
def outs (k : FK) (os : List Nat) (L : List Value) : List Int := os.flatMap fun o => dgts k.many (FK.at L o)
theorem passes_outs {k : FK} {L : List Value} : ∀ {os : List Nat} {bs : List Int}, passes false k os (L, bs) = (L, bs ++ outs k os L)
 | [], bs => by simp [passes, outs]
 | o :: os, bs => by
  show passes false k os (L, bs ++ dgts k.many (FK.at L o)) = _
  rw [passes_outs]
  simp [outs]
def outV (L : List Value) : Nat → List Int
 | 0 => []
 | i + 1 => outV L i ++ (outs .bool [100 + 4 * i] L ++ outs (.int 2) [101 + 4 * i, 102 + 4 * i, 103 + 4 * i] L)
theorem passV_outs {L : List Value} {bs : List Int} : ∀ i, passV false (L, bs) i = (L, bs ++ outV L i)
 | 0 => by simp [passV, outV]
 | i + 1 => by
  show passes false (.int 2) _ (passes false .bool _ (passV false (L, bs) i)) = _
  rw [passV_outs i, passes_outs, passes_outs]
  simp [outV]
def outB (L : List Value) : List Int := outs .byte (offs 49 48) L ++ (outs .bool [97, 118] L ++ (outs (.int 2) [98, 99, 116, 117] L ++ outV L 4))
def out8 (L : List Value) : List Int := outs .byte gA L ++ (outs .word gW L ++ (outs .bool gB L ++ (dgts 8 (FK.at L 121) ++ (dgts 8 (FK.at L 122) ++ (outs (.int 2) gI L ++ (outs (.int 4) [26] L ++ outs .byte gC L))))))
def outM (L : List Value) : List Int := out8 L ++ (outs .byte (offs 29 5) L ++ (outB L ++ (outs .byte (offs 135 8192) L ++ outs .byte (offs 8327 127) L)))
theorem passesS {k : FK} {os : List Nat} (s : Ps) : passes false k os s = (s.1, s.2 ++ outs k os s.1) := passes_outs
theorem pass1S {k : FK} {o : Nat} (s : Ps) : pass1 false k s o = (s.1, s.2 ++ dgts k.many (FK.at s.1 o)) := rfl
theorem passVS {i : Nat} (s : Ps) : passV false s i = (s.1, s.2 ++ outV s.1 i) := passV_outs i
theorem flat_congr {α β : Type} {f g : α → List β} : ∀ {l : List α}, (∀ i ∈ l, f i = g i) → l.flatMap f = l.flatMap g
 | [], _ => rfl
 | a :: l, h => by rw [List.flatMap_cons, List.flatMap_cons, h a (.head _), flat_congr fun i hi => h i (.tail _ hi)]
theorem flat_one {α β : Type} (f : α → β) : ∀ l : List α, (l.flatMap fun i => [f i]) = l.map f
 | [] => rfl
 | a :: l => by rw [List.flatMap_cons, flat_one f l]; rfl
theorem passM_outs {L : List Value} {bs : List Int} : passM false (L, bs) = (L, bs ++ outM L) := by
 unfold passM passB pass8 outM out8 outB
 simp only [passesS, pass1S, passVS, List.append_assoc, FK.many]
theorem at_of {L : List Value} {o : Nat} {k : IntKind} {x : Int} (h : L[o]? = some (.int k x)) : FK.at L o = x := by unfold FK.at; rw [h]
theorem at_bool {L : List Value} {o : Nat} {b : Bool} (h : L[o]? = some (.bool b)) : FK.at L o = boolI b := by unfold FK.at; rw [h]; rfl
theorem dgts_one {x : Int} (h : 0 ≤ x ∧ x < 256) : dgts 1 x = [x] := by
 show [x / 256 ^ 0 % 256] = [x]
 rw [show x / 256 ^ 0 % 256 = x by show x / 1 % 256 = x; omega]
theorem outs_row {X Y : List Value} {l : List Int} {a n : Nat} (hX : X.length = a) (hl : l.length = n) (hb : Byts l) : outs .byte (offs a n) (X ++ (l.map (.int .u8) ++ Y)) = l := by
 have e1 : outs .byte (offs a n) (X ++ (l.map (.int .u8) ++ Y)) = (List.range n).flatMap fun i => [l.getD i 0] := by
  unfold outs offs
  rw [List.flatMap_map]
  have : ∀ i ∈ List.range n, dgts FK.byte.many (FK.at (X ++ (l.map (.int .u8) ++ Y)) (a + i)) = [l.getD i 0] := fun i hi => by
   rw [at_of (k := .u8) (get_right (n := i) (by rw [hX]) (get_left (map_at (by rw [hl]; exact List.mem_range.1 hi))))]
   exact dgts_one (hb.get i)
  exact flat_congr this
 rw [e1]
 subst hl
 refine List.ext_getElem? fun i => ?_
 rw [flat_one, List.getElem?_map]
 by_cases hi : i < l.length
 ·rw [List.getElem?_range hi, List.getElem?_eq_getElem hi]
  simp [List.getD_eq_getElem?_getD, List.getElem?_eq_getElem hi]
 ·rw [List.getElem?_eq_none (by simpa using hi), List.getElem?_eq_none o_m]; rfl
def encV (v : Vc) : List Int := dgts 1 (boolI v.on) ++ (dgts 2 v.len ++ (dgts 2 v.lev ++ dgts 2 v.wait))
def encBd (b : Bd) : List Int := b.regs ++ ((dgts 1 (boolI b.on) ++ dgts 1 (boolI b.slides)) ++ ((dgts 2 b.div ++ (dgts 2 b.step ++ (dgts 2 b.pitch ++ dgts 2 b.slide))) ++ b.vs.flatMap encV))
def enc8 (m : Mm) (t : List Int) : List Int :=
 dgt m.cpu.r.a 0 :: dgt m.cpu.r.f 0 :: dgt m.cpu.r.b 0 :: dgt m.cpu.r.c 0 :: dgt m.cpu.r.d 0 :: dgt m.cpu.r.e 0 :: dgt m.cpu.r.h 0 :: dgt m.cpu.r.l 0 :: dgt m.flags 0 :: dgt m.lets 0 :: dgt m.bk.last 0 :: dgt m.pd.sel 0 :: dgt m.pd.down 0 :: dgt m.cp.page 0 ::
 dgt m.cpu.r.sp 0 :: dgt m.cpu.r.sp 1 :: dgt m.cpu.r.pc 0 :: dgt m.cpu.r.pc 1 :: dgt m.tm.cnt 0 :: dgt m.tm.cnt 1 ::
 dgt (boolI m.cpu.ime) 0 :: dgt (boolI m.cpu.soon) 0 :: dgt (boolI m.cpu.halt) 0 :: dgt (boolI m.cpu.stop) 0 :: dgt (boolI m.bk.on) 0 :: dgt (boolI m.bk.mode) 0 :: dgt (boolI m.tm.over) 0 :: dgt (boolI m.ck.halt) 0 :: dgt (boolI m.ck.carry) 0 ::
 (dgts 8 m.steps ++ (dgts 8 m.cycles ++
 (dgt m.bk.low 0 :: dgt m.bk.low 1 :: dgt m.bk.high 0 :: dgt m.bk.high 1 :: dgt m.ck.day 0 :: dgt m.ck.day 1 :: dgt m.pt.bits 0 :: dgt m.pt.bits 1 :: dgt m.pt.count 0 :: dgt m.pt.count 1 :: dgt m.pt.sent 0 :: dgt m.pt.sent 1 :: dgt m.cp.left 0 :: dgt m.cp.left 1 ::
 dgt m.ck.sub 0 :: dgt m.ck.sub 1 :: dgt m.ck.sub 2 :: dgt m.ck.sub 3 ::
 dgt m.ck.s 0 :: dgt m.ck.m 0 :: dgt m.ck.h 0 :: dgt m.tm.tima 0 :: dgt m.tm.tma 0 :: dgt m.tm.tac 0 :: dgt m.pt.data 0 :: dgt m.pt.control 0 :: dgt m.pt.last 0 ::
 dgt m.ck.h0 0 :: dgt m.ck.h1 0 :: dgt m.ck.h2 0 :: dgt m.ck.h3 0 :: dgt m.ck.h4 0 :: t)))
def encM (m : Mm) : List Int := enc8 m (encBd m.bd ++ (m.work ++ m.high))
section
variable {A : Ad} {acc : Value} {m : Mm}
theorem out_W : outs .word gW (cMm A acc m) = [dgt m.cpu.r.sp 0, dgt m.cpu.r.sp 1, dgt m.cpu.r.pc 0, dgt m.cpu.r.pc 1, dgt m.tm.cnt 0, dgt m.tm.cnt 1] := by kernel_rfl
theorem out_Bo : outs .bool gB (cMm A acc m) = [dgt (boolI m.cpu.ime) 0, dgt (boolI m.cpu.soon) 0, dgt (boolI m.cpu.halt) 0, dgt (boolI m.cpu.stop) 0, dgt (boolI m.bk.on) 0, dgt (boolI m.bk.mode) 0, dgt (boolI m.tm.over) 0, dgt (boolI m.ck.halt) 0, dgt (boolI m.ck.carry) 0] := by kernel_rfl
theorem out_I : outs (.int 2) gI (cMm A acc m) = [dgt m.bk.low 0, dgt m.bk.low 1, dgt m.bk.high 0, dgt m.bk.high 1, dgt m.ck.day 0, dgt m.ck.day 1, dgt m.pt.bits 0, dgt m.pt.bits 1, dgt m.pt.count 0, dgt m.pt.count 1, dgt m.pt.sent 0, dgt m.pt.sent 1, dgt m.cp.left 0, dgt m.cp.left 1] := by kernel_rfl
theorem out_S : outs (.int 4) [26] (cMm A acc m) = [dgt m.ck.sub 0, dgt m.ck.sub 1, dgt m.ck.sub 2, dgt m.ck.sub 3] := by kernel_rfl
theorem out_C : outs .byte gC (cMm A acc m) = [dgt m.ck.s 0, dgt m.ck.m 0, dgt m.ck.h 0, dgt m.tm.tima 0, dgt m.tm.tma 0, dgt m.tm.tac 0, dgt m.pt.data 0, dgt m.pt.control 0, dgt m.pt.last 0] := by kernel_rfl
theorem out_H : outs .byte (offs 29 5) (cMm A acc m) = [dgt m.ck.h0 0, dgt m.ck.h1 0, dgt m.ck.h2 0, dgt m.ck.h3 0, dgt m.ck.h4 0] := by kernel_rfl
theorem out_A (h : MLn m) : outs .byte gA (cMm A acc m) = [dgt m.cpu.r.a 0, dgt m.cpu.r.f 0, dgt m.cpu.r.b 0, dgt m.cpu.r.c 0, dgt m.cpu.r.d 0, dgt m.cpu.r.e 0, dgt m.cpu.r.h 0, dgt m.cpu.r.l 0, dgt m.flags 0, dgt m.lets 0, dgt m.bk.last 0, dgt m.pd.sel 0, dgt m.pd.down 0, dgt m.cp.page 0] := by
 have e1 : FK.at (cMm A acc m) 119 = m.flags := at_of (get_mid h (j := 0) rfl)
 have e2 : FK.at (cMm A acc m) 120 = m.lets := at_of (get_mid h (j := 1) rfl)
 have key : outs .byte gA (cMm A acc m) = [dgt m.cpu.r.a 0, dgt m.cpu.r.f 0, dgt m.cpu.r.b 0, dgt m.cpu.r.c 0, dgt m.cpu.r.d 0, dgt m.cpu.r.e 0, dgt m.cpu.r.h 0, dgt m.cpu.r.l 0, dgt (FK.at (cMm A acc m) 119) 0, dgt (FK.at (cMm A acc m) 120) 0, dgt m.bk.last 0, dgt m.pd.sel 0, dgt m.pd.down 0, dgt m.cp.page 0] := by kernel_rfl
 rw [key, e1, e2]
theorem at_121 (h : MLn m) : FK.at (cMm A acc m) 121 = m.steps := at_of (get_mid h (j := 2) rfl)
theorem at_122 (h : MLn m) : FK.at (cMm A acc m) 122 = m.cycles := at_of (get_mid h (j := 3) rfl)
theorem out8_enc (h : MLn m) (t : List Int) : out8 (cMm A acc m) ++ (outs .byte (offs 29 5) (cMm A acc m) ++ t) = enc8 m t := by
 unfold out8
 rw [out_A h, out_W, out_Bo, at_121 h, at_122 h, out_I, out_S, out_C, out_H]
 unfold enc8
 simp only [List.append_assoc, List.cons_append, List.nil_append]
theorem at_brd (h : MLn m) {j : Nat} {v : Value} (hv : (brdE m.bd)[j]? = some v) : (cMm A acc m)[97 + j]? = some v := by
 rw [cMm_bd]
 exact get_right (n := j) y_di (get_left hv)
theorem outB_enc (h : MLn m) : outB (cMm A acc m) = encBd m.bd := by
 obtain ⟨a, b, c, d, e⟩ := vs_four h
 have e1 : outs .byte (offs 49 48) (cMm A acc m) = m.bd.regs := by rw [cMm_bd, List.append_assoc]; exact outs_row headM_len h.bd.lR h.bd.bR
 have hE : brdE m.bd = [.bool m.bd.on, .int .i64 m.bd.div, .int .i64 m.bd.step] ++ ((cVc a ++ (cVc b ++ (cVc c ++ (cVc d ++ [])))) ++ [.int .i64 m.bd.pitch, .int .i64 m.bd.slide, .bool m.bd.slides]) := by unfold brdE; rw [e]; rfl
 have g : ∀ j v, ([.bool m.bd.on, .int .i64 m.bd.div, .int .i64 m.bd.step] ++ ((cVc a ++ (cVc b ++ (cVc c ++ (cVc d ++ [])))) ++ [.int .i64 m.bd.pitch, .int .i64 m.bd.slide, .bool m.bd.slides]) : List Value)[j]? = some v → (cMm A acc m)[97 + j]? = some v := fun j v hv => at_brd h (by rw [hE]; exact hv)
 have a0 := at_bool (g 0 _ rfl); have a1 := at_of (g 1 _ rfl); have a2 := at_of (g 2 _ rfl)
 have a3 := at_bool (g 3 _ rfl); have a4 := at_of (g 4 _ rfl); have a5 := at_of (g 5 _ rfl); have a6 := at_of (g 6 _ rfl)
 have a7 := at_bool (g 7 _ rfl); have a8 := at_of (g 8 _ rfl); have a9 := at_of (g 9 _ rfl); have a10 := at_of (g 10 _ rfl)
 have a11 := at_bool (g 11 _ rfl); have a12 := at_of (g 12 _ rfl); have a13 := at_of (g 13 _ rfl); have a14 := at_of (g 14 _ rfl)
 have a15 := at_bool (g 15 _ rfl); have a16 := at_of (g 16 _ rfl); have a17 := at_of (g 17 _ rfl); have a18 := at_of (g 18 _ rfl)
 have a19 := at_of (g 19 _ rfl); have a20 := at_of (g 20 _ rfl); have a21 := at_bool (g 21 _ rfl)
 unfold outB encBd outV outV outV outV outV
 rw [e1, e]
 simp only [outs, List.flatMap_cons, List.flatMap_nil, List.append_nil, List.nil_append, FK.many, Nat.mul_zero, Nat.add_zero, Nat.reduceMul, Nat.reduceAdd] at a0 a1 a2 a3 a4 a5 a6 a7 a8 a9 a10 a11 a12 a13 a14 a15 a16 a17 a18 a19 a20 a21 ⊢
 rw [a0, a1, a2, a3, a4, a5, a6, a7, a8, a9, a10, a11, a12, a13, a14, a15, a16, a17, a18, a19, a20, a21]
 simp only [encV, List.append_assoc]
theorem outM_enc (h : m.Wf) : outM (cMm A acc m) = encM m := by
 unfold outM encM
 have e1 : outs .byte (offs 135 8192) (cMm A acc m) = m.work := by
  have e : cMm A acc m = (headM m ++ (cBd m.bd ++ midM A m)) ++ (m.work.map (.int .u8) ++ (m.high.map (.int .u8) ++ [acc])) := by rw [cMm_eq]; unfold tailM; simp only [List.append_assoc]
  rw [e]; exact outs_row (by rw [List.length_append, headM_len, List.length_append, cBd_len h.ln.bd, midM_len]) h.lWork h.bWork
 have e2 : outs .byte (offs 8327 127) (cMm A acc m) = m.high := by
  have e : cMm A acc m = (headM m ++ (cBd m.bd ++ (midM A m ++ m.work.map (.int .u8)))) ++ (m.high.map (.int .u8) ++ [acc]) := by rw [cMm_eq]; unfold tailM; simp only [List.append_assoc]
  rw [e]; exact outs_row (by rw [List.length_append, headM_len, List.length_append, cBd_len h.ln.bd, List.length_append, midM_len, List.length_map, h.lWork]) h.lHigh h.bHigh
 rw [outB_enc h.ln, e1, e2]
 exact out8_enc h.ln _
end
section
variable {b : Bd} (h : b.Wf) (t : List Int)
theorem encBd_len (h : b.Ln) : (encBd b).length = 86 := by
 have h4 := h.lV
 unfold encBd
 have : ∀ l : List Vc, (l.flatMap encV).length = 7 * l.length := fun l => by
  induction l with
  | nil => rfl
  | cons v l ih => rw [List.flatMap_cons, List.length_append, ih, List.length_cons]; show 7 + _ = _; omega
 simp only [List.length_append, this, dgts_len, h4, h.lR]
include h
end
section
variable {m : Mm} (h : m.Wf)
include h
omit h in
theorem enc8_len (t : List Int) : (enc8 m t).length = 77 + t.length := by unfold enc8; simp only [List.length_cons, List.length_append, dgts_len]; omega
theorem encM_len : (encM m).length = 8482 := by unfold encM; rw [enc8_len, List.length_append, List.length_append, encBd_len h.ln.bd, h.lWork, h.lHigh]
end
theorem fit_bool {L : List Value} {o : Nat} {b : Bool} (h : L[o]? = some (.bool b)) : Fit .bool L o := ⟨boolI b, by rw [h]; cases b <;> rfl, by cases b; exact .inl rfl; exact .inr rfl⟩
theorem i64_of {x : Int} (h : 0 ≤ x ∧ x < 65536) : -9223372036854775808 ≤ x ∧ x ≤ 9223372036854775807 := by omega
theorem i64_of4 {x : Int} (h : 0 ≤ x ∧ x < 4294967296) : -9223372036854775808 ≤ x ∧ x ≤ 9223372036854775807 := by omega
section
variable {A : Ad} {acc : Value} {m : Mm} (h : m.Wf) (hr : m.cpu.r.Ok)
include h hr
theorem fit_head {o : Nat} {k : FK} (ho : o < 49) (hk : tyM o = some k) : Fit k (headM m) o := by
 rcases (show o = 0 ∨ o = 1 ∨ o = 2 ∨ o = 3 ∨ o = 4 ∨ o = 5 ∨ o = 6 ∨ o = 7 ∨ o = 8 ∨ o = 9 ∨ o = 10 ∨ o = 11 ∨ o = 12 ∨ o = 13 ∨ o = 14 ∨ o = 15 ∨ o = 16 ∨ o = 17 ∨ o = 18 ∨ o = 19 ∨ o = 20 ∨ o = 21 ∨ o = 22 ∨ o = 23 ∨ o = 24 ∨ o = 25 ∨ o = 26 ∨ o = 27 ∨ o = 28 ∨ o = 29 ∨ o = 30 ∨ o = 31 ∨ o = 32 ∨ o = 33 ∨ o = 34 ∨ o = 35 ∨ o = 36 ∨ o = 37 ∨ o = 38 ∨ o = 39 ∨ o = 40 ∨ o = 41 ∨ o = 42 ∨ o = 43 ∨ o = 44 ∨ o = 45 ∨ o = 46 ∨ o = 47 ∨ o = 48 by omega) with rfl | rfl | rfl | rfl | rfl | rfl | rfl | rfl | rfl | rfl | rfl | rfl | rfl | rfl | rfl | rfl | rfl | rfl | rfl | rfl | rfl | rfl | rfl | rfl | rfl | rfl | rfl | rfl | rfl | rfl | rfl | rfl | rfl | rfl | rfl | rfl | rfl | rfl | rfl | rfl | rfl | rfl | rfl | rfl | rfl | rfl | rfl | rfl | rfl
 ·obtain rfl : FK.byte = k := Option.some.inj hk
  exact ⟨_, rfl, hr.a⟩
 ·obtain rfl : FK.byte = k := Option.some.inj hk
  exact ⟨_, rfl, hr.f⟩
 ·obtain rfl : FK.byte = k := Option.some.inj hk
  exact ⟨_, rfl, hr.b⟩
 ·obtain rfl : FK.byte = k := Option.some.inj hk
  exact ⟨_, rfl, hr.c⟩
 ·obtain rfl : FK.byte = k := Option.some.inj hk
  exact ⟨_, rfl, hr.d⟩
 ·obtain rfl : FK.byte = k := Option.some.inj hk
  exact ⟨_, rfl, hr.e⟩
 ·obtain rfl : FK.byte = k := Option.some.inj hk
  exact ⟨_, rfl, hr.h⟩
 ·obtain rfl : FK.byte = k := Option.some.inj hk
  exact ⟨_, rfl, hr.l⟩
 ·obtain rfl : FK.word = k := Option.some.inj hk
  exact ⟨_, rfl, hr.sp⟩
 ·obtain rfl : FK.word = k := Option.some.inj hk
  exact ⟨_, rfl, hr.pc⟩
 ·obtain rfl : FK.bool = k := Option.some.inj hk
  exact fit_bool rfl
 ·obtain rfl : FK.bool = k := Option.some.inj hk
  exact fit_bool rfl
 ·obtain rfl : FK.bool = k := Option.some.inj hk
  exact fit_bool rfl
 ·obtain rfl : FK.bool = k := Option.some.inj hk
  exact fit_bool rfl
 ·cases (show (none : Option FK) = some k from hk)
 ·cases (show (none : Option FK) = some k from hk)
 ·cases (show (none : Option FK) = some k from hk)
 ·obtain rfl : FK.bool = k := Option.some.inj hk
  exact fit_bool rfl
 ·obtain rfl : FK.bool = k := Option.some.inj hk
  exact fit_bool rfl
 ·obtain rfl : FK.int 2 = k := Option.some.inj hk
  exact ⟨_, rfl, (i64_of h.bk.low)⟩
 ·obtain rfl : FK.int 2 = k := Option.some.inj hk
  exact ⟨_, rfl, (i64_of h.bk.high)⟩
 ·obtain rfl : FK.byte = k := Option.some.inj hk
  exact ⟨_, rfl, h.bk.last⟩
 ·obtain rfl : FK.byte = k := Option.some.inj hk
  exact ⟨_, rfl, h.ck.s⟩
 ·obtain rfl : FK.byte = k := Option.some.inj hk
  exact ⟨_, rfl, h.ck.m⟩
 ·obtain rfl : FK.byte = k := Option.some.inj hk
  exact ⟨_, rfl, h.ck.h⟩
 ·obtain rfl : FK.int 2 = k := Option.some.inj hk
  exact ⟨_, rfl, h.ck.day⟩
 ·obtain rfl : FK.int 4 = k := Option.some.inj hk
  exact ⟨_, rfl, (i64_of4 h.ck.sub)⟩
 ·obtain rfl : FK.bool = k := Option.some.inj hk
  exact fit_bool rfl
 ·obtain rfl : FK.bool = k := Option.some.inj hk
  exact fit_bool rfl
 ·obtain rfl : FK.byte = k := Option.some.inj hk
  exact ⟨_, rfl, (h.ck.byH m.ck.h0 y_b5)⟩
 ·obtain rfl : FK.byte = k := Option.some.inj hk
  exact ⟨_, rfl, (h.ck.byH m.ck.h1 y_b5)⟩
 ·obtain rfl : FK.byte = k := Option.some.inj hk
  exact ⟨_, rfl, (h.ck.byH m.ck.h2 y_b5)⟩
 ·obtain rfl : FK.byte = k := Option.some.inj hk
  exact ⟨_, rfl, (h.ck.byH m.ck.h3 y_b5)⟩
 ·obtain rfl : FK.byte = k := Option.some.inj hk
  exact ⟨_, rfl, (h.ck.byH m.ck.h4 y_b5)⟩
 ·obtain rfl : FK.word = k := Option.some.inj hk
  exact ⟨_, rfl, h.tm.cnt⟩
 ·obtain rfl : FK.byte = k := Option.some.inj hk
  exact ⟨_, rfl, h.tm.tima⟩
 ·obtain rfl : FK.byte = k := Option.some.inj hk
  exact ⟨_, rfl, h.tm.tma⟩
 ·obtain rfl : FK.byte = k := Option.some.inj hk
  exact ⟨_, rfl, h.tm.tac⟩
 ·obtain rfl : FK.bool = k := Option.some.inj hk
  exact fit_bool rfl
 ·obtain rfl : FK.byte = k := Option.some.inj hk
  exact ⟨_, rfl, h.pd.sel⟩
 ·obtain rfl : FK.byte = k := Option.some.inj hk
  exact ⟨_, rfl, h.pd.down⟩
 ·obtain rfl : FK.byte = k := Option.some.inj hk
  exact ⟨_, rfl, h.pt.data⟩
 ·obtain rfl : FK.byte = k := Option.some.inj hk
  exact ⟨_, rfl, h.pt.control⟩
 ·obtain rfl : FK.byte = k := Option.some.inj hk
  exact ⟨_, rfl, h.pt.last⟩
 ·obtain rfl : FK.int 2 = k := Option.some.inj hk
  exact ⟨_, rfl, (i64_of h.pt.bits)⟩
 ·obtain rfl : FK.int 2 = k := Option.some.inj hk
  exact ⟨_, rfl, (i64_of h.pt.count)⟩
 ·obtain rfl : FK.int 2 = k := Option.some.inj hk
  exact ⟨_, rfl, (i64_of h.pt.sent)⟩
 ·obtain rfl : FK.byte = k := Option.some.inj hk
  exact ⟨_, rfl, h.cp.page⟩
 ·obtain rfl : FK.int 2 = k := Option.some.inj hk
  exact ⟨_, rfl, (i64_of h.cp.left)⟩
omit hr in
theorem fit_brd {o : Nat} {k : FK} (h1 : 97 ≤ o) (h2 : o < 119) (hk : tyM o = some k) : Fit k (cMm A acc m) o := by
 obtain ⟨a, b, c, d, e⟩ := vs_four h.ln
 have o0 := h.bd.oV a (by rw [e]; simp); have o1 := h.bd.oV b (by rw [e]; simp); have o2 := h.bd.oV c (by rw [e]; simp); have o3 := h.bd.oV d (by rw [e]; simp)
 have hE : brdE m.bd = [.bool m.bd.on, .int .i64 m.bd.div, .int .i64 m.bd.step] ++ ((cVc a ++ (cVc b ++ (cVc c ++ (cVc d ++ [])))) ++ [.int .i64 m.bd.pitch, .int .i64 m.bd.slide, .bool m.bd.slides]) := by unfold brdE; rw [e]; rfl
 have g : ∀ j v, ([.bool m.bd.on, .int .i64 m.bd.div, .int .i64 m.bd.step] ++ ((cVc a ++ (cVc b ++ (cVc c ++ (cVc d ++ [])))) ++ [.int .i64 m.bd.pitch, .int .i64 m.bd.slide, .bool m.bd.slides]) : List Value)[j]? = some v → (cMm A acc m)[97 + j]? = some v := fun j v hv => at_brd h.ln (by rw [hE]; exact hv)
 rcases (show o = 97 ∨ o = 98 ∨ o = 99 ∨ o = 100 ∨ o = 101 ∨ o = 102 ∨ o = 103 ∨ o = 104 ∨ o = 105 ∨ o = 106 ∨ o = 107 ∨ o = 108 ∨ o = 109 ∨ o = 110 ∨ o = 111 ∨ o = 112 ∨ o = 113 ∨ o = 114 ∨ o = 115 ∨ o = 116 ∨ o = 117 ∨ o = 118 by omega) with rfl | rfl | rfl | rfl | rfl | rfl | rfl | rfl | rfl | rfl | rfl | rfl | rfl | rfl | rfl | rfl | rfl | rfl | rfl | rfl | rfl | rfl
 ·obtain rfl : FK.bool = k := Option.some.inj hk
  exact fit_bool (g 0 _ rfl)
 ·obtain rfl : FK.int 2 = k := Option.some.inj hk
  exact ⟨_, g 1 _ rfl, (i64_of h.bd.div)⟩
 ·obtain rfl : FK.int 2 = k := Option.some.inj hk
  exact ⟨_, g 2 _ rfl, (i64_of h.bd.step)⟩
 ·obtain rfl : FK.bool = k := Option.some.inj hk
  exact fit_bool (g 3 _ rfl)
 ·obtain rfl : FK.int 2 = k := Option.some.inj hk
  exact ⟨_, g 4 _ rfl, (i64_of o0.len)⟩
 ·obtain rfl : FK.int 2 = k := Option.some.inj hk
  exact ⟨_, g 5 _ rfl, (i64_of o0.lev)⟩
 ·obtain rfl : FK.int 2 = k := Option.some.inj hk
  exact ⟨_, g 6 _ rfl, (i64_of o0.wait)⟩
 ·obtain rfl : FK.bool = k := Option.some.inj hk
  exact fit_bool (g 7 _ rfl)
 ·obtain rfl : FK.int 2 = k := Option.some.inj hk
  exact ⟨_, g 8 _ rfl, (i64_of o1.len)⟩
 ·obtain rfl : FK.int 2 = k := Option.some.inj hk
  exact ⟨_, g 9 _ rfl, (i64_of o1.lev)⟩
 ·obtain rfl : FK.int 2 = k := Option.some.inj hk
  exact ⟨_, g 10 _ rfl, (i64_of o1.wait)⟩
 ·obtain rfl : FK.bool = k := Option.some.inj hk
  exact fit_bool (g 11 _ rfl)
 ·obtain rfl : FK.int 2 = k := Option.some.inj hk
  exact ⟨_, g 12 _ rfl, (i64_of o2.len)⟩
 ·obtain rfl : FK.int 2 = k := Option.some.inj hk
  exact ⟨_, g 13 _ rfl, (i64_of o2.lev)⟩
 ·obtain rfl : FK.int 2 = k := Option.some.inj hk
  exact ⟨_, g 14 _ rfl, (i64_of o2.wait)⟩
 ·obtain rfl : FK.bool = k := Option.some.inj hk
  exact fit_bool (g 15 _ rfl)
 ·obtain rfl : FK.int 2 = k := Option.some.inj hk
  exact ⟨_, g 16 _ rfl, (i64_of o3.len)⟩
 ·obtain rfl : FK.int 2 = k := Option.some.inj hk
  exact ⟨_, g 17 _ rfl, (i64_of o3.lev)⟩
 ·obtain rfl : FK.int 2 = k := Option.some.inj hk
  exact ⟨_, g 18 _ rfl, (i64_of o3.wait)⟩
 ·obtain rfl : FK.int 2 = k := Option.some.inj hk
  exact ⟨_, g 19 _ rfl, (i64_of h.bd.pitch)⟩
 ·obtain rfl : FK.int 2 = k := Option.some.inj hk
  exact ⟨_, g 20 _ rfl, (i64_of h.bd.slide)⟩
 ·obtain rfl : FK.bool = k := Option.some.inj hk
  exact fit_bool (g 21 _ rfl)
theorem typed_cMm : Typed tyM (cMm A acc m) := fun o k hk => by
 by_cases h1 : o < 49
 ·obtain ⟨x, hx, hok⟩ := fit_head h hr h1 hk
  exact ⟨x, get_head hx, hok⟩
 by_cases h2 : o < 97
 ·obtain ⟨i, rfl⟩ : ∃ i, o = 49 + i := ⟨o - 49, y_D⟩
  have hk' : tyM (49 + i) = some .byte := ty_regs _ (mem_offs o_m)
  rw [hk'] at hk; cases hk
  refine ⟨m.bd.regs.getD i 0, ?_, h.bd.bR.get i⟩
  rw [cMm_bd, List.append_assoc]
  exact get_right (n := i) (by rw [headM_len]) (get_left (map_at (by rw [h.bd.lR]; omega)))
 by_cases h3 : o < 119
 ·exact fit_brd h o_m h3 hk
 by_cases h4 : o < 135
 ·rcases (show o = 119 ∨ o = 120 ∨ o = 121 ∨ o = 122 ∨ 123 ≤ o by omega) with rfl | rfl | rfl | rfl | h5
  ·obtain rfl : FK.byte = k := Option.some.inj hk
   exact ⟨_, get_mid h.ln (j := 0) rfl, h.flags⟩
  ·obtain rfl : FK.byte = k := Option.some.inj hk
   exact ⟨_, get_mid h.ln (j := 1) rfl, h.lets⟩
  ·obtain rfl : FK.long 8 = k := Option.some.inj hk
   exact ⟨_, get_mid h.ln (j := 2) rfl, h.steps⟩
  ·obtain rfl : FK.long 8 = k := Option.some.inj hk
   exact ⟨_, get_mid h.ln (j := 3) rfl, h.cycles⟩
  ·have : tyM o = none := by unfold tyM; repeat (first | rw [if_neg o_m] | rw [if_pos o_m])
   rw [this] at hk; cases hk
 by_cases h5 : o < 8327
 ·obtain ⟨i, rfl⟩ : ∃ i, o = 135 + i := ⟨o - 135, y_D⟩
  rw [ty_work _ (mem_offs (show i < 8192 by omega))] at hk; cases hk
  exact ⟨_, get_work h.ln o_m, h.bWork.get i⟩
 by_cases h6 : o < 8454
 ·obtain ⟨i, rfl⟩ : ∃ i, o = 8327 + i := ⟨o - 8327, y_D⟩
  rw [ty_high _ (mem_offs (show i < 127 by omega))] at hk; cases hk
  exact ⟨_, get_high h.ln o_m, h.bHigh.get i⟩
 ·have : tyM o = none := by unfold tyM; repeat (first | rw [if_neg o_m] | rw [if_pos o_m])
  rw [this] at hk; cases hk
end
section
variable {m : Mm} (h : m.Wf) (rs : List Value)
include h
theorem fit_ram : ∀ o ∈ offs 0 m.ram.length, Fit .byte (m.ram.map (.int .u8) ++ rs) o := fun o ho => by
 obtain ⟨i, hi, rfl⟩ := offs_mem ho
 rw [Nat.zero_add]
 exact ⟨_, get_left (map_at hi), h.bRam.get i⟩
theorem ram_out (bs : List Int) : passes false .byte (offs 0 m.ram.length) (m.ram.map (.int .u8) ++ rs, bs) = (m.ram.map (.int .u8) ++ rs, bs ++ m.ram) := by
 rw [passes_outs]
 exact congrArg (fun z => (_, bs ++ z)) (outs_row (X := []) rfl rfl h.bRam)
end
def encA (m : Mm) : List Int := encM m ++ (m.ram ++ encU m.u)
section
variable {u : PU}
theorem step_keep (u : PU) : (stepU u).V = u.V ∧ (stepU u).O = u.O ∧ (stepU u).R = u.R := by
 unfold stepU paintU nextU oneU
 repeat' split
 all_goals exact ⟨rfl, rfl, rfl⟩
theorem tick_keep (u : PU) : (tickU u).V = u.V ∧ (tickU u).O = u.O ∧ (tickU u).R = u.R := by
 unfold tickU
 split
 ·exact step_keep u
 ·exact ⟨rfl, rfl, rfl⟩
end
structure PU.Ln (u : PU) : Prop where
 lV : u.V.length = 8192
 lO : u.O.length = 160
 lR : u.R.length = 12
 lP : u.P.length = 23040
theorem PU.Wf.ln {u : PU} (h : u.Wf) : u.Ln := ⟨h.lV, h.lO, h.lR, h.lP⟩
section
variable {l : List Int} (hl : l.length = 31408)
def z1 (l : List Int) : PU := { zeroU with V := l.take 8192 }
include hl
end
structure PU.Good (u : PU) : Prop where
 ok : u.Ok
 own : u.own ≤ u.line + (if 63 ≤ u.dot then 1 else 0)
 r4 : u.R.getD 4 0 = 0
 r6 : u.R.getD 6 0 = 0
 pic : ∀ x ∈ u.P, x ≤ 3
 off : litU u = false → u.line = 0 ∧ u.dot = 0
theorem zeroU_good : zeroU.Good := ⟨zeroU_ok, y_eK, rfl, rfl, fun x hx => by rw [(List.mem_replicate.1 hx).2]; decide, fun _ => ⟨rfl, rfl⟩⟩
section
variable {u : PU}
theorem rowU_four (u : PU) : ∀ x ∈ rowU u, x ≤ 3 := fun x hx => by
 obtain ⟨k, _, rfl⟩ := List.mem_map.1 hx
 have := seenS_four u.V (u.r 0) (u.r 7) (u.r 8) (u.r 9) k u.line ((belowU u).getD k 0) ((isort (shownS u.O (u.r 0) u.line)).find? (hit u.V (u.r 0) k u.line))
 unfold lineS; omega
theorem putI_mem {l r : List Int} {j : Nat} {x : Int} (h : x ∈ putI l j r) : x ∈ l ∨ x ∈ r := by
 unfold putI at h
 rcases List.mem_append.1 h with h | h
 ·rcases List.mem_append.1 h with h | h
  ·exact .inl (List.mem_of_mem_take h)
  ·exact .inr h
 ·exact .inl (List.mem_of_mem_drop h)
theorem PU.Good.ask (h : u.Good) : (askU u).Good := ⟨h.ok.ask, h.own, h.r4, h.r6, h.pic, h.off⟩
theorem PU.Good.tick (h : u.Good) : (tickU u).Good := by
 have hk := h.ok.tick
 by_cases hl : litU u = true
 ·have ht : tickU u = askU (stepU u) := by unfold tickU; rw [if_pos hl]
  refine ⟨hk, ?_, ?_, ?_, ?_, fun hf => ?_⟩
  ·rw [ht]
   show (stepU u).own ≤ (stepU u).line + (if 63 ≤ (stepU u).dot then 1 else 0)
   have ho := h.own; have hd := h.ok.dot; have hn := h.ok.line; have hd0 := h.ok.wf.dot; have hl0 := h.ok.wf.line
   by_cases h1 : u.dot = 62 ∧ u.line < 144
   ·rw [step_paint h1.1 h1.2]
    simp only [paintU, oneU]
    split at ho <;> (try split) <;> (try split) <;> omega
   ·by_cases h2 : u.dot = 113
    ·rw [step_next h2]
     unfold nextU oneU
     dsimp only
     by_cases h3 : u.line = 143
     ·rw [if_pos h3]; dsimp only; split at ho <;> (try split) <;> omega
     ·rw [if_neg h3]
      by_cases h4 : u.line = 153
      ·rw [if_pos h4]; dsimp only; (try split) <;> omega
      ·rw [if_neg h4]; dsimp only; split at ho <;> (try split) <;> omega
    ·rw [step_one h1 h2]
     simp only [oneU]
     split at ho <;> (try split) <;> omega
  ·rw [(tick_keep u).2.2]; exact h.r4
  ·rw [(tick_keep u).2.2]; exact h.r6
  ·rw [ht]
   show ∀ x ∈ (stepU u).P, x ≤ 3
   intro x hx
   unfold stepU paintU nextU oneU at hx
   split at hx
   ·rcases putI_mem hx with hx | hx
    ·exact h.pic x hx
    ·exact rowU_four _ x hx
   ·repeat' split at hx
    all_goals exact h.pic x hx
  ·have : litU (tickU u) = litU u := by unfold litU PU.r; rw [(tick_keep u).2.2]
   rw [this, hl] at hf; cases hf
 ·have ht : tickU u = u := by unfold tickU; rw [if_neg hl]
  rw [ht]; exact h
theorem PU.Good.set (h : u.Good) {n x : Int} (hn : n = -1 ∨ (0 ≤ n ∧ n < 12 ∧ n ≠ 6)) (h0 : n ≠ -1) : (setU u n x).R.getD 4 0 = 0 ∧ (setU u n x).R.getD 6 0 = 0 := by
 have e : ∀ (j k : Nat) (y : Int), k ≠ j → (u.R.set j y).getD k 0 = u.R.getD k 0 := fun j k y hk => by
  rw [List.getD_eq_getElem?_getD, List.getElem?_set_ne (Ne.symm hk), ← List.getD_eq_getElem?_getD]
 by_cases h1 : n = 1
 ·rw [set_1 h1]; exact ⟨(e 1 4 _ y_c).trans h.r4, (e 1 6 _ y_c).trans h.r6⟩
 ·by_cases h4 : n = 4
  ·rw [set_4 h4]; exact ⟨h.r4, h.r6⟩
  ·rw [set_n h1 h4]; exact ⟨(e _ 4 _ o_m).trans h.r4, (e _ 6 _ o_m).trans h.r6⟩
theorem set_rest (u : PU) (n x : Int) : (setU u n x).P = u.P ∧ (setU u n x).line = u.line ∧ (setU u n x).dot = u.dot ∧ (setU u n x).own = u.own := by
 unfold setU
 repeat' split
 all_goals exact ⟨rfl, rfl, rfl, rfl⟩
theorem PU.Good.write (h : u.Good) {a x : Int} (hx : 0 ≤ x ∧ x < 256) : (writeU u a x).Good := by
 have hk := h.ok.write (a := a) hx
 unfold writeU at hk ⊢
 split
 ·split
  ·rename_i h1 h2
   rw [if_pos h1, if_pos h2] at hk
   exact ⟨hk, h.own, h.r4, h.r6, h.pic, h.off⟩
  ·exact h
 ·rename_i h1
  rw [if_neg h1] at hk
  split
  ·rename_i h2
   rw [if_pos h2] at hk
   split
   ·rename_i h3
    rw [if_pos h3] at hk
    exact ⟨hk, h.own, h.r4, h.r6, h.pic, h.off⟩
   ·exact h
  ·rename_i h2
   rw [if_neg h2] at hk
   split
   ·exact h
   ·rename_i h3
    rw [if_neg h3] at hk
    obtain ⟨e1, e2, e3, e4⟩ := set_rest u (numU a) x
    obtain ⟨g4, g6⟩ := h.set (x := x) (num_range a) h3
    have hpic : ∀ y ∈ (setU u (numU a) x).P, y ≤ 3 := by rw [e1]; exact h.pic
    by_cases hz : litU u = true ∧ litU (setU u (numU a) x) = false
    ·have hp : putU u (numU a) x = { setU u (numU a) x with line := 0, dot := 0, own := 0 } := off_yes hz.1 hz.2
     rw [hp] at hk ⊢
     exact ⟨hk, by show (0 : Int) ≤ 0 + (if (63 : Int) ≤ 0 then 1 else 0); decide, g4, g6, hpic, fun _ => ⟨rfl, rfl⟩⟩
    ·have hp : putU u (numU a) x = setU u (numU a) x := by unfold putU offU; rw [if_neg hz]
     rw [hp] at hk ⊢
     refine ⟨hk, ?_, g4, g6, hpic, fun hf => ?_⟩
     ·show (setU u (numU a) x).own ≤ (setU u (numU a) x).line + (if 63 ≤ (setU u (numU a) x).dot then 1 else 0)
      rw [e2, e3, e4]; exact h.own
     ·show (setU u (numU a) x).line = 0 ∧ (setU u (numU a) x).dot = 0
      rw [e2, e3]
      have hf' : litU (setU u (numU a) x) = false := hf
      refine h.off ?_
      cases hq : litU u
      ·rfl
      ·exact absurd ⟨hq, hf'⟩ hz
theorem PU.Good.sprite (h : u.Good) (n : Int) {x : Int} (hx : 0 ≤ x ∧ x < 256) : (spriteU u n x).Good := by
 have hk := h.ok.sprite n hx
 unfold spriteU at hk ⊢
 split
 ·rename_i h1
  rw [if_pos h1] at hk
  exact ⟨hk, h.own, h.r4, h.r6, h.pic, h.off⟩
 ·exact h
end
def zMach : List Value := cS ⟨r0, false, false, false, false⟩ ++ (cBk ⟨0, 0, 0, false, false, 0, 0, 0⟩ ++ (cCk ⟨0, 0, 0, 0, 0, false, false, 0, 0, 0, 0, 0⟩ ++ (cTm ⟨0, 0, 0, 0, false⟩ ++ (cPd ⟨0, 0⟩ ++ (cPt ⟨0, 0, 0, 0, 0, 0⟩ ++ (cCp ⟨0, 0⟩ ++ (cBd bdZ ++
 ([.int .u8 0, .int .u8 0, .int .u64 0, .int .u64 0, .slice none 0 0, .slice none 0 0] ++ (cHd ⟨[], 0, false, false, 0, 0, false⟩ ++ ([.pointer none, .pointer none, .slice none 0 0] ++ ((List.replicate 8192 (0 : Int)).map (.int .u8) ++ ((List.replicate 127 (0 : Int)).map (.int .u8) ++ [.slice none 0 0]))))))))))))
theorem ix_all {α : Type} : ∀ L : List α, (List.range L.length).filterMap (fun i => L[i]?) = L := fun L => by
 have key : ∀ n, n ≤ L.length → (List.range n).filterMap (fun i => L[i]?) = L.take n := fun n => by
  induction n with
  | zero => intro _; rfl
  | succ n ih => intro hn; rw [List.range_succ, List.filterMap_append, ih o_m, List.take_add_one]; simp [List.getElem?_eq_getElem (show n < L.length by omega)]
 rw [key _ (Nat.le_refl _), List.take_length]
theorem St.perm_ix {w0 w : World} {ms : List Nat} {L L' : Heap} (n : Nat) (p : List Nat) (hp : p.Perm (List.range n)) (hn : L.length = n) (hl : L' = p.filterMap (fun i => L[i]?)) (hw : St w0 ms L w) : St w0 ms L' w := by
 subst hl hn
 refine hw.perm ?_
 have := (hp.filterMap (fun i => L[i]?)).symm
 rwa [ix_all] at this
section
variable {m : Mm} (h : m.Wf)
include h
theorem encA_len : (encA m).length = 39890 + m.ram.length := by
 unfold encA
 rw [List.length_append, List.length_append, encM_len h, encU_len h.u.wf]; omega
variable {l : List Int} (hb : Byts l) (hl : l.length = (encA m).length)
include hl
include hb
end
end Go.Proofs.YtldehodcfajpjaaGreat
