/- The table is filled. -/
import Derived.Test.YtldehodcfajpjaaGreatProg
import Derived.Test.YtldehodcfajpjaaGreatQcJ
set_option linter.unusedSimpArgs false
set_option linter.unusedVariables false
set_option maxRecDepth 100000
namespace Go.Proofs.YtldehodcfajpjaaGreat
open Go Go.VV
def chkH (rom : List Int) : Nat → Int
 | 0 => 0
 | i + 1 => (chkH rom i - (rom.getD (308 + i) 0 + 1)) % 256
def totH (rom : List Int) : Nat → Int
 | 0 => 0
 | i + 1 => (totH rom i + rom.getD i 0) % 65536
def sumH (rom : List Int) : Int := (totH rom rom.length - rom.getD 334 0 - rom.getD 335 0) % 65536
theorem chkH_ok (rom : List Int) (i : Nat) : 0 ≤ chkH rom i ∧ chkH rom i < 256 := by cases i with
 | zero => exact ⟨Int.le_refl 0, (by decide : (0 : Int) < 256)⟩
 | succ i => unfold chkH; omega
theorem totH_ok (rom : List Int) (i : Nat) : 0 ≤ totH rom i ∧ totH rom i < 65536 := by cases i with
 | zero => exact ⟨Int.le_refl 0, (by decide : (0 : Int) < 65536)⟩
 | succ i => unfold totH; omega
abbrev Srt := Int × Bool × Bool
def sorts : List (Int × Srt) := [(0, 0, false, false), (8, 0, false, false), (9, 0, false, true), (1, 1, false, false), (2, 1, false, false), (3, 1, false, true), (5, 2, false, false), (6, 2, false, true), (15, 3, true, true), (16, 3, true, true), (17, 3, false, false), (18, 3, false, false), (19, 3, false, true),
 (25, 5, false, false), (26, 5, false, false), (27, 5, false, true), (28, 5, false, false), (29, 5, false, false), (30, 5, false, true)]
def cSrt (s : Srt) : List Value := [.int .i64 s.1, .bool s.2.1, .bool s.2.2]
def sortL : List (Int × Srt) → Nat → List Ent
 | [], _ => []
 | s :: l, i => (s.1, .agg (cSrt s.2).toArray, i) :: sortL l (i + 1)
def sortE : List Ent := sortL sorts 0
def findH (b : Int) : List (Int × Srt) → Option Srt
 | [] => none
 | s :: l => if b = s.1 then some s.2 else findH b l
def sortH (b : Int) : Option Srt := findH b sorts
def sortT (o : Option Srt) : Array Value := #[.agg (cSrt (o.getD (0, false, false))).toArray, .bool o.isSome]
theorem findH_ent (b : Int) : ∀ (l : List (Int × Srt)) (i j : Nat), askT (.agg (cSrt (0, false, false)).toArray) (findI b (sortL l i) j) = sortT (findH b l)
 | [], _, _ => rfl
 | s :: l, i, j => by
  unfold sortL findI findH
  by_cases h : b = s.1
  ·rw [if_pos h, if_pos h]; rfl
  ·rw [if_neg h, if_neg h]; exact findH_ent b l (i + 1) (j + 1)
theorem sort_ask (b : Int) : askT (.agg (cSrt (0, false, false)).toArray) (findI b sortE 0) = sortT (sortH b) := findH_ent b sorts 0 0
def sizesH : List Int := [0, 2048, 8192, 32768, 131072, 65536]
theorem findH_mem {b : Int} {s : Srt} : ∀ {l : List (Int × Srt)}, findH b l = some s → (b, s) ∈ l
 | [], h => by cases h
 | x :: l, h => by
  unfold findH at h
  split at h
  ·rename_i h1; cases h; rw [h1]; exact .head _
  ·exact .tail _ (findH_mem h)
theorem sortH_kind {b : Int} {s : Srt} (h : sortH b = some s) : 0 ≤ s.1 ∧ s.1 < 256 := by
 have key : ∀ x ∈ sorts, 0 ≤ x.2.1 ∧ x.2.1 < 256 := by decide
 exact key _ (findH_mem h)
def chrH (c : Int) : UInt8 := if c < 32 ∨ 126 < c then 63 else c.toNat.toUInt8
def nameH : List Int → List UInt8
 | [] => []
 | c :: l => if c = 0 then [] else chrH c :: nameH l
def ramH (kind n : Int) : Int := if kind = 2 then 512 else if n = 0 then 0 else if n = 1 then 2048 else if n = 2 then 8192 else if n = 3 then 32768 else if n = 4 then 131072 else 65536
def errH (rom : List Int) : Int :=
 if rom.length < 336 then 2 else if rom.getD 333 0 ≠ chkH rom 25 then 4 else match sortH (rom.getD 327 0) with
  | none => 5
  | some _ => if 8 < rom.getD 328 0 ∨ 6 ≤ rom.getD 329 0 then 7 else if (rom.length : Int) ≠ 32768 * 2 ^ (rom.getD 328 0).toNat then 6 else 0
def hdH (rom : List Int) : Hd :=
 let s := (sortH (rom.getD 327 0)).getD (0, false, false)
 ⟨nameH ((rom.drop 308).take 15), s.1, s.2.1, s.2.2, 2 * 2 ^ (rom.getD 328 0).toNat, ramH s.1 (rom.getD 329 0), rom.getD 334 0 * 256 + rom.getD 335 0 == sumH rom⟩
def zHd : Hd := ⟨[], 0, false, false, 0, 0, false⟩
theorem shl_many {c n : Int} (hc : c = 2 ∨ c = 32768) (hn : 0 ≤ n ∧ n ≤ 8) : shl .i64 c n = c * 2 ^ n.toNat := by
 rcases (show n = 0 ∨ n = 1 ∨ n = 2 ∨ n = 3 ∨ n = 4 ∨ n = 5 ∨ n = 6 ∨ n = 7 ∨ n = 8 by omega) with rfl | rfl | rfl | rfl | rfl | rfl | rfl | rfl | rfl <;> rcases hc with rfl | rfl <;> decide
theorem nameH_stop {l : List Int} : ∀ {i : Nat}, (∀ j, j < i → l.getD j 0 ≠ 0) → i < l.length → l.getD i 0 = 0 → nameH l = (l.take i).map chrH := by
 induction l with
 | nil => intro i _ hi _; simp at hi
 | cons c l ih =>
  intro i hj hi h0
  cases i with
  | zero => have : c = 0 := h0; unfold nameH; rw [if_pos this]; rfl
  | succ i =>
   have h1 : c ≠ 0 := hj 0 o_m
   unfold nameH
   rw [if_neg h1, ih (i := i) (fun j hj' => hj (j + 1) o_m) (by simpa using hi) h0]
   rfl
theorem nameH_all {l : List Int} (h : ∀ j, j < l.length → l.getD j 0 ≠ 0) : nameH l = l.map chrH := by
 induction l with
 | nil => rfl
 | cons c l ih =>
  have h1 : c ≠ 0 := h 0 y_z
  unfold nameH
  rw [if_neg h1, ih fun j hj => h (j + 1) (by simpa using hj)]; rfl
theorem chrH_val {c : Int} (h : 0 ≤ c ∧ c < 256) (hp : ¬ (c < 32 ∨ 126 < c)) : ((chrH c).toNat : Int) = c := by
 unfold chrH
 rw [if_neg hp]
 have : c.toNat < 256 := by omega
 rw [show (c.toNat.toUInt8).toNat = c.toNat from by simp [Nat.toUInt8, UInt8.toNat_ofNat]; omega]
 omega
def txV (l : List UInt8) : List Value := l.map fun c => .int .u8 c.toNat
theorem ramH_size {k n : Int} (hk : k ≠ 2) (hn : 0 ≤ n ∧ n < 6) : sizesH.getD n.toNat 0 = ramH k n := by
 unfold ramH
 rw [if_neg hk]
 rcases (show n = 0 ∨ n = 1 ∨ n = 2 ∨ n = 3 ∨ n = 4 ∨ n = 5 by omega) with rfl | rfl | rfl | rfl | rfl | rfl <;> rfl
theorem ramH_ok (kind n : Int) : 0 ≤ ramH kind n ∧ ramH kind n ≤ 131072 := by unfold ramH; constructor <;> (repeat' split) <;> decide
structure Pl where
 at_ : Int
 by_ : Int
 many : Int
 kind : Int
 size : Int
 x : Value
def cPl (p : Pl) : List Value := [.int .i64 p.at_, .int .i64 p.by_, .int .i64 p.many, .int .i64 p.kind, .int .i64 p.size, p.x]
theorem cPl_len (p : Pl) : (cPl p).length = 6 := rfl
def PlOk (G : Heap) (p : Pl) (q : Pq) : Prop := p.at_ = q.at_ ∧ p.by_ = q.by_ ∧ p.many = q.many ∧ p.kind = q.kind ∧ p.size = q.size ∧ match q.x with
 | none => p.x = .slice none 0 0
 | some xs => ∃ b, p.x = .slice (some ⟨b, 0, none⟩) xs.length xs.length ∧ VV.RowsIn G b 0 (xs.map (Value.int .i64))
def PlsOk (G : Heap) : List Pl → List Pq → Prop
 | [], [] => True
 | p :: ps, q :: qs => PlOk G p q ∧ PlsOk G ps qs
 | _, _ => False
theorem PlsOk.get {G : Heap} : ∀ {ps : List Pl} {qs : List Pq} {k : Nat} {q : Pq}, PlsOk G ps qs → qs[k]? = some q → ∃ p, ps[k]? = some p ∧ PlOk G p q
 | [], [], _, _, _, h => by simp at h
 | p :: ps, q :: qs, 0, _, h, h1 => by
  simp only [List.getElem?_cons_zero, Option.some.injEq] at h1
  subst h1
  exact ⟨p, rfl, h.1⟩
 | p :: ps, q :: qs, k + 1, _, h, h1 => by
  rw [List.getElem?_cons_succ] at h1
  rw [List.getElem?_cons_succ]
  exact PlsOk.get h.2 h1
 | _ :: _, [], _, _, h, _ => h.elim
 | [], _ :: _, _, _, h, _ => h.elim
theorem rowsIn_mem {G : Heap} {b : Nat} {xs : List Value} {T : TypeId} (h : (b, blk xs T) ∈ G) : VV.RowsIn G b 0 xs := fun w hw => Row.all (w := w) (b := b) (hw _ h)
def plL (b4 b5 b6 b10 b48 b59 b65 : Nat) : List Pl := [⟨0, 1, 1, 1, 1, .slice none 0 0⟩, ⟨8, 1, 1, 40, 3, .slice none 0 0⟩, ⟨16, 1, 1, 2, 2, .slice none 0 0⟩, ⟨24, 1, 1, 23, 2, .slice (some ⟨b10, 0, none⟩) 1 1⟩, ⟨32, 8, 4, 23, 2, .slice (some ⟨b5, 0, none⟩) 4 4⟩, ⟨1, 16, 4, 9, 3, .slice (some ⟨b5, 0, none⟩) 4 4⟩, ⟨9, 16, 4, 16, 1, .slice (some ⟨b5, 0, none⟩) 4 4⟩, ⟨2, 16, 4, 33, 1, .slice (some ⟨b5, 0, none⟩) 4 4⟩, ⟨10, 16, 4, 32, 1, .slice (some ⟨b5, 0, none⟩) 4 4⟩, ⟨3, 16, 4, 14, 1, .slice (some ⟨b5, 0, none⟩) 4 4⟩, ⟨11, 16, 4, 15, 1, .slice (some ⟨b5, 0, none⟩) 4 4⟩, ⟨4, 8, 8, 12, 1, .slice (some ⟨b4, 0, none⟩) 8 8⟩, ⟨5, 8, 8, 13, 1, .slice (some ⟨b4, 0, none⟩) 8 8⟩, ⟨6, 8, 8, 8, 2, .slice (some ⟨b4, 0, none⟩) 8 8⟩, ⟨7, 8, 4, 18, 1, .slice (some ⟨b5, 0, none⟩) 4 4⟩, ⟨39, 1, 1, 19, 1, .slice none 0 0⟩, ⟨47, 1, 1, 20, 1, .slice none 0 0⟩, ⟨55, 1, 1, 21, 1, .slice none 0 0⟩, ⟨63, 1, 1, 22, 1, .slice none 0 0⟩, ⟨192, 8, 4, 26, 1, .slice (some ⟨b5, 0, none⟩) 4 4⟩, ⟨224, 1, 1, 35, 2, .slice none 0 0⟩, ⟨232, 1, 1, 41, 2, .slice none 0 0⟩, ⟨240, 1, 1, 34, 2, .slice none 0 0⟩, ⟨248, 1, 1, 42, 2, .slice none 0 0⟩, ⟨193, 16, 4, 31, 1, .slice (some ⟨b6, 0, none⟩) 4 4⟩, ⟨197, 16, 4, 30, 1, .slice (some ⟨b6, 0, none⟩) 4 4⟩, ⟨201, 1, 1, 26, 1, .slice (some ⟨b48, 0, none⟩) 1 1⟩, ⟨217, 1, 1, 27, 1, .slice none 0 0⟩, ⟨233, 1, 1, 29, 1, .slice none 0 0⟩, ⟨249, 1, 1, 43, 1, .slice none 0 0⟩, ⟨194, 8, 4, 24, 3, .slice (some ⟨b5, 0, none⟩) 4 4⟩, ⟨226, 1, 1, 37, 1, .slice none 0 0⟩, ⟨234, 1, 1, 39, 3, .slice none 0 0⟩, ⟨242, 1, 1, 36, 1, .slice none 0 0⟩, ⟨250, 1, 1, 38, 3, .slice none 0 0⟩, ⟨195, 1, 1, 24, 3, .slice (some ⟨b59, 0, none⟩) 1 1⟩, ⟨243, 1, 1, 5, 1, .slice none 0 0⟩, ⟨251, 1, 1, 6, 1, .slice none 0 0⟩, ⟨196, 8, 4, 25, 3, .slice (some ⟨b5, 0, none⟩) 4 4⟩, ⟨205, 1, 1, 25, 3, .slice (some ⟨b65, 0, none⟩) 1 1⟩, ⟨198, 8, 8, 11, 2, .slice (some ⟨b4, 0, none⟩) 8 8⟩]
theorem plL_ok {G : Heap} {b4 b5 b6 b10 b48 b59 b65 : Nat} (r4 : VV.RowsIn G b4 0 (([0, 1, 2, 3, 4, 5, 6, 7] : List Int).map (Value.int .i64))) (r5 : VV.RowsIn G b5 0 (([0, 1, 2, 3] : List Int).map (Value.int .i64)))
  (r6 : VV.RowsIn G b6 0 (([0, 1, 2, 4] : List Int).map (Value.int .i64))) (r10 : VV.RowsIn G b10 0 (([4] : List Int).map (Value.int .i64))) (r48 : VV.RowsIn G b48 0 (([4] : List Int).map (Value.int .i64)))
  (r59 : VV.RowsIn G b59 0 (([4] : List Int).map (Value.int .i64))) (r65 : VV.RowsIn G b65 0 (([4] : List Int).map (Value.int .i64))) : PlsOk G (plL b4 b5 b6 b10 b48 b59 b65) PL :=
 ⟨⟨rfl, rfl, rfl, rfl, rfl, rfl⟩, ⟨rfl, rfl, rfl, rfl, rfl, rfl⟩, ⟨rfl, rfl, rfl, rfl, rfl, rfl⟩, ⟨rfl, rfl, rfl, rfl, rfl, b10, rfl, r10⟩, ⟨rfl, rfl, rfl, rfl, rfl, b5, rfl, r5⟩, ⟨rfl, rfl, rfl, rfl, rfl, b5, rfl, r5⟩, ⟨rfl, rfl, rfl, rfl, rfl, b5, rfl, r5⟩, ⟨rfl, rfl, rfl, rfl, rfl, b5, rfl, r5⟩, ⟨rfl, rfl, rfl, rfl, rfl, b5, rfl, r5⟩, ⟨rfl, rfl, rfl, rfl, rfl, b5, rfl, r5⟩, ⟨rfl, rfl, rfl, rfl, rfl, b5, rfl, r5⟩, ⟨rfl, rfl, rfl, rfl, rfl, b4, rfl, r4⟩, ⟨rfl, rfl, rfl, rfl, rfl, b4, rfl, r4⟩, ⟨rfl, rfl, rfl, rfl, rfl, b4, rfl, r4⟩, ⟨rfl, rfl, rfl, rfl, rfl, b5, rfl, r5⟩, ⟨rfl, rfl, rfl, rfl, rfl, rfl⟩, ⟨rfl, rfl, rfl, rfl, rfl, rfl⟩, ⟨rfl, rfl, rfl, rfl, rfl, rfl⟩, ⟨rfl, rfl, rfl, rfl, rfl, rfl⟩, ⟨rfl, rfl, rfl, rfl, rfl, b5, rfl, r5⟩, ⟨rfl, rfl, rfl, rfl, rfl, rfl⟩, ⟨rfl, rfl, rfl, rfl, rfl, rfl⟩, ⟨rfl, rfl, rfl, rfl, rfl, rfl⟩, ⟨rfl, rfl, rfl, rfl, rfl, rfl⟩, ⟨rfl, rfl, rfl, rfl, rfl, b6, rfl, r6⟩, ⟨rfl, rfl, rfl, rfl, rfl, b6, rfl, r6⟩, ⟨rfl, rfl, rfl, rfl, rfl, b48, rfl, r48⟩, ⟨rfl, rfl, rfl, rfl, rfl, rfl⟩, ⟨rfl, rfl, rfl, rfl, rfl, rfl⟩, ⟨rfl, rfl, rfl, rfl, rfl, rfl⟩, ⟨rfl, rfl, rfl, rfl, rfl, b5, rfl, r5⟩, ⟨rfl, rfl, rfl, rfl, rfl, rfl⟩, ⟨rfl, rfl, rfl, rfl, rfl, rfl⟩, ⟨rfl, rfl, rfl, rfl, rfl, rfl⟩, ⟨rfl, rfl, rfl, rfl, rfl, rfl⟩, ⟨rfl, rfl, rfl, rfl, rfl, b59, rfl, r59⟩, ⟨rfl, rfl, rfl, rfl, rfl, rfl⟩, ⟨rfl, rfl, rfl, rfl, rfl, rfl⟩, ⟨rfl, rfl, rfl, rfl, rfl, b5, rfl, r5⟩, ⟨rfl, rfl, rfl, rfl, rfl, b65, rfl, r65⟩, ⟨rfl, rfl, rfl, rfl, rfl, b4, rfl, r4⟩, trivial⟩
theorem plL_len (b4 b5 b6 b10 b48 b59 b65 : Nat) : (plL b4 b5 b6 b10 b48 b59 b65).length = 41 := rfl
theorem qOp_none {q : Pq} (h : q.x = none) (i : Nat) : qOp q i = ⟨q.kind, 0, 0, q.size, 0⟩ := by unfold qOp; rw [h]
theorem qOp_some {q : Pq} {x : List Int} (h : q.x = some x) (i : Nat) : qOp q i = ⟨q.kind, x.getD i 0, 0, q.size, 0⟩ := by unfold qOp; rw [h]
theorem kind4 (m : Nat) (h : m < 4) : ([.int .i64 17, .int .i64 44, .int .i64 45, .int .i64 46] : List Value)[m]? = some (.int .i64 (([17, 44, 45, 46] : List Int).getD m 0)) := by
 match m, h with
 | 0, _ => rfl
 | 1, _ => rfl
 | 2, _ => rfl
 | 3, _ => rfl
theorem kind4' (m : Nat) (h : m < 4) : ([.int .i64 17, .int .i64 44, .int .i64 45, .int .i64 46] : List Value)[0 + m * 1]? = some (.int .i64 (([17, 44, 45, 46] : List Int).getD m 0)) := by
 rw [Nat.zero_add, Nat.mul_one]; exact kind4 m h
theorem shr_nat {i k : Nat} (h : k ≤ 64) : shr .i64 (i : Int) (k : Int) = ((i / 2 ^ k : Nat) : Int) := by
 unfold shr
 have e1 : min (k : Int).toNat IntKind.i64.bits = k := by
  have : IntKind.i64.bits = 64 := rfl
  rw [this]; omega
 rw [e1, Int.fdiv_eq_ediv_of_nonneg _ (Int.le_of_lt (Int.pow_pos y_c))]
 simp
theorem and7 {m : Nat} (h : m < 1000000) : band .i64 (m : Int) 7 = ((m % 8 : Nat) : Int) := by
 unfold band
 have h1 : (BitVec.ofInt IntKind.i64.bits (m : Int) &&& BitVec.ofInt IntKind.i64.bits 7).toNat = m % 8 := by
  have e1 : BitVec.ofInt IntKind.i64.bits (m : Int) = BitVec.ofNat 64 m := by simp [IntKind.bits]
  have e2 : BitVec.ofInt IntKind.i64.bits 7 = BitVec.ofNat 64 7 := rfl
  rw [e1, e2]
  have e3 : (BitVec.ofNat 64 m &&& BitVec.ofNat 64 7).toNat = (m % 18446744073709551616) &&& 7 := by simp
  have e4 : (m % 18446744073709551616) &&& 7 = m % 18446744073709551616 % 8 := Nat.and_two_pow_sub_one_eq_mod _ 3
  exact e3.trans (by rw [e4]; omega)
 rw [h1, wrap_i64 o_m o_m]
end Go.Proofs.YtldehodcfajpjaaGreat
namespace Go.Proofs.YtldehodcfajpjaaGreat
open Go Go.VV Go.Proofs
theorem call_9 : callable Tryz.prog 9 = true := by kernel_rfl
theorem call_10 : callable Tryz.prog 10 = true := by kernel_rfl
theorem call_11 : callable Tryz.prog 11 = true := by kernel_rfl
theorem call_12 : callable Tryz.prog 12 = true := by kernel_rfl
theorem call_13 : callable Tryz.prog 13 = true := by kernel_rfl
theorem call_19 : callable Tryz.prog 19 = true := by kernel_rfl
theorem call_23 : callable Tryz.prog 23 = true := by kernel_rfl
theorem call_24 : callable Tryz.prog 24 = true := by kernel_rfl
theorem call_25 : callable Tryz.prog 25 = true := by kernel_rfl
theorem call_29 : callable Tryz.prog 29 = true := by kernel_rfl
theorem call_31 : callable Tryz.prog 31 = true := by kernel_rfl
theorem call_39 : callable Tryz.prog 39 = true := by kernel_rfl
theorem call_40 : callable Tryz.prog 40 = true := by kernel_rfl
theorem call_41 : callable Tryz.prog 41 = true := by kernel_rfl
theorem call_42 : callable Tryz.prog 42 = true := by kernel_rfl
theorem call_43 : callable Tryz.prog 43 = true := by kernel_rfl
theorem call_48 : callable Tryz.prog 48 = true := by kernel_rfl
theorem call_49 : callable Tryz.prog 49 = true := by kernel_rfl
theorem call_50 : callable Tryz.prog 50 = true := by kernel_rfl
theorem call_51 : callable Tryz.prog 51 = true := by kernel_rfl
theorem call_62 : callable Tryz.prog 62 = true := by kernel_rfl
theorem call_63 : callable Tryz.prog 63 = true := by kernel_rfl
theorem call_64 : callable Tryz.prog 64 = true := by kernel_rfl
theorem call_65 : callable Tryz.prog 65 = true := by kernel_rfl
theorem call_66 : callable Tryz.prog 66 = true := by kernel_rfl
theorem call_77 : callable Tryz.prog 77 = true := by kernel_rfl
theorem call_78 : callable Tryz.prog 78 = true := by kernel_rfl
theorem call_79 : callable Tryz.prog 79 = true := by kernel_rfl
theorem call_80 : callable Tryz.prog 80 = true := by kernel_rfl
theorem call_87 : callable Tryz.prog 87 = true := by kernel_rfl
theorem call_88 : callable Tryz.prog 88 = true := by kernel_rfl
theorem call_89 : callable Tryz.prog 89 = true := by kernel_rfl
theorem call_90 : callable Tryz.prog 90 = true := by kernel_rfl
theorem call_92 : callable Tryz.prog 92 = true := by kernel_rfl
theorem call_93 : callable Tryz.prog 93 = true := by kernel_rfl
theorem call_94 : callable Tryz.prog 94 = true := by kernel_rfl
theorem call_95 : callable Tryz.prog 95 = true := by kernel_rfl
theorem call_96 : callable Tryz.prog 96 = true := by kernel_rfl
theorem call_122 : callable Tryz.prog 122 = true := by kernel_rfl
theorem call_123 : callable Tryz.prog 123 = true := by kernel_rfl
theorem call_124 : callable Tryz.prog 124 = true := by kernel_rfl
theorem call_125 : callable Tryz.prog 125 = true := by kernel_rfl
theorem call_126 : callable Tryz.prog 126 = true := by kernel_rfl
theorem call_127 : callable Tryz.prog 127 = true := by kernel_rfl
theorem call_128 : callable Tryz.prog 128 = true := by kernel_rfl
theorem call_129 : callable Tryz.prog 129 = true := by kernel_rfl
theorem call_130 : callable Tryz.prog 130 = true := by kernel_rfl
theorem call_131 : callable Tryz.prog 131 = true := by kernel_rfl
theorem call_132 : callable Tryz.prog 132 = true := by kernel_rfl
theorem call_138 : callable Tryz.prog 138 = true := by kernel_rfl
theorem call_139 : callable Tryz.prog 139 = true := by kernel_rfl
theorem call_140 : callable Tryz.prog 140 = true := by kernel_rfl
theorem call_141 : callable Tryz.prog 141 = true := by kernel_rfl
theorem call_142 : callable Tryz.prog 142 = true := by kernel_rfl
theorem call_143 : callable Tryz.prog 143 = true := by kernel_rfl
theorem call_144 : callable Tryz.prog 144 = true := by kernel_rfl
theorem call_145 : callable Tryz.prog 145 = true := by kernel_rfl
theorem call_146 : callable Tryz.prog 146 = true := by kernel_rfl
theorem call_149 : callable Tryz.prog 149 = true := by kernel_rfl
theorem call_150 : callable Tryz.prog 150 = true := by kernel_rfl
theorem call_151 : callable Tryz.prog 151 = true := by kernel_rfl
theorem call_152 : callable Tryz.prog 152 = true := by kernel_rfl
theorem call_153 : callable Tryz.prog 153 = true := by kernel_rfl
theorem call_154 : callable Tryz.prog 154 = true := by kernel_rfl
theorem call_155 : callable Tryz.prog 155 = true := by kernel_rfl
theorem call_156 : callable Tryz.prog 156 = true := by kernel_rfl
theorem call_157 : callable Tryz.prog 157 = true := by kernel_rfl
theorem call_158 : callable Tryz.prog 158 = true := by kernel_rfl
theorem call_189 : callable Tryz.prog 189 = true := by kernel_rfl
theorem call_190 : callable Tryz.prog 190 = true := by kernel_rfl
theorem call_191 : callable Tryz.prog 191 = true := by kernel_rfl
theorem call_193 : callable Tryz.prog 193 = true := by kernel_rfl
theorem call_194 : callable Tryz.prog 194 = true := by kernel_rfl
theorem call_196 : callable Tryz.prog 196 = true := by kernel_rfl
theorem call_197 : callable Tryz.prog 197 = true := by kernel_rfl
theorem call_198 : callable Tryz.prog 198 = true := by kernel_rfl
theorem call_199 : callable Tryz.prog 199 = true := by kernel_rfl
theorem call_200 : callable Tryz.prog 200 = true := by kernel_rfl
theorem call_201 : callable Tryz.prog 201 = true := by kernel_rfl
theorem call_202 : callable Tryz.prog 202 = true := by kernel_rfl
theorem call_203 : callable Tryz.prog 203 = true := by kernel_rfl
theorem call_204 : callable Tryz.prog 204 = true := by kernel_rfl
theorem call_205 : callable Tryz.prog 205 = true := by kernel_rfl
theorem call_206 : callable Tryz.prog 206 = true := by kernel_rfl
theorem call_207 : callable Tryz.prog 207 = true := by kernel_rfl
theorem call_208 : callable Tryz.prog 208 = true := by kernel_rfl
theorem call_209 : callable Tryz.prog 209 = true := by kernel_rfl
theorem call_210 : callable Tryz.prog 210 = true := by kernel_rfl
theorem call_211 : callable Tryz.prog 211 = true := by kernel_rfl
theorem call_212 : callable Tryz.prog 212 = true := by kernel_rfl
theorem call_227 : callable Tryz.prog 227 = true := by kernel_rfl
theorem call_228 : callable Tryz.prog 228 = true := by kernel_rfl
theorem call_229 : callable Tryz.prog 229 = true := by kernel_rfl
theorem call_230 : callable Tryz.prog 230 = true := by kernel_rfl
theorem call_231 : callable Tryz.prog 231 = true := by kernel_rfl
theorem call_232 : callable Tryz.prog 232 = true := by kernel_rfl
theorem call_233 : callable Tryz.prog 233 = true := by kernel_rfl
theorem call_234 : callable Tryz.prog 234 = true := by kernel_rfl
theorem call_235 : callable Tryz.prog 235 = true := by kernel_rfl
theorem call_236 : callable Tryz.prog 236 = true := by kernel_rfl
theorem call_237 : callable Tryz.prog 237 = true := by kernel_rfl
theorem call_238 : callable Tryz.prog 238 = true := by kernel_rfl
theorem call_239 : callable Tryz.prog 239 = true := by kernel_rfl
theorem call_240 : callable Tryz.prog 240 = true := by kernel_rfl
theorem call_241 : callable Tryz.prog 241 = true := by kernel_rfl
theorem call_258 : callable Tryz.prog 258 = true := by kernel_rfl
theorem call_259 : callable Tryz.prog 259 = true := by kernel_rfl
theorem call_260 : callable Tryz.prog 260 = true := by kernel_rfl
theorem call_301 : callable Tryz.prog 301 = true := by kernel_rfl
theorem call_302 : callable Tryz.prog 302 = true := by kernel_rfl
theorem call_303 : callable Tryz.prog 303 = true := by kernel_rfl
theorem call_304 : callable Tryz.prog 304 = true := by kernel_rfl
theorem call_305 : callable Tryz.prog 305 = true := by kernel_rfl
theorem call_306 : callable Tryz.prog 306 = true := by kernel_rfl
theorem call_307 : callable Tryz.prog 307 = true := by kernel_rfl
theorem call_308 : callable Tryz.prog 308 = true := by kernel_rfl
theorem call_309 : callable Tryz.prog 309 = true := by kernel_rfl
theorem call_310 : callable Tryz.prog 310 = true := by kernel_rfl
theorem call_311 : callable Tryz.prog 311 = true := by kernel_rfl
theorem call_312 : callable Tryz.prog 312 = true := by kernel_rfl
theorem call_313 : callable Tryz.prog 313 = true := by kernel_rfl
theorem call_314 : callable Tryz.prog 314 = true := by kernel_rfl
theorem call_315 : callable Tryz.prog 315 = true := by kernel_rfl
theorem call_316 : callable Tryz.prog 316 = true := by kernel_rfl
theorem call_317 : callable Tryz.prog 317 = true := by kernel_rfl
theorem call_318 : callable Tryz.prog 318 = true := by kernel_rfl
theorem call_319 : callable Tryz.prog 319 = true := by kernel_rfl
theorem call_320 : callable Tryz.prog 320 = true := by kernel_rfl
theorem call_321 : callable Tryz.prog 321 = true := by kernel_rfl
theorem call_322 : callable Tryz.prog 322 = true := by kernel_rfl
theorem call_323 : callable Tryz.prog 323 = true := by kernel_rfl
theorem call_324 : callable Tryz.prog 324 = true := by kernel_rfl
theorem call_325 : callable Tryz.prog 325 = true := by kernel_rfl
theorem call_326 : callable Tryz.prog 326 = true := by kernel_rfl
theorem call_327 : callable Tryz.prog 327 = true := by kernel_rfl
theorem call_328 : callable Tryz.prog 328 = true := by kernel_rfl
theorem call_329 : callable Tryz.prog 329 = true := by kernel_rfl
theorem call_330 : callable Tryz.prog 330 = true := by kernel_rfl
theorem call_331 : callable Tryz.prog 331 = true := by kernel_rfl
theorem call_332 : callable Tryz.prog 332 = true := by kernel_rfl
theorem call_333 : callable Tryz.prog 333 = true := by kernel_rfl
theorem call_334 : callable Tryz.prog 334 = true := by kernel_rfl
theorem call_335 : callable Tryz.prog 335 = true := by kernel_rfl
theorem call_336 : callable Tryz.prog 336 = true := by kernel_rfl
theorem call_337 : callable Tryz.prog 337 = true := by kernel_rfl
theorem call_338 : callable Tryz.prog 338 = true := by kernel_rfl
theorem call_339 : callable Tryz.prog 339 = true := by kernel_rfl
theorem call_340 : callable Tryz.prog 340 = true := by kernel_rfl
theorem call_341 : callable Tryz.prog 341 = true := by kernel_rfl
theorem call_342 : callable Tryz.prog 342 = true := by kernel_rfl
theorem call_343 : callable Tryz.prog 343 = true := by kernel_rfl
theorem call_344 : callable Tryz.prog 344 = true := by kernel_rfl
theorem call_345 : callable Tryz.prog 345 = true := by kernel_rfl
theorem call_346 : callable Tryz.prog 346 = true := by kernel_rfl
theorem call_347 : callable Tryz.prog 347 = true := by kernel_rfl
theorem call_348 : callable Tryz.prog 348 = true := by kernel_rfl
theorem call_349 : callable Tryz.prog 349 = true := by kernel_rfl
theorem call_350 : callable Tryz.prog 350 = true := by kernel_rfl
theorem call_351 : callable Tryz.prog 351 = true := by kernel_rfl
theorem call_352 : callable Tryz.prog 352 = true := by kernel_rfl
theorem call_353 : callable Tryz.prog 353 = true := by kernel_rfl
theorem call_354 : callable Tryz.prog 354 = true := by kernel_rfl
theorem call_355 : callable Tryz.prog 355 = true := by kernel_rfl
theorem call_356 : callable Tryz.prog 356 = true := by kernel_rfl
theorem call_357 : callable Tryz.prog 357 = true := by kernel_rfl
theorem call_358 : callable Tryz.prog 358 = true := by kernel_rfl
theorem call_359 : callable Tryz.prog 359 = true := by kernel_rfl
theorem call_360 : callable Tryz.prog 360 = true := by kernel_rfl
theorem call_361 : callable Tryz.prog 361 = true := by kernel_rfl
theorem call_362 : callable Tryz.prog 362 = true := by kernel_rfl
theorem call_363 : callable Tryz.prog 363 = true := by kernel_rfl
theorem call_364 : callable Tryz.prog 364 = true := by kernel_rfl
theorem call_365 : callable Tryz.prog 365 = true := by kernel_rfl
theorem call_366 : callable Tryz.prog 366 = true := by kernel_rfl
theorem call_367 : callable Tryz.prog 367 = true := by kernel_rfl
theorem call_368 : callable Tryz.prog 368 = true := by kernel_rfl
theorem call_369 : callable Tryz.prog 369 = true := by kernel_rfl
theorem call_370 : callable Tryz.prog 370 = true := by kernel_rfl
theorem call_371 : callable Tryz.prog 371 = true := by kernel_rfl
theorem call_372 : callable Tryz.prog 372 = true := by kernel_rfl
theorem call_373 : callable Tryz.prog 373 = true := by kernel_rfl
theorem call_374 : callable Tryz.prog 374 = true := by kernel_rfl
theorem call_375 : callable Tryz.prog 375 = true := by kernel_rfl
theorem call_376 : callable Tryz.prog 376 = true := by kernel_rfl
theorem call_377 : callable Tryz.prog 377 = true := by kernel_rfl
theorem call_378 : callable Tryz.prog 378 = true := by kernel_rfl
theorem call_379 : callable Tryz.prog 379 = true := by kernel_rfl
theorem call_380 : callable Tryz.prog 380 = true := by kernel_rfl
theorem call_381 : callable Tryz.prog 381 = true := by kernel_rfl
theorem call_382 : callable Tryz.prog 382 = true := by kernel_rfl
set_option maxHeartbeats 4000000 in
theorem plans_fn (w : World) :
  Does Tryz.prog 229 [] w [] (fun v H => ∃ b L G, v = .slice (some ⟨b, 0, none⟩) 41 41 ∧ H = (b, blk (flat cPl L) 326) :: G ∧ L.length = 41 ∧ PlsOk G L PL) := by
 refine does_of Tryz.func229 rfl rfl rfl (St.refl w) ?_
 refine c_seq ?_
 refine c_region ?_
 refine Rl ?_
 refine l_nil ?_
 refine c_seq ?_
 refine c_region ?_
 refine RX (x_slc (z := [.int .i64 0]) (l := [.int .i64 0, .int .i64 1, .int .i64 2, .int .i64 3, .int .i64 4, .int .i64 5, .int .i64 6, .int .i64 7]) (ps := [(0, .int .i64 0), (1, .int .i64 1), (2, .int .i64 2), (3, .int .i64 3), (4, .int .i64 4), (5, .int .i64 5), (6, .int .i64 6), (7, .int .i64 7)]) rfl rfl rfl rfl y_g y_g) rfl ?_
 rintro _ _ ⟨b4, rfl, rfl⟩
 refine Rl ?_
 refine l_nil ?_
 refine c_seq ?_
 refine c_region ?_
 refine RX (x_slc (z := [.int .i64 0]) (l := [.int .i64 0, .int .i64 1, .int .i64 2, .int .i64 3]) (ps := [(0, .int .i64 0), (1, .int .i64 1), (2, .int .i64 2), (3, .int .i64 3)]) rfl rfl rfl rfl y_g y_g) rfl ?_
 rintro _ _ ⟨b5, rfl, rfl⟩
 refine RX (x_slc (z := [.int .i64 0]) (l := [.int .i64 0, .int .i64 1, .int .i64 2, .int .i64 4]) (ps := [(0, .int .i64 0), (1, .int .i64 1), (2, .int .i64 2), (3, .int .i64 4)]) rfl rfl rfl rfl y_g y_g) rfl ?_
 rintro _ _ ⟨b6, rfl, rfl⟩
 refine L_2 ?_
 refine l_nil ?_
 refine c_seq ?_
 refine c_region ?_
 refine RS ?_
 refine RS ?_
 refine RS ?_
 refine RX (x_slc rfl rfl rfl rfl rfl rfl) rfl ?_
 rintro _ _ ⟨b10, rfl, rfl⟩
 refine RS ?_
 refine Rl ?_
 refine RS ?_
 refine Rl ?_
 refine RS ?_
 refine Rl ?_
 refine RS ?_
 refine Rl ?_
 refine RS ?_
 refine Rl ?_
 refine RS ?_
 refine Rl ?_
 refine RS ?_
 refine Rl ?_
 refine RS ?_
 refine Rl ?_
 refine RS ?_
 refine Rl ?_
 refine RS ?_
 refine Rl ?_
 refine RS ?_
 refine Rl ?_
 refine RS ?_
 refine RS ?_
 refine RS ?_
 refine RS ?_
 refine RS ?_
 refine Rl ?_
 refine RS ?_
 refine RS ?_
 refine RS ?_
 refine RS ?_
 refine RS ?_
 refine Rl ?_
 refine RS ?_
 refine Rl ?_
 refine RS ?_
 refine RX (x_slc rfl rfl rfl rfl rfl rfl) rfl ?_
 rintro _ _ ⟨b48, rfl, rfl⟩
 refine RS ?_
 refine RS ?_
 refine RS ?_
 refine RS ?_
 refine Rl ?_
 refine RS ?_
 refine RS ?_
 refine RS ?_
 refine RS ?_
 refine RS ?_
 refine RX (x_slc rfl rfl rfl rfl rfl rfl) rfl ?_
 rintro _ _ ⟨b59, rfl, rfl⟩
 refine RS ?_
 refine RS ?_
 refine RS ?_
 refine Rl ?_
 refine RS ?_
 refine RX (x_slc rfl rfl rfl rfl rfl rfl) rfl ?_
 rintro _ _ ⟨b65, rfl, rfl⟩
 refine RS ?_
 refine Rl ?_
 refine RS ?_
 refine RX (x_slc (z := cPl ⟨0, 0, 0, 0, 0, .slice none 0 0⟩) (l := flat cPl (plL b4 b5 b6 b10 b48 b59 b65)) (ps := [(0, .agg (cPl ((plL b4 b5 b6 b10 b48 b59 b65).getD 0 ⟨0, 0, 0, 0, 0, undef⟩)).toArray), (1, .agg (cPl ((plL b4 b5 b6 b10 b48 b59 b65).getD 1 ⟨0, 0, 0, 0, 0, undef⟩)).toArray), (2, .agg (cPl ((plL b4 b5 b6 b10 b48 b59 b65).getD 2 ⟨0, 0, 0, 0, 0, undef⟩)).toArray), (3, .agg (cPl ((plL b4 b5 b6 b10 b48 b59 b65).getD 3 ⟨0, 0, 0, 0, 0, undef⟩)).toArray), (4, .agg (cPl ((plL b4 b5 b6 b10 b48 b59 b65).getD 4 ⟨0, 0, 0, 0, 0, undef⟩)).toArray), (5, .agg (cPl ((plL b4 b5 b6 b10 b48 b59 b65).getD 5 ⟨0, 0, 0, 0, 0, undef⟩)).toArray), (6, .agg (cPl ((plL b4 b5 b6 b10 b48 b59 b65).getD 6 ⟨0, 0, 0, 0, 0, undef⟩)).toArray), (7, .agg (cPl ((plL b4 b5 b6 b10 b48 b59 b65).getD 7 ⟨0, 0, 0, 0, 0, undef⟩)).toArray), (8, .agg (cPl ((plL b4 b5 b6 b10 b48 b59 b65).getD 8 ⟨0, 0, 0, 0, 0, undef⟩)).toArray), (9, .agg (cPl ((plL b4 b5 b6 b10 b48 b59 b65).getD 9 ⟨0, 0, 0, 0, 0, undef⟩)).toArray), (10, .agg (cPl ((plL b4 b5 b6 b10 b48 b59 b65).getD 10 ⟨0, 0, 0, 0, 0, undef⟩)).toArray), (11, .agg (cPl ((plL b4 b5 b6 b10 b48 b59 b65).getD 11 ⟨0, 0, 0, 0, 0, undef⟩)).toArray), (12, .agg (cPl ((plL b4 b5 b6 b10 b48 b59 b65).getD 12 ⟨0, 0, 0, 0, 0, undef⟩)).toArray), (13, .agg (cPl ((plL b4 b5 b6 b10 b48 b59 b65).getD 13 ⟨0, 0, 0, 0, 0, undef⟩)).toArray), (14, .agg (cPl ((plL b4 b5 b6 b10 b48 b59 b65).getD 14 ⟨0, 0, 0, 0, 0, undef⟩)).toArray), (15, .agg (cPl ((plL b4 b5 b6 b10 b48 b59 b65).getD 15 ⟨0, 0, 0, 0, 0, undef⟩)).toArray), (16, .agg (cPl ((plL b4 b5 b6 b10 b48 b59 b65).getD 16 ⟨0, 0, 0, 0, 0, undef⟩)).toArray), (17, .agg (cPl ((plL b4 b5 b6 b10 b48 b59 b65).getD 17 ⟨0, 0, 0, 0, 0, undef⟩)).toArray), (18, .agg (cPl ((plL b4 b5 b6 b10 b48 b59 b65).getD 18 ⟨0, 0, 0, 0, 0, undef⟩)).toArray), (19, .agg (cPl ((plL b4 b5 b6 b10 b48 b59 b65).getD 19 ⟨0, 0, 0, 0, 0, undef⟩)).toArray), (20, .agg (cPl ((plL b4 b5 b6 b10 b48 b59 b65).getD 20 ⟨0, 0, 0, 0, 0, undef⟩)).toArray), (21, .agg (cPl ((plL b4 b5 b6 b10 b48 b59 b65).getD 21 ⟨0, 0, 0, 0, 0, undef⟩)).toArray), (22, .agg (cPl ((plL b4 b5 b6 b10 b48 b59 b65).getD 22 ⟨0, 0, 0, 0, 0, undef⟩)).toArray), (23, .agg (cPl ((plL b4 b5 b6 b10 b48 b59 b65).getD 23 ⟨0, 0, 0, 0, 0, undef⟩)).toArray), (24, .agg (cPl ((plL b4 b5 b6 b10 b48 b59 b65).getD 24 ⟨0, 0, 0, 0, 0, undef⟩)).toArray), (25, .agg (cPl ((plL b4 b5 b6 b10 b48 b59 b65).getD 25 ⟨0, 0, 0, 0, 0, undef⟩)).toArray), (26, .agg (cPl ((plL b4 b5 b6 b10 b48 b59 b65).getD 26 ⟨0, 0, 0, 0, 0, undef⟩)).toArray), (27, .agg (cPl ((plL b4 b5 b6 b10 b48 b59 b65).getD 27 ⟨0, 0, 0, 0, 0, undef⟩)).toArray), (28, .agg (cPl ((plL b4 b5 b6 b10 b48 b59 b65).getD 28 ⟨0, 0, 0, 0, 0, undef⟩)).toArray), (29, .agg (cPl ((plL b4 b5 b6 b10 b48 b59 b65).getD 29 ⟨0, 0, 0, 0, 0, undef⟩)).toArray), (30, .agg (cPl ((plL b4 b5 b6 b10 b48 b59 b65).getD 30 ⟨0, 0, 0, 0, 0, undef⟩)).toArray), (31, .agg (cPl ((plL b4 b5 b6 b10 b48 b59 b65).getD 31 ⟨0, 0, 0, 0, 0, undef⟩)).toArray), (32, .agg (cPl ((plL b4 b5 b6 b10 b48 b59 b65).getD 32 ⟨0, 0, 0, 0, 0, undef⟩)).toArray), (33, .agg (cPl ((plL b4 b5 b6 b10 b48 b59 b65).getD 33 ⟨0, 0, 0, 0, 0, undef⟩)).toArray), (34, .agg (cPl ((plL b4 b5 b6 b10 b48 b59 b65).getD 34 ⟨0, 0, 0, 0, 0, undef⟩)).toArray), (35, .agg (cPl ((plL b4 b5 b6 b10 b48 b59 b65).getD 35 ⟨0, 0, 0, 0, 0, undef⟩)).toArray), (36, .agg (cPl ((plL b4 b5 b6 b10 b48 b59 b65).getD 36 ⟨0, 0, 0, 0, 0, undef⟩)).toArray), (37, .agg (cPl ((plL b4 b5 b6 b10 b48 b59 b65).getD 37 ⟨0, 0, 0, 0, 0, undef⟩)).toArray), (38, .agg (cPl ((plL b4 b5 b6 b10 b48 b59 b65).getD 38 ⟨0, 0, 0, 0, 0, undef⟩)).toArray), (39, .agg (cPl ((plL b4 b5 b6 b10 b48 b59 b65).getD 39 ⟨0, 0, 0, 0, 0, undef⟩)).toArray), (40, .agg (cPl ((plL b4 b5 b6 b10 b48 b59 b65).getD 40 ⟨0, 0, 0, 0, 0, undef⟩)).toArray)]) rfl (by rfl) rfl rfl y_g y_g) rfl ?_
 rintro _ _ ⟨b69, rfl, rfl⟩
 refine Rl ?_
 refine l_nil ?_
 refine c_ret ?_
 exact EV rfl (List.Sublist.refl _) ⟨_, _, _, rfl, rfl, plL_len .., plL_ok (rowsIn_mem m_m) (rowsIn_mem m_m) (rowsIn_mem m_m) (rowsIn_mem m_m) (rowsIn_mem m_m) (rowsIn_mem m_m) (rowsIn_mem m_m)⟩
theorem p1_move {i : Nat} (h : i / 64 = 1) : p1 i = ⟨7, ((i / 8 % 8 : Nat) : Int), ((i % 8 : Nat) : Int), 1, 0⟩ := by unfold p1; rw [if_pos h]
theorem p1_sum {i : Nat} (h : i / 64 = 2) : p1 i = ⟨10, ((i / 8 % 8 : Nat) : Int), ((i % 8 : Nat) : Int), 1, 0⟩ := by unfold p1; rw [if_neg o_m, if_pos h]
theorem p1_bad {i : Nat} (h : ¬ i / 64 = 1) (h2 : ¬ i / 64 = 2) : p1 i = ⟨4, 0, 0, 1, 0⟩ := by unfold p1; rw [if_neg h, if_neg h2]
set_option maxHeartbeats 1000000 in
theorem fill_fn (b : Nat) (u1 u2 u3 : Value) (P B : List Opr) (hP0 : P.length = 256) (hB0 : B.length = 256) (w : World) (hb : w.heap[b]? = some (blk (tabL u1 u2 u3 P B) 202)) :
  Does Tryz.prog 195 [.pointer (some ⟨b, 0, none⟩)] w [b] (fun v H => v = .tuple #[] ∧ H = [(b, blk (tabL u1 u2 u3 tabP tabB) 202)]) := by
 refine does_of Tryz.func195 rfl rfl rfl (St.lent1 hb) ?_
 refine c_seq ?_
 refine c_seq ?_
 refine c_region ?_
 refine Rl ?_
 refine l_nil ?_
 refine c_block ?_
 refine c_loop (σ := Nat × List Opr × List Opr) [2, 3, 4, 10, 11, 12, 13, 14, 15, 16, 17, 18, 19, 20, 21, 22, 23, 24, 25, 26, 27, 28, 29, 30, 31, 32, 33, 34, 35, 36, 37, 38, 39, 40, 41, 42, 43, 44, 45, 46, 47, 48, 49, 50, 51, 52, 53, 54, 55, 56, 57, 58, 59] (fun s => [(10, .int .i64 s.1)]) (fun s => [(b, blk (tabL u1 u2 u3 s.2.1 s.2.2) 202)]) (fun s => s.1 ≤ 256 ∧ Filled p1 s.2.1 s.1 ∧ Filled b1 s.2.2 s.1) (fun s => 256 - s.1) (0, P, B) ?_ ?_ ?_ ?_
 ·exact ⟨Nat.zero_le _, .start _ hP0, .start _ hB0⟩
 ·exact .cons rfl .nil
 ·exact fun _ h => h
 ·rintro ⟨i, P, B⟩ y1 ⟨hi, hF, hG⟩
  dsimp only at hi hF hG ⊢
  refine c_seq ?_
  refine c_region ?_
  refine Rl ?_
  refine l_nil ?_
  refine c_seq ?_
  refine KC (fun h1 h1n => ?_) (fun h1 h1n => ?_)
  ·refine c_skip ?_
   refine c_seq ?_
   refine c_block ?_
   refine c_seq ?_
   refine c_region ?_
   refine L_2 ?_
   refine l_nil ?_
   refine c_seq ?_
   have hi' : i < 256 := by (try simp only [decide_eq_true_eq, decide_eq_false_iff_not, beq_iff_eq, beq_eq_false_iff_ne, bne_iff_ne, bne_eq_false_iff_eq, ne_eq] at *); omega
   have hP := hF.len
   have hB := hG.len
   refine c_region ?_
   refine L_2 ?_
   refine RS ?_
   refine L_2 ?_
   refine RY (idx_array (s := 5) i rfl rfl rfl rfl y_a) rfl ?_
   refine RZ (x_store (vs := cO ⟨4, 0, 0, 1, 0⟩) 0 rfl rfl rfl rfl rfl rfl y_bK) rfl ?_
   simp only [List.set_cons_zero, List.set_cons_succ]
   rw [show 0 + 3 + i * 5 = 3 + i * 5 by omega, tabL_setP hP hi']
   refine l_nil ?_
   refine c_seq ?_
   have hP : (P.set i ⟨4, 0, 0, 1, 0⟩).length = 256 := by rw [List.length_set]; exact hF.len
   refine c_region ?_
   refine Rl ?_
   refine RW (v := (.int .i64 ((i / 8 : Nat) : Int))) (shr_pos rfl rfl y_c) rfl (congrArg _ (shr_nat (k := 3) y_c)) ?_
   refine RW (v := (.int .i64 ((i / 8 % 8 : Nat) : Int))) rfl rfl (congrArg _ (and7 o_m)) ?_
   refine Rl ?_
   refine RW (v := (.int .i64 ((i % 8 : Nat) : Int))) rfl rfl (congrArg _ (and7 o_m)) ?_
   refine L_2 ?_
   refine l_nil ?_
   refine c_seq ?_
   refine DR [] (pln [0, 2, 6, 8, 14, 16, 20, 22, 5, 10, 13, 18, 24, 27]) ?_
   iterate 3 refine RD ?_
   refine DW (v := (.int .i64 ((i / 64 : Nat) : Int))) rfl (shr_pos rfl rfl y_c) rfl (congrArg _ (shr_nat (k := 6) y_c)) ?_
   refine D_4 ?_
   refine DX rfl (x_slc (z := [.int .i64 0]) (l := [.int .i64 17, .int .i64 44, .int .i64 45, .int .i64 46]) (ps := [(0, .int .i64 17), (1, .int .i64 44), (2, .int .i64 45), (3, .int .i64 46)]) rfl rfl rfl rfl y_g y_g) rfl n_h ?_
   rintro _ _ ⟨b26, rfl, rfl⟩
   refine DY rfl (idx_slice (s := 1) (i / 64) rfl rfl rfl rfl o_m) rfl ?_
   refine DZ rfl (x_load rfl rfl (at_own (.head _) (kind4' (i / 64) o_m))) rfl n_h ?_
   refine DY rfl (light_struct rfl rfl rfl rfl) rfl ?_
   refine DY rfl (idx_array (s := 5) i rfl rfl rfl rfl y_a) rfl ?_
   refine DZ rfl (x_store (vs := cO (b1 i)) 1 rfl rfl rfl rfl rfl rfl y_bK) rfl n_h ?_
   simp only [List.set_cons_zero, List.set_cons_succ]
   rw [show 0 + 1283 + i * 5 = 1283 + i * 5 by omega, tabL_setB hP hB hi']
   refine d_nil ?_
   refine c_seq ?_
   refine c_region ?_
   refine Rl ?_
   refine RW (v := (.int .i64 ((i / 64 : Nat) : Int))) (shr_pos rfl rfl y_c) rfl (congrArg _ (shr_nat (k := 6) y_c)) ?_
   refine l_nil ?_
   refine c_block ?_
   refine c_seq ?_
   refine c_region ?_
   refine L_2 ?_
   refine l_nil ?_
   refine KC (fun h2 h2n => ?_) (fun h2 h2n => ?_)
   ·have hB : (B.set i (b1 i)).length = 256 := by rw [List.length_set]; exact hG.len
    refine c_region ?_
    iterate 4 refine Rl ?_
    refine RS ?_
    refine L_2 ?_
    refine RY (idx_array (s := 5) i rfl rfl rfl rfl y_a) rfl ?_
    refine RZ (x_store (vs := cO ⟨7, ((i / 8 % 8 : Nat) : Int), ((i % 8 : Nat) : Int), 1, 0⟩) 1 rfl rfl rfl rfl rfl rfl y_bK) rfl ?_
    simp only [List.set_cons_zero, List.set_cons_succ]
    rw [show 0 + 3 + i * 5 = 3 + i * 5 by omega, tabL_setP hP hi', List.set_set]
    refine l_nil ?_
    refine c_region ?_
    refine RW (v := (.int .i64 ((i + 1 : Nat) : Int))) rfl rfl (congrArg _ (succ_law o_m)) ?_
    refine Rl ?_
    refine l_nil ?_
    rw [← p1_move (i := i) y_a]
    exact ⟨(i + 1, _, _), ⟨y_dM, hF.step hi', hG.step hi'⟩, y_dM, .cons rfl .nil, a_g, fun _ h => h.sub (List.sublist_cons_self _ _)⟩
   ·refine c_seq ?_
    refine c_region ?_
    refine L_2 ?_
    refine l_nil ?_
    refine KC (fun h3 h3n => ?_) (fun h3 h3n => ?_)
    ·have hB : (B.set i (b1 i)).length = 256 := by rw [List.length_set]; exact hG.len
     refine c_region ?_
     iterate 4 refine Rl ?_
     refine RS ?_
     refine L_2 ?_
     refine RY (idx_array (s := 5) i rfl rfl rfl rfl y_a) rfl ?_
     refine RZ (x_store (vs := cO ⟨10, ((i / 8 % 8 : Nat) : Int), ((i % 8 : Nat) : Int), 1, 0⟩) 1 rfl rfl rfl rfl rfl rfl y_bK) rfl ?_
     simp only [List.set_cons_zero, List.set_cons_succ]
     rw [show 0 + 3 + i * 5 = 3 + i * 5 by omega, tabL_setP hP hi', List.set_set]
     refine l_nil ?_
     refine c_region ?_
     refine RW (v := (.int .i64 ((i + 1 : Nat) : Int))) rfl rfl (congrArg _ (succ_law o_m)) ?_
     refine Rl ?_
     refine l_nil ?_
     rw [← p1_sum (i := i) y_a]
     exact ⟨(i + 1, _, _), ⟨y_dM, hF.step hi', hG.step hi'⟩, y_dM, .cons rfl .nil, a_g, fun _ h => h.sub (List.sublist_cons_self _ _)⟩
    ·refine c_skip ?_
     refine c_region ?_
     refine RW (v := (.int .i64 ((i + 1 : Nat) : Int))) rfl rfl (congrArg _ (succ_law o_m)) ?_
     refine Rl ?_
     refine l_nil ?_
     rw [← p1_bad (i := i) y_a y_a]
     exact ⟨(i + 1, _, _), ⟨y_dM, hF.step hi', hG.step hi'⟩, y_dM, .cons rfl .nil, a_g, fun _ h => h.sub (List.sublist_cons_self _ _)⟩
  ·refine c_exit rfl ?_
   refine c_seq ?_
   obtain rfl : 256 = i := by (try simp only [decide_eq_true_eq, decide_eq_false_iff_not, beq_iff_eq, beq_eq_false_iff_ne, bne_iff_ne, bne_eq_false_iff_eq, ne_eq] at *); omega
   obtain rfl := hF.all
   obtain rfl := hG.all
   have hP := hF.len
   have hB := hG.len
   refine c_region ?_
   refine Rl ?_
   refine RS ?_
   refine L_2 ?_
   refine RY (idx_array (s := 5) 118 rfl rfl rfl rfl y_c) rfl ?_
   refine RZ (x_store (vs := cO ⟨3, 0, 0, 1, 0⟩) 0 rfl rfl rfl rfl rfl rfl y_bK) rfl ?_
   simp only [List.set_cons_zero]
   rw [show 0 + 3 + 118 * 5 = 3 + 118 * 5 from rfl, tabL_setP hP y_c]
   refine l_nil ?_
   refine c_seq ?_
   refine c_seq ?_
   refine c_region ?_
   refine RX (x_call call_229 rfl (fun w hw => plans_fn w)) rfl ?_
   rintro _ _ ⟨_, ⟨b65, L, GL, rfl, rfl, hLl, hok⟩, rfl⟩
   refine l_heap (H' := (b, blk (tabL u1 u2 u3 startP tabB) 202) :: ((b65, blk (flat cPl L) 326) :: GL)) (fun _ h => St.fl [((b65, blk (flat cPl L) 326) :: GL), [_]] [1, 0] rfl h) ?_
   refine RY l_n rfl ?_
   refine Rl ?_
   refine l_nil ?_
   refine c_block ?_
   refine c_loop (σ := Nat) [6, 7, 8, 67, 68, 69, 70, 71, 72, 73, 74, 75, 76, 77, 78, 79, 80, 81, 82, 83, 84, 85, 86, 87, 88, 89, 90, 91, 92, 93, 94, 95, 96, 97, 98, 99, 100, 101, 102, 103] (fun k => [(67, .int .i64 k)]) (fun k => (b, blk (tabL u1 u2 u3 ((PL.take k).foldl putQ startP) tabB) 202) :: ((b65, blk (flat cPl L) 326) :: GL)) (fun k => k ≤ 41) (fun k => 41 - k) 0 ?_ ?_ ?_ ?_
   ·exact Nat.zero_le _
   ·exact .cons rfl .nil
   ·exact fun _ h => h
   ·intro k y14 hk
    refine c_seq ?_
    refine c_region ?_
    refine Rl ?_
    refine l_nil ?_
    refine c_seq ?_
    refine KC (fun h4 h4n => ?_) (fun h4 h4n => ?_)
    ·refine c_skip ?_
     refine c_seq ?_
     refine c_block ?_
     refine c_seq ?_
     obtain ⟨q, hq⟩ : ∃ q, PL[k]? = some q := ⟨_, get_some (by rw [PL_len]; (try simp only [decide_eq_true_eq, decide_eq_false_iff_not, beq_iff_eq, beq_eq_false_iff_ne, bne_iff_ne, bne_eq_false_iff_eq, ne_eq] at *); omega)⟩
     obtain ⟨⟨pa, pb, pm, pk, ps, px⟩, hp, e1, e2, e3, e4, e5, e6⟩ := hok.get hq
     dsimp only at e1 e2 e3 e4 e5 e6
     subst e1 e2 e3 e4 e5
     obtain ⟨hq1, hq2, hq3, hq4⟩ := okQ_spec (okQ_at hq)
     have hP2 : ((PL.take k).foldl putQ startP).length = 256 := by rw [foldQ_len, startP_len]
     have e7 : (q.x = none ∧ px = .slice none 0 0) ∨ ∃ xs bx, q.x = some xs ∧ px = .slice (some ⟨bx, 0, none⟩) xs.length xs.length ∧ VV.RowsIn GL bx 0 (xs.map (.int .i64)) := by
      cases hx : q.x with
      | none => rw [hx] at e6; exact .inl ⟨rfl, e6⟩
      | some xs => rw [hx] at e6; obtain ⟨bx, h1, h2⟩ := e6; exact .inr ⟨xs, bx, rfl, h1, h2⟩
     rcases e7 with ⟨hx, rfl⟩ | ⟨xs, bx, hx, rfl, hrx⟩
     ·refine c_region ?_
      refine RY (idx_slice (s := 6) k rfl rfl rfl rfl y_a) rfl ?_
      refine RZ (x_loadA rfl rfl rfl (fun w hw => (row_own (.tail _ (.head _)) w hw).nth' cPl_len hp)) rfl ?_
      refine RX (x_alloc rfl) rfl ?_
      rintro _ _ ⟨b6, rfl, rfl⟩
      refine RZ s_t rfl ?_
      refine l_nil ?_
      refine c_seq ?_
      refine c_region ?_
      refine L_3 ?_
      refine l_nil ?_
      refine c_block ?_
      refine c_loop (σ := Nat) [7, 8, 73, 74, 75, 76, 77, 78, 79, 80, 81, 82, 83, 84, 85, 86, 87, 88, 89, 90, 91, 92, 93, 94, 95, 96, 97, 98, 99, 100, 101, 102] (fun i => [(73, .int .i64 i)]) (fun i => (b, blk (tabL u1 u2 u3 (putN q ((PL.take k).foldl putQ startP) i) tabB) 202) :: (b6, blk (cPl ⟨q.at_, q.by_, q.many, q.kind, q.size, .slice none 0 0⟩) 326) :: ((b65, blk (flat cPl L) 326) :: GL)) (fun i => i ≤ q.many) (fun i => q.many - i) 0 ?_ ?_ ?_ ?_
      ·exact Nat.zero_le _
      ·exact .cons rfl .nil
      ·exact fun _ h => by simp only [putN_zero]; exact St.fl [[_], [_], ((b65, blk (flat cPl L) 326) :: GL)] [1, 0, 2] rfl h
      ·intro i y17 hi
       refine c_seq ?_
       refine c_region ?_
       refine Rl ?_
       refine l_nil ?_
       refine c_seq ?_
       refine KC (fun h5 h5n => ?_) (fun h5 h5n => ?_)
       ·refine c_skip ?_
        refine c_seq ?_
        refine c_block ?_
        refine c_seq ?_
        refine c_region ?_
        refine L_2 ?_
        refine l_nil ?_
        refine c_seq ?_
        refine c_region ?_
        refine L_4 ?_
        refine RS ?_
        refine RX (x_alloc rfl) rfl ?_
        rintro _ _ ⟨b8, rfl, rfl⟩
        refine RZ s_t rfl ?_
        refine l_nil ?_
        refine c_seq ?_
        refine c_seq ?_
        refine c_region ?_
        refine L_2 ?_
        refine l_sure false rfl rfl rfl rfl ?_
        refine l_nil ?_
        refine c_false rfl ?_
        refine c_skip ?_
        have hP : (putN q ((PL.take k).foldl putQ startP) i).length = 256 := by rw [putN_len]; exact hP2
        refine DR [3, 4, 5, 6, 8, 9, 10] (pln [0, 2, 4, 6, 8, 10, 12, 14, 16, 18, 20, 22, 25]) ?_
        refine D_6 ?_
        refine DW (v := (.int .i64 ((q.by_ * i : Nat) : Int))) rfl rfl rfl (congrArg _ y_eE) ?_
        refine DW (v := (.int .i64 ((q.at_ + q.by_ * i : Nat) : Int))) rfl rfl rfl (congrArg _ y_eG) ?_
        refine d_loadA rfl rfl rfl rfl y_cj rfl rfl ?_
        refine D_2 ?_
        refine DY rfl (idx_array (s := 5) (q.at_ + q.by_ * i) rfl rfl rfl rfl (hq1 i y_a)) rfl ?_
        refine DZ rfl (x_store (vs := cO (qOp q i)) 1 rfl rfl (by rw [qOp_none hx]; rfl) rfl rfl rfl y_eD) rfl n_h ?_
        simp only [List.set_cons_zero, List.set_cons_succ]
        rw [show 0 + 3 + (q.at_ + q.by_ * i) * 5 = 3 + (q.at_ + q.by_ * i) * 5 by omega, tabL_setP hP (hq1 i y_a), ← putN_succ]
        refine d_nil ?_
        refine c_region ?_
        refine RW (v := (.int .i64 ((i + 1 : Nat) : Int))) rfl rfl (congrArg _ (succ_law o_m)) ?_
        refine Rl ?_
        refine l_nil ?_
        exact ⟨i + 1, y_dM, y_dM, .cons rfl .nil, a_g, fun _ h => h.sub (List.sublist_cons_self _ _)⟩
       ·refine c_exit rfl ?_
        refine c_region ?_
        refine RW (v := (.int .i64 ((k + 1 : Nat) : Int))) rfl rfl (congrArg _ (succ_law o_m)) ?_
        refine Rl ?_
        refine l_nil ?_
        obtain rfl : q.many = i := by (try simp only [decide_eq_true_eq, decide_eq_false_iff_not, beq_iff_eq, beq_eq_false_iff_ne, bne_iff_ne, bne_eq_false_iff_eq, ne_eq] at *); omega
        exact ⟨k + 1, y_dM, y_dM, .cons rfl .nil, a_g, fun _ h => y_cM⟩
     ·refine c_region ?_
      refine RY (idx_slice (s := 6) k rfl rfl rfl rfl y_a) rfl ?_
      refine RZ (x_loadA rfl rfl rfl (fun w hw => (row_own (.tail _ (.head _)) w hw).nth' cPl_len hp)) rfl ?_
      refine RX (x_alloc rfl) rfl ?_
      rintro _ _ ⟨b6, rfl, rfl⟩
      refine RZ s_t rfl ?_
      refine l_nil ?_
      refine c_seq ?_
      refine c_region ?_
      refine L_3 ?_
      refine l_nil ?_
      refine c_block ?_
      refine c_loop (σ := Nat) [7, 8, 73, 74, 75, 76, 77, 78, 79, 80, 81, 82, 83, 84, 85, 86, 87, 88, 89, 90, 91, 92, 93, 94, 95, 96, 97, 98, 99, 100, 101, 102] (fun i => [(73, .int .i64 i)]) (fun i => (b, blk (tabL u1 u2 u3 (putN q ((PL.take k).foldl putQ startP) i) tabB) 202) :: (b6, blk (cPl ⟨q.at_, q.by_, q.many, q.kind, q.size, .slice (some ⟨bx, 0, none⟩) xs.length xs.length⟩) 326) :: ((b65, blk (flat cPl L) 326) :: GL)) (fun i => i ≤ q.many) (fun i => q.many - i) 0 ?_ ?_ ?_ ?_
      ·exact Nat.zero_le _
      ·exact .cons rfl .nil
      ·exact fun _ h => by simp only [putN_zero]; exact St.fl [[_], [_], ((b65, blk (flat cPl L) 326) :: GL)] [1, 0, 2] rfl h
      ·intro i y17 hi
       refine c_seq ?_
       refine c_region ?_
       refine Rl ?_
       refine l_nil ?_
       refine c_seq ?_
       refine KC (fun h6 h6n => ?_) (fun h6 h6n => ?_)
       ·refine c_skip ?_
        refine c_seq ?_
        refine c_block ?_
        refine c_seq ?_
        refine c_region ?_
        refine L_2 ?_
        refine l_nil ?_
        refine c_seq ?_
        refine c_region ?_
        refine L_4 ?_
        refine RS ?_
        refine RX (x_alloc rfl) rfl ?_
        rintro _ _ ⟨b8, rfl, rfl⟩
        refine RZ s_t rfl ?_
        refine l_nil ?_
        refine c_seq ?_
        refine c_seq ?_
        refine c_region ?_
        refine L_2 ?_
        refine l_sure true rfl rfl rfl rfl ?_
        refine l_nil ?_
        refine c_true rfl ?_
        refine c_region ?_
        refine L_3 ?_
        refine RY (idx_slice (s := 1) i rfl rfl rfl rfl y_bS) rfl ?_
        refine RZ (x_load rfl rfl (fun w hw => by rw [Nat.mul_one]; exact (hrx.row (fun x hx => by repeat (first | exact hx | refine .tail _ ?_ | refine List.mem_append_right _ ?_)) w hw) i _ (map_get y_bS))) rfl ?_
        refine RLa ?_
        refine RZ s_t rfl ?_
        refine l_nil ?_
        have hP : (putN q ((PL.take k).foldl putQ startP) i).length = 256 := by rw [putN_len]; exact hP2
        refine DR [3, 4, 5, 6, 8, 9, 10] (pln [0, 2, 4, 6, 8, 10, 12, 14, 16, 18, 20, 22, 25]) ?_
        refine D_6 ?_
        refine DW (v := (.int .i64 ((q.by_ * i : Nat) : Int))) rfl rfl rfl (congrArg _ y_eE) ?_
        refine DW (v := (.int .i64 ((q.at_ + q.by_ * i : Nat) : Int))) rfl rfl rfl (congrArg _ y_eG) ?_
        refine d_loadA rfl rfl rfl rfl y_cj rfl rfl ?_
        refine D_2 ?_
        refine DY rfl (idx_array (s := 5) (q.at_ + q.by_ * i) rfl rfl rfl rfl (hq1 i y_a)) rfl ?_
        refine DZ rfl (x_store (vs := cO (qOp q i)) 1 rfl rfl (by rw [qOp_some hx]; rfl) rfl rfl rfl y_eD) rfl n_h ?_
        simp only [List.set_cons_zero, List.set_cons_succ]
        rw [show 0 + 3 + (q.at_ + q.by_ * i) * 5 = 3 + (q.at_ + q.by_ * i) * 5 by omega, tabL_setP hP (hq1 i y_a), ← putN_succ]
        refine d_nil ?_
        refine c_region ?_
        refine RW (v := (.int .i64 ((i + 1 : Nat) : Int))) rfl rfl (congrArg _ (succ_law o_m)) ?_
        refine Rl ?_
        refine l_nil ?_
        exact ⟨i + 1, y_dM, y_dM, .cons rfl .nil, a_g, fun _ h => h.sub (List.sublist_cons_self _ _)⟩
       ·refine c_exit rfl ?_
        refine c_region ?_
        refine RW (v := (.int .i64 ((k + 1 : Nat) : Int))) rfl rfl (congrArg _ (succ_law o_m)) ?_
        refine Rl ?_
        refine l_nil ?_
        obtain rfl : q.many = i := by (try simp only [decide_eq_true_eq, decide_eq_false_iff_not, beq_iff_eq, beq_eq_false_iff_ne, bne_iff_ne, bne_eq_false_iff_eq, ne_eq] at *); omega
        exact ⟨k + 1, y_dM, y_dM, .cons rfl .nil, a_g, fun _ h => y_cM⟩
    ·refine c_exit rfl ?_
     refine c_seq ?_
     obtain rfl : 41 = k := by (try simp only [decide_eq_true_eq, decide_eq_false_iff_not, beq_iff_eq, beq_eq_false_iff_ne, bne_iff_ne, bne_eq_false_iff_eq, ne_eq] at *); omega
     rw [show PL.take 41 = PL from rfl]
     have hQl : (PL.foldl putQ startP).length = 256 := by rw [foldQ_len, startP_len]
     obtain ⟨PQ, hPQ⟩ : ∃ X, PL.foldl putQ startP = X := ⟨_, rfl⟩
     rw [hPQ]
     rw [hPQ] at hQl
     refine c_region ?_
     refine Rl ?_
     refine l_nil ?_
     refine c_block ?_
     refine c_loop (σ := Nat) [9, 104, 105, 106, 107, 108, 109, 110, 111, 112, 113, 114, 115, 116, 117, 118] (fun y => [(104, .int .i64 y)]) (fun y => (b, blk (tabL u1 u2 u3 (rstP PQ y) tabB) 202) :: ((b65, blk (flat cPl L) 326) :: GL)) (fun y => y ≤ 8) (fun y => 8 - y) 0 ?_ ?_ ?_ ?_
     ·exact Nat.zero_le _
     ·exact .cons rfl .nil
     ·exact fun _ h => by simp only [rstP_zero]; exact h
     ·intro y y26 hy
      refine c_seq ?_
      refine c_region ?_
      refine Rl ?_
      refine l_nil ?_
      refine c_seq ?_
      refine KC (fun h7 h7n => ?_) (fun h7 h7n => ?_)
      ·refine c_skip ?_
       refine c_seq ?_
       refine c_block ?_
       refine c_seq ?_
       refine c_region ?_
       refine L_2 ?_
       refine l_nil ?_
       have hy8 : y < 8 := by (try simp only [decide_eq_true_eq, decide_eq_false_iff_not, beq_iff_eq, beq_eq_false_iff_ne, bne_iff_ne, bne_eq_false_iff_eq, ne_eq] at *); omega
       have hP : (rstP PQ y).length = 256 := by rw [rstP_len]; exact hQl
       have hB : tabB.length = 256 := by simp [tabB]
       refine c_region ?_
       refine L_2 ?_
       refine RW (v := (.int .i64 ((8 * y : Nat) : Int))) rfl rfl (congrArg _ y_dm) ?_
       refine RW (v := (.int .i64 ((199 + 8 * y : Nat) : Int))) rfl rfl (congrArg _ y_dm) ?_
       refine Rl ?_
       refine RW (v := (.int .i64 ((8 * y : Nat) : Int))) rfl rfl (congrArg _ y_dm) ?_
       refine RW (v := (.int .u16 ((8 * y : Nat) : Int))) rfl rfl (congrArg _ (wrap_u16_id o_m o_m)) ?_
       refine RS ?_
       refine L_2 ?_
       refine RY (idx_array (s := 5) (199 + 8 * y) rfl rfl rfl rfl y_a) rfl ?_
       refine RZ (x_store (vs := cO ⟨28, 0, 0, 1, ((8 * y : Nat) : Int)⟩) 0 rfl rfl rfl rfl rfl rfl y_bK) rfl ?_
       simp only [List.set_cons_zero]
       rw [show 0 + 3 + (199 + 8 * y) * 5 = 3 + (199 + 8 * y) * 5 by omega, tabL_setP hP o_m, ← rstP_succ]
       refine l_nil ?_
       refine c_region ?_
       refine RW (v := (.int .i64 ((y + 1 : Nat) : Int))) rfl rfl (congrArg _ (succ_law o_m)) ?_
       refine Rl ?_
       refine l_nil ?_
       exact ⟨y + 1, y_dM, y_dM, .cons rfl .nil, a_g, fun _ h => h⟩
      ·refine c_exit rfl ?_
       obtain rfl : 8 = y := by (try simp only [decide_eq_true_eq, decide_eq_false_iff_not, beq_iff_eq, beq_eq_false_iff_ne, bne_iff_ne, bne_eq_false_iff_eq, ne_eq] at *); omega
       rw [← hPQ, tab_eq]
       exact EN (.cons_cons _ (List.nil_sublist _)) ⟨rfl, rfl⟩
end Go.Proofs.YtldehodcfajpjaaGreat
