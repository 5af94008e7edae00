/- The sprites' numbers: plain definitions and laws, no program. -/
import Derived.Test.YtjceoaomkbabmaaMcA
namespace Go.Proofs.Ytjceoaomkbabmaa
open Go Go.VV

def rBit (x n : Int) : Int := x / 2 ^ n.toNat % 2
def hgt (c : Int) : Int := if rBit c 2 = 1 then 16 else 8
/-- A byte of memory; 0, if it isn't there. -/
def vAt (l : List Int) (n : Int) : Int := if 0 ≤ n ∧ n < l.length ∧ n < 8192 then l.getD n.toNat 0 else 0
/-- A tile's colour at a place. -/
def tDot (l : List Int) (tile x y : Int) : Int :=
  if tile < 0 ∨ 384 ≤ tile then 0 else rBit (vAt l (16 * tile + 2 * (y % 8))) (7 - x % 8) + 2 * rBit (vAt l (16 * tile + 2 * (y % 8) + 1)) (7 - x % 8)
def shd (p c : Int) : Int := p / 2 ^ (c % 4 * 2).toNat % 4

theorem bit0_law {x : Int} (hx : 0 ≤ x ∧ x < 256) : IntKind.i64.wrap x = x / 2 ^ 0 := by
  rw [wrap_i64 (by omega) (by omega)]; simp
theorem half_law {x : Int} (hx : 0 ≤ x ∧ x < 256) (k : Nat) : IntKind.i64.wrap ((x / 2 ^ k).tdiv 2) = x / 2 ^ (k + 1) := by
  have h1 : 0 ≤ x / 2 ^ k := Int.ediv_nonneg hx.1 (by exact Int.le_of_lt (Int.pow_pos (by omega)))
  have h2 : x / 2 ^ k ≤ x := Int.ediv_le_self _ hx.1
  rw [Int.tdiv_eq_ediv_of_nonneg h1, Int.pow_succ, ← Int.ediv_ediv_of_nonneg (by exact Int.le_of_lt (Int.pow_pos (by omega)))]
  rw [wrap_i64] <;> omega

theorem bit_law {x n : Int} (hx : 0 ≤ x ∧ x < 256) {k : Nat} (hk : (k : Int) = n) : (x / 2 ^ k).tmod 2 = rBit x n := by
  have h1 : 0 ≤ x / 2 ^ k := Int.ediv_nonneg hx.1 (by exact Int.le_of_lt (Int.pow_pos (by omega)))
  rw [Int.tmod_eq_emod_of_nonneg h1, rBit]
  have : n.toNat = k := by omega
  rw [this]

theorem mod_law {n b : Int} (hb : 0 < b ∧ b ≤ 65536) : (IntKind.i64.wrap (n.tmod b + b)).tmod b = n % b := by
  have h1 : n.tmod b < b := Int.tmod_lt_of_pos n hb.1
  have h2 : -b < n.tmod b := by
    have := Int.lt_tmod_of_pos n hb.1
    omega
  rw [wrap_i64 (by omega) (by omega), Int.tmod_eq_emod_of_nonneg (by omega)]
  rw [Int.add_emod_right]
  by_cases h : 0 ≤ n
  · rw [Int.tmod_eq_emod_of_nonneg h, Int.emod_emod_of_dvd _ (Int.dvd_refl b)]
  · rw [Int.tmod_def]
    exact Int.sub_mul_emod_self_left n b (n.tdiv b)

theorem rBit_01 (x n : Int) : rBit x n = 0 ∨ rBit x n = 1 := by unfold rBit; omega
theorem vAt_byte {l : List Int} (h : Byts l) (n : Int) : 0 ≤ vAt l n ∧ vAt l n < 256 := by
  unfold vAt; split
  · exact h.get _
  · omega

/-- A mask of the lower three bits. -/
theorem band7 (y : Int) : band .i64 y 7 = y % 8 := by
  have h : (BitVec.ofInt 64 y &&& BitVec.ofInt 64 7).toNat = (y % 18446744073709551616).toNat % 8 := by
    rw [BitVec.toNat_and]
    have h7 : (BitVec.ofInt 64 7).toNat = 2 ^ 3 - 1 := by decide
    rw [h7, Nat.and_two_pow_sub_one_eq_mod, BitVec.toNat_ofInt]
    rfl
  show IntKind.i64.wrap ((BitVec.ofInt 64 y &&& BitVec.ofInt 64 7).toNat : Int) = _
  rw [h, wrap_i64 (by omega) (by omega)]
  omega
theorem n_law (x : Int) : IntKind.i64.wrap (7 - band .i64 x 7) = 7 - x % 8 := by
  rw [band7, wrap_i64 (by omega) (by omega)]
theorem n_ok (x : Int) : 0 ≤ IntKind.i64.wrap (7 - band .i64 x 7) := by rw [n_law]; omega
theorem line_law {t : Int} (y : Int) (h : 0 ≤ t ∧ t < 384) : IntKind.i64.wrap (IntKind.i64.wrap (16 * t) + IntKind.i64.wrap (2 * band .i64 y 7)) = 16 * t + 2 * (y % 8) := by
  rw [band7, wrap_i64 (n := 16 * t) (by omega) (by omega), wrap_i64 (n := 2 * (y % 8)) (by omega) (by omega), wrap_i64 (by omega) (by omega)]
theorem line_ok {t : Int} (y : Int) (h : 0 ≤ t ∧ t < 384) : 0 ≤ IntKind.i64.wrap (IntKind.i64.wrap (16 * t) + IntKind.i64.wrap (2 * band .i64 y 7)) := by rw [line_law y h]; omega
theorem line1_law {t : Int} (y : Int) (h : 0 ≤ t ∧ t < 384) : IntKind.i64.wrap (IntKind.i64.wrap (IntKind.i64.wrap (16 * t) + IntKind.i64.wrap (2 * band .i64 y 7)) + 1) = 16 * t + 2 * (y % 8) + 1 := by
  rw [line_law y h, wrap_i64 (by omega) (by omega)]
theorem line1_ok {t : Int} (y : Int) (h : 0 ≤ t ∧ t < 384) : 0 ≤ IntKind.i64.wrap (IntKind.i64.wrap (IntKind.i64.wrap (16 * t) + IntKind.i64.wrap (2 * band .i64 y 7)) + 1) := by rw [line1_law y h]; omega

/-- A bit that is shifted down. -/
theorem down_law {b n : Int} (h1 : 0 ≤ b ∧ b < 256) (h2 : 0 ≤ n ∧ n < 8) : band .u8 (shr .u8 b n) 1 = rBit b n := by
  have key : ∀ m : Fin 8, ∀ c : Fin 256, band .u8 (shr .u8 (c.val : Int) (m.val : Int)) 1 = rBit (c.val : Int) (m.val : Int) := by decide +kernel
  have := key ⟨n.toNat, by omega⟩ ⟨b.toNat, by omega⟩
  simp only at this
  rwa [Int.toNat_of_nonneg h1.1, Int.toNat_of_nonneg h2.1] at this
theorem join_law {x y : Int} (hx : x = 0 ∨ x = 1) (hy : y = 0 ∨ y = 1) : bor .u8 x (shl .u8 y 1) = x + 2 * y := by
  rcases hx with rfl | rfl <;> rcases hy with rfl | rfl <;> decide
theorem pdot_law {l : List Int} (hl : Byts l) {t : Int} (x y : Int) (h : 0 ≤ t ∧ t < 384) :
    bor .u8 (band .u8 (shr .u8 (vAt l (IntKind.i64.wrap (IntKind.i64.wrap (16 * t) + IntKind.i64.wrap (2 * band .i64 y 7)))) (IntKind.i64.wrap (7 - band .i64 x 7))) 1)
      (shl .u8 (band .u8 (shr .u8 (vAt l (IntKind.i64.wrap (IntKind.i64.wrap (IntKind.i64.wrap (16 * t) + IntKind.i64.wrap (2 * band .i64 y 7)) + 1))) (IntKind.i64.wrap (7 - band .i64 x 7))) 1) 1) = tDot l t x y := by
  rw [n_law, line1_law y h, line_law y h, down_law (vAt_byte hl _) (by omega), down_law (vAt_byte hl _) (by omega), join_law (rBit_01 _ _) (rBit_01 _ _)]
  rw [tDot, if_neg (by omega)]
theorem rdot_law {l : List Int} {t : Int} (x y : Int) (h : 0 ≤ t ∧ t < 384) :
    IntKind.u8.wrap (IntKind.i64.wrap (rBit (vAt l (IntKind.i64.wrap (IntKind.i64.wrap (16 * t) + IntKind.i64.wrap (2 * (y % 8))))) (IntKind.i64.wrap (7 - x % 8)) +
      IntKind.i64.wrap (2 * rBit (vAt l (IntKind.i64.wrap (IntKind.i64.wrap (IntKind.i64.wrap (16 * t) + IntKind.i64.wrap (2 * (y % 8))) + 1))) (IntKind.i64.wrap (7 - x % 8))))) = tDot l t x y := by
  rw [wrap_i64 (n := 16 * t) (by omega) (by omega), wrap_i64 (n := 2 * (y % 8)) (by omega) (by omega), wrap_i64 (n := 7 - x % 8) (by omega) (by omega), wrap_i64 (n := 16 * t + 2 * (y % 8)) (by omega) (by omega),
    wrap_i64 (n := 16 * t + 2 * (y % 8) + 1) (by omega) (by omega)]
  rw [tDot, if_neg (by omega)]
  rcases rBit_01 (vAt l (16 * t + 2 * (y % 8))) (7 - x % 8) with h1 | h1 <;> rcases rBit_01 (vAt l (16 * t + 2 * (y % 8) + 1)) (7 - x % 8) with h2 | h2 <;> rw [h1, h2] <;> decide
theorem at_some {l : List Int} {n : Int} (h : 0 ≤ n ∧ n < l.length ∧ n < 8192) : l.getD n.toNat 0 = vAt l n := by rw [vAt, if_pos h]
theorem at_none {l : List Int} {n : Int} (h : ¬ (0 ≤ n ∧ n < l.length ∧ n < 8192)) : 0 = vAt l n := by rw [vAt, if_neg h]

theorem pshd_law {p c : Int} (hp : 0 ≤ p ∧ p < 256) (hc : 0 ≤ c ∧ c < 256) : band .u8 (shr .u8 p (IntKind.u8.wrap (band .u8 c 3 * 2))) 3 = shd p c := by
  have h1 : band .u8 c 3 = c % 4 := by
    refine byte_all (p := fun c => band .u8 c 3 = c % 4) ?_ hc.1 hc.2
    decide +kernel
  rw [h1, wrap_u8_id (by omega) (by omega)]
  have key : ∀ m : Fin 4, ∀ q : Fin 256, band .u8 (shr .u8 (q.val : Int) ((m.val : Int) * 2)) 3 = (q.val : Int) / 2 ^ (2 * m.val) % 4 := by decide +kernel
  have := key ⟨(c % 4).toNat, by omega⟩ ⟨p.toNat, by omega⟩
  simp only at this
  rw [Int.toNat_of_nonneg hp.1, Int.toNat_of_nonneg (by omega)] at this
  rw [this, shd]
  congr 3
  omega
theorem rshd_law {p c : Int} (hp : 0 ≤ p ∧ p < 256) (hc : 0 ≤ c ∧ c < 256) :
    IntKind.u8.wrap (IntKind.i64.wrap (rBit p (IntKind.i64.wrap ((IntKind.i64.wrap c).tmod 4 * 2)) + IntKind.i64.wrap (2 * rBit p (IntKind.i64.wrap (IntKind.i64.wrap ((IntKind.i64.wrap c).tmod 4 * 2) + 1))))) = shd p c := by
  rw [wrap_i64 (n := c) (by omega) (by omega), Int.tmod_eq_emod_of_nonneg hc.1, wrap_i64 (n := c % 4 * 2) (by omega) (by omega), wrap_i64 (n := c % 4 * 2 + 1) (by omega) (by omega)]
  have key : ∀ m : Fin 4, ∀ q : Fin 256, IntKind.u8.wrap (IntKind.i64.wrap (rBit (q.val : Int) ((m.val : Int) * 2) + IntKind.i64.wrap (2 * rBit (q.val : Int) ((m.val : Int) * 2 + 1)))) = (q.val : Int) / 2 ^ (2 * m.val) % 4 := by decide +kernel
  have := key ⟨(c % 4).toNat, by omega⟩ ⟨p.toNat, by omega⟩
  simp only at this
  rw [Int.toNat_of_nonneg hp.1, Int.toNat_of_nonneg (by omega)] at this
  rw [this, shd]
  congr 3
  omega
theorem rmod_ok (c : Int) (hc : 0 ≤ c ∧ c < 256) : 0 ≤ IntKind.i64.wrap ((IntKind.i64.wrap c).tmod 4 * 2) ∧ IntKind.i64.wrap ((IntKind.i64.wrap c).tmod 4 * 2) ≤ 65535 := by
  rw [wrap_i64 (n := c) (by omega) (by omega), Int.tmod_eq_emod_of_nonneg hc.1, wrap_i64 (n := c % 4 * 2) (by omega) (by omega)]
  omega
theorem dot_none {l : List Int} {t x y : Int} (h : t < 0 ∨ 384 ≤ t) : 0 = tDot l t x y := by rw [tDot, if_pos h]
theorem rn_law (x : Int) : IntKind.i64.wrap (7 - x % 8) = 7 - x % 8 := wrap_i64 (by omega) (by omega)
theorem rmod_ok2 (c : Int) (hc : 0 ≤ c ∧ c < 256) : 0 ≤ IntKind.i64.wrap (IntKind.i64.wrap ((IntKind.i64.wrap c).tmod 4 * 2) + 1) ∧ IntKind.i64.wrap (IntKind.i64.wrap ((IntKind.i64.wrap c).tmod 4 * 2) + 1) ≤ 65536 := by
  have := rmod_ok c hc
  rw [wrap_i64 (n := IntKind.i64.wrap ((IntKind.i64.wrap c).tmod 4 * 2) + 1) (by omega) (by omega)]
  omega
theorem phgt_law {c : Int} (hc : 0 ≤ c ∧ c < 256) {b : Bool} (h : (band .u8 c 4 != 0) = b) : (bif b then (16 : Int) else 8) = hgt c := by
  subst h
  refine byte_all (p := fun c => (bif (band .u8 c 4 != 0) then (16 : Int) else 8) = hgt c) ?_ hc.1 hc.2
  decide +kernel
theorem hgt_two (c : Int) : hgt c = 8 ∨ hgt c = 16 := by unfold hgt; split <;> simp

/-- A sprite's byte. -/
def oB (l : List Int) (n : Int) (k : Nat) : Int := l.getD (4 * n.toNat + k) 0
theorem oB_byte {l : List Int} (h : Byts l) (n : Int) (k : Nat) : 0 ≤ oB l n k ∧ oB l n k < 256 := h.get _

/-- A sprite's colour: of its top and left, tile, how. -/
def sDot (l : List Int) (c y x0 tile how x line : Int) : Int :=
  if line < y ∨ y + hgt c ≤ line ∨ x < x0 ∨ x0 + 8 ≤ x then 0 else
  let row := if rBit how 6 = 1 then hgt c - 1 - (line - y) else line - y
  let col := if rBit how 5 = 1 then 7 - (x - x0) else x - x0
  tDot l (if hgt c = 16 then tile / 2 * 2 + row / 8 else tile) col row

theorem tDot_row (l : List Int) (t x y : Int) : tDot l t x (y % 8) = tDot l t x y := by unfold tDot; simp

theorem bitOf6 {c : Int} (hc : 0 ≤ c ∧ c < 256) : (band .u8 c 64 != 0) = decide (rBit c 6 = 1) := by
  refine byte_all (p := fun c => (band .u8 c 64 != 0) = decide (rBit c 6 = 1)) ?_ hc.1 hc.2
  decide +kernel
theorem bitOf5 {c : Int} (hc : 0 ≤ c ∧ c < 256) : (band .u8 c 32 != 0) = decide (rBit c 5 = 1) := by
  refine byte_all (p := fun c => (band .u8 c 32 != 0) = decide (rBit c 5 = 1)) ?_ hc.1 hc.2
  decide +kernel
theorem tile_law {t r : Int} (ht : 0 ≤ t ∧ t < 256) (hr : 0 ≤ r ∧ r < 16) : bor .i64 (bandn .i64 t 1) (shr .i64 r 3) = t / 2 * 2 + r / 8 := by
  have key : ∀ r : Fin 16, ∀ t : Fin 256, bor .i64 (bandn .i64 (t.val : Int) 1) (shr .i64 (r.val : Int) 3) = (t.val : Int) / 2 * 2 + (r.val : Int) / 8 := by decide +kernel
  have := key ⟨r.toNat, by omega⟩ ⟨t.toNat, by omega⟩
  simp only at this
  rwa [Int.toNat_of_nonneg ht.1, Int.toNat_of_nonneg hr.1] at this

/-- The program's way, row by row of its text; 'bu', 'bt', 'bh': the tests. -/
theorem psdot_law {l : List Int} {c y x0 tile how x line : Int} (hy : -16 ≤ y ∧ y ≤ 240) (hx : -8 ≤ x0 ∧ x0 ≤ 248) (ht : 0 ≤ tile ∧ tile < 256) (hh : 0 ≤ how ∧ how < 256)
    (h1 : y ≤ line ∧ line < IntKind.i64.wrap (y + hgt c)) (h2 : x0 ≤ x ∧ x < IntKind.i64.wrap (x0 + 8)) {bu bt bh : Bool}
    (hu : (band .u8 how 64 != 0) = bu) (htn : (band .u8 how 32 != 0) = bt) (hth : decide (hgt c > 8) = bh) :
    tDot l (bif bh then bor .i64 (bandn .i64 tile 1) (shr .i64 (bif bu then IntKind.i64.wrap (IntKind.i64.wrap (hgt c - 1) - IntKind.i64.wrap (line - y)) else IntKind.i64.wrap (line - y)) 3) else tile)
      (bif bt then IntKind.i64.wrap (7 - IntKind.i64.wrap (x - x0)) else IntKind.i64.wrap (x - x0))
      (bif bu then IntKind.i64.wrap (IntKind.i64.wrap (hgt c - 1) - IntKind.i64.wrap (line - y)) else IntKind.i64.wrap (line - y)) = sDot l c y x0 tile how x line := by
  have hg := hgt_two c
  rw [wrap_i64 (n := y + hgt c) (by omega) (by omega)] at h1
  rw [wrap_i64 (n := x0 + 8) (by omega) (by omega)] at h2
  rw [wrap_i64 (n := line - y) (by omega) (by omega), wrap_i64 (n := hgt c - 1) (by omega) (by omega), wrap_i64 (n := hgt c - 1 - (line - y)) (by omega) (by omega), wrap_i64 (n := x - x0) (by omega) (by omega),
    wrap_i64 (n := 7 - (x - x0)) (by omega) (by omega)]
  rw [bitOf6 hh] at hu
  rw [bitOf5 hh] at htn
  rw [sDot, if_neg (by omega)]
  have hrow : (bif bu then hgt c - 1 - (line - y) else line - y) = (if rBit how 6 = 1 then hgt c - 1 - (line - y) else line - y) := by
    subst hu; by_cases h : rBit how 6 = 1 <;> simp [h]
  have hcol : (bif bt then 7 - (x - x0) else x - x0) = (if rBit how 5 = 1 then 7 - (x - x0) else x - x0) := by
    subst htn; by_cases h : rBit how 5 = 1 <;> simp [h]
  rw [hrow, hcol]
  have hr0 : 0 ≤ (if rBit how 6 = 1 then hgt c - 1 - (line - y) else line - y) ∧ (if rBit how 6 = 1 then hgt c - 1 - (line - y) else line - y) < 16 := by split <;> omega
  generalize (if rBit how 6 = 1 then hgt c - 1 - (line - y) else line - y) = row at *
  rw [tile_law ht hr0]
  subst hth
  rcases hg with hg | hg <;> simp [hg]
theorem psdot_none {l : List Int} {c y x0 tile how x line : Int} (hy : -16 ≤ y ∧ y ≤ 240) (hx : -8 ≤ x0 ∧ x0 ≤ 248) (h : ¬ ((y ≤ line ∧ line < IntKind.i64.wrap (y + hgt c)) ∧ (x0 ≤ x ∧ x < IntKind.i64.wrap (x0 + 8)))) :
    0 = sDot l c y x0 tile how x line := by
  have hg := hgt_two c
  rw [wrap_i64 (n := y + hgt c) (by omega) (by omega), wrap_i64 (n := x0 + 8) (by omega) (by omega)] at h
  rw [sDot, if_pos (by omega)]
/-- Sprite n's colour. -/
def spDot (l oam : List Int) (c n x line : Int) : Int :=
  if n < 0 ∨ 40 ≤ n then 0 else sDot l c (oB oam n 0 - 16) (oB oam n 1 - 8) (oB oam n 2) (oB oam n 3) x line

theorem spDot_in {l oam : List Int} {c n x line : Int} (h : ¬ (n < 0 ∨ 40 ≤ n)) : sDot l c (oB oam n 0 - 16) (oB oam n 1 - 8) (oB oam n 2) (oB oam n 3) x line = spDot l oam c n x line := by rw [spDot, if_neg h]
theorem spDot_out {l oam : List Int} {c n x line : Int} (h : n < 0 ∨ 40 ≤ n) : 0 = spDot l oam c n x line := by rw [spDot, if_pos h]
theorem spDot_far {l oam : List Int} (ho : Byts oam) {c n x line : Int} (h : n < 0 ∨ 39 < n ∨ x < -1000 ∨ 1000 < x ∨ line < -1000 ∨ 1000 < line) : spDot l oam c n x line = 0 := by
  unfold spDot
  split
  · rfl
  · have h0 := oB_byte ho n 0
    have h1 := oB_byte ho n 1
    have hg := hgt_two c
    rw [sDot, if_pos (by omega)]
theorem spDot_zero {l oam : List Int} {c n x line : Int} (h : line - oB oam n 0 + 16 < 0 ∨ hgt c ≤ line - oB oam n 0 + 16 ∨ x - oB oam n 1 + 8 < 0 ∨ 7 < x - oB oam n 1 + 8) : spDot l oam c n x line = 0 := by
  unfold spDot
  split
  · rfl
  · rw [sDot, if_pos (by omega)]

/-- The document's way. -/
theorem rsdot_law {l oam : List Int} (ho : Byts oam) {c n x line : Int} (hn : 0 ≤ n ∧ n < 40) (hx : -1000 ≤ x ∧ x ≤ 1000) (hli : -1000 ≤ line ∧ line ≤ 1000)
    (h1 : 0 ≤ IntKind.i64.wrap (IntKind.i64.wrap (line - oB oam n 0) + 16) ∧ IntKind.i64.wrap (IntKind.i64.wrap (line - oB oam n 0) + 16) < hgt c)
    (h2 : 0 ≤ IntKind.i64.wrap (IntKind.i64.wrap (x - oB oam n 1) + 8) ∧ IntKind.i64.wrap (IntKind.i64.wrap (x - oB oam n 1) + 8) ≤ 7) {bu bt bh b7 : Bool} {row tl : Int}
    (hu : (rBit (IntKind.u8.wrap (oB oam n 3)) 6 == 1) = bu) (ht : (rBit (IntKind.u8.wrap (oB oam n 3)) 5 == 1) = bt) (hh : (hgt c == 16) = bh)
    (hrow : row = bif bu then IntKind.i64.wrap (IntKind.i64.wrap (hgt c - 1) - IntKind.i64.wrap (IntKind.i64.wrap (line - oB oam n 0) + 16)) else IntKind.i64.wrap (IntKind.i64.wrap (line - oB oam n 0) + 16))
    (htl : tl = bif bh then IntKind.i64.wrap (IntKind.i64.wrap ((oB oam n 2).tdiv 2) * 2) else oB oam n 2)
    (h7 : decide (row > 7) = b7) :
    tDot l (bif b7 then IntKind.i64.wrap (tl + 1) else tl)
      (bif bt then IntKind.i64.wrap (7 - IntKind.i64.wrap (IntKind.i64.wrap (x - oB oam n 1) + 8)) else IntKind.i64.wrap (IntKind.i64.wrap (x - oB oam n 1) + 8))
      (bif b7 then IntKind.i64.wrap (row - 8) else row) = spDot l oam c n x line := by
  have hg := hgt_two c
  have g0 := oB_byte ho n 0
  have g1 := oB_byte ho n 1
  have g2 := oB_byte ho n 2
  have g3 := oB_byte ho n 3
  rw [wrap_i64 (n := line - oB oam n 0) (by omega) (by omega), wrap_i64 (n := line - oB oam n 0 + 16) (by omega) (by omega)] at h1 hrow
  rw [wrap_i64 (n := x - oB oam n 1) (by omega) (by omega), wrap_i64 (n := x - oB oam n 1 + 8) (by omega) (by omega)] at h2 ⊢
  rw [wrap_i64 (n := hgt c - 1) (by omega) (by omega), wrap_i64 (n := hgt c - 1 - (line - oB oam n 0 + 16)) (by omega) (by omega)] at hrow
  rw [wrap_i64 (n := 7 - (x - oB oam n 1 + 8)) (by omega) (by omega)]
  rw [Int.tdiv_eq_ediv_of_nonneg g2.1, wrap_i64 (n := oB oam n 2 / 2) (by omega) (by omega), wrap_i64 (n := oB oam n 2 / 2 * 2) (by omega) (by omega)] at htl
  rw [wrap_u8_id g3.1 g3.2] at hu ht
  rw [spDot, if_neg (by omega), sDot, if_neg (by omega)]
  have hrow2 : row = (if rBit (oB oam n 3) 6 = 1 then hgt c - 1 - (line - (oB oam n 0 - 16)) else line - (oB oam n 0 - 16)) := by
    rw [hrow]; subst hu
    by_cases h : rBit (oB oam n 3) 6 = 1
    · have hb : (rBit (oB oam n 3) 6 == 1) = true := by simpa using h
      rw [hb, if_pos h, cond_true]; omega
    · have hb : (rBit (oB oam n 3) 6 == 1) = false := by simpa using h
      rw [hb, if_neg h, cond_false]; omega
  have hcol : (bif bt then 7 - (x - oB oam n 1 + 8) else x - oB oam n 1 + 8) = (if rBit (oB oam n 3) 5 = 1 then 7 - (x - (oB oam n 1 - 8)) else x - (oB oam n 1 - 8)) := by
    subst ht
    by_cases h : rBit (oB oam n 3) 5 = 1
    · have hb : (rBit (oB oam n 3) 5 == 1) = true := by simpa using h
      rw [hb, if_pos h, cond_true]; omega
    · have hb : (rBit (oB oam n 3) 5 == 1) = false := by simpa using h
      rw [hb, if_neg h, cond_false]; omega
  have hr0 : 0 ≤ row ∧ row < hgt c := by rw [hrow2]; split <;> omega
  rw [hcol]
  simp only
  rw [← hrow2]
  generalize (if rBit (oB oam n 3) 5 = 1 then 7 - (x - (oB oam n 1 - 8)) else x - (oB oam n 1 - 8)) = col
  clear hrow hrow2 hcol
  have htl2 : tl = if hgt c = 16 then oB oam n 2 / 2 * 2 else oB oam n 2 := by
    rw [htl]; subst hh
    by_cases h : hgt c = 16
    · have hb : (hgt c == 16) = true := by simpa using h
      rw [hb, if_pos h, cond_true]
    · have hb : (hgt c == 16) = false := by simpa using h
      rw [hb, if_neg h, cond_false]
  clear htl
  subst h7
  by_cases h : row > 7
  · simp only [h, decide_true, cond_true]
    have h16 : hgt c = 16 := by omega
    rw [htl2, if_pos h16, if_pos h16, wrap_i64 (by omega) (by omega), wrap_i64 (by omega) (by omega)]
    have : row / 8 = 1 := by omega
    rw [this, ← tDot_row _ _ _ row, ← tDot_row _ _ _ (row - 8)]
    congr 1
    omega
  · simp only [h, decide_false, cond_false]
    rw [htl2]
    have : row / 8 = 0 := by omega
    rw [this]
    split <;> simp

/-- The four bytes that are copied. -/
theorem four_law {l : List Int} {n : Int} (hn : 0 ≤ n ∧ n < 40) (h : 4 * n < (l.length : Int)) :
    putL [Value.int .u8 0, .int .u8 0, .int .u8 0, .int .u8 0] 0 ((((l.map (Value.int .u8)).drop (4 * n).toNat).take (l.length - (4 * n).toNat)).take (min (l.length - (4 * n).toNat) 4)) =
      [.int .u8 (oB l n 0), .int .u8 (oB l n 1), .int .u8 (oB l n 2), .int .u8 (oB l n 3)] := by
  have e : (4 * n).toNat = 4 * n.toNat := by omega
  rw [e]
  generalize hm : n.toNat = m at *
  have hm2 : 4 * m < l.length := by omega
  have hd : ∀ k, (l.drop (4 * m)).getD k 0 = l.getD (4 * m + k) 0 := fun k => by simp [List.getD_eq_getElem?_getD, List.getElem?_drop]
  unfold oB
  rw [hm, ← hd 0, ← hd 1, ← hd 2, ← hd 3]
  have hlen : (l.drop (4 * m)).length = l.length - 4 * m := by simp
  simp only [← List.map_drop, ← List.map_take]
  rw [← hlen, List.take_of_length_le (Nat.le_refl _)]
  match hq : l.drop (4 * m), hlen with
  | [], h0 => simp at h0; omega
  | [a], _ => rfl
  | [a, b], _ => rfl
  | [a, b, c], _ => rfl
  | a :: b :: c :: d :: r, _ =>
    have : min (a :: b :: c :: d :: r).length 4 = 4 := by simp
    rw [this]; rfl
theorem four_none {l : List Int} {n : Int} (hn : 0 ≤ n ∧ n < 40) (h : ¬ 4 * n < (l.length : Int)) (k : Nat) : 0 = oB l n k := by
  unfold oB
  rw [List.getD_eq_getElem?_getD, List.getElem?_eq_none (by omega)]; rfl
theorem of_law {l : List Int} (hl : Byts l) (n : Int) : (Value.agg #[.int .i64 n, .int .i64 (IntKind.i64.wrap (IntKind.i64.wrap (oB l n 0) - 16)), .int .i64 (IntKind.i64.wrap (IntKind.i64.wrap (oB l n 1) - 8)), .int .i64 (IntKind.i64.wrap (oB l n 2)), .int .u8 (oB l n 3)]) =
    .agg #[.int .i64 n, .int .i64 (oB l n 0 - 16), .int .i64 (oB l n 1 - 8), .int .i64 (oB l n 2), .int .u8 (oB l n 3)] := by
  have h0 := oB_byte hl n 0
  have h1 := oB_byte hl n 1
  have h2 := oB_byte hl n 2
  rw [wrap_i64 (n := oB l n 0) (by omega) (by omega), wrap_i64 (n := oB l n 0 - 16) (by omega) (by omega), wrap_i64 (n := oB l n 1) (by omega) (by omega), wrap_i64 (n := oB l n 1 - 8) (by omega) (by omega), wrap_i64 (n := oB l n 2) (by omega) (by omega)]
theorem four_none' {l : List Int} {n : Int} (hn : 0 ≤ n ∧ n < 40) (h : ¬ 4 * n < (l.length : Int)) :
    [Value.int .u8 0, .int .u8 0, .int .u8 0, .int .u8 0] = [.int .u8 (oB l n 0), .int .u8 (oB l n 1), .int .u8 (oB l n 2), .int .u8 (oB l n 3)] := by
  rw [← four_none hn h 0, ← four_none hn h 1, ← four_none hn h 2, ← four_none hn h 3]
theorem oat_some {l : List Int} {n : Int} (hn : 0 ≤ n ∧ n < 40) {k : Nat} (hk : k < 4) : l.getD (IntKind.i64.wrap (IntKind.i64.wrap (4 * n) + k)).toNat 0 = oB l n k := by
  rw [wrap_i64 (n := 4 * n) (by omega) (by omega), wrap_i64 (by omega) (by omega), oB]
  congr 1
  omega
theorem oat_law {n : Int} (hn : 0 ≤ n ∧ n < 40) {k : Nat} (hk : k < 4) : IntKind.i64.wrap (IntKind.i64.wrap (4 * n) + k) = 4 * n + k := by
  rw [wrap_i64 (n := 4 * n) (by omega) (by omega), wrap_i64 (by omega) (by omega)]
theorem oat_none {l : List Int} {n : Int} (hn : 0 ≤ n ∧ n < 40) {k : Nat} (hk : k < 4) (h : (l.length : Int) ≤ IntKind.i64.wrap (IntKind.i64.wrap (4 * n) + k)) : 0 = oB l n k := by
  rw [oat_law hn hk] at h
  unfold oB
  rw [List.getD_eq_getElem?_getD, List.getElem?_eq_none (by omega)]; rfl
theorem byte8 (x : Int) : 0 ≤ IntKind.u8.wrap x ∧ IntKind.u8.wrap x < 256 := by rw [wrap_u8]; omega
theorem oat_none' {l : List Int} {n : Int} (hn : 0 ≤ n ∧ n < 40) {k : Nat} (_hk : k < 4) (h : (l.length : Int) ≤ 4 * n + k) : 0 = oB l n k := by
  unfold oB
  rw [List.getD_eq_getElem?_getD, List.getElem?_eq_none (by omega)]; rfl
theorem oat_some' {l : List Int} (hl : Byts l) {n : Int} (hn : 0 ≤ n ∧ n < 40) {k : Nat} (hk : k < 4) : IntKind.i64.wrap (l.getD (4 * n + k).toNat 0) = oB l n k := by
  have e : l.getD (4 * n + (k : Int)).toNat 0 = oB l n k := by
    unfold oB; congr 1; omega
  have := oB_byte hl n k
  rw [e, wrap_i64 (by omega) (by omega)]
theorem spd_law {l oam : List Int} {c n x line r : Int} (h : r = spDot l oam c n x line) : Value.tuple #[.int .u8 r, .bool (r != 0)] = .tuple #[.int .u8 (spDot l oam c n x line), .bool (spDot l oam c n x line != 0)] := by rw [h]
theorem spd_in {l oam : List Int} {c n x line : Int} (h : ¬ (n < 0 ∨ 40 ≤ n)) :
    Value.tuple #[.int .u8 (sDot l c (oB oam n 0 - 16) (oB oam n 1 - 8) (oB oam n 2) (oB oam n 3) x line), .bool (sDot l c (oB oam n 0 - 16) (oB oam n 1 - 8) (oB oam n 2) (oB oam n 3) x line != 0)] =
      .tuple #[.int .u8 (spDot l oam c n x line), .bool (spDot l oam c n x line != 0)] := spd_law (spDot_in h)
theorem spd_out {l oam : List Int} {c n x line : Int} (h : n < 0 ∨ 40 ≤ n) : Value.tuple #[.int .u8 0, .bool false] = .tuple #[.int .u8 (spDot l oam c n x line), .bool (spDot l oam c n x line != 0)] :=
  spd_law (spDot_out h)
theorem spd_far {l oam : List Int} (ho : Byts oam) {c n x line : Int} (h : n < 0 ∨ 39 < n ∨ x < -1000 ∨ 1000 < x ∨ line < -1000 ∨ 1000 < line) :
    Value.tuple #[.int .u8 0, .bool false] = .tuple #[.int .u8 (spDot l oam c n x line), .bool (spDot l oam c n x line != 0)] := spd_law (spDot_far ho h).symm
theorem spd_zero {l oam : List Int} (ho : Byts oam) {c n x line : Int} (hr : 0 ≤ n ∧ n < 40 ∧ -1000 ≤ x ∧ x ≤ 1000 ∧ -1000 ≤ line ∧ line ≤ 1000)
    (h : IntKind.i64.wrap (IntKind.i64.wrap (line - oB oam n 0) + 16) < 0 ∨ hgt c ≤ IntKind.i64.wrap (IntKind.i64.wrap (line - oB oam n 0) + 16) ∨ IntKind.i64.wrap (IntKind.i64.wrap (x - oB oam n 1) + 8) < 0 ∨ 7 < IntKind.i64.wrap (IntKind.i64.wrap (x - oB oam n 1) + 8)) :
    Value.tuple #[.int .u8 0, .bool false] = .tuple #[.int .u8 (spDot l oam c n x line), .bool (spDot l oam c n x line != 0)] := by
  have h0 := oB_byte ho n 0
  have h1 := oB_byte ho n 1
  rw [wrap_i64 (n := line - oB oam n 0) (by omega) (by omega), wrap_i64 (n := line - oB oam n 0 + 16) (by omega) (by omega), wrap_i64 (n := x - oB oam n 1) (by omega) (by omega), wrap_i64 (n := x - oB oam n 1 + 8) (by omega) (by omega)] at h
  exact spd_law (spDot_zero h).symm
/-- Does a sprite have a line? -/
def hasB (oam : List Int) (c line : Int) (n : Nat) : Bool := decide (oB oam n 0 - 16 ≤ line) && decide (line < oB oam n 0 - 16 + hgt c)
def scanK (oam : List Int) (c line : Int) (k : Nat) : List Int := ((List.range k).filter (hasB oam c line)).map (fun n : Nat => (n : Int))
def scan (oam : List Int) (c line : Int) : List Int := (scanK oam c line 40).take 10
theorem scanK_len (oam : List Int) (c line : Int) (k : Nat) : (scanK oam c line k).length ≤ k := by
  simp only [scanK, List.length_map]
  have := List.length_filter_le (hasB oam c line) (List.range k)
  simpa using this
theorem scanK_yes {oam : List Int} {c line : Int} {k : Nat} (h : hasB oam c line k = true) : scanK oam c line (k + 1) = scanK oam c line k ++ [(k : Int)] := by
  simp [scanK, List.range_succ, List.filter_append, h]
theorem scanK_no {oam : List Int} {c line : Int} {k : Nat} (h : hasB oam c line k = false) : scanK oam c line (k + 1) = scanK oam c line k := by
  simp [scanK, List.range_succ, List.filter_append, h]
theorem has_law {oam : List Int} (ho : Byts oam) {c line : Int} {n : Nat} {b : Bool} (h : (decide (oB oam n 0 - 16 ≤ line) && decide (line < IntKind.i64.wrap (oB oam n 0 - 16 + hgt c))) = b) : hasB oam c line n = b := by
  have h0 := oB_byte ho n 0
  have hg := hgt_two c
  rw [wrap_i64 (by omega) (by omega)] at h
  exact h
theorem vec_yes {oam : List Int} {c line : Int} {k : Nat} {v : Value} {G : Heap} (h : hasB oam c line k = true) (hv : Vec 3 1 v ((scanK oam c line k).length + 1) ((scanK oam c line k).map (.int .i64) ++ [.int .i64 k]) G) :
    Vec 3 1 v (scanK oam c line (k + 1)).length ((scanK oam c line (k + 1)).map (.int .i64)) G := by
  rw [scanK_yes h]; simpa using hv
theorem vec_no {oam : List Int} {c line : Int} {k : Nat} {v : Value} {G : Heap} (h : hasB oam c line k = false) (hv : Vec 3 1 v (scanK oam c line k).length ((scanK oam c line k).map (.int .i64)) G) :
    Vec 3 1 v (scanK oam c line (k + 1)).length ((scanK oam c line (k + 1)).map (.int .i64)) G := by
  rw [scanK_no h]; exact hv
theorem vec_zero (oam : List Int) (c line : Int) : Vec 3 1 (.slice none 0 0) (scanK oam c line 0).length ((scanK oam c line 0).map (.int .i64)) [] := .nil
theorem scan_len (oam : List Int) (c line : Int) : (scan oam c line).length = min (scanK oam c line 40).length 10 := by rw [scan, List.length_take, Nat.min_comm]
theorem take_pre {α β : Type} (f : α → β) (l : List α) (r : List β) (n : Nat) (j : Nat) (v : β) (h : ((l.take n).map f)[j]? = some v) : (l.map f ++ r)[j]? = some v := by
  rw [List.map_take, List.getElem?_take] at h
  split at h
  · have hj : j < (l.map f).length := by
      rcases Nat.lt_or_ge j (l.map f).length with h1 | h1
      · exact h1
      · rw [List.getElem?_eq_none h1] at h; cases h
    rw [List.getElem?_append_left hj]; exact h
  · cases h
theorem scan_far {oam : List Int} (ho : Byts oam) {c line : Int} (h : line < -1000 ∨ 1000 < line) : scan oam c line = [] := by
  have hf : ∀ n, hasB oam c line n = false := fun n => by
    have h0 := oB_byte ho n 0
    have hg := hgt_two c
    unfold hasB
    rcases h with h | h
    · have : decide (oB oam n 0 - 16 ≤ line) = false := by simp; omega
      rw [this]; rfl
    · have : decide (line < oB oam n 0 - 16 + hgt c) = false := by simp; omega
      rw [this, Bool.and_false]
  have : (List.range 40).filter (hasB oam c line) = [] := List.filter_eq_nil_iff.2 fun a _ => by rw [hf a]; simp
  rw [scan, scanK, this]; rfl
theorem rvec_zero (oam : List Int) (c line : Int) : Vec 3 1 (.slice none 0 0) ((scanK oam c line 0).take 10).length (((scanK oam c line 0).take 10).map (.int .i64)) [] := .nil
theorem rvec_yes {oam : List Int} {c line : Int} {k : Nat} {v : Value} {G : Heap} (h : hasB oam c line k = true) (h10 : (((scanK oam c line k).take 10).length : Int) < 10)
    (hv : Vec 3 1 v (((scanK oam c line k).take 10).length + 1) (((scanK oam c line k).take 10).map (.int .i64) ++ [.int .i64 k]) G) :
    Vec 3 1 v ((scanK oam c line (k + 1)).take 10).length (((scanK oam c line (k + 1)).take 10).map (.int .i64)) G := by
  have hlt : (scanK oam c line k).length < 10 := by rw [List.length_take] at h10; omega
  have e1 : (scanK oam c line k).take 10 = scanK oam c line k := List.take_of_length_le (by omega)
  have e2 : (scanK oam c line (k + 1)).take 10 = scanK oam c line k ++ [(k : Int)] := by
    rw [scanK_yes h]; exact List.take_of_length_le (by simp; omega)
  rw [e2]; rw [e1] at hv; simpa using hv
theorem rvec_no {oam : List Int} {c line : Int} {k : Nat} {v : Value} {G : Heap} (h : hasB oam c line k = false ∨ 10 ≤ (((scanK oam c line k).take 10).length : Int))
    (hv : Vec 3 1 v ((scanK oam c line k).take 10).length (((scanK oam c line k).take 10).map (.int .i64)) G) :
    Vec 3 1 v ((scanK oam c line (k + 1)).take 10).length (((scanK oam c line (k + 1)).take 10).map (.int .i64)) G := by
  have e : (scanK oam c line (k + 1)).take 10 = (scanK oam c line k).take 10 := by
    cases hb : hasB oam c line k
    · rw [scanK_no hb]
    · rcases h with h | h
      · rw [hb] at h; cases h
      · rw [scanK_yes hb, List.take_append_of_le_length (by rw [List.length_take] at h; omega)]
  rw [e]; exact hv
theorem rhas_law {oam : List Int} (ho : Byts oam) {c line : Int} {n : Nat} : hasB oam c line n = (decide (IntKind.i64.wrap (oB oam n 0 - 16) ≤ line) && decide (line < IntKind.i64.wrap (IntKind.i64.wrap (oB oam n 0 - 16) + hgt c))) := by
  have h0 := oB_byte ho n 0
  have hg := hgt_two c
  rw [wrap_i64 (n := oB oam n 0 - 16) (by omega) (by omega), wrap_i64 (by omega) (by omega)]; rfl
theorem cut1_zero (cap : Nat) : cut1 0 0 cap = 0 := by simp [cut1]
theorem scan_nil {oam : List Int} {c line : Int} (hm : (scanK oam c line 40).length = 0) : Lst .i64 (scan oam c line) (.slice none 0 0) [] := by
  have : scan oam c line = [] := List.eq_nil_of_length_eq_zero (by rw [scan_len]; omega)
  rw [this]; exact .nil
theorem scan_row {oam : List Int} {c line : Int} {n cap b : Nat} {xs sp : List Value} (hm : (scanK oam c line 40).length = n) (hx : (scanK oam c line 40).map (Value.int .i64) = xs) (hle : n ≤ cap) :
    Lst .i64 (scan oam c line) (.slice (some ⟨b, cut1 0 0 cap, none⟩) (min n 10 - 0) (cap - 0)) [(b, blk (xs ++ sp) 3)] := by
  rw [cut1_zero]
  refine Lst.of_row (by rw [scan_len]; omega) (by rw [scan_len]; omega) (fun j v hv => ?_)
  subst hx
  exact take_pre _ _ _ _ j v hv
theorem same_len {l1 l2 : List Int} (h : l1.length ≠ l2.length) : decide (l1 = l2) = false := by
  simp; intro e; exact h (by rw [e])
theorem same_no {l1 l2 : List Int} {k : Nat} (h : l1.getD k 0 ≠ l2.getD k 0) : decide (l1 = l2) = false := by
  simp; intro e; exact h (by rw [e])
theorem same_yes {l1 l2 : List Int} {k : Nat} (h : l1.length = l2.length) (hj : ∀ j, j < k → l1.getD j 0 = l2.getD j 0) (hk : l1.length ≤ k) : decide (l1 = l2) = true := by
  simp
  apply List.ext_getElem h
  intro i h1 h2
  have := hj i (by omega)
  simpa [List.getD_eq_getElem?_getD, h1, h2] using this
theorem same_step {l1 l2 : List Int} {k : Nat} (hj : ∀ j, j < k → l1.getD j 0 = l2.getD j 0) (h : l1.getD k 0 = l2.getD k 0) : ∀ j, j < k + 1 → l1.getD j 0 = l2.getD j 0 := fun j h1 => by
  rcases Nat.lt_succ_iff_lt_or_eq.1 h1 with h2 | rfl
  · exact hj j h2
  · exact h
/-- The memory that is filled. -/
def fillB (b : List Int) (i : Nat) : Int := if 0 < b.length then b.getD ((i + i / 97) % b.length) 0 else 0
def filled (b : List Int) : List Int := (List.range 8192).map (fillB b)
def fillK (b : List Int) (k : Nat) : List Value := (List.range k).map (fun i => Value.int .u8 (fillB b i)) ++ List.replicate (8192 - k) (.int .u8 0)
theorem filled_len (b : List Int) : (filled b).length = 8192 := by simp [filled]
theorem filled_byts {b : List Int} (hb : Byts b) : Byts (filled b) := by
  intro x hx
  simp only [filled, List.mem_map] at hx
  obtain ⟨i, _, rfl⟩ := hx
  unfold fillB
  split
  · exact hb.get _
  · omega
theorem fillK_zero (b : List Int) : List.replicate 8192 (Value.int .u8 0) = fillK b 0 := by simp only [fillK, List.range_zero, List.map_nil, List.nil_append, Nat.sub_zero]
theorem fillK_len (b : List Int) {k : Nat} (hk : k ≤ 8192) : (fillK b k).length = 8192 := by simp [fillK]; omega
theorem fillK_put (b : List Int) {k : Nat} (hk : k < 8192) : putL (fillK b k) k [.int .u8 (fillB b k)] = fillK b (k + 1) := by
  have h1 : (List.range k).map (fun i => Value.int .u8 (fillB b i)) = (fillK b k).take k := by simp [fillK]
  have h2 : (fillK b k).drop (k + 1) = List.replicate (8192 - (k + 1)) (.int .u8 0) := by
    simp only [fillK]
    rw [List.drop_append, List.drop_of_length_le (by simp)]
    simp only [List.length_map, List.length_range, List.nil_append, List.drop_replicate]
    congr 1
    omega
  unfold putL
  rw [← h1, List.length_singleton, h2]
  simp [fillK, List.range_succ]
theorem fillK_none (b : List Int) {k : Nat} (hk : k < 8192) (h : ¬ 0 < b.length) : fillK b k = fillK b (k + 1) := by
  rw [← fillK_put b hk]
  have h0 : fillB b k = 0 := by simp [fillB, h]
  rw [h0]
  unfold putL fillK
  have e : 8192 - k = (8192 - (k + 1)) + 1 := by omega
  simp only [List.length_singleton]
  rw [List.take_left' (by simp), List.drop_append, List.drop_of_length_le (by simp)]
  simp only [List.length_map, List.length_range, List.nil_append, List.drop_replicate, List.append_assoc]
  rw [e, List.replicate_succ]
  have e2 : 8192 - (k + 1) + 1 - (k + 1 - k) = 8192 - (k + 1) := by omega
  rw [e2]; rfl
theorem fillK_all (b : List Int) : fillK b 8192 = (filled b).map (.int .u8) := by simp [fillK, filled]
theorem fill_step {b : List Int} {k : Nat} (hk : k < 8192) (h : 0 < b.length) : putL (fillK b k) k [.int .u8 (b.getD ((k + k / 97) % b.length) 0)] = fillK b (k + 1) := by
  rw [← fillK_put b hk, fillB, if_pos h]
theorem fill_end {b : List Int} {k b5 : Nat} (hk : k = 8192) : Lst .u8 (filled b) (.slice (some ⟨b5, 0, none⟩) 8192 8192) [(b5, blk (fillK b k) 5)] := by
  subst hk
  refine Lst.of_row (filled_len b).symm (by rw [filled_len]; exact Nat.le_refl _) (fun j v hv => ?_)
  rw [fillK_all]; exact hv
theorem fill_law {b : List Int} {k : Nat} (hk : k < 8192) :
    (IntKind.i64.wrap ((k : Int) + IntKind.i64.wrap ((k : Int).tdiv 97))).tmod b.length = (((k + k / 97) % b.length : Nat) : Int) := by
  have h1 : (k : Int).tdiv 97 = ((k / 97 : Nat) : Int) := by rw [Int.tdiv_eq_ediv_of_nonneg (by omega)]; rfl
  rw [h1, wrap_i64 (n := ((k / 97 : Nat) : Int)) (by omega) (by omega), wrap_i64 (by omega) (by omega), Int.tmod_eq_emod_of_nonneg (by omega)]
  rfl
end Go.Proofs.Ytjceoaomkbabmaa
