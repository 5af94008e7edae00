/- A line of tiles: plain definitions and laws, no program. -/
import Derived.Test.YtjceoaomkbabmaaMath
import Derived.Test.YtjceoaomkbabmaaVvK
namespace Go.Proofs.Ytjceoaomkbabmaa
open Go Go.VV

/-- How tiles are seen. -/
structure Vw where
  c : Int
  sx : Int
  sy : Int
  wx : Int
  wy : Int
def cV (v : Vw) : List Value := [.int .u8 v.c, .int .u8 v.sx, .int .u8 v.sy, .int .u8 v.wx, .int .u8 v.wy]
theorem cV_len (v : Vw) : (cV v).length = 5 := rfl
structure Vw.Ok (v : Vw) : Prop where
  c : 0 ≤ v.c ∧ v.c < 256
  sx : 0 ≤ v.sx ∧ v.sx < 256
  sy : 0 ≤ v.sy ∧ v.sy < 256
  wx : 0 ≤ v.wx ∧ v.wx < 256
  wy : 0 ≤ v.wy ∧ v.wy < 256
def tNum (c b : Int) : Int := if rBit c 4 = 1 then b else if 127 < b then b else 256 + b
def tSpot (l : List Int) (c n px py : Int) : Int := tDot l (tNum c (vAt l ((if rBit c n = 1 then 7168 else 6144) + 32 * (py / 8) + px / 8))) px py
def tBack (l : List Int) (v : Vw) (x y : Int) : Int := tSpot l v.c 3 ((x + v.sx) % 256) ((y + v.sy) % 256)
def tWin (l : List Int) (v : Vw) (x y : Int) : Int := tSpot l v.c 6 (x % 256) (y % 256)
def tSeen (v : Vw) (line : Int) : Bool := decide (rBit v.c 0 = 1) && (decide (rBit v.c 5 = 1) && (decide (v.wy ≤ line) && decide (v.wx ≤ 166)))
def tPix (l : List Int) (v : Vw) (line own : Int) (x : Nat) : Int :=
  if rBit v.c 0 = 1 then (if tSeen v line = true ∧ 0 ≤ (x : Int) + 7 - v.wx then tWin l v ((x : Int) + 7 - v.wx) own else tBack l v x line) else 0
def tLine (l : List Int) (v : Vw) (line own : Int) : List Int := (List.range 160).map (tPix l v line own)
theorem tLine_len (l : List Int) (v : Vw) (line own : Int) : (tLine l v line own).length = 160 := by simp [tLine]
theorem tLine_vals (l : List Int) (v : Vw) (line own : Int) : (tLine l v line own).map (Value.int .u8) = upTo .u8 (tPix l v line own) 160 160 := by simp [tLine, upTo_all, List.map_map, Function.comp_def]
theorem tDot4 (l : List Int) (t x y : Int) : 0 ≤ tDot l t x y ∧ tDot l t x y < 4 := by
  unfold tDot
  have h1 := rBit_01 (vAt l (16 * t + 2 * (y % 8))) (7 - x % 8)
  have h2 := rBit_01 (vAt l (16 * t + 2 * (y % 8) + 1)) (7 - x % 8)
  split <;> omega
theorem tPix_four (l : List Int) (v : Vw) (line own : Int) (x : Nat) : 0 ≤ tPix l v line own x ∧ tPix l v line own x < 4 := by
  unfold tPix tWin tBack tSpot
  split
  · split <;> exact tDot4 _ _ _ _
  · omega
theorem tLine_byts (l : List Int) (v : Vw) (line own : Int) : Byts (tLine l v line own) := fun x hx => by
  obtain ⟨k, _, rfl⟩ := List.mem_map.1 hx
  have := tPix_four l v line own k
  omega
/-! bits of a byte -/
theorem bitOf0 {c : Int} (hc : 0 ≤ c ∧ c < 256) : (band .u8 c 1 == 0) = decide (rBit c 0 = 0) :=
  byte_all (p := fun c => (band .u8 c 1 == 0) = decide (rBit c 0 = 0)) (by decide +kernel) hc.1 hc.2
theorem bitOf3 {c : Int} (hc : 0 ≤ c ∧ c < 256) : (band .u8 c 8 != 0) = decide (rBit c 3 = 1) :=
  byte_all (p := fun c => (band .u8 c 8 != 0) = decide (rBit c 3 = 1)) (by decide +kernel) hc.1 hc.2
theorem bitOf4 {c : Int} (hc : 0 ≤ c ∧ c < 256) : (band .u8 c 16 != 0) = decide (rBit c 4 = 1) :=
  byte_all (p := fun c => (band .u8 c 16 != 0) = decide (rBit c 4 = 1)) (by decide +kernel) hc.1 hc.2
theorem byte_num {b : Int} (hb : 0 ≤ b ∧ b < 256) : IntKind.i64.wrap (256 + IntKind.i64.wrap (IntKind.i8.wrap b)) = if 127 < b then b else 256 + b :=
  byte_all (p := fun b => IntKind.i64.wrap (256 + IntKind.i64.wrap (IntKind.i8.wrap b)) = if 127 < b then b else 256 + b) (by decide +kernel) hb.1 hb.2
theorem tNum_range {c b : Int} (hb : 0 ≤ b ∧ b < 256) : 0 ≤ tNum c b ∧ tNum c b < 384 := by unfold tNum; split <;> (try split) <;> omega
theorem tNum_yes {c b : Int} (h : rBit c 4 = 1) : tNum c b = b := by unfold tNum; rw [if_pos h]
theorem tNum_no {c b : Int} (h : ¬ rBit c 4 = 1) : tNum c b = if 127 < b then b else 256 + b := by unfold tNum; rw [if_neg h]
theorem rBit_ne {c n : Int} (h : ¬ rBit c n = 1) : rBit c n = 0 := by have := rBit_01 c n; omega
theorem tSpot_at {l : List Int} {c n px py : Int} {b : Bool} (h : decide (rBit c n = 1) = b) : tSpot l c n px py = tDot l (tNum c (vAt l ((bif b then 7168 else 6144) + 32 * (py / 8) + px / 8))) px py := by
  unfold tSpot; subst h; by_cases h : rBit c n = 1 <;> simp [h]
theorem pix_off {l : List Int} {v : Vw} {line own : Int} (x : Nat) (h : rBit v.c 0 = 0) : tPix l v line own x = 0 := by unfold tPix; rw [if_neg (by omega)]
theorem pix_win {l : List Int} {v : Vw} {line own : Int} {x : Nat} (h : rBit v.c 0 = 1) (hs : tSeen v line = true) (hx : 0 ≤ (x : Int) + 7 - v.wx) : tWin l v ((x : Int) + 7 - v.wx) own = tPix l v line own x := by
  unfold tPix; rw [if_pos h, if_pos ⟨hs, hx⟩]
theorem pix_back {l : List Int} {v : Vw} {line own : Int} {x : Nat} (h : rBit v.c 0 = 1) (hs : ¬ (tSeen v line = true ∧ 0 ≤ (x : Int) + 7 - v.wx)) : tBack l v x line = tPix l v line own x := by
  unfold tPix; rw [if_pos h, if_neg hs]
theorem tLine_off {l : List Int} {v : Vw} {line own : Int} (h : rBit v.c 0 = 0) : tLine l v line own = List.replicate 160 0 := by
  refine List.eq_replicate_iff.2 ⟨tLine_len _ _ _ _, fun x hx => ?_⟩
  obtain ⟨k, _, rfl⟩ := List.mem_map.1 hx
  exact pix_off _ h
theorem tSeen_off {v : Vw} {line : Int} (h : rBit v.c 0 = 0) : tSeen v line = false := by unfold tSeen; rw [h]; rfl
theorem num_yes {c b : Int} (hc : 0 ≤ c ∧ c < 256) (hb : 0 ≤ b ∧ b < 256) (h : (band .u8 c 16 != 0) = true) : IntKind.i64.wrap b = tNum c b := by
  rw [bitOf4 hc] at h
  rw [wrap_i64 (by omega) (by omega), tNum_yes (by simpa using h)]
theorem num_no {c b : Int} (hc : 0 ≤ c ∧ c < 256) (hb : 0 ≤ b ∧ b < 256) (h : (band .u8 c 16 != 0) = false) : IntKind.i64.wrap (256 + IntKind.i64.wrap (IntKind.i8.wrap b)) = tNum c b := by
  rw [bitOf4 hc] at h
  rw [byte_num hb, tNum_no (by simpa using h)]
theorem tSpot_yes {l : List Int} {c n px py : Int} (h : rBit c n = 1) : tSpot l c n px py = tDot l (tNum c (vAt l (7168 + 32 * (py / 8) + px / 8))) px py := by unfold tSpot; rw [if_pos h]
theorem tSpot_no {l : List Int} {c n px py : Int} (h : ¬ rBit c n = 1) : tSpot l c n px py = tDot l (tNum c (vAt l (6144 + 32 * (py / 8) + px / 8))) px py := by unfold tSpot; rw [if_neg h]
theorem u8_eighth {x : Int} (h : 0 ≤ x ∧ x < 256) : IntKind.u8.wrap (x.tdiv 8) = x / 8 := by
  rw [Int.tdiv_eq_ediv_of_nonneg h.1, wrap_u8_id (by omega) (by omega)]
theorem i64_eighth {x : Int} (h : 0 ≤ x ∧ x < 256) : IntKind.i64.wrap (x.tdiv 8) = x / 8 := by
  rw [Int.tdiv_eq_ediv_of_nonneg h.1, wrap_i64 (by omega) (by omega)]
theorem mod256 (x : Int) : 0 ≤ x % 256 ∧ x % 256 < 256 := by omega
theorem seen_a {v : Vw} {line : Int} (hv : v.Ok) (h : (band .u8 v.c 32 != 0) = false) : false = tSeen v line := by
  rw [bitOf5 hv.c] at h
  unfold tSeen; rw [h]; simp
theorem seen_b {v : Vw} {line : Int} (h : decide (v.wy ≤ line) = false) : false = tSeen v line := by
  unfold tSeen; rw [h]; simp
theorem seen_c {v : Vw} {line : Int} (hv : v.Ok) (h0 : (band .u8 v.c 1 == 0) = false) (h : (band .u8 v.c 32 != 0) = true) (h2 : decide (v.wy ≤ line) = true) : decide (v.wx ≤ 166) = tSeen v line := by
  rw [bitOf5 hv.c] at h
  rw [bitOf0 hv.c] at h0
  have h1 : rBit v.c 0 = 1 := by have := rBit_01 v.c 0; simp at h0; omega
  unfold tSeen; rw [h, h2, h1]; simp
theorem bit0_on {c : Int} (hc : 0 ≤ c ∧ c < 256) (h0 : (band .u8 c 1 == 0) = false) : rBit c 0 = 1 := by
  rw [bitOf0 hc] at h0
  have := rBit_01 c 0
  simp at h0; omega
theorem bit0_off {c : Int} (hc : 0 ≤ c ∧ c < 256) (h0 : (band .u8 c 1 == 0) = true) : rBit c 0 = 0 := by
  rw [bitOf0 hc] at h0; simpa using h0
end Go.Proofs.Ytjceoaomkbabmaa
