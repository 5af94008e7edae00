/- The unit that makes the picture: what can't be seen while it draws. Plain definitions and laws, no program. -/
import Derived.Test.YtjceoaomkbabmaaLaps
import Derived.Test.YtjceoaomkbabmaaVwB
namespace Go.Proofs.Ytjceoaomkbabmaa
open Go Go.VV

def shutS (j k : Nat) : PU := askU { zeroU with V := zeroU.V.set j 1, O := zeroU.O.set k 2, R := [128, 0, 0, 0, 0, 0, 0, 0, 0, 0, 0, 0] }
theorem bor_top {x : Int} (h : 0 ≤ x ∧ x < 8192) : bor .u16 32768 x = 32768 + x := by
  rw [bor_nat (by decide) (by decide) h.1 (by show _ < (65536 : Int); omega)]
  have h1 : (32768 : Int).toNat = 2 ^ 15 * 1 := rfl
  rw [h1, ← Nat.two_pow_add_eq_or_of_lt (by omega)]
  omega
theorem flip_byte {x : Int} (hx : 0 ≤ x ∧ x < 256) : 0 ≤ bxor .u8 x 1 ∧ bxor .u8 x 1 < 256 :=
  byte_all (p := fun x => 0 ≤ bxor .u8 x 1 ∧ bxor .u8 x 1 < 256) (by decide +kernel) hx.1 hx.2
theorem getD_set {l : List Int} {j : Nat} (h : j < l.length) (x : Int) : (l.set j x).getD j 0 = x := by
  rw [List.getD_eq_getElem?_getD, List.getElem?_set_self h]; rfl
section
variable {j k : Nat} (hj : j < 8192) (hk : k < 160)
include hj hk
theorem shut3 : writeU (writeU (writeU zeroU (32768 + j) 1) (65024 + k) 2) 65344 128 = shutS j k := by
  rw [write_V 1 hj, if_pos (show modeU zeroU < 3 by decide), write_O 2 hk, if_pos (show modeU ({ zeroU with V := zeroU.V.set j 1 } : PU) < 2 from (by decide : modeU zeroU < 2))]
  show askU (offU (litU zeroU) { zeroU with V := zeroU.V.set j 1, O := zeroU.O.set k 2, R := zeroU.R.set 0 128 }) = _
  have h0 : litU zeroU = false := rfl
  rw [h0, off_no (.inl rfl)]; rfl
theorem shutS_ok : (shutS j k).Ok := by
  rw [← shut3 hj hk]
  exact ((zeroU_ok.write (a := 32768 + j) (x := 1) (by decide)).write (a := 65024 + k) (x := 2) (by decide)).write (a := 65344) (x := 128) (by decide)
omit hk in
theorem shut_V1 (n : Nat) : (tickN n (shutS j k)).V.getD j 0 = 1 := by
  rw [(tickN_keep _ n).1]
  show (zeroU.V.set j 1).getD j 0 = 1
  exact getD_set (by rw [zeroU_wf.lV]; exact hj) 1
omit hj in
theorem shut_O2 (n : Nat) : (tickN n (shutS j k)).O.getD k 0 = 2 := by
  rw [(tickN_keep _ n).2.1]
  show (zeroU.O.set k 2).getD k 0 = 2
  exact getD_set (by rw [zeroU_wf.lO]; exact hk) 2
variable {s : PU} (x : Int)
theorem w2_3 (h : modeU s = 3) : writeU (writeU s (32768 + j) x) (65024 + k) x = s := by
  rw [write_V x hj, if_neg (by omega), write_O x hk, if_neg (by omega)]
theorem w2_2 (h : modeU s = 2) : writeU (writeU s (32768 + j) x) (65024 + k) x = { s with V := s.V.set j x } := by
  have h2 : modeU ({ s with V := s.V.set j x } : PU) = modeU s := rfl
  rw [write_V x hj, if_pos (by omega), write_O x hk, if_neg (by omega)]
theorem w2_0 (h : modeU s < 2) : writeU (writeU s (32768 + j) x) (65024 + k) x = { s with V := s.V.set j x, O := s.O.set k x } := by
  have h2 : modeU ({ s with V := s.V.set j x } : PU) = modeU s := rfl
  rw [write_V x hj, if_pos (by omega), write_O x hk, if_pos (by omega)]
omit hj in
theorem sprite_k (s : PU) : spriteU s (k : Int) x = { s with O := s.O.set k x } := by
  unfold spriteU
  rw [if_pos (by omega), Int.toNat_natCast]
end
end Go.Proofs.Ytjceoaomkbabmaa
