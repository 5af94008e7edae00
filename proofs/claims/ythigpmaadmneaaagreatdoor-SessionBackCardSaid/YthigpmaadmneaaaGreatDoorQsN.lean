/- Whatever comes in: SessionBack returns true, and all reads as it did; what is laid in the listed variables is tied to the text. -/
import Derived.Test.YthigpmaadmneaaaGreatDoorQsM
set_option maxRecDepth 100000
set_option maxHeartbeats 1000000
set_option linter.all false
namespace Go.Proofs.YthigpmaadmneaaaGreatDoor
open Go Go.VV Go.Proofs Go.RowKit Go.Proofs.Tryz
def c_w : Rows.sessionBackRow.wfByText (OpenSpec.ofChange Rows.sessionBackSpec) = true := by kernel_rfl
def c_m : Tryz.pinned.checked.prog.mainIs = some (true, "0d0cac8a51b39400506539994057f259f5f5203897a656fed5bce265777460ba".toList) := by kernel_rfl
def c_f : prog.funcNamed "retrograde/retrogradelaw24.SessionBack" = some 3 := by kernel_rfl
def c_l : true = Tryz.pinned.checked.prog.looks [] := by kernel_rfl
def c_a : ([25, 5, 5, 3].all fun u => !prog.wantsStandIn u) = true := by kernel_rfl
def c_g : false = Rows.sessionBackRow.goesBy Tryz.pinned.checked.prog := by kernel_rfl
theorem sessionBack_card : Rows.SessionBackCardSaid :=
 Claim7.holds_tied_plain_at .later [] [.data, .data, .data, .sentinel, .sentinel] true (true, "0d0cac8a51b39400506539994057f259f5f5203897a656fed5bce265777460ba") true
  sessionBack_holds (fun _ h => by cases h) c_w (fun _ h => by cases h) sessionBack_row_tie rfl ⟨rfl, rfl⟩ c_m rfl
  (fun f fn hf hfn => by
   obtain rfl : f = 3 := aj (c_f.symm.trans hf) |>.symm
   obtain rfl : fn = Tryz.f3 := (aj (func3.symm.trans hfn)).symm
   exact ⟨c_l, fun j t ht => by
    rw [Tryz.params3] at ht
    have hm : t ∈ [25, 5, 5, 3] := by simpa using Array.mem_of_getElem? ht
    exact (show prog.wantsStandIn t = false by simpa using List.all_eq_true.1 c_a t hm)⟩)
  c_g
end Go.Proofs.YthigpmaadmneaaaGreatDoor
