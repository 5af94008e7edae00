/- sync.Once: the function is called once. -/
import Derived.Test.YtmihilhmdcndfaaVvW
import Derived.Test.YtmihilhmdcndfaaFill
import Derived.Test.YtmihilhmdcndfaaCalls
namespace Go.Proofs.Ytmihilhmdcndfaa
open Go Go.VV Go.Proofs Go.RowKit
set_option linter.unusedSimpArgs false
set_option linter.unusedVariables false
set_option maxRecDepth 100000
theorem disable (w : World) : (callFunc 52 #[]).run Try.prog w = .ok (.value (.tuple #[])) w := run_call_mark0 Try.func52 (by kernel_rfl) (by kernel_rfl) (by kernel_rfl) .disable (by kernel_rfl) w
theorem enable (w : World) : (callFunc 54 #[]).run Try.prog w = .ok (.value (.tuple #[])) w := run_call_mark0 Try.func54 (by kernel_rfl) (by kernel_rfl) (by kernel_rfl) .enable (by kernel_rfl) w
theorem acquire (a : Addr) (w : World) : (callFunc 55 #[.pointer (some a)]).run Try.prog w = .ok (.value (.tuple #[])) w := run_call_marked Try.func55 (by kernel_rfl) (by kernel_rfl) (by kernel_rfl) .acquire (by kernel_rfl) a w
theorem releaseMerge (a : Addr) (w : World) : (callFunc 57 #[.pointer (some a)]).run Try.prog w = .ok (.value (.tuple #[])) w := run_call_marked Try.func57 (by kernel_rfl) (by kernel_rfl) (by kernel_rfl) .releaseMerge (by kernel_rfl) a w

/-- '(*sync/atomic.Bool).Store(true)', entered as a deferred call: the cell holds 1. -/
theorem store_deferred (a : Addr) (x : Value) (u : FrameMode) (w : World) (hc : w.cell? a = some x) (hz : w.frozen? a = false) :
    CallsD Try.prog 47 #[.pointer (some a), .bool true] u w fun e u' w' => u' = u ∧ (e = .returned (.tuple #[]) ∧ w' = w.drew.setCell a (.int .u32 1)) := by
  have hc' : w.drew.cell? a = some x := by go_simp
  have hz' : w.drew.frozen? a = false := by go_simp
  have hst := run_call_store (P := Try.prog) Try.func50 (by kernel_rfl) (by kernel_rfl) (by kernel_rfl) (by kernel_rfl) (k := .u32) (y := 1) hc' hz'
  go_enter_d Try.func47, Try.ntmps47
  go_wp2
  go_region_calls
  all_goals (go_end0; exact ⟨rfl, rfl⟩)

/-- '(*sync.Mutex).Unlock', entered as a deferred call, the lock held and nobody waiting: state 0. -/
theorem unlock_deferred (a : Addr) (u : FrameMode) (w : World) (hc : w.cell? a = some (.int .i32 1)) (hz : w.frozen? a = false) :
    CallsD Try.prog 46 #[.pointer (some a)] u w fun e u' w' => u' = u ∧ (e = .returned (.tuple #[]) ∧ w' = w.setCell a (.int .i32 0)) := by
  have hd := disable
  have he := enable
  have hr := releaseMerge
  have hadd := run_call_add (P := Try.prog) Try.func58 (by kernel_rfl) (by kernel_rfl) (by kernel_rfl) .i32 (by kernel_rfl) (y := -1) (s := 0) hc hz (by simp [go_sem]; rfl)
  have hcv := run_convert_to_unsafe (P := Try.prog) (src := 79) (dst := 83) Try.underlying79 Try.underlying83 (by kernel_rfl) hc
  go_enter_d Try.func46, Try.ntmps46
  go_wp2
  go_end0
  go_wp2
  go_end0
  exact ⟨rfl, rfl⟩

/-- '(*sync.Mutex).Lock', the lock free: state 1. -/
theorem lock_free (a : Addr) (w : World) (hc : w.cell? a = some (.int .i32 0)) (hz : w.frozen? a = false) :
    Calls Try.prog 45 #[.pointer (some a)] w fun e w' => e = .returned (.tuple #[]) ∧ w' = w.setCell a (.int .i32 1) := by
  have hd := disable
  have he := enable
  have ha := acquire
  have hcas := run_call_cas_hit (P := Try.prog) Try.func53 (by kernel_rfl) (by kernel_rfl) (by kernel_rfl) .i32 (by kernel_rfl) (y := 1) hc hz
  have hc' : (w.setCell a (.int .i32 1)).cell? a = some (.int .i32 1) := World.cell?_setCell_same w a _ hc
  have hcv := run_convert_to_unsafe (P := Try.prog) (src := 79) (dst := 83) Try.underlying79 Try.underlying83 (by kernel_rfl) hc'
  go_enter Try.func45, Try.ntmps45
  go_wp2
  first | go_end0 | (simp only [Exit.inBlock, Exit.then]; refine bodyPost_ret (results_none rfl _ _ _) rfl ?_) | refine bodyPost_ret (results_none rfl _ _ _) rfl ?_
  go_wp2
  go_end0
  exact ⟨rfl, rfl⟩

set_option maxHeartbeats 1600000 in
/-- '(*sync.Once).doSlow', not yet done and the lock free: whatever the function does. -/
theorem slow_once (b : Nat) (w : World) (F : World → Prop)
    (h0 : w.cell? ⟨b, 0, none⟩ = some (.int .u32 0)) (h1 : w.cell? ⟨b, 0 + 1, none⟩ = some (.int .i32 0)) (f1 : w.frozen? ⟨b, 0 + 1, none⟩ = false)
    (hf : Calls Try.prog 17 #[.pointer (some ⟨b, 0, none⟩)] (w.setCell ⟨b, 0 + 1, none⟩ (.int .i32 1)) fun e w' => e = .returned (.tuple #[]) ∧ F w')
    (hF : ∀ w', F w' → w'.cell? ⟨b, 0, none⟩ = some (.int .u32 0) ∧ w'.cell? ⟨b, 0 + 1, none⟩ = some (.int .i32 1) ∧ w'.frozen? ⟨b, 0, none⟩ = false ∧ w'.frozen? ⟨b, 0 + 1, none⟩ = false) :
    Calls Try.prog 37 #[.pointer (some ⟨b, 0, none⟩), .func (.func 17) #[.pointer (some ⟨b, 0, none⟩)] #[]] w fun e w' => e = .returned (.tuple #[]) ∧
      ∃ w2, F w2 ∧ w' = (w2.drew.setCell ⟨b, 0, none⟩ (.int .u32 1)).setCell ⟨b, 0 + 1, none⟩ (.int .i32 0) := by
  have hl := run_call_load (P := Try.prog) Try.func44 (by kernel_rfl) (by kernel_rfl) (by kernel_rfl) .u32 (by kernel_rfl) (w := w.setCell ⟨b, 0 + 1, none⟩ (.int .i32 1)) (a := ⟨b, 0, none⟩) (x := 0) ((World.cell?_setCell_other _ ⟨b, 0 + 1, none⟩ ⟨b, 0, none⟩ _ (by simp)).trans h0)
  have hnot : ∀ (x : Bool) (w : World), (Op.unary .not (.bool x)).run Try.prog w = .ok (.bool (!x)) w := fun _ _ => rfl
  go_enter_defers Try.func37, Try.ntmps37
  go_wp2_with (go_at_call 45; refine (lock_free ⟨b, 0 + 1, none⟩ _ (by go_simp) (by go_simp)).mono ?_; rintro e w' ⟨rfl, rfl⟩)
  go_wp2_with (first | (go_at_call 17; refine hf.mono ?_; rintro e w' ⟨rfl, hw2⟩) | (go_at_call 36; go_in))
  obtain ⟨c0, c1, z0, z1⟩ := hF _ hw2
  refine leaves_cons (f := 47) (args := #[.pointer (some ⟨b, 0, none⟩), .bool true]) (by simp) (by simp [go_sem]) ?_
  refine (store_deferred ⟨b, 0, none⟩ (.int .u32 0) .returning _ c0 z0).mono ?_
  rintro e u' w'' ⟨rfl, rfl, rfl⟩
  refine leaves_cons (f := 46) (args := #[.pointer (some ⟨b, 0 + 1, none⟩)]) (by simp [settle]) (by simp [go_sem]) ?_
  refine (unlock_deferred ⟨b, 0 + 1, none⟩ _ _ ?_ ?_).mono ?_
  · refine (World.cell?_setCell_other _ ⟨b, 0, none⟩ ⟨b, 0 + 1, none⟩ _ (by simp)).trans ?_
    rw [World.cell?_drew]
    exact c1
  · simpa using z1
  rintro e u' w'' ⟨rfl, rfl, rfl⟩
  simp [Leaves, settle, results, Try.results37]
  exact ⟨_, hw2, rfl⟩

/-- A table that is filled. -/
def TabF (b : Nat) (u3 : Value) : Heap := [(b, blk (tabL (.int .u32 1) (.int .i32 0) u3 tabP tabB) 54)]
/-- A table, whether it is filled or new. -/
def TabH (b : Nat) (u3 : Value) (H : Heap) : Prop :=
  (∃ P B, P.length = 256 ∧ B.length = 256 ∧ H = [(b, blk (tabL (.int .u32 0) (.int .i32 0) u3 P B) 54)]) ∨ H = TabF b u3
theorem load_once (b : Nat) (d : Int) (w : World) (h0 : w.cell? ⟨b, 0, none⟩ = some (.int .u32 d)) :
    Calls Try.prog 36 #[.pointer (some ⟨b, 0, none⟩)] w fun e w' => e = .returned (.bool (d != 0)) ∧ w' = w := by
  have hl := run_call_load (P := Try.prog) Try.func44 (by kernel_rfl) (by kernel_rfl) (by kernel_rfl) .u32 (by kernel_rfl) h0
  go_enter Try.func36, Try.ntmps36
  go_wp2
  go_ret
  exact ⟨rfl, rfl⟩
theorem load_fn (b : Nat) (d : Int) (w : World) (h0 : w.cell? ⟨b, 0, none⟩ = some (.int .u32 d)) :
    Does Try.prog 36 [.pointer (some ⟨b, 0, none⟩)] w [] (fun v H => H = [] ∧ v = .bool (d != 0)) := by
  refine Calls.mono (load_once b d w h0) ?_
  rintro e w' ⟨rfl, rfl⟩
  exact ⟨_, [], rfl, St.refl _, rfl, rfl⟩
theorem slow_fn (b : Nat) (u3 : Value) (P B : List Opr) (hP : P.length = 256) (hB : B.length = 256) (w : World) (hb : w.heap[b]? = some (blk (tabL (.int .u32 0) (.int .i32 0) u3 P B) 54)) :
    Does Try.prog 37 [.pointer (some ⟨b, 0, none⟩), .func (.func 17) #[.pointer (some ⟨b, 0, none⟩)] #[]] w [b] (fun v H => v = .tuple #[] ∧ H = TabF b u3) := by
  have hst := St.lent1 hb
  have h1 : St w [b] [(b, blk (tabL (.int .u32 0) (.int .i32 1) u3 P B) 54)] (w.setCell ⟨b, 0 + 1, none⟩ (.int .i32 1)) := hst.setCell (off := 0 + 1) (.int .i32 1)
  have hb1 := h1.holds _ (.head _)
  refine Calls.mono (slow_once b w (fun w2 => St (w.setCell ⟨b, 0 + 1, none⟩ (.int .i32 1)) [b] [(b, blk (tabL (.int .u32 0) (.int .i32 1) u3 tabP tabB) 54)] w2)
    (by rw [cell_blk hb]; rfl) (by rw [cell_blk hb]; rfl) (frozen_blk hb) (Calls.mono (fill_fn b _ _ _ P B hP hB _ hb1) ?_) ?_) ?_
  · rintro e w' ⟨v, H, rfl, h2, rfl, rfl⟩
    exact ⟨rfl, h2⟩
  · intro w2 h2
    have hb2 := h2.holds _ (.head _)
    exact ⟨by rw [cell_blk hb2]; rfl, by rw [cell_blk hb2]; rfl, frozen_blk hb2, frozen_blk hb2⟩
  · rintro e w' ⟨rfl, w2, h2, rfl⟩
    have hA := h1.after h2
    have hC := (hA.drew.setCell (off := 0) (.int .u32 1)).setCell (off := 0 + 1) (.int .i32 0)
    exact ⟨_, _, rfl, hC, rfl, rfl⟩

end Go.Proofs.Ytmihilhmdcndfaa
