/- A machine is asked. -/
import Derived.Test.YtldehodcfajpjaaGreatQcZA
import Derived.Test.YtldehodcfajpjaaGreatQcZB
set_option linter.unusedSimpArgs false
set_option linter.unusedVariables false
set_option maxRecDepth 100000
set_option maxHeartbeats 4000000
namespace Go.VV
open Go Go.ChangeShapes Go.WideShapes Go.ChangeAt Go.RowKit
section
variable {H : Type} {enc : TypeId × Value → H} {P : Program} {W : World}
theorem wf_u16 {x : Int} (h : (Lit.int .u16 x).wf = true) : 0 ≤ x ∧ x < 65536 := by
 simp only [Lit.wf, Bool.and_eq_true, decide_eq_true_eq] at h
 have h1 : IntKind.u16.min = 0 := by decide
 have h2 : IntKind.u16.max = 65535 := by decide
 omega
end
end Go.VV
namespace Go.Proofs.YtldehodcfajpjaaGreat
open Go Go.VV Go.Proofs
theorem call_27 : callable Tryz.prog 27 = true := by kernel_rfl
end Go.Proofs.YtldehodcfajpjaaGreat
namespace Go.Proofs.YtldehodcfajpjaaGreat
open Go Go.VV Go.Proofs Go.RowKit
theorem bankM_fn (A : Ad) (acc : Value) (m : Mm) (h : m.Wf) (w : World) (hm : Row w A.mb 0 (cMm A acc m)) (a : Int) (ha : 0 ≤ a ∧ a < 65536) : Does Tryz.prog 27 [.pointer (some ⟨A.mb, 0, none⟩), .int .u16 a] w [] (fun v H => H = [] ∧ v = .int .i64 (if 32768 ≤ a then 0 else bankB a m.bk)) := by
 refine does_of Tryz.func27 rfl rfl rfl (St.refl w) ?_
 refine ZDo ?_
 refine ZAd ?_
 refine ZCE ?_
 refine KC (fun q0 q0n => ?_) (fun q0 q0n => ?_)
 ·refine ZAY ?_
  exact E0 rfl ⟨rfl, (congrArg (Value.int .i64) y_db)⟩
 ·refine ZAx ?_
  refine ZBl ?_
  refine ZDF ?_
  refine Rl ?_
  refine RLv call_77 (fun w hw => bankB_fn m.bk h.bk h.banks a ha w) ?_
  refine ZAI ?_
  exact E0 rfl ⟨rfl, (congrArg (Value.int .i64) y_dc)⟩
theorem bankL {w0 w : World} {ms : List Nat} {H : Heap} {q : MA} {m : Mm} (h : m.Wf) (hw : St w0 ms H w) (hs : ∀ x ∈ hM q m, x ∈ H) (a : Int) (ha : 0 ≤ a ∧ a < 65536) : Does Tryz.prog 27 [pM q, .int .u16 a] w [] (fun v H => H = [] ∧ v = .int .i64 (if 32768 ≤ a then 0 else bankB a m.bk)) :=
 bankM_fn q.A q.va m h w (hM_rows hw hs).1 a ha
end Go.Proofs.YtldehodcfajpjaaGreat
