/- Parts. -/
import Derived.Test.YtacejanlmhbddaaGreatQfM
set_option maxRecDepth 100000
set_option maxHeartbeats 1000000
set_option linter.all false
namespace Go.VV
open Go Go.RowKit
section
variable {Γ : Ctx} {e : Env} {H : aC} {d : AD} {ty : AJ} {pos : String} {af : AG} {g : Option (Nat × Bool)} {f : Nat} {fn : Func} {l : AF} {ts : Array AJ} {b off : Nat} {cs : AA} {T : AJ}
def aQy (k : AM) {x : Int} (hf : Γ.P.funcs[f]? = some fn) (hname : (fn.name == "runtime.NumGoroutine") = false) (hb : fn.body.isNone = true) (hn : Extern.findNext fn = none)
  (he : Extern.find fn = some (Extern.Atomic.loadT (.int k))) (hv : evs e l = some [.pointer (some ⟨b, off, none⟩)]) (hc : ∀ w, St Γ.w0 Γ.ms H w → w.cell? ⟨b, off, none⟩ = some (.int k x)) :
  Op1 Γ ⟨d, .call ⟨.value (.func f), l.toArray, ts⟩, ty, pos, af, g⟩ e H (fun u H' => u = .int k x ∧ H' = H) := fun w hw =>
 cH (World.ext_run hv (run_call_load hf hname hb hn k he (hc w hw))) ⟨H, hw, rfl, rfl⟩
end
end Go.VV
namespace Go.Proofs.YtacejanlmhbddaaGreat
open Go Go.VV Go.Proofs Go.RowKit Go.Proofs.Tryz
def aOH (b o : Nat) (x : Int) (w : AI) (hc : w.cell? ⟨b, o, none⟩ = some (.int .u64 x)) : aB prog 50 [.pointer (some ⟨b, o, none⟩)] w [] (V_ (.int .u64 x)) := by
 refine dR_ func50 ?_
 refine A_9 ?_
 exact RZ (aQy (b := b) (off := o) .u64 (x := x) func94 y_f y_f y_f y_f rfl (aV hc y_r)) rfl ZAR
def aDt (b : Nat) (x : Int) (w : AI) (h10 : w.cell? ⟨b, 10, none⟩ = some (.int .u64 x)) : aB prog 16 [P_ b] w [] (V_ (.int .u64 x)) := by
 refine dR_ func16 ?_
 refine ZCZ ?_
 refine ZEf ?_
 refine RLv K_ (fun w hw => aOH b 10 x w (aV h10 y_r w hw)) ?_
 exact ZAR
end Go.Proofs.YtacejanlmhbddaaGreat
