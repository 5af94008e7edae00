/- The laws: prints. -/
import Derived.Test.YtiadmbhafplepaaDoorYC
import Derived.Test.YtiadmbhafplepaaDoorYF
import Derived.Test.YtiadmbhafplepaaDoorYI
import Derived.Test.YtiadmbhafplepaaDoorYL
namespace Go.Proofs.YtiadmbhafplepaaDoor
open Go Go.VV Go.Proofs Go.RowKit
set_option linter.unusedSimpArgs false
set_option linter.unusedVariables false
set_option maxRecDepth 100000
theorem prints_fn (l : List Cd) (a : Option Addr) (cp : Nat) (hn : ∀ c ∈ l, -9223372036854775808 ≤ c.n ∧ c.n ≤ 9223372036854775807) (w : World) (hE : Els w cCd a l) (hGl : GlE w) (hP : GlP w) : Does Tryd.prog 3 [.slice a l.length cp] w [] (fun v H => H = H ∧ v = .bool true) := by
 refine does_of Tryd.func3 rfl rfl rfl (St.refl w) ?_
 refine c_seq ?_
 refine c_region ?_
 refine RL ?_
 refine l_nil ?_
 refine c_seq ?_
 refine c_seq ?_
 refine c_region ?_
 refine RLv call_9 (fun w hw => awake_fn w (later_cell hGl hw) (gp_later hP (by simp) hw)) ?_
 iterate 3 refine RL ?_
 refine l_l l_n rfl rfl ?_
 refine RL ?_
 refine RL ?_
 refine l_nil ?_
 refine c_cond rfl (fun h1 => ?_) (fun h1 => ?_)
 ·have h1n := r_f h1
  refine c_seq ?_
  refine c_region ?_
  refine RLv call_9 (fun w hw => awake_fn w (later_cell hGl hw) (gp_later hP (by simp) hw)) ?_
  refine RL ?_
  refine l_nil ?_
  refine c_ret ?_
  exact l_end (fun _ _ => rets_v rfl) (List.nil_sublist _) ⟨by trivial, rfl⟩
 ·have h1n := r_f h1
  refine c_skip ?_
  refine c_seq ?_
  refine c_region ?_
  refine RL ?_
  refine l_x (x_call call_11 rfl (fun w hw => codes_fn l a cp o_m w (hE.later0 hw))) rfl rfl ?_
  rintro v17 _ ⟨G17, hV17, rfl⟩
  obtain ⟨a17, c17, rfl⟩ := hV17.slice
  refine l_x (x_call call_10 rfl (fun w hw => print_fn l a17 c17 o_m (fun c hc _ => itoa_all c.n (hn c hc).1 (hn c hc).2) w (vec_els hV17 (fun x hx => by repeat (first | exact hx | exact List.mem_append_left _ hx | refine List.mem_append_right _ ?_ | refine .tail _ ?_)) hw) (gp_later hP (by simp) hw))) rfl rfl ?_
  rintro _ _ ⟨G18, rfl, rfl⟩
  refine l_heap (fun w h => h.sub (List.sublist_append_right _ _)) ?_
  iterate 5 refine RL ?_
  refine l_nil ?_
  refine c_seq ?_
  refine c_region ?_
  refine RL ?_
  refine l_x (x_call call_12 rfl (fun w hw => rprint_fn l a cp o_m w (hE.later0 hw))) rfl rfl ?_
  rintro _ _ ⟨G23, ⟨_, rfl⟩, rfl⟩
  refine l_heap (fun w h => h.sub (List.sublist_append_right _ _)) ?_
  iterate 5 refine RL ?_
  refine l_nil ?_
  refine c_seq ?_
  refine c_region ?_
  refine RL ?_
  refine RL ?_
  refine l_sure true (light_eqstr rfl rfl) rfl rfl (by simp) ?_
  iterate 3 refine RL ?_
  refine l_sure true rfl rfl rfl (by simp) ?_
  refine RL ?_
  refine RL ?_
  refine l_nil ?_
  refine c_ret ?_
  exact l_end (fun _ _ => rets_v rfl) (List.nil_sublist _) ⟨by trivial, rfl⟩

end Go.Proofs.YtiadmbhafplepaaDoor
