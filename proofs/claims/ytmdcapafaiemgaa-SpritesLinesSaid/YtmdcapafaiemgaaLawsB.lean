/- The contracts of the laws of lines: each returns true. -/
import Derived.Test.YtmdcapafaiemgaaLineR
import Derived.Test.YtmdcapafaiemgaaLaws
import Derived.Test.YtmdcapafaiemgaaVvL
import Derived.Test.YtmdcapafaiemgaaCalls
namespace Go.Proofs.Ytmdcapafaiemgaa
open Go Go.VV Go.Proofs
set_option maxRecDepth 100000 in
theorem spritesLines_fn (w : World) (a : Option Addr) (cap : Nat) (b : List Int) (hb : Byts b) (hB : Ns w .u8 a b) (a2 : Option Addr) (cap2 : Nat) (oam : List Int) (ho : Byts oam) (hcap : oam.length ≤ cap2) (hO : Ns w .u8 a2 oam) (c cb cf cs : Int) (hc : 0 ≤ c ∧ c < 256) (hcb : 0 ≤ cb ∧ cb < 256) (hcf : 0 ≤ cf ∧ cf < 256) (hcs : 0 ≤ cs ∧ cs < 256) (line : Int) (hli : 0 ≤ line ∧ line < 256) (a4 : Option Addr) (cap4 : Nat) (ub : List Int) (hub : Byts ub) (hU : Ns w .u8 a4 ub) :
    Does Try.prog 6 [.slice a b.length cap, .slice a2 oam.length cap2, .agg #[.int .u8 c, .int .u8 cb, .int .u8 cf, .int .u8 cs], .int .u8 line, .slice a4 ub.length cap4] w [] (fun v H => H = [] ∧ v = .bool true) := by
  refine does_of Try.func6 rfl rfl rfl (St.refl w) ?_
  refine c_seq ?_
  refine c_region ?_
  refine l_x (x_box rfl rfl) rfl rfl ?_
  rintro _ _ ⟨b7, rfl, rfl⟩
  refine l_l rfl rfl rfl ?_
  refine l_nil ?_
  refine c_seq ?_
  refine c_seq ?_
  refine c_region ?_
  refine l_x (x_val call_9 rfl (fun w hw => awake_fn w)) rfl rfl ?_
  rintro _ _ ⟨rfl, rfl⟩
  refine l_l rfl rfl rfl ?_
  refine l_l rfl rfl rfl ?_
  refine l_l rfl rfl rfl ?_
  refine l_l (by first | exact light_len rfl rfl | exact light_lens rfl rfl | rfl) rfl rfl ?_
  refine l_l rfl rfl rfl ?_
  refine l_l rfl rfl rfl ?_
  refine l_b rfl rfl rfl (fun h1 => ?_) (fun h1 => ?_)
  · refine l_p rfl rfl ?_
    refine l_p rfl rfl ?_
    refine l_p rfl rfl ?_
    refine l_l rfl rfl rfl ?_
    refine l_l rfl rfl rfl ?_
    refine l_p rfl rfl ?_
    refine l_p rfl rfl ?_
    refine l_p rfl rfl ?_
    refine l_l rfl rfl rfl ?_
    refine l_nil ?_
    refine c_true rfl ?_
    refine c_seq ?_
    refine c_region ?_
    refine l_x (x_val call_9 rfl (fun w hw => awake_fn w)) rfl rfl ?_
    rintro _ _ ⟨rfl, rfl⟩
    refine l_l rfl rfl rfl ?_
    refine l_nil ?_
    refine c_ret ?_
    exact l_end0 (fun _ _ => rets_v rfl) ⟨rfl, rfl⟩
  · refine l_l rfl rfl rfl ?_
    refine l_l (by first | exact light_len rfl rfl | exact light_lens rfl rfl | rfl) rfl rfl ?_
    refine l_l rfl rfl rfl ?_
    refine l_l rfl rfl rfl ?_
    refine l_b rfl rfl rfl (fun h2 => ?_) (fun h2 => ?_)
    · refine l_p rfl rfl ?_
      refine l_p rfl rfl ?_
      refine l_p rfl rfl ?_
      refine l_l rfl rfl rfl ?_
      refine l_nil ?_
      refine c_true rfl ?_
      refine c_seq ?_
      refine c_region ?_
      refine l_x (x_val call_9 rfl (fun w hw => awake_fn w)) rfl rfl ?_
      rintro _ _ ⟨rfl, rfl⟩
      refine l_l rfl rfl rfl ?_
      refine l_nil ?_
      refine c_ret ?_
      exact l_end0 (fun _ _ => rets_v rfl) ⟨rfl, rfl⟩
    · refine l_l rfl rfl rfl ?_
      refine l_l (by first | exact light_len rfl rfl | exact light_lens rfl rfl | rfl) rfl rfl ?_
      refine l_l rfl rfl rfl ?_
      refine l_l rfl rfl rfl ?_
      refine l_nil ?_
      refine c_cond rfl (fun h3 => ?_) (fun h3 => ?_)
      · refine c_seq ?_
        refine c_region ?_
        refine l_x (x_val call_9 rfl (fun w hw => awake_fn w)) rfl rfl ?_
        rintro _ _ ⟨rfl, rfl⟩
        refine l_l rfl rfl rfl ?_
        refine l_nil ?_
        refine c_ret ?_
        exact l_end0 (fun _ _ => rets_v rfl) ⟨rfl, rfl⟩
      · refine c_skip ?_
        refine c_seq ?_
        refine c_region ?_
        refine l_l rfl rfl rfl ?_
        refine l_x (x_call call_10 rfl (fun w hw => filled_fn _ _ b (by simp at *; omega) w (hB.later0 hw))) rfl rfl ?_
        rintro _ _ ⟨G32, ⟨a32, c32, rfl, hc32, hL32⟩, rfl⟩
        refine l_l rfl rfl rfl ?_
        refine l_nil ?_
        refine c_seq ?_
        refine c_region ?_
        refine l_l rfl rfl rfl ?_
        refine l_x (x_val call_16 rfl (fun w hw => under_fn _ _ ub (by simp at *; omega) w (hU.later0 hw))) rfl rfl ?_
        rintro _ _ ⟨rfl, rfl⟩
        refine l_x (x_alloc (l := List.replicate 160 (.int .u8 0)) (by kernel_rfl)) rfl rfl ?_
        rintro _ _ ⟨b12, rfl, rfl⟩
        refine l_x (x_store (vs := ((undL ub).map (.int .u8))) (l := List.replicate 160 (.int .u8 0)) 0 rfl rfl rfl (by rw [List.length_map, undL_len]; rfl) (ones_int _ _) rfl (by simp [undL_len])) rfl rfl ?_
        rintro _ _ ⟨rfl, rfl⟩
        rw [List.set_cons_zero, putL_all (by simp [undL_len])]
        refine l_nil ?_
        refine c_seq ?_
        refine c_draw _ [1, 2, 3, 4, 5, 6, 7, 8, 9, 10, 11, 12] [(true, 0), (true, 1), (true, 2), (true, 3), (true, 4), (true, 5), (true, 7), (true, 8), (true, 9), (true, 10), (true, 11), (true, 12), (false, 6), (false, 13), (true, 14), (true, 15)] rfl (by kernel_rfl) rfl (by kernel_rfl) (fun _ h => h) ?_
        refine d_loadA rfl rfl rfl rfl (srow_own (by repeat (first | exact .head _ | refine .tail _ ?_ | refine List.mem_append_right _ ?_))) rfl rfl ?_
        refine d_light rfl rfl rfl rfl rfl ?_
        refine d_light rfl rfl rfl rfl rfl ?_
        refine d_light rfl rfl rfl rfl rfl ?_
        refine d_as (v := (.int .i64 line)) rfl rfl rfl rfl rfl (congrArg _ (wrap_i64 (by omega) (by omega))) ?_
        refine d_loadA rfl rfl rfl (by rw [List.length_map, undL_len]; rfl) (srow_own (.head _)) rfl rfl ?_
        refine d_loadA rfl rfl rfl rfl (srow_own (by repeat (first | exact .head _ | refine .tail _ ?_ | refine List.mem_append_right _ ?_))) rfl rfl ?_
        refine d_light rfl rfl rfl rfl rfl ?_
        refine d_light rfl rfl rfl rfl rfl ?_
        refine d_light rfl rfl rfl rfl rfl ?_
        refine d_as (v := (.int .i64 line)) rfl rfl rfl rfl rfl (congrArg _ (wrap_i64 (by omega) (by omega))) ?_
        refine d_loadA rfl rfl rfl (by rw [List.length_map, undL_len]; rfl) (srow_own (.head _)) rfl rfl ?_
        refine d_x rfl (x_val call_17 rfl (fun w hw => line_fn c cb cf cs hc hcb hcf hcs _ _ _ _ (filled b) oam (filled_byts hb) ho hcap line (undL ub) (undL_len ub) (undL_byts hub) w (hL32.ns hw (by intro x hx; simp [hx])) (hO.later0 hw))) rfl rfl (by intro _ _ _ hK x hx; obtain ⟨rfl, rfl⟩ := hK; repeat (first | exact hx | refine List.mem_append_right _ ?_ | refine .tail _ ?_)) ?_
        rintro _ _ ⟨rfl, rfl⟩
        refine d_x rfl (x_val call_18 rfl (fun w hw => rline_fn c cb cf cs hc hcb hcf hcs _ _ _ _ (filled b) oam (filled_byts hb) ho hcap line (undL ub) (undL_len ub) (undL_byts hub) w (hL32.ns hw (by intro x hx; simp [hx])) (hO.later0 hw))) rfl rfl (by intro h; cases h) ?_
        rintro _ _ ⟨rfl, rfl⟩
        have hll : lineL (filled b) oam c cb cf cs line (undL ub) = ((List.range 160).map (lineS (filled b) oam c cb cf cs line (undL ub))).map (.int .u8) := by simp [lineL]
        refine d_yield (v := .bool true) rfl rfl rfl (fun w _ => ?_) ?_
        · refine Eq.trans (run_eqa w (xs := ((List.range 160).map (lineS (filled b) oam c cb cf cs line (undL ub)))) (ys := ((List.range 160).map (lineS (filled b) oam c cb cf cs line (undL ub)))) (kd := .u8) (congrArg (fun l => Value.agg (List.toArray l)) hll) (congrArg (fun l => Value.agg (List.toArray l)) hll) (n := 160) (el := 5) rfl rfl (by kernel_rfl) (by simp) (by simp)) (by simp)
        refine d_light rfl rfl rfl rfl rfl ?_
        refine d_nil ?_
        refine c_ret ?_
        exact l_end0 (fun _ _ => rets_v rfl) ⟨rfl, rfl⟩

end Go.Proofs.Ytmdcapafaiemgaa
