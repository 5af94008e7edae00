/- The contracts of a line of tiles, as the program draws it. -/
import Derived.Test.YtjceoaomkbabmaaLeaf
import Derived.Test.YtjceoaomkbabmaaTiles
import Derived.Test.YtjceoaomkbabmaaVvI
import Derived.Test.YtjceoaomkbabmaaCalls
namespace Go.Proofs.Ytjceoaomkbabmaa
open Go Go.VV Go.Proofs
set_option linter.unusedSimpArgs false
set_option linter.unusedVariables false
set_option maxRecDepth 100000
theorem num_fn (v : Vw) (hv : v.Ok) (b : Int) (hb : 0 ≤ b ∧ b < 256) (w : World) :
    Does Try.prog 85 [.agg (cV v).toArray, .int .u8 b] w [] (fun v' H => H = [] ∧ v' = .int .i64 (tNum v.c b)) := by
  refine does_of Try.func85 rfl rfl rfl (St.refl w) ?_
  refine c_seq ?_
  refine c_region ?_
  refine l_x (x_box rfl rfl) rfl rfl ?_
  rintro _ _ ⟨b2, rfl, rfl⟩
  refine l_l rfl rfl rfl ?_
  refine l_nil ?_
  refine c_seq ?_
  refine c_seq ?_
  refine c_region ?_
  refine l_l (light_fa rfl rfl) rfl rfl ?_
  refine l_x (x_load rfl rfl (at_own (by repeat (first | exact .head _ | refine .tail _ ?_ | refine List.mem_append_right _ ?_)) (by rfl))) rfl rfl ?_
  rintro _ _ ⟨rfl, rfl⟩
  refine l_l rfl rfl rfl ?_
  refine l_l rfl rfl rfl ?_
  refine l_nil ?_
  refine c_cond rfl (fun h1 => ?_) (fun h1 => ?_)
  · refine c_seq ?_
    refine c_region ?_
    refine l_l rfl rfl rfl ?_
    refine l_l rfl rfl rfl ?_
    refine l_l rfl rfl rfl ?_
    refine l_nil ?_
    refine c_ret ?_
    exact l_end0 (fun _ _ => rets_v rfl) ⟨rfl, congrArg _ (num_yes hv.c hb h1)⟩
  · refine c_skip ?_
    refine c_seq ?_
    refine c_region ?_
    refine l_l rfl rfl rfl ?_
    refine l_l rfl rfl rfl ?_
    refine l_l rfl rfl rfl ?_
    refine l_l rfl rfl rfl ?_
    refine l_l rfl rfl rfl ?_
    refine l_nil ?_
    refine c_ret ?_
    exact l_end0 (fun _ _ => rets_v rfl) ⟨rfl, congrArg _ (num_no hv.c hb h1)⟩

theorem spot_fn (a : Option Addr) (cap : Nat) (l : List Int) (hl : Byts l)(v : Vw) (hv : v.Ok) (n bit px py : Int) (hbit : (band .u8 v.c bit != 0) = decide (rBit v.c n = 1)) (hpx : 0 ≤ px ∧ px < 256) (hpy : 0 ≤ py ∧ py < 256) (w : World) (hB : Ns w .u8 a l) :
    Does Try.prog 72 [.agg (cV v).toArray, .slice a l.length cap, .int .u8 bit, .int .u8 px, .int .u8 py] w [] (fun v' H => H = [] ∧ v' = .int .u8 (tSpot l v.c n px py)) := by
  obtain ⟨hvc, hvx, hvy, hwx, hwy⟩ := id hv
  refine does_of Try.func72 rfl rfl rfl (St.refl w) ?_
  refine c_seq ?_
  refine c_region ?_
  refine l_x (x_box rfl rfl) rfl rfl ?_
  rintro _ _ ⟨b5, rfl, rfl⟩
  refine l_l rfl rfl rfl ?_
  refine l_nil ?_
  refine c_seq ?_
  refine c_region ?_
  refine l_l rfl rfl rfl ?_
  refine l_nil ?_
  refine c_seq ?_
  refine c_seq ?_
  refine c_region ?_
  refine l_l (light_fa rfl rfl) rfl rfl ?_
  refine l_x (x_load rfl rfl (at_own (by repeat (first | exact .head _ | refine .tail _ ?_ | refine List.mem_append_right _ ?_)) (by rfl))) rfl rfl ?_
  rintro _ _ ⟨rfl, rfl⟩
  refine l_l rfl rfl rfl ?_
  refine l_l rfl rfl rfl ?_
  refine l_l rfl rfl rfl ?_
  refine l_nil ?_
  refine c_cond rfl (fun h1 => ?_) (fun h1 => ?_)
  · refine c_region ?_
    refine l_l rfl rfl rfl ?_
    refine l_nil ?_
    refine c_seq ?_
    refine c_region ?_
    refine l_l rfl rfl rfl ?_
    refine l_l rfl rfl rfl ?_
    refine l_l rfl rfl rfl ?_
    refine l_as (v := (.int .u8 (py / 8))) rfl rfl rfl (congrArg _ (u8_eighth hpy)) ?_
    refine l_as (v := (.int .i64 (py / 8))) rfl rfl rfl (congrArg _ (wrap_i64 (by omega) (by omega))) ?_
    refine l_as (v := (.int .i64 (32 * (py / 8)))) rfl rfl rfl (congrArg _ (wrap_i64 (by omega) (by omega))) ?_
    refine l_as (v := (.int .i64 (7168 + 32 * (py / 8)))) rfl rfl rfl (congrArg _ (wrap_i64 (by omega) (by omega))) ?_
    refine l_l rfl rfl rfl ?_
    refine l_as (v := (.int .u8 (px / 8))) rfl rfl rfl (congrArg _ (u8_eighth hpx)) ?_
    refine l_as (v := (.int .i64 (px / 8))) rfl rfl rfl (congrArg _ (wrap_i64 (by omega) (by omega))) ?_
    refine l_as (v := (.int .i64 (7168 + 32 * (py / 8) + px / 8))) rfl rfl rfl (congrArg _ (wrap_i64 (by omega) (by omega))) ?_
    refine l_x (x_val call_83 rfl (fun w hw => at_fn _ _ l _ (by omega) w (hB.later0 hw))) rfl rfl ?_
    rintro _ _ ⟨rfl, rfl⟩
    refine l_l rfl rfl rfl ?_
    refine l_nil ?_
    refine c_seq ?_
    refine c_region ?_
    refine l_l rfl rfl rfl ?_
    refine l_x (x_loadA rfl rfl rfl (by first | exact row_own (by repeat (first | exact .head _ | refine .tail _ ?_ | refine List.mem_append_right _ ?_)) | exact row_own_at (by repeat (first | exact .head _ | refine .tail _ ?_ | refine List.mem_append_right _ ?_)) _ 5 rfl)) rfl rfl ?_
    rintro _ _ ⟨rfl, rfl⟩
    refine l_l rfl rfl rfl ?_
    refine l_x (x_val call_85 rfl (fun w hw => num_fn v hv _ (vAt_byte hl _) w)) rfl rfl ?_
    rintro _ _ ⟨rfl, rfl⟩
    refine l_l rfl rfl rfl ?_
    refine l_as (v := (.int .i64 (px))) rfl rfl rfl (congrArg _ (wrap_i64 (by omega) (by omega))) ?_
    refine l_l rfl rfl rfl ?_
    refine l_as (v := (.int .i64 (py))) rfl rfl rfl (congrArg _ (wrap_i64 (by omega) (by omega))) ?_
    refine l_x (x_val call_84 rfl (fun w hw => dot_fn _ _ l hl _ _ _ w (hB.later0 hw))) rfl rfl ?_
    rintro _ _ ⟨rfl, rfl⟩
    refine l_l rfl rfl rfl ?_
    refine l_nil ?_
    refine c_ret ?_
    exact l_end0 (fun _ _ => rets_v rfl) ⟨rfl, congrArg _ (tSpot_yes (by have h9 := hbit.symm.trans h1; simpa using h9)).symm⟩
  · refine c_skip ?_
    refine c_seq ?_
    refine c_region ?_
    refine l_l rfl rfl rfl ?_
    refine l_l rfl rfl rfl ?_
    refine l_l rfl rfl rfl ?_
    refine l_as (v := (.int .u8 (py / 8))) rfl rfl rfl (congrArg _ (u8_eighth hpy)) ?_
    refine l_as (v := (.int .i64 (py / 8))) rfl rfl rfl (congrArg _ (wrap_i64 (by omega) (by omega))) ?_
    refine l_as (v := (.int .i64 (32 * (py / 8)))) rfl rfl rfl (congrArg _ (wrap_i64 (by omega) (by omega))) ?_
    refine l_as (v := (.int .i64 (6144 + 32 * (py / 8)))) rfl rfl rfl (congrArg _ (wrap_i64 (by omega) (by omega))) ?_
    refine l_l rfl rfl rfl ?_
    refine l_as (v := (.int .u8 (px / 8))) rfl rfl rfl (congrArg _ (u8_eighth hpx)) ?_
    refine l_as (v := (.int .i64 (px / 8))) rfl rfl rfl (congrArg _ (wrap_i64 (by omega) (by omega))) ?_
    refine l_as (v := (.int .i64 (6144 + 32 * (py / 8) + px / 8))) rfl rfl rfl (congrArg _ (wrap_i64 (by omega) (by omega))) ?_
    refine l_x (x_val call_83 rfl (fun w hw => at_fn _ _ l _ (by omega) w (hB.later0 hw))) rfl rfl ?_
    rintro _ _ ⟨rfl, rfl⟩
    refine l_l rfl rfl rfl ?_
    refine l_nil ?_
    refine c_seq ?_
    refine c_region ?_
    refine l_l rfl rfl rfl ?_
    refine l_x (x_loadA rfl rfl rfl (by first | exact row_own (by repeat (first | exact .head _ | refine .tail _ ?_ | refine List.mem_append_right _ ?_)) | exact row_own_at (by repeat (first | exact .head _ | refine .tail _ ?_ | refine List.mem_append_right _ ?_)) _ 5 rfl)) rfl rfl ?_
    rintro _ _ ⟨rfl, rfl⟩
    refine l_l rfl rfl rfl ?_
    refine l_x (x_val call_85 rfl (fun w hw => num_fn v hv _ (vAt_byte hl _) w)) rfl rfl ?_
    rintro _ _ ⟨rfl, rfl⟩
    refine l_l rfl rfl rfl ?_
    refine l_as (v := (.int .i64 (px))) rfl rfl rfl (congrArg _ (wrap_i64 (by omega) (by omega))) ?_
    refine l_l rfl rfl rfl ?_
    refine l_as (v := (.int .i64 (py))) rfl rfl rfl (congrArg _ (wrap_i64 (by omega) (by omega))) ?_
    refine l_x (x_val call_84 rfl (fun w hw => dot_fn _ _ l hl _ _ _ w (hB.later0 hw))) rfl rfl ?_
    rintro _ _ ⟨rfl, rfl⟩
    refine l_l rfl rfl rfl ?_
    refine l_nil ?_
    refine c_ret ?_
    exact l_end0 (fun _ _ => rets_v rfl) ⟨rfl, congrArg _ (tSpot_no (by have h9 := hbit.symm.trans h1; simpa using h9)).symm⟩

theorem win_fn (a : Option Addr) (cap : Nat) (l : List Int) (hl : Byts l)(v : Vw) (hv : v.Ok)(x y : Int) (w : World) (hB : Ns w .u8 a l) :
    Does Try.prog 56 [.agg (cV v).toArray, .slice a l.length cap, .int .i64 x, .int .i64 y] w [] (fun v' H => H = [] ∧ v' = .int .u8 (tWin l v x y)) := by
  refine does_of Try.func56 rfl rfl rfl (St.refl w) ?_
  refine c_seq ?_
  refine c_region ?_
  refine l_x (x_box rfl rfl) rfl rfl ?_
  rintro _ _ ⟨b4, rfl, rfl⟩
  refine l_l rfl rfl rfl ?_
  refine l_nil ?_
  refine c_seq ?_
  refine c_region ?_
  refine l_x (x_loadA rfl rfl rfl (by first | exact row_own (by repeat (first | exact .head _ | refine .tail _ ?_ | refine List.mem_append_right _ ?_)) | exact row_own_at (by repeat (first | exact .head _ | refine .tail _ ?_ | refine List.mem_append_right _ ?_)) _ 5 rfl)) rfl rfl ?_
  rintro _ _ ⟨rfl, rfl⟩
  refine l_l rfl rfl rfl ?_
  refine l_l rfl rfl rfl ?_
  refine l_as (v := (.int .u8 (x % 256))) rfl rfl rfl (congrArg _ (wrap_u8 _)) ?_
  refine l_l rfl rfl rfl ?_
  refine l_as (v := (.int .u8 (y % 256))) rfl rfl rfl (congrArg _ (wrap_u8 _)) ?_
  refine l_x (x_val call_72 rfl (fun w hw => spot_fn _ _ l hl v hv 6 64 _ _ (bitOf6 hv.c) (mod256 _) (mod256 _) w (hB.later0 hw))) rfl rfl ?_
  rintro _ _ ⟨rfl, rfl⟩
  refine l_l rfl rfl rfl ?_
  refine l_nil ?_
  refine c_ret ?_
  exact l_end0 (fun _ _ => rets_v rfl) ⟨rfl, rfl⟩

theorem back_fn (a : Option Addr) (cap : Nat) (l : List Int) (hl : Byts l)(v : Vw) (hv : v.Ok)(x y : Int) (w : World) (hB : Ns w .u8 a l) :
    Does Try.prog 57 [.agg (cV v).toArray, .slice a l.length cap, .int .i64 x, .int .i64 y] w [] (fun v' H => H = [] ∧ v' = .int .u8 (tBack l v x y)) := by
  refine does_of Try.func57 rfl rfl rfl (St.refl w) ?_
  refine c_seq ?_
  refine c_region ?_
  refine l_x (x_box rfl rfl) rfl rfl ?_
  rintro _ _ ⟨b4, rfl, rfl⟩
  refine l_l rfl rfl rfl ?_
  refine l_nil ?_
  refine c_seq ?_
  refine c_region ?_
  refine l_x (x_loadA rfl rfl rfl (by first | exact row_own (by repeat (first | exact .head _ | refine .tail _ ?_ | refine List.mem_append_right _ ?_)) | exact row_own_at (by repeat (first | exact .head _ | refine .tail _ ?_ | refine List.mem_append_right _ ?_)) _ 5 rfl)) rfl rfl ?_
  rintro _ _ ⟨rfl, rfl⟩
  refine l_l rfl rfl rfl ?_
  refine l_l rfl rfl rfl ?_
  refine l_as (v := (.int .u8 (x % 256))) rfl rfl rfl (congrArg _ (wrap_u8 _)) ?_
  refine l_l (light_fa rfl rfl) rfl rfl ?_
  refine l_x (x_load rfl rfl (at_own (by repeat (first | exact .head _ | refine .tail _ ?_ | refine List.mem_append_right _ ?_)) (by rfl))) rfl rfl ?_
  rintro _ _ ⟨rfl, rfl⟩
  refine l_as (v := (.int .u8 ((x + v.sx) % 256))) rfl rfl rfl (congrArg _ (by rw [wrap_u8]; omega)) ?_
  refine l_l rfl rfl rfl ?_
  refine l_as (v := (.int .u8 (y % 256))) rfl rfl rfl (congrArg _ (wrap_u8 _)) ?_
  refine l_l (light_fa rfl rfl) rfl rfl ?_
  refine l_x (x_load rfl rfl (at_own (by repeat (first | exact .head _ | refine .tail _ ?_ | refine List.mem_append_right _ ?_)) (by rfl))) rfl rfl ?_
  rintro _ _ ⟨rfl, rfl⟩
  refine l_as (v := (.int .u8 ((y + v.sy) % 256))) rfl rfl rfl (congrArg _ (by rw [wrap_u8]; omega)) ?_
  refine l_x (x_val call_72 rfl (fun w hw => spot_fn _ _ l hl v hv 3 8 _ _ (bitOf3 hv.c) (mod256 _) (mod256 _) w (hB.later0 hw))) rfl rfl ?_
  rintro _ _ ⟨rfl, rfl⟩
  refine l_l rfl rfl rfl ?_
  refine l_nil ?_
  refine c_ret ?_
  exact l_end0 (fun _ _ => rets_v rfl) ⟨rfl, rfl⟩

theorem tline_fn (a : Option Addr) (cap : Nat) (l : List Int) (hl : Byts l)(v : Vw) (hv : v.Ok) (line own : Int) (w : World) (hB : Ns w .u8 a l) :
    Does Try.prog 46 [.agg (cV v).toArray, .slice a l.length cap, .int .i64 line, .int .i64 own] w [] (fun v' H => H = [] ∧ v' = .tuple #[.agg ((tLine l v line own).map (.int .u8)).toArray, .bool (tSeen v line)]) := by
  obtain ⟨hvc, hvx, hvy, hwx, hwy⟩ := id hv
  refine does_of Try.func46 rfl rfl rfl (St.refl w) ?_
  refine c_seq ?_
  refine c_region ?_
  refine l_x (x_box rfl rfl) rfl rfl ?_
  rintro _ _ ⟨b4, rfl, rfl⟩
  refine l_x (x_alloc (l := List.replicate 160 (.int .u8 0)) (by kernel_rfl)) rfl rfl ?_
  rintro _ _ ⟨b8, rfl, rfl⟩
  refine l_l rfl rfl rfl ?_
  refine l_nil ?_
  refine c_seq ?_
  refine c_region ?_
  refine l_x (x_alloc (l := List.replicate 160 (.int .u8 0)) (by kernel_rfl)) rfl rfl ?_
  rintro _ _ ⟨b10, rfl, rfl⟩
  refine l_nil ?_
  refine c_seq ?_
  refine c_seq ?_
  refine c_region ?_
  refine l_l (light_fa rfl rfl) rfl rfl ?_
  refine l_x (x_load rfl rfl (at_own (by repeat (first | exact .head _ | refine .tail _ ?_ | refine List.mem_append_right _ ?_)) (by rfl))) rfl rfl ?_
  rintro _ _ ⟨rfl, rfl⟩
  refine l_l rfl rfl rfl ?_
  refine l_l rfl rfl rfl ?_
  refine l_nil ?_
  refine c_cond rfl (fun h1 => ?_) (fun h1 => ?_)
  · refine c_seq ?_
    refine c_region ?_
    refine l_x (x_loadA rfl rfl rfl (row_own (.head _))) rfl rfl ?_
    rintro _ _ ⟨rfl, rfl⟩
    refine l_x (x_store (vs := List.replicate 160 (.int .u8 0)) (l := List.replicate 160 (.int .u8 0)) 1 rfl rfl rfl (by kernel_rfl) (by kernel_rfl) rfl (by simp)) rfl rfl ?_
    rintro _ _ ⟨rfl, rfl⟩
    refine l_l rfl rfl rfl ?_
    refine l_nil ?_
    refine c_ret ?_
    exact l_end0 (fun w hw => rets_cell2 (l := List.replicate 160 (.int .u8 0)) rfl rfl (by kernel_rfl) (row_own (.tail _ (.head _)) w hw) rfl) ⟨rfl, by rw [tLine_off (bit0_off hv.c h1), tSeen_off (bit0_off hv.c h1), List.map_replicate]⟩
  · refine c_skip ?_
    refine c_keep [11, 19, 20, 21, 22, 23, 24, 25, 26, 27, 28, 29, 30, 31, 32, 33, 34] [(11, .bool (tSeen v line))] ?_ (fun y4 => ?_)
    · refine c_region ?_
      refine l_l (light_fa rfl rfl) rfl rfl ?_
      refine l_x (x_load rfl rfl (at_own (by repeat (first | exact .head _ | refine .tail _ ?_ | refine List.mem_append_right _ ?_)) (by rfl))) rfl rfl ?_
      rintro _ _ ⟨rfl, rfl⟩
      refine l_l rfl rfl rfl ?_
      refine l_l rfl rfl rfl ?_
      refine l_b rfl rfl rfl (fun h2 => ?_) (fun h2 => ?_)
      · refine l_l (light_fa rfl rfl) rfl rfl ?_
        refine l_x (x_load rfl rfl (at_own (by repeat (first | exact .head _ | refine .tail _ ?_ | refine List.mem_append_right _ ?_)) (by rfl))) rfl rfl ?_
        rintro _ _ ⟨rfl, rfl⟩
        refine l_as (v := (.int .i64 (v.wy))) rfl rfl rfl (congrArg _ (wrap_i64 (by omega) (by omega))) ?_
        refine l_l rfl rfl rfl ?_
        refine l_l rfl rfl rfl ?_
        refine l_l rfl rfl rfl ?_
        refine l_b rfl rfl rfl (fun h3 => ?_) (fun h3 => ?_)
        · refine l_l (light_fa rfl rfl) rfl rfl ?_
          refine l_x (x_load rfl rfl (at_own (by repeat (first | exact .head _ | refine .tail _ ?_ | refine List.mem_append_right _ ?_)) (by rfl))) rfl rfl ?_
          rintro _ _ ⟨rfl, rfl⟩
          refine l_l rfl rfl rfl ?_
          refine l_l rfl rfl rfl ?_
          refine l_l rfl rfl rfl ?_
          refine l_nil ?_
          exact ⟨.cons (congrArg _ (seen_c hv h1 h2 h3)) .nil, (by repeat (first | exact Agree.refl _ _ | exact Agree.mix rfl | refine Agree.put rfl ?_ | refine Agree.keep rfl ?_)), fun _ h => h⟩
        · refine l_p rfl rfl ?_
          refine l_p rfl rfl ?_
          refine l_p rfl rfl ?_
          refine l_l rfl rfl rfl ?_
          refine l_l rfl rfl rfl ?_
          refine l_nil ?_
          exact ⟨.cons (congrArg _ (seen_b h3)) .nil, (by repeat (first | exact Agree.refl _ _ | exact Agree.mix rfl | refine Agree.put rfl ?_ | refine Agree.keep rfl ?_)), fun _ h => h⟩
      · refine l_p rfl rfl ?_
        refine l_p rfl rfl ?_
        refine l_p rfl rfl ?_
        refine l_p rfl rfl ?_
        refine l_p rfl rfl ?_
        refine l_l rfl rfl rfl ?_
        refine l_l rfl rfl rfl ?_
        refine l_p rfl rfl ?_
        refine l_p rfl rfl ?_
        refine l_p rfl rfl ?_
        refine l_l rfl rfl rfl ?_
        refine l_l rfl rfl rfl ?_
        refine l_nil ?_
        exact ⟨.cons (congrArg _ (seen_a hv h2)) .nil, (by repeat (first | exact Agree.refl _ _ | exact Agree.mix rfl | refine Agree.put rfl ?_ | refine Agree.keep rfl ?_)), fun _ h => h⟩
    · refine c_seq ?_
      refine c_seq ?_
      have h1on := bit0_on hv.c h1
      refine c_region ?_
      refine l_l rfl rfl rfl ?_
      refine l_nil ?_
      refine c_block ?_
      refine c_loop (σ := Nat) [12, 13, 35, 36, 37, 38, 39, 40, 41, 42, 43, 44, 45, 46, 47, 48, 49, 50, 51, 52, 53, 54, 55, 56, 57, 58, 59, 60, 61, 62, 63] (fun k => [(35, .int .i64 k)]) (fun k => [(b10, blk (upTo .u8 (tPix l v line own) 160 k) 43), (b8, blk (List.replicate 160 (.int .u8 0)) 43), (b4, blk (cV v) 72)]) (fun k => k ≤ 160) (fun k => 160 - k) 0 ?_ ?_ ?_ ?_
      · show 0 ≤ 160; omega
      · exact .cons rfl .nil
      · exact fun w h => by rw [← upTo_zero]; exact h
      · intro k y hk
        refine c_seq ?_
        refine c_region ?_
        refine l_l rfl rfl rfl ?_
        refine l_nil ?_
        refine c_seq ?_
        refine c_cond rfl (fun h4 => ?_) (fun h4 => ?_)
        · refine c_skip ?_
          refine c_seq ?_
          refine c_block ?_
          refine c_seq ?_
          refine c_region ?_
          refine l_l rfl rfl rfl ?_
          refine l_l rfl rfl rfl ?_
          refine l_nil ?_
          refine c_seq ?_
          refine c_region ?_
          refine l_l rfl rfl rfl ?_
          refine l_as (v := (.int .i64 ((k : Int) + 7))) rfl rfl rfl (congrArg _ (wrap_i64 (by omega) (by omega))) ?_
          refine l_l (light_fa rfl rfl) rfl rfl ?_
          refine l_x (x_load rfl rfl (at_own (by repeat (first | exact .head _ | refine .tail _ ?_ | refine List.mem_append_right _ ?_)) (by rfl))) rfl rfl ?_
          rintro _ _ ⟨rfl, rfl⟩
          refine l_as (v := (.int .i64 (v.wx))) rfl rfl rfl (congrArg _ (wrap_i64 (by omega) (by omega))) ?_
          refine l_as (v := (.int .i64 ((k : Int) + 7 - v.wx))) rfl rfl rfl (congrArg _ (wrap_i64 (by omega) (by omega))) ?_
          refine l_l rfl rfl rfl ?_
          refine l_nil ?_
          refine c_seq ?_
          refine c_seq ?_
          refine c_region ?_
          refine l_l rfl rfl rfl ?_
          refine l_b rfl rfl rfl (fun h5 => ?_) (fun h5 => ?_)
          · refine l_l rfl rfl rfl ?_
            refine l_l rfl rfl rfl ?_
            refine l_l rfl rfl rfl ?_
            refine l_nil ?_
            refine c_cond rfl (fun h6 => ?_) (fun h6 => ?_)
            · refine c_seq ?_
              refine c_region ?_
              refine l_l rfl rfl rfl ?_
              refine l_x (x_loadA rfl rfl rfl (by first | exact row_own (by repeat (first | exact .head _ | refine .tail _ ?_ | refine List.mem_append_right _ ?_)) | exact row_own_at (by repeat (first | exact .head _ | refine .tail _ ?_ | refine List.mem_append_right _ ?_)) _ 5 rfl)) rfl rfl ?_
              rintro _ _ ⟨rfl, rfl⟩
              refine l_l rfl rfl rfl ?_
              refine l_l rfl rfl rfl ?_
              refine l_l rfl rfl rfl ?_
              refine l_x (x_val call_56 rfl (fun w hw => win_fn _ _ l hl v hv _ _ w (hB.later0 hw))) rfl rfl ?_
              rintro _ _ ⟨rfl, rfl⟩
              refine l_l (idx_array0 k rfl rfl rfl rfl (by (try simp only [decide_eq_true_eq, decide_eq_false_iff_not, beq_iff_eq, beq_eq_false_iff_ne, bne_iff_ne, bne_eq_false_iff_eq, ne_eq] at *); omega)) rfl rfl ?_
              refine l_x (x_store 0 rfl rfl rfl rfl rfl rfl (by rw [upTo_len (by (try simp only [decide_eq_true_eq, decide_eq_false_iff_not, beq_iff_eq, beq_eq_false_iff_ne, bne_iff_ne, bne_eq_false_iff_eq, ne_eq] at *); omega)]; simp only [List.length_cons, List.length_nil]; (try simp only [decide_eq_true_eq, decide_eq_false_iff_not, beq_iff_eq, beq_eq_false_iff_ne, bne_iff_ne, bne_eq_false_iff_eq, ne_eq] at *); omega)) rfl rfl ?_
              rintro _ _ ⟨rfl, rfl⟩
              rw [List.set_cons_zero, upTo_put (f := tPix l v line own) (by (try simp only [decide_eq_true_eq, decide_eq_false_iff_not, beq_iff_eq, beq_eq_false_iff_ne, bne_iff_ne, bne_eq_false_iff_eq, ne_eq] at *); omega) _ (pix_win h1on (by simpa using h5) (by simpa using h6))]
              refine l_nil ?_
              refine c_exit rfl ?_
              refine c_region ?_
              refine l_as (v := (.int .i64 ((k + 1 : Nat) : Int))) rfl rfl rfl (congrArg _ (succ_law (by omega))) ?_
              refine l_l rfl rfl rfl ?_
              refine l_nil ?_
              exact ⟨k + 1, by (try simp only [decide_eq_true_eq, decide_eq_false_iff_not, beq_iff_eq, beq_eq_false_iff_ne, bne_iff_ne, bne_eq_false_iff_eq, ne_eq] at *); omega, by (try simp only [decide_eq_true_eq, decide_eq_false_iff_not, beq_iff_eq, beq_eq_false_iff_ne, bne_iff_ne, bne_eq_false_iff_eq, ne_eq] at *); omega, .cons rfl .nil, (by repeat (first | exact Agree.refl _ _ | exact Agree.mix rfl | refine Agree.put rfl ?_ | refine Agree.keep rfl ?_)), fun _ h => h⟩
            · refine c_skip ?_
              refine c_region ?_
              refine l_l rfl rfl rfl ?_
              refine l_x (x_loadA rfl rfl rfl (by first | exact row_own (by repeat (first | exact .head _ | refine .tail _ ?_ | refine List.mem_append_right _ ?_)) | exact row_own_at (by repeat (first | exact .head _ | refine .tail _ ?_ | refine List.mem_append_right _ ?_)) _ 5 rfl)) rfl rfl ?_
              rintro _ _ ⟨rfl, rfl⟩
              refine l_l rfl rfl rfl ?_
              refine l_l rfl rfl rfl ?_
              refine l_l rfl rfl rfl ?_
              refine l_x (x_val call_57 rfl (fun w hw => back_fn _ _ l hl v hv _ _ w (hB.later0 hw))) rfl rfl ?_
              rintro _ _ ⟨rfl, rfl⟩
              refine l_l (idx_array0 k rfl rfl rfl rfl (by (try simp only [decide_eq_true_eq, decide_eq_false_iff_not, beq_iff_eq, beq_eq_false_iff_ne, bne_iff_ne, bne_eq_false_iff_eq, ne_eq] at *); omega)) rfl rfl ?_
              refine l_x (x_store 0 rfl rfl rfl rfl rfl rfl (by rw [upTo_len (by (try simp only [decide_eq_true_eq, decide_eq_false_iff_not, beq_iff_eq, beq_eq_false_iff_ne, bne_iff_ne, bne_eq_false_iff_eq, ne_eq] at *); omega)]; simp only [List.length_cons, List.length_nil]; (try simp only [decide_eq_true_eq, decide_eq_false_iff_not, beq_iff_eq, beq_eq_false_iff_ne, bne_iff_ne, bne_eq_false_iff_eq, ne_eq] at *); omega)) rfl rfl ?_
              rintro _ _ ⟨rfl, rfl⟩
              rw [List.set_cons_zero, upTo_put (f := tPix l v line own) (by (try simp only [decide_eq_true_eq, decide_eq_false_iff_not, beq_iff_eq, beq_eq_false_iff_ne, bne_iff_ne, bne_eq_false_iff_eq, ne_eq] at *); omega) _ (pix_back h1on (by intro h0; have h1 := h0.2; simp at h6; omega))]
              refine l_nil ?_
              refine c_region ?_
              refine l_as (v := (.int .i64 ((k + 1 : Nat) : Int))) rfl rfl rfl (congrArg _ (succ_law (by omega))) ?_
              refine l_l rfl rfl rfl ?_
              refine l_nil ?_
              exact ⟨k + 1, by (try simp only [decide_eq_true_eq, decide_eq_false_iff_not, beq_iff_eq, beq_eq_false_iff_ne, bne_iff_ne, bne_eq_false_iff_eq, ne_eq] at *); omega, by (try simp only [decide_eq_true_eq, decide_eq_false_iff_not, beq_iff_eq, beq_eq_false_iff_ne, bne_iff_ne, bne_eq_false_iff_eq, ne_eq] at *); omega, .cons rfl .nil, (by repeat (first | exact Agree.refl _ _ | exact Agree.mix rfl | refine Agree.put rfl ?_ | refine Agree.keep rfl ?_)), fun _ h => h⟩
          · refine l_p rfl rfl ?_
            refine l_p rfl rfl ?_
            refine l_l rfl rfl rfl ?_
            refine l_nil ?_
            refine c_false rfl ?_
            refine c_skip ?_
            refine c_region ?_
            refine l_l rfl rfl rfl ?_
            refine l_x (x_loadA rfl rfl rfl (by first | exact row_own (by repeat (first | exact .head _ | refine .tail _ ?_ | refine List.mem_append_right _ ?_)) | exact row_own_at (by repeat (first | exact .head _ | refine .tail _ ?_ | refine List.mem_append_right _ ?_)) _ 5 rfl)) rfl rfl ?_
            rintro _ _ ⟨rfl, rfl⟩
            refine l_l rfl rfl rfl ?_
            refine l_l rfl rfl rfl ?_
            refine l_l rfl rfl rfl ?_
            refine l_x (x_val call_57 rfl (fun w hw => back_fn _ _ l hl v hv _ _ w (hB.later0 hw))) rfl rfl ?_
            rintro _ _ ⟨rfl, rfl⟩
            refine l_l (idx_array0 k rfl rfl rfl rfl (by (try simp only [decide_eq_true_eq, decide_eq_false_iff_not, beq_iff_eq, beq_eq_false_iff_ne, bne_iff_ne, bne_eq_false_iff_eq, ne_eq] at *); omega)) rfl rfl ?_
            refine l_x (x_store 0 rfl rfl rfl rfl rfl rfl (by rw [upTo_len (by (try simp only [decide_eq_true_eq, decide_eq_false_iff_not, beq_iff_eq, beq_eq_false_iff_ne, bne_iff_ne, bne_eq_false_iff_eq, ne_eq] at *); omega)]; simp only [List.length_cons, List.length_nil]; (try simp only [decide_eq_true_eq, decide_eq_false_iff_not, beq_iff_eq, beq_eq_false_iff_ne, bne_iff_ne, bne_eq_false_iff_eq, ne_eq] at *); omega)) rfl rfl ?_
            rintro _ _ ⟨rfl, rfl⟩
            rw [List.set_cons_zero, upTo_put (f := tPix l v line own) (by (try simp only [decide_eq_true_eq, decide_eq_false_iff_not, beq_iff_eq, beq_eq_false_iff_ne, bne_iff_ne, bne_eq_false_iff_eq, ne_eq] at *); omega) _ (pix_back h1on (by intro h0; rw [h0.1] at h5; cases h5))]
            refine l_nil ?_
            refine c_region ?_
            refine l_as (v := (.int .i64 ((k + 1 : Nat) : Int))) rfl rfl rfl (congrArg _ (succ_law (by omega))) ?_
            refine l_l rfl rfl rfl ?_
            refine l_nil ?_
            exact ⟨k + 1, by (try simp only [decide_eq_true_eq, decide_eq_false_iff_not, beq_iff_eq, beq_eq_false_iff_ne, bne_iff_ne, bne_eq_false_iff_eq, ne_eq] at *); omega, by (try simp only [decide_eq_true_eq, decide_eq_false_iff_not, beq_iff_eq, beq_eq_false_iff_ne, bne_iff_ne, bne_eq_false_iff_eq, ne_eq] at *); omega, .cons rfl .nil, (by repeat (first | exact Agree.refl _ _ | exact Agree.mix rfl | refine Agree.put rfl ?_ | refine Agree.keep rfl ?_)), fun _ h => h⟩
        · refine c_exit rfl ?_
          refine c_seq ?_
          obtain rfl : k = 160 := by (try simp only [decide_eq_true_eq, decide_eq_false_iff_not, beq_iff_eq, beq_eq_false_iff_ne, bne_iff_ne, bne_eq_false_iff_eq, ne_eq] at *); omega
          refine c_region ?_
          refine l_x (x_loadA rfl rfl (by rw [upTo_len (Nat.le_refl _)]; rfl) (row_own (.head _))) rfl rfl ?_
          rintro _ _ ⟨rfl, rfl⟩
          refine l_l rfl rfl rfl ?_
          refine l_x (x_store (vs := (upTo .u8 (tPix l v line own) 160 160)) (l := List.replicate 160 (.int .u8 0)) 1 rfl rfl rfl (by rw [upTo_len (Nat.le_refl _)]; rfl) (upTo_ones _ _ _ _) rfl (by rw [upTo_len (Nat.le_refl _)]; simp)) rfl rfl ?_
          rintro _ _ ⟨rfl, rfl⟩
          rw [putL_all (by rw [upTo_len (Nat.le_refl _)]; simp)]
          refine l_l rfl rfl rfl ?_
          refine l_nil ?_
          refine c_ret ?_
          exact l_end0 (fun w hw => rets_cell2 (l := (upTo .u8 (tPix l v line own) 160 160)) rfl rfl (by rw [upTo_len (Nat.le_refl _)]; rfl) (row_own (.tail _ (.head _)) w hw) rfl) ⟨rfl, by rw [tLine_vals]⟩

end Go.Proofs.Ytjceoaomkbabmaa
