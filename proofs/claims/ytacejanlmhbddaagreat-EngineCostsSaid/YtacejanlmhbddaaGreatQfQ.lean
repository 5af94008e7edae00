/- Parts. -/
import Derived.Test.YtacejanlmhbddaaGreatQfN
set_option maxRecDepth 100000
set_option maxHeartbeats 1000000
set_option linter.all false
namespace Go.Proofs.YtacejanlmhbddaaGreat
open Go Go.VV Go.Proofs Go.RowKit Go.Proofs.Tryz
def Gq.gx (g : Gq) (pa : AC) (pc : Nat) : Gx := ⟨romQ g, g.plan, pa, pc⟩
def Gq.Ok.gx {g : Gq} {w : AI} (h : g.Ok w) (he : errH (romQ g) = 0) (hf : fewQ g = true) (pa : AC) (pc : Nat) : (g.gx pa pc).Ok :=
 ⟨y_dJ, lA h, he, h.plan, by have := ct hf; show g.plan.length ≤ 1000000; omega⟩
def plan_fn (g : Gq) (w : AI) (hg : g.Ok w) (hp : g.plan.length ≤ 1000000) : aB prog 14 [.agg (cGq g).toArray] w [] (fun v H => ∃ pa pc, v = .slice pa g.plan.length pc ∧ yD 114 g.plan pa pc H) := by
 refine dR_ func14 ?_
 refine ZCT ?_
 refine ZAq fun b0 => ?_
 refine A_11 ?_
 refine ZC1 ?_
 refine bD (σ := Nat × AH × aC) [3, 4, 8, 9, 10, 11, 12, 13, 14, 15, 16, 17, 18, 19] (fun s => [(3, s.2.1), (8, .int .i64 s.1)]) (fun s => s.2.2 ++ [(b0, blk (cGq g) 25)]) (fun s => s.1 ≤ g.plan.length ∧ Vec 114 2 s.2.1 s.1 (aF nR (g.plan.take s.1)) s.2.2) (fun s => g.plan.length - s.1) (0, .slice none 0 0, []) ?_ ?_ ?_ ?_
 ·exact ⟨al _, .nil⟩
 ·exact .cons rfl (.cons rfl .nil)
 ·exact fun _ h => h
 rintro ⟨i, v0, G0⟩ y3 ⟨hi, hV0⟩
 dsimp only at hi hV0 ⊢
 obtain ⟨a3, c0, rfl⟩ := hV0.slice
 refine ZBb ?_
 refine KC (fun q0 z0 => ?_) (fun q0 z0 => ?_)
 ·refine ZBr ?_
  obtain ⟨bx, ox, hqa, hrx⟩ := hg.nq.row (i := i) o_m
  obtain ⟨c, hc0⟩ : ∃ c, g.plan[i]? = some c := ⟨_, ak o_m⟩
  refine ZDH ?_
  refine RZ (aE rfl rfl (aJ (v := .slice (some ⟨bx, ox, none⟩) g.plan.length g.qc) (b := b0) (l := cGq g) (mR_ _ (.head _)) (by rw [← hqa]; rfl))) rfl (ZBL ?_)
  refine RY (bG (s := 2) i rfl rfl rfl rfl o_m) rfl (RZ (aK rfl rfl rfl (fun w hw => (aN hrx y_r w hw).nth' cChg_len hc0)) rfl (RX (dX (z := [.int .u64 0, .int .u8 0]) (l := nR c) (ps := [(0, .agg (nR c).toArray)]) rfl rfl rfl rfl rfl rfl) rfl ?_))
  rintro _ _ ⟨b1, rfl, rfl⟩
  refine RX (gD (A := [(b1, _)]) (G := G0) (R := [(b0, blk (cGq g) 25)]) (v := .slice a3 i c0) (n := i) (xs := aF nR (g.plan.take i)) (m := 1) (T := 114) (s := 2) (by_ := 16) (ys := nR c) rfl rfl rfl rfl hV0 (fun w hw => .row _ _ _ _ _ rfl (aA (b := b1) (.head _) w hw)) rfl o_m o_m) rfl ?_
  rintro v1 _ ⟨G1, hV1, _, rfl⟩
  obtain ⟨a18, cx1, rfl⟩ := hV1.slice
  refine ZA1 ?_
  refine ZAD ?_
  exact ⟨(i + 1, _, G1), ⟨y_y, hV1.as rfl (by show _ = aF nR (g.plan.take (i + 1)); rw [zJ hc0, jI])⟩, by show g.plan.length - (i + 1) < g.plan.length - i; omega, .cons rfl (.cons rfl .nil), a_g, fun _ h => h.sub (List.Sublist.append_left (.cons _ sR_) _)⟩
 refine ZAl ?_
 obtain rfl : i = g.plan.length := by omega
 rw [db] at hV0
 refine ZBb ?_
 exact EV rfl (cn _ _) ⟨_, _, rfl, hV0, hg.plan, hp⟩
end Go.Proofs.YtacejanlmhbddaaGreat
