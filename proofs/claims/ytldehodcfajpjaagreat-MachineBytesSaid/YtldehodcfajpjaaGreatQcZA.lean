/- A machine is asked. -/
import Derived.Test.YtldehodcfajpjaaGreatQcX
set_option linter.unusedSimpArgs false
set_option linter.unusedVariables false
set_option maxRecDepth 100000
set_option maxHeartbeats 4000000
namespace Go.Proofs.YtldehodcfajpjaaGreat
open Go Go.VV Go.Proofs
theorem call_30 : callable Tryz.prog 30 = true := by kernel_rfl
theorem call_32 : callable Tryz.prog 32 = true := by kernel_rfl
end Go.Proofs.YtldehodcfajpjaaGreat
namespace Go.Proofs.YtldehodcfajpjaaGreat
open Go Go.VV Go.Proofs Go.RowKit
theorem same_fn (a1 a2 : Option Addr) (c1 c2 : Nat) (l : List Int) (hl : l.length ≤ 1000000) (w : World) (hA : Ns w .u8 a1 l) (hB : Ns w .u8 a2 l) :
  Does Tryz.prog 32 [.slice a1 l.length c1, .slice a2 l.length c2] w [] (fun v H => H = [] ∧ v = .bool true) := by
 refine does_of Tryz.func32 rfl rfl rfl (St.refl w) ?_
 refine c_seq ?_
 refine c_region ?_
 refine Rl ?_
 refine l_nil ?_
 refine c_seq ?_
 refine c_seq ?_
 refine c_region ?_
 refine Rl ?_
 refine RY l_n rfl ?_
 refine Rl ?_
 refine RY l_n rfl ?_
 refine l_sure false rfl rfl rfl y_z ?_
 refine l_nil ?_
 refine c_false rfl ?_
 refine c_skip ?_
 refine c_seq ?_
 refine c_seq ?_
 refine c_region ?_
 refine Rl ?_
 refine RY l_n rfl ?_
 refine Rl ?_
 refine l_nil ?_
 refine c_block ?_
 refine c_loopk (σ := Nat) [4, 5, 13, 14, 15, 16, 17, 18, 19, 20, 21, 22, 23, 24, 25] (fun i => [(13, .int .i64 i)]) (fun i => i ≤ l.length) (fun i => l.length - i) 0 ?_ ?_ ?_
 ·exact Nat.zero_le _
 ·exact .cons rfl .nil
 ·rintro i y2 hi
  refine c_seq ?_
  refine c_region ?_
  refine Rl ?_
  refine l_nil ?_
  refine c_seq ?_
  refine KC (fun h1 h1n => ?_) (fun h1 h1n => ?_)
  ·refine c_skip ?_
   refine c_seq ?_
   refine c_block ?_
   refine c_seq ?_
   refine c_region ?_
   refine L_2 ?_
   refine l_nil ?_
   refine c_seq ?_
   obtain ⟨b1, o1, rfl, r1⟩ := hA.row (i := i) o_m
   obtain ⟨b2, o2, rfl, r2⟩ := hB.row (i := i) o_m
   refine DR [4, 5, 6, 7] (pln [0, 2, 4, 6, 8, 10, 12, 14, 16]) ?_
   refine D_2 ?_
   refine DY rfl (idx_slice1 i rfl rfl rfl rfl o_m) rfl ?_
   refine DL rfl rfl rfl (s_old (r1.int o_m) y_z) rfl ?_
   refine D_2 ?_
   refine DY rfl (idx_slice1 i rfl rfl rfl rfl o_m) rfl ?_
   refine DL rfl rfl rfl (s_old (r2.int o_m) y_z) rfl ?_
   refine d_sure false rfl rfl rfl rfl y_z ?_
   refine d_nil ?_
   refine c_false rfl ?_
   refine c_skip ?_
   refine c_region ?_
   refine RW (v := (.int .i64 ((i + 1 : Nat) : Int))) rfl rfl (congrArg _ (succ_law o_m)) ?_
   refine Rl ?_
   refine l_nil ?_
   exact ⟨i + 1, y_D, y_D, .cons rfl .nil, a_g, fun _ h => h⟩
  ·refine c_exit rfl ?_
   refine c_seq ?_
   refine c_region ?_
   refine Rl ?_
   refine l_nil ?_
   refine c_ret ?_
   exact E0 rfl ⟨rfl, rfl⟩
theorem newNo (ob : Nat) (rom : List Int) (hl : rom.length ≤ 100000000) (hb : Byts rom) (he : errH rom ≠ 0) (pa : Option Addr) (n pc : Nat) (w : World) (hr : Row w ob 0 (rom.map (Value.int .u8))) :
  Does Tryz.prog 11 [.slice (some ⟨ob, 0, none⟩) rom.length rom.length, .slice pa n pc] w [] (fun v H => H = [] ∧ v = .tuple #[.pointer none, .int .i64 (errH rom)]) :=
 (newM_fn ob rom.length rom hl hb (Nat.le_refl _) pa n pc w hr).mono fun v H h => by
  rcases h with ⟨_, h1, h2⟩ | ⟨h1, _⟩
  ·exact ⟨h2, h1⟩
  ·exact absurd h1 he
set_option maxHeartbeats 1000000 in
theorem run_fn (g : Gm) (n : Nat) (hn : n ≤ 1000) (w : World) (hg : g.Ok w) (hf : fewG g = true) : Does Tryz.prog 30 [.agg (cGm g).toArray, .int .i64 n] w [] (fun v H => (errH (romG g) ≠ 0 ∧ v = .pointer none ∧ H = []) ∨ (errH (romG g) = 0 ∧ ∃ q pa pc G, q.Ok pa g.plan.length pc ∧ HasP 140 g.plan pa pc G ∧ v = pM q ∧ H = G ++ hM q (runM g.plan (newM (romG g)) n))) := by
 have hf9 := of_decide_eq_true hf
 have hl9 : (romG g).length ≤ 100000000 := by rw [romG_len]; decide
 have hby9 := romG_byts hg
 refine does_of Tryz.func30 rfl rfl rfl (St.refl w) ?_
 refine ZA0 ?_
 by_cases he9 : errH (romG g) = 0
 ·refine ZAP ?_
  refine ZAt fun b0 => ?_
  refine ZAB ?_
  refine c_cut (σ := MA × Option Addr × Nat × Heap) [5, 6, 7, 8, 9, 10, 11, 12, 13, 14] (fun s => [(5, pM s.1)]) (fun s => s.2.2.2 ++ hM s.1 (newM (romG g))) (fun s => s.1.Ok s.2.1 g.plan.length s.2.2.1 ∧ HasP 140 g.plan s.2.1 s.2.2.1 s.2.2.2) ?_ ?_
  ·refine DR [1, 2] (pln [0, 4, 3, 7, 9, 10, 12, 14, 16, 18]) ?_
   refine ZA9 ?_
   refine ZA9 ?_
   refine DX rfl (x_call call_12 rfl (fun w hw => rom_fn g w (hg.later hw) o_m)) rfl y_ea ?_
   rintro _ _ ⟨_, ⟨b1, rfl, rfl⟩, rfl⟩
   refine DX rfl (x_call call_13 rfl (fun w hw => plan_fn g w (hg.later hw) o_m)) rfl y_ea ?_
   rintro _ _ ⟨Gp, ⟨pa, pc, rfl, hP⟩, rfl⟩
   refine DX rfl (x_callMA (F := Gp) (A := [(b1, blk ((romG g).map (Value.int .u8)) 5)]) (G := [(b0, blk (cGm g) 25)]) call_11 rfl (fun w hw _ => newL b1 (romG g) hl9 hby9 he9 pa g.plan.length pc _ w hw)) rfl (by intro _ _ _ hK; obtain ⟨_, ⟨_, _, rfl, rfl⟩, rfl⟩ := hK; exact fun x hx => y_v) ?_
   rintro _ _ ⟨_, ⟨q, hq, rfl, rfl⟩, rfl⟩
   refine ZCX ?_
   iterate 4 refine RD ?_
   refine ZEb ?_
   exact ⟨(q, pa, pc, Gp), ⟨hq, hP⟩, .cons rfl .nil, a_g, fun _ h => St.fl [Gp, hM q (newM (romG g)), [_]] [0, 1] rfl h⟩
  ·rintro ⟨q, pa, pc, Gp⟩ y2 ⟨hq, hP⟩
   dsimp only at hq hP ⊢
   refine ZA1 ?_
   refine ZDh ?_
   refine ZBV ?_
   refine c_loop (σ := Nat × Obj × Value) [18, 19, 20, 21, 22] (fun s => [(18, .int .i64 s.1)]) (fun s => Gp ++ hM ⟨q.A, q.tb, s.2.1, s.2.2⟩ (runM g.plan (newM (romG g)) s.1)) (fun s => s.1 ≤ n ∧ (MA.mk q.A q.tb s.2.1 s.2.2).Ok pa g.plan.length pc) (fun s => n - s.1) (0, q.oT, q.va) ?_ ?_ ?_ ?_
   ·exact ⟨Nat.zero_le _, hq⟩
   ·exact .cons rfl .nil
   ·exact fun _ h => h
   ·rintro ⟨i, oTi, vi⟩ y5 ⟨hi, hqi⟩
    dsimp only at hi hqi ⊢
    refine ZCI ?_
    refine KC (fun q0 q0n => ?_) (fun q0 q0n => ?_)
    ·refine ZCQ ?_
     refine ZAZ ?_
     refine RX (x_callT (F := Gp) (A := hM ⟨q.A, q.tb, oTi, vi⟩ (runM g.plan (newM (romG g)) i)) call_19 rfl (fun w hw => stepL (R := newM (romG g)) (D := True) ⟨q.A, q.tb, oTi, vi⟩ pa pc g.plan hqi hP.ok hP.few (runM g.plan (newM (romG g)) i) ((newM_inv he9 hby9).run hP.ok i) _ w (St.lentV hw) (hP.els hw fun _ h => List.mem_append_right _ h) (hP.off hw))) rfl ?_
     rintro _ _ ⟨_, ⟨oT0, va0, G0, hq2, rfl, hV0, rfl⟩, rfl⟩
     refine ZAb ?_
     refine ZC2 ?_
     exact ⟨(i + 1, oT0, va0), ⟨y_D, hq2⟩, by show n - (i + 1) < n - i; omega, .cons rfl .nil, a_g, fun _ h => h.sub (List.Sublist.append_left (List.sublist_append_right _ _) _)⟩
    ·refine ZBa ?_
     refine ZA0 ?_
     obtain rfl : i = n := by omega
     refine ZAP ?_
     refine ZAs ?_
     exact EV rfl (List.Sublist.refl _) (.inr ⟨he9, _, pa, pc, Gp, hqi, hP, rfl, rfl⟩)
 ·refine ZAP ?_
  refine ZAt fun b0 => ?_
  refine ZAB ?_
  refine c_cut (σ := Nat) [5, 6, 7, 8, 9, 10, 11, 12, 13, 14] (fun s => [(5, .pointer none)]) (fun _ => []) (fun _ => True) ?_ ?_
  ·refine DR [1, 2] (pln [0, 4, 3, 7, 9, 10, 12, 14, 16, 18]) ?_
   refine ZA9 ?_
   refine ZA9 ?_
   refine DX rfl (x_call call_12 rfl (fun w hw => rom_fn g w (hg.later hw) o_m)) rfl y_ea ?_
   rintro _ _ ⟨_, ⟨b1, rfl, rfl⟩, rfl⟩
   refine DX rfl (x_call call_13 rfl (fun w hw => plan_fn g w (hg.later hw) o_m)) rfl y_ea ?_
   rintro _ _ ⟨Gp, ⟨pa, pc, rfl, hP⟩, rfl⟩
   refine DZ rfl (x_val call_11 rfl (fun w hw => newNo b1 (romG g) hl9 hby9 he9 pa g.plan.length pc w (row_own (b := b1) (by repeat (first | exact .head _ | exact List.mem_append_right _ (.head _) | refine .tail _ ?_ | refine List.mem_append_right _ ?_)) w hw))) rfl (by intro _ _ _ hK; obtain ⟨rfl, rfl⟩ := hK; exact fun x hx => y_v) ?_
   refine ZCX ?_
   iterate 4 refine RD ?_
   refine ZEb ?_
   exact ⟨0, trivial, .cons rfl .nil, a_g, fun _ h => h.sub (List.nil_sublist _)⟩
  ·rintro _ y2 _
   refine ZA1 ?_
   refine ZEB ?_
   refine ZAY ?_
   exact EV rfl (List.nil_sublist _) (.inl ⟨he9, rfl, rfl⟩)
theorem runY_fn (g : Gm) (n : Nat) (hn : n ≤ 1000) (w : World) (hg : g.Ok w) (hf : fewG g = true) (he : errH (romG g) = 0) : Does Tryz.prog 30 [.agg (cGm g).toArray, .int .i64 n] w [] (fun v H => ∃ q pa pc G, q.Ok pa g.plan.length pc ∧ HasP 140 g.plan pa pc G ∧ v = pM q ∧ H = G ++ hM q (runM g.plan (newM (romG g)) n)) :=
 (run_fn g n hn w hg hf).mono fun _ _ h => by
  rcases h with ⟨h1, _⟩ | ⟨_, h1⟩
  ·exact absurd he h1
  ·exact h1
theorem runN_fn (g : Gm) (n : Nat) (hn : n ≤ 1000) (w : World) (hg : g.Ok w) (hf : fewG g = true) (he : errH (romG g) ≠ 0) : Does Tryz.prog 30 [.agg (cGm g).toArray, .int .i64 n] w [] (fun v H => H = [] ∧ v = .pointer none) :=
 (run_fn g n hn w hg hf).mono fun _ _ h => by
  rcases h with ⟨_, h1, h2⟩ | ⟨h1, _⟩
  ·exact ⟨h2, h1⟩
  ·exact absurd h1 he
theorem runs_inv {g : Gm} {w : World} (hg : g.Ok w) (he : errH (romG g) = 0) (i : Nat) : MInv (newM (romG g)) True (runM g.plan (newM (romG g)) i) := (newM_inv he (romG_byts hg)).run hg.plan i
theorem inv_ram {R m : Mm} {D : Prop} {rom : List Int} (h : MInv (newM rom) D m) : m.ram.length ≤ 131072 := by rw [h.fr.ram]; exact newM_ram rom
theorem inv_enc {m : Mm} {D : Prop} {rom : List Int} (h : MInv (newM rom) D m) : (encA m).length ≤ 171000 := by have := inv_ram (R := m) h; rw [encA_len h.wf]; omega
end Go.Proofs.YtldehodcfajpjaaGreat
