/- The contracts of a line of tiles, as the program draws it. -/
import Derived.Test.YtldehodcfajpjaaGreatQcE
import Derived.Test.YtldehodcfajpjaaGreatQcK
import Derived.Test.YtldehodcfajpjaaGreatQcL
set_option linter.unusedSimpArgs false
set_option linter.unusedVariables false
set_option maxRecDepth 100000
namespace Go.Proofs.YtldehodcfajpjaaGreat
open Go Go.VV Go.Proofs Go.RowKit
theorem disable (w : World) : (callFunc 271 #[]).run Tryz.prog w = .ok (.value (.tuple #[])) w := run_call_mark0 Tryz.func271 y_g y_g y_g .disable y_g w
theorem enable (w : World) : (callFunc 273 #[]).run Tryz.prog w = .ok (.value (.tuple #[])) w := run_call_mark0 Tryz.func273 y_g y_g y_g .enable y_g w
theorem acquire (a : Addr) (w : World) : (callFunc 274 #[.pointer (some a)]).run Tryz.prog w = .ok (.value (.tuple #[])) w := run_call_marked Tryz.func274 y_g y_g y_g .acquire y_g a w
theorem releaseMerge (a : Addr) (w : World) : (callFunc 276 #[.pointer (some a)]).run Tryz.prog w = .ok (.value (.tuple #[])) w := run_call_marked Tryz.func276 y_g y_g y_g .releaseMerge y_g a w
theorem store_deferred (a : Addr) (x : Value) (u : FrameMode) (w : World) (hc : w.cell? a = some x) (hz : w.frozen? a = false) :
  CallsD Tryz.prog 257 #[.pointer (some a), .bool true] u w fun e u' w' => u' = u ∧ (e = .returned (.tuple #[]) ∧ w' = w.drew.setCell a (.int .u32 1)) := by
 have hc' : w.drew.cell? a = some x := by go_simp
 have hz' : w.drew.frozen? a = false := by go_simp
 have hst := run_call_store (P := Tryz.prog) Tryz.func267 y_g y_g y_g y_g (k := .u32) (y := 1) hc' hz'
 go_enter_d Tryz.func257, Tryz.ntmps257
 go_wp2
 go_region_calls
 all_goals (go_end0; exact ⟨rfl, rfl⟩)
theorem unlock_deferred (a : Addr) (u : FrameMode) (w : World) (hc : w.cell? a = some (.int .i32 1)) (hz : w.frozen? a = false) :
  CallsD Tryz.prog 256 #[.pointer (some a)] u w fun e u' w' => u' = u ∧ (e = .returned (.tuple #[]) ∧ w' = w.setCell a (.int .i32 0)) := by
 have hd := disable
 have he := enable
 have hr := releaseMerge
 have hadd := run_call_add (P := Tryz.prog) Tryz.func277 y_g y_g y_g .i32 y_g (y := -1) (s := 0) hc hz (by simp [go_sem]; rfl)
 have hcv := run_convert_to_unsafe (P := Tryz.prog) (src := 360) (dst := 320) Tryz.underlying360 Tryz.underlying320 y_g hc
 go_enter_d Tryz.func256, Tryz.ntmps256
 go_wp2
 go_end0
 go_wp2
 go_end0
 exact ⟨rfl, rfl⟩
theorem lock_free (a : Addr) (w : World) (hc : w.cell? a = some (.int .i32 0)) (hz : w.frozen? a = false) :
  Calls Tryz.prog 255 #[.pointer (some a)] w fun e w' => e = .returned (.tuple #[]) ∧ w' = w.setCell a (.int .i32 1) := by
 have hd := disable
 have he := enable
 have ha := acquire
 have hcas := run_call_cas_hit (P := Tryz.prog) Tryz.func272 y_g y_g y_g .i32 y_g (y := 1) hc hz
 have hc' : (w.setCell a (.int .i32 1)).cell? a = some (.int .i32 1) := World.cell?_setCell_same w a _ hc
 have hcv := run_convert_to_unsafe (P := Tryz.prog) (src := 360) (dst := 320) Tryz.underlying360 Tryz.underlying320 y_g hc'
 go_enter Tryz.func255, Tryz.ntmps255
 go_wp2
 first | go_end0 | (simp only [Exit.inBlock, Exit.then]; refine bodyPost_ret (results_none rfl _ _ _) rfl ?_) | refine bodyPost_ret (results_none rfl _ _ _) rfl ?_
 go_wp2
 go_end0
 exact ⟨rfl, rfl⟩
set_option maxHeartbeats 1600000 in
theorem slow_once (b : Nat) (w : World) (F : World → Prop)
  (h0 : w.cell? ⟨b, 0, none⟩ = some (.int .u32 0)) (h1 : w.cell? ⟨b, 0 + 1, none⟩ = some (.int .i32 0)) (f1 : w.frozen? ⟨b, 0 + 1, none⟩ = false)
  (hf : Calls Tryz.prog 195 #[.pointer (some ⟨b, 0, none⟩)] (w.setCell ⟨b, 0 + 1, none⟩ (.int .i32 1)) fun e w' => e = .returned (.tuple #[]) ∧ F w')
  (hF : ∀ w', F w' → w'.cell? ⟨b, 0, none⟩ = some (.int .u32 0) ∧ w'.cell? ⟨b, 0 + 1, none⟩ = some (.int .i32 1) ∧ w'.frozen? ⟨b, 0, none⟩ = false ∧ w'.frozen? ⟨b, 0 + 1, none⟩ = false) :
  Calls Tryz.prog 228 #[.pointer (some ⟨b, 0, none⟩), .func (.func 195) #[.pointer (some ⟨b, 0, none⟩)] #[]] w fun e w' => e = .returned (.tuple #[]) ∧
   ∃ w2, F w2 ∧ w' = (w2.drew.setCell ⟨b, 0, none⟩ (.int .u32 1)).setCell ⟨b, 0 + 1, none⟩ (.int .i32 0) := by
 have hl := run_call_load (P := Tryz.prog) Tryz.func254 y_g y_g y_g .u32 y_g (w := w.setCell ⟨b, 0 + 1, none⟩ (.int .i32 1)) (a := ⟨b, 0, none⟩) (x := 0) ((World.cell?_setCell_other _ ⟨b, 0 + 1, none⟩ ⟨b, 0, none⟩ _ y_z).trans h0)
 have hnot : ∀ (x : Bool) (w : World), (Op.unary .not (.bool x)).run Tryz.prog w = .ok (.bool (!x)) w := fun _ _ => rfl
 go_enter_defers Tryz.func228, Tryz.ntmps228
 go_wp2_with (go_at_call 255; refine (lock_free ⟨b, 0 + 1, none⟩ _ (by go_simp) (by go_simp)).mono ?_; rintro e w' ⟨rfl, rfl⟩)
 go_wp2_with (first | (go_at_call 195; refine hf.mono ?_; rintro e w' ⟨rfl, hw2⟩) | (go_at_call 227; go_in))
 obtain ⟨c0, c1, z0, z1⟩ := hF _ hw2
 refine leaves_cons (f := 257) (args := #[.pointer (some ⟨b, 0, none⟩), .bool true]) y_z (by simp [go_sem]) ?_
 refine (store_deferred ⟨b, 0, none⟩ (.int .u32 0) .returning _ c0 z0).mono ?_
 rintro e u' w'' ⟨rfl, rfl, rfl⟩
 refine leaves_cons (f := 256) (args := #[.pointer (some ⟨b, 0 + 1, none⟩)]) (by simp [settle]) (by simp [go_sem]) ?_
 refine (unlock_deferred ⟨b, 0 + 1, none⟩ _ _ ?_ ?_).mono ?_
 ·refine (World.cell?_setCell_other _ ⟨b, 0, none⟩ ⟨b, 0 + 1, none⟩ _ y_z).trans ?_
  rw [World.cell?_drew]
  exact c1
 ·simpa using z1
 rintro e u' w'' ⟨rfl, rfl, rfl⟩
 simp [Leaves, settle, results, Tryz.results228]
 exact ⟨_, hw2, rfl⟩
def TabF (b : Nat) (u3 : Value) : Heap := [(b, blk (tabL (.int .u32 1) (.int .i32 0) u3 tabP tabB) 202)]
def TabH (b : Nat) (u3 : Value) (H : Heap) : Prop :=
 (∃ P B, P.length = 256 ∧ B.length = 256 ∧ H = [(b, blk (tabL (.int .u32 0) (.int .i32 0) u3 P B) 202)]) ∨ H = TabF b u3
theorem load_once (b : Nat) (d : Int) (w : World) (h0 : w.cell? ⟨b, 0, none⟩ = some (.int .u32 d)) :
  Calls Tryz.prog 227 #[.pointer (some ⟨b, 0, none⟩)] w fun e w' => e = .returned (.bool (d != 0)) ∧ w' = w := by
 have hl := run_call_load (P := Tryz.prog) Tryz.func254 y_g y_g y_g .u32 y_g h0
 go_enter Tryz.func227, Tryz.ntmps227
 go_wp2
 go_ret
 exact ⟨rfl, rfl⟩
theorem load_fn (b : Nat) (d : Int) (w : World) (h0 : w.cell? ⟨b, 0, none⟩ = some (.int .u32 d)) :
  Does Tryz.prog 227 [.pointer (some ⟨b, 0, none⟩)] w [] (fun v H => H = [] ∧ v = .bool (d != 0)) := by
 refine Calls.mono (load_once b d w h0) ?_
 rintro e w' ⟨rfl, rfl⟩
 exact ⟨_, [], rfl, St.refl _, rfl, rfl⟩
theorem slow_fn (b : Nat) (u3 : Value) (P B : List Opr) (hP : P.length = 256) (hB : B.length = 256) (w : World) (hb : w.heap[b]? = some (blk (tabL (.int .u32 0) (.int .i32 0) u3 P B) 202)) :
  Does Tryz.prog 228 [.pointer (some ⟨b, 0, none⟩), .func (.func 195) #[.pointer (some ⟨b, 0, none⟩)] #[]] w [b] (fun v H => v = .tuple #[] ∧ H = TabF b u3) := by
 have hst := St.lent1 hb
 have h1 : St w [b] [(b, blk (tabL (.int .u32 0) (.int .i32 1) u3 P B) 202)] (w.setCell ⟨b, 0 + 1, none⟩ (.int .i32 1)) := hst.setCell (off := 0 + 1) (.int .i32 1)
 have hb1 := h1.holds _ (.head _)
 refine Calls.mono (slow_once b w (fun w2 => St (w.setCell ⟨b, 0 + 1, none⟩ (.int .i32 1)) [b] [(b, blk (tabL (.int .u32 0) (.int .i32 1) u3 tabP tabB) 202)] w2)
  (by rw [cell_blk hb]; rfl) (by rw [cell_blk hb]; rfl) (frozen_blk hb) (Calls.mono (fill_fn b _ _ _ P B hP hB _ hb1) ?_) ?_) ?_
 ·rintro e w' ⟨v, H, rfl, h2, rfl, rfl⟩
  exact ⟨rfl, h2⟩
 ·intro w2 h2
  have hb2 := h2.holds _ (.head _)
  exact ⟨by rw [cell_blk hb2]; rfl, by rw [cell_blk hb2]; rfl, frozen_blk hb2, frozen_blk hb2⟩
 ·rintro e w' ⟨rfl, w2, h2, rfl⟩
  have hA := h1.after h2
  have hC := (hA.drew.setCell (off := 0) (.int .u32 1)).setCell (off := 0 + 1) (.int .i32 0)
  exact ⟨_, _, rfl, hC, rfl, rfl⟩
end Go.Proofs.YtldehodcfajpjaaGreat
namespace Go.Proofs.YtldehodcfajpjaaGreat
open Go Go.VV
def newA (mb ub rb tb ob oc : Nat) (sp : List Value) (plan : Value) (n : Nat) : Ad := { mb := mb, ub := ub, rb := rb, ob := ob, oc := oc, sp := sp, rc := n, rs := [], plan := plan, tab := .pointer (some ⟨tb, 0, none⟩) }
def newR : CR := ⟨1, 176, 0, 19, 0, 216, 1, 77, 65534, 256⟩
def newM0 (rom : List Int) : Mm := { cpu := ⟨r0, false, false, false, false⟩, bk := ⟨0, 0, 0, false, false, 0, 0, 0⟩, ck := ⟨0, 0, 0, 0, 0, false, false, 0, 0, 0, 0, 0⟩, tm := ⟨0, 0, 0, 0, false⟩, pd := ⟨0, 0⟩, pt := ⟨0, 0, 0, 0, 0, 0⟩, cp := ⟨0, 0⟩, bd := bdZ, flags := 0, lets := 0, steps := 0, cycles := 0, hd := hdH rom, u := zeroU, rom := rom, ram := List.replicate (hdH rom).ram.toNat 0, work := List.replicate 8192 0, high := List.replicate 127 0, acc := [] }
def newM1 (rom : List Int) : Mm := { newM0 rom with bk := ⟨(hdH rom).kind, (hdH rom).banks, (hdH rom).ram, decide ((hdH rom).kind = 0), false, 1, 0, 255⟩ }
def newM (rom : List Int) : Mm := { newM1 rom with cpu := ⟨newR, false, false, false, false⟩ }
def cMmR (A : Ad) (acc : Value) (m : Mm) (n : Nat) : List Value := headM m ++ (cBd m.bd ++ (([.int .u8 m.flags, .int .u8 m.lets, .int .u64 m.steps, .int .u64 m.cycles, .slice (some ⟨A.ob, 0, none⟩) m.rom.length A.oc, A.plan] ++ (cHd m.hd ++ [A.tab, .pointer (some ⟨A.ub, 0, none⟩), .slice (some ⟨A.rb, 0, none⟩) n A.rc])) ++ (m.work.map (.int .u8) ++ (m.high.map (.int .u8) ++ [acc]))))
theorem cMmR_eq {A : Ad} {acc : Value} {m : Mm} {n : Nat} (h : m.ram.length = n) : cMmR A acc m n = cMm A acc m := by subst h; rfl
theorem newM0_ln (rom : List Int) : MLn (newM0 rom) := ⟨bdZ_wf.ln, List.length_replicate, List.length_replicate⟩
theorem hdH_ram (rom : List Int) : (hdH rom).ram = ((hdH rom).ram.toNat : Int) ∧ (hdH rom).ram.toNat ≤ 131072 := by
 have h : 0 ≤ (hdH rom).ram ∧ (hdH rom).ram ≤ 131072 := ramH_ok _ _
 omega
theorem TabH.one {b : Nat} {u3 : Value} {H : Heap} (h : TabH b u3 H) : ∃ o, H = [(b, o)] := by
 rcases h with ⟨P, B, _, _, rfl⟩ | rfl
 ·exact ⟨_, rfl⟩
 ·exact ⟨_, rfl⟩
theorem vnf_int {k : IntKind} {x y : Int} (h : x = y) : vnf (.int k x) = some (.int k y) := by rw [h]; rfl
structure Mm.Fr (R m : Mm) : Prop where
 rom : m.rom = R.rom
 hd : m.hd = R.hd
 ram : m.ram.length = R.ram.length
 kind : m.bk.kind = R.bk.kind
 banks : m.bk.banks = R.bk.banks
 size : m.bk.ram = R.bk.ram
section
variable {R m : Mm}
theorem Mm.Fr.refl (m : Mm) : Mm.Fr m m := ⟨rfl, rfl, rfl, rfl, rfl, rfl⟩
theorem Mm.Fr.ask (h : Mm.Fr R m) (k : Int) (is : Bool) : Mm.Fr R (askM k is m) := by unfold askM; split; exact ⟨h.rom, h.hd, h.ram, h.kind, h.banks, h.size⟩; exact h
theorem Mm.Fr.save (h : Mm.Fr R m) (a x : Int) : Mm.Fr R (saveM a x m) := by
 unfold saveM
 split
 ·exact ⟨h.rom, h.hd, h.ram, h.kind, h.banks, h.size⟩
 split
 ·exact h
 ·exact ⟨h.rom, h.hd, by show (m.ram.set _ _).length = _; rw [List.length_set]; exact h.ram, h.kind, h.banks, h.size⟩
theorem Mm.Fr.setDevice (h : Mm.Fr R m) (a x : Int) : Mm.Fr R (setDeviceM a x m) := by
 unfold setDeviceM
 split
 ·exact Mm.Fr.ask (m := { m with pd := selPd x m.pd }) ⟨h.rom, h.hd, h.ram, h.kind, h.banks, h.size⟩ _ _
 repeat' split
 all_goals first | exact h | exact ⟨h.rom, h.hd, h.ram, h.kind, h.banks, h.size⟩
theorem Mm.Fr.poke (h : Mm.Fr R m) (a x : Int) : Mm.Fr R (pokeM a x m) := by
 unfold pokeM
 split
 ·obtain ⟨h1, h2, h3⟩ := writeB_same a x m.bk
  unfold latchM
  split <;> exact ⟨h.rom, h.hd, h.ram, by first | exact h1.trans h.kind, by first | exact h2.trans h.banks, by first | exact h3.trans h.size⟩
 split
 ·exact Mm.Fr.ask (m := { m with u := writeU m.u a x }) ⟨h.rom, h.hd, h.ram, h.kind, h.banks, h.size⟩ _ _
 split
 ·exact h.save a x
 split
 ·exact ⟨h.rom, h.hd, h.ram, h.kind, h.banks, h.size⟩
 split
 ·exact h
 ·exact h.setDevice a x
theorem Mm.Fr.cycle (h : Mm.Fr R m) : Mm.Fr R (cycleM m) := by
 have h1 : Mm.Fr R (cyc1 m) := Mm.Fr.ask (m := { m with cycles := (m.cycles + 1) % 18446744073709551616, tm := tickTm m.tm }) ⟨h.rom, h.hd, h.ram, h.kind, h.banks, h.size⟩ _ _
 have h2 : Mm.Fr R (cyc2 (cyc1 m)) := Mm.Fr.ask (m := { cyc1 m with pt := tickPt (cyc1 m).pt }) ⟨h1.rom, h1.hd, h1.ram, h1.kind, h1.banks, h1.size⟩ _ _
 have h3 : Mm.Fr R (cyc3 (cyc2 (cyc1 m))) := by unfold cyc3; split; exact ⟨h2.rom, h2.hd, h2.ram, h2.kind, h2.banks, h2.size⟩; exact h2
 have h4 : Mm.Fr R (cyc4 (cyc3 (cyc2 (cyc1 m)))) := ⟨h3.rom, h3.hd, h3.ram, h3.kind, h3.banks, h3.size⟩
 have h5 : Mm.Fr R (cyc5 (cyc4 (cyc3 (cyc2 (cyc1 m))))) := Mm.Fr.ask (Mm.Fr.ask (m := { cyc4 (cyc3 (cyc2 (cyc1 m))) with u := tickU (cyc4 (cyc3 (cyc2 (cyc1 m)))).u }) ⟨h4.rom, h4.hd, h4.ram, h4.kind, h4.banks, h4.size⟩ _ _) _ _
 show Mm.Fr R (cyc6 _)
 unfold cyc6; split; exact ⟨h5.rom, h5.hd, h5.ram, h5.kind, h5.banks, h5.size⟩; exact h5
theorem Mm.Fr.note (h : Mm.Fr R m) (k a x : Int) : Mm.Fr R (noteM k a x m) := ⟨h.rom, h.hd, h.ram, h.kind, h.banks, h.size⟩
end
structure Mm.Dec (m : Mm) : Prop where
 good : m.u.Good
 dy : m.ck.Dy
section
variable {m : Mm}
theorem Mm.Dec.ask (h : m.Dec) (k : Int) (is : Bool) : (askM k is m).Dec := by unfold askM; split; exact ⟨h.good, h.dy⟩; exact h
theorem Ck.Dy.hold {c : Ck} (h : c.Dy) : (holdCk c).Dy := h
theorem Mm.Dec.poke (h : m.Dec) (a : Int) {x : Int} (hx : 0 ≤ x ∧ x < 256) : (pokeM a x m).Dec := by
 unfold pokeM
 split
 ·unfold latchM; split
  ·exact ⟨h.good, h.dy.hold⟩
  ·exact ⟨h.good, h.dy⟩
 split
 ·exact Mm.Dec.ask (m := { m with u := writeU m.u a x }) ⟨h.good.write hx, h.dy⟩ _ _
 split
 ·unfold saveM
  split
  ·exact ⟨h.good, h.dy.write _ hx⟩
  split
  ·exact h
  ·exact ⟨h.good, h.dy⟩
 split
 ·exact ⟨h.good, h.dy⟩
 split
 ·exact h
 unfold setDeviceM
 split
 ·exact Mm.Dec.ask (m := { m with pd := selPd x m.pd }) ⟨h.good, h.dy⟩ _ _
 repeat' split
 all_goals first | exact h | exact ⟨h.good, h.dy⟩
theorem Mm.Dec.cycle (h : m.Dec) (hw : m.Wf) : (cycleM m).Dec := by
 have w1 := hw.cyc1W
 have w2 := w1.cyc2W
 have h1 : (cyc1 m).Dec := Mm.Dec.ask (m := { m with cycles := (m.cycles + 1) % 18446744073709551616, tm := tickTm m.tm }) ⟨h.good, h.dy⟩ _ _
 have h2 : (cyc2 (cyc1 m)).Dec := Mm.Dec.ask (m := { cyc1 m with pt := tickPt (cyc1 m).pt }) ⟨h1.good, h1.dy⟩ _ _
 have h3 : (cyc3 (cyc2 (cyc1 m))).Dec := by
  unfold cyc3; split
  ·exact ⟨h2.good.sprite _ (peekM_ok (m := { cyc2 (cyc1 m) with cp := tickCp (cyc2 (cyc1 m)).cp }) (w2.cp_ w2.cp.tick) _), h2.dy⟩
  ·exact h2
 have h4 : (cyc4 (cyc3 (cyc2 (cyc1 m)))).Dec := ⟨h3.good, h3.dy⟩
 have h5 : (cyc5 (cyc4 (cyc3 (cyc2 (cyc1 m))))).Dec := Mm.Dec.ask (Mm.Dec.ask (m := { cyc4 (cyc3 (cyc2 (cyc1 m))) with u := tickU (cyc4 (cyc3 (cyc2 (cyc1 m)))).u }) ⟨h4.good.tick, h4.dy⟩ _ _) _ _
 show (cyc6 _).Dec
 unfold cyc6; split; exact ⟨h5.good, h5.dy.tick⟩; exact h5
end
structure MmG (R : Mm) (D : Prop) (n : Nat) (m : Mm) : Prop where
 ok : MmOk n m
 fr : Mm.Fr R m
 dec : D → m.Dec
def busG (R : Mm) (D : Prop) : BusO Mm where
 toBusA := busM
 ok := MmG R D
 oF := fun {n m a} h ha => ⟨⟨h.ok.get 3 ha, h.fr.cycle.note _ _ _, fun hd => (fun k : (cycleM m).Dec => ⟨k.good, k.dy⟩) ((h.dec hd).cycle h.ok.wf)⟩, seenM_ok h.ok.wf.cycle _⟩
 oR := fun {n m a} h ha => ⟨⟨h.ok.get 1 ha, h.fr.cycle.note _ _ _, fun hd => (fun k : (cycleM m).Dec => ⟨k.good, k.dy⟩) ((h.dec hd).cycle h.ok.wf)⟩, seenM_ok h.ok.wf.cycle _⟩
 oW := fun {n m a x} h ha hx => ⟨h.ok.write ha hx, by
  show Mm.Fr R (noteM 2 a x _)
  refine Mm.Fr.note ?_ _ _ _
  split
  ·exact h.fr.cycle.poke _ _
  ·exact h.fr.cycle, fun hd => by
  have k := (h.dec hd).cycle h.ok.wf
  have g : (if letsCp (cycleM m).cp a = true then pokeM a x (cycleM m) else cycleM m).Dec := by
   split
   ·exact k.poke a hx
   ·exact k
  exact ⟨g.good, g.dy⟩⟩
 oI := fun {n m} h => ⟨h.ok.cycle.note 0 y_c y_c, h.fr.cycle.note _ _ _, fun hd => (fun k : (cycleM m).Dec => ⟨k.good, k.dy⟩) ((h.dec hd).cycle h.ok.wf)⟩
 oP := fun _ => pendM_ok _
 oA := fun h hk => ⟨h.ok.ack hk, ⟨h.fr.rom, h.fr.hd, h.fr.ram, h.fr.kind, h.fr.banks, h.fr.size⟩, fun hd => ⟨(h.dec hd).good, (h.dec hd).dy⟩⟩
 oL := fun h hk => ⟨h.ok.le hk, h.fr, h.dec⟩
structure MInv (R : Mm) (D : Prop) (m : Mm) : Prop where
 wf : m.Wf
 rg : m.cpu.r.Ok
 fr : Mm.Fr R m
 dec : D → m.Dec
section
variable {R m : Mm} {D : Prop} {plan : List Chg} (hp : ∀ c ∈ plan, ChgOk c)
include hp
theorem startG (h : MInv R D m) : MmG R D 7 (startM plan m) := by
 have h1 : Mm.Fr R (pressM (planAt plan m.steps) m) := Mm.Fr.ask (m := { m with pd := pressPd (planAt plan m.steps) m.pd }) ⟨h.fr.rom, h.fr.hd, h.fr.ram, h.fr.kind, h.fr.banks, h.fr.size⟩ _ _
 refine ⟨⟨h.wf.start hp, by show (0 : Nat) + 7 ≤ 1000000; decide, fun e he => by cases he⟩, ⟨h1.rom, h1.hd, h1.ram, h1.kind, h1.banks, h1.size⟩, fun hd => ?_⟩
 have h2 : (pressM (planAt plan m.steps) m).Dec := Mm.Dec.ask (m := { m with pd := pressPd (planAt plan m.steps) m.pd }) ⟨(h.dec hd).good, (h.dec hd).dy⟩ _ _
 exact ⟨h2.good, h2.dy⟩
theorem MInv.step (h : MInv R D m) : MInv R D (stepM plan m).2 := by
 have hq := step_ok (K := busG R D) (n := 0) (x := (⟨m.cpu, startM plan m⟩ : Rn Mm)) ⟨h.rg, startG hp h⟩
 have hw : (stepT busM (⟨m.cpu, startM plan m⟩ : Rn Mm)).2.m.Wf := hq.m.ok.wf
 exact ⟨hw.steps_ o_m _, hq.r, ⟨hq.m.fr.rom, hq.m.fr.hd, hq.m.fr.ram, hq.m.fr.kind, hq.m.fr.banks, hq.m.fr.size⟩, fun hd => ⟨(hq.m.dec hd).good, (hq.m.dec hd).dy⟩⟩
end
def runM (plan : List Chg) (m : Mm) : Nat → Mm
 | 0 => m
 | i + 1 => (stepM plan (runM plan m i)).2
theorem MInv.run {R m : Mm} {D : Prop} {plan : List Chg} (hp : ∀ c ∈ plan, ChgOk c) (h : MInv R D m) : ∀ i, MInv R D (runM plan m i)
 | 0 => h
 | i + 1 => (h.run hp i).step hp
theorem zeroR_ok : newR.Ok := by constructor <;> decide
theorem errH_zero {rom : List Int} (h : errH rom = 0) : 336 ≤ rom.length ∧ rom.getD 333 0 = chkH rom 25 ∧ (∃ s, sortH (rom.getD 327 0) = some s) ∧ rom.getD 328 0 ≤ 8 ∧ rom.getD 329 0 < 6 ∧ (rom.length : Int) = 32768 * 2 ^ (rom.getD 328 0).toNat := by
 unfold errH at h
 split at h
 ·cases h
 split at h
 ·cases h
 rename_i h1 h2
 split at h
 ·cases h
 rename_i s hs
 split at h
 ·cases h
 rename_i h3
 split at h
 ·cases h
 rename_i h4
 exact ⟨y_D, Decidable.byContradiction h2, ⟨s, hs⟩, y_D, y_D, Decidable.byContradiction h4⟩
theorem newM_wf {rom : List Int} (h : errH rom = 0) (hb : Byts rom) : (newM rom).Wf := by
 obtain ⟨_, _, ⟨s, hs⟩, h3, _, h5⟩ := errH_zero h
 have hk := sortH_kind hs
 have h8 := hb.get 328
 have hram := hdH_ram rom
 have ek : (hdH rom).kind = s.1 := by unfold hdH; rw [hs]; rfl
 have eb : (hdH rom).banks = 2 * 2 ^ (rom.getD 328 0).toNat := rfl
 have hpow : (1 : Int) ≤ 2 ^ (rom.getD 328 0).toNat ∧ (2 : Int) ^ (rom.getD 328 0).toNat ≤ 256 := by
  rcases (show rom.getD 328 0 = 0 ∨ rom.getD 328 0 = 1 ∨ rom.getD 328 0 = 2 ∨ rom.getD 328 0 = 3 ∨ rom.getD 328 0 = 4 ∨ rom.getD 328 0 = 5 ∨ rom.getD 328 0 = 6 ∨ rom.getD 328 0 = 7 ∨ rom.getD 328 0 = 8 by omega) with e | e | e | e | e | e | e | e | e <;> rw [e] <;> decide
 have hz : ∀ n : Nat, Byts (List.replicate n 0) := fun n x hx => by rw [(List.mem_replicate.1 hx).2]; decide
 have a0 : (0 : Int) ≤ 0 ∧ (0 : Int) < 256 := by decide
 have b0 : (0 : Int) ≤ 0 ∧ (0 : Int) < 65536 := by decide
 have c0 : (0 : Int) ≤ 0 ∧ (0 : Int) < 18446744073709551616 := by decide
 have d0 : (0 : Int) ≤ 0 ∧ (0 : Int) < 4294967296 := by decide
 have hh : Byts ([0, 0, 0, 0, 0] : List Int) := by unfold Byts; decide
 have ek2 : 0 ≤ (hdH rom).kind ∧ (hdH rom).kind < 256 := by rw [ek]; exact hk
 have eb2 : 0 ≤ (hdH rom).banks ∧ (hdH rom).banks < 65536 := by rw [eb]; omega
 have er2 : 0 ≤ (hdH rom).ram ∧ (hdH rom).ram < 1048576 := by omega
 have eb3 : 0 < (hdH rom).banks := by rw [eb]; omega
 have el2 : (rom.length : Int) = 16384 * (hdH rom).banks := by rw [eb, h5]; omega
 refine ⟨⟨ek2, eb2, er2, show (0 : Int) ≤ 1 ∧ (1 : Int) < 65536 by decide, b0, show (0 : Int) ≤ 255 ∧ (255 : Int) < 256 by decide⟩, ⟨⟨a0, a0, a0, show -9223372036854775808 ≤ (0 : Int) ∧ (0 : Int) ≤ 9223372036854775807 by decide, hh⟩, d0⟩, ⟨b0, a0, a0, a0⟩, ⟨a0, a0⟩, ⟨a0, a0, a0, b0, b0, b0⟩, ⟨a0, b0⟩, bdZ_wf, a0, a0, c0, c0, zeroU_ok, eb3, el2, hb, ?_, hz _, List.length_replicate, hz _, List.length_replicate, hz _⟩
 show ((List.replicate (hdH rom).ram.toNat (0 : Int)).length : Int) = (hdH rom).ram
 rw [List.length_replicate]; omega
theorem newM_inv {rom : List Int} (h : errH rom = 0) (hb : Byts rom) : MInv (newM rom) True (newM rom) := ⟨newM_wf h hb, zeroR_ok, .refl _, fun _ => ⟨zeroU_good, show (0 : Int) ≤ 0 ∧ (0 : Int) < 512 by decide⟩⟩
theorem newM_ram (rom : List Int) : (newM rom).ram.length ≤ 131072 := by show (List.replicate _ (0 : Int)).length ≤ _; rw [List.length_replicate]; exact (hdH_ram rom).2
def madeAt (i : Nat) : Nat := if 4 ≤ i then 332 + i else 256 + i
def madeP (l prog : List Int) : Nat → List Int
 | 0 => l
 | i + 1 => (madeP l prog i).set (madeAt i) (prog.getD i 0)
def romS (b : Int) : Nat := 32768 * 2 ^ (b % 9).toNat
def madeZ (kind b ram : Int) (prog : List Int) : List Int := (((madeP (List.replicate (romS b) 0) prog (min prog.length 15000)).set 327 kind).set 328 (b % 9)).set 329 ram
def madeI (kind b ram : Int) (prog : List Int) : List Int := (madeZ kind b ram prog).set 333 (chkH (madeZ kind b ram prog) 25)
theorem madeP_len (l prog : List Int) : ∀ i, (madeP l prog i).length = l.length
 | 0 => rfl
 | i + 1 => by unfold madeP; rw [List.length_set]; exact madeP_len l prog i
theorem byts_set1 {l : List Int} (h : Byts l) {x : Int} (hx : 0 ≤ x ∧ x < 256) (i : Nat) : Byts (l.set i x) := fun y hy => by
 rcases List.mem_or_eq_of_mem_set hy with h1 | rfl
 ·exact h y h1
 ·exact hx
theorem madeP_byts {l prog : List Int} (h : Byts l) (hp : Byts prog) : ∀ i, Byts (madeP l prog i)
 | 0 => h
 | i + 1 => byts_set1 (madeP_byts h hp i) (hp.get i) _
theorem romS_ok (b : Int) : 32768 ≤ romS b ∧ romS b ≤ 8388608 := by
 have hb : b % 9 = 0 ∨ b % 9 = 1 ∨ b % 9 = 2 ∨ b % 9 = 3 ∨ b % 9 = 4 ∨ b % 9 = 5 ∨ b % 9 = 6 ∨ b % 9 = 7 ∨ b % 9 = 8 := by omega
 unfold romS
 rcases hb with e | e | e | e | e | e | e | e | e <;> rw [e] <;> decide
theorem madeZ_len (kind b ram : Int) (prog : List Int) : (madeZ kind b ram prog).length = romS b := by unfold madeZ; rw [List.length_set, List.length_set, List.length_set, madeP_len, List.length_replicate]
theorem madeI_len (kind b ram : Int) (prog : List Int) : (madeI kind b ram prog).length = romS b := by unfold madeI; rw [List.length_set, madeZ_len]
theorem zeros_byts (n : Nat) : Byts (List.replicate n (0 : Int)) := fun x hx => by rw [(List.mem_replicate.1 hx).2]; decide
theorem madeZ_byts {kind b ram : Int} {prog : List Int} (hk : 0 ≤ kind ∧ kind < 256) (hr : 0 ≤ ram ∧ ram < 256) (hp : Byts prog) : Byts (madeZ kind b ram prog) :=
 byts_set1 (byts_set1 (byts_set1 (madeP_byts (zeros_byts _) hp _) hk _) o_m _) hr _
theorem madeI_byts {kind b ram : Int} {prog : List Int} (hk : 0 ≤ kind ∧ kind < 256) (hr : 0 ≤ ram ∧ ram < 256) (hp : Byts prog) : Byts (madeI kind b ram prog) :=
 byts_set1 (madeZ_byts hk hr hp) (chkH_ok _ _) _
theorem put_byte {l : List Int} {n o o' : Nat} (x : Int) (hn : l.length = n) (h : o' < n) (ho : o = o') : putL (l.map (.int .u8)) o [.int .u8 x] = (l.set o' x).map (.int .u8) := by
 subst ho hn
 exact putL_int .u8 h x
theorem len_byte {l : List Int} {n o : Nat} {v : Value} (hn : l.length = n) (h : o < n) : o + [v].length ≤ (l.map (Value.int .u8)).length := by
 subst hn
 rw [List.length_map]
 exact h
theorem madeP_n (b : Int) (prog : List Int) (i : Nat) : (madeP (List.replicate (romS b) 0) prog i).length = romS b := by rw [madeP_len, List.length_replicate]
structure Gm where
 kind : Int
 ram : Int
 pa : Option Addr
 pc : Nat
 prog : List Int
 qa : Option Addr
 qc : Nat
 plan : List Chg
def cGm (g : Gm) : List Value := [.int .u8 g.kind, .int .u8 g.ram, .slice g.pa g.prog.length g.pc, .slice g.qa g.plan.length g.qc]
structure Gm.Ok (w : World) (g : Gm) : Prop where
 kind : 0 ≤ g.kind ∧ g.kind < 256
 ram : 0 ≤ g.ram ∧ g.ram < 256
 prog : Byts g.prog
 lp : g.prog.length ≤ g.pc ∧ g.prog.length ≤ maxLen
 np : Ns w .u8 g.pa g.prog
 plan : ∀ c ∈ g.plan, ChgOk c
 lq : g.plan.length ≤ g.qc ∧ g.plan.length ≤ maxLen
 nq : Els w cChg g.qa g.plan
theorem Gm.Ok.later {g : Gm} {w0 w : World} {H : Heap} (h : g.Ok w0) (hw : St w0 [] H w) : g.Ok w := ⟨h.kind, h.ram, h.prog, h.lp, h.np.later0 hw, h.plan, h.lq, h.nq.later0 hw⟩
theorem cChg_of (cs : List Value) (h : Cks [.int .u64, .int .u8] cs) : ∃ x, cs = cChg x ∧ ChgOk x := by
 match cs, h with
 | [a, b], h =>
  obtain ⟨⟨x, rfl, hx⟩, ⟨y, rfl, hy⟩, _⟩ := h
  have h1 := wf_u64 hx
  have h2 := wf_u8 hy
  exact ⟨⟨x, y⟩, rfl, by unfold ChgOk; dsimp only; omega⟩
theorem cGm_of {w : World} (cs : List Value) (h : Nks w [.int .u8, .int .u8, .ints .u8, .rows [.int .u64, .int .u8]] cs) : ∃ g, cs = cGm g ∧ g.Ok w := by
 match cs, h with
 | [a, b, c, d], h =>
  obtain ⟨⟨x, rfl, hx⟩, ⟨y, rfl, hy⟩, ⟨pa, pc, l, rfl, h1, h2, h3, h4⟩, ⟨qa, qc, L, rfl, h5, h6, h7, h8⟩, _⟩ := h
  obtain ⟨l2, hl2, h9, h10⟩ := rows_of (c := cChg) (p := ChgOk) cChg_of h7 h8
  exact ⟨⟨x, y, pa, pc, l, qa, qc, l2⟩, by show _ = [_, _, _, Value.slice qa l2.length qc]; rw [← hl2], wf_u8 hx, wf_u8 hy, byts_of h3, ⟨h1, h2⟩, h4, h9, ⟨by show l2.length ≤ qc; omega, by show l2.length ≤ maxLen; omega⟩, h10⟩
def romG (g : Gm) : List Int := madeI g.kind 1 g.ram g.prog
theorem romG_len (g : Gm) : (romG g).length = 65536 := madeI_len _ _ _ _
theorem romG_byts {g : Gm} {w : World} (h : g.Ok w) : Byts (romG g) := madeI_byts h.kind h.ram h.prog
def fewG (g : Gm) : Bool := decide (g.prog.length ≤ 2000 ∧ g.plan.length ≤ 20)
def rom1 : List Int := madeI 0 0 0 [62, 18]
theorem rom1_err : errH rom1 = 0 := by kernel_rfl
def m1 : Mm := (stepM [] (newM rom1)).2
theorem m1_what : (stepM [] (newM rom1)).1.what = 1 := by kernel_rfl
theorem m1_acc : m1.acc.length = 2 := by kernel_rfl
theorem m1_a : m1.cpu.r.a = 18 := by kernel_rfl
end Go.Proofs.YtldehodcfajpjaaGreat
namespace Go.Proofs.YtldehodcfajpjaaGreat
open Go Go.VV Go.Proofs Go.RowKit
theorem bcheck_fn (b : Nat) (ad va : Value) (hA : ad = .pointer none ∨ ad = .pointer (some ⟨b, 0, none⟩)) (w : World) (hst : St w [b] [(b, blk [ad, va] 257)] w) : Does Tryz.prog 193 [.pointer (some ⟨b, 0, none⟩)] w [b] (fun v H => v = .tuple #[] ∧ H = [(b, blk [.pointer (some ⟨b, 0, none⟩), va] 257)]) := by
 refine does_of Tryz.func193 rfl rfl rfl hst ?_
 refine ZA0 ?_
 rcases hA with rfl | rfl
 ·refine ZB2 ?_
  refine RZ (x_load rfl rfl (at_own (v := .pointer none) m_m rfl)) rfl ?_
  refine ZEB ?_
  refine ZAo ?_
  refine RZ (x_toU rfl rfl rfl rfl rfl m_m (Nat.le_of_ble_eq_true rfl)) rfl ?_
  refine RZ (x_ext (fn := Tryz.f226) (E := Extern.AbiNoEscape.same) Tryz.func226 rfl rfl rfl rfl rfl (fun w => rfl)) rfl ?_
  refine RZ (x_fromU (n := 2) rfl rfl rfl rfl m_m rfl y_g) rfl ?_
  refine L_2 ?_
  refine RZ (x_storeTo (l' := [.pointer (some ⟨b, 0, none⟩), va]) 0 rfl rfl rfl rfl rfl rfl (Nat.le_of_ble_eq_true rfl) rfl) rfl ?_
  refine ZBb ?_
  exact EN (List.Sublist.refl _) ⟨rfl, rfl⟩
 ·refine ZB2 ?_
  refine RZ (x_load rfl rfl (at_own (v := .pointer (some ⟨b, 0, none⟩)) m_m rfl)) rfl ?_
  refine ZAd ?_
  refine ZDY ?_
  refine ZA6 ?_
  refine RZ (x_load rfl rfl (at_own (v := .pointer (some ⟨b, 0, none⟩)) m_m rfl)) rfl ?_
  refine Rl ?_
  refine RZ (x_nePtr rfl rfl rfl rfl) rfl ?_
  refine ZAb ?_
  refine c_sure false rfl rfl ?_
  refine ZAx ?_
  exact EN (List.Sublist.refl _) ⟨rfl, rfl⟩
theorem bwrite_fn (b : Nat) (ad va : Value) (hA : ad = .pointer none ∨ ad = .pointer (some ⟨b, 0, none⟩)) (n : Nat) (hn : n ≤ 1000000) (xs : List Value) (G : Heap) (hV : Vec 5 1 va n xs G) (x : Int) (ms : List Nat) (w : World) (hst : St w ms ((b, blk [ad, va] 257) :: G) w) : Does Tryz.prog 149 [.pointer (some ⟨b, 0, none⟩), .int .u8 x] w ms (fun v H => v = .nilIface ∧ ∃ va' G', Vec 5 1 va' (n + 1) (xs ++ [.int .u8 x]) G' ∧ H = (b, blk [.pointer (some ⟨b, 0, none⟩), va'] 257) :: G') := by
 obtain ⟨a6, c0, rfl⟩ := hV.slice
 refine does_of Tryz.func149 rfl rfl rfl hst ?_
 refine ZAa ?_
 refine ZAV ?_
 refine RX (x_callF (A := [(b, blk [ad, (.slice a6 n c0)] 257)]) (G := G) (R := fun v H => v = .tuple #[] ∧ H = [(b, blk [.pointer (some ⟨b, 0, none⟩), (.slice a6 n c0)] 257)]) [b] call_193 rfl (by intro x hx; obtain rfl := List.mem_singleton.1 hx; exact ⟨_, .head _⟩) (fun w hw => bcheck_fn b ad (.slice a6 n c0) hA w (St.lentV hw))) rfl ?_
 refine ZAX ?_
 refine ZAb ?_
 refine ZA0 ?_
 refine c_heap (L' := (b, blk [.pointer (some ⟨b, 0, none⟩), (.slice a6 n c0)] 257) :: (G ++ [])) (fun _ h => by rw [List.append_nil]; exact h) ?_
 refine ZBj ?_
 refine RZ (x_load rfl rfl (at_own (v := (.slice a6 n c0)) m_m rfl)) rfl ?_
 refine Rl ?_
 refine RX (x_slc (z := [.int .u8 0]) (l := [.int .u8 x]) (ps := [(0, .int .u8 x)]) rfl rfl rfl rfl rfl rfl) rfl ?_
 refine ZC8 fun b0 => ?_
 refine RX (x_append (A := [(b0, _), (b, _)]) (G := G) (R := []) (v := (.slice a6 n c0)) (n := n) (xs := xs) (m := 1) (T := 5) (s := 1) (by_ := 1) (ys := [.int .u8 x]) rfl rfl rfl rfl hV (fun w hw => .row _ _ _ _ _ rfl (row_own (b := b0) (.head _) w hw)) rfl o_m o_m) rfl ?_
 rintro v0 _ ⟨G0, hV0, _, rfl⟩
 obtain ⟨b1, cp9, sp0, rfl, rfl, hc0, hle9, hm9⟩ := hV0.full o_m
 refine ZAC ?_
 refine L_2 ?_
 refine RZ (x_storeTo (l' := [.pointer (some ⟨b, 0, none⟩), .slice (some ⟨b1, 0, none⟩) (n + 1) cp9]) 2 rfl rfl rfl rfl rfl rfl (Nat.le_of_ble_eq_true rfl) rfl) rfl ?_
 refine ZBb ?_
 refine ZAY ?_
 exact ends_of (fun _ _ => rets_v rfl) (fun _ h => (h.sub (.cons_cons _ (.cons _ (List.Sublist.refl _)))).perm (List.Perm.swap _ _ _)) ⟨rfl, _, _, hV0, rfl⟩
theorem bstring_fn (b : Nat) (ad va : Value) (T : List UInt8) (hT : T.length ≤ 1000000) (G : Heap) (hV : Vec 5 1 va T.length (txV T) G) (h0 : T.length = 0 → va = .slice none 0 0 ∧ G = []) (ms : List Nat) (w : World) (hst : St w ms ((b, blk [ad, va] 257) :: G) w) : Does Tryz.prog 150 [.pointer (some ⟨b, 0, none⟩)] w ms (fun v H => H = [] ∧ v = .string (bs T)) := by
 refine does_of Tryz.func150 rfl rfl rfl hst ?_
 refine ZCI ?_
 rcases hV.parts h0 with ⟨hz, rfl, rfl⟩ | ⟨b9, k9, sp9, hne, rfl, rfl⟩
 ·refine DR [4, 5, 6, 7, 8, 9] (pln [0, 2, 4, 6, 10, 12, 14, 16, 18, 9, 21, 22]) ?_
  refine D_3 ?_
  refine DL rfl rfl rfl (s_own (v := .slice none 0 0) m_m rfl) rfl ?_
  refine D_3 ?_
  refine DL rfl rfl rfl (s_own (v := .slice none 0 0) m_m rfl) rfl ?_
  refine DY rfl l_n rfl ?_
  refine DZ rfl (x_sdN rfl) rfl y_bc ?_
  refine DZ rfl (x_ustr0 rfl rfl rfl) rfl n_h ?_
  refine RD ?_
  refine ZBe ?_
  obtain rfl := List.eq_nil_of_length_eq_zero hz
  exact EV rfl (List.nil_sublist _) ⟨rfl, rfl⟩
 ·refine DR [4, 5, 6, 7, 8, 9] (pln [0, 2, 4, 6, 10, 12, 14, 16, 18, 9, 21, 22]) ?_
  refine D_3 ?_
  refine DL rfl rfl rfl (s_own (v := .slice (some ⟨b9, 0, none⟩) T.length (k9 + 1)) m_m rfl) rfl ?_
  refine D_3 ?_
  refine DL rfl rfl rfl (s_own (v := .slice (some ⟨b9, 0, none⟩) T.length (k9 + 1)) m_m rfl) rfl ?_
  refine DY rfl l_n rfl ?_
  refine DZ rfl (x_sdS rfl) rfl y_bc ?_
  refine d_heap (fun w hw => hw.perm (List.Perm.swap _ _ _)) ?_
  refine DX rfl (x_ustr (a := T) (sp := sp9) rfl rfl rfl rfl rfl (fun h => hne (by rw [h]; rfl)) hT) rfl n_h ?_
  rintro _ _ ⟨rfl, o13, rfl⟩
  refine RD ?_
  refine ZBe ?_
  exact EV rfl (List.nil_sublist _) ⟨rfl, rfl⟩
end Go.Proofs.YtldehodcfajpjaaGreat
namespace Go.Proofs.YtldehodcfajpjaaGreat
open Go Go.VV Go.Proofs
theorem lit_fn (b : Nat) (u : PU) (hu : u.Wf) (w : World) (hr : Row w b 0 (cU u)) : Does Tryz.prog 189 [.pointer (some ⟨b, 0, none⟩)] w [] (fun v H => H = [] ∧ v = .bool (litU u)) := by
 refine does_of Tryz.func189 rfl rfl rfl (St.refl w) ?_
 refine ZAa ?_
 refine ZA6 ?_
 refine RY y_dN rfl ?_
 refine RZ (x_load rfl rfl (at_old (get0 hr (cU_R hu (j := 0) y_c)) y_z)) rfl ?_
 refine ZAR ?_
 refine c_ret ?_
 exact E0 rfl ⟨rfl, congrArg _ (lit_law hu)⟩
theorem mode_fn (b : Nat) (u : PU) (hu : u.Wf) (w : World) (hr : Row w b 0 (cU u)) : Does Tryz.prog 124 [.pointer (some ⟨b, 0, none⟩)] w [] (fun v H => H = [] ∧ v = .int .i64 (modeU u)) := by
 refine does_of Tryz.func124 rfl rfl rfl (St.refl w) ?_
 refine ZAa ?_
 refine ZAQ ?_
 refine ZAA ?_
 iterate 4 refine Rl ?_
 refine RLv call_189 (fun w hw => lit_fn b u hu w (row_old hr y_z w hw)) ?_
 refine ZAR ?_
 refine KC (fun q0 q0n => ?_) (fun q0 q0n => ?_)
 ·refine ZAY ?_
  exact E0 rfl ⟨rfl, congrArg _ y_b9⟩
 ·refine ZD5 ?_
  refine ZAE ?_
  refine KC (fun q1 q1n => ?_) (fun q1 q1n => ?_)
  ·refine ZAY ?_
   exact E0 rfl ⟨rfl, congrArg _ y_b9⟩
  ·refine ZA6 ?_
   refine RZ (x_load rfl rfl (at_old (get0 hr (cU_dot hu)) y_z)) rfl ?_
   refine ZAE ?_
   refine KC (fun q2 q2n => ?_) (fun q2 q2n => ?_)
   ·refine ZAY ?_
    exact E0 rfl ⟨rfl, congrArg _ y_b9⟩
   ·refine ZA6 ?_
    refine RZ (x_load rfl rfl (at_old (get0 hr (cU_dot hu)) y_z)) rfl ?_
    refine ZAE ?_
    refine KC (fun q3 q3n => ?_) (fun q3 q3n => ?_)
    ·refine ZAY ?_
     exact E0 rfl ⟨rfl, congrArg _ y_b9⟩
    ·refine ZAx ?_
     refine ZAY ?_
     exact E0 rfl ⟨rfl, congrArg _ y_b9⟩
theorem found_fn (b : Nat) (u : PU) (hu : u.Wf) (w : World) (hr : Row w b 0 (cU u)) : Does Tryz.prog 125 [.pointer (some ⟨b, 0, none⟩)] w [] (fun v H => H = [] ∧ v = .bool (foundU u)) := by
 have q0 : 0 ≤ u.R.getD 5 0 ∧ u.R.getD 5 0 < 256 := hu.look 5
 refine does_of Tryz.func125 rfl rfl rfl (St.refl w) ?_
 refine ZCI ?_
 refine DR [1, 7, 8, 9, 10, 11, 12] (pln [0, 3, 4, 6, 8, 10, 12, 14, 16, 18, 20, 22, 24, 26, 28, 30]) ?_
 refine RD ?_
 refine DZ rfl (x_val call_189 rfl (fun w hw => lit_fn b u hu w (row_old hr y_z w hw))) rfl y_b ?_
 refine KE (fun q1 q1n => ?_) (fun q1 q1n => ?_)
 ·refine D_3 ?_
  refine DL rfl rfl rfl (s_old (get0 hr (cU_line hu)) y_z) rfl ?_
  refine D_3 ?_
  refine DY rfl (by first | exact idx_array1 5 rfl rfl rfl rfl y_c | exact idx_slice1 5 rfl rfl rfl rfl y_c | exact idx_array 5 rfl rfl rfl rfl y_c | exact idx_slice 5 rfl rfl rfl rfl y_c) rfl ?_
  refine DL rfl rfl rfl (s_old (get0 hr (cU_R hu (j := 5) y_c)) y_z) rfl ?_
  refine DW (v := (.int .i64 (u.R.getD 5 0))) rfl rfl rfl (congrArg _ (wrap_i64 o_m o_m)) ?_
  iterate 3 refine RD ?_
  refine ZBe ?_
  exact E0 rfl ⟨rfl, congrArg _ (by unfold foundU; simp_all)⟩
 ·refine D_13 ?_
  refine ZBe ?_
  exact E0 rfl ⟨rfl, congrArg _ (by unfold foundU; simp_all)⟩
theorem place_fn (b : Nat) (a : Int) (ha : 0 ≤ a ∧ a < 65536) (w : World) : Does Tryz.prog 122 [.pointer (some ⟨b, 0, none⟩), .int .u16 a] w [] (fun v H => H = [] ∧ v = placeV b a) := by
 refine does_of Tryz.func122 rfl rfl rfl (St.refl w) ?_
 refine ZAS ?_
 refine ZAQ ?_
 refine ZAU ?_
 refine KL (fun q0 q0n => ?_) (fun q0 q0n => ?_)
 ·refine ZCE ?_
  refine KC (fun q1 q1n => ?_) (fun q1 q1n => ?_)
  ·refine ZAU ?_
   refine RW (v := (.int .u16 (a - 32768))) rfl rfl (congrArg _ (wrap_u16_id y_a y_a)) ?_
   refine L_2 ?_
   refine RY (idx_array1 (a - 32768).toNat rfl rfl rfl y_a y_a) rfl ?_
   refine ZAs ?_
   exact l_end0 (fun _ _ => rets_v2 rfl rfl) ⟨rfl, by unfold placeV; rw [if_pos y_a]⟩
  ·refine ZAU ?_
   refine KL (fun q2 q2n => ?_) (fun q2 q2n => ?_)
   ·refine ZCE ?_
    refine KC (fun q3 q3n => ?_) (fun q3 q3n => ?_)
    ·refine ZAU ?_
     refine RW (v := (.int .u16 (a - 65024))) rfl rfl (congrArg _ (wrap_u16_id y_a y_a)) ?_
     refine L_2 ?_
     refine RY (idx_array1 (a - 65024).toNat rfl rfl rfl y_a y_a) rfl ?_
     refine ZAs ?_
     exact l_end0 (fun _ _ => rets_v2 rfl rfl) ⟨rfl, by unfold placeV; rw [if_neg y_a, if_pos y_a]⟩
    ·refine ZAx ?_
     refine ZBr ?_
     exact l_end0 (fun _ _ => rets_v2 rfl rfl) ⟨rfl, y_em⟩
   ·refine L_4 ?_
    refine ZBL ?_
    refine ZBr ?_
    exact l_end0 (fun _ _ => rets_v2 rfl rfl) ⟨rfl, y_em⟩
 ·refine L_4 ?_
  refine ZDY ?_
  refine ZAU ?_
  refine KL (fun q1 q1n => ?_) (fun q1 q1n => ?_)
  ·refine ZCE ?_
   refine KC (fun q2 q2n => ?_) (fun q2 q2n => ?_)
   ·refine ZAU ?_
    refine RW (v := (.int .u16 (a - 65024))) rfl rfl (congrArg _ (wrap_u16_id y_a y_a)) ?_
    refine L_2 ?_
    refine RY (idx_array1 (a - 65024).toNat rfl rfl rfl y_a y_a) rfl ?_
    refine ZAs ?_
    exact l_end0 (fun _ _ => rets_v2 rfl rfl) ⟨rfl, by unfold placeV; rw [if_neg y_a, if_pos y_a]⟩
   ·refine ZAx ?_
    refine ZBr ?_
    exact l_end0 (fun _ _ => rets_v2 rfl rfl) ⟨rfl, y_em⟩
  ·refine L_4 ?_
   refine ZBL ?_
   refine ZBr ?_
   exact l_end0 (fun _ _ => rets_v2 rfl rfl) ⟨rfl, y_em⟩
theorem number_fn (a : Int) (ha : 0 ≤ a ∧ a < 65536) (w : World) : Does Tryz.prog 123 [.int .u16 a] w [] (fun v H => H = [] ∧ v = .int .i64 (numU a)) := by
 refine does_of Tryz.func123 rfl rfl rfl (St.refl w) ?_
 refine ZAa ?_
 refine ZAV ?_
 refine RW (v := (.int .i64 (a))) rfl rfl (congrArg _ (wrap_i64 o_m o_m)) ?_
 refine RW (v := (.int .i64 (a - 65344))) rfl rfl (congrArg _ (wrap_i64 o_m o_m)) ?_
 refine ZAB ?_
 refine ZCd ?_
 refine KL (fun q0 q0n => ?_) (fun q0 q0n => ?_)
 ·refine L_7 ?_
  refine ZAj ?_
  refine ZAY ?_
  exact E0 rfl ⟨rfl, congrArg _ y_eH⟩
 ·refine ZBQ ?_
  refine KL (fun q1 q1n => ?_) (fun q1 q1n => ?_)
  ·refine L_3 ?_
   refine ZAj ?_
   refine ZAY ?_
   exact E0 rfl ⟨rfl, congrArg _ y_eH⟩
  ·refine ZAR ?_
   refine KC (fun q2 q2n => ?_) (fun q2 q2n => ?_)
   ·refine ZAY ?_
    exact E0 rfl ⟨rfl, congrArg _ y_eH⟩
   ·refine ZAx ?_
    refine ZBr ?_
    exact E0 rfl ⟨rfl, congrArg _ (by unfold numU; rw [if_neg y_a])⟩
theorem ask_fn (b : Nat) (u : PU) (hu : u.Wf) (w : World) (hst : St w [b] [(b, blk (cU u) 178)] w) : Does Tryz.prog 305 [.pointer (some ⟨b, 0, none⟩)] w [b] (fun v H => v = .int .u8 (askV u) ∧ H = [(b, blk (cU (askU u)) 178)]) := by
 have hmr := mode_range u
 refine does_of Tryz.func305 rfl rfl rfl hst ?_
 refine ZAa ?_
 refine ZA6 ?_
 refine RZ (x_load rfl rfl (at_own m_m (cU_sig hu))) rfl ?_
 refine ZAB ?_
 refine ZAA ?_
 refine RY (light_array (l := [.int .u8 8, .int .u8 16, .int .u8 32, .int .u8 0]) rfl rfl rfl y_g) rfl ?_
 refine ZBq fun b0 => ?_
 refine ZAO ?_
 refine ZA6 ?_
 refine RY y_dU rfl ?_
 refine RZ (x_load rfl rfl (at_own m_m (cU_R hu (j := 1) y_c))) rfl ?_
 refine ZEC ?_
 refine RLv call_189 (fun w hw => lit_fn b u hu w (row_own m_m w hw)) ?_
 refine KL (fun q0 q0n => ?_) (fun q0 q0n => ?_)
 ·refine L_2 ?_
  refine RLv call_124 (fun w hw => mode_fn b u hu w (row_own m_m w hw)) ?_
  refine RY (idx_array1 (modeU u).toNat rfl rfl rfl o_m o_m) rfl ?_
  refine RZ (x_load rfl rfl (at_own m_m (mb_at u))) rfl ?_
  refine L_2 ?_
  refine KL (fun q1 q1n => ?_) (fun q1 q1n => ?_)
  ·refine L_11 ?_
   refine RZ (x_storeTo (l' := cU (askU u)) 1 rfl rfl rfl rfl rfl rfl y_k (ask_put hu (sig_2 q0 q1))) rfl ?_
   refine ZAH ?_
   refine ZES ?_
   refine KL (fun q2 q2n => ?_) (fun q2 q2n => ?_)
   ·refine ZAR ?_
    refine KC (fun q3 q3n => ?_) (fun q3 q3n => ?_)
    ·exact ZEp
    ·refine ZAx ?_
     exact ZEp
   ·refine L_3 ?_
    refine ZBL ?_
    exact ZEp
  ·refine ZBQ ?_
   refine KL (fun q2 q2n => ?_) (fun q2 q2n => ?_)
   ·refine Rl ?_
    refine RLv call_125 (fun w hw => found_fn b u hu w (row_own m_m w hw)) ?_
    refine L_5 ?_
    refine RZ (x_storeTo (l' := cU (askU u)) 1 rfl rfl rfl rfl rfl rfl y_k (ask_put hu (sig_4 q0 q1 q2))) rfl ?_
    refine ZAH ?_
    refine ZES ?_
    refine KL (fun q3 q3n => ?_) (fun q3 q3n => ?_)
    ·refine ZAR ?_
     refine KC (fun q4 q4n => ?_) (fun q4 q4n => ?_)
     ·exact ZEp
     ·refine ZAx ?_
      exact ZEp
    ·refine L_3 ?_
     refine ZBL ?_
     exact ZEp
   ·refine L_7 ?_
    refine RZ (x_storeTo (l' := cU (askU u)) 1 rfl rfl rfl rfl rfl rfl y_k (ask_put hu (sig_3 q0 q1 q2))) rfl ?_
    refine ZAH ?_
    refine ZES ?_
    refine KL (fun q3 q3n => ?_) (fun q3 q3n => ?_)
    ·refine ZAR ?_
     refine KC (fun q4 q4n => ?_) (fun q4 q4n => ?_)
     ·refine ZAY ?_
      exact EV rfl (List.sublist_cons_self _ _) ⟨congrArg _ y_df, rfl⟩
     ·refine ZAx ?_
      refine ZAY ?_
      exact EV rfl (List.sublist_cons_self _ _) ⟨congrArg _ y_df, rfl⟩
    ·refine L_3 ?_
     refine ZBL ?_
     exact ZEp
 ·refine L_19 ?_
  refine RZ (x_storeTo (l' := cU (askU u)) 1 rfl rfl rfl rfl rfl rfl y_k (ask_put hu (sig_1 q0))) rfl ?_
  refine ZAH ?_
  refine ZES ?_
  refine KL (fun q1 q1n => ?_) (fun q1 q1n => ?_)
  ·refine ZAR ?_
   refine KC (fun q2 q2n => ?_) (fun q2 q2n => ?_)
   ·exact ZEp
   ·refine ZAx ?_
    exact ZEp
  ·refine L_3 ?_
   refine ZBL ?_
   exact ZEp
theorem within_fn (n fr mn : Int) (w : World) :
  Does Tryz.prog 373 [.int .i64 n, .int .i64 fr, .int .i64 mn] w [] (fun v H => H = [] ∧ v = .bool (decide (fr ≤ n) && decide (n < IntKind.i64.wrap (fr + mn)))) := by
 refine does_of Tryz.func373 rfl rfl rfl (St.refl w) ?_
 refine c_seq ?_
 refine c_region ?_
 refine Rl ?_
 refine l_nil ?_
 refine c_seq ?_
 refine c_region ?_
 iterate 3 refine Rl ?_
 refine KL (fun h1 h1n => ?_) (fun h1 h1n => ?_)
 ·iterate 7 refine Rl ?_
  refine l_nil ?_
  refine c_ret ?_
  exact E0 rfl ⟨rfl, by (simp_all; try omega)⟩
 ·refine L_7 ?_
  refine l_nil ?_
  refine c_ret ?_
  exact E0 rfl ⟨rfl, by (simp_all; try omega)⟩
theorem height_fn (c b f s : Int) (hc : 0 ≤ c ∧ c < 256) (w : World) :
  Does Tryz.prog 374 [.agg #[.int .u8 c, .int .u8 b, .int .u8 f, .int .u8 s]] w [] (fun v H => H = [] ∧ v = .int .i64 (hgt c)) := by
 refine does_of Tryz.func374 rfl rfl rfl (St.refl w) ?_
 refine c_seq ?_
 refine c_region ?_
 refine RX (x_box rfl rfl) rfl ?_
 rintro _ _ ⟨b1, rfl, rfl⟩
 refine Rl ?_
 refine l_nil ?_
 refine c_seq ?_
 refine c_seq ?_
 refine c_region ?_
 refine L_4 ?_
 refine l_nil ?_
 refine KC (fun h1 h1n => ?_) (fun h1 h1n => ?_)
 ·refine c_seq ?_
  refine c_region ?_
  refine Rl ?_
  refine l_nil ?_
  refine c_ret ?_
  exact E0 rfl ⟨rfl, congrArg _ (phgt_law hc (b := true) h1)⟩
 ·refine c_skip ?_
  refine c_seq ?_
  refine c_region ?_
  refine Rl ?_
  refine l_nil ?_
  refine c_ret ?_
  exact E0 rfl ⟨rfl, congrArg _ (phgt_law hc (b := false) h1)⟩
theorem at_fn (a : Option Addr) (cap : Nat) (l : List Int) (n : Int) (hn : 0 ≤ n) (w : World) (hB : Ns w .u8 a l) :
  Does Tryz.prog 379 [.slice a l.length cap, .int .i64 n] w [] (fun v H => H = [] ∧ v = .int .u8 (vAt l n)) := by
 refine does_of Tryz.func379 rfl rfl rfl (St.refl w) ?_
 refine c_seq ?_
 refine c_region ?_
 refine Rl ?_
 refine l_nil ?_
 refine c_seq ?_
 refine c_seq ?_
 refine c_region ?_
 refine L_2 ?_
 refine RY l_n rfl ?_
 refine RY (light_min rfl rfl) rfl ?_
 refine Rl ?_
 refine l_nil ?_
 refine KC (fun h1 h1n => ?_) (fun h1 h1n => ?_)
 ·refine c_seq ?_
  refine c_region ?_
  refine Rl ?_
  refine l_nil ?_
  refine c_ret ?_
  exact E0 rfl ⟨rfl, congrArg _ (at_none y_B)⟩
 ·refine c_skip ?_
  refine c_seq ?_
  obtain ⟨b, off, rfl, hr⟩ := hB.row (i := n.toNat) y_B
  refine c_region ?_
  refine L_2 ?_
  refine RY (idx_slice1 n.toNat rfl rfl rfl y_B y_B) rfl ?_
  refine RZ (x_load rfl rfl (at_old (hr.int y_B) y_z)) rfl ?_
  refine Rl ?_
  refine l_nil ?_
  refine c_ret ?_
  exact E0 rfl ⟨rfl, congrArg _ (at_some y_B)⟩
theorem dot_fn (a : Option Addr) (cap : Nat) (l : List Int) (hl : Byts l) (tile x y : Int) (w : World) (hB : Ns w .u8 a l) :
  Does Tryz.prog 380 [.slice a l.length cap, .int .i64 tile, .int .i64 x, .int .i64 y] w [] (fun v H => H = [] ∧ v = .int .u8 (tDot l tile x y)) := by
 refine does_of Tryz.func380 rfl rfl rfl (St.refl w) ?_
 refine c_seq ?_
 refine c_region ?_
 refine Rl ?_
 refine l_nil ?_
 refine c_seq ?_
 refine c_seq ?_
 refine c_region ?_
 refine L_2 ?_
 refine KL (fun h1 h1n => ?_) (fun h1 h1n => ?_)
 ·refine L_3 ?_
  refine l_nil ?_
  refine c_true rfl ?_
  refine c_seq ?_
  refine c_region ?_
  refine Rl ?_
  refine l_nil ?_
  refine c_ret ?_
  exact E0 rfl ⟨rfl, congrArg _ (dot_none y_B)⟩
 ·iterate 3 refine Rl ?_
  refine l_nil ?_
  refine KC (fun h2 h2n => ?_) (fun h2 h2n => ?_)
  ·refine c_seq ?_
   refine c_region ?_
   refine Rl ?_
   refine l_nil ?_
   refine c_ret ?_
   exact E0 rfl ⟨rfl, congrArg _ (dot_none y_B)⟩
  ·refine c_skip ?_
   refine c_seq ?_
   refine c_region ?_
   iterate 7 refine Rl ?_
   refine l_nil ?_
   refine c_seq ?_
   refine c_region ?_
   iterate 4 refine Rl ?_
   refine l_nil ?_
   refine c_seq ?_
   refine DR [] (pln [0, 2, 6, 12, 14, 16, 20, 5, 8, 10, 19, 22, 24, 26, 28, 30]) ?_
   iterate 7 refine RD ?_
   refine DZ rfl (x_val call_379 rfl (fun w hw => at_fn _ _ l _ (line_ok y y_B) w (hB.later0 hw))) rfl n_h ?_
   refine DY rfl (shr_pos rfl rfl (n_ok x)) rfl ?_
   refine RD ?_
   refine DZ rfl (x_val call_379 rfl (fun w hw => at_fn _ _ l _ (line1_ok y y_B) w (hB.later0 hw))) rfl n_h ?_
   refine DY rfl (shr_pos rfl rfl (n_ok x)) rfl ?_
   refine RD ?_
   refine DY rfl (shl_pos rfl rfl y_c) rfl ?_
   refine D_2 ?_
   refine d_nil ?_
   refine c_ret ?_
   exact E0 rfl ⟨rfl, congrArg _ (pdot_law hl _ _ y_B)⟩
theorem shade_fn (p c : Int) (hp : 0 ≤ p ∧ p < 256) (hc : 0 ≤ c ∧ c < 256) (w : World) :
  Does Tryz.prog 378 [.int .u8 p, .int .u8 c] w [] (fun v H => H = [] ∧ v = .int .u8 (shd p c)) := by
 refine does_of Tryz.func378 rfl rfl rfl (St.refl w) ?_
 refine c_seq ?_
 refine c_region ?_
 refine Rl ?_
 refine l_nil ?_
 refine c_seq ?_
 refine c_region ?_
 iterate 7 refine Rl ?_
 refine l_nil ?_
 refine c_ret ?_
 exact E0 rfl ⟨rfl, congrArg _ (pshd_law hp hc)⟩
theorem num_fn (v : Vw) (hv : v.Ok) (b : Int) (hb : 0 ≤ b ∧ b < 256) (w : World) :
  Does Tryz.prog 381 [.agg (cV v).toArray, .int .u8 b] w [] (fun v' H => H = [] ∧ v' = .int .i64 (tNum v.c b)) := by
 refine does_of Tryz.func381 rfl rfl rfl (St.refl w) ?_
 refine c_seq ?_
 refine c_region ?_
 refine RX (x_box rfl rfl) rfl ?_
 rintro _ _ ⟨b2, rfl, rfl⟩
 refine Rl ?_
 refine l_nil ?_
 refine c_seq ?_
 refine c_seq ?_
 refine c_region ?_
 refine L_4 ?_
 refine l_nil ?_
 refine KC (fun h1 h1n => ?_) (fun h1 h1n => ?_)
 ·refine c_seq ?_
  refine c_region ?_
  iterate 3 refine Rl ?_
  refine l_nil ?_
  refine c_ret ?_
  exact E0 rfl ⟨rfl, congrArg _ (num_yes hv.c hb h1)⟩
 ·refine c_skip ?_
  refine c_seq ?_
  refine c_region ?_
  iterate 5 refine Rl ?_
  refine l_nil ?_
  refine c_ret ?_
  exact E0 rfl ⟨rfl, congrArg _ (num_no hv.c hb h1)⟩
theorem spot_fn (a : Option Addr) (cap : Nat) (l : List Int) (hl : Byts l)(v : Vw) (hv : v.Ok) (n bit px py : Int) (hbit : (band .u8 v.c bit != 0) = decide (rBit v.c n = 1)) (hpx : 0 ≤ px ∧ px < 256) (hpy : 0 ≤ py ∧ py < 256) (w : World) (hB : Ns w .u8 a l) :
  Does Tryz.prog 372 [.agg (cV v).toArray, .slice a l.length cap, .int .u8 bit, .int .u8 px, .int .u8 py] w [] (fun v' H => H = [] ∧ v' = .int .u8 (tSpot l v.c n px py)) := by
 obtain ⟨hvc, hvx, hvy, hwx, hwy⟩ := id hv
 refine does_of Tryz.func372 rfl rfl rfl (St.refl w) ?_
 refine c_seq ?_
 refine c_region ?_
 refine RX (x_box rfl rfl) rfl ?_
 rintro _ _ ⟨b5, rfl, rfl⟩
 refine Rl ?_
 refine l_nil ?_
 refine c_seq ?_
 refine c_region ?_
 refine Rl ?_
 refine l_nil ?_
 refine c_seq ?_
 refine c_seq ?_
 refine c_region ?_
 refine L_5 ?_
 refine l_nil ?_
 refine KC (fun h1 h1n => ?_) (fun h1 h1n => ?_)
 ·refine c_region ?_
  refine Rl ?_
  refine l_nil ?_
  refine c_seq ?_
  refine c_region ?_
  iterate 3 refine Rl ?_
  refine RW (v := (.int .u8 (py / 8))) rfl rfl (congrArg _ (u8_eighth hpy)) ?_
  refine RW (v := (.int .i64 (py / 8))) rfl rfl (congrArg _ (wrap_i64 o_m o_m)) ?_
  refine RW (v := (.int .i64 (32 * (py / 8)))) rfl rfl (congrArg _ (wrap_i64 o_m o_m)) ?_
  refine RW (v := (.int .i64 (7168 + 32 * (py / 8)))) rfl rfl (congrArg _ (wrap_i64 o_m o_m)) ?_
  refine Rl ?_
  refine RW (v := (.int .u8 (px / 8))) rfl rfl (congrArg _ (u8_eighth hpx)) ?_
  refine RW (v := (.int .i64 (px / 8))) rfl rfl (congrArg _ (wrap_i64 o_m o_m)) ?_
  refine RW (v := (.int .i64 (7168 + 32 * (py / 8) + px / 8))) rfl rfl (congrArg _ (wrap_i64 o_m o_m)) ?_
  refine RZ (x_val call_379 rfl (fun w hw => at_fn _ _ l _ o_m w (hB.later0 hw))) rfl ?_
  refine Rl ?_
  refine l_nil ?_
  refine c_seq ?_
  refine c_region ?_
  refine Rl ?_
  refine RZ (x_loadA rfl rfl rfl y_h) rfl ?_
  refine Rl ?_
  refine RLv call_381 (fun w hw => num_fn v hv _ (vAt_byte hl _) w) ?_
  refine Rl ?_
  refine RW (v := (.int .i64 (px))) rfl rfl (congrArg _ (wrap_i64 o_m o_m)) ?_
  refine Rl ?_
  refine RW (v := (.int .i64 (py))) rfl rfl (congrArg _ (wrap_i64 o_m o_m)) ?_
  refine RLv call_380 (fun w hw => dot_fn _ _ l hl _ _ _ w (hB.later0 hw)) ?_
  refine Rl ?_
  refine l_nil ?_
  refine c_ret ?_
  exact E0 rfl ⟨rfl, congrArg _ (tSpot_yes (by have h9 := hbit.symm.trans h1; simpa using h9)).symm⟩
 ·refine c_skip ?_
  refine c_seq ?_
  refine c_region ?_
  iterate 3 refine Rl ?_
  refine RW (v := (.int .u8 (py / 8))) rfl rfl (congrArg _ (u8_eighth hpy)) ?_
  refine RW (v := (.int .i64 (py / 8))) rfl rfl (congrArg _ (wrap_i64 o_m o_m)) ?_
  refine RW (v := (.int .i64 (32 * (py / 8)))) rfl rfl (congrArg _ (wrap_i64 o_m o_m)) ?_
  refine RW (v := (.int .i64 (6144 + 32 * (py / 8)))) rfl rfl (congrArg _ (wrap_i64 o_m o_m)) ?_
  refine Rl ?_
  refine RW (v := (.int .u8 (px / 8))) rfl rfl (congrArg _ (u8_eighth hpx)) ?_
  refine RW (v := (.int .i64 (px / 8))) rfl rfl (congrArg _ (wrap_i64 o_m o_m)) ?_
  refine RW (v := (.int .i64 (6144 + 32 * (py / 8) + px / 8))) rfl rfl (congrArg _ (wrap_i64 o_m o_m)) ?_
  refine RZ (x_val call_379 rfl (fun w hw => at_fn _ _ l _ o_m w (hB.later0 hw))) rfl ?_
  refine Rl ?_
  refine l_nil ?_
  refine c_seq ?_
  refine c_region ?_
  refine Rl ?_
  refine RZ (x_loadA rfl rfl rfl y_h) rfl ?_
  refine Rl ?_
  refine RLv call_381 (fun w hw => num_fn v hv _ (vAt_byte hl _) w) ?_
  refine Rl ?_
  refine RW (v := (.int .i64 (px))) rfl rfl (congrArg _ (wrap_i64 o_m o_m)) ?_
  refine Rl ?_
  refine RW (v := (.int .i64 (py))) rfl rfl (congrArg _ (wrap_i64 o_m o_m)) ?_
  refine RLv call_380 (fun w hw => dot_fn _ _ l hl _ _ _ w (hB.later0 hw)) ?_
  refine Rl ?_
  refine l_nil ?_
  refine c_ret ?_
  exact E0 rfl ⟨rfl, congrArg _ (tSpot_no (by have h9 := hbit.symm.trans h1; simpa using h9)).symm⟩
theorem win_fn (a : Option Addr) (cap : Nat) (l : List Int) (hl : Byts l)(v : Vw) (hv : v.Ok)(x y : Int) (w : World) (hB : Ns w .u8 a l) :
  Does Tryz.prog 362 [.agg (cV v).toArray, .slice a l.length cap, .int .i64 x, .int .i64 y] w [] (fun v' H => H = [] ∧ v' = .int .u8 (tWin l v x y)) := by
 refine does_of Tryz.func362 rfl rfl rfl (St.refl w) ?_
 refine c_seq ?_
 refine c_region ?_
 refine RX (x_box rfl rfl) rfl ?_
 rintro _ _ ⟨b4, rfl, rfl⟩
 refine Rl ?_
 refine l_nil ?_
 refine c_seq ?_
 refine c_region ?_
 refine RZ (x_loadA rfl rfl rfl y_h) rfl ?_
 refine L_2 ?_
 refine RW (v := (.int .u8 (x % 256))) rfl rfl (congrArg _ (wrap_u8 _)) ?_
 refine Rl ?_
 refine RW (v := (.int .u8 (y % 256))) rfl rfl (congrArg _ (wrap_u8 _)) ?_
 refine RLv call_372 (fun w hw => spot_fn _ _ l hl v hv 6 64 _ _ (bitOf6 hv.c) (mod256 _) (mod256 _) w (hB.later0 hw)) ?_
 refine Rl ?_
 refine l_nil ?_
 refine c_ret ?_
 exact E0 rfl ⟨rfl, rfl⟩
theorem back_fn (a : Option Addr) (cap : Nat) (l : List Int) (hl : Byts l)(v : Vw) (hv : v.Ok)(x y : Int) (w : World) (hB : Ns w .u8 a l) :
  Does Tryz.prog 363 [.agg (cV v).toArray, .slice a l.length cap, .int .i64 x, .int .i64 y] w [] (fun v' H => H = [] ∧ v' = .int .u8 (tBack l v x y)) := by
 refine does_of Tryz.func363 rfl rfl rfl (St.refl w) ?_
 refine c_seq ?_
 refine c_region ?_
 refine RX (x_box rfl rfl) rfl ?_
 rintro _ _ ⟨b4, rfl, rfl⟩
 refine Rl ?_
 refine l_nil ?_
 refine c_seq ?_
 refine c_region ?_
 refine RZ (x_loadA rfl rfl rfl y_h) rfl ?_
 refine L_2 ?_
 refine RW (v := (.int .u8 (x % 256))) rfl rfl (congrArg _ (wrap_u8 _)) ?_
 refine L_2 ?_
 refine RW (v := (.int .u8 ((x + v.sx) % 256))) rfl rfl (congrArg _ (by rw [wrap_u8]; omega)) ?_
 refine Rl ?_
 refine RW (v := (.int .u8 (y % 256))) rfl rfl (congrArg _ (wrap_u8 _)) ?_
 refine L_2 ?_
 refine RW (v := (.int .u8 ((y + v.sy) % 256))) rfl rfl (congrArg _ (by rw [wrap_u8]; omega)) ?_
 refine RLv call_372 (fun w hw => spot_fn _ _ l hl v hv 3 8 _ _ (bitOf3 hv.c) (mod256 _) (mod256 _) w (hB.later0 hw)) ?_
 refine Rl ?_
 refine l_nil ?_
 refine c_ret ?_
 exact E0 rfl ⟨rfl, rfl⟩
theorem tline_fn (a : Option Addr) (cap : Nat) (l : List Int) (hl : Byts l)(v : Vw) (hv : v.Ok) (line own : Int) (w : World) (hB : Ns w .u8 a l) :
  Does Tryz.prog 356 [.agg (cV v).toArray, .slice a l.length cap, .int .i64 line, .int .i64 own] w [] (fun v' H => H = [] ∧ v' = .tuple #[.agg ((tLine l v line own).map (.int .u8)).toArray, .bool (tSeen v line)]) := by
 obtain ⟨hvc, hvx, hvy, hwx, hwy⟩ := id hv
 refine does_of Tryz.func356 rfl rfl rfl (St.refl w) ?_
 refine c_seq ?_
 refine c_region ?_
 refine RX (x_box rfl rfl) rfl ?_
 rintro _ _ ⟨b4, rfl, rfl⟩
 refine RX (x_alloc (l := List.replicate 160 (.int .u8 0)) y_g) rfl ?_
 rintro _ _ ⟨b8, rfl, rfl⟩
 refine Rl ?_
 refine l_nil ?_
 refine c_seq ?_
 refine c_region ?_
 refine RX (x_alloc (l := List.replicate 160 (.int .u8 0)) y_g) rfl ?_
 rintro _ _ ⟨b10, rfl, rfl⟩
 refine l_nil ?_
 refine c_seq ?_
 refine c_seq ?_
 refine c_region ?_
 refine L_4 ?_
 refine l_nil ?_
 refine KC (fun h1 h1n => ?_) (fun h1 h1n => ?_)
 ·refine c_seq ?_
  refine c_region ?_
  refine RZ (x_loadA rfl rfl rfl (row_own (.head _))) rfl ?_
  refine RZ (x_store (vs := List.replicate 160 (.int .u8 0)) (l := List.replicate 160 (.int .u8 0)) 1 rfl rfl rfl y_g y_g rfl y_z) rfl ?_
  refine Rl ?_
  refine l_nil ?_
  refine c_ret ?_
  exact l_end0 (fun w hw => rets_cell2 (l := List.replicate 160 (.int .u8 0)) rfl rfl y_g (row_own (.tail _ (.head _)) w hw) rfl) ⟨rfl, by rw [tLine_off (bit0_off hv.c h1), tSeen_off (bit0_off hv.c h1), List.map_replicate]⟩
 ·refine c_skip ?_
  refine c_keep [11, 19, 20, 21, 22, 23, 24, 25, 26, 27, 28, 29, 30, 31, 32, 33, 34] [(11, .bool (tSeen v line))] ?_ (fun y4 => ?_)
  ·refine c_region ?_
   refine L_4 ?_
   refine KL (fun h2 h2n => ?_) (fun h2 h2n => ?_)
   ·refine L_2 ?_
    refine RW (v := (.int .i64 (v.wy))) rfl rfl (congrArg _ (wrap_i64 o_m o_m)) ?_
    iterate 3 refine Rl ?_
    refine KL (fun h3 h3n => ?_) (fun h3 h3n => ?_)
    ·refine L_5 ?_
     refine l_nil ?_
     exact ⟨.cons (congrArg _ (seen_c hv h1 h2 h3)) .nil, a_g, fun _ h => h⟩
    ·refine L_5 ?_
     refine l_nil ?_
     exact ⟨.cons (congrArg _ (seen_b h3)) .nil, a_g, fun _ h => h⟩
   ·refine L_12 ?_
    refine l_nil ?_
    exact ⟨.cons (congrArg _ (seen_a hv h2)) .nil, a_g, fun _ h => h⟩
  ·refine c_seq ?_
   refine c_seq ?_
   have h1on := bit0_on hv.c h1
   refine c_region ?_
   refine Rl ?_
   refine l_nil ?_
   refine c_block ?_
   refine c_loop (σ := Nat) [12, 13, 35, 36, 37, 38, 39, 40, 41, 42, 43, 44, 45, 46, 47, 48, 49, 50, 51, 52, 53, 54, 55, 56, 57, 58, 59, 60, 61, 62, 63] (fun k => [(35, .int .i64 k)]) (fun k => [(b10, blk (upTo .u8 (tPix l v line own) 160 k) 174), (b8, blk (List.replicate 160 (.int .u8 0)) 174), (b4, blk (cV v) 404)]) (fun k => k ≤ 160) (fun k => 160 - k) 0 ?_ ?_ ?_ ?_
   ·show 0 ≤ 160; omega
   ·exact .cons rfl .nil
   ·exact fun w h => by rw [← upTo_zero]; exact h
   ·intro k y hk
    refine c_seq ?_
    refine c_region ?_
    refine Rl ?_
    refine l_nil ?_
    refine c_seq ?_
    refine KC (fun h4 h4n => ?_) (fun h4 h4n => ?_)
    ·refine c_skip ?_
     refine c_seq ?_
     refine c_block ?_
     refine c_seq ?_
     refine c_region ?_
     refine L_2 ?_
     refine l_nil ?_
     refine c_seq ?_
     refine c_region ?_
     refine Rl ?_
     refine RW (v := (.int .i64 ((k : Int) + 7))) rfl rfl (congrArg _ (wrap_i64 o_m o_m)) ?_
     refine L_2 ?_
     refine RW (v := (.int .i64 (v.wx))) rfl rfl (congrArg _ (wrap_i64 o_m o_m)) ?_
     refine RW (v := (.int .i64 ((k : Int) + 7 - v.wx))) rfl rfl (congrArg _ (wrap_i64 o_m o_m)) ?_
     refine Rl ?_
     refine l_nil ?_
     refine c_seq ?_
     refine c_seq ?_
     refine c_region ?_
     refine Rl ?_
     refine KL (fun h5 h5n => ?_) (fun h5 h5n => ?_)
     ·iterate 3 refine Rl ?_
      refine l_nil ?_
      refine KC (fun h6 h6n => ?_) (fun h6 h6n => ?_)
      ·refine c_seq ?_
       refine c_region ?_
       refine Rl ?_
       refine RZ (x_loadA rfl rfl rfl y_h) rfl ?_
       iterate 3 refine Rl ?_
       refine RLv call_362 (fun w hw => win_fn _ _ l hl v hv _ _ w (hB.later0 hw)) ?_
       refine RY (idx_array0 k rfl rfl rfl rfl y_a) rfl ?_
       refine RZ (x_store 0 rfl rfl rfl rfl rfl rfl y_dZ) rfl ?_
       rw [List.set_cons_zero, upTo_put (f := tPix l v line own) y_a _ (pix_win h1on (by simpa using h5) (by simpa using h6))]
       refine l_nil ?_
       refine c_exit rfl ?_
       refine c_region ?_
       refine RW (v := (.int .i64 ((k + 1 : Nat) : Int))) rfl rfl (congrArg _ (succ_law o_m)) ?_
       refine Rl ?_
       refine l_nil ?_
       exact ⟨k + 1, y_dM, y_dM, .cons rfl .nil, a_g, fun _ h => h⟩
      ·refine c_skip ?_
       refine c_region ?_
       refine Rl ?_
       refine RZ (x_loadA rfl rfl rfl y_h) rfl ?_
       iterate 3 refine Rl ?_
       refine RLv call_363 (fun w hw => back_fn _ _ l hl v hv _ _ w (hB.later0 hw)) ?_
       refine RY (idx_array0 k rfl rfl rfl rfl y_a) rfl ?_
       refine RZ (x_store 0 rfl rfl rfl rfl rfl rfl y_dZ) rfl ?_
       rw [List.set_cons_zero, upTo_put (f := tPix l v line own) y_a _ (pix_back h1on (by intro h0; have h1 := h0.2; simp at h6; omega))]
       refine l_nil ?_
       refine c_region ?_
       refine RW (v := (.int .i64 ((k + 1 : Nat) : Int))) rfl rfl (congrArg _ (succ_law o_m)) ?_
       refine Rl ?_
       refine l_nil ?_
       exact ⟨k + 1, y_dM, y_dM, .cons rfl .nil, a_g, fun _ h => h⟩
     ·refine L_3 ?_
      refine l_nil ?_
      refine c_false rfl ?_
      refine c_skip ?_
      refine c_region ?_
      refine Rl ?_
      refine RZ (x_loadA rfl rfl rfl y_h) rfl ?_
      iterate 3 refine Rl ?_
      refine RLv call_363 (fun w hw => back_fn _ _ l hl v hv _ _ w (hB.later0 hw)) ?_
      refine RY (idx_array0 k rfl rfl rfl rfl y_a) rfl ?_
      refine RZ (x_store 0 rfl rfl rfl rfl rfl rfl y_dZ) rfl ?_
      rw [List.set_cons_zero, upTo_put (f := tPix l v line own) y_a _ (pix_back h1on (by intro h0; rw [h0.1] at h5; cases h5))]
      refine l_nil ?_
      refine c_region ?_
      refine RW (v := (.int .i64 ((k + 1 : Nat) : Int))) rfl rfl (congrArg _ (succ_law o_m)) ?_
      refine Rl ?_
      refine l_nil ?_
      exact ⟨k + 1, y_dM, y_dM, .cons rfl .nil, a_g, fun _ h => h⟩
    ·refine c_exit rfl ?_
     refine c_seq ?_
     obtain rfl : k = 160 := by (try simp only [decide_eq_true_eq, decide_eq_false_iff_not, beq_iff_eq, beq_eq_false_iff_ne, bne_iff_ne, bne_eq_false_iff_eq, ne_eq] at *); omega
     refine c_region ?_
     refine RZ (x_loadA rfl rfl y_bJ (row_own (.head _))) rfl ?_
     refine Rl ?_
     refine RZ (x_store (vs := (upTo .u8 (tPix l v line own) 160 160)) (l := List.replicate 160 (.int .u8 0)) 1 rfl rfl rfl y_bJ (upTo_ones _ _ _ _) rfl y_cv) rfl ?_
     rw [putL_all y_cv]
     refine Rl ?_
     refine l_nil ?_
     refine c_ret ?_
     exact l_end0 (fun w hw => rets_cell2 (l := (upTo .u8 (tPix l v line own) 160 160)) rfl rfl y_bJ (row_own (.tail _ (.head _)) w hw) rfl) ⟨rfl, by rw [tLine_vals]⟩
end Go.Proofs.YtldehodcfajpjaaGreat
