/- Parts. -/
import Derived.Test.YtacejanlmhbddaaGreatQfG
set_option maxRecDepth 100000
set_option maxHeartbeats 1000000
set_option linter.all false
namespace Go.Proofs.YtacejanlmhbddaaGreat
open Go Go.VV Go.Proofs Go.RowKit Go.Proofs.Tryz
structure Mm.Fr (R m : Mm) : Prop where
 rom : m.rom = R.rom
 hd : m.hd = R.hd
 ram : m.ram.length = R.ram.length
 kind : m.bk.kind = R.bk.kind
 banks : m.bk.banks = R.bk.banks
 size : m.bk.ram = R.bk.ram
section
variable {R m : Mm}
def Mm.Fr.refl (m : Mm) : Mm.Fr m m := ⟨rfl, rfl, rfl, rfl, rfl, rfl⟩
def Mm.Fr.ask (h : Mm.Fr R m) (k : Int) (is : Bool) : Mm.Fr R (askM k is m) := by unfold askM; split; exact ⟨h.rom, h.hd, h.ram, h.kind, h.banks, h.size⟩; exact h
def Mm.Fr.save (h : Mm.Fr R m) (a x : Int) : Mm.Fr R (iN a x m) := by
 unfold iN
 split
 ·exact ⟨h.rom, h.hd, h.ram, h.kind, h.banks, h.size⟩
 split
 ·exact h
 ·exact ⟨h.rom, h.hd, by show (m.ram.set _ _).length = _; rw [ca]; exact h.ram, h.kind, h.banks, h.size⟩
def Mm.Fr.setDevice (h : Mm.Fr R m) (a x : Int) : Mm.Fr R (setDeviceM a x m) := by
 unfold setDeviceM
 split
 ·exact Mm.Fr.ask (m := { m with pd := lN x m.pd }) ⟨h.rom, h.hd, h.ram, h.kind, h.banks, h.size⟩ _ _
 repeat' split
 all_goals first | exact h | exact ⟨h.rom, h.hd, h.ram, h.kind, h.banks, h.size⟩
def Mm.Fr.poke (h : Mm.Fr R m) (a x : Int) : Mm.Fr R (pokeM a x m) := by
 unfold pokeM
 split
 ·obtain ⟨h1, h2, h3⟩ := aBz a x m.bk
  unfold nI
  split <;> exact ⟨h.rom, h.hd, h.ram, by first | exact h1.trans h.kind, by first | exact h2.trans h.banks, by first | exact h3.trans h.size⟩
 split
 ·exact Mm.Fr.ask (m := { m with u := fO m.u a x }) ⟨h.rom, h.hd, h.ram, h.kind, h.banks, h.size⟩ _ _
 split
 ·exact h.save a x
 split
 ·exact ⟨h.rom, h.hd, h.ram, h.kind, h.banks, h.size⟩
 split
 ·exact h
 ·exact h.setDevice a x
def Mm.Fr.cycle (h : Mm.Fr R m) : Mm.Fr R (cycleM m) := by
 have h1 : Mm.Fr R (cyc1 m) := Mm.Fr.ask (m := { m with cycles := (m.cycles + 1) % 18446744073709551616, tm := mT m.tm }) ⟨h.rom, h.hd, h.ram, h.kind, h.banks, h.size⟩ _ _
 have h2 : Mm.Fr R (cyc2 (cyc1 m)) := Mm.Fr.ask (m := { cyc1 m with pt := tickPt (cyc1 m).pt }) ⟨h1.rom, h1.hd, h1.ram, h1.kind, h1.banks, h1.size⟩ _ _
 have h3 : Mm.Fr R (cyc3 (cyc2 (cyc1 m))) := by unfold cyc3; split; exact ⟨h2.rom, h2.hd, h2.ram, h2.kind, h2.banks, h2.size⟩; exact h2
 have h4 : Mm.Fr R (cyc4 (cyc3 (cyc2 (cyc1 m)))) := ⟨h3.rom, h3.hd, h3.ram, h3.kind, h3.banks, h3.size⟩
 have h5 : Mm.Fr R (cyc5 (cyc4 (cyc3 (cyc2 (cyc1 m))))) := Mm.Fr.ask (Mm.Fr.ask (m := { cyc4 (cyc3 (cyc2 (cyc1 m))) with u := tickU (cyc4 (cyc3 (cyc2 (cyc1 m)))).u }) ⟨h4.rom, h4.hd, h4.ram, h4.kind, h4.banks, h4.size⟩ _ _) _ _
 show Mm.Fr R (nJ _)
 unfold nJ; split; exact ⟨h5.rom, h5.hd, h5.ram, h5.kind, h5.banks, h5.size⟩; exact h5
def Mm.Fr.note (h : Mm.Fr R m) (k a x : Int) : Mm.Fr R (sD k a x m) := ⟨h.rom, h.hd, h.ram, h.kind, h.banks, h.size⟩
end
structure Mm.Dec (m : Mm) : Prop where
 good : m.u.Good
 dy : m.ck.Dy
section
variable {m : Mm}
def Mm.Dec.ask (h : m.Dec) (k : Int) (is : Bool) : (askM k is m).Dec := by unfold askM; split; exact ⟨h.good, h.dy⟩; exact h
def Ck.Dy.hold {c : Ck} (h : c.Dy) : (uD c).Dy := h
def Mm.Dec.poke (h : m.Dec) (a : Int) {x : Int} (hx : 0 ≤ x ∧ x < 256) : (pokeM a x m).Dec := by
 unfold pokeM
 split
 ·unfold nI; split
  ·exact ⟨h.good, h.dy.hold⟩
  ·exact ⟨h.good, h.dy⟩
 split
 ·exact Mm.Dec.ask (m := { m with u := fO m.u a x }) ⟨h.good.write hx, h.dy⟩ _ _
 split
 ·unfold iN
  split
  ·exact ⟨h.good, h.dy.write _ hx⟩
  split
  ·exact h
  ·exact ⟨h.good, h.dy⟩
 split
 ·exact ⟨h.good, h.dy⟩
 split
 ·exact h
 unfold setDeviceM
 split
 ·exact Mm.Dec.ask (m := { m with pd := lN x m.pd }) ⟨h.good, h.dy⟩ _ _
 repeat' split
 all_goals first | exact h | exact ⟨h.good, h.dy⟩
def Mm.Dec.cycle (h : m.Dec) (hw : m.Wf) : (cycleM m).Dec := by
 have w1 := hw.cyc1W
 have w2 := w1.cyc2W
 have h1 : (cyc1 m).Dec := Mm.Dec.ask (m := { m with cycles := (m.cycles + 1) % 18446744073709551616, tm := mT m.tm }) ⟨h.good, h.dy⟩ _ _
 have h2 : (cyc2 (cyc1 m)).Dec := Mm.Dec.ask (m := { cyc1 m with pt := tickPt (cyc1 m).pt }) ⟨h1.good, h1.dy⟩ _ _
 have h3 : (cyc3 (cyc2 (cyc1 m))).Dec := by
  unfold cyc3; split
  ·exact ⟨h2.good.sprite _ (zH (m := { cyc2 (cyc1 m) with cp := tickCp (cyc2 (cyc1 m)).cp }) (w2.cp_ w2.cp.tick) _), h2.dy⟩
  ·exact h2
 have h4 : (cyc4 (cyc3 (cyc2 (cyc1 m)))).Dec := ⟨h3.good, h3.dy⟩
 have h5 : (cyc5 (cyc4 (cyc3 (cyc2 (cyc1 m))))).Dec := Mm.Dec.ask (Mm.Dec.ask (m := { cyc4 (cyc3 (cyc2 (cyc1 m))) with u := tickU (cyc4 (cyc3 (cyc2 (cyc1 m)))).u }) ⟨h4.good.tick, h4.dy⟩ _ _) _ _
 show (nJ _).Dec
 unfold nJ; split; exact ⟨h5.good, h5.dy.tick⟩; exact h5
end
structure MmG (R : Mm) (D : Prop) (n : Nat) (m : Mm) : Prop where
 ok : gN n m
 fr : Mm.Fr R m
 dec : D → m.Dec
def tF (R : Mm) (D : Prop) : aVh Mm where
 toaVg := dY
 ok := MmG R D
 oF := fun {n m a} h ha => ⟨⟨h.ok.get 3 ha, h.fr.cycle.note _ _ _, fun hd => (fun k : (cycleM m).Dec => ⟨k.good, k.dy⟩) ((h.dec hd).cycle h.ok.wf)⟩, uF h.ok.wf.cycle _⟩
 oR := fun {n m a} h ha => ⟨⟨h.ok.get 1 ha, h.fr.cycle.note _ _ _, fun hd => (fun k : (cycleM m).Dec => ⟨k.good, k.dy⟩) ((h.dec hd).cycle h.ok.wf)⟩, uF h.ok.wf.cycle _⟩
 oW := fun {n m a x} h ha hx => ⟨h.ok.write ha hx, by
  show Mm.Fr R (sD 2 a x _)
  refine Mm.Fr.note ?_ _ _ _
  split
  ·exact h.fr.cycle.poke _ _
  ·exact h.fr.cycle, fun hd => by
  have k := (h.dec hd).cycle h.ok.wf
  have g : (if letsCp (cycleM m).cp a = true then pokeM a x (cycleM m) else cycleM m).Dec := by
   split
   ·exact k.poke a hx
   ·exact k
  exact ⟨g.good, g.dy⟩⟩
 oI := fun {n m} h => ⟨h.ok.cycle.note 0 y_b y_b, h.fr.cycle.note _ _ _, fun hd => (fun k : (cycleM m).Dec => ⟨k.good, k.dy⟩) ((h.dec hd).cycle h.ok.wf)⟩
 oP := fun _ => aGc _
 oA := fun h hk => ⟨h.ok.ack hk, ⟨h.fr.rom, h.fr.hd, h.fr.ram, h.fr.kind, h.fr.banks, h.fr.size⟩, fun hd => ⟨(h.dec hd).good, (h.dec hd).dy⟩⟩
 oL := fun h hk => ⟨h.ok.le hk, h.fr, h.dec⟩
structure kW (R : Mm) (D : Prop) (m : Mm) : Prop where
 wf : m.Wf
 rg : m.cpu.r.Ok
 fr : Mm.Fr R m
 dec : D → m.Dec
section
variable {R m : Mm} {D : Prop} {plan : List Chg} (hp : ∀ c ∈ plan, kN c)
include hp
def aGW (h : kW R D m) : MmG R D 7 (bT plan m) := by
 have h1 : Mm.Fr R (kA (eS plan m.steps) m) := Mm.Fr.ask (m := { m with pd := hY (eS plan m.steps) m.pd }) ⟨h.fr.rom, h.fr.hd, h.fr.ram, h.fr.kind, h.fr.banks, h.fr.size⟩ _ _
 refine ⟨⟨h.wf.start hp, by show (0 : Nat) + 7 ≤ 1000000; decide, fun e he => by cases he⟩, ⟨h1.rom, h1.hd, h1.ram, h1.kind, h1.banks, h1.size⟩, fun hd => ?_⟩
 have h2 : (kA (eS plan m.steps) m).Dec := Mm.Dec.ask (m := { m with pd := hY (eS plan m.steps) m.pd }) ⟨(h.dec hd).good, (h.dec hd).dy⟩ _ _
 exact ⟨h2.good, h2.dy⟩
def kW.step (h : kW R D m) : kW R D (cE plan m).2 := by
 have hq := aDu (K := tF R D) (n := 0) (x := (⟨m.cpu, bT plan m⟩ : Rn Mm)) ⟨h.rg, aGW hp h⟩
 have hw : (dJ dY (⟨m.cpu, bT plan m⟩ : Rn Mm)).2.m.Wf := hq.m.ok.wf
 exact ⟨hw.steps_ o_m _, hq.r, ⟨hq.m.fr.rom, hq.m.fr.hd, hq.m.fr.ram, hq.m.fr.kind, hq.m.fr.banks, hq.m.fr.size⟩, fun hd => ⟨(hq.m.dec hd).good, (hq.m.dec hd).dy⟩⟩
end
def tD (plan : List Chg) (m : Mm) : Nat → Mm
 | 0 => m
 | i + 1 => (cE plan (tD plan m i)).2
def kW.run {R m : Mm} {D : Prop} {plan : List Chg} (hp : ∀ c ∈ plan, kN c) (h : kW R D m) : ∀ i, kW R D (tD plan m i)
 | 0 => h
 | i + 1 => (h.run hp i).step hp
def aNd : aSo.Ok := by constructor <;> decide
def aKB {rom : AB} (h : errH rom = 0) : 336 ≤ rom.length ∧ rom.getD 333 0 = chkH rom 25 ∧ (∃ s, sortH (rom.getD 327 0) = some s) ∧ rom.getD 328 0 ≤ 8 ∧ rom.getD 329 0 < 6 ∧ (rom.length : Int) = 32768 * 2 ^ (rom.getD 328 0).toNat := by
 unfold errH at h
 split at h
 ·cases h
 split at h
 ·cases h
 rename_i h1 h2
 split at h
 ·cases h
 rename_i s hs
 split at h
 ·cases h
 rename_i h3
 split at h
 ·cases h
 rename_i h4
 exact ⟨y_y, Decidable.byContradiction h2, ⟨s, hs⟩, y_y, y_y, Decidable.byContradiction h4⟩
def aQU {rom : AB} (h : errH rom = 0) (hb : aT rom) : (jP rom).Wf := by
 obtain ⟨_, _, ⟨s, hs⟩, h3, _, h5⟩ := aKB h
 have hk := aJv hs
 have h8 := hb.get 328
 have hram := aDK rom
 have ek : (hdH rom).kind = s.1 := by unfold hdH; rw [hs]; rfl
 have eb : (hdH rom).banks = 2 * 2 ^ (rom.getD 328 0).toNat := rfl
 have hpow : (1 : Int) ≤ 2 ^ (rom.getD 328 0).toNat ∧ (2 : Int) ^ (rom.getD 328 0).toNat ≤ 256 := by
  rcases (show rom.getD 328 0 = 0 ∨ rom.getD 328 0 = 1 ∨ rom.getD 328 0 = 2 ∨ rom.getD 328 0 = 3 ∨ rom.getD 328 0 = 4 ∨ rom.getD 328 0 = 5 ∨ rom.getD 328 0 = 6 ∨ rom.getD 328 0 = 7 ∨ rom.getD 328 0 = 8 by omega) with e | e | e | e | e | e | e | e | e <;> rw [e] <;> decide
 have hz : ∀ n : Nat, aT (List.replicate n 0) := fun n x hx => by rw [(List.mem_replicate.1 hx).2]; decide
 have a0 : (0 : Int) ≤ 0 ∧ (0 : Int) < 256 := by decide
 have b0 : (0 : Int) ≤ 0 ∧ (0 : Int) < 65536 := by decide
 have c0 : (0 : Int) ≤ 0 ∧ (0 : Int) < 18446744073709551616 := by decide
 have d0 : (0 : Int) ≤ 0 ∧ (0 : Int) < 4294967296 := by decide
 have hh : aT ([0, 0, 0, 0, 0] : AB) := by unfold aT; decide
 have ek2 : 0 ≤ (hdH rom).kind ∧ (hdH rom).kind < 256 := by rw [ek]; exact hk
 have eb2 : 0 ≤ (hdH rom).banks ∧ (hdH rom).banks < 65536 := by rw [eb]; omega
 have er2 : 0 ≤ (hdH rom).ram ∧ (hdH rom).ram < 1048576 := by omega
 have eb3 : 0 < (hdH rom).banks := by rw [eb]; omega
 have el2 : (rom.length : Int) = 16384 * (hdH rom).banks := by rw [eb, h5]; omega
 refine ⟨⟨ek2, eb2, er2, show (0 : Int) ≤ 1 ∧ (1 : Int) < 65536 by decide, b0, show (0 : Int) ≤ 255 ∧ (255 : Int) < 256 by decide⟩, ⟨⟨a0, a0, a0, show -9223372036854775808 ≤ (0 : Int) ∧ (0 : Int) ≤ 9223372036854775807 by decide, hh⟩, d0⟩, ⟨b0, a0, a0, a0⟩, ⟨a0, a0⟩, ⟨a0, a0, a0, b0, b0, b0⟩, ⟨a0, b0⟩, bdZ_wf, a0, a0, c0, c0, aFy, eb3, el2, hb, ?_, hz _, bz, hz _, bz, hz _⟩
 show ((List.replicate (hdH rom).ram.toNat (0 : Int)).length : Int) = (hdH rom).ram
 rw [bz]; omega
def aGD {rom : AB} (h : errH rom = 0) (hb : aT rom) : kW (jP rom) True (jP rom) := ⟨aQU h hb, aNd, .refl _, fun _ => ⟨aI6, show (0 : Int) ≤ 0 ∧ (0 : Int) < 512 by decide⟩⟩
def tY (rom : AB) : (jP rom).ram.length ≤ 131072 := by show (List.replicate _ (0 : Int)).length ≤ _; rw [bz]; exact (aDK rom).2
def madeAt (i : Nat) : Nat := if 4 ≤ i then 332 + i else 256 + i
def madeP (l prog : AB) : Nat → AB
 | 0 => l
 | i + 1 => (madeP l prog i).set (madeAt i) (prog.getD i 0)
def romS (b : Int) : Nat := 32768 * 2 ^ (b % 9).toNat
def madeZ (kind b ram : Int) (prog : AB) : AB := (((madeP (List.replicate (romS b) 0) prog (min prog.length 15000)).set 327 kind).set 328 (b % 9)).set 329 ram
def madeI (kind b ram : Int) (prog : AB) : AB := (madeZ kind b ram prog).set 333 (chkH (madeZ kind b ram prog) 25)
def aAO (l prog : AB) : ∀ i, (madeP l prog i).length = l.length
 | 0 => rfl
 | i + 1 => by unfold madeP; rw [ca]; exact aAO l prog i
def pQ {l : AB} (h : aT l) {x : Int} (hx : 0 ≤ x ∧ x < 256) (i : Nat) : aT (l.set i x) := fun y hy => by
 rcases ee hy with h1 | rfl
 ·exact h y h1
 ·exact hx
def aC9 {l prog : AB} (h : aT l) (hp : aT prog) : ∀ i, aT (madeP l prog i)
 | 0 => h
 | i + 1 => pQ (aC9 h hp i) (hp.get i) _
def aDn (b : Int) : 32768 ≤ romS b ∧ romS b ≤ 8388608 := by
 have hb : b % 9 = 0 ∨ b % 9 = 1 ∨ b % 9 = 2 ∨ b % 9 = 3 ∨ b % 9 = 4 ∨ b % 9 = 5 ∨ b % 9 = 6 ∨ b % 9 = 7 ∨ b % 9 = 8 := by omega
 unfold romS
 rcases hb with e | e | e | e | e | e | e | e | e <;> rw [e] <;> decide
def aA0 (kind b ram : Int) (prog : AB) : (madeZ kind b ram prog).length = romS b := by unfold madeZ; rw [ca, ca, ca, aAO, bz]
def aEL (kind b ram : Int) (prog : AB) : (madeI kind b ram prog).length = romS b := by unfold madeI; rw [ca, aA0]
def aIt (n : Nat) : aT (List.replicate n (0 : Int)) := fun x hx => by rw [(List.mem_replicate.1 hx).2]; decide
def aCE {kind b ram : Int} {prog : AB} (hk : 0 ≤ kind ∧ kind < 256) (hr : 0 ≤ ram ∧ ram < 256) (hp : aT prog) : aT (madeZ kind b ram prog) :=
 pQ (pQ (pQ (aC9 (aIt _) hp _) hk _) o_m _) hr _
def aC3 {kind b ram : Int} {prog : AB} (hk : 0 ≤ kind ∧ kind < 256) (hr : 0 ≤ ram ∧ ram < 256) (hp : aT prog) : aT (madeI kind b ram prog) :=
 pQ (aCE hk hr hp) (aBl _ _) _
def put_byte {l : AB} {n o o' : Nat} (x : Int) (hn : l.length = n) (h : o' < n) (ho : o = o') : aO (l.map (.int .u8)) o [.int .u8 x] = (l.set o' x).map (.int .u8) := by
 subst ho hn
 exact jM .u8 h x
def len_byte {l : AB} {n o : Nat} {v : AH} (hn : l.length = n) (h : o < n) : o + [v].length ≤ (l.map U_).length := by
 subst hn
 rw [Lm_]
 exact h
def madeP_n (b : Int) (prog : AB) (i : Nat) : (madeP (List.replicate (romS b) 0) prog i).length = romS b := by rw [aAO, bz]
structure Gm where
 kind : Int
 ram : Int
 pa : AC
 pc : Nat
 prog : AB
 qa : AC
 qc : Nat
 plan : List Chg
structure Gm.Ok (w : AI) (g : Gm) : Prop where
 kind : 0 ≤ g.kind ∧ g.kind < 256
 ram : 0 ≤ g.ram ∧ g.ram < 256
 prog : aT g.prog
 lp : g.prog.length ≤ g.pc ∧ g.prog.length ≤ maxLen
 np : Ns w .u8 g.pa g.prog
 plan : ∀ c ∈ g.plan, kN c
 lq : g.plan.length ≤ g.qc ∧ g.plan.length ≤ maxLen
 nq : Els w nR g.qa g.plan
def Gm.Ok.later {g : Gm} {w0 w : AI} {H : aC} (h : g.Ok w0) (hw : St w0 [] H w) : g.Ok w := ⟨h.kind, h.ram, h.prog, h.lp, h.np.later0 hw, h.plan, h.lq, h.nq.later0 hw⟩
def aRD (cs : AA) (h : Cks [.int .u64, .int .u8] cs) : ∃ x, cs = nR x ∧ kN x := by
 match cs, h with
 | [a, b], h =>
  obtain ⟨⟨x, rfl, hx⟩, ⟨y, rfl, hy⟩, _⟩ := h
  have h1 := aSO hx
  have h2 := aBr hy
  exact ⟨⟨x, y⟩, rfl, by unfold kN; dsimp only; omega⟩
section
variable {plan : List Chg} {R m n : Mm}
def aJc (x : List Ac) : bT plan { m with acc := x } = bT plan m := by unfold bT kA askM; dsimp only; split <;> rfl
def aK6 (x : List Ac) : cE plan { m with acc := x } = cE plan m := by unfold cE; rw [aJc]
def EqA (m n : Mm) : Prop := n = { m with acc := n.acc }
def EqA.step (h : EqA m n) : cE plan n = cE plan m := by rw [h]; exact aK6 _
def EqA.enc (h : EqA m n) : eK n = eK m := by rw [h]; rfl
def EqA.run (h : EqA m n) : ∀ i, EqA (tD plan m i) (tD plan n i)
 | 0 => h
 | i + 1 => by
  have e : (cE plan (tD plan n i)).2 = (cE plan (tD plan m i)).2 := by rw [(h.run i).step]
  show (cE plan (tD plan n i)).2 = { (cE plan (tD plan m i)).2 with acc := (cE plan (tD plan n i)).2.acc }
  rw [e]
def aBT (hm : kW R True m) (hn : kW R True n) : 0 = mO n (eK m) ∧ oC n (eK m) = { m with acc := [] } := by
 have hl : n.ram.length = m.ram.length := hn.fr.ram.trans hm.fr.ram.symm
 have hd := (hm.dec trivial)
 have hday : 0 ≤ m.ck.day ∧ m.ck.day < 65536 := by have := hd.dy; unfold Ck.Dy at this; omega
 have e8 : (mJ m).length = 8482 := aBM hm.wf
 have e1 : (eK m).drop 8482 = m.ram ++ eH m.u := by unfold eK; rw [← e8, ey]
 have e2 : (eK m).drop (8482 + n.ram.length) = eH m.u := by rw [← ax, e1, hl, ey]
 have e3 : ((eK m).drop 8482).take n.ram.length = m.ram := by rw [e1, hl, g9]
 have e4 : dL n (eK m) = { m with acc := n.acc } := by
  unfold dL aJh
  rw [e2, e3, aP5 hd.good, show aAh n (eK m) = _ from aNJ hm.wf hm.rg hday n _]
  have h1 : n.rom = m.rom := hn.fr.rom.trans hm.fr.rom.symm
  have h2 : n.hd = m.hd := hn.fr.hd.trans hm.fr.hd.symm
  have h3 : n.bk.kind = m.bk.kind := hn.fr.kind.trans hm.fr.kind.symm
  have h4 : n.bk.banks = m.bk.banks := hn.fr.banks.trans hm.fr.banks.symm
  have h5 : n.bk.ram = m.bk.ram := hn.fr.size.trans hm.fr.size.symm
  simp only [h1, h2, h3, h4, h5]
 have e5 : 0 = mO n (eK m) := aCK (m := n) (l := eK m) (by rw [lJ hm.wf, lJ hn.wf, hl]) (by rw [e2]; exact aMU hd.good) (by rw [e4]; rfl)
 exact ⟨e5, by rw [aEP e5, e4]⟩
def kW.acc_ (h : kW R True m) (x : List Ac) : kW R True { m with acc := x } := ⟨h.wf.acc_ x, h.rg, ⟨h.fr.rom, h.fr.hd, h.fr.ram, h.fr.kind, h.fr.banks, h.fr.size⟩, fun _ => ⟨(h.dec trivial).good, (h.dec trivial).dy⟩⟩
end
def aKC (b : Nat) (ad va : AH) (hA : ad = .pointer none ∨ ad = P_ b) (w : AI) (hst : St w [b] [(b, blk [ad, va] 333)] w) : aB prog 202 [P_ b] w [b] (fun v H => v = .tuple #[] ∧ H = [(b, blk [P_ b, va] 333)]) := by
 refine dO_ func202 hst ?_
 refine ZBL ?_
 rcases hA with rfl | rfl
 ·refine ZBr ?_
  refine RZ (aE rfl rfl (aJ (v := .pointer none) m_m rfl)) rfl (ZAQ ?_)
  refine ZBb ?_
  refine RZ (aTV rfl rfl rfl rfl rfl m_m (ae rfl)) rfl (RZ (aUO (fn := Tryz.f225) (E := Extern.AbiNoEscape.same) func225 rfl rfl rfl rfl rfl (fun w => rfl)) rfl (RZ (aQ2 (n := 2) rfl rfl rfl rfl m_m rfl y_f) rfl (ZAl ?_)))
  refine RZ (xS_ (l' := [P_ b, va]) 0) rfl (ZAA ?_)
  exact ZC2
 refine ZBr ?_
 refine RZ (aE rfl rfl (aJ (v := P_ b) m_m rfl)) rfl (ZAE ?_)
 refine ZDH ?_
 refine RZ (aE rfl rfl (aJ (v := P_ b) m_m rfl)) rfl (ZBL ?_)
 refine RZ (aRs rfl rfl rfl rfl) rfl (ZBL ?_)
 refine iO false rfl rfl ?_
 exact ZC2
def bwrite_fn (b : Nat) (ad va : AH) (hA : ad = .pointer none ∨ ad = P_ b) (n : Nat) (hn : n ≤ 1000000) (xs : AA) (G : aC) (hV : Vec 5 1 va n xs G) (x : Int) (ms : AE) (w : AI) (hst : St w ms ((b, blk [ad, va] 333) :: G) w) : aB prog 175 [P_ b, .int .u8 x] w ms (fun v H => v = .nilIface ∧ ∃ va' G', Vec 5 1 va' (n + 1) (xs ++ [.int .u8 x]) G' ∧ H = (b, blk [P_ b, va'] 333) :: G') := by
 obtain ⟨a6, c0, rfl⟩ := hV.slice
 refine dO_ func175 hst ?_
 refine ZDH ?_
 refine RX (eQ (A := [(b, blk [ad, (.slice a6 n c0)] 333)]) (G := G) (R := fun v H => v = .tuple #[] ∧ H = [(b, blk [P_ b, (.slice a6 n c0)] 333)]) [b] K_ rfl (by intro x hx; obtain rfl := List.mem_singleton.1 hx; exact ⟨_, .head _⟩) (wL_ (aKC b ad (.slice a6 n c0) hA))) rfl (ZAG ?_)
 refine ZAl ?_
 refine eW (L' := (b, blk [P_ b, (.slice a6 n c0)] 333) :: (G ++ [])) (fun _ h => by rw [bg]; exact h) ?_
 refine ZBb ?_
 refine RZ (aE rfl rfl (aJ (v := (.slice a6 n c0)) m_m rfl)) rfl (ZBL ?_)
 refine RX (dX (z := [.int .u8 0]) (l := [.int .u8 x]) (ps := [(0, .int .u8 x)]) rfl rfl rfl rfl rfl rfl) rfl (ZAq fun b0 => ?_)
 refine RX (gD (A := [(b0, _), (b, _)]) (G := G) (R := []) (v := (.slice a6 n c0)) (n := n) (xs := xs) (m := 1) (T := 5) (s := 1) (by_ := 1) (ys := [.int .u8 x]) rfl rfl rfl rfl hV (fun w hw => .row _ _ _ _ _ rfl (aA (b := b0) (.head _) w hw)) rfl o_m o_m) rfl ?_
 rintro v0 _ ⟨G0, hV0, _, rfl⟩
 obtain ⟨b1, cp9, sp0, rfl, rfl, hc0, hle9, hm9⟩ := hV0.full o_m
 refine ZB3 ?_
 refine RZ (xS_ (l' := [P_ b, .slice (Q_ b1) (n + 1) cp9]) 2) rfl (ZAA ?_)
 refine ZBn ?_
 exact eY (fun _ _ => sR rfl) (fun _ h => (h.sub (.cons_cons _ (.cons _ sR_))).perm (List.Perm.swap _ _ _)) ⟨rfl, _, _, hV0, rfl⟩
def bstring_fn (b : Nat) (ad va : AH) (T : List UInt8) (hT : T.length ≤ 1000000) (G : aC) (hV : Vec 5 1 va T.length (txV T) G) (h0 : T.length = 0 → va = .slice none 0 0 ∧ G = []) (ms : AE) (w : AI) (hst : St w ms ((b, blk [ad, va] 333) :: G) w) : aB prog 176 [P_ b] w ms (V_ (.string (bs T))) := by
 refine dO_ func176 hst ?_
 refine ZBb ?_
 rcases hV.parts h0 with ⟨hz, rfl, rfl⟩ | ⟨b9, k9, sp9, hne, rfl, rfl⟩
 ·refine DR [4, 5, 6, 7, 8, 9] (pln [0, 2, 4, 6, 10, 12, 14, 16, 18, 9, 21, 22]) ?_
  refine ZA1 ?_
  refine DL rfl rfl rfl (cJ (v := .slice none 0 0) m_m rfl) rfl (ZA1 ?_)
  refine DL rfl rfl rfl (cJ (v := .slice none 0 0) m_m rfl) rfl (DY rfl l_n rfl (DZ rfl (aUT rfl) rfl y_c2 (DZ rfl (aQI rfl rfl rfl) rfl n_h ?_)))
  refine ZA1 ?_
  obtain rfl := cw hz
  exact EV rfl (List.nil_sublist _) ⟨rfl, rfl⟩
 refine DR [4, 5, 6, 7, 8, 9] (pln [0, 2, 4, 6, 10, 12, 14, 16, 18, 9, 21, 22]) ?_
 refine ZA1 ?_
 refine DL rfl rfl rfl (cJ (v := .slice (Q_ b9) T.length (k9 + 1)) m_m rfl) rfl (ZA1 ?_)
 refine DL rfl rfl rfl (cJ (v := .slice (Q_ b9) T.length (k9 + 1)) m_m rfl) rfl (DY rfl l_n rfl (DZ rfl (aUd rfl) rfl y_c2 (eX (fun w hw => hw.perm (List.Perm.swap _ _ _)) ?_)))
 refine DX rfl (aSI (a := T) (sp := sp9) rfl rfl rfl rfl rfl (fun h => hne (by rw [h]; rfl)) hT) rfl n_h ?_
 rintro _ _ ⟨rfl, o13, rfl⟩
 refine ZA1 ?_
 exact EV rfl (List.nil_sublist _) ⟨rfl, rfl⟩
def sQ (b : Nat) (u : PU) (hu : u.Wf) (w : AI) (hr : Row w b 0 (cU u)) : aB prog 189 [P_ b] w [] (V_ (.bool (gS u))) := by
 refine dR_ func189 ?_
 refine A_9 ?_
 refine RY y_dQ rfl (RZ (aE rfl rfl (aV (nS hr (qJ hu (j := 0) y_b)) y_r)) rfl (ZBb ?_))
 exact E0 rfl ⟨rfl, cA_ _ (aRr hu)⟩
def tP (b : Nat) (u : PU) (hu : u.Wf) (w : AI) (hr : Row w b 0 (cU u)) : aB prog 158 [P_ b] w [] (V_ (.int .i64 (modeU u))) := by
 refine dR_ func158 ?_
 refine A_12 ?_
 refine RLv K_ (fun w hw => sQ b u hu w (aN hr y_r w hw)) ?_
 refine ZBr ?_
 refine KC (fun q0 z0 => ?_) (fun q0 z0 => ?_)
 ·refine ZBb ?_
  exact E0 rfl ⟨rfl, cA_ _ y_b4⟩
 refine ZBb ?_
 refine RZ (aE rfl rfl (aV (nS hr (cU_line hu)) y_r)) rfl (ZA1 ?_)
 refine KC (fun q1 z1 => ?_) (fun q1 z1 => ?_)
 ·refine ZBb ?_
  exact E0 rfl ⟨rfl, cA_ _ y_b4⟩
 refine ZBb ?_
 refine RZ (aE rfl rfl (aV (nS hr (cU_dot hu)) y_r)) rfl (ZA1 ?_)
 refine KC (fun q2 z2 => ?_) (fun q2 z2 => ?_)
 ·refine ZBb ?_
  exact E0 rfl ⟨rfl, cA_ _ y_b4⟩
 refine ZBb ?_
 refine RZ (aE rfl rfl (aV (nS hr (cU_dot hu)) y_r)) rfl (ZA1 ?_)
 refine KC (fun q3 z3 => ?_) (fun q3 z3 => ?_)
 ·refine ZBb ?_
  exact E0 rfl ⟨rfl, cA_ _ y_b4⟩
 refine ZBn ?_
 exact E0 rfl ⟨rfl, cA_ _ y_b4⟩
def aFM (b : Nat) (u : PU) (hu : u.Wf) (w : AI) (hr : Row w b 0 (cU u)) : aB prog 159 [P_ b] w [] (V_ (.bool (uK u))) := by
 have q0 : 0 ≤ u.R.getD 5 0 ∧ u.R.getD 5 0 < 256 := hu.look 5
 refine dR_ func159 ?_
 refine ZBb ?_
 refine DR [1, 7, 8, 9, 10, 11, 12] (pln [0, 3, 4, 6, 8, 10, 12, 14, 16, 18, 20, 22, 24, 26, 28, 30]) ?_
 refine ZBL ?_
 refine DZ rfl (bJ K_ rfl (fun w hw => sQ b u hu w (aN hr y_r w hw))) rfl y_d (KE (fun q1 z1 => ?_) (fun q1 z1 => ?_))
 ·refine ZA1 ?_
  refine DL rfl rfl rfl (eB (nS hr (cU_line hu)) y_r) rfl (ZA1 ?_)
  refine DY rfl (by first | exact aQ 5 rfl rfl rfl rfl y_b | exact aP 5 rfl rfl rfl rfl y_b | exact bZ 5 rfl rfl rfl rfl y_b | exact bG 5 rfl rfl rfl rfl y_b) rfl (DL rfl rfl rfl (eB (nS hr (qJ hu (j := 5) y_b)) y_r) rfl (DW (v := (.int .i64 (u.R.getD 5 0))) rfl rfl rfl (cA_ _ (aL o_m o_m)) (ZBb ?_)))
  exact E0 rfl ⟨rfl, cA_ _ (by unfold uK; simp_all)⟩
 refine A_15 ?_
 exact E0 rfl ⟨rfl, cA_ _ (by unfold uK; simp_all)⟩
def place_fn (b : Nat) (a : Int) (ha : 0 ≤ a ∧ a < 65536) (w : AI) : aB prog 156 [P_ b, .int .u16 a] w [] (V_ (placeV b a)) := by
 refine dR_ func156 ?_
 refine A_11 ?_
 refine KL (fun q0 z0 => ?_) (fun q0 z0 => ?_)
 ·refine ZBb ?_
  refine KC (fun q1 z1 => ?_) (fun q1 z1 => ?_)
  ·refine ZBr ?_
   refine RW (v := (.int .u16 (a - 32768))) rfl rfl (cA_ _ (fT y_a y_a)) (ZAl ?_)
   refine RY (aQ (a - 32768).toNat rfl rfl rfl y_a y_a) rfl (ZBr ?_)
   exact aG (fun _ _ => bX rfl rfl) ⟨rfl, by unfold placeV; rw [if_pos y_a]⟩
  refine ZBr ?_
  refine KL (fun q2 z2 => ?_) (fun q2 z2 => ?_)
  ·refine ZBb ?_
   refine KC (fun q3 z3 => ?_) (fun q3 z3 => ?_)
   ·refine ZBr ?_
    refine RW (v := (.int .u16 (a - 65024))) rfl rfl (cA_ _ (fT y_a y_a)) (ZAl ?_)
    refine RY (aQ (a - 65024).toNat rfl rfl rfl y_a y_a) rfl (ZBr ?_)
    exact aG (fun _ _ => bX rfl rfl) ⟨rfl, by unfold placeV; rw [if_neg y_a, if_pos y_a]⟩
   refine ZDH ?_
   exact aG (fun _ _ => bX rfl rfl) ⟨rfl, y_eq⟩
  refine A_13 ?_
  exact aG (fun _ _ => bX rfl rfl) ⟨rfl, y_eq⟩
 refine A_10 ?_
 refine KL (fun q1 z1 => ?_) (fun q1 z1 => ?_)
 ·refine ZBb ?_
  refine KC (fun q2 z2 => ?_) (fun q2 z2 => ?_)
  ·refine ZBr ?_
   refine RW (v := (.int .u16 (a - 65024))) rfl rfl (cA_ _ (fT y_a y_a)) (ZAl ?_)
   refine RY (aQ (a - 65024).toNat rfl rfl rfl y_a y_a) rfl (ZBr ?_)
   exact aG (fun _ _ => bX rfl rfl) ⟨rfl, by unfold placeV; rw [if_neg y_a, if_pos y_a]⟩
  refine ZDH ?_
  exact aG (fun _ _ => bX rfl rfl) ⟨rfl, y_eq⟩
 refine A_13 ?_
 exact aG (fun _ _ => bX rfl rfl) ⟨rfl, y_eq⟩
def aD8 (a : Int) (ha : 0 ≤ a ∧ a < 65536) (w : AI) : aB prog 157 [.int .u16 a] w [] (V_ (.int .i64 (numU a))) := by
 refine dR_ func157 ?_
 refine ZDH ?_
 refine RW (v := (.int .i64 (a))) rfl rfl (cA_ _ (aL o_m o_m)) (RW (v := (.int .i64 (a - 65344))) rfl rfl (cA_ _ (aL o_m o_m)) (ZDH ?_))
 refine KL (fun q0 z0 => ?_) (fun q0 z0 => ?_)
 ·refine A_14 ?_
  exact E0 rfl ⟨rfl, cA_ _ y_eN⟩
 refine ZA1 ?_
 refine KL (fun q1 z1 => ?_) (fun q1 z1 => ?_)
 ·refine A_10 ?_
  exact E0 rfl ⟨rfl, cA_ _ y_eN⟩
 refine ZBr ?_
 refine KC (fun q2 z2 => ?_) (fun q2 z2 => ?_)
 ·refine ZBb ?_
  exact E0 rfl ⟨rfl, cA_ _ y_eN⟩
 refine ZDH ?_
 exact E0 rfl ⟨rfl, cA_ _ (by unfold numU; rw [if_neg y_a])⟩
def ask_fn (b : Nat) (u : PU) (hu : u.Wf) (w : AI) (hst : St w [b] [(b, blk (cU u) 247)] w) : aB prog 310 [P_ b] w [b] (fun v H => v = .int .u8 (askV u) ∧ H = [(b, blk (cU (askU u)) 247)]) := by
 have hmr := zD u
 refine dO_ func310 hst ?_
 refine A_9 ?_
 refine RZ (aE rfl rfl (aJ m_m (cU_sig hu))) rfl (ZBr ?_)
 refine RY (lZ (l := [.int .u8 8, .int .u8 16, .int .u8 32, .int .u8 0]) rfl rfl rfl y_f) rfl (ZCN fun b0 => ?_)
 refine ZEn ?_
 refine ZBn ?_
 refine RY y_dX rfl (RZ (aE rfl rfl (aJ m_m (qJ hu (j := 1) y_b))) rfl (ZBn ?_))
 refine RLv K_ (fun w hw => sQ b u hu w (aA m_m w hw)) ?_
 refine KL (fun q0 z0 => ?_) (fun q0 z0 => ?_)
 ·refine ZAl ?_
  refine RLv K_ (fun w hw => tP b u hu w (aA m_m w hw)) ?_
  refine RY (aQ (modeU u).toNat rfl rfl rfl o_m o_m) rfl (RZ (aE rfl rfl (aJ m_m (aT7 u))) rfl (ZAl ?_))
  refine KL (fun q1 z1 => ?_) (fun q1 z1 => ?_)
  ·refine A_11 ?_
   refine RZ (aD (l' := cU (askU u)) 1 rfl rfl rfl rfl rfl rfl y_l (aBp hu (aUc q0 q1))) rfl (ZAC ?_)
   refine ZDQ ?_
   refine KL (fun q2 z2 => ?_) (fun q2 z2 => ?_)
   ·refine ZBr ?_
    refine KC (fun q3 z3 => ?_) (fun q3 z3 => ?_)
    ·refine ZBb ?_
     exact EV rfl (bf _ _) ⟨cA_ _ y_I, rfl⟩
    exact ZDz
   exact ZCk
  refine ZA1 ?_
  refine KL (fun q2 z2 => ?_) (fun q2 z2 => ?_)
  ·refine ZBL ?_
   refine RLv K_ (fun w hw => aFM b u hu w (aA m_m w hw)) ?_
   refine ZBb ?_
   refine RZ (aD (l' := cU (askU u)) 1 rfl rfl rfl rfl rfl rfl y_l (aBp hu (aUK q0 q1 q2))) rfl (ZAC ?_)
   refine ZDQ ?_
   refine KL (fun q3 z3 => ?_) (fun q3 z3 => ?_)
   ·refine ZBr ?_
    refine KC (fun q4 z4 => ?_) (fun q4 z4 => ?_)
    ·refine ZBb ?_
     exact EV rfl (bf _ _) ⟨cA_ _ y_I, rfl⟩
    exact ZDz
   exact ZCk
  refine ZDH ?_
  refine RZ (aD (l' := cU (askU u)) 1 rfl rfl rfl rfl rfl rfl y_l (aBp hu (aUw q0 q1 q2))) rfl (ZAC ?_)
  refine ZDQ ?_
  refine KL (fun q3 z3 => ?_) (fun q3 z3 => ?_)
  ·refine ZBr ?_
   refine KC (fun q4 z4 => ?_) (fun q4 z4 => ?_)
   ·refine ZBb ?_
    exact EV rfl (bf _ _) ⟨cA_ _ y_db, rfl⟩
   refine ZBn ?_
   exact EV rfl (bf _ _) ⟨cA_ _ y_db, rfl⟩
  exact ZCk
 refine A_19 ?_
 refine RZ (aD (l' := cU (askU u)) 1 rfl rfl rfl rfl rfl rfl y_l (aBp hu (aUe q0))) rfl (ZAC ?_)
 refine ZDQ ?_
 refine KL (fun q1 z1 => ?_) (fun q1 z1 => ?_)
 ·refine ZBr ?_
  refine KC (fun q2 z2 => ?_) (fun q2 z2 => ?_)
  ·refine ZBb ?_
   exact EV rfl (bf _ _) ⟨cA_ _ y_I, rfl⟩
  exact ZDz
 exact ZCk
def aAI (n fr mn : Int) (w : AI) :
  aB prog 352 [.int .i64 n, .int .i64 fr, .int .i64 mn] w [] (V_ (.bool (decide (fr ≤ n) && decide (n < IntKind.i64.wrap (fr + mn))))) := by
 refine dR_ func352 ?_
 refine A_9 ?_
 refine KL (fun h1 h1n => ?_) (fun h1 h1n => ?_)
 ·refine A_9 ?_
  exact E0 rfl ⟨rfl, by (simp_all; try omega)⟩
 refine A_9 ?_
 exact E0 rfl ⟨rfl, by (simp_all; try omega)⟩
def aDU (c b f s : Int) (hc : 0 ≤ c ∧ c < 256) (w : AI) :
  aB prog 353 [.agg #[.int .u8 c, .int .u8 b, .int .u8 f, .int .u8 s]] w [] (V_ (.int .i64 (hgt c))) := by
 refine dR_ func353 ?_
 refine A_2 ?_
 refine RX (cM rfl rfl) rfl ?_
 rintro _ _ ⟨b1, rfl, rfl⟩
 refine A_10 ?_
 refine KC (fun h1 h1n => ?_) (fun h1 h1n => ?_)
 ·refine A_5 ?_
  exact E0 rfl ⟨rfl, cA_ _ (aF6 hc (b := true) h1)⟩
 refine A_6 ?_
 exact E0 rfl ⟨rfl, cA_ _ (aF6 hc (b := false) h1)⟩
def aE6 (a : AC) (cap : Nat) (l : AB) (n : Int) (hn : 0 ≤ n) (w : AI) (hB : Ns w .u8 a l) :
  aB prog 358 [.slice a l.length cap, .int .i64 n] w [] (V_ (.int .u8 (vAt l n))) := by
 refine dR_ func358 ?_
 refine A_9 ?_
 refine RY l_n rfl (RY (gH rfl rfl) rfl (A_2 ?_))
 refine KC (fun h1 h1n => ?_) (fun h1 h1n => ?_)
 ·refine A_5 ?_
  exact E0 rfl ⟨rfl, cA_ _ (aQD y_x)⟩
 refine A_2 ?_
 obtain ⟨b, off, rfl, hr⟩ := hB.row (i := n.toNat) y_x
 refine A_3 ?_
 refine RY (aP n.toNat rfl rfl rfl y_x y_x) rfl (RZ (aE rfl rfl (aV (hr.int y_x) y_r)) rfl (A_3 ?_))
 exact E0 rfl ⟨rfl, cA_ _ (aRp y_x)⟩
def nV (a : AC) (cap : Nat) (l : AB) (hl : aT l) (tile x y : Int) (w : AI) (hB : Ns w .u8 a l) :
  aB prog 359 [.slice a l.length cap, .int .i64 tile, .int .i64 x, .int .i64 y] w [] (V_ (.int .u8 (mH l tile x y))) := by
 refine dR_ func359 ?_
 refine A_9 ?_
 refine KL (fun h1 h1n => ?_) (fun h1 h1n => ?_)
 ·refine A_10 ?_
  exact E0 rfl ⟨rfl, cA_ _ (aGi y_x)⟩
 refine A_4 ?_
 refine KC (fun h2 h2n => ?_) (fun h2 h2n => ?_)
 ·refine A_5 ?_
  exact E0 rfl ⟨rfl, cA_ _ (aGi y_x)⟩
 refine A_19 ?_
 refine DR [] (pln [0, 2, 6, 12, 14, 16, 20, 5, 8, 10, 19, 22, 24, 26, 28, 30]) ?_
 refine A_7 ?_
 refine DZ rfl (bJ K_ rfl (fun w hw => aE6 _ _ l _ (aRb y y_x) w (hB.later0 hw))) rfl n_h (DY rfl (dU rfl rfl (aTv x)) rfl (A_1 ?_))
 refine DZ rfl (bJ K_ rfl (fun w hw => aE6 _ _ l _ (aMP y y_x) w (hB.later0 hw))) rfl n_h (DY rfl (dU rfl rfl (aTv x)) rfl (A_1 ?_))
 refine DY rfl (dO rfl rfl y_b) rfl (A_4 ?_)
 exact E0 rfl ⟨rfl, cA_ _ (aOS hl _ _ y_x)⟩
def rT (p c : Int) (hp : 0 ≤ p ∧ p < 256) (hc : 0 ≤ c ∧ c < 256) (w : AI) :
  aB prog 357 [.int .u8 p, .int .u8 c] w [] (V_ (.int .u8 (shd p c))) := by
 refine dR_ func357 ?_
 refine A_15 ?_
 exact E0 rfl ⟨rfl, cA_ _ (aM5 hp hc)⟩
def aKc (v : Vw) (hv : v.Ok) (b : Int) (hb : 0 ≤ b ∧ b < 256) (w : AI) :
  aB prog 360 [.agg (cV v).toArray, .int .u8 b] w [] (fun v' H => H = [] ∧ v' = .int .i64 (wM v.c b)) := by
 refine dR_ func360 ?_
 refine A_2 ?_
 refine RX (cM rfl rfl) rfl ?_
 rintro _ _ ⟨b2, rfl, rfl⟩
 refine A_10 ?_
 refine KC (fun h1 h1n => ?_) (fun h1 h1n => ?_)
 ·refine A_7 ?_
  exact E0 rfl ⟨rfl, cA_ _ (aPX hv.c hb h1)⟩
 refine A_10 ?_
 exact E0 rfl ⟨rfl, cA_ _ (aR2 hv.c hb h1)⟩
def aHB (a : AC) (cap : Nat) (l : AB) (hl : aT l)(v : Vw) (hv : v.Ok) (n bit px py : Int) (hbit : (aH .u8 v.c bit != 0) = decide (dM v.c n = 1)) (hpx : 0 ≤ px ∧ px < 256) (hpy : 0 ≤ py ∧ py < 256) (w : AI) (hB : Ns w .u8 a l) :
  aB prog 351 [.agg (cV v).toArray, .slice a l.length cap, .int .u8 bit, .int .u8 px, .int .u8 py] w [] (fun v' H => H = [] ∧ v' = .int .u8 (vP l v.c n px py)) := by
 obtain ⟨hvc, hvx, hvy, hwx, hwy⟩ := id hv
 refine dR_ func351 ?_
 refine A_2 ?_
 refine RX (cM rfl rfl) rfl ?_
 rintro _ _ ⟨b5, rfl, rfl⟩
 refine A_15 ?_
 refine KC (fun h1 h1n => ?_) (fun h1 h1n => ?_)
 ·refine A_8 ?_
  refine RW (v := (.int .u8 (py / 8))) rfl rfl (cA_ _ (vJ hpy)) (RW (v := (.int .i64 (py / 8))) rfl rfl (cA_ _ (aL o_m o_m)) (RW (v := (.int .i64 (32 * (py / 8)))) rfl rfl (cA_ _ (aL o_m o_m)) (RW (v := (.int .i64 (7168 + 32 * (py / 8)))) rfl rfl (cA_ _ (aL o_m o_m)) ?_)))
  refine A_1 ?_
  refine RW (v := (.int .u8 (px / 8))) rfl rfl (cA_ _ (vJ hpx)) (RW (v := (.int .i64 (px / 8))) rfl rfl (cA_ _ (aL o_m o_m)) (RW (v := (.int .i64 (7168 + 32 * (py / 8) + px / 8))) rfl rfl (cA_ _ (aL o_m o_m)) (RZ (bJ K_ rfl (fun w hw => aE6 _ _ l _ o_m w (hB.later0 hw))) rfl ?_)))
  refine A_5 ?_
  refine RZ (aK rfl rfl rfl y_h) rfl (A_1 ?_)
  refine RLv K_ (wQ_ (aKc v hv _ (zS hl _))) ?_
  refine A_1 ?_
  refine RW (v := (.int .i64 (px))) rfl rfl (cA_ _ (aL o_m o_m)) (A_1 ?_)
  refine RW (v := (.int .i64 (py))) rfl rfl (cA_ _ (aL o_m o_m)) (RLv K_ (fun w hw => nV _ _ l hl _ _ _ w (hB.later0 hw)) ?_)
  refine A_3 ?_
  exact E0 rfl ⟨rfl, cA_ _ (aKx (by have h9 := hbit.symm.trans h1; simpa using h9)).symm⟩
 refine A_6 ?_
 refine RW (v := (.int .u8 (py / 8))) rfl rfl (cA_ _ (vJ hpy)) (RW (v := (.int .i64 (py / 8))) rfl rfl (cA_ _ (aL o_m o_m)) (RW (v := (.int .i64 (32 * (py / 8)))) rfl rfl (cA_ _ (aL o_m o_m)) (RW (v := (.int .i64 (6144 + 32 * (py / 8)))) rfl rfl (cA_ _ (aL o_m o_m)) ?_)))
 refine A_1 ?_
 refine RW (v := (.int .u8 (px / 8))) rfl rfl (cA_ _ (vJ hpx)) (RW (v := (.int .i64 (px / 8))) rfl rfl (cA_ _ (aL o_m o_m)) (RW (v := (.int .i64 (6144 + 32 * (py / 8) + px / 8))) rfl rfl (cA_ _ (aL o_m o_m)) (RZ (bJ K_ rfl (fun w hw => aE6 _ _ l _ o_m w (hB.later0 hw))) rfl ?_)))
 refine A_5 ?_
 refine RZ (aK rfl rfl rfl y_h) rfl (A_1 ?_)
 refine RLv K_ (wQ_ (aKc v hv _ (zS hl _))) ?_
 refine A_1 ?_
 refine RW (v := (.int .i64 (px))) rfl rfl (cA_ _ (aL o_m o_m)) (A_1 ?_)
 refine RW (v := (.int .i64 (py))) rfl rfl (cA_ _ (aL o_m o_m)) (RLv K_ (fun w hw => nV _ _ l hl _ _ _ w (hB.later0 hw)) ?_)
 refine A_3 ?_
 exact E0 rfl ⟨rfl, cA_ _ (aNQ (by have h9 := hbit.symm.trans h1; simpa using h9)).symm⟩
def aSs (a : AC) (cap : Nat) (l : AB) (hl : aT l)(v : Vw) (hv : v.Ok)(x y : Int) (w : AI) (hB : Ns w .u8 a l) :
  aB prog 342 [.agg (cV v).toArray, .slice a l.length cap, .int .i64 x, .int .i64 y] w [] (fun v' H => H = [] ∧ v' = .int .u8 (aJG l v x y)) := by
 refine dR_ func342 ?_
 refine A_2 ?_
 refine RX (cM rfl rfl) rfl ?_
 rintro _ _ ⟨b4, rfl, rfl⟩
 refine A_4 ?_
 refine RZ (aK rfl rfl rfl y_h) rfl (A_2 ?_)
 refine RW (v := (.int .u8 (x % 256))) rfl rfl (cA_ _ (fL _)) (A_1 ?_)
 refine RW (v := (.int .u8 (y % 256))) rfl rfl (cA_ _ (fL _)) (RLv K_ (fun w hw => aHB _ _ l hl v hv 6 64 _ _ (aMs hv.c) (aC1 _) (aC1 _) w (hB.later0 hw)) ?_)
 refine A_3 ?_
 exact E0 rfl ⟨rfl, rfl⟩
def aH0 (a : AC) (cap : Nat) (l : AB) (hl : aT l)(v : Vw) (hv : v.Ok)(x y : Int) (w : AI) (hB : Ns w .u8 a l) :
  aB prog 343 [.agg (cV v).toArray, .slice a l.length cap, .int .i64 x, .int .i64 y] w [] (fun v' H => H = [] ∧ v' = .int .u8 (aE2 l v x y)) := by
 refine dR_ func343 ?_
 refine A_2 ?_
 refine RX (cM rfl rfl) rfl ?_
 rintro _ _ ⟨b4, rfl, rfl⟩
 refine A_4 ?_
 refine RZ (aK rfl rfl rfl y_h) rfl (A_2 ?_)
 refine RW (v := (.int .u8 (x % 256))) rfl rfl (cA_ _ (fL _)) (A_2 ?_)
 refine RW (v := (.int .u8 ((x + v.sx) % 256))) rfl rfl (cA_ _ (by rw [fL]; omega)) (A_1 ?_)
 refine RW (v := (.int .u8 (y % 256))) rfl rfl (cA_ _ (fL _)) (A_2 ?_)
 refine RW (v := (.int .u8 ((y + v.sy) % 256))) rfl rfl (cA_ _ (by rw [fL]; omega)) (RLv K_ (fun w hw => aHB _ _ l hl v hv 3 8 _ _ (aTB hv.c) (aC1 _) (aC1 _) w (hB.later0 hw)) ?_)
 refine A_3 ?_
 exact E0 rfl ⟨rfl, rfl⟩
def tline_fn (a : AC) (cap : Nat) (l : AB) (hl : aT l)(v : Vw) (hv : v.Ok) (line own : Int) (w : AI) (hB : Ns w .u8 a l) :
  aB prog 336 [.agg (cV v).toArray, .slice a l.length cap, .int .i64 line, .int .i64 own] w [] (fun v' H => H = [] ∧ v' = .tuple #[.agg ((wC l v line own).map (.int .u8)).toArray, .bool (jZ v line)]) := by
 obtain ⟨hvc, hvx, hvy, hwx, hwy⟩ := id hv
 refine dR_ func336 ?_
 refine A_2 ?_
 refine RX (cM rfl rfl) rfl ?_
 rintro _ _ ⟨b4, rfl, rfl⟩
 refine RX (cG (l := List.replicate 160 (.int .u8 0)) y_f) rfl ?_
 rintro _ _ ⟨b8, rfl, rfl⟩
 refine A_4 ?_
 refine RX (cG (l := List.replicate 160 (.int .u8 0)) y_f) rfl ?_
 rintro _ _ ⟨b10, rfl, rfl⟩
 refine A_9 ?_
 refine KC (fun h1 h1n => ?_) (fun h1 h1n => ?_)
 ·refine A_2 ?_
  refine RZ (aK rfl rfl rfl (aA (.head _))) rfl (RZ (dD (vs := List.replicate 160 (.int .u8 0)) (l := List.replicate 160 (.int .u8 0)) 1 rfl rfl rfl y_f y_f rfl y_r) rfl (A_3 ?_))
  exact aG (fun w hw => aY (l := List.replicate 160 (.int .u8 0)) rfl rfl y_f (aA (.tail _ (.head _)) w hw) rfl) ⟨rfl, by rw [aKI (aFB hv.c h1), aMp (aFB hv.c h1), i7]⟩
 refine A_1 ?_
 refine aCW [11, 19, 20, 21, 22, 23, 24, 25, 26, 27, 28, 29, 30, 31, 32, 33, 34] [(11, .bool (jZ v line))] ?_ (fun y4 => ?_)
 ·refine A_5 ?_
  refine KL (fun h2 h2n => ?_) (fun h2 h2n => ?_)
  ·refine A_2 ?_
   refine RW (v := (.int .i64 (v.wy))) rfl rfl (cA_ _ (aL o_m o_m)) (A_3 ?_)
   refine KL (fun h3 h3n => ?_) (fun h3 h3n => ?_)
   ·refine A_6 ?_
    exact ⟨.cons (cA_ _ (aR5 hv h1 h2 h3)) .nil, a_g, fun _ h => h⟩
   refine A_6 ?_
   exact ⟨.cons (cA_ _ (aSp h3)) .nil, a_g, fun _ h => h⟩
  refine A_13 ?_
  exact ⟨.cons (cA_ _ (aSL hv h2)) .nil, a_g, fun _ h => h⟩
 refine A_2 ?_
 have h1on := aQW hv.c h1
 refine A_4 ?_
 refine bD (σ := Nat) [12, 13, 35, 36, 37, 38, 39, 40, 41, 42, 43, 44, 45, 46, 47, 48, 49, 50, 51, 52, 53, 54, 55, 56, 57, 58, 59, 60, 61, 62, 63] (fun k => [(35, .int .i64 k)]) (fun k => [(b10, blk (lB .u8 (mS l v line own) 160 k) 243), (b8, blk (List.replicate 160 (.int .u8 0)) 243), (b4, blk (cV v) 448)]) (fun k => k ≤ 160) (fun k => 160 - k) 0 ?_ ?_ ?_ ?_
 ·show 0 ≤ 160; omega
 ·exact .cons rfl .nil
 ·exact fun w h => by rw [← aEi]; exact h
 intro k y hk
 refine A_5 ?_
 refine KC (fun h4 h4n => ?_) (fun h4 h4n => ?_)
 ·refine A_11 ?_
  refine RW (v := (.int .i64 ((k : Int) + 7))) rfl rfl (cA_ _ (aL o_m o_m)) (A_2 ?_)
  refine RW (v := (.int .i64 (v.wx))) rfl rfl (cA_ _ (aL o_m o_m)) (RW (v := (.int .i64 ((k : Int) + 7 - v.wx))) rfl rfl (cA_ _ (aL o_m o_m)) (A_6 ?_))
  refine KL (fun h5 h5n => ?_) (fun h5 h5n => ?_)
  ·refine A_4 ?_
   refine KC (fun h6 h6n => ?_) (fun h6 h6n => ?_)
   ·refine A_3 ?_
    refine RZ (aK rfl rfl rfl y_h) rfl (A_3 ?_)
    refine RLv K_ (fun w hw => aSs _ _ l hl v hv _ _ w (hB.later0 hw)) ?_
    refine RY (qU k rfl rfl rfl rfl y_a) rfl (RZ (dD 0 rfl rfl rfl rfl rfl rfl y_d5) rfl ?_)
    rw [ai, yU (f := mS l v line own) y_a _ (aQ8 h1on (by simpa using h5) (by simpa using h6))]
    refine A_3 ?_
    refine RW (v := (.int .i64 ((k + 1 : Nat) : Int))) rfl rfl (cA_ _ (bC o_m)) (A_2 ?_)
    exact ⟨k + 1, y_dP, y_dP, .cons rfl .nil, a_g, fun _ h => h⟩
   refine A_3 ?_
   refine RZ (aK rfl rfl rfl y_h) rfl (A_3 ?_)
   refine RLv K_ (fun w hw => aH0 _ _ l hl v hv _ _ w (hB.later0 hw)) ?_
   refine RY (qU k rfl rfl rfl rfl y_a) rfl (RZ (dD 0 rfl rfl rfl rfl rfl rfl y_d5) rfl ?_)
   rw [ai, yU (f := mS l v line own) y_a _ (aGv h1on (by intro h0; have h1 := h0.2; simp at h6; omega))]
   refine A_2 ?_
   refine RW (v := (.int .i64 ((k + 1 : Nat) : Int))) rfl rfl (cA_ _ (bC o_m)) (A_2 ?_)
   exact ⟨k + 1, y_dP, y_dP, .cons rfl .nil, a_g, fun _ h => h⟩
  refine A_8 ?_
  refine RZ (aK rfl rfl rfl y_h) rfl (A_3 ?_)
  refine RLv K_ (fun w hw => aH0 _ _ l hl v hv _ _ w (hB.later0 hw)) ?_
  refine RY (qU k rfl rfl rfl rfl y_a) rfl (RZ (dD 0 rfl rfl rfl rfl rfl rfl y_d5) rfl ?_)
  rw [ai, yU (f := mS l v line own) y_a _ (aGv h1on (by intro h0; rw [h0.1] at h5; cases h5))]
  refine A_2 ?_
  refine RW (v := (.int .i64 ((k + 1 : Nat) : Int))) rfl rfl (cA_ _ (bC o_m)) (A_2 ?_)
  exact ⟨k + 1, y_dP, y_dP, .cons rfl .nil, a_g, fun _ h => h⟩
 refine A_2 ?_
 obtain rfl : k = 160 := by (try simp only [decide_eq_true_eq, decide_eq_false_iff_not, beq_iff_eq, beq_eq_false_iff_ne, bne_iff_ne, bne_eq_false_iff_eq, ne_eq] at *); omega
 refine A_1 ?_
 refine RZ (aK rfl rfl y_bF (aA (.head _))) rfl (A_1 ?_)
 refine RZ (dD (vs := (lB .u8 (mS l v line own) 160 160)) (l := List.replicate 160 (.int .u8 0)) 1 rfl rfl rfl y_bF (aEu _ _ _ _) rfl y_co) rfl ?_
 rw [oQ y_co]
 refine A_3 ?_
 exact aG (fun w hw => aY (l := (lB .u8 (mS l v line own) 160 160)) rfl rfl y_bF (aA (.tail _ (.head _)) w hw) rfl) ⟨rfl, by rw [aIM]⟩
def aPw (a : AC) (cap : Nat) (l : AB) (hl : aT l) (n : Int) (hn : 0 ≤ n ∧ n < 40) (hcap : l.length ≤ cap) (w : AI) (hB : Ns w .u8 a l) :
  aB prog 345 [.slice a l.length cap, .int .i64 n] w [] (V_ (.agg #[.int .i64 n, .int .i64 (oB l n 0 - 16), .int .i64 (oB l n 1 - 8), .int .i64 (oB l n 2), .int .u8 (oB l n 3)])) := by
 refine dR_ func345 ?_
 refine A_2 ?_
 refine RX (cG rfl) rfl ?_
 rintro _ _ ⟨b4, rfl, rfl⟩
 refine A_3 ?_
 refine RX (cG rfl) rfl ?_
 rintro _ _ ⟨b5, rfl, rfl⟩
 refine A_6 ?_
 rw [aL (n := 4 * n) o_m o_m]
 refine A_6 ?_
 refine RY l_n rfl (A_2 ?_)
 refine KC (fun h1 h1n => ?_) (fun h1 h1n => ?_)
 ·obtain ⟨b, off, rfl, hr⟩ := hB.row (i := (4 * n).toNat) y_x
  refine DR [] (pln [0, 2, 4, 6, 9]) ?_
  refine DY rfl (eM 0 4 rfl rfl rfl rfl rfl rfl y_b y_b) rfl (A_2 ?_)
  refine DY rfl (dT (4 * n).toNat l.length rfl rfl rfl rfl (by show 4 * n = _; omega) rfl y_x hcap) rfl (DZ rfl (aFd (off := 0) (dl := 4) (m := l.length - (4 * n).toNat) 0 rfl rfl rfl rfl rfl (fun w hw => .row _ _ _ _ _ y_r ((aN hr y_r w hw).cut1 (k := l.length - (4 * n).toNat) (c := cap) y_x)) (aMN _ _ _ _) y_be) rfl n_h ?_)
  simp only [ai, aMO hn y_x]
  refine A_4 ?_
  refine RY y_dQ rfl (A_3 ?_)
  refine RY y_dX rfl (A_3 ?_)
  refine RY y_d0 rfl (A_2 ?_)
  refine RY y_dV rfl (A_1 ?_)
  refine RS ?_
  refine RZ s_t rfl (A_2 ?_)
  exact aG (fun w hw => aW rfl rfl rfl (aA m_m w hw)) ⟨rfl, aMr hl n⟩
 refine A_2 ?_
 rw [aJy hn y_x]
 refine A_2 ?_
 refine RY y_dQ rfl (A_3 ?_)
 refine RY y_dX rfl (A_3 ?_)
 refine RY y_d0 rfl (A_2 ?_)
 refine RY y_dV rfl (A_1 ?_)
 refine RS ?_
 refine RZ s_t rfl (A_2 ?_)
 exact aG (fun w hw => aW rfl rfl rfl (aA m_m w hw)) ⟨rfl, aMr hl n⟩
def aQL (c cb cf cs : Int) (hc : 0 ≤ c ∧ c < 256) (a : AC) (cap : Nat) (l : AB) (hl : aT l) (n y x0 tile how x line : Int)
  (hy : -16 ≤ y ∧ y ≤ 240) (hx : -8 ≤ x0 ∧ x0 ≤ 248) (ht : 0 ≤ tile ∧ tile < 256) (hh : 0 ≤ how ∧ how < 256) (w : AI) (hB : Ns w .u8 a l) :
  aB prog 356 [.agg #[.int .u8 c, .int .u8 cb, .int .u8 cf, .int .u8 cs], .slice a l.length cap, .agg #[.int .i64 n, .int .i64 y, .int .i64 x0, .int .i64 tile, .int .u8 how], .int .i64 x, .int .i64 line] w [] (V_ (.int .u8 (pF l c y x0 tile how x line))) := by
 refine dR_ func356 ?_
 refine A_2 ?_
 refine RX (cM rfl rfl) rfl ?_
 rintro _ _ ⟨b5, rfl, rfl⟩
 refine RX (cM rfl rfl) rfl ?_
 rintro _ _ ⟨b7, rfl, rfl⟩
 refine A_4 ?_
 refine RZ (aK rfl rfl rfl y_ba) rfl (RLv K_ (wQ_ (aDU c cb cf cs hc)) ?_)
 refine A_9 ?_
 refine RLv K_ (wQ_ (aAI _ _ _)) ?_
 refine A_1 ?_
 refine KL (fun h1 h1n => ?_) (fun h1 h1n => ?_)
 ·refine A_13 ?_
  exact E0 rfl ⟨rfl, cA_ _ (aCT hy hx y_x)⟩
 refine A_3 ?_
 refine RLv K_ (wQ_ (aAI _ _ _)) ?_
 refine A_3 ?_
 refine KC (fun h2 h2n => ?_) (fun h2 h2n => ?_)
 ·refine A_5 ?_
  exact E0 rfl ⟨rfl, cA_ _ (aCT hy hx y_x)⟩
 refine A_2 ?_
 refine DR [4, 5, 6, 7, 8] (pln [0, 2, 4, 6, 8, 10, 12, 14, 16, 18]) ?_
 refine A_19 ?_
 refine KC (fun h3 h3n => ?_) (fun h3 h3n => ?_)
 ·refine A_15 ?_
  refine KC (fun h4 h4n => ?_) (fun h4 h4n => ?_)
  ·refine A_17 ?_
   refine KC (fun h5 h5n => ?_) (fun h5 h5n => ?_)
   ·refine A_14 ?_
    refine RLv K_ (fun w hw => nV _ _ l hl _ _ _ w (hB.later0 hw)) ?_
    refine A_3 ?_
    exact E0 rfl ⟨rfl, cA_ _ (kY hy hx ht hh y_x y_x (bu := true) (bt := true) (bh := true) h3 h4 h5)⟩
   refine A_7 ?_
   refine RLv K_ (fun w hw => nV _ _ l hl _ _ _ w (hB.later0 hw)) ?_
   refine A_3 ?_
   exact E0 rfl ⟨rfl, cA_ _ (kY hy hx ht hh y_x y_x (bu := true) (bt := true) (bh := false) h3 h4 h5)⟩
  refine A_13 ?_
  refine KC (fun h6 h6n => ?_) (fun h6 h6n => ?_)
  ·refine A_14 ?_
   refine RLv K_ (fun w hw => nV _ _ l hl _ _ _ w (hB.later0 hw)) ?_
   refine A_3 ?_
   exact E0 rfl ⟨rfl, cA_ _ (kY hy hx ht hh y_x y_x (bu := true) (bt := false) (bh := true) h3 h4 h6)⟩
  refine A_7 ?_
  refine RLv K_ (fun w hw => nV _ _ l hl _ _ _ w (hB.later0 hw)) ?_
  refine A_3 ?_
  exact E0 rfl ⟨rfl, cA_ _ (kY hy hx ht hh y_x y_x (bu := true) (bt := false) (bh := false) h3 h4 h6)⟩
 refine A_9 ?_
 refine KC (fun h7 h7n => ?_) (fun h7 h7n => ?_)
 ·refine A_17 ?_
  refine KC (fun h8 h8n => ?_) (fun h8 h8n => ?_)
  ·refine A_14 ?_
   refine RLv K_ (fun w hw => nV _ _ l hl _ _ _ w (hB.later0 hw)) ?_
   refine A_3 ?_
   exact E0 rfl ⟨rfl, cA_ _ (kY hy hx ht hh y_x y_x (bu := false) (bt := true) (bh := true) h3 h7 h8)⟩
  refine A_7 ?_
  refine RLv K_ (fun w hw => nV _ _ l hl _ _ _ w (hB.later0 hw)) ?_
  refine A_3 ?_
  exact E0 rfl ⟨rfl, cA_ _ (kY hy hx ht hh y_x y_x (bu := false) (bt := true) (bh := false) h3 h7 h8)⟩
 refine A_13 ?_
 refine KC (fun h9 h9n => ?_) (fun h9 h9n => ?_)
 ·refine A_14 ?_
  refine RLv K_ (fun w hw => nV _ _ l hl _ _ _ w (hB.later0 hw)) ?_
  refine A_3 ?_
  exact E0 rfl ⟨rfl, cA_ _ (kY hy hx ht hh y_x y_x (bu := false) (bt := false) (bh := true) h3 h7 h9)⟩
 refine A_7 ?_
 refine RLv K_ (fun w hw => nV _ _ l hl _ _ _ w (hB.later0 hw)) ?_
 refine A_3 ?_
 exact E0 rfl ⟨rfl, cA_ _ (kY hy hx ht hh y_x y_x (bu := false) (bt := false) (bh := false) h3 h7 h9)⟩
def aP2 (c cb cf cs : Int) (hc : 0 ≤ c ∧ c < 256) (a2 : AC) (cap2 : Nat) (oam : AB) (ho : aT oam) (line : Int) (hcap : oam.length ≤ cap2) (w : AI) (hO : Ns w .u8 a2 oam) :
  aB prog 344 [.agg #[.int .u8 c, .int .u8 cb, .int .u8 cf, .int .u8 cs], .slice a2 oam.length cap2, .int .i64 line] w [] (fun v H => Lst .i64 (pB oam c line) v H) := by
 refine dR_ func344 ?_
 refine A_2 ?_
 refine RX (cM rfl rfl) rfl ?_
 rintro _ _ ⟨b3, rfl, rfl⟩
 refine A_12 ?_
 refine bD (σ := Nat × AH × aC) [7, 8, 9, 10, 11, 12, 13, 14, 15, 16, 17, 18, 19, 20, 21, 22, 23, 24] (fun s => [(7, s.2.1), (9, .int .i64 s.1)]) (fun s => s.2.2 ++ [(b3, blk [.int .u8 c, .int .u8 cb, .int .u8 cf, .int .u8 cs] 450)]) (fun s => s.1 ≤ 40 ∧ Vec 3 1 s.2.1 (fN oam c line s.1).length ((fN oam c line s.1).map (.int .i64)) s.2.2) (fun s => 40 - s.1) (0, .slice none 0 0, []) ?_ ?_ ?_ ?_
 ·exact ⟨y_y, aOc oam c line⟩
 ·exact .cons rfl (.cons rfl .nil)
 ·exact fun _ h => h
 rintro ⟨k, v, G⟩ y ⟨hk, hV⟩
 have hlen := aJV oam c line k
 simp only at hk hV ⊢
 refine A_5 ?_
 refine KC (fun h1 h1n => ?_) (fun h1 h1n => ?_)
 ·refine A_9 ?_
  refine DR [3, 4] (pln [0, 2, 4, 10, 7, 8, 13, 15]) ?_
  refine A_3 ?_
  refine cL rfl rfl rfl rfl y_bA rfl rfl ?_
  refine DZ rfl (bJ K_ rfl (fun w hw => aPw _ _ oam ho k y_x hcap w (hO.later0 hw))) rfl y_d (DY rfl (xP rfl rfl rfl rfl rfl) rfl (DZ rfl (bJ K_ rfl (wQ_ (aDU c cb cf cs hc))) rfl n_h (DZ rfl (bJ K_ rfl (wQ_ (aAI _ _ _))) rfl n_h ?_)))
  refine A_1 ?_
  refine KC (fun h2 h2n => ?_) (fun h2 h2n => ?_)
  ·refine A_1 ?_
   refine aIJ (v := v) rfl rfl rfl ?_
   refine A_1 ?_
   refine RX (dX rfl rfl rfl rfl rfl rfl) rfl ?_
   rintro _ _ ⟨b22, rfl, rfl⟩
   refine RX (gD (A := [_]) (G := G) (R := [_]) (v := v) (m := 1) (by_ := 8) rfl rfl rfl rfl hV (fun w hw => .row _ _ _ _ _ rfl (aA (.head _) w hw)) rfl o_m o_m) rfl ?_
   rintro v23 _ ⟨G', hV', hnil, rfl⟩
   refine wA (v := v23) rfl rfl rfl ?_
   refine A_5 ?_
   exact ⟨(k + 1, v23, G'), ⟨y_eA, aQj (aIe ho h2) hV'⟩, y_eA, .cons rfl (.cons (cA_ _ (bC o_m)) .nil), a_g, (fun _ h => h.sub y_D)⟩
  refine A_5 ?_
  exact ⟨(k + 1, v, G), ⟨y_eA, aTy (aIe ho h2) hV⟩, y_eA, .cons rfl (.cons (cA_ _ (bC o_m)) .nil), a_g, (fun _ h => h.sub y_D)⟩
 refine A_2 ?_
 obtain rfl : k = 40 := by simp at *; omega
 generalize hm : (fN oam c line 40).length = m at hV
 generalize hx : (fN oam c line 40).map (Value.int .i64) = xs at hV
 clear hlen
 rcases hV with _ | ⟨b, n, cap, xs, sp, hn, hcc, hmx, hle⟩
 ·refine A_3 ?_
  refine RY l_n rfl (RY (gH rfl rfl) rfl (A_4 ?_))
  exact E0 rfl (aPc hm)
 refine A_3 ?_
 refine RY l_n rfl (RY (gH rfl rfl) rfl (RY (dT 0 (min m 10) rfl rfl rfl rfl rfl (by show min (m : Int) 10 = _; omega) o_m o_m) rfl (A_3 ?_)))
 exact EV rfl (cn _ _) (aON hm hx hle)
def aGb (x : Int) (w : AI) : aB prog 355 [.int .i64 x] w [] (V_ (.bool false)) := by
 refine dR_ func355 ?_
 refine A_12 ?_
 exact E0 rfl ⟨rfl, (cA_ _ y_r)⟩
def aJx (x y : Int) (w : AI) : aB prog 348 [.int .i64 x, .int .i64 y] w [] (V_ (.int .i64 (cmpI x y))) := by
 refine dR_ func348 ?_
 refine ZDH ?_
 refine RLv K_ (wQ_ (aGb _)) ?_
 refine ZBb ?_
 refine RLv K_ (wQ_ (aGb _)) ?_
 refine A_23 ?_
 refine KC (fun q0 z0 => ?_) (fun q0 z0 => ?_)
 ·refine ZBb ?_
  exact E0 rfl ⟨rfl, (cA_ _ y_cl)⟩
 refine ZEf ?_
 refine KC (fun q1 z1 => ?_) (fun q1 z1 => ?_)
 ·refine ZBb ?_
  exact E0 rfl ⟨rfl, (cA_ _ y_cl)⟩
 refine ZBn ?_
 exact E0 rfl ⟨rfl, (cA_ _ y_cl)⟩
def aOE (a b : Sp) (w : AI) : aB prog 347 [.agg (spc a).toArray, .agg (spc b).toArray] w [] (V_ (.int .i64 (cmpI a.x b.x))) := by
 refine dR_ func347 ?_
 refine ZAl ?_
 refine RX (cM rfl rfl) rfl (ZAq fun b0 => ?_)
 refine RX (cM rfl rfl) rfl ?_
 rintro _ _ ⟨b1, rfl, rfl⟩
 refine ZEf ?_
 refine RLv K_ (wQ_ (aJx _ _)) ?_
 exact ZAR
def aSZ (b n cap : Nat) (l : List Sp) (sp' : AA) (hn : l.length = n) (h10 : n ≤ 1000) (w : AI) (hb : w.heap[b]? = some (blk (aF spc l ++ sp') 460)) :
  aB prog 361 [.slice (Q_ b) n cap, .int .i64 0, .int .i64 n, .func (.func 347) #[] #[]] w [b] (fun v H => v = .tuple #[] ∧ H = [(b, blk (aF spc (fK l) ++ sp') 460)]) := by
 refine mC func361 rfl rfl rfl (St.lent1 hb) ?_
 refine A_7 ?_
 refine bD (σ := Nat) [8, 9, 12, 13, 14, 15, 16, 17, 18, 19, 20, 21, 22, 23, 24, 25, 26, 27, 28, 29, 30, 31, 32, 33, 34, 35, 36, 37, 38, 39, 40, 41, 42, 43, 44, 45, 46, 47, 48, 49, 50, 51, 52] (fun i => [(8, .int .i64 i)]) (fun i => [(b, blk (aF spc (fK (l.take i) ++ l.drop i) ++ sp') 460)]) (fun i => 1 ≤ i ∧ (i ≤ n ∨ i = 1)) (fun i => n - i) 1 ?_ ?_ ?_ ?_
 ·exact ⟨y_y, .inr rfl⟩
 ·exact .cons rfl .nil
 ·exact fun w h => by rw [aKp]; exact h
 rintro i y ⟨hi1, hi2⟩
 refine A_7 ?_
 refine KC (fun h1 h1n => ?_) (fun h1 h1n => ?_)
 ·refine A_4 ?_
  have hin : i < n := by simp at *; omega
  have hlt : i < l.length := by omega
  obtain ⟨e, R, hd, hR, hI⟩ : ∃ e R, l.drop i = e :: R ∧ R = l.drop (i + 1) ∧ fK (l.take (i + 1)) = iX e (fK (l.take i)).reverse [] := ⟨l[i], l.drop (i + 1), fu hlt, rfl, aJp hlt⟩
  have hS : (fK (l.take i)).length = i := by rw [aEK, Lt_]; omega
  refine A_5 ?_
  refine bD (σ := List Sp × List Sp) [9, 18, 19, 20, 21, 22, 23, 24, 25, 26, 27, 28, 29, 30, 31, 32, 33, 34, 35, 36, 37, 38, 39, 40, 41, 42, 43, 44, 45, 46, 47, 48, 49, 50, 51, 52] (fun s => [(9, .int .i64 s.1.length)]) (fun s => [(b, blk (aF spc (s.1 ++ e :: (s.2 ++ R)) ++ sp') 460)]) (fun s => iX e s.1.reverse s.2 = iX e (fK (l.take i)).reverse [] ∧ s.1.length + s.2.length = i) (fun s => s.1.length) (fK (l.take i), []) ?_ ?_ ?_ ?_
  ·exact ⟨rfl, hS⟩
  ·exact .cons (cA_ (fun k : Nat => Value.int .i64 k) hS.symm) .nil
  ·exact fun w h => by rw [hd] at h; exact h
  rintro ⟨A, B⟩ y2 ⟨hI2, hAB⟩
  simp only at hI2 hAB ⊢
  refine A_2 ?_
  refine DR [9, 10, 11, 12, 13] (pln [0, 2, 4, 6, 8, 10, 12, 14, 16, 18, 20, 22, 24, 26, 29, 30, 32]) ?_
  refine A_3 ?_
  refine KE (fun h2 h2n => ?_) (fun h2 h2n => ?_)
  ·obtain ⟨A', x, rfl⟩ := aDy (l := A) y_x
   refine A_3 ?_
   refine DY rfl (bG (s := 5) (A' ++ [x]).length rfl rfl rfl rfl y_x) rfl (cL rfl rfl rfl rfl (fun w hS => Row.elem jL (dV (.head _) w hS)) rfl rfl ?_)
   refine A_2 ?_
   refine DW (v := (.int .i64 (A'.length : Int))) rfl rfl rfl (cA_ _ (yL y_x)) (DY rfl (bG (s := 5) A'.length rfl rfl rfl rfl y_x) rfl (cL rfl rfl rfl rfl (fun w hS => Row.elem2 jL (dV (.head _) w hS)) rfl rfl ?_))
   refine DZ rfl (xE (A := []) (B := []) rfl K_ rfl (wQ_ (aOE e x))) rfl n_h (A_3 ?_)
   refine KC (fun h3 h3n => ?_) (fun h3 h3n => ?_)
   ·refine A_3 ?_
    refine DR [10, 11, 12, 13] (pln [0, 2, 4, 6, 8, 10, 12, 14, 16, 18, 20, 22, 24, 26, 28, 31, 32, 35]) ?_
    refine A_4 ?_
    refine DW (v := (.int .i64 (A'.length : Int))) rfl rfl rfl (cA_ _ (yL y_x)) (A_2 ?_)
    refine DW (v := (.int .i64 (A'.length : Int))) rfl rfl rfl (cA_ _ (yL y_x)) (DY rfl (bG (s := 5) A'.length rfl rfl rfl rfl y_x) rfl (cL rfl rfl rfl rfl (fun w hS => Row.elem2 jL (dV (.head _) w hS)) rfl rfl ?_))
    refine A_2 ?_
    refine DY rfl (bG (s := 5) (A' ++ [x]).length rfl rfl rfl rfl y_x) rfl (cL rfl rfl rfl rfl (fun w hS => Row.elem jL (dV (.head _) w hS)) rfl rfl ?_)
    refine DY rfl (bG (s := 5) (A' ++ [x]).length rfl rfl rfl rfl y_x) rfl (DZ rfl (dD (vs := spc x) 0 rfl rfl rfl rfl rfl rfl (aEr jL _ _ _ _ _)) rfl n_h ?_)
    rw [ai, aI5 jL]
    refine DY rfl (bG (s := 5) A'.length rfl rfl rfl rfl y_x) rfl (DZ rfl (dD (vs := spc e) 0 rfl rfl rfl rfl rfl rfl (aEr jL _ _ _ _ _)) rfl n_h ?_)
    rw [ai, aAc jL]
    refine A_3 ?_
    refine RW (v := (.int .i64 (A'.length : Int))) rfl rfl (cA_ _ (yL y_x)) (A_2 ?_)
    exact ⟨(A', x :: B), ⟨by rw [← aMI e x A' B (by have h0 := h3; rw [aHJ] at h0; simpa using h0)]; exact hI2, y_eA⟩, y_eR, .cons rfl .nil, a_g, fun _ h => h⟩
   refine A_6 ?_
   exact ⟨i + 1, ⟨y_y, .inl o_m⟩, y_y, .cons (cA_ _ (bC o_m)) .nil, a_g, fun w h => by rw [aGn (.inr ⟨A', x, rfl, by have h0 := h3; rw [aHJ] at h0; simpa using h0⟩) hI2, ← hI, hR] at h; exact h⟩
  refine A_10 ?_
  refine aDJ rfl rfl rfl ?_
  refine A_10 ?_
  exact ⟨i + 1, ⟨y_y, .inl o_m⟩, y_y, .cons (cA_ _ (bC o_m)) .nil, a_g, fun w h => by rw [aGn (.inl (cw y_x)) hI2, ← hI, hR] at h; exact h⟩
 refine A_1 ?_
 exact EN sR_ ⟨rfl, by rw [aJ7 y_x]⟩
def aL9 (w : AI) :
  aB prog 361 [.slice none 0 0, .int .i64 0, .int .i64 0, .func (.func 347) #[] #[]] w [] (V_ (.tuple #[])) := by
 refine dR_ func361 ?_
 refine A_7 ?_
 refine nL (σ := Unit) [8, 9, 12, 13, 14, 15, 16, 17, 18, 19, 20, 21, 22, 23, 24, 25, 26, 27, 28, 29, 30, 31, 32, 33, 34, 35, 36, 37, 38, 39, 40, 41, 42, 43, 44, 45, 46, 47, 48, 49, 50, 51, 52] (fun _ => [(8, .int .i64 1)]) (fun _ => True) (fun _ => 0) () ?_ ?_ ?_
 ·trivial
 ·exact .cons rfl .nil
 rintro _ y _
 refine A_5 ?_
 refine cY false rfl rfl rfl y_b ?_
 refine A_3 ?_
 exact aG (fun _ _ => eT) ⟨rfl, rfl⟩
def aLF (b n cap : Nat) (l : List Sp) (sp' : AA) (hn : l.length = n) (h10 : n ≤ 10) (w : AI) (hb : w.heap[b]? = some (blk (aF spc l ++ sp') 460)) :
  aB prog 354 [.slice (Q_ b) n cap, .int .i64 n, .func (.func 347) #[] #[]] w [b] (fun v H => v = .tuple #[] ∧ H = [(b, blk (aF spc (fK l) ++ sp') 460)]) := by
 refine mC func354 rfl rfl rfl (St.lent1 hb) ?_
 refine A_12 ?_
 refine nL (σ := Unit) [7, 8, 11, 12, 13, 14, 15, 16, 17, 18, 19, 20, 21, 22] (fun _ => [(7, .int .i64 0), (8, .int .i64 20)]) (fun _ => True) (fun _ => 0) () ?_ ?_ ?_
 ·trivial
 ·exact .cons rfl (.cons rfl .nil)
 rintro _ y _
 refine A_5 ?_
 refine cY false rfl rfl rfl y_be ?_
 refine A_9 ?_
 refine RX (eQ (A := [_]) (G := []) [b] K_ rfl y_r (fun w hw => aSZ b n cap l sp' hn o_m w (hw.own_blk (.head _)))) rfl ?_
 rintro _ _ ⟨_, ⟨rfl, rfl⟩, rfl⟩
 refine A_2 ?_
 refine nL (σ := Unit) [6, 7, 8, 9, 28, 29, 30, 31, 32, 33, 34, 35, 36, 37, 38, 39, 40, 41, 42, 43, 44, 45, 46, 47, 48, 49, 50, 51, 52, 53, 54, 55, 56, 57, 58, 59, 60, 61, 62] (fun _ => [(6, .int .i64 20)]) (fun _ => True) (fun _ => 0) () ?_ ?_ ?_
 ·trivial
 ·exact .cons rfl .nil
 rintro _ y _
 refine A_5 ?_
 refine cY false rfl rfl rfl y_be ?_
 refine A_3 ?_
 exact EN sR_ ⟨rfl, rfl⟩
def aFU (w : AI) :
  aB prog 354 [.slice none 0 0, .int .i64 0, .func (.func 347) #[] #[]] w [] (V_ (.tuple #[])) := by
 refine dR_ func354 ?_
 refine A_12 ?_
 refine nL (σ := Unit) [7, 8, 11, 12, 13, 14, 15, 16, 17, 18, 19, 20, 21, 22] (fun _ => [(7, .int .i64 0), (8, .int .i64 20)]) (fun _ => True) (fun _ => 0) () ?_ ?_ ?_
 ·trivial
 ·exact .cons rfl (.cons rfl .nil)
 rintro _ y _
 refine A_5 ?_
 refine cY false rfl rfl rfl y_b ?_
 refine A_9 ?_
 refine RLv K_ (wQ_ aL9) ?_
 refine A_2 ?_
 refine nL (σ := Unit) [6, 7, 8, 9, 28, 29, 30, 31, 32, 33, 34, 35, 36, 37, 38, 39, 40, 41, 42, 43, 44, 45, 46, 47, 48, 49, 50, 51, 52, 53, 54, 55, 56, 57, 58, 59, 60, 61, 62] (fun _ => [(6, .int .i64 20)]) (fun _ => True) (fun _ => 0) () ?_ ?_ ?_
 ·trivial
 ·exact .cons rfl .nil
 rintro _ y _
 refine A_5 ?_
 refine cY false rfl rfl rfl y_b ?_
 refine A_3 ?_
 exact aG (fun _ _ => eT) ⟨rfl, rfl⟩
def aIX (b n cap : Nat) (l : List Sp) (sp' : AA) (hn : l.length = n) (h10 : n ≤ 10) (w : AI) (hb : w.heap[b]? = some (blk (aF spc l ++ sp') 460)) :
  aB prog 346 [.slice (Q_ b) n cap, .func (.func 347) #[] #[]] w [b] (fun v H => v = .tuple #[] ∧ H = [(b, blk (aF spc (fK l) ++ sp') 460)]) := by
 refine mC func346 rfl rfl rfl (St.lent1 hb) ?_
 refine A_3 ?_
 refine RY l_n rfl (A_1 ?_)
 refine RX (eQ (A := [_]) (G := []) [b] K_ rfl y_r (fun w hw => aLF b n cap l sp' hn h10 w (hw.own_blk (.head _)))) rfl ?_
 rintro _ _ ⟨_, ⟨rfl, rfl⟩, rfl⟩
 refine A_1 ?_
 exact EN sR_ ⟨rfl, rfl⟩
def aJE (w : AI) :
  aB prog 346 [.slice none 0 0, .func (.func 347) #[] #[]] w [] (V_ (.tuple #[])) := by
 refine dR_ func346 ?_
 refine A_3 ?_
 refine RY l_n rfl (A_1 ?_)
 refine RLv K_ (wQ_ aFU) ?_
 refine A_1 ?_
 exact aG (fun _ _ => eT) ⟨rfl, rfl⟩
def aPQ {v : AH} {n : Nat} {l : List Sp} {G : aC} (hV : Vec 460 5 v n (aF spc l) G) (h10 : n ≤ 10) (w : AI) (hG : ∀ x ∈ G, w.heap[x.1]? = some x.2) :
  aB prog 346 [v, .func (.func 347) #[] #[]] w (G.map (·.1)) (fun u H => u = .tuple #[] ∧ Vec 460 5 v n (aF spc (fK l)) H) := by
 have hl := hV.len
 rw [bM jL] at hl
 generalize hx : aF spc l = xs at hV
 cases hV with
 | nil =>
  have : l = [] := cw o_m
  subst this
  exact (aJE w).mono fun u H ⟨h1, h2⟩ => by subst h1; exact ⟨h2, .nil⟩
 | row b _ cap _ sp h1 h2 h3 h4 =>
  subst hx
  refine (aIX b n cap l sp o_m h10 w (hG _ (.head _))).mono fun u H ⟨h5, h6⟩ => ?_
  subst h6
  have hi := aEK l
  have h7 := bM jL (fK l)
  have h8 := bM jL l
  exact ⟨h5, .row b n cap _ sp (by rw [h7, hi]; omega) (by rw [La_, h7, hi] ; rw [La_, h8] at h2; omega) h3 h4⟩
def aLj (c cb cf cs : Int) (hc : 0 ≤ c ∧ c < 256) (hcb : 0 ≤ cb ∧ cb < 256) (hcf : 0 ≤ cf ∧ cf < 256) (hcs : 0 ≤ cs ∧ cs < 256) (a a2 : AC) (cap cap2 n : Nat) (l : AB) (hl : aT l) (L : List Sp) (hL : L.length = n) (hok : ∀ s ∈ L, uO s) (h1000 : n ≤ 1000) (x line below : Int) (hb : 0 ≤ below ∧ below < 256)
  (w : AI) (hB : Ns w .u8 a l) (hE : Els w spc a2 L) :
  aB prog 349 [.agg #[.int .u8 c, .int .u8 cb, .int .u8 cf, .int .u8 cs], .slice a l.length cap, .slice a2 n cap2, .int .i64 x, .int .i64 line, .int .u8 below] w [] (V_ (.int .u8 (qE l c cb cf cs x line below (L.find? (hit l c x line))))) := by
 refine dR_ func349 ?_
 refine A_2 ?_
 refine RX (cM rfl rfl) rfl ?_
 rintro _ _ ⟨b6, rfl, rfl⟩
 refine A_6 ?_
 refine RY l_n rfl (A_3 ?_)
 refine bD (σ := Nat) [12, 14, 15, 18, 19, 20, 21, 22, 23, 24, 25, 26, 27, 28, 29, 30, 31, 32, 33, 34, 35, 36, 37, 38, 39, 40, 41, 42, 43, 44, 45, 46, 47, 48, 49, 50, 51, 52, 53, 54, 55, 56, 57, 58] (fun k => [(18, .int .i64 k)]) (fun _ => [(b6, blk [.int .u8 c, .int .u8 cb, .int .u8 cf, .int .u8 cs] 450)]) (fun k => k ≤ n ∧ (L.take k).find? (hit l c x line) = none) (fun k => n - k) 0 ?_ ?_ ?_ ?_
 ·exact ⟨al _, rfl⟩
 ·exact .cons rfl .nil
 ·exact fun _ h => h
 rintro k y ⟨hk, hk2⟩
 refine A_5 ?_
 refine KC (fun h1 h1n => ?_) (fun h1 h1n => ?_)
 ·refine A_4 ?_
  have hkn : k < n := by simp at *; omega
  obtain ⟨b, off, rfl, hr⟩ := hE.row (i := k) o_m
  obtain ⟨s, hs⟩ : ∃ s, L[k]? = some s := ⟨_, ak o_m⟩
  have hso := hok s (bq hs)
  refine A_1 ?_
  refine RY (bG (s := 5) k rfl rfl rfl rfl hkn) rfl (RZ (aK rfl rfl rfl (aN (hr.nth' jL hs) y_r)) rfl (RX (cG rfl) rfl ?_))
  rintro _ _ ⟨b14, rfl, rfl⟩
  refine RZ s_t rfl (A_3 ?_)
  refine RZ (aK rfl rfl rfl y_ba) rfl (A_1 ?_)
  refine RZ (aK rfl rfl rfl y_h) rfl (A_2 ?_)
  refine RLv K_ (fun w hw => aQL c cb cf cs hc _ _ l hl s.n s.y s.x s.t s.h x line hso.1 hso.2.1 hso.2.2.1 hso.2.2.2 w (hB.later0 hw)) ?_
  refine A_10 ?_
  refine KC (fun h2 h2n => ?_) (fun h2 h2n => ?_)
  ·refine A_5 ?_
   exact ⟨k + 1, ⟨y_y, aRt hk2 hs (by have h0 := h2; simp at h0; simp [hit, h0])⟩, y_y, .cons (cA_ _ (bC o_m)) .nil, a_g, (fun _ h => h.sub y_D)⟩
  refine A_6 ?_
  refine KL (fun h3 h3n => ?_) (fun h3 h3n => ?_)
  ·refine A_6 ?_
   refine KC (fun h4 h4n => ?_) (fun h4 h4n => ?_)
   ·refine A_5 ?_
    refine RLv K_ (wQ_ (rT cb _ hcb hb)) ?_
    refine A_3 ?_
    exact E0 rfl ⟨rfl, (cA_ _ (aLl hs hso hb hk2 h2 h3 h4))⟩
   refine A_8 ?_
   refine KC (fun h5 h5n => ?_) (fun h5 h5n => ?_)
   ·refine A_5 ?_
    refine RLv K_ (wQ_ (rT cs _ hcs (vZ _ _ _ _ _ _ _ _))) ?_
    refine A_3 ?_
    exact E0 rfl ⟨rfl, (cA_ _ (tI (b4 := true) hs hso hb hk2 h2 (.inr h4) h5))⟩
   refine A_6 ?_
   refine RLv K_ (wQ_ (rT cf _ hcf (vZ _ _ _ _ _ _ _ _))) ?_
   refine A_3 ?_
   exact E0 rfl ⟨rfl, (cA_ _ (tI (b4 := false) hs hso hb hk2 h2 (.inr h4) h5))⟩
  refine A_15 ?_
  refine KC (fun h6 h6n => ?_) (fun h6 h6n => ?_)
  ·refine A_5 ?_
   refine RLv K_ (wQ_ (rT cs _ hcs (vZ _ _ _ _ _ _ _ _))) ?_
   refine A_3 ?_
   exact E0 rfl ⟨rfl, (cA_ _ (tI (b4 := true) hs hso hb hk2 h2 (.inl h3) h6))⟩
  refine A_6 ?_
  refine RLv K_ (wQ_ (rT cf _ hcf (vZ _ _ _ _ _ _ _ _))) ?_
  refine A_3 ?_
  exact E0 rfl ⟨rfl, (cA_ _ (tI (b4 := false) hs hso hb hk2 h2 (.inl h3) h6))⟩
 refine A_6 ?_
 refine RLv K_ (wQ_ (rT cb _ hcb hb)) ?_
 refine A_3 ?_
 exact E0 rfl ⟨rfl, (cA_ _ (aIv (k := k) y_x hk2))⟩
set_option maxHeartbeats 2000000 in
def line_fn (c cb cf cs : Int) (hc : 0 ≤ c ∧ c < 256) (hcb : 0 ≤ cb ∧ cb < 256) (hcf : 0 ≤ cf ∧ cf < 256) (hcs : 0 ≤ cs ∧ cs < 256) (a a2 : AC) (cap cap2 : Nat) (l oam : AB) (hl : aT l) (ho : aT oam) (hcap : oam.length ≤ cap2) (line : Int) (bl : AB) (hbl : bl.length = 160) (hbb : aT bl)
  (w : AI) (hB : Ns w .u8 a l) (hO : Ns w .u8 a2 oam) :
  aB prog 337 [.agg #[.int .u8 c, .int .u8 cb, .int .u8 cf, .int .u8 cs], .slice a l.length cap, .slice a2 oam.length cap2, .int .i64 line, .agg (bl.map (.int .u8)).toArray] w [] (V_ (.agg (aIx l oam c cb cf cs line bl).toArray)) := by
 refine dR_ func337 ?_
 refine A_2 ?_
 refine RX (cM rfl rfl) rfl ?_
 rintro _ _ ⟨b5, rfl, rfl⟩
 refine RX (cM (l := bl.map (.int .u8)) rfl rfl) rfl ?_
 rintro _ _ ⟨b9, rfl, rfl⟩
 refine RX (cG (l := List.replicate 160 (.int .u8 0)) y_f) rfl ?_
 rintro _ _ ⟨b10, rfl, rfl⟩
 refine A_5 ?_
 refine jC (σ := AH × aC) [11, 13, 16, 17, 18, 19, 20, 21, 22, 23, 24, 25, 26, 27, 28, 29, 30, 31, 32, 33, 34, 35] (fun s => [(11, s.1)]) (fun s => s.2 ++ [(b10, blk (List.replicate 160 (.int .u8 0)) 243), (b9, blk (bl.map (.int .u8)) 243), (b5, blk [.int .u8 c, .int .u8 cb, .int .u8 cf, .int .u8 cs] 450)]) (fun s => Vec 460 5 s.1 (jN oam c line).length (aF spc (jN oam c line)) s.2) ?_ ?_
 ·refine A_7 ?_
  refine KC (fun h1 h1n => ?_) (fun h1 h1n => ?_)
  ·refine A_2 ?_
   refine RZ (aK rfl rfl rfl y_ba) rfl (A_2 ?_)
   refine RX (bI K_ rfl (fun w hw => aP2 c cb cf cs hc _ _ oam ho line hcap w (hO.later0 hw))) rfl ?_
   rintro _ _ ⟨G23, ⟨a23, c23, rfl, hc23, hL23⟩, rfl⟩
   refine RY l_n rfl (A_3 ?_)
   refine bD (σ := Nat × AH × aC) [11, 13, 25, 26, 27, 28, 29, 30, 31, 32, 33, 34, 35] (fun s => [(11, s.2.1), (25, .int .i64 s.1)]) (fun s => s.2.2 ++ (G23 ++ [(b10, blk (List.replicate 160 (.int .u8 0)) 243), (b9, blk (bl.map (.int .u8)) 243), (b5, blk [.int .u8 c, .int .u8 cb, .int .u8 cf, .int .u8 cs] 450)])) (fun s => s.1 ≤ (pB oam c line).length ∧ Vec 460 5 s.2.1 s.1 (aF spc (((pB oam c line).take s.1).map (sp oam))) s.2.2) (fun s => (pB oam c line).length - s.1) (0, .slice none 0 0, []) ?_ ?_ ?_ ?_
   ·exact ⟨al _, .nil⟩
   ·exact .cons rfl (.cons rfl .nil)
   ·exact fun _ h => h
   rintro ⟨k, v, G⟩ y ⟨hk, hV⟩
   simp only at hk hV ⊢
   have h10 := aFC oam c line
   refine A_5 ?_
   refine KC (fun h2 h2n => ?_) (fun h2 h2n => ?_)
   ·refine A_4 ?_
    have hkn : k < (pB oam c line).length := by simp at *; omega
    obtain ⟨b, off, rfl, hr⟩ := hL23.row (i := k) hkn
    refine A_1 ?_
    refine RY (aP k rfl rfl rfl rfl hkn) rfl (RZ (aE rfl rfl (aPl hr (by intro x hx; simp [hx]) hkn)) rfl (A_3 ?_))
    refine aIJ (v := v) rfl rfl rfl ?_
    refine A_2 ?_
    refine RLv K_ (fun w hw => aPw _ _ oam ho _ (aIY _ (aNA hkn)) hcap w (hO.later0 hw)) ?_
    refine RX (dX rfl rfl rfl rfl rfl rfl) rfl ?_
    rintro _ _ ⟨b33, rfl, rfl⟩
    refine RX (gD (A := [_]) (G := G) (R := _) (v := v) (m := 1) (by_ := 40) rfl rfl rfl rfl hV (fun w hw => .row _ _ _ _ _ rfl (aA (.head _) w hw)) rfl o_m o_m) rfl ?_
    rintro v34 _ ⟨G', hV', hnil, rfl⟩
    refine wA (v := v34) rfl rfl rfl ?_
    refine A_5 ?_
    exact ⟨(k + 1, v34, G'), ⟨y_y, by rw [aLm hkn]; exact hV'⟩, y_y, .cons rfl (.cons (cA_ _ (bC o_m)) .nil), a_g, (fun _ h => h.sub y_D)⟩
   refine A_1 ?_
   obtain rfl : k = (pB oam c line).length := by simp at *; omega
   exact ⟨(v, G), by rw [aKg hc h1, Lm_]; rw [db] at hV; exact hV, .cons rfl .nil, a_g, fun w h => h.sub (sR_.append (gu _ _))⟩
  refine A_1 ?_
  exact ⟨(.slice none 0 0, []), by rw [aOs hc h1]; exact .nil, .cons rfl .nil, a_g, fun w h => h⟩
 rintro ⟨v, G⟩ y2 hV
 simp only at hV ⊢
 obtain ⟨a11, c11, rfl⟩ := hV.slice
 refine A_3 ?_
 refine RX (eQ (A := G) (G := _) (G.map (·.1)) K_ rfl (fun b h => eR h) (fun w hw => aPQ hV (aEG oam c line) w (fun x hx => hw.holds x (by simp [hx])))) rfl ?_
 rintro _ _ ⟨G', ⟨rfl, hV'⟩, rfl⟩
 obtain ⟨a1', c1', he, hn11, hc11, hE⟩ := hV'.gives jL y_b
 cases he
 refine A_2 ?_
 refine eW (fun w h => h.perm aw) ?_
 refine A_1 ?_
 refine RX (cG (l := List.replicate 160 (.int .u8 0)) y_f) rfl ?_
 rintro _ _ ⟨b14, rfl, rfl⟩
 refine A_7 ?_
 refine bD (σ := Nat) [15, 38, 39, 40, 41, 42, 43, 44, 45, 46, 47, 48, 49, 50, 51, 52] (fun k => [(38, .int .i64 k)]) (fun k => (b14, blk (lB .u8 (vX l oam c cb cf cs line bl) 160 k) 243) :: ([(b10, blk (List.replicate 160 (.int .u8 0)) 243), (b9, blk (bl.map (.int .u8)) 243), (b5, blk [.int .u8 c, .int .u8 cb, .int .u8 cf, .int .u8 cs] 450)] ++ G')) (fun k => k ≤ 160) (fun k => 160 - k) 0 ?_ ?_ ?_ ?_
 ·show 0 ≤ 160; omega
 ·exact .cons rfl .nil
 ·exact fun w h => by rw [← aEi]; exact h
 intro k y hk
 refine A_5 ?_
 refine KC (fun h3 h3n => ?_) (fun h3 h3n => ?_)
 ·refine A_8 ?_
  refine DR [2, 3, 4, 5, 6, 7, 8] (pln [0, 2, 4, 6, 8, 10, 12, 14, 16, 19, 20, 23]) ?_
  refine A_1 ?_
  refine cL rfl rfl rfl rfl y_bA rfl rfl ?_
  refine A_5 ?_
  refine DY rfl (qU k rfl rfl rfl rfl y_x) rfl (DL rfl rfl rfl (cJ (.tail _ (.tail _ (.head _))) (aHS y_x)) rfl (DZ rfl (bJ K_ rfl (fun w hw => aLj c cb cf cs hc hcb hcf hcs _ _ _ _ _ l hl (fK (jN oam c line)) hn11 (aN9 ho c line) (by have := aEG oam c line; omega) (k : Int) line _ (hbb.get k) w (hB.later0 hw) (hE.els hw (by intro x hx; simp [hx])))) rfl n_h (DY rfl (qU k rfl rfl rfl rfl y_x) rfl ?_)))
  refine DZ rfl (dD 0 rfl rfl rfl rfl rfl rfl (by rw [yG y_x]; simp at *; omega)) rfl n_h ?_
  rw [ai, yU (f := vX l oam c cb cf cs line bl) y_x (qE l c cb cf cs (k : Int) line (bl.getD k 0) ((fK (jN oam c line)).find? (hit l c (k : Int) line))) rfl]
  refine A_5 ?_
  exact ⟨k + 1, y_eA, y_eA, .cons (cA_ _ (bC o_m)) .nil, a_g, fun _ h => h⟩
 refine A_2 ?_
 obtain rfl : k = 160 := by simp at *; omega
 refine A_1 ?_
 refine RZ (aK rfl rfl y_bF (aA (.head _))) rfl (RZ (dD (vs := (lB .u8 (vX l oam c cb cf cs line bl) 160 160)) (l := List.replicate 160 (.int .u8 0)) 1 rfl rfl rfl y_bF (aEu _ _ _ _) rfl y_co) rfl ?_)
 rw [oQ y_co]
 refine A_2 ?_
 exact aG (fun w hw => aW (l := (lB .u8 (vX l oam c cb cf cs line bl) 160 160)) rfl rfl y_bF (aA (.tail _ (.head _)) w hw)) ⟨rfl, by rw [aF3]; rfl⟩
set_option maxHeartbeats 2000000 in
def aNu (b : Nat) (u : PU) (hu : u.Wf) (w : AI) (hst : St w [b] [(b, blk (cU u) 247)] w) (hl : u.line < 144) (ho : u.own < 600) : aB prog 309 [P_ b] w [b] (fun v H => v = .tuple #[] ∧ H = [(b, blk (cU (jY u)) 247)]) := by
 have hlb := hu.line
 have hob := hu.own
 refine dO_ func309 hst ?_
 refine ZEf ?_
 refine DR [4, 5, 6, 7, 8, 9, 10, 11, 12, 13, 14, 15, 16, 17, 18, 19, 21] (pln [0, 2, 4, 6, 8, 10, 12, 14, 16, 18, 20, 22, 24, 26, 28, 30, 32, 34, 36, 38, 40, 43, 45]) ?_
 refine ZAl ?_
 refine DY rfl y_dQ rfl (DL rfl rfl rfl (cJ m_m (qJ hu (j := 0) y_b)) rfl (ZAl ?_))
 refine DY rfl y_dV rfl (DL rfl rfl rfl (cJ m_m (qJ hu (j := 3) y_b)) rfl (ZAl ?_))
 refine DY rfl y_d0 rfl (DL rfl rfl rfl (cJ m_m (qJ hu (j := 2) y_b)) rfl (ZAl ?_))
 refine DY rfl (by first | exact aQ 11 rfl rfl rfl rfl y_b | exact aP 11 rfl rfl rfl rfl y_b | exact bZ 11 rfl rfl rfl rfl y_b | exact bG 11 rfl rfl rfl rfl y_b) rfl (DL rfl rfl rfl (cJ m_m (qJ hu (j := 11) y_b)) rfl (ZAl ?_))
 refine DY rfl (by first | exact aQ 10 rfl rfl rfl rfl y_b | exact aP 10 rfl rfl rfl rfl y_b | exact bZ 10 rfl rfl rfl rfl y_b | exact bG 10 rfl rfl rfl rfl y_b) rfl (DL rfl rfl rfl (cJ m_m (qJ hu (j := 10) y_b)) rfl (ZED ?_))
 refine DX rfl (cG rfl) rfl y_n (ZAq fun b0 => ?_)
 refine DZ rfl s_t rfl n_h (ZAl ?_)
 refine DR [4, 5, 6, 7, 8, 9, 10, 11, 12, 13, 14, 15, 17] (pln [0, 2, 4, 6, 8, 10, 12, 14, 16, 18, 20, 22, 24, 26, 28, 30, 32, 35, 37]) ?_
 refine ZAl ?_
 refine DY rfl y_dQ rfl (DL rfl rfl rfl (cJ m_m (qJ hu (j := 0) y_b)) rfl (ZAl ?_))
 refine DY rfl (by first | exact aQ 7 rfl rfl rfl rfl y_b | exact aP 7 rfl rfl rfl rfl y_b | exact bZ 7 rfl rfl rfl rfl y_b | exact bG 7 rfl rfl rfl rfl y_b) rfl (DL rfl rfl rfl (cJ m_m (qJ hu (j := 7) y_b)) rfl (ZAl ?_))
 refine DY rfl (by first | exact aQ 8 rfl rfl rfl rfl y_b | exact aP 8 rfl rfl rfl rfl y_b | exact bZ 8 rfl rfl rfl rfl y_b | exact bG 8 rfl rfl rfl rfl y_b) rfl (DL rfl rfl rfl (cJ m_m (qJ hu (j := 8) y_b)) rfl (ZAl ?_))
 refine DY rfl (by first | exact aQ 9 rfl rfl rfl rfl y_b | exact aP 9 rfl rfl rfl rfl y_b | exact bZ 9 rfl rfl rfl rfl y_b | exact bG 9 rfl rfl rfl rfl y_b) rfl (DL rfl rfl rfl (cJ m_m (qJ hu (j := 9) y_b)) rfl (ZED ?_))
 refine DX rfl (cG rfl) rfl y_n ?_
 rintro _ _ ⟨b1, rfl, rfl⟩
 refine DZ rfl s_t rfl n_h (ZAl ?_)
 refine DR [1, 2, 3, 4, 5, 6, 7, 8, 9, 10, 11, 12, 17] (.step true 0 (.step true 1 (.step true 2 (.step true 3 (.step true 4 (.step true 5 (.step true 6 (.step true 7 (.step true 8 (.step true 9 (.step true 10 (.step true 11 (.step true 12 (.fork 13 (.step true 14 (.step true 15 (.step true 16 (.step false 17 (.step false 18 (.step true 19 .done)))))) (.fork 17 (.step false 13 (.step true 14 (.step true 15 (.step true 16 (.step false 18 (.step true 19 .done)))))) .stop))))))))))))))) ?_
 refine cL rfl rfl rfl rfl y_bj rfl rfl ?_
 refine ZBi ?_
 refine ZA1 ?_
 refine ZD3 ?_
 refine ZA1 ?_
 refine DL rfl rfl rfl (cJ m_m (aCN hu)) rfl (lY ?_ ?_)
 ·refine ZEM ?_
  refine ZAl ?_
  refine DX rfl (cG rfl) rfl y_n ?_
  rintro _ _ ⟨b2, rfl, rfl⟩
  refine DZ rfl s_t rfl n_h (ZDm ?_)
  refine ZBr ?_
  refine ZD3 ?_
  refine cL rfl rfl rfl rfl y_bA rfl rfl ?_
  refine ZBi ?_
  refine ZCE ?_
  refine ZA1 ?_
  refine ZD3 ?_
  refine cL rfl rfl rfl rfl y_df rfl rfl ?_
  refine ZAl ?_
  refine ZBs ?_
  refine ZCe ?_
  refine ZAC ?_
  refine ZBb ?_
  refine KC (fun q0 z0 => ?_) (fun q0 z0 => ?_)
  ·refine ZBr ?_
   refine RZ (aE rfl rfl (aJ m_m (aCN (hu.P_ (u.line.toNat * 160) (rowU_byts u) y_ev)))) rfl (RW (v := (.int .i64 (u.own + 1))) rfl rfl (cA_ _ (aL y_ed y_ed)) (ZAl ?_))
   refine RZ (aD (l' := cU { u with P := gK u.P (u.line.toNat * 160) (rowU u), own := u.own + 1 }) 3 rfl rfl rfl rfl rfl rfl y_bf (rE (hu.P_ (u.line.toNat * 160) (rowU_byts u) y_ev) _)) rfl (ZAC ?_)
   refine ZBL ?_
   exact EN (.cons _ (.cons _ (.cons _ sR_))) ⟨rfl, by rw [aD0 q0]⟩
  refine ZBL ?_
  exact EN (.cons _ (.cons _ (.cons _ sR_))) ⟨rfl, by rw [aGG q0]⟩
 refine lY ?_ ?_
 ·refine DX rfl (cG rfl) rfl y_n ?_
  rintro _ _ ⟨b2, rfl, rfl⟩
  refine ZEM ?_
  refine ZAl ?_
  refine DZ rfl s_t rfl n_h (ZDm ?_)
  refine ZBr ?_
  refine ZD3 ?_
  refine cL rfl rfl rfl rfl y_bA rfl rfl ?_
  refine ZBi ?_
  refine ZCE ?_
  refine ZA1 ?_
  refine ZD3 ?_
  refine cL rfl rfl rfl rfl y_df rfl rfl ?_
  refine ZAl ?_
  refine ZBs ?_
  refine ZCe ?_
  refine ZAC ?_
  refine ZBb ?_
  refine KC (fun q0 z0 => ?_) (fun q0 z0 => ?_)
  ·refine ZBr ?_
   refine RZ (aE rfl rfl (aJ m_m (aCN (hu.P_ (u.line.toNat * 160) (rowU_byts u) y_ev)))) rfl (RW (v := (.int .i64 (u.own + 1))) rfl rfl (cA_ _ (aL y_ed y_ed)) (ZAl ?_))
   refine RZ (aD (l' := cU { u with P := gK u.P (u.line.toNat * 160) (rowU u), own := u.own + 1 }) 3 rfl rfl rfl rfl rfl rfl y_bf (rE (hu.P_ (u.line.toNat * 160) (rowU_byts u) y_ev) _)) rfl (ZAC ?_)
   refine ZBL ?_
   exact EN (.cons _ (.cons _ (.cons _ sR_))) ⟨rfl, by rw [aD0 q0]⟩
  refine ZBL ?_
  exact EN (.cons _ (.cons _ (.cons _ sR_))) ⟨rfl, by rw [aGG q0]⟩
 exact wS
def next_fn (b : Nat) (u : PU) (hu : u.Wf) (w : AI) (hst : St w [b] [(b, blk (cU u) 247)] w) (hl : u.line < 154) : aB prog 335 [P_ b] w [b] (fun v H => v = .int .u8 (wD u) ∧ H = [(b, blk (cU (kO u)) 247)]) := by
 have hlb := hu.line
 have hfb := hu.frames
 refine dO_ func335 hst ?_
 refine A_9 ?_
 refine RZ (aD (l' := cU { u with dot := 0 }) 0 rfl rfl rfl rfl rfl rfl y_l (uM hu _)) rfl (ZEZ ?_)
 refine RZ (aE rfl rfl (aJ m_m (cU_line (hu.dot_ (x := 0) y_b)))) rfl (RW (v := (.int .i64 (u.line + 1))) rfl rfl (cA_ _ (aL y_ed y_ed)) (ZAl ?_))
 refine RZ (aD (l' := cU { u with dot := 0, line := u.line + 1 }) 0 rfl rfl rfl rfl rfl rfl (by rw [cU_len (hu.dot_ (x := 0) y_b)]; simp only [Lc_, au]; (try simp only [decide_eq_true_eq, decide_eq_false_iff_not, beq_iff_eq, beq_eq_false_iff_ne, bne_iff_ne, bne_eq_false_iff_eq, ne_eq] at *); omega) (sT (hu.dot_ (x := 0) y_b) _)) rfl (ZAC ?_)
 refine ZDH ?_
 refine RZ (aE rfl rfl (aJ m_m (cU_line ((hu.dot_ (x := 0) y_b).line_ (x := u.line + 1) o_m)))) rfl (ZDH ?_)
 refine KC (fun q0 z0 => ?_) (fun q0 z0 => ?_)
 ·refine ZBn ?_
  refine RZ (aE rfl rfl (aJ m_m (aAx ((hu.dot_ (x := 0) y_b).line_ (x := u.line + 1) o_m)))) rfl (RW (v := (.int .i64 (u.frames + 1))) rfl rfl (cA_ _ (aL y_ed y_ed)) (RW (v := (.int .i64 ((u.frames + 1) % 65536))) rfl rfl (cA_ _ (Int.tmod_eq_emod_of_nonneg o_m)) (ZAl ?_)))
  refine RZ (aD (l' := cU { u with dot := 0, line := u.line + 1, frames := (u.frames + 1) % 65536 }) 0 rfl rfl rfl rfl rfl rfl y_ec (aHg ((hu.dot_ (x := 0) y_b).line_ (x := u.line + 1) o_m) _)) rfl (ZEZ ?_)
  exact EV rfl sR_ ⟨cA_ _ (by unfold wD; rw [if_pos y_a]), by rw [aK0 y_a, show u.line + 1 = 144 by (try simp only [decide_eq_true_eq, decide_eq_false_iff_not, beq_iff_eq, beq_eq_false_iff_ne, bne_iff_ne, bne_eq_false_iff_eq, ne_eq] at *); omega]⟩
 refine ZBb ?_
 refine KC (fun q1 z1 => ?_) (fun q1 z1 => ?_)
 ·refine ZBb ?_
  refine RZ (aD (l' := cU { u with dot := 0, line := 0 }) 0 rfl rfl rfl rfl rfl rfl y_ec (sT ((hu.dot_ (x := 0) y_b).line_ (x := u.line + 1) o_m) _)) rfl (ZBU ?_)
  refine RZ (aD (l' := cU { u with dot := 0, line := 0, own := 0 }) 0 rfl rfl rfl rfl rfl rfl (by rw [cU_len ((hu.dot_ (x := 0) y_b).line_ (x := 0) y_b)]; simp only [Lc_, au]; (try simp only [decide_eq_true_eq, decide_eq_false_iff_not, beq_iff_eq, beq_eq_false_iff_ne, bne_iff_ne, bne_eq_false_iff_eq, ne_eq] at *); omega) (rE ((hu.dot_ (x := 0) y_b).line_ (x := 0) y_b) _)) rfl (ZEZ ?_)
  exact EV rfl sR_ ⟨cA_ _ (by unfold wD; rw [if_neg y_a]), by rw [aMd y_a]⟩
 refine ZBn ?_
 exact EV rfl sR_ ⟨cA_ _ (by unfold wD; rw [if_neg y_a]), by rw [aLL y_a y_a]⟩
set_option maxHeartbeats 2000000 in
def tick_fn (b : Nat) (u : PU) (hok : u.Ok) (w : AI) (hst : St w [b] [(b, blk (cU u) 247)] w) : aB prog 326 [P_ b] w [b] (fun v H => v = .int .u8 (tickV u) ∧ H = [(b, blk (cU (tickU u)) 247)]) := by
 have hu := hok.wf
 have hd := hok.dot
 have hlb := hu.line
 have hl154 := hok.line
 have hdb := hu.dot
 have hws := hok.step
 refine dO_ func326 hst ?_
 refine A_11 ?_
 refine RLv K_ (fun w hw => sQ b u hu w (aA m_m w hw)) ?_
 refine ZA1 ?_
 refine KC (fun q0 z0 => ?_) (fun q0 z0 => ?_)
 ·refine ZBb ?_
  exact EV rfl sR_ ⟨cA_ _ (by unfold tickV; rw [if_neg y_cd]), by unfold tickU; rw [if_neg y_cd]⟩
 refine A_10 ?_
 refine RZ (aE rfl rfl (aJ m_m (cU_dot hu))) rfl (RW (v := (.int .i64 (u.dot + 1))) rfl rfl (cA_ _ (aL o_m o_m)) (ZAl ?_))
 refine RZ (aD (l' := cU (oneU u)) 0 rfl rfl rfl rfl rfl rfl y_l (uM hu _)) rfl (ZAC ?_)
 refine ZEf ?_
 refine ZCt ?_
 refine ZBL ?_
 refine KL (fun q1 z1 => ?_) (fun q1 z1 => ?_)
 ·refine ZA1 ?_
  refine RZ (aE rfl rfl (aJ m_m (show (cU (oneU u))[8364]? = some (.int .i64 u.line) from cU_line (hu.one hd)))) rfl (ZBr ?_)
  refine KC (fun q2 z2 => ?_) (fun q2 z2 => ?_)
  ·refine ZAl ?_
   refine RZ (cB K_ rfl (fun w hw => aNu b (oneU u) (hu.one hd) w (St.lentA hw) (show u.line < 144 by (try simp only [decide_eq_true_eq, decide_eq_false_iff_not, beq_iff_eq, beq_eq_false_iff_ne, bne_iff_ne, bne_eq_false_iff_eq, ne_eq] at *); omega) hok.own599)) rfl (ZBb ?_)
   have hs9 : stepU u = jY (oneU u) := tN y_a y_a
   refine ZAy ?_
   refine ZBr ?_
   have hlit : gS u = true := by simp_all
   exact ZC7
  refine ZBb ?_
  refine ZCt ?_
  refine ZA1 ?_
  refine KC (fun q3 z3 => ?_) (fun q3 z3 => ?_)
  ·refine ZCa ?_
   refine ZBn ?_
   have hs9 : stepU u = kO (oneU u) := sS y_a
   refine ZAy ?_
   refine ZBr ?_
   have hlit : gS u = true := by simp_all
   have hnv : wD (oneU u) = stepV u := by
    have q4 : u.dot = 113 := y_a
    unfold wD stepV oneU; simp [q4]
   exact EV rfl sR_ ⟨cA_ _ y_1, y_cf⟩
  refine ZBb ?_
  have hs9 : stepU u = oneU u := uE y_a y_a
  refine ZAy ?_
  refine ZBr ?_
  have hlit : gS u = true := by simp_all
  exact ZC7
 refine A_14 ?_
 refine ZCt ?_
 refine ZA1 ?_
 refine KC (fun q2 z2 => ?_) (fun q2 z2 => ?_)
 ·refine ZCa ?_
  refine ZBn ?_
  have hs9 : stepU u = kO (oneU u) := sS y_a
  refine ZAy ?_
  refine ZBr ?_
  have hlit : gS u = true := by simp_all
  have hnv : wD (oneU u) = stepV u := by
   have q3 : u.dot = 113 := y_a
   unfold wD stepV oneU; simp [q3]
  exact EV rfl sR_ ⟨cA_ _ y_1, y_cf⟩
 refine ZBb ?_
 have hs9 : stepU u = oneU u := uE y_a y_a
 refine ZAy ?_
 refine ZBr ?_
 have hlit : gS u = true := by simp_all
 exact ZC7
def new_fn (w : AI) : aB prog 88 [] w [] (fun v H => ∃ b, v = P_ b ∧ H = [(b, blk (cU fX) 247)]) := by
 refine dR_ func88 ?_
 refine ZBn ?_
 refine RY (eL (l := cU fX) (z := cU fX) (ps := []) rfl y_f rfl rfl) rfl (RX (cM (l := cU fX) rfl rfl) rfl (ZAq fun b0 => ?_))
 refine ZA1 ?_
 exact EV rfl sR_ ⟨b0, rfl, rfl⟩
def peek_fn (b : Nat) (u : PU) (hu : u.Wf) (w : AI) (hr : Row w b 0 (cU u)) (a : Int) (ha : 0 ≤ a ∧ a < 65536) : aB prog 116 [P_ b, .int .u16 a] w [] (V_ (.int .u8 (lC u a))) := by
 have hlb := hu.line
 have hnr := vQ a
 have hmr := zD u
 refine dR_ func116 ?_
 refine A_14 ?_
 rcases aAJ ha with ⟨j, hj, rfl⟩ | ⟨j, hj, rfl⟩ | hno
 ·refine ZBu ?_
  rw [aDE hj]
  refine A_9 ?_
  refine ZAQ ?_
  refine ZBn ?_
  refine RZ (aE rfl rfl (aV (hr _ _ (aUZ hu hj)) y_r)) rfl (ZA1 ?_)
  exact E0 rfl ⟨rfl, cA_ _ (aSm hj).symm⟩
 ·refine ZBu ?_
  rw [aDR hj]
  refine A_9 ?_
  refine ZAQ ?_
  refine ZBn ?_
  refine RZ (aE rfl rfl (aV (nS hr (aU7 hu hj)) y_r)) rfl (ZA1 ?_)
  exact E0 rfl ⟨rfl, cA_ _ (aSY hj).symm⟩
 refine ZBu ?_
 rw [aBZ hno]
 refine A_9 ?_
 refine ZAE ?_
 refine ZBn ?_
 refine RLv K_ (wQ_ (aD8 _ ha)) ?_
 refine A_13 ?_
 refine KC (fun q0 z0 => ?_) (fun q0 z0 => ?_)
 ·refine ZBb ?_
  exact E0 rfl ⟨rfl, cA_ _ (by rw [aAi hno, if_pos y_a])⟩
 refine ZBb ?_
 refine KC (fun q1 z1 => ?_) (fun q1 z1 => ?_)
 ·refine ZBb ?_
  refine RZ (aE rfl rfl (aV (nS hr (cU_line hu)) y_r)) rfl (RW (v := (.int .u8 (u.line % 256))) rfl rfl (cA_ _ (fL _)) (ZA1 ?_))
  exact E0 rfl ⟨rfl, cA_ _ (by rw [aAi hno, if_neg y_a, if_pos y_a])⟩
 refine ZBb ?_
 refine KC (fun q2 z2 => ?_) (fun q2 z2 => ?_)
 ·refine ZBL ?_
  refine DR [7, 8, 9] (pln [0, 2, 4, 6, 8, 10, 12, 14, 17, 18, 20, 22]) ?_
  refine ZBr ?_
  refine DY rfl (aQ (numU a).toNat rfl rfl rfl y_a y_a) rfl (DL rfl rfl rfl (eB (nS hr (qJ hu (j := (numU a).toNat) y_a)) y_r) rfl (ZAl ?_))
  refine DZ rfl (bJ K_ rfl (fun w hw => tP b u hu w (aN hr y_r w hw))) rfl y_d (DW (v := (.int .u8 (modeU u))) rfl rfl rfl (cA_ _ (qX o_m o_m)) (DW (v := (.int .u8 (yF u))) rfl rfl rfl (by have h9 : (numU a).toNat = 1 := y_a; rw [h9]; rfl) (ZBn ?_)))
  refine RLv K_ (fun w hw => aFM b u hu w (aN hr y_r w hw)) ?_
  refine ZBL ?_
  refine KC (fun q3 z3 => ?_) (fun q3 z3 => ?_)
  ·refine A_11 ?_
   exact E0 rfl ⟨rfl, cA_ _ (by rw [aAi hno, if_neg y_a, if_neg y_a, if_pos y_a, if_pos q3]; try rfl)⟩
  refine ZDH ?_
  exact E0 rfl ⟨rfl, cA_ _ (by rw [aAi hno, if_neg y_a, if_neg y_a, if_pos y_a, if_neg (by rw [q3]; decide)]; try rfl)⟩
 refine ZDH ?_
 refine RY (aQ (numU a).toNat rfl rfl rfl y_a y_a) rfl (RZ (aE rfl rfl (aV (nS hr (qJ hu (j := (numU a).toNat) y_a)) y_r)) rfl (ZA1 ?_))
 exact E0 rfl ⟨rfl, cA_ _ (by rw [aAi hno, if_neg y_a, if_neg y_a, if_neg y_a])⟩
def aQQ (b : Nat) (u : PU) (hu : u.Wf) (w : AI) (hr : Row w b 0 (cU u)) (a : Int) (ha : 0 ≤ a ∧ a < 65536) : aB prog 307 [P_ b, .int .u16 a] w [] (V_ (.int .u8 (qV u a))) := by
 refine dR_ func307 ?_
 refine A_14 ?_
 rcases aAJ ha with ⟨j, hj, rfl⟩ | ⟨j, hj, rfl⟩ | hno
 ·refine ZBu ?_
  rw [aDE hj]
  refine A_9 ?_
  refine ZAQ ?_
  refine ZAl ?_
  refine RLv K_ (fun w hw => tP b u hu w (aN hr y_r w hw)) ?_
  refine ZBr ?_
  refine KC (fun q0 z0 => ?_) (fun q0 z0 => ?_)
  ·refine ZBb ?_
   exact E0 rfl ⟨rfl, cA_ _ (by rw [aJW hj, if_pos y_a])⟩
  refine ZBb ?_
  refine ZDc ?_
  exact E0 rfl ⟨rfl, cA_ _ (by rw [aJW hj, if_neg y_a])⟩
 ·refine ZBu ?_
  rw [aDR hj]
  refine A_9 ?_
  refine ZAQ ?_
  refine ZAl ?_
  refine RLv K_ (fun w hw => tP b u hu w (aN hr y_r w hw)) ?_
  refine ZBr ?_
  refine KC (fun q0 z0 => ?_) (fun q0 z0 => ?_)
  ·refine ZBb ?_
   exact E0 rfl ⟨rfl, cA_ _ (by rw [aLo hj, if_pos y_a])⟩
  refine ZBb ?_
  refine ZDc ?_
  exact E0 rfl ⟨rfl, cA_ _ (by rw [aLo hj, if_neg y_a])⟩
 refine ZBu ?_
 rw [aBZ hno]
 refine A_9 ?_
 refine ZAE ?_
 refine A_13 ?_
 refine ZDc ?_
 exact E0 rfl ⟨rfl, cA_ _ (aQv hno).symm⟩
set_option maxHeartbeats 2000000 in
def aOJ (b : Nat) (u : PU) (hu : u.Wf) (w : AI) (hst : St w [b] [(b, blk (cU u) 247)] w) (a x : Int) (ha : 0 ≤ a ∧ a < 65536) (hx : 0 ≤ x ∧ x < 256) : aB prog 308 [P_ b, .int .u16 a, .int .u8 x] w [b] (fun v H => v = .int .u8 (jQ u a x) ∧ H = [(b, blk (cU (fO u a x)) 247)]) := by
 have hnr := vQ a
 refine dO_ func308 hst ?_
 refine A_14 ?_
 rcases aAJ ha with ⟨j, hj, rfl⟩ | ⟨j, hj, rfl⟩ | hno
 ·refine ZBu ?_
  rw [aDE hj]
  refine A_9 ?_
  refine ZAQ ?_
  refine ZBn ?_
  refine RLv K_ (fun w hw => tP b u hu w (aA m_m w hw)) ?_
  refine ZA1 ?_
  refine KC (fun q0 z0 => ?_) (fun q0 z0 => ?_)
  ·refine ZBr ?_
   refine RZ (aD (l' := cU { u with V := u.V.set j x }) 0 rfl rfl rfl rfl rfl rfl y_l (by rw [bi]; exact aTw hu hj x)) rfl (ZEZ ?_)
   exact EV rfl sR_ ⟨cA_ _ (aR4 _ hj).symm, by rw [aHQ _ hj, if_pos y_a]⟩
  refine ZBn ?_
  exact EV rfl sR_ ⟨cA_ _ (aR4 _ hj).symm, by rw [aHQ _ hj, if_neg y_a]⟩
 ·refine ZBu ?_
  rw [aDR hj]
  refine A_9 ?_
  refine ZAQ ?_
  refine ZBn ?_
  refine RLv K_ (fun w hw => tP b u hu w (aA m_m w hw)) ?_
  refine ZA1 ?_
  refine KC (fun q0 z0 => ?_) (fun q0 z0 => ?_)
  ·refine ZBr ?_
   refine RZ (aD (l' := cU { u with O := u.O.set j x }) 0 rfl rfl rfl rfl rfl rfl y_l (aMj hu hj x)) rfl (ZEZ ?_)
   exact EV rfl sR_ ⟨cA_ _ (aS7 _ hj).symm, by rw [aHv _ hj, if_pos y_a]⟩
  refine ZBn ?_
  exact EV rfl sR_ ⟨cA_ _ (aS7 _ hj).symm, by rw [aHv _ hj, if_neg y_a]⟩
 refine ZBu ?_
 rw [aBZ hno]
 refine A_9 ?_
 refine ZAE ?_
 refine ZBn ?_
 refine RLv K_ (wQ_ (aD8 _ ha)) ?_
 refine ZBL ?_
 refine RLv K_ (fun w hw => sQ b u hu w (aA m_m w hw)) ?_
 refine A_14 ?_
 refine KC (fun q0 z0 => ?_) (fun q0 z0 => ?_)
 ·refine ZBb ?_
  exact EV rfl sR_ ⟨cA_ _ (aUt _ hno y_a).symm, by rw [aNV _ hno y_a]⟩
 refine ZBb ?_
 refine KC (fun q1 z1 => ?_) (fun q1 z1 => ?_)
 ·refine ZDH ?_
  refine RY (aQ (numU a).toNat rfl rfl rfl y_a y_a) rfl (RZ (aD (l' := cU { u with R := u.R.set 1 (aH .u8 x 120) }) 0 rfl rfl rfl rfl rfl rfl y_l (by rw [show (numU a).toNat = 1 by (try simp only [decide_eq_true_eq, decide_eq_false_iff_not, beq_iff_eq, beq_eq_false_iff_ne, bne_iff_ne, bne_eq_false_iff_eq, ne_eq] at *); omega]; exact aKU hu (j := 1) y_b _)) rfl (ZAC ?_))
  refine ZBb ?_
  refine KL (fun q2 z2 => ?_) (fun q2 z2 => ?_)
  ·refine ZBL ?_
   refine RLv K_ (fun w hw => sQ b ({ u with R := u.R.set 1 (aH .u8 x 120) }) (hu.set1 hx) w (aA m_m w hw)) ?_
   refine ZA1 ?_
   refine KC (fun q3 z3 => ?_) (fun q3 z3 => ?_)
   ·refine ZBn ?_
    refine RZ (aD (l' := cU ({ ({ u with R := u.R.set 1 (aH .u8 x 120) } : PU) with line := 0 } : PU)) 0 rfl rfl rfl rfl rfl rfl (by rw [cU_len (hu.set1 hx)]; simp only [Lc_, au]; (try simp only [decide_eq_true_eq, decide_eq_false_iff_not, beq_iff_eq, beq_eq_false_iff_ne, bne_iff_ne, bne_eq_false_iff_eq, ne_eq] at *); omega) (sT (hu.set1 hx) _)) rfl (ZBU ?_)
    refine RZ (aD (l' := cU ({ ({ u with R := u.R.set 1 (aH .u8 x 120) } : PU) with line := 0, dot := 0 } : PU)) 0 rfl rfl rfl rfl rfl rfl (by rw [cU_len ((hu.set1 hx).line_ (x := 0) y_b)]; simp only [Lc_, au]; (try simp only [decide_eq_true_eq, decide_eq_false_iff_not, beq_iff_eq, beq_eq_false_iff_ne, bne_iff_ne, bne_eq_false_iff_eq, ne_eq] at *); omega) (uM ((hu.set1 hx).line_ (x := 0) y_b) _)) rfl (ZBU ?_)
    refine RZ (aD (l' := cU ({ ({ u with R := u.R.set 1 (aH .u8 x 120) } : PU) with line := 0, dot := 0, own := 0 } : PU)) 0 rfl rfl rfl rfl rfl rfl (by rw [cU_len (((hu.set1 hx).line_ (x := 0) y_b).dot_ (x := 0) y_b)]; simp only [Lc_, au]; (try simp only [decide_eq_true_eq, decide_eq_false_iff_not, beq_iff_eq, beq_eq_false_iff_ne, bne_iff_ne, bne_eq_false_iff_eq, ne_eq] at *); omega) (rE (((hu.set1 hx).line_ (x := 0) y_b).dot_ (x := 0) y_b) _)) rfl (ZAC ?_)
    refine ZBr ?_
    have hs9 : putU u (numU a) x = ({ ({ u with R := u.R.set 1 (aH .u8 x 120) } : PU) with line := 0, dot := 0, own := 0 } : PU) := by
     unfold putU; rw [set_1 y_a]; exact aBc y_cd y_cd
    exact ZCn
   refine ZBr ?_
   exact ZD4
  refine A_10 ?_
  exact ZD4
 refine ZBb ?_
 refine KC (fun q2 z2 => ?_) (fun q2 z2 => ?_)
 ·refine ZBb ?_
  refine KL (fun q3 z3 => ?_) (fun q3 z3 => ?_)
  ·refine ZBL ?_
   refine RLv K_ (fun w hw => sQ b (u) hu w (aA m_m w hw)) ?_
   refine ZA1 ?_
   refine KC (fun q4 z4 => ?_) (fun q4 z4 => ?_)
   ·refine ZBn ?_
    refine RZ (aD (l' := cU ({ (u : PU) with line := 0 } : PU)) 0 rfl rfl rfl rfl rfl rfl y_l (sT hu _)) rfl (ZBU ?_)
    refine RZ (aD (l' := cU ({ (u : PU) with line := 0, dot := 0 } : PU)) 0 rfl rfl rfl rfl rfl rfl (by rw [cU_len (hu.line_ (x := 0) y_b)]; simp only [Lc_, au]; (try simp only [decide_eq_true_eq, decide_eq_false_iff_not, beq_iff_eq, beq_eq_false_iff_ne, bne_iff_ne, bne_eq_false_iff_eq, ne_eq] at *); omega) (uM (hu.line_ (x := 0) y_b) _)) rfl (ZBU ?_)
    refine RZ (aD (l' := cU ({ (u : PU) with line := 0, dot := 0, own := 0 } : PU)) 0 rfl rfl rfl rfl rfl rfl (by rw [cU_len ((hu.line_ (x := 0) y_b).dot_ (x := 0) y_b)]; simp only [Lc_, au]; (try simp only [decide_eq_true_eq, decide_eq_false_iff_not, beq_iff_eq, beq_eq_false_iff_ne, bne_iff_ne, bne_eq_false_iff_eq, ne_eq] at *); omega) (rE ((hu.line_ (x := 0) y_b).dot_ (x := 0) y_b) _)) rfl (ZAC ?_)
    refine ZBr ?_
    have hs9 : putU u (numU a) x = ({ (u : PU) with line := 0, dot := 0, own := 0 } : PU) := by
     unfold putU; rw [aCH y_a]; exact aBc y_cd y_cd
    exact ZCn
   refine ZBr ?_
   have hs9 : putU u (numU a) x = u := by
    unfold putU; rw [aCH y_a]; exact off_no y_cd
   exact ZCn
  refine A_10 ?_
  have hs9 : putU u (numU a) x = u := by
   unfold putU; rw [aCH y_a]; exact off_no y_cd
  exact ZCn
 refine ZBn ?_
 refine RY (aQ (numU a).toNat rfl rfl rfl y_a y_a) rfl (RZ (aD (l' := cU { u with R := u.R.set (numU a).toNat x }) 0 rfl rfl rfl rfl rfl rfl y_l (aKU hu (j := (numU a).toNat) y_a x)) rfl (ZAC ?_))
 refine ZBb ?_
 refine KL (fun q3 z3 => ?_) (fun q3 z3 => ?_)
 ·refine ZBL ?_
  refine RLv K_ (fun w hw => sQ b ({ u with R := u.R.set (numU a).toNat x }) (hu.setn hx y_a y_a) w (aA m_m w hw)) ?_
  refine ZA1 ?_
  refine KC (fun q4 z4 => ?_) (fun q4 z4 => ?_)
  ·refine ZBn ?_
   refine RZ (aD (l' := cU ({ ({ u with R := u.R.set (numU a).toNat x } : PU) with line := 0 } : PU)) 0 rfl rfl rfl rfl rfl rfl (by rw [cU_len (hu.setn hx y_a y_a)]; simp only [Lc_, au]; (try simp only [decide_eq_true_eq, decide_eq_false_iff_not, beq_iff_eq, beq_eq_false_iff_ne, bne_iff_ne, bne_eq_false_iff_eq, ne_eq] at *); omega) (sT (hu.setn hx y_a y_a) _)) rfl (ZBU ?_)
   refine RZ (aD (l' := cU ({ ({ u with R := u.R.set (numU a).toNat x } : PU) with line := 0, dot := 0 } : PU)) 0 rfl rfl rfl rfl rfl rfl (by rw [cU_len ((hu.setn hx y_a y_a).line_ (x := 0) y_b)]; simp only [Lc_, au]; (try simp only [decide_eq_true_eq, decide_eq_false_iff_not, beq_iff_eq, beq_eq_false_iff_ne, bne_iff_ne, bne_eq_false_iff_eq, ne_eq] at *); omega) (uM ((hu.setn hx y_a y_a).line_ (x := 0) y_b) _)) rfl (ZBU ?_)
   refine RZ (aD (l' := cU ({ ({ u with R := u.R.set (numU a).toNat x } : PU) with line := 0, dot := 0, own := 0 } : PU)) 0 rfl rfl rfl rfl rfl rfl (by rw [cU_len (((hu.setn hx y_a y_a).line_ (x := 0) y_b).dot_ (x := 0) y_b)]; simp only [Lc_, au]; (try simp only [decide_eq_true_eq, decide_eq_false_iff_not, beq_iff_eq, beq_eq_false_iff_ne, bne_iff_ne, bne_eq_false_iff_eq, ne_eq] at *); omega) (rE (((hu.setn hx y_a y_a).line_ (x := 0) y_b).dot_ (x := 0) y_b) _)) rfl (ZAC ?_)
   refine ZBr ?_
   have hs9 : putU u (numU a) x = ({ ({ u with R := u.R.set (numU a).toNat x } : PU) with line := 0, dot := 0, own := 0 } : PU) := by
    unfold putU; rw [set_n y_a y_a]; exact aBc y_cd y_cd
   exact ZCn
  refine ZBr ?_
  exact ZDy
 refine A_10 ?_
 exact ZDy
def aKi (b : Nat) (u : PU) (hu : u.Wf) (w : AI) (hst : St w [b] [(b, blk (cU u) 247)] w) (n x : Int) (hx : 0 ≤ x ∧ x < 256) : aB prog 324 [P_ b, .int .i64 n, .int .u8 x] w [b] (fun v H => v = .tuple #[] ∧ H = [(b, blk (cU (kT u n x)) 247)]) := by
 refine dO_ func324 hst ?_
 refine ZEf ?_
 refine KL (fun q0 z0 => ?_) (fun q0 z0 => ?_)
 ·refine ZBr ?_
  refine KC (fun q1 z1 => ?_) (fun q1 z1 => ?_)
  ·refine ZBn ?_
   refine RY (aQ n.toNat rfl rfl rfl y_a y_a) rfl (RZ (aD (l' := cU { u with O := u.O.set n.toNat x }) 0 rfl rfl rfl rfl rfl rfl y_l (aMj hu (j := n.toNat) y_a x)) rfl (ZAC ?_))
   refine ZBL ?_
   exact EN sR_ ⟨rfl, by unfold kT; rw [if_pos y_a]⟩
  refine ZBL ?_
  exact EN sR_ ⟨rfl, by unfold kT; rw [if_neg y_a]⟩
 refine ZBn ?_
 exact EN sR_ ⟨rfl, by unfold kT; rw [if_neg y_a]⟩
def aQt (n : Nat) (hn : n ≤ 1000000) (w : AI) : aB prog 144 [.slice none 0 0, .int .i64 n] w [] (fun v H => Vec 5 1 v 0 [] H) := by
 refine dR_ func144 ?_
 refine ZEf ?_
 refine cY false rfl rfl rfl y_r ?_
 refine ZEf ?_
 refine RY (aEk rfl rfl) rfl (ZBL ?_)
 refine ZBE ?_
 refine RW (v := (.int .i64 0)) rfl rfl rfl (RW (v := (.int .i64 (n : Int))) rfl rfl (cA_ _ (by rw [Int.sub_zero]; exact aL o_m o_m)) (ZDH ?_))
 refine KC (fun q0 z0 => ?_) (fun q0 z0 => ?_)
 ·refine ZA1 ?_
  refine RY (aEk rfl rfl) rfl (RY (aA4 0 rfl rfl rfl rfl y_b) rfl (ZBL ?_))
  refine RX (aI7 (n := n) (T := 5) (s := 1) (by_ := 1) rfl rfl rfl rfl rfl o_m hn y_b) rfl ?_
  rintro _ _ ⟨b0, cap, sp, rfl, rfl, hsp, hcap, hcm⟩
  refine ZBL ?_
  refine ZBE ?_
  refine RY (aA4 0 rfl rfl rfl rfl o_m) rfl (ZEf ?_)
  exact EV rfl sR_ (.row b0 0 cap [] sp rfl (by simpa using hsp) hcm (al _))
 refine ZDH ?_
 exact E0 rfl .nil
def aMC (b : Nat) (S : List Sg) (w : AI) (hr : Row w b 0 (aF cSg S)) (hn : S.length ≤ 1000) (hs : ∀ s ∈ S, Ns w .u8 s.a s.l ∧ s.l.length ≤ s.c) (hl : (kX S).length ≤ 1000000) :
  aB prog 103 [.slice (Q_ b) S.length S.length] w [] (fun v H => Vec 5 1 v (kX S).length ((kX S).map (.int .u8)) H) := by
 refine dR_ func103 ?_
 refine A_12 ?_
 refine RY l_n rfl (A_3 ?_)
 refine nL (σ := Nat) [3, 5, 11, 12, 13, 14, 15, 16, 17, 18, 19, 20, 21, 22] (fun i => [(3, .int .i64 ((kX (S.take i)).length : Int)), (11, .int .i64 i)]) (fun i => i ≤ S.length) (fun i => S.length - i) 0 ?_ ?_ ?_
 ·exact al _
 ·exact .cons rfl (.cons rfl .nil)
 intro i y3 hi
 have hc0 := aDL S i
 refine A_5 ?_
 refine KC (fun h1 h1n => ?_) (fun h1 h1n => ?_)
 ·refine A_4 ?_
  obtain ⟨s, hsi⟩ : ∃ s, S[i]? = some s := ⟨_, zN o_m⟩
  have hc1 := aD3 S i hsi
  have hc2 := aDL S (i + 1)
  have hc3 := cA_ List.length hc1
  rw [La_] at hc3
  refine A_1 ?_
  refine RY (aP i rfl rfl rfl rfl o_m) rfl (RZ (aE rfl rfl (fun w hw => y_en)) rfl (A_6 ?_))
  refine RY (aEx (a := s.a) (c := s.c) rfl rfl) rfl (RW (v := (.int .i64 (((kX (S.take i)).length : Int) + (s.l.length : Int)))) rfl rfl (cA_ _ (aL o_m o_m)) (A_5 ?_))
  refine cY false rfl rfl rfl y_be ?_
  refine A_4 ?_
  refine RW (v := (.int .i64 ((i + 1 : Nat) : Int))) rfl rfl (cA_ _ (bC o_m)) (A_2 ?_)
  exact ⟨i + 1, y_y, y_y, .cons (cA_ (Value.int .i64) (show (((kX (S.take i)).length : Int) + (s.l.length : Int)) = ((kX (S.take (i + 1))).length : Int) by omega)) (.cons rfl .nil), a_g, fun _ h => h⟩
 refine A_2 ?_
 obtain rfl : S.length = i := by omega
 rw [db]
 refine A_2 ?_
 refine RX (bI K_ rfl (wQ_ (aQt _ o_m))) rfl ?_
 rintro v24 _ ⟨G24, hV24, rfl⟩
 refine wA (v := v24) rfl rfl rfl ?_
 refine A_5 ?_
 refine RY l_n rfl (A_3 ?_)
 refine bD (σ := Nat × AH × aC) [6, 8, 27, 28, 29, 30, 31, 32, 33, 34] (fun s => [(6, s.2.1), (27, .int .i64 s.1)]) (fun s => s.2.2 ++ []) (fun s => s.1 ≤ S.length ∧ Vec 5 1 s.2.1 (kX (S.take s.1)).length ((kX (S.take s.1)).map (.int .u8)) s.2.2) (fun s => S.length - s.1) (0, v24, G24) ?_ ?_ ?_ ?_
 ·exact ⟨al _, hV24⟩
 ·exact .cons rfl (.cons rfl .nil)
 ·exact fun _ h => h
 rintro ⟨i, v6, G6⟩ y11 ⟨hi, hV6⟩
 dsimp only at hi hV6 ⊢
 obtain ⟨a6, c6, rfl⟩ := hV6.slice
 have hle6 := hV6.cap_le.1
 refine A_5 ?_
 refine KC (fun h2 h2n => ?_) (fun h2 h2n => ?_)
 ·refine A_4 ?_
  obtain ⟨s, hsi⟩ : ∃ s, S[i]? = some s := ⟨_, zN o_m⟩
  obtain ⟨hsN, hsc⟩ := hs s (bq hsi)
  have hc1 := aD3 S i hsi
  have hc2 := aDL S (i + 1)
  have hc3 := cA_ List.length hc1
  rw [La_] at hc3
  rcases (show s.l.length = 0 ∨ 0 < s.l.length by omega) with hs0 | hs1
  ·refine A_1 ?_
   refine RY (aP i rfl rfl rfl rfl o_m) rfl (RZ (aE rfl rfl (fun w hw => y_en)) rfl (A_5 ?_))
   refine RZ (aEp rfl rfl hs0 rfl rfl hle6) rfl (A_3 ?_)
   refine RW (v := (.int .i64 ((i + 1 : Nat) : Int))) rfl rfl (cA_ _ (bC o_m)) (A_2 ?_)
   exact ⟨(i + 1, _, G6), ⟨y_y, by rw [hc1, cw hs0, bg]; exact hV6⟩, y_y, .cons rfl (.cons rfl .nil), a_g, fun _ h => h⟩
  refine A_1 ?_
  refine RY (aP i rfl rfl rfl rfl o_m) rfl (RZ (aE rfl rfl (fun w hw => y_en)) rfl (A_5 ?_))
  obtain ⟨bs9, os9, has9, hrs⟩ := hsN hs1
  rw [has9]
  refine RX (jG (A := []) (G := G6 ++ []) (n := (kX (S.take i)).length) (m := s.l.length) (T := 5) (s := 1) (by_ := 1) (ys := s.l.map (.int .u8)) rfl rfl rfl rfl (by rw [bg]; exact hV6) (fun w hw => .row _ _ _ _ _ y_r (aN hrs y_r w hw)) (dZ _ _) o_m o_m) rfl ?_
  rintro v33 _ ⟨G33, hV33, _, rfl⟩
  obtain ⟨a33, c33, rfl⟩ := hV33.slice
  refine A_3 ?_
  refine RW (v := (.int .i64 ((i + 1 : Nat) : Int))) rfl rfl (cA_ _ (bC o_m)) (A_2 ?_)
  exact ⟨(i + 1, _, G33), ⟨y_y, hV33.as hc3.symm (by rw [hc1, be])⟩, y_y, .cons rfl (.cons rfl .nil), a_g, fun _ h => h⟩
 refine A_2 ?_
 obtain rfl : S.length = i := by omega
 refine A_5 ?_
 exact EV rfl (cn _ _) (by have h9 := hV6; simp only [db] at h9 ⊢; exact h9)
def aP7 (is : Bool) (w : AI) : aB prog 104 [.bool is] w [] (V_ (.int .u8 (eG is))) := by
 refine dR_ func104 ?_
 refine A_9 ?_
 refine KC (fun q0 z0 => ?_) (fun q0 z0 => ?_)
 ·refine ZBb ?_
  exact E0 rfl ⟨rfl, by subst q0; rfl⟩
 refine ZBn ?_
 exact E0 rfl ⟨rfl, by subst q0; rfl⟩
def aMk (b : Nat) (u : PU) (hu : u.Wf) (w : AI) (hr : Row w b 0 (cU u)) : aB prog 55 [P_ b] w [] (fun v H => Vec 5 1 v (eH u).length ((eH u).map (.int .u8)) H) := by
 have hdb := hu.dot
 have hlb := hu.line
 have hob := hu.own
 have hfb := hu.frames
 refine dR_ func55 ?_
 refine A_17 ?_
 refine RZ (aK rfl rfl (by rw [Lm_, hu.lR]; rfl) (aN (aUY hu hr) y_r)) rfl (ZCN fun b0 => ?_)
 refine RZ (aD (l' := u.R.map (.int .u8)) 0 rfl rfl rfl (by rw [Lm_, hu.lR]; rfl) (dZ _ _) rfl (by rw [Lm_, hu.lR]; simp) (oQ (by rw [Lm_, hu.lR]; rfl))) rfl (ZBn ?_)
 refine RZ (aE rfl rfl (aV (nS hr (cU_line hu)) y_r)) rfl (RW (dN rfl rfl rfl) rfl y_o (RY y_dS rfl (RZ (aD (l' := (r4 u).map (.int .u8)) 0 rfl rfl rfl rfl rfl rfl (by rw [Lm_, hu.lR]; simp) (jM .u8 (by rw [hu.lR]; decide) _)) rfl ?_)))
 refine ZAl ?_
 have hl83 := aEh hu b b0
 refine DR [] (pln [0, 2, 4, 6, 8, 10, 12, 14, 16, 18, 21, 23, 24]) ?_
 refine ZBi ?_
 refine ZCE ?_
 refine DW (v := (.slice (Q_ b0) ((r4 u).take 6).length 12)) rfl (eM 0 6 rfl rfl rfl rfl rfl rfl y_b y_b) rfl (by rw [Lt_, r4_len hu]; rfl) (DW (v := (.slice (some ⟨b0, 7, none⟩) ((r4 u).drop 7).length 5)) rfl (eM 7 12 rfl rfl rfl rfl rfl rfl y_b y_b) rfl (by rw [Ld_, r4_len hu]; rfl) (DX rfl (dX rfl rfl rfl rfl rfl rfl) rfl n_h ?_))
 rintro _ _ ⟨b1, rfl, rfl⟩
 refine DX rfl (bI K_ (vs := [.slice (Q_ b1) 4 4]) rfl (fun w hw => aMC b1 (wB u b b0) w (aA m_m w hw) (by simp [wB]) (aO9 hu (aN hr y_r w hw) (aA m_m w hw)) o_m)) rfl n_h ?_
 rintro v0 _ ⟨G0, hV0, rfl⟩
 obtain ⟨a29, c0, rfl⟩ := hV0.slice
 refine ZA1 ?_
 refine DR [6, 7, 8, 9, 10, 11, 12, 13, 14, 15, 16, 17, 18, 19, 20, 21, 22, 23, 24, 25, 26] (pln [0, 2, 4, 6, 8, 10, 12, 14, 16, 18, 20, 22, 24, 26, 28, 30, 32, 34, 36, 38, 40, 42, 44, 46, 48, 50, 53, 55, 57, 58]) ?_
 refine ZBr ?_
 refine DL rfl rfl rfl (eB (nS hr (cU_dot hu)) y_r) rfl (ZBV ?_)
 refine ZA1 ?_
 refine DL rfl rfl rfl (eB (nS hr (aCN hu)) y_r) rfl (ZBV ?_)
 refine ZA1 ?_
 refine DL rfl rfl rfl (eB (nS hr (aAx hu)) y_r) rfl (ZBV ?_)
 refine ZA1 ?_
 refine DL rfl rfl rfl (eB (nS hr (aAx hu)) y_r) rfl (ZDL ?_)
 refine ZA1 ?_
 refine DL rfl rfl rfl (eB (nS hr (cU_sig hu)) y_r) rfl (DZ rfl (bJ K_ rfl (wQ_ (aP7 u.sig))) rfl y_d (DX rfl (dX rfl rfl rfl rfl rfl rfl) rfl n_h ?_))
 rintro _ _ ⟨b2, rfl, rfl⟩
 refine eX (H' := [(b2, _)] ++ G0) (fun _ h => St.fl [[_], G0, [_], [_]] [0, 1] rfl h) ?_
 refine DX rfl (jG (A := [(b2, blk ((mM u).map (.int .u8)) 5)]) (G := G0) (n := (kX (wB u b b0)).length) (m := 5) (T := 5) (s := 1) (by_ := 1) (ys := (mM u).map (.int .u8)) rfl rfl rfl rfl hV0 (fun w hw => .row _ _ _ _ _ rfl (aA (.head _) w hw)) (dZ _ _) o_m o_m) rfl n_h ?_
 rintro v1 _ ⟨G1, hV1, _, rfl⟩
 refine aPm (v := v1) rfl rfl rfl rfl ?_
 refine ZA1 ?_
 have hV5 : Vec 5 1 v1 (qF u).length ((qF u).map (.int .u8)) G1 := hV1.as (by rw [aAK hu, aEh hu]) (by rw [aEA]; simp [qF])
 refine ZBr ?_
 refine bD (σ := Nat × AH × aC) [4, 5, 59, 60, 61, 62, 63, 64, 65, 66, 67, 68, 69, 70] (fun s => [(4, s.2.1), (59, .int .i64 s.1)]) (fun s => s.2.2 ++ []) (fun s => s.1 ≤ 144 ∧ Vec 5 1 s.2.1 (qF u ++ u.P.take (s.1 * 160)).length ((qF u ++ u.P.take (s.1 * 160)).map (.int .u8)) s.2.2) (fun s => 144 - s.1) (0, v1, G1) ?_ ?_ ?_ ?_
 ·exact ⟨al _, by simpa using hV5⟩
 ·exact .cons rfl (.cons rfl .nil)
 ·exact fun _ h => h.sub (sR_.append (List.nil_sublist _))
 rintro ⟨i, v2, G2⟩ y8 ⟨hi, hV2⟩
 dsimp only at hi hV2 ⊢
 obtain ⟨a4, cx1, rfl⟩ := hV2.slice
 have hl4 : (qF u ++ u.P.take (i * 160)).length ≤ 31408 := by rw [La_, aAK hu, Lt_, hu.lP]; omega
 refine ZBb ?_
 refine KC (fun q0 z0 => ?_) (fun q0 z0 => ?_)
 ·refine ZEf ?_
  have hi144 : i < 144 := by omega
  refine ZBn ?_
  refine RY (bZ (s := 160) i rfl rfl rfl rfl o_m) rfl (RW (v := (.slice (some ⟨b, 8369 + i * 160, none⟩) 160 160)) (eM 0 160 rfl rfl rfl rfl rfl rfl y_b y_b) rfl rfl (RX (jG (A := []) (G := G2 ++ []) (n := (qF u ++ u.P.take (i * 160)).length) (m := 160) (T := 5) (s := 1) (by_ := 1) (ys := ((u.P.drop (i * 160)).take 160).map (.int .u8)) rfl rfl rfl rfl (by rw [bg]; exact hV2) (fun w hw => .row _ _ _ _ _ (by rw [Lm_, Lt_, Ld_, hu.lP]; omega) (aN (aUM hu hr o_m) y_r w hw)) (dZ _ _) o_m o_m) rfl ?_))
  rintro v3 _ ⟨G3, hV3, _, rfl⟩
  refine wA (v := v3) rfl rfl rfl ?_
  refine ZAl ?_
  refine ZAD ?_
  exact ⟨(i + 1, _, G3), ⟨y_y, hV3.as (by rw [← aAA u.P i]; simp only [La_, Lt_, Ld_, hu.lP]; omega) (by rw [← aAA u.P i]; simp)⟩, y_y, .cons rfl (.cons rfl .nil), a_g, fun _ h => h⟩
 refine ZAl ?_
 obtain rfl : i = 144 := by omega
 refine ZBb ?_
 exact EV rfl (cn _ _) (hV2.as y_cV y_cV)
def aO1 (x : Int) (w : AI) : aB prog 184 [.int .u8 x] w [] (V_ (.bool (decide (3 < x)))) := by
 refine dR_ func184 ?_
 refine A_11 ?_
 exact E0 rfl ⟨rfl, rfl⟩
def aMW (a : AC) (c : Nat) (l : AB) (hc : l.length ≤ 1000000) (w : AI) (hB : Ns w .u8 a l) :
  aB prog 205 [.slice a l.length c, .func (.func 184) #[] #[]] w [] (fun v H => H = [] ∧ ∃ o, v = .int .i64 o ∧ decide (0 ≤ o) = l.any fun x => decide (3 < x)) := by
 refine dR_ func205 ?_
 refine A_8 ?_
 refine RY l_n rfl (A_3 ?_)
 refine nL (σ := Nat) [4, 5, 8, 9, 10, 11, 12, 13, 14, 15, 16, 17, 18] (fun i => [(8, .int .i64 i)]) (fun i => i ≤ l.length ∧ ∀ j, j < i → ¬ 3 < l.getD j 0) (fun i => l.length - i) 0 ?_ ?_ ?_
 ·exact ⟨al _, fun j hj => y_y⟩
 ·exact .cons rfl .nil
 rintro i y2 ⟨hi, hno⟩
 refine A_5 ?_
 refine KC (fun h1 h1n => ?_) (fun h1 h1n => ?_)
 ·refine A_9 ?_
  obtain ⟨b, off, rfl, hr⟩ := hB.row (i := i) o_m
  refine A_4 ?_
  refine RY (aP i rfl rfl rfl rfl o_m) rfl (RZ (aE rfl rfl (aV (hr.int (i := i) o_m) y_r)) rfl (RZ (xE (A := []) (B := []) rfl K_ rfl (wQ_ (aO1 _))) rfl (A_1 ?_)))
  refine KC (fun h2 h2n => ?_) (fun h2 h2n => ?_)
  ·refine A_6 ?_
   exact E0 rfl ⟨rfl, _, rfl, by rw [aSR (i := i) o_m (by simpa using h2)]; simp⟩
  refine A_2 ?_
  refine RW (v := (.int .i64 ((i + 1 : Nat) : Int))) rfl rfl (cA_ _ (bC o_m)) (A_2 ?_)
  exact ⟨i + 1, ⟨y_y, fun j hj => by
   rcases dk j i with h9 | h9
   ·exact hno j h9
   obtain rfl : j = i := by omega
   simpa using h2⟩, y_y, .cons rfl .nil, a_g, fun _ h => h⟩
 refine A_2 ?_
 obtain rfl : l.length = i := by omega
 refine A_4 ?_
 exact E0 rfl ⟨rfl, _, rfl, by rw [aOe hno]; rfl⟩
def aHb (a : AC) (c : Nat) (l : AB) (hc : l.length ≤ 1000000) (w : AI) (hB : Ns w .u8 a l) :
  aB prog 185 [.slice a l.length c, .func (.func 184) #[] #[]] w [] (V_ (.bool (l.any fun x => decide (3 < x)))) := by
 refine dR_ func185 ?_
 refine A_8 ?_
 refine RX (bI K_ rfl (fun w hw => aMW a c l hc w (hB.later0 hw))) rfl ?_
 rintro _ _ ⟨G7, ⟨rfl, o, rfl, ho⟩, rfl⟩
 refine A_4 ?_
 exact E0 rfl ⟨rfl, cA_ _ ho⟩
set_option maxHeartbeats 4000000 in
def aFP (b : Nat) (u : PU) (hu : u.Wf) (w : AI) (hst : St w [b] [(b, blk (cU u) 247)] w) (a : AC) (c : Nat) (l : AB) (hby : aT l) (hc : l.length ≤ c) (hB : Ns w .u8 a l) (hne : ∀ p, a = some p → p.block ≠ b) :
  aB prog 151 [P_ b, .slice a l.length c] w [b] (fun v H => v = .int .i64 (jW l) ∧ H = [(b, blk (cU (gU u l)) 247)]) := by
 refine dO_ func151 hst ?_
 refine A_16 ?_
 refine RY l_n rfl (A_3 ?_)
 refine KC (fun h1 h1n => ?_) (fun h1 h1n => ?_)
 ·refine A_5 ?_
  exact EV rfl sR_ ⟨cA_ _ (aGz o_m), by rw [rS (aGz o_m) y_b]⟩
 refine A_2 ?_
 have hl : l.length = 31408 := by omega
 obtain ⟨bb, off, rfl, hr⟩ := hB.row (i := 0) o_m
 have hab : bb ≠ b := hne _ rfl
 have b1 := hby.get 8356
 have b2 := hby.get 8363
 have b3 := hby.get 8364
 have b4 := hby.get 8365
 have b5' := hby.get 8366
 have b6 := hby.get 8367
 refine A_1 ?_
 refine RX (cG (l := cU fX) y_f) rfl ?_
 rintro _ _ ⟨b5, rfl, rfl⟩
 refine A_4 ?_
 refine RW (v := (.slice (Q_ b5) 8192 8192)) (eM 0 8192 rfl rfl rfl rfl rfl rfl y_b y_b) rfl rfl (A_1 ?_)
 refine RZ (rF (l' := cU (z1 l)) (m := l.length) (ys := l.map (.int .u8)) 0 rfl rfl rfl rfl rfl (fun w hw => Src.row (s := 1) bb (off) l.length (c) (l.map (.int .u8)) y_cK (aN (hr) y_ca w hw)) (dZ _ _) (by rw [nU_len aIo]; omega) (by rw [show min l.length 8192 = 8192 by omega]; exact p_1 hl)) rfl ?_
 try simp only [ai, ay]
 refine A_2 ?_
 refine DR [] (pln [0, 2, 4, 6, 9]) ?_
 refine A_1 ?_
 refine DW (v := (.slice (some ⟨b5, 8192, none⟩) 160 160)) rfl (eM 0 160 rfl rfl rfl rfl rfl rfl y_b y_b) rfl rfl (A_1 ?_)
 refine DW (v := (.slice (some ⟨bb, off + 8192, none⟩) 23216 (c - 8192))) rfl (dT 8192 l.length rfl rfl rfl rfl rfl rfl o_m o_m) rfl (by rw [jK o_m, hl]) (DZ rfl (rF (l' := cU (z2 l)) (m := 23216) (ys := (l.drop 8192).map (.int .u8)) 0 rfl rfl rfl rfl rfl (fun w hw => Src.row (s := 1) bb (off + 8192) 23216 (c - 8192) ((l.drop 8192).map (.int .u8)) y_cK (aN (hr.dropK 8192) y_ca w hw)) (dZ _ _) (by rw [nU_len (aA6 hl)]; decide) (p_2 hl)) rfl n_h ?_)
 try simp only [ai, ay]
 refine A_2 ?_
 refine DR [] (pln [0, 2, 4, 6, 9]) ?_
 refine A_1 ?_
 refine DW (v := (.slice (some ⟨b5, 8352, none⟩) 6 12)) rfl (eM 0 6 rfl rfl rfl rfl rfl rfl y_b y_b) rfl rfl (A_1 ?_)
 refine DW (v := (.slice (some ⟨bb, off + 8352, none⟩) 23056 (c - 8352))) rfl (dT 8352 l.length rfl rfl rfl rfl rfl rfl o_m o_m) rfl (by rw [jK o_m, hl]) (DZ rfl (rF (l' := cU (z3 l)) (m := 23056) (ys := (l.drop 8352).map (.int .u8)) 0 rfl rfl rfl rfl rfl (fun w hw => Src.row (s := 1) bb (off + 8352) 23056 (c - 8352) ((l.drop 8352).map (.int .u8)) y_cK (aN (hr.dropK 8352) y_ca w hw)) (dZ _ _) (by rw [nU_len (aCs hl)]; decide) (p_3 hl)) rfl n_h ?_)
 try simp only [ai, ay]
 refine A_2 ?_
 refine DR [] (pln [0, 2, 4, 6, 9]) ?_
 refine A_1 ?_
 refine DW (v := (.slice (some ⟨b5, 8359, none⟩) 5 5)) rfl (eM 7 12 rfl rfl rfl rfl rfl rfl y_b y_b) rfl rfl (A_1 ?_)
 refine DW (v := (.slice (some ⟨bb, off + 8358, none⟩) 5 (c - 8358))) rfl (dT 8358 8363 rfl rfl rfl rfl rfl rfl o_m o_m) rfl (by rw [jK o_m]) (DZ rfl (rF (l' := cU (z4 l)) (m := 5) (ys := ((l.drop 8358).take 5).map (.int .u8)) 0 rfl rfl rfl rfl rfl (fun w hw => Src.row (s := 1) bb (off + 8358) 5 (c - 8358) (((l.drop 8358).take 5).map (.int .u8)) y_cK (aN ((hr.dropK 8358).takeK 5) y_ca w hw)) (dZ _ _) (by rw [nU_len (aCG hl)]; decide) (p_4 hl)) rfl n_h ?_)
 try simp only [ai, ay]
 refine A_2 ?_
 refine DR [4, 5, 6, 7, 8, 9, 10, 11] (pln [0, 2, 4, 6, 8, 10, 12, 14, 16, 18, 20, 22, 24, 27, 28, 31, 32, 35]) ?_
 refine A_1 ?_
 refine DY rfl y_dS rfl (DL rfl rfl rfl (cJ m_m (aU4 hl)) rfl (DW rfl (dN rfl rfl rfl) rfl y_c (A_1 ?_)))
 refine DY rfl (aP 8363 rfl rfl rfl rfl o_m) rfl (DL rfl rfl rfl (eB (hr.int (i := 8363) o_m) y_ca) rfl (DW rfl (dN rfl rfl rfl) rfl y_c (A_1 ?_)))
 refine DY rfl (aP 8364 rfl rfl rfl rfl o_m) rfl (DL rfl rfl rfl (eB (hr.int (i := 8364) o_m) y_ca) rfl (DW rfl (dN rfl rfl rfl) rfl y_c (A_1 ?_)))
 refine DZ rfl (aD (l' := cU ({ z4 l with line := l.getD 8356 0 })) 0 rfl rfl rfl rfl rfl rfl (by rw [nU_len (eO hl)]; simp) (aVc hl)) rfl n_h ?_
 try simp only [ai, ay]
 refine A_1 ?_
 refine DZ rfl (aD (l' := cU ({ z4 l with line := l.getD 8356 0, dot := l.getD 8363 0 })) 0 rfl rfl rfl rfl rfl rfl (by rw [nU_len (u := { z4 l with line := l.getD 8356 0 }) ⟨(eO hl).lV, (eO hl).lO, (eO hl).lR, (eO hl).lP⟩]; simp) (aU2 hl)) rfl n_h ?_
 try simp only [ai, ay]
 refine A_1 ?_
 refine DZ rfl (aD (l' := cU (z5 l)) 0 rfl rfl rfl rfl rfl rfl (by rw [nU_len (u := { z4 l with line := l.getD 8356 0, dot := l.getD 8363 0 }) ⟨(eO hl).lV, (eO hl).lO, (eO hl).lR, (eO hl).lP⟩]; simp) (aVb hl)) rfl n_h ?_
 try simp only [ai, ay]
 refine A_2 ?_
 refine DR [4, 5, 6, 7, 8, 10, 11, 12, 13] (pln [0, 2, 4, 6, 8, 10, 12, 14, 16, 18, 20, 22, 24, 26, 28, 31, 32, 35]) ?_
 refine A_1 ?_
 refine DY rfl (aP 8365 rfl rfl rfl rfl o_m) rfl (DL rfl rfl rfl (eB (hr.int (i := 8365) o_m) y_ca) rfl (DW rfl (dN rfl rfl rfl) rfl y_c (A_1 ?_)))
 refine DY rfl (aP 8366 rfl rfl rfl rfl o_m) rfl (DL rfl rfl rfl (eB (hr.int (i := 8366) o_m) y_ca) rfl (DW rfl (dN rfl rfl rfl) rfl y_c (DW rfl (dO rfl rfl y_b) rfl y_d6 ?_)))
 refine DW (v := (.int .i64 (l.getD 8365 0 + 256 * l.getD 8366 0))) rfl rfl rfl (cA_ _ (by rw [Int.mul_comm (l.getD 8366 0)]; exact aQc b4 b5')) (A_1 ?_)
 refine DY rfl (aP 8367 rfl rfl rfl rfl o_m) rfl (DL rfl rfl rfl (eB (hr.int (i := 8367) o_m) y_ca) rfl (A_2 ?_))
 refine DZ rfl (aD (l' := cU ({ z5 l with frames := l.getD 8365 0 + 256 * l.getD 8366 0 })) 0 rfl rfl rfl rfl rfl rfl (by rw [nU_len (aA2 hl)]; simp) (aUX hl)) rfl n_h ?_
 try simp only [ai, ay]
 refine A_1 ?_
 refine DZ rfl (aD (l' := cU (z6 l)) 0 rfl rfl rfl rfl rfl rfl (by rw [nU_len (u := { z5 l with frames := l.getD 8365 0 + 256 * l.getD 8366 0 }) ⟨(aA2 hl).lV, (aA2 hl).lO, (aA2 hl).lR, (aA2 hl).lP⟩]; simp) (aVf hl)) rfl n_h ?_
 try simp only [ai, ay]
 refine A_4 ?_
 refine RY y_dS rfl (RZ (aD (l' := cU (z7 l)) 0 rfl rfl rfl rfl rfl rfl (by rw [nU_len (aIj hl)]; simp) (p_7 hl)) rfl ?_)
 try simp only [ai, ay]
 refine A_9 ?_
 refine RZ (aE rfl rfl (aJ m_m (aQT hl))) rfl (A_1 ?_)
 refine KL (fun h2 h2n => ?_) (fun h2 h2n => ?_)
 ·refine A_30 ?_
  exact EV rfl (bf _ _) ⟨cA_ _ (mG hl (aTO o_m)), by rw [rS (mG hl (aTO o_m)) y_b]⟩
 refine A_1 ?_
 refine RZ (aE rfl rfl (aJ m_m (aSz hl))) rfl (A_2 ?_)
 refine KL (fun h3 h3n => ?_) (fun h3 h3n => ?_)
 ·refine A_25 ?_
  exact EV rfl (bf _ _) ⟨cA_ _ (mG hl (aSj o_m)), by rw [rS (mG hl (aSj o_m)) y_b]⟩
 refine A_1 ?_
 refine RY y_dX rfl (RZ (aE rfl rfl (aJ m_m (aVa hl))) rfl (RW (tC rfl rfl) rfl rfl (A_2 ?_)))
 refine KL (fun h4 h4n => ?_) (fun h4 h4n => ?_)
 ·refine A_18 ?_
  exact EV rfl (bf _ _) ⟨cA_ _ (mG hl (aTU h4)), by rw [rS (mG hl (aTU h4)) y_b]⟩
 refine A_1 ?_
 refine RY (aP 8367 rfl rfl rfl rfl o_m) rfl (RZ (aE rfl rfl (aV (hr.int (i := 8367) o_m) y_ca)) rfl (A_2 ?_))
 refine KL (fun h5 h5n => ?_) (fun h5 h5n => ?_)
 ·refine A_12 ?_
  exact EV rfl (bf _ _) ⟨cA_ _ (mG hl (aTP o_m)), by rw [rS (mG hl (aTP o_m)) y_b]⟩
 refine A_1 ?_
 refine RW (v := (.slice (some ⟨bb, off + 8368, none⟩) (l.drop 8368).length (c - 8368))) (dT 8368 l.length rfl rfl rfl rfl rfl rfl o_m o_m) rfl (by rw [jK o_m, Ld_]) (A_1 ?_)
 refine RLv K_ (fun w hw => aHb (some ⟨bb, off + 8368, none⟩) (c - 8368) (l.drop 8368) y_be w (Ns.of (aN (hr.dropK 8368) y_ca w hw))) ?_
 refine A_2 ?_
 refine KC (fun h6 h6n => ?_) (fun h6 h6n => ?_)
 ·refine A_5 ?_
  exact EV rfl (bf _ _) ⟨cA_ _ (mG hl (aTE h6)), by rw [rS (mG hl (aTE h6)) y_b]⟩
 refine A_3 ?_
 have hok := aTJ o_m o_m h4 o_m h6
 refine A_4 ?_
 refine bD (σ := Nat) [7, 94, 95, 96, 97, 98, 99, 100, 101, 102, 103, 104, 105, 106, 107] (fun i => [(94, .int .i64 i)]) (fun i => [(b5, blk (cU (z8 l i)) 247), (b, blk (cU u) 247)]) (fun i => i ≤ 144) (fun i => 144 - i) 0 ?_ ?_ ?_ ?_
 ·exact al _
 ·exact .cons rfl .nil
 ·exact fun _ h => h.as (by rw [aU5])
 rintro i y17 hi
 refine A_5 ?_
 refine KC (fun h7 h7n => ?_) (fun h7 h7n => ?_)
 ·refine A_8 ?_
  refine DR [] (pln [0, 2, 4, 6, 8, 10, 12, 14, 16, 19]) ?_
  refine A_2 ?_
  refine DY rfl (bZ (s := 160) i rfl rfl rfl rfl o_m) rfl (DW (v := (.slice (some ⟨b5, 8369 + i * 160, none⟩) 160 160)) rfl (eM 0 160 rfl rfl rfl rfl rfl rfl y_b y_b) rfl rfl (A_2 ?_))
  refine DW rfl (yR rfl rfl) rfl y_c (DW rfl (jD rfl rfl) rfl y_c (DW (v := (.slice (some ⟨bb, off + (8368 + i * 160), none⟩) (31408 - (8368 + i * 160)) (c - (8368 + i * 160)))) rfl (dT (8368 + i * 160) l.length rfl rfl rfl rfl rfl rfl o_m o_m) rfl (by rw [jK o_m, hl]) (DZ rfl (rF (l' := cU (z8 l (i + 1))) (m := 31408 - (8368 + i * 160)) (ys := (l.drop (8368 + i * 160)).map (.int .u8)) 0 rfl rfl rfl rfl rfl (fun w hw => Src.row (s := 1) bb (off + (8368 + i * 160)) (31408 - (8368 + i * 160)) (c - (8368 + i * 160)) ((l.drop (8368 + i * 160)).map (.int .u8)) y_cK (aN (hr.dropK (8368 + i * 160)) y_ca w hw)) (dZ _ _) (by rw [nU_len (z8_ln hl o_m)]; omega) (by rw [show min (31408 - (8368 + i * 160)) 160 = 160 by omega]; exact p_8 hl o_m)) rfl n_h ?_)))
  simp only [cr, ci, ai]
  refine A_2 ?_
  refine RW (v := (.int .i64 ((i + 1 : Nat) : Int))) rfl rfl (cA_ _ (bC o_m)) (A_2 ?_)
  exact ⟨i + 1, y_y, y_y, .cons rfl .nil, a_g, fun _ h => h⟩
 refine A_2 ?_
 obtain rfl : i = 144 := by omega
 refine A_2 ?_
 refine RZ (aK rfl rfl y_dj (show ∀ w, St _ _ _ w → Row w b5 0 (cU (tE l)) from fun w hw => by have h9 := aA m_m w hw; rw [z8_all hl] at h9; exact h9)) rfl (A_1 ?_)
 refine RZ (aD (l' := cU (tE l)) 1 rfl rfl rfl y_dj (aQ3 _) rfl (by rw [← z8_all hl, nU_len (z8_ln hl (av _)), cU_len hu]; decide) (oQ (by rw [← z8_all hl, nU_len (z8_ln hl (av _)), cU_len hu]))) rfl ?_
 simp only [ai, ay]
 refine A_6 ?_
 exact EV rfl (bf _ _) ⟨cA_ _ (aCe hl hok), by rw [aDM (aCe hl hok)]⟩
end Go.Proofs.YtacejanlmhbddaaGreat
