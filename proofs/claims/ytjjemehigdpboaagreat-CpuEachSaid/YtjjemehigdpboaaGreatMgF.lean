/- The contracts of sums, and the like. -/
import Derived.Test.YtjjemehigdpboaaGreatMgA
import Derived.Test.YtjjemehigdpboaaGreatMgB
import Derived.Test.YtjjemehigdpboaaGreatMgC
import Derived.Test.YtjjemehigdpboaaGreatMgD
import Derived.Test.YtjjemehigdpboaaGreatMgE
import Derived.Test.YtjjemehigdpboaaGreatProg
namespace Go.Proofs.YtjjemehigdpboaaGreat
open Go Go.VV

/-- How many more accesses a bus bears. -/
structure BusO (β : Type) extends BusA β where
  ok : Nat → β → Prop
  oF : ∀ {n : Nat} {m : β} {a : Int}, ok (n + 1) m → 0 ≤ a ∧ a < 65536 → ok n (fetch a m).2 ∧ 0 ≤ (fetch a m).1 ∧ (fetch a m).1 < 256
  oR : ∀ {n : Nat} {m : β} {a : Int}, ok (n + 1) m → 0 ≤ a ∧ a < 65536 → ok n (read a m).2 ∧ 0 ≤ (read a m).1 ∧ (read a m).1 < 256
  oW : ∀ {n : Nat} {m : β} {a x : Int}, ok (n + 1) m → 0 ≤ a ∧ a < 65536 → 0 ≤ x ∧ x < 256 → ok n (write a x m)
  oI : ∀ {n : Nat} {m : β}, ok (n + 1) m → ok n (idle m)
  oP : ∀ {n : Nat} {m : β}, ok n m → 0 ≤ pend m ∧ pend m < 32
  oA : ∀ {k : Nat} {m : β} {n : Int}, ok k m → 0 ≤ n ∧ n < 5 → ok k (ack n m)
  oL : ∀ {n k : Nat} {m : β}, ok n m → k ≤ n → ok k m
structure BusK (P : Program) (β : Type) extends BusO β where
  t0 : TypeId
  v : Value
  rep : β → Heap → Prop
  fF : Nat
  fR : Nat
  fW : Nat
  fI : Nat
  fP : Nat
  fA : Nat
  mF : HasM P t0 "Fetch" fF
  mR : HasM P t0 "Read" fR
  mW : HasM P t0 "Write" fW
  mI : HasM P t0 "Idle" fI
  mP : HasM P t0 "Pending" fP
  mA : HasM P t0 "Ack" fA
  cF : callable P fF = true
  cR : callable P fR = true
  cW : callable P fW = true
  cI : callable P fI = true
  cP : callable P fP = true
  cA : callable P fA = true
  dF : ∀ {n : Nat} {m : β} {H : Heap} {w : World} {a : Int}, ok (n + 1) m → rep m H → St w (H.map (·.1)) H w → 0 ≤ a ∧ a < 65536 → Does P fF [v, .int .u16 a] w (H.map (·.1)) (fun u H' => u = .int .u8 (fetch a m).1 ∧ rep (fetch a m).2 H')
  dR : ∀ {n : Nat} {m : β} {H : Heap} {w : World} {a : Int}, ok (n + 1) m → rep m H → St w (H.map (·.1)) H w → 0 ≤ a ∧ a < 65536 → Does P fR [v, .int .u16 a] w (H.map (·.1)) (fun u H' => u = .int .u8 (read a m).1 ∧ rep (read a m).2 H')
  dW : ∀ {n : Nat} {m : β} {H : Heap} {w : World} {a x : Int}, ok (n + 1) m → rep m H → St w (H.map (·.1)) H w → 0 ≤ a ∧ a < 65536 → 0 ≤ x ∧ x < 256 → Does P fW [v, .int .u16 a, .int .u8 x] w (H.map (·.1)) (fun u H' => u = .tuple #[] ∧ rep (write a x m) H')
  dI : ∀ {n : Nat} {m : β} {H : Heap} {w : World}, ok (n + 1) m → rep m H → St w (H.map (·.1)) H w → Does P fI [v] w (H.map (·.1)) (fun u H' => u = .tuple #[] ∧ rep (idle m) H')
  dP : ∀ {n : Nat} {m : β} {H : Heap} {w : World}, ok n m → rep m H → St w (H.map (·.1)) H w → Does P fP [v] w (H.map (·.1)) (fun u H' => u = .int .u8 (pend m) ∧ H' = H)
  dA : ∀ {k : Nat} {m : β} {H : Heap} {w : World} {n : Int}, ok k m → rep m H → St w (H.map (·.1)) H w → 0 ≤ n ∧ n < 5 → Does P fA [v, .int .i64 n] w (H.map (·.1)) (fun u H' => u = .tuple #[] ∧ rep (ack n m) H')
instance {P : Program} {β : Type} : CoeOut (BusK P β) (BusO β) := ⟨fun K => K.toBusO⟩
section
variable {P : Program} {β : Type} (K : BusK P β)
/-- The cells of what runs. -/
def cN (s : CS) : List Value := cS s ++ [.iface K.t0 K.v]
/-- The heap of what runs. -/
def RunH (rb : Nat) (x : Rn β) (H : Heap) : Prop := ∃ G, H = (rb, blk (cN K x.s) 77) :: G ∧ K.rep x.m G
theorem cN_r (s : CS) (r : CR) : putL (cN K s) 0 (cR r) = cN K { s with r := r } := rfl
def byteAt (w : Int) (i : Nat) : Int := if i = 0 then w / 256 else w % 256
def pushN (A : BusA β) (w : Int) (x : Rn β) : Nat → Rn β
  | 0 => x
  | i + 1 => push1 A (byteAt w i) (pushN A w x i)
theorem pushN_2 (A : BusA β) (w : Int) (x : Rn β) : pushN A w x 2 = push A w x := rfl
theorem byteAt_get (w : Int) {i : Nat} (h : i < 2) : ([.int .u8 (w / 256), .int .u8 (w % 256)] : List Value)[0 + i]? = some (.int .u8 (byteAt w i)) := by
  match i, h with
  | 0, _ => rfl
  | 1, _ => rfl
theorem byteAt_ok {w : Int} (h : 0 ≤ w ∧ w < 65536) (i : Nat) : 0 ≤ byteAt w i ∧ byteAt w i < 256 := by unfold byteAt; split <;> omega
def popN (A : BusA β) (x : Rn β) : Nat → Int × Rn β
  | 0 => (0, x)
  | i + 1 => ((popN A x i).1 + (pop1 A (popN A x i).2).1 * (if i = 0 then 1 else 256), (pop1 A (popN A x i).2).2)
end
section
variable {β : Type} (K : BusO β)
structure RunOk (n : Nat) (x : Rn β) : Prop where
  r : x.s.r.Ok
  m : K.ok n x.m
end
section
variable {β : Type} {K : BusO β} {x : Rn β} {n : Nat}
theorem RunOk.le {k : Nat} (h : RunOk K n x) (hk : k ≤ n) : RunOk K k x := ⟨h.r, K.oL h.m hk⟩
theorem RunOk.reg (h : RunOk K n x) {r : CR} (hr : r.Ok) : RunOk K n (x.reg r) := ⟨hr, h.m⟩
theorem RunOk.mem (h : RunOk K n x) {k : Nat} {m : β} (hm : K.ok k m) : RunOk K k (x.mem m) := ⟨h.r, hm⟩
theorem inc16_ok {w : Int} : 0 ≤ inc16 w ∧ inc16 w < 65536 := by unfold inc16; omega
theorem dec16_ok {w : Int} : 0 ≤ dec16 w ∧ dec16 w < 65536 := by unfold dec16; omega
theorem CR.Ok.sp_ {r : CR} (h : r.Ok) {w : Int} (hw : 0 ≤ w ∧ w < 65536) : ({ r with sp := w } : CR).Ok := ⟨h.a, h.f, h.b, h.c, h.d, h.e, h.h, h.l, hw, h.pc⟩
theorem CR.Ok.pc_ {r : CR} (h : r.Ok) {w : Int} (hw : 0 ≤ w ∧ w < 65536) : ({ r with pc := w } : CR).Ok := ⟨h.a, h.f, h.b, h.c, h.d, h.e, h.h, h.l, h.sp, hw⟩
theorem CR.Ok.f_ {r : CR} (h : r.Ok) {w : Int} (hw : 0 ≤ w ∧ w < 256) : ({ r with f := w } : CR).Ok := ⟨h.a, hw, h.b, h.c, h.d, h.e, h.h, h.l, h.sp, h.pc⟩
theorem CR.Ok.a_ {r : CR} (h : r.Ok) {w : Int} (hw : 0 ≤ w ∧ w < 256) : ({ r with a := w } : CR).Ok := ⟨hw, h.f, h.b, h.c, h.d, h.e, h.h, h.l, h.sp, h.pc⟩
theorem RunOk.gett (h : RunOk K (n + 1) x) (k : Int) : RunOk K n (gett K.toBusA k x).2 ∧ 0 ≤ (gett K.toBusA k x).1 ∧ (gett K.toBusA k x).1 < 256 := by
  unfold Go.Proofs.YtjjemehigdpboaaGreat.gett
  split
  · have := K.oR h.m (pairR_word h.r 2)
    exact ⟨h.mem this.1, this.2⟩
  · exact ⟨h.le (by omega), getR_byte h.r k⟩
theorem gett_s (k : Int) : (gett K.toBusA k x).2.s = x.s := by
  unfold Go.Proofs.YtjjemehigdpboaaGreat.gett; split <;> rfl
theorem gett_mem (k : Int) : (gett K.toBusA k x).2 = x.mem (gett K.toBusA k x).2.m := by
  unfold Go.Proofs.YtjjemehigdpboaaGreat.gett; split <;> rfl
theorem RunOk.gmem (h : RunOk K (n + 1) x) (k : Int) : RunOk K n (x.mem (Go.Proofs.YtjjemehigdpboaaGreat.gett K.toBusA k x).2.m) := by rw [← gett_mem]; exact (h.gett k).1
theorem pop_law {a v : Int} {i : Nat} (hi : i < 2) (ha : 0 ≤ a ∧ a < 256) (hz : i = 0 → a = 0) (hv : 0 ≤ v ∧ v < 256) : bor .u16 a (shl .u16 v (8 * (i : Int))) = a + v * (if i = 0 then 1 else 256) := by
  match i, hi with
  | 0, _ =>
    obtain rfl := hz rfl
    rw [if_pos rfl]
    have e : shl .u16 v (8 * ((0 : Nat) : Int)) = v := by unfold shl; exact (wrap_u16_id (by show 0 ≤ v * 2 ^ 0; omega) (by show v * 2 ^ 0 < 65536; omega)).trans (by show v * 2 ^ 0 = v; omega)
    rw [e]
    have := or_wrd (h := 0) (l := v) (by decide) hv
    simpa using this
  | 1, _ =>
    rw [if_neg (by decide)]
    have := or_law ha hv
    rw [show (8 * ((1 : Nat) : Int)) = 8 by rfl, this]
    omega
theorem RunOk.far (h : RunOk K n x) (k : Int) : RunOk K n (Go.Proofs.YtjjemehigdpboaaGreat.far k x).2 ∧ 0 ≤ (Go.Proofs.YtjjemehigdpboaaGreat.far k x).1 ∧ (Go.Proofs.YtjjemehigdpboaaGreat.far k x).1 < 65536 := by
  unfold Go.Proofs.YtjjemehigdpboaaGreat.far
  split
  · exact ⟨h, pairR_word h.r k⟩
  · refine ⟨h.reg (h.r.setP 2 ?_), pairR_word h.r 2⟩
    split
    · exact inc16_ok
    · exact dec16_ok
theorem RunOk.sett (h : RunOk K (n + 1) x) (k : Int) {v : Int} (hv : 0 ≤ v ∧ v < 256) : RunOk K n (sett K.toBusA k v x) := by
  unfold Go.Proofs.YtjjemehigdpboaaGreat.sett
  split
  · exact h.mem (K.oW h.m (pairR_word h.r 2) hv)
  · exact (h.le (by omega)).reg (h.r.set k hv)
theorem RunOk.push1 (h : RunOk K (n + 1) x) {v : Int} (hv : 0 ≤ v ∧ v < 256) : RunOk K n (push1 K.toBusA v x) := ⟨h.r.sp_ dec16_ok, K.oW h.m dec16_ok hv⟩
theorem RunOk.push (h : RunOk K (n + 2) x) {w : Int} (hw : 0 ≤ w ∧ w < 65536) : RunOk K n (push K.toBusA w x) := (h.push1 (v := w / 256) (by omega)).push1 (v := w % 256) (by omega)
theorem RunOk.pop1 (h : RunOk K (n + 1) x) : RunOk K n (pop1 K.toBusA x).2 ∧ 0 ≤ (pop1 K.toBusA x).1 ∧ (pop1 K.toBusA x).1 < 256 := by
  have := K.oR h.m h.r.sp
  exact ⟨⟨h.r.sp_ inc16_ok, this.1⟩, this.2⟩
theorem RunOk.pop (h : RunOk K (n + 2) x) : RunOk K n (pop K.toBusA x).2 ∧ 0 ≤ (pop K.toBusA x).1 ∧ (pop K.toBusA x).1 < 65536 := by
  have h1 := h.pop1
  have h2 := h1.1.pop1
  refine ⟨h2.1, ?_⟩
  unfold Go.Proofs.YtjjemehigdpboaaGreat.pop
  dsimp only
  omega
theorem RunOk.pushN (h : RunOk K (n + 2) x) {w : Int} (hw : 0 ≤ w ∧ w < 65536) : ∀ i, i ≤ 2 → RunOk K (n + (2 - i)) (pushN K.toBusA w x i)
  | 0, _ => h
  | i + 1, hi => RunOk.push1 ((h.pushN hw i (by omega)).le (by omega)) (byteAt_ok hw i)
theorem RunOk.popN (h : RunOk K (n + 2) x) : ∀ i, i ≤ 2 → RunOk K (n + (2 - i)) (popN K.toBusA x i).2
  | 0, _ => h
  | i + 1, hi => (RunOk.pop1 ((h.popN i (by omega)).le (by omega))).1
theorem popN_2 : popN K.toBusA x 2 = pop K.toBusA x := by
  unfold Go.Proofs.YtjjemehigdpboaaGreat.pop
  simp only [Go.Proofs.YtjjemehigdpboaaGreat.popN]
  simp only [if_true, Int.zero_add, Int.mul_one]
  rw [if_neg (by decide), Int.add_comm]
theorem popN_le (h : RunOk K (n + 1) x) {i : Nat} (hi : i < 2) : 0 ≤ (popN K.toBusA x i).1 ∧ (popN K.toBusA x i).1 < 256 := by
  match i, hi with
  | 0, _ => exact ⟨Int.le_refl 0, show (0 : Int) < 256 by decide⟩
  | 1, _ =>
    have := h.pop1.2
    simp only [Go.Proofs.YtjjemehigdpboaaGreat.popN, if_true, Int.zero_add, Int.mul_one]
    exact this
theorem RunOk.idles {k : Nat} (h : RunOk K (n + k) x) : ∀ i, i ≤ k → RunOk K (n + (k - i)) (idles K.toBusA i x)
  | 0, _ => h
  | i + 1, hi => (h.idles i (by omega)).mem (K.oI (K.oL (h.idles i (by omega)).m (by omega)))
theorem RunOk.idleK (k : Nat) (h : RunOk K (n + k) x) : RunOk K n (Go.Proofs.YtjjemehigdpboaaGreat.idles K.toBusA k x) := (h.idles k (Nat.le_refl _)).le (by omega)
theorem RunOk.fetch1 (h : RunOk K (n + 1) x) : RunOk K n (fetch1 K.toBusA x).2 ∧ 0 ≤ (fetch1 K.toBusA x).1 ∧ (fetch1 K.toBusA x).1 < 256 := by
  have := K.oF h.m h.r.pc
  exact ⟨⟨h.r.pc_ inc16_ok, this.1⟩, this.2⟩
end
end Go.Proofs.YtjjemehigdpboaaGreat
namespace Go.Proofs.YtjjemehigdpboaaGreat
open Go Go.VV

structure OpOk (o : Opr) : Prop where
  n : 0 ≤ o.n ∧ o.n < 65536
  x : 0 ≤ o.x ∧ o.x < 8
  small : o.kind = 34 ∨ o.kind = 35 → o.n < 256
def opOkB (o : Opr) : Bool := decide (0 ≤ o.n ∧ o.n < 256 ∧ 0 ≤ o.x ∧ o.x < 8 ∧ ((o.kind = 34 ∨ o.kind = 35) → o.size = 2))
theorem opOk_all : tabP.all opOkB = true := by kernel_rfl
theorem dcd_op {a b c : Int} (ha : 0 ≤ a ∧ a < 256) (hb : 0 ≤ b ∧ b < 256) (hc : 0 ≤ c ∧ c < 256) : OpOk (dcd a b c) := by
  by_cases h : a = 203
  · rw [dcd_beh h]; unfold behS
    split <;> exact ⟨⟨by dsimp only; omega, by dsimp only; omega⟩, ⟨by dsimp only; omega, by dsimp only; omega⟩, fun hk => by dsimp only at hk ⊢; omega⟩
  · obtain ⟨m, o, hm, _, ho⟩ := tab_some ha.1 ha.2
    have hr : 0 ≤ o.n ∧ o.n < 256 ∧ 0 ≤ o.x ∧ o.x < 8 ∧ ((o.kind = 34 ∨ o.kind = 35) → o.size = 2) := of_decide_eq_true (List.all_eq_true.1 opOk_all o (List.mem_of_getElem? ho))
    rw [dcd_plain hm h ho]
    by_cases h2 : o.size = 2
    · rw [numO_2 h2]; exact ⟨⟨hb.1, by dsimp only; omega⟩, ⟨hr.2.2.1, hr.2.2.2.1⟩, fun _ => hb.2⟩
    · by_cases h3 : o.size = 3
      · rw [numO_3 h3]; exact ⟨⟨by dsimp only; omega, by dsimp only; omega⟩, ⟨hr.2.2.1, hr.2.2.2.1⟩, fun hk => absurd (hr.2.2.2.2 hk) h2⟩
      · rw [numO_1 h2 h3]; exact ⟨⟨hr.1, by omega⟩, ⟨hr.2.2.1, hr.2.2.2.1⟩, fun hk => absurd (hr.2.2.2.2 hk) h2⟩
theorem St.notin {A B : Heap} {w0 w : World} {ms : List Nat} (h : St w0 ms (A ++ B) w) {x : Nat × Obj} (hx : x ∈ B) : x.1 ∉ A.map (·.1) := fun hm => by
  have := h.nodup
  rw [List.map_append, List.nodup_append] at this
  exact this.2.2 _ hm _ (List.mem_map_of_mem hx) rfl
theorem band_fl16 (z n h c : Bool) : band .u8 (fl z n h c) 16 = fl false false false c := by cases z <;> cases n <;> cases h <;> cases c <;> decide
theorem res_law {v n : Int} (hv : 0 ≤ v ∧ v < 256) (hn : 0 ≤ n ∧ n < 8) : bandn .u8 v (shl .u8 1 n) = resB v n := by
  rcases (show n = 0 ∨ n = 1 ∨ n = 2 ∨ n = 3 ∨ n = 4 ∨ n = 5 ∨ n = 6 ∨ n = 7 by omega) with rfl | rfl | rfl | rfl | rfl | rfl | rfl | rfl
  all_goals revert v; intro v hv; refine byte_all (p := fun v => bandn .u8 v (shl .u8 1 _) = resB v _) ?_ hv.1 hv.2; decide +kernel
theorem set_law {v n : Int} (hv : 0 ≤ v ∧ v < 256) (hn : 0 ≤ n ∧ n < 8) : bor .u8 v (shl .u8 1 n) = setB v n := by
  rcases (show n = 0 ∨ n = 1 ∨ n = 2 ∨ n = 3 ∨ n = 4 ∨ n = 5 ∨ n = 6 ∨ n = 7 by omega) with rfl | rfl | rfl | rfl | rfl | rfl | rfl | rfl
  all_goals revert v; intro v hv; refine byte_all (p := fun v => bor .u8 v (shl .u8 1 _) = setB v _) ?_ hv.1 hv.2; decide +kernel
theorem bits_ok {v n : Int} (hv : 0 ≤ v ∧ v < 256) (hn : 0 ≤ n ∧ n < 8) : (0 ≤ resB v n ∧ resB v n < 256) ∧ (0 ≤ setB v n ∧ setB v n < 256) := by
  rcases (show n = 0 ∨ n = 1 ∨ n = 2 ∨ n = 3 ∨ n = 4 ∨ n = 5 ∨ n = 6 ∨ n = 7 by omega) with rfl | rfl | rfl | rfl | rfl | rfl | rfl | rfl
  all_goals revert v; intro v hv; refine byte_all (p := fun v => (0 ≤ resB v _ ∧ resB v _ < 256) ∧ (0 ≤ setB v _ ∧ setB v _ < 256)) ?_ hv.1 hv.2; decide +kernel
theorem cpl_law {f : Int} (h : 0 ≤ f ∧ f < 256) : bor .u8 (bor .u8 (band .u8 f 144) 64) 32 = fl (zF f) true true (cF f) := byte_all (p := fun f => bor .u8 (bor .u8 (band .u8 f 144) 64) 32 = fl (zF f) true true (cF f)) (by decide +kernel) h.1 h.2
theorem scf_law {f : Int} (h : 0 ≤ f ∧ f < 256) : bor .u8 (band .u8 f 128) 16 = fl (zF f) false false true := byte_all (p := fun f => bor .u8 (band .u8 f 128) 16 = fl (zF f) false false true) (by decide +kernel) h.1 h.2
theorem ccf_law {f : Int} (h : 0 ≤ f ∧ f < 256) : bxor .u8 (band .u8 f 144) 16 = fl (zF f) false false (!cF f) := byte_all (p := fun f => bxor .u8 (band .u8 f 144) 16 = fl (zF f) false false (!cF f)) (by decide +kernel) h.1 h.2
theorem addR_ok {a b : Int} {c : Bool} : 0 ≤ addR a b c ∧ addR a b c < 256 := by unfold addR; omega
theorem subR_ok {a b : Int} {c : Bool} : 0 ≤ subR a b c ∧ subR a b c < 256 := by unfold subR; omega
theorem incR_ok {a : Int} : 0 ≤ incR a ∧ incR a < 256 := by unfold incR; omega
theorem decR_ok {a : Int} : 0 ≤ decR a ∧ decR a < 256 := by unfold decR; omega
theorem daaR_ok {a f : Int} : 0 ≤ daaR a f ∧ daaR a f < 256 := by unfold daaR; split <;> omega
theorem turnR_ok {k a f : Int} (h : 0 ≤ a ∧ a < 256) : 0 ≤ turnR k a f ∧ turnR k a f < 256 := by
  have := b2i_le (cF f)
  unfold turnR; repeat' split
  all_goals omega
theorem add16R_ok {a b : Int} : 0 ≤ add16R a b ∧ add16R a b < 65536 := by unfold add16R; omega
theorem shR_ok {a b : Int} : 0 ≤ shR a b ∧ shR a b < 65536 := by unfold shR; omega
theorem wrap_i8 (n : Int) : IntKind.i8.wrap n = s8 (n % 256) := by
  show (if (true && decide (n % 256 ≥ 128)) = true then n % 256 - 256 else n % 256) = _
  unfold s8
  split
  · rename_i h; simp at h; rw [if_pos (by omega)]
  · rename_i h; simp at h; rw [if_neg (by omega)]
theorem not_law {a : Int} (h : 0 ≤ a ∧ a < 256) : bxor .u8 255 a = 255 - a := byte_all (p := fun a => bxor .u8 255 a = 255 - a) (by decide +kernel) h.1 h.2
theorem page_or {n : Int} (h : 0 ≤ n ∧ n < 256) : bor .u16 65280 n = 65280 + n := by
  have := or_wrd (h := 255) (l := n) (by decide) h
  simpa using this
section
variable {β : Type} (A : BusA β)
theorem effB_no {o : Opr} (h : isB o.kind = false) (x : Rn β) : effB A o x = x := by
  have := of_decide_eq_false h
  unfold effB; repeat rw [if_neg (by omega)]
theorem effW_no {o : Opr} (h : isW o.kind = false) (x : Rn β) : effW A o x = x := by
  have := of_decide_eq_false h
  unfold effW; repeat rw [if_neg (by omega)]
end
section
variable {β : Type} {K : BusO β} {x : Rn β} {n : Nat}
theorem sum_ok {r : CR} (h : r.Ok) (k : Int) {b : Int} : (sumR r k b).Ok := by
  have hf : ∀ z n h c, 0 ≤ fl z n h c ∧ fl z n h c < 256 := fl_byte
  have b1 : 0 ≤ band .u8 r.a b ∧ band .u8 r.a b < 256 := by unfold band; rw [wrap_u8]; omega
  have b2 : 0 ≤ bxor .u8 r.a b ∧ bxor .u8 r.a b < 256 := by unfold bxor; rw [wrap_u8]; omega
  have b3 : 0 ≤ bor .u8 r.a b ∧ bor .u8 r.a b < 256 := by unfold bor; rw [wrap_u8]; omega
  unfold sumR addF subF logF
  repeat' split
  all_goals first | exact h | exact (h.a_ addR_ok).f_ (hf _ _ _ _) | exact (h.a_ subR_ok).f_ (hf _ _ _ _) | exact h.f_ (hf _ _ _ _) | exact (h.a_ b1).f_ (hf _ _ _ _) | exact (h.a_ b2).f_ (hf _ _ _ _) | exact (h.a_ b3).f_ (hf _ _ _ _)
end
end Go.Proofs.YtjjemehigdpboaaGreat
namespace Go.Proofs.YtjjemehigdpboaaGreat
open Go Go.VV
section
variable {β : Type} {K : BusO β} {x : Rn β} {n : Nat}
structure NxOk (K : BusO β) (n : Nat) (q : Nx β) : Prop where
  x : RunOk K n q.x
  len : q.b.length = 3
  by_ : Byts q.b
  o : OpOk q.o
  sz : q.o.size ≤ 3
theorem NxOk.le {q : Nx β} {k : Nat} (h : NxOk K n q) (hk : k ≤ n) : NxOk K k q := ⟨h.x.le hk, h.len, h.by_, h.o, h.sz⟩
theorem byts_set {l : List Int} (h : Byts l) (i : Nat) {v : Int} (hv : 0 ≤ v ∧ v < 256) : Byts (l.set i v) := fun y hy => by
  rcases List.mem_or_eq_of_mem_set hy with h1 | rfl
  · exact h y h1
  · exact hv
theorem NxOk.next {q : Nx β} (h : NxOk K (n + 1) q) (i : Nat) : NxOk K n (nx1 K.toBusA q i) := by
  have hf := h.x.fetch1
  have hb := byts_set h.by_ i hf.2
  exact ⟨hf.1, by simp [nx1, h.len], hb, dcd_op (hb.get 0) (hb.get 1) (hb.get 2), (dcd_fine (hb.get 0) (hb.get 1) (hb.get 2)).size.2⟩
theorem RunOk.nx (h : RunOk K (n + 3) x) : ∀ i, i ≤ 3 → NxOk K (n + (3 - i)) (nxN K.toBusA x i)
  | 0, _ => ⟨h, rfl, by intro y hy; simp [nx0, nxN] at hy; omega, show OpOk ⟨0, 0, 0, 1, 0⟩ from ⟨by decide, by decide, by decide⟩, show (1 : Int) ≤ 3 by decide⟩
  | i + 1, hi => NxOk.next (by rw [show n + (3 - (i + 1)) + 1 = n + (3 - i) by omega]; exact h.nx i (by omega)) i
theorem nx_end (A : BusA β) {i : Nat} (hi : i ≤ 3) (hp : ∀ j : Nat, j < i → (j : Int) < (nxN A x j).o.size) (he : ¬ (i : Int) < (nxN A x i).o.size) : nextT A x = ((nxN A x i).o, (nxN A x i).x) := by
  unfold nextT
  match i, hi with
  | 0, _ => exact absurd (show (0 : Int) < 1 by decide) he
  | 1, _ => rw [if_pos (by omega)]
  | 2, _ =>
    have := hp 1 (by omega)
    rw [if_neg (by omega), if_pos (by omega)]
  | 3, _ =>
    have := hp 1 (by omega)
    have := hp 2 (by omega)
    rw [if_neg (by omega), if_neg (by omega)]
theorem nx_all (h : RunOk K (n + 3) x) : RunOk K n (nextT K.toBusA x).2 ∧ OpOk (nextT K.toBusA x).1 := by
  have h1 := h.nx 1 (by omega)
  have h2 := h.nx 2 (by omega)
  have h3 := h.nx 3 (by omega)
  unfold nextT
  split
  · exact ⟨h1.x.le (by omega), h1.o⟩
  · split
    · exact ⟨h2.x.le (by omega), h2.o⟩
    · exact ⟨h3.x.le (by omega), h3.o⟩
theorem wake_law {p : Int} (h : 0 ≤ p ∧ p < 32) : (band .u8 p 16 == 0) = (p / 16 % 2 == 0) := byte_all (p := fun p => (band .u8 p 16 == 0) = (p / 16 % 2 == 0)) (by decide +kernel) h.1 (by omega)
theorem low1_ok (p : Int) : 0 ≤ low1 p ∧ low1 p < 5 := by
  unfold low1; repeat' split
  all_goals decide
end
end Go.Proofs.YtjjemehigdpboaaGreat
namespace Go.Proofs.YtjjemehigdpboaaGreat
open Go Go.VV

structure Ac where
  kind : Int
  addr : Int
  val : Int
deriving DecidableEq
def cAc (a : Ac) : List Value := [.int .i64 a.kind, .int .u16 a.addr, .int .u8 a.val]
theorem cAc_len (a : Ac) : (cAc a).length = 3 := rfl
structure Rm where
  b : List Int
  acc : List Ac
def noteR (k a v : Int) (m : Rm) : Rm := { m with acc := m.acc ++ [⟨k, a, v⟩] }
def atB (l : List Int) (a : Int) : Int := l.getD a.toNat 0
def ramA : BusA Rm where
  fetch a m := (atB m.b a, noteR 3 a (atB m.b a) m)
  read a m := (atB m.b a, noteR 1 a (atB m.b a) m)
  write a x m := { noteR 2 a x m with b := m.b.set a.toNat x }
  idle m := noteR 0 0 0 m
  pend m := band .u8 (band .u8 (atB m.b 65295) (atB m.b 65535)) 31
  ack n m := { m with b := m.b.set 65295 (resB (atB m.b 65295) n) }
structure RamOk (n : Nat) (m : Rm) : Prop where
  len : m.b.length = 65536
  by_ : Byts m.b
  room : m.acc.length + n ≤ 1000000
  accs : ∀ e ∈ m.acc, (0 ≤ e.addr ∧ e.addr < 65536) ∧ 0 ≤ e.val ∧ e.val < 256
theorem RamOk.at_ {n : Nat} {m : Rm} (h : RamOk n m) (a : Int) : 0 ≤ atB m.b a ∧ atB m.b a < 256 := h.by_.get _
theorem RamOk.note {n : Nat} {m : Rm} (h : RamOk (n + 1) m) (k : Int) {a v : Int} (ha : 0 ≤ a ∧ a < 65536) (hv : 0 ≤ v ∧ v < 256) : RamOk n (noteR k a v m) := ⟨h.len, h.by_, by have := h.room; simp [noteR]; omega, fun e he => by
  rcases List.mem_append.1 he with he | he
  · exact h.accs e he
  · rw [List.mem_singleton.1 he]; exact ⟨ha, hv⟩⟩
theorem RamOk.put {n : Nat} {m : Rm} (h : RamOk n m) (i : Nat) {v : Int} (hv : 0 ≤ v ∧ v < 256) : RamOk n { m with b := m.b.set i v } := ⟨by simp [h.len], byts_set h.by_ i hv, h.room, h.accs⟩
theorem RamOk.write {n : Nat} {m : Rm} (h : RamOk (n + 1) m) {a x : Int} (ha : 0 ≤ a ∧ a < 65536) (hx : 0 ≤ x ∧ x < 256) : RamOk n (ramA.write a x m) := (h.note 2 ha hx).put a.toNat hx
theorem RamOk.le {n k : Nat} {m : Rm} (h : RamOk n m) (hk : k ≤ n) : RamOk k m := ⟨h.len, h.by_, by have := h.room; omega, h.accs⟩
theorem pend_ok (m : Rm) : 0 ≤ ramA.pend m ∧ ramA.pend m < 32 := by
  have key : ∀ y : Int, 0 ≤ y ∧ y < 256 → (0 ≤ band .u8 y 31 ∧ band .u8 y 31 < 32) := fun y hy => byte_all (p := fun y => 0 ≤ band .u8 y 31 ∧ band .u8 y 31 < 32) (by decide +kernel) hy.1 hy.2
  refine key _ ?_
  unfold band; rw [wrap_u8]; omega
theorem RamOk.ack {n : Nat} {m : Rm} (h : RamOk n m) {k : Int} (hk : 0 ≤ k ∧ k < 5) : RamOk n (ramA.ack k m) := h.put 65295 (bits_ok (h.at_ 65295) ⟨hk.1, by omega⟩).1
/-- How it stands in memory. -/
def RamH (mb bb : Nat) (m : Rm) (H : Heap) : Prop := ∃ va Ga, Vec 89 3 va m.acc.length (flat cAc m.acc) Ga ∧ H = Ga ++ [(mb, blk [.slice (some ⟨bb, 0, none⟩) 65536 65536, va] 35), (bb, blk (m.b.map (.int .u8)) 5)]
theorem byte_in {l : List Int} (hl : l.length = 65536) {a : Int} (h : 0 ≤ a ∧ a < 65536) : (l.map (Value.int .u8))[0 + a.toNat]? = some (.int .u8 (atB l a)) := by
  rw [Nat.zero_add]; exact map_at (by omega)
theorem put_in {l : List Int} (hl : l.length = 65536) {a : Int} (h : 0 ≤ a ∧ a < 65536) (x : Int) : putL (l.map (Value.int .u8)) (0 + a.toNat) [.int .u8 x] = (l.set a.toNat x).map (.int .u8) := by
  rw [Nat.zero_add]; exact putL_int _ (by omega) _
theorem fits_in {l : List Int} (hl : l.length = 65536) {a : Int} (h : 0 ≤ a ∧ a < 65536) : 0 + a.toNat + 1 ≤ (l.map (Value.int .u8)).length := by simp [hl]; omega
end Go.Proofs.YtjjemehigdpboaaGreat
namespace Go.Proofs.YtjjemehigdpboaaGreat
open Go Go.VV

theorem zero_bytes : ∃ z : List Int, z.length = 65536 ∧ (∀ i, z.getD i 0 = 0) ∧ Byts z ∧ repL (65536 * 1) [.int .u8 0] = z.map (.int .u8) :=
  ⟨List.replicate 65536 0, List.length_replicate, fun i => by
    rw [List.getD_eq_getElem?_getD, List.getElem?_replicate]; split <;> rfl, fun x hx => by
    obtain ⟨_, rfl⟩ := List.mem_replicate.1 hx; decide, by rw [repL_one, List.map_replicate]⟩
theorem at_set {l : List Int} {i : Nat} {v a : Int} (hi : i < l.length) : atB (l.set i v) a = if a.toNat = i then v else atB l a := by
  unfold atB
  rw [List.getD_eq_getElem?_getD, List.getElem?_set, List.getD_eq_getElem?_getD]
  split
  · rename_i h; subst h; simp
  · rename_i h; rw [if_neg (fun h' => h h'.symm)]
theorem at_same {l : List Int} {i : Nat} {v a : Int} (hi : i < l.length) (h : a.toNat = i) : atB (l.set i v) a = v := by rw [at_set hi, if_pos h]
theorem at_other {l : List Int} {i : Nat} {v a : Int} (h : a.toNat ≠ i) : atB (l.set i v) a = atB l a := by
  unfold atB
  rw [List.getD_eq_getElem?_getD, List.getElem?_set, List.getD_eq_getElem?_getD, if_neg (fun h' => h h'.symm)]
theorem store_in {l : List Int} (hl : l.length = 65536) (i : Nat) (hi : i < 65536) (x : Int) : putL (l.map (Value.int .u8)) (0 + i) [.int .u8 x] = (l.set i x).map (.int .u8) := by
  rw [Nat.zero_add]; exact putL_int _ (by omega) _
theorem store_fits {l : List Int} (hl : l.length = 65536) (i : Nat) (hi : i < 65536) : 0 + i + 1 ≤ (l.map (Value.int .u8)).length := by simp [hl]; omega
/-- Bytes that go on and on. -/
def fillF (l : List Int) (i : Nat) : Int := if l = [] then 0 else l.getD ((i + i / 256) % l.length) 0
def fillB (l : List Int) : List Int := (List.range 65536).map (fillF l)
theorem fillB_len (l : List Int) : (fillB l).length = 65536 := by simp [fillB]
theorem fillF_ok {l : List Int} (h : Byts l) (i : Nat) : 0 ≤ fillF l i ∧ fillF l i < 256 := by
  unfold fillF; split
  · decide
  · exact h.get _
theorem fillB_ok {l : List Int} (h : Byts l) : Byts (fillB l) := fun x hx => by
  obtain ⟨i, _, rfl⟩ := List.mem_map.1 hx; exact fillF_ok h i
theorem fillB_up (l : List Int) : upTo .u8 (fillF l) 65536 65536 = (fillB l).map (.int .u8) := by rw [upTo_all, fillB, List.map_map]; rfl

/-! ### what is fetched -/
section
variable {s : CS} {m : Rm}
theorem next1 {v : Int} (h : atB m.b s.r.pc = v) (hz : (dcd v 0 0).size ≤ 1) : nextT ramA ⟨s, m⟩ = (dcd v 0 0, ⟨{ s with r := { s.r with pc := inc16 s.r.pc } }, noteR 3 s.r.pc v m⟩) := by
  subst h
  exact if_pos hz
theorem next2 {v u : Int} (h : atB m.b s.r.pc = v) (h2 : atB m.b (inc16 s.r.pc) = u) (hz : ¬ (dcd v 0 0).size ≤ 1) (hz2 : (dcd v u 0).size ≤ 2) :
    nextT ramA ⟨s, m⟩ = (dcd v u 0, ⟨{ s with r := { s.r with pc := inc16 (inc16 s.r.pc) } }, noteR 3 (inc16 s.r.pc) u (noteR 3 s.r.pc v m)⟩) := by
  subst h h2
  exact (if_neg hz).trans (if_pos hz2)
theorem next3 {v u t : Int} (h : atB m.b s.r.pc = v) (h2 : atB m.b (inc16 s.r.pc) = u) (h3 : atB m.b (inc16 (inc16 s.r.pc)) = t) (hz : ¬ (dcd v 0 0).size ≤ 1) (hz2 : ¬ (dcd v u 0).size ≤ 2) :
    nextT ramA ⟨s, m⟩ = (dcd v u t, ⟨{ s with r := { s.r with pc := inc16 (inc16 (inc16 s.r.pc)) } }, noteR 3 (inc16 (inc16 s.r.pc)) t (noteR 3 (inc16 s.r.pc) u (noteR 3 s.r.pc v m))⟩) := by
  subst h h2 h3
  exact (if_neg hz).trans (if_neg hz2)
/-- An order that is run: nothing stands in its way. -/
theorem ran {β : Type} {A : BusA β} {s : CS} {m : β} (h1 : s.stop = false) (h2 : s.halt = true → A.pend m ≠ 0) (h3 : s.ime = true → A.pend m = 0) {o : Opr} {y : Rn β} (hn : nextT A ⟨{ s with halt := false, soon := false }, m⟩ = (o, y)) :
    stepT A ⟨s, m⟩ = (⟨1, 0, s.r.pc, o, (ordT A o s.r.pc y).1⟩, if s.soon = true ∧ o.kind ≠ 5 then ⟨{ (ordT A o s.r.pc y).2.s with ime := true }, (ordT A o s.r.pc y).2.m⟩ else (ordT A o s.r.pc y).2) := by
  unfold stepT
  dsimp only
  rw [if_neg (by rw [h1]; decide), if_neg (fun h => h2 h.1 h.2), if_neg (fun h => h.2 (h3 h.1)), hn]
theorem taken {β : Type} {A : BusA β} {s : CS} {m : β} (h1 : s.stop = false) (h3 : s.ime = true) (hp : A.pend m ≠ 0) :
    stepT A ⟨s, m⟩ = (⟨2, low1 (A.pend m), s.r.pc, oN, false⟩, takeI A (A.pend m) ⟨{ s with halt := false }, m⟩) := by
  unfold stepT
  dsimp only
  rw [if_neg (by rw [h1]; decide), if_neg (fun h => hp h.2), if_pos ⟨h3, hp⟩]
theorem slept {β : Type} {A : BusA β} {s : CS} {m : β} (h1 : s.stop = false) (h2 : s.halt = true) (hp : A.pend m = 0) :
    stepT A ⟨s, m⟩ = (⟨0, 0, s.r.pc, oN, false⟩, ⟨s, A.idle m⟩) := by
  unfold stepT
  dsimp only
  rw [if_neg (by rw [h1]; decide), if_pos ⟨h2, hp⟩]; rfl
theorem stood {β : Type} {A : BusA β} {s : CS} {m : β} (h1 : s.stop = true) :
    stepT A ⟨s, m⟩ = (⟨0, 0, s.r.pc, oN, false⟩, ⟨{ s with stop := A.pend (A.idle m) / 16 % 2 == 0 }, A.idle m⟩) := by
  unfold stepT
  rw [if_pos h1]
end
def sAw : CS := ⟨{ r0 with pc := 256 }, false, false, false, false⟩
theorem awake_law {b : List Int} (h1 : atB b 256 = 62) (h2 : atB b 257 = 18) : stepT ramA ⟨sAw, ⟨b, []⟩⟩ = (⟨1, 0, 256, ⟨8, 7, 0, 2, 18⟩, true⟩, ⟨⟨{ r0 with pc := 258, a := 18 }, false, false, false, false⟩, ⟨b, [⟨3, 256, 62⟩, ⟨3, 257, 18⟩]⟩⟩) := by
  have hd : dcd 62 18 0 = ⟨8, 7, 0, 2, 18⟩ := by kernel_rfl
  have hd0 : (dcd 62 0 0).size = 2 := by kernel_rfl
  have hn := next2 (s := ⟨{ r0 with pc := 256 }, false, false, false, false⟩) (m := ⟨b, []⟩) h1 h2 (by rw [hd0]; decide) (by rw [hd]; decide)
  rw [hd] at hn
  rw [ran (s := sAw) rfl (fun h => by cases h) (fun h => by cases h) hn]
  rfl
end Go.Proofs.YtjjemehigdpboaaGreat
namespace Go.Proofs.YtjjemehigdpboaaGreat
open Go Go.VV Go.Proofs
set_option linter.unusedSimpArgs false
set_option linter.unusedVariables false
set_option maxRecDepth 100000
theorem call_5 : callable Tryz.prog 5 = true := by kernel_rfl
theorem call_6 : callable Tryz.prog 6 = true := by kernel_rfl
theorem call_7 : callable Tryz.prog 7 = true := by kernel_rfl
theorem call_8 : callable Tryz.prog 8 = true := by kernel_rfl
theorem call_9 : callable Tryz.prog 9 = true := by kernel_rfl
theorem call_10 : callable Tryz.prog 10 = true := by kernel_rfl
theorem call_11 : callable Tryz.prog 11 = true := by kernel_rfl
theorem call_12 : callable Tryz.prog 12 = true := by kernel_rfl
theorem call_13 : callable Tryz.prog 13 = true := by kernel_rfl
theorem call_14 : callable Tryz.prog 14 = true := by kernel_rfl
theorem call_15 : callable Tryz.prog 15 = true := by kernel_rfl
theorem call_16 : callable Tryz.prog 16 = true := by kernel_rfl
theorem call_17 : callable Tryz.prog 17 = true := by kernel_rfl
theorem call_18 : callable Tryz.prog 18 = true := by kernel_rfl
theorem call_19 : callable Tryz.prog 19 = true := by kernel_rfl
theorem call_20 : callable Tryz.prog 20 = true := by kernel_rfl
theorem call_21 : callable Tryz.prog 21 = true := by kernel_rfl
theorem call_22 : callable Tryz.prog 22 = true := by kernel_rfl
theorem call_23 : callable Tryz.prog 23 = true := by kernel_rfl
theorem call_24 : callable Tryz.prog 24 = true := by kernel_rfl
theorem call_25 : callable Tryz.prog 25 = true := by kernel_rfl
theorem call_26 : callable Tryz.prog 26 = true := by kernel_rfl
theorem call_27 : callable Tryz.prog 27 = true := by kernel_rfl
theorem call_28 : callable Tryz.prog 28 = true := by kernel_rfl
theorem call_29 : callable Tryz.prog 29 = true := by kernel_rfl
theorem call_30 : callable Tryz.prog 30 = true := by kernel_rfl
theorem call_31 : callable Tryz.prog 31 = true := by kernel_rfl
theorem call_32 : callable Tryz.prog 32 = true := by kernel_rfl
theorem call_33 : callable Tryz.prog 33 = true := by kernel_rfl
theorem call_34 : callable Tryz.prog 34 = true := by kernel_rfl
theorem call_35 : callable Tryz.prog 35 = true := by kernel_rfl
theorem call_36 : callable Tryz.prog 36 = true := by kernel_rfl
theorem call_37 : callable Tryz.prog 37 = true := by kernel_rfl
theorem call_38 : callable Tryz.prog 38 = true := by kernel_rfl
theorem call_39 : callable Tryz.prog 39 = true := by kernel_rfl
theorem call_40 : callable Tryz.prog 40 = true := by kernel_rfl
theorem call_41 : callable Tryz.prog 41 = true := by kernel_rfl
theorem call_42 : callable Tryz.prog 42 = true := by kernel_rfl
theorem call_43 : callable Tryz.prog 43 = true := by kernel_rfl
theorem call_44 : callable Tryz.prog 44 = true := by kernel_rfl
theorem call_45 : callable Tryz.prog 45 = true := by kernel_rfl
theorem call_46 : callable Tryz.prog 46 = true := by kernel_rfl
theorem call_47 : callable Tryz.prog 47 = true := by kernel_rfl
theorem call_48 : callable Tryz.prog 48 = true := by kernel_rfl
theorem call_49 : callable Tryz.prog 49 = true := by kernel_rfl
theorem call_50 : callable Tryz.prog 50 = true := by kernel_rfl
theorem call_51 : callable Tryz.prog 51 = true := by kernel_rfl
theorem call_52 : callable Tryz.prog 52 = true := by kernel_rfl
theorem call_53 : callable Tryz.prog 53 = true := by kernel_rfl
theorem call_55 : callable Tryz.prog 55 = true := by kernel_rfl
theorem call_56 : callable Tryz.prog 56 = true := by kernel_rfl
theorem call_57 : callable Tryz.prog 57 = true := by kernel_rfl
theorem call_58 : callable Tryz.prog 58 = true := by kernel_rfl
theorem call_59 : callable Tryz.prog 59 = true := by kernel_rfl
theorem call_60 : callable Tryz.prog 60 = true := by kernel_rfl
theorem call_61 : callable Tryz.prog 61 = true := by kernel_rfl
theorem call_62 : callable Tryz.prog 62 = true := by kernel_rfl
theorem call_63 : callable Tryz.prog 63 = true := by kernel_rfl
theorem call_64 : callable Tryz.prog 64 = true := by kernel_rfl
theorem call_65 : callable Tryz.prog 65 = true := by kernel_rfl
theorem call_66 : callable Tryz.prog 66 = true := by kernel_rfl
theorem call_67 : callable Tryz.prog 67 = true := by kernel_rfl
theorem call_68 : callable Tryz.prog 68 = true := by kernel_rfl
theorem call_69 : callable Tryz.prog 69 = true := by kernel_rfl
theorem call_70 : callable Tryz.prog 70 = true := by kernel_rfl
theorem call_71 : callable Tryz.prog 71 = true := by kernel_rfl
theorem call_72 : callable Tryz.prog 72 = true := by kernel_rfl
theorem call_73 : callable Tryz.prog 73 = true := by kernel_rfl
theorem call_74 : callable Tryz.prog 74 = true := by kernel_rfl
theorem call_75 : callable Tryz.prog 75 = true := by kernel_rfl
theorem call_76 : callable Tryz.prog 76 = true := by kernel_rfl
theorem call_77 : callable Tryz.prog 77 = true := by kernel_rfl
theorem call_78 : callable Tryz.prog 78 = true := by kernel_rfl
theorem call_79 : callable Tryz.prog 79 = true := by kernel_rfl
theorem call_80 : callable Tryz.prog 80 = true := by kernel_rfl
theorem call_81 : callable Tryz.prog 81 = true := by kernel_rfl
theorem call_82 : callable Tryz.prog 82 = true := by kernel_rfl
theorem call_83 : callable Tryz.prog 83 = true := by kernel_rfl
theorem call_84 : callable Tryz.prog 84 = true := by kernel_rfl
theorem call_85 : callable Tryz.prog 85 = true := by kernel_rfl
theorem call_86 : callable Tryz.prog 86 = true := by kernel_rfl
theorem call_87 : callable Tryz.prog 87 = true := by kernel_rfl
theorem call_88 : callable Tryz.prog 88 = true := by kernel_rfl
theorem call_89 : callable Tryz.prog 89 = true := by kernel_rfl
theorem call_90 : callable Tryz.prog 90 = true := by kernel_rfl
theorem call_91 : callable Tryz.prog 91 = true := by kernel_rfl
theorem call_92 : callable Tryz.prog 92 = true := by kernel_rfl
theorem call_93 : callable Tryz.prog 93 = true := by kernel_rfl
theorem call_94 : callable Tryz.prog 94 = true := by kernel_rfl
theorem call_95 : callable Tryz.prog 95 = true := by kernel_rfl
theorem call_96 : callable Tryz.prog 96 = true := by kernel_rfl
theorem call_97 : callable Tryz.prog 97 = true := by kernel_rfl
theorem call_98 : callable Tryz.prog 98 = true := by kernel_rfl
theorem call_99 : callable Tryz.prog 99 = true := by kernel_rfl
theorem call_100 : callable Tryz.prog 100 = true := by kernel_rfl
theorem call_105 : callable Tryz.prog 105 = true := by kernel_rfl
theorem call_106 : callable Tryz.prog 106 = true := by kernel_rfl
theorem call_107 : callable Tryz.prog 107 = true := by kernel_rfl
theorem call_142 : callable Tryz.prog 142 = true := by kernel_rfl
theorem call_143 : callable Tryz.prog 143 = true := by kernel_rfl
theorem call_144 : callable Tryz.prog 144 = true := by kernel_rfl
theorem call_145 : callable Tryz.prog 145 = true := by kernel_rfl
theorem call_146 : callable Tryz.prog 146 = true := by kernel_rfl
theorem call_147 : callable Tryz.prog 147 = true := by kernel_rfl

end Go.Proofs.YtjjemehigdpboaaGreat
namespace Go.Proofs.YtjjemehigdpboaaGreat
open Go Go.VV Go.Proofs
set_option linter.unusedSimpArgs false
set_option linter.unusedVariables false
set_option maxRecDepth 100000
theorem ramFetch_fn {n : Nat} (mb bb : Nat) (m : Rm) (hm : RamOk (n + 1) m) (H : Heap) (hr : RamH mb bb m H) (a : Int) (ha : 0 ≤ a ∧ a < 65536) (w : World) (hst : St w (H.map (·.1)) H w) : Does Tryz.prog 143 [.pointer (some ⟨mb, 0, none⟩), .int .u16 a] w (H.map (·.1)) (fun v H' => v = .int .u8 (ramA.fetch a m).1 ∧ RamH mb bb (ramA.fetch a m).2 H') := by
 obtain ⟨va, Ga, hV, rfl⟩ := hr
 obtain ⟨a9, c9, rfl⟩ := hV.slice
 have hl9 := hm.len
 have hr9 := hm.room
 refine does_of Tryz.func143 rfl rfl rfl hst ?_
 refine c_seq ?_
 refine c_region ?_
 refine RL ?_
 refine l_nil ?_
 refine c_seq ?_
 refine c_draw _ [5, 6, 7, 8, 9, 10, 11, 12, 13, 14] (.step true 0 (.step true 1 (.step true 2 (.step true 3 (.step true 4 (.step true 5 (.step true 6 (.step true 7 (.step true 8 (.step true 9 (.step true 10 (.step true 11 (.step true 12 (.step true 13 (.step false 14 (.step false 15 (.step true 16 (.step true 17 (.step false 18 .done))))))))))))))))))) rfl (by kernel_rfl) (by kernel_rfl) (fun _ h => h) ?_
 iterate 3 refine RD ?_
 refine RDa ?_
 refine RDo ?_
 iterate 3 refine RD ?_
 refine RDa ?_
 refine RDo ?_
 refine RD ?_
 refine d_light rfl (idx_sliceI rfl rfl rfl o_m o_m) rfl rfl rfl ?_
 refine d_load rfl rfl rfl (s_own m_m (byte_in hl9 ha)) rfl rfl ?_
 refine d_light rfl (light_struct rfl rfl rfl rfl) rfl rfl rfl ?_
 refine d_x rfl (x_slc (z := [.int .i64 0, .int .u16 0, .int .u8 0]) (l := cAc ⟨3, a, atB m.b a⟩) (ps := [(0, .agg (cAc ⟨3, a, atB m.b a⟩).toArray)]) rfl rfl rfl rfl rfl rfl) rfl rfl (by intro _ _ _ hK x hx; obtain ⟨_, rfl, rfl⟩ := hK; repeat (first | exact hx | exact List.mem_append_left _ hx | refine List.mem_append_right _ ?_ | refine .tail _ ?_)) ?_
 rintro _ _ ⟨b19, rfl, rfl⟩
 refine d_x rfl (x_append (A := [(b19, _)]) (G := Ga) (R := [(mb, _), (bb, _)]) (v := .slice a9 m.acc.length c9) (n := m.acc.length) (xs := flat cAc m.acc) (m := 1) (T := 89) (s := 3) (by_ := 16) (ys := cAc ⟨3, a, atB m.b a⟩) rfl rfl rfl rfl hV (fun w hw => .row _ _ _ _ _ rfl (row_own (b := b19) (.head _) w hw)) rfl o_m o_m) rfl rfl n_h ?_
 rintro v9 _ ⟨G9, hV9, _, rfl⟩
 obtain ⟨b9, cp9, sp9, rfl, rfl, hc9, hle9, hm9⟩ := hV9.full o_m
 refine c_u ?_
 refine RD ?_
 refine RDa ?_
 refine d_x rfl (x_storeTo (l' := [.slice (some ⟨bb, 0, none⟩) 65536 65536, .slice (some ⟨b9, 0, none⟩) (m.acc.length + 1) cp9]) 2 rfl rfl rfl rfl rfl rfl (Nat.le_of_ble_eq_true rfl) rfl) rfl rfl n_h ?_
 rintro _ _ ⟨rfl, rfl⟩
 refine c_u ?_
 refine d_nil ?_
 refine c_seq ?_
 refine c_region ?_
 refine RL ?_
 refine RL ?_
 refine RLa ?_
 refine RLo ?_
 refine RL ?_
 refine l_l (idx_sliceI rfl rfl rfl o_m o_m) rfl rfl ?_
 refine l_x (x_load rfl rfl (at_own m_m (byte_in hl9 ha))) rfl rfl ?_
 rintro _ _ ⟨rfl, rfl⟩
 refine RL ?_
 refine l_nil ?_
 refine c_ret ?_
 exact l_end (fun _ _ => rets_v rfl) (.cons_cons _ (.cons _ (List.Sublist.refl _))) ⟨rfl, _, _, hV9.as (by simp [ramA, noteR]) (flat_snoc _ _).symm, rfl⟩

theorem ramRead_fn {n : Nat} (mb bb : Nat) (m : Rm) (hm : RamOk (n + 1) m) (H : Heap) (hr : RamH mb bb m H) (a : Int) (ha : 0 ≤ a ∧ a < 65536) (w : World) (hst : St w (H.map (·.1)) H w) : Does Tryz.prog 146 [.pointer (some ⟨mb, 0, none⟩), .int .u16 a] w (H.map (·.1)) (fun v H' => v = .int .u8 (ramA.read a m).1 ∧ RamH mb bb (ramA.read a m).2 H') := by
 obtain ⟨va, Ga, hV, rfl⟩ := hr
 obtain ⟨a9, c9, rfl⟩ := hV.slice
 have hl9 := hm.len
 have hr9 := hm.room
 refine does_of Tryz.func146 rfl rfl rfl hst ?_
 refine c_seq ?_
 refine c_region ?_
 refine RL ?_
 refine l_nil ?_
 refine c_seq ?_
 refine c_draw _ [5, 6, 7, 8, 9, 10, 11, 12, 13, 14] (.step true 0 (.step true 1 (.step true 2 (.step true 3 (.step true 4 (.step true 5 (.step true 6 (.step true 7 (.step true 8 (.step true 9 (.step true 10 (.step true 11 (.step true 12 (.step true 13 (.step false 14 (.step false 15 (.step true 16 (.step true 17 (.step false 18 .done))))))))))))))))))) rfl (by kernel_rfl) (by kernel_rfl) (fun _ h => h) ?_
 iterate 3 refine RD ?_
 refine RDa ?_
 refine RDo ?_
 iterate 3 refine RD ?_
 refine RDa ?_
 refine RDo ?_
 refine RD ?_
 refine d_light rfl (idx_sliceI rfl rfl rfl o_m o_m) rfl rfl rfl ?_
 refine d_load rfl rfl rfl (s_own m_m (byte_in hl9 ha)) rfl rfl ?_
 refine d_light rfl (light_struct rfl rfl rfl rfl) rfl rfl rfl ?_
 refine d_x rfl (x_slc (z := [.int .i64 0, .int .u16 0, .int .u8 0]) (l := cAc ⟨1, a, atB m.b a⟩) (ps := [(0, .agg (cAc ⟨1, a, atB m.b a⟩).toArray)]) rfl rfl rfl rfl rfl rfl) rfl rfl (by intro _ _ _ hK x hx; obtain ⟨_, rfl, rfl⟩ := hK; repeat (first | exact hx | exact List.mem_append_left _ hx | refine List.mem_append_right _ ?_ | refine .tail _ ?_)) ?_
 rintro _ _ ⟨b19, rfl, rfl⟩
 refine d_x rfl (x_append (A := [(b19, _)]) (G := Ga) (R := [(mb, _), (bb, _)]) (v := .slice a9 m.acc.length c9) (n := m.acc.length) (xs := flat cAc m.acc) (m := 1) (T := 89) (s := 3) (by_ := 16) (ys := cAc ⟨1, a, atB m.b a⟩) rfl rfl rfl rfl hV (fun w hw => .row _ _ _ _ _ rfl (row_own (b := b19) (.head _) w hw)) rfl o_m o_m) rfl rfl n_h ?_
 rintro v9 _ ⟨G9, hV9, _, rfl⟩
 obtain ⟨b9, cp9, sp9, rfl, rfl, hc9, hle9, hm9⟩ := hV9.full o_m
 refine c_u ?_
 refine RD ?_
 refine RDa ?_
 refine d_x rfl (x_storeTo (l' := [.slice (some ⟨bb, 0, none⟩) 65536 65536, .slice (some ⟨b9, 0, none⟩) (m.acc.length + 1) cp9]) 2 rfl rfl rfl rfl rfl rfl (Nat.le_of_ble_eq_true rfl) rfl) rfl rfl n_h ?_
 rintro _ _ ⟨rfl, rfl⟩
 refine c_u ?_
 refine d_nil ?_
 refine c_seq ?_
 refine c_region ?_
 refine RL ?_
 refine RL ?_
 refine RLa ?_
 refine RLo ?_
 refine RL ?_
 refine l_l (idx_sliceI rfl rfl rfl o_m o_m) rfl rfl ?_
 refine l_x (x_load rfl rfl (at_own m_m (byte_in hl9 ha))) rfl rfl ?_
 rintro _ _ ⟨rfl, rfl⟩
 refine RL ?_
 refine l_nil ?_
 refine c_ret ?_
 exact l_end (fun _ _ => rets_v rfl) (.cons_cons _ (.cons _ (List.Sublist.refl _))) ⟨rfl, _, _, hV9.as (by simp [ramA, noteR]) (flat_snoc _ _).symm, rfl⟩

theorem ramWrite_fn {n : Nat} (mb bb : Nat) (m : Rm) (hm : RamOk (n + 1) m) (H : Heap) (hr : RamH mb bb m H) (a x : Int) (ha : 0 ≤ a ∧ a < 65536) (w : World) (hst : St w (H.map (·.1)) H w) : Does Tryz.prog 147 [.pointer (some ⟨mb, 0, none⟩), .int .u16 a, .int .u8 x] w (H.map (·.1)) (fun v H' => v = .tuple #[] ∧ RamH mb bb (ramA.write a x m) H') := by
 obtain ⟨va, Ga, hV, rfl⟩ := hr
 obtain ⟨a9, c9, rfl⟩ := hV.slice
 have hl9 := hm.len
 have hr9 := hm.room
 refine does_of Tryz.func147 rfl rfl rfl hst ?_
 refine c_seq ?_
 refine c_region ?_
 iterate 3 refine RL ?_
 refine RLa ?_
 refine RLo ?_
 refine RL ?_
 refine RL ?_
 refine l_l (light_struct rfl rfl rfl rfl) rfl rfl ?_
 refine l_x (x_slc (z := [.int .i64 0, .int .u16 0, .int .u8 0]) (l := cAc ⟨2, a, x⟩) (ps := [(0, .agg (cAc ⟨2, a, x⟩).toArray)]) rfl rfl rfl rfl rfl rfl) rfl rfl ?_
 rintro _ _ ⟨b14, rfl, rfl⟩
 refine l_x (x_append (A := [(b14, _)]) (G := Ga) (R := [(mb, _), (bb, _)]) (v := .slice a9 m.acc.length c9) (n := m.acc.length) (xs := flat cAc m.acc) (m := 1) (T := 89) (s := 3) (by_ := 16) (ys := cAc ⟨2, a, x⟩) rfl rfl rfl rfl hV (fun w hw => .row _ _ _ _ _ rfl (row_own (b := b14) (.head _) w hw)) rfl o_m o_m) rfl rfl ?_
 rintro v9 _ ⟨G9, hV9, _, rfl⟩
 obtain ⟨b9, cp9, sp9, rfl, rfl, hc9, hle9, hm9⟩ := hV9.full o_m
 refine c_u ?_
 refine RL ?_
 refine RLa ?_
 refine l_x (x_storeTo (l' := [.slice (some ⟨bb, 0, none⟩) 65536 65536, .slice (some ⟨b9, 0, none⟩) (m.acc.length + 1) cp9]) 2 rfl rfl rfl rfl rfl rfl (Nat.le_of_ble_eq_true rfl) rfl) rfl rfl ?_
 rintro _ _ ⟨rfl, rfl⟩
 refine c_u ?_
 refine l_nil ?_
 refine c_region ?_
 refine RL ?_
 refine RL ?_
 refine RLa ?_
 refine RLo ?_
 refine RL ?_
 refine RL ?_
 refine l_l (idx_sliceI rfl rfl rfl o_m o_m) rfl rfl ?_
 refine l_x (x_storeTo (l' := (m.b.set a.toNat x).map (.int .u8)) 3 rfl rfl rfl rfl rfl rfl (fits_in hl9 ha) (put_in hl9 ha x)) rfl rfl ?_
 rintro _ _ ⟨rfl, rfl⟩
 refine c_u ?_
 refine l_nil ?_
 exact l_end (fun _ _ => rets_none) (.cons_cons _ (.cons _ (List.Sublist.refl _))) ⟨rfl, _, _, hV9.as (by simp [ramA, noteR]) (flat_snoc _ _).symm, rfl⟩

theorem ramIdle_fn {n : Nat} (mb bb : Nat) (m : Rm) (hm : RamOk (n + 1) m) (H : Heap) (hr : RamH mb bb m H) (w : World) (hst : St w (H.map (·.1)) H w) : Does Tryz.prog 144 [.pointer (some ⟨mb, 0, none⟩)] w (H.map (·.1)) (fun v H' => v = .tuple #[] ∧ RamH mb bb (ramA.idle m) H') := by
 obtain ⟨va, Ga, hV, rfl⟩ := hr
 obtain ⟨a9, c9, rfl⟩ := hV.slice
 have hl9 := hm.len
 have hr9 := hm.room
 refine does_of Tryz.func144 rfl rfl rfl hst ?_
 refine c_region ?_
 iterate 3 refine RL ?_
 refine RLa ?_
 refine RLo ?_
 refine l_l (light_struct rfl rfl rfl rfl) rfl rfl ?_
 refine l_x (x_slc (z := [.int .i64 0, .int .u16 0, .int .u8 0]) (l := cAc ⟨0, 0, 0⟩) (ps := [(0, .agg (cAc ⟨0, 0, 0⟩).toArray)]) rfl rfl rfl rfl rfl rfl) rfl rfl ?_
 rintro _ _ ⟨b8, rfl, rfl⟩
 refine l_x (x_append (A := [(b8, _)]) (G := Ga) (R := [(mb, _), (bb, _)]) (v := .slice a9 m.acc.length c9) (n := m.acc.length) (xs := flat cAc m.acc) (m := 1) (T := 89) (s := 3) (by_ := 16) (ys := cAc ⟨0, 0, 0⟩) rfl rfl rfl rfl hV (fun w hw => .row _ _ _ _ _ rfl (row_own (b := b8) (.head _) w hw)) rfl o_m o_m) rfl rfl ?_
 rintro v9 _ ⟨G9, hV9, _, rfl⟩
 obtain ⟨b9, cp9, sp9, rfl, rfl, hc9, hle9, hm9⟩ := hV9.full o_m
 refine c_u ?_
 refine RL ?_
 refine RLa ?_
 refine l_x (x_storeTo (l' := [.slice (some ⟨bb, 0, none⟩) 65536 65536, .slice (some ⟨b9, 0, none⟩) (m.acc.length + 1) cp9]) 2 rfl rfl rfl rfl rfl rfl (Nat.le_of_ble_eq_true rfl) rfl) rfl rfl ?_
 rintro _ _ ⟨rfl, rfl⟩
 refine c_u ?_
 refine l_nil ?_
 exact l_end (fun _ _ => rets_none) (.cons_cons _ (.cons _ (List.Sublist.refl _))) ⟨rfl, _, _, hV9.as (by simp [ramA, noteR]) (flat_snoc _ _).symm, rfl⟩

theorem ramPending_fn {n : Nat} (mb bb : Nat) (m : Rm) (hm : RamOk n m) (H : Heap) (hr : RamH mb bb m H) (w : World) (hst : St w (H.map (·.1)) H w) : Does Tryz.prog 145 [.pointer (some ⟨mb, 0, none⟩)] w (H.map (·.1)) (fun v H' => v = .int .u8 (ramA.pend m) ∧ H' = H) := by
 obtain ⟨va, Ga, hV, rfl⟩ := hr
 obtain ⟨a9, c9, rfl⟩ := hV.slice
 have hl9 := hm.len
 have hr9 := hm.room
 refine does_of Tryz.func145 rfl rfl rfl hst ?_
 refine c_seq ?_
 refine c_region ?_
 refine RL ?_
 refine l_nil ?_
 refine c_seq ?_
 refine c_draw _ [6, 7, 8, 9, 10, 11] (.step true 0 (.step true 1 (.step true 2 (.step true 3 (.step true 4 (.step true 5 (.step true 6 (.step true 7 (.step true 8 (.step true 9 (.step true 10 (.step true 11 (.step true 12 (.step true 13 (.step true 14 .done))))))))))))))) rfl (by kernel_rfl) (by kernel_rfl) (fun _ h => h) ?_
 refine RD ?_
 refine RD ?_
 refine RDa ?_
 refine RDo ?_
 refine d_light rfl (idx_slice1 (65295 : Int).toNat rfl rfl rfl rfl (by decide)) rfl rfl rfl ?_
 refine d_load rfl rfl rfl (s_own m_m (byte_in hl9 (a := 65295) (by decide))) rfl rfl ?_
 refine RD ?_
 refine RD ?_
 refine RDa ?_
 refine RDo ?_
 refine d_light rfl (by first | exact idx_array1 65535 rfl rfl rfl rfl (by decide) | exact idx_slice1 65535 rfl rfl rfl rfl (by decide) | exact idx_array 65535 rfl rfl rfl rfl (by decide) | exact idx_slice 65535 rfl rfl rfl rfl (by decide)) rfl rfl rfl ?_
 refine d_load rfl rfl rfl (s_own m_m (byte_in hl9 (a := 65535) (by decide))) rfl rfl ?_
 refine d_as (v := (.int .u8 (band .u8 (atB m.b 65295) (atB m.b 65535)))) rfl (l_and rfl rfl) rfl rfl rfl rfl ?_
 refine d_as (v := (.int .u8 (ramA.pend m))) rfl (l_and rfl rfl) rfl rfl rfl rfl ?_
 refine RD ?_
 refine d_nil ?_
 refine c_ret ?_
 exact l_end (fun _ _ => rets_v rfl) (List.Sublist.refl _) ⟨rfl, rfl⟩

theorem ramAck_fn {n : Nat} (mb bb : Nat) (m : Rm) (hm : RamOk n m) (H : Heap) (hr : RamH mb bb m H) (k : Int) (hk : 0 ≤ k ∧ k < 5) (w : World) (hst : St w (H.map (·.1)) H w) : Does Tryz.prog 142 [.pointer (some ⟨mb, 0, none⟩), .int .i64 k] w (H.map (·.1)) (fun v H' => v = .tuple #[] ∧ RamH mb bb (ramA.ack k m) H') := by
 obtain ⟨va, Ga, hV, rfl⟩ := hr
 obtain ⟨a9, c9, rfl⟩ := hV.slice
 have hl9 := hm.len
 have hr9 := hm.room
 refine does_of Tryz.func142 rfl rfl rfl hst ?_
 refine c_heap (fun w hw => hw.perm List.perm_append_comm) ?_
 refine c_u ?_
 refine c_draw _ [6, 7] (.step true 0 (.step true 1 (.step true 2 (.step true 3 (.step true 4 (.step true 5 (.step true 6 (.step true 7 (.step true 8 (.step true 9 (.step false 10 .done))))))))))) rfl (by kernel_rfl) (by kernel_rfl) (fun _ h => h) ?_
 refine RD ?_
 refine RD ?_
 refine RDa ?_
 refine RDo ?_
 refine d_light rfl (by first | exact idx_array1 65295 rfl rfl rfl rfl (by decide) | exact idx_slice1 65295 rfl rfl rfl rfl (by decide) | exact idx_array 65295 rfl rfl rfl rfl (by decide) | exact idx_slice 65295 rfl rfl rfl rfl (by decide)) rfl rfl rfl ?_
 refine d_load rfl rfl rfl (s_own m_m (byte_in hl9 (a := 65295) (by decide))) rfl rfl ?_
 refine RD ?_
 refine d_as (v := (.int .u8 (shl .u8 1 k))) rfl (shl_pos rfl rfl hk.1) rfl rfl rfl rfl ?_
 refine d_as (v := (.int .u8 (resB (atB m.b 65295) k))) rfl (l_andn rfl rfl) rfl rfl rfl (congrArg _ (res_law (hm.at_ _) o_m)) ?_
 refine d_light rfl (by first | exact idx_array1 65295 rfl rfl rfl rfl (by decide) | exact idx_slice1 65295 rfl rfl rfl rfl (by decide) | exact idx_array 65295 rfl rfl rfl rfl (by decide) | exact idx_slice 65295 rfl rfl rfl rfl (by decide)) rfl rfl rfl ?_
 refine d_x rfl (x_storeTo (l' := (m.b.set (65295 : Int).toNat (resB (atB m.b 65295) k)).map (.int .u8)) 1 rfl rfl rfl rfl rfl rfl (fits_in hl9 (a := 65295) (by decide)) (put_in hl9 (a := 65295) (by decide) _)) rfl rfl n_h ?_
 rintro _ _ ⟨rfl, rfl⟩
 refine c_u ?_
 refine d_nil ?_
 exact ends_of (fun _ _ => rets_none) (fun w hw => hw.perm (List.perm_append_comm (l₁ := [(mb, _), (bb, _)]))) ⟨rfl, _, _, hV, rfl⟩

theorem has_m (k : Nat) : True := trivial
def ramK (mb bb : Nat) : BusK Tryz.prog Rm where
 toBusA := ramA
 t0 := 31
 v := .pointer (some ⟨mb, 0, none⟩)
 rep := RamH mb bb
 ok := RamOk
 fF := 143
 mF := fun v w => by rfl
 cF := call_143
 fR := 146
 mR := fun v w => by rfl
 cR := call_146
 fW := 147
 mW := fun v w => by rfl
 cW := call_147
 fI := 144
 mI := fun v w => by rfl
 cI := call_144
 fP := 145
 mP := fun v w => by rfl
 cP := call_145
 fA := 142
 mA := fun v w => by rfl
 cA := call_142
 dF := fun h hr hw ha => ramFetch_fn mb bb _ h _ hr _ ha _ hw
 dR := fun h hr hw ha => ramRead_fn mb bb _ h _ hr _ ha _ hw
 dW := fun h hr hw ha hx => ramWrite_fn mb bb _ h _ hr _ _ ha _ hw
 dI := fun h hr hw => ramIdle_fn mb bb _ h _ hr _ hw
 dP := fun h hr hw => ramPending_fn mb bb _ h _ hr _ hw
 dA := fun h hr hw hk => ramAck_fn mb bb _ h _ hr _ hk _ hw
 oF := fun h ha => ⟨h.note 3 ha (h.at_ _), h.at_ _⟩
 oR := fun h ha => ⟨h.note 1 ha (h.at_ _), h.at_ _⟩
 oW := fun h ha hx => h.write ha hx
 oI := fun h => h.note 0 (by decide) (by decide)
 oP := fun _ => pend_ok _
 oA := fun h hk => h.ack hk
 oL := fun h hk => h.le hk

end Go.Proofs.YtjjemehigdpboaaGreat
namespace Go.Proofs.YtjjemehigdpboaaGreat
open Go Go.VV Go.Proofs
set_option linter.unusedSimpArgs false
set_option linter.unusedVariables false
set_option maxRecDepth 100000
theorem at_fn (rb : Nat) (n : Int) (w : World) : Does Tryz.prog 105 [.pointer (some ⟨rb, 0, none⟩), .int .i64 n] w [] (fun v H => H = [] ∧ v = atV rb n) := by
 refine does_of Tryz.func105 rfl rfl rfl (St.refl w) ?_
 refine c_seq ?_
 refine c_region ?_
 refine RL ?_
 refine l_nil ?_
 refine c_seq ?_
 refine c_draw _ [] (.step true 0 (.step true 1 (.step true 2 (.step true 3 (.step true 4 (.step true 5 (.step true 6 (.step true 7 (.step true 8 (.step true 9 (.step true 10 (.step true 11 (.step true 12 (.step true 13 (.step true 14 (.step true 15 (.step true 16 (.step true 17 (.step true 18 (.step true 19 (.step true 20 (.step true 21 (.step false 22 (.step false 23 .done)))))))))))))))))))))))) rfl (by kernel_rfl) (by kernel_rfl) (fun _ h => h) ?_
 refine RD ?_
 refine RD ?_
 refine RDa ?_
 refine RD ?_
 refine RD ?_
 refine RDa ?_
 refine RD ?_
 refine RD ?_
 refine RDa ?_
 refine RD ?_
 refine RD ?_
 refine RDa ?_
 refine RD ?_
 refine RD ?_
 refine RDa ?_
 refine RD ?_
 refine RD ?_
 refine RDa ?_
 refine RD ?_
 refine RD ?_
 refine RDa ?_
 refine d_light rfl (light_array (l := [.pointer (some ⟨rb, 2, none⟩), .pointer (some ⟨rb, 3, none⟩), .pointer (some ⟨rb, 4, none⟩), .pointer (some ⟨rb, 5, none⟩), .pointer (some ⟨rb, 6, none⟩), .pointer (some ⟨rb, 7, none⟩), .pointer none, .pointer (some ⟨rb, 0, none⟩)]) (z := [.pointer none, .pointer none, .pointer none, .pointer none, .pointer none, .pointer none, .pointer none, .pointer none]) (ps := [(0, .pointer (some ⟨rb, 2, none⟩)), (1, .pointer (some ⟨rb, 3, none⟩)), (2, .pointer (some ⟨rb, 4, none⟩)), (3, .pointer (some ⟨rb, 5, none⟩)), (4, .pointer (some ⟨rb, 6, none⟩)), (5, .pointer (some ⟨rb, 7, none⟩)), (6, .pointer none), (7, .pointer (some ⟨rb, 0, none⟩))]) rfl (by kernel_rfl) rfl (by kernel_rfl)) rfl rfl rfl ?_
 refine d_x rfl (x_alloc rfl) rfl rfl n_h ?_
 rintro _ _ ⟨b5, rfl, rfl⟩
 refine d_x rfl s_t rfl rfl n_h ?_
 rintro _ _ ⟨rfl, rfl⟩
 refine d_nil ?_
 refine c_seq ?_
 refine c_seq ?_
 refine c_region ?_
 refine RL ?_
 refine RL ?_
 refine RLb (fun h1 => ?_) (fun h1 => ?_)
 ·have h1n := r_f h1
  refine RLp ?_
  refine RLp ?_
  refine RL ?_
  refine l_nil ?_
  refine c_true rfl ?_
  refine c_seq ?_
  refine c_region ?_
  refine RL ?_
  refine l_nil ?_
  refine c_ret ?_
  exact l_end0 (fun _ _ => rets_v rfl) ⟨rfl, (by unfold atV; rw [if_pos o_m])⟩
 ·have h1n := r_f h1
  iterate 3 refine RL ?_
  refine l_nil ?_
  refine c_cond rfl (fun h2 => ?_) (fun h2 => ?_)
  ·have h2n := r_f h2
   refine c_seq ?_
   refine c_region ?_
   refine RL ?_
   refine l_nil ?_
   refine c_ret ?_
   exact l_end0 (fun _ _ => rets_v rfl) ⟨rfl, (by unfold atV; rw [if_pos o_m])⟩
  ·have h2n := r_f h2
   refine c_skip ?_
   refine c_seq ?_
   rcases (show n = 0 ∨ n = 1 ∨ n = 2 ∨ n = 3 ∨ n = 4 ∨ n = 5 ∨ n = 6 ∨ n = 7 by omega) with rfl | rfl | rfl | rfl | rfl | rfl | rfl | rfl
   ·refine c_region ?_
    refine RL ?_
    refine l_l (idx_array1 0 rfl rfl rfl rfl (by decide)) rfl rfl ?_
    refine RLo ?_
    refine RL ?_
    refine l_nil ?_
    refine c_ret ?_
    exact l_end0 (fun _ _ => rets_v rfl) ⟨rfl, rfl⟩
   ·refine c_region ?_
    refine RL ?_
    refine l_l (idx_array1 1 rfl rfl rfl rfl (by decide)) rfl rfl ?_
    refine RLo ?_
    refine RL ?_
    refine l_nil ?_
    refine c_ret ?_
    exact l_end0 (fun _ _ => rets_v rfl) ⟨rfl, rfl⟩
   ·refine c_region ?_
    refine RL ?_
    refine l_l (idx_array1 2 rfl rfl rfl rfl (by decide)) rfl rfl ?_
    refine RLo ?_
    refine RL ?_
    refine l_nil ?_
    refine c_ret ?_
    exact l_end0 (fun _ _ => rets_v rfl) ⟨rfl, rfl⟩
   ·refine c_region ?_
    refine RL ?_
    refine l_l (idx_array1 3 rfl rfl rfl rfl (by decide)) rfl rfl ?_
    refine RLo ?_
    refine RL ?_
    refine l_nil ?_
    refine c_ret ?_
    exact l_end0 (fun _ _ => rets_v rfl) ⟨rfl, rfl⟩
   ·refine c_region ?_
    refine RL ?_
    refine l_l (idx_array1 4 rfl rfl rfl rfl (by decide)) rfl rfl ?_
    refine RLo ?_
    refine RL ?_
    refine l_nil ?_
    refine c_ret ?_
    exact l_end0 (fun _ _ => rets_v rfl) ⟨rfl, rfl⟩
   ·refine c_region ?_
    refine RL ?_
    refine l_l (idx_array1 5 rfl rfl rfl rfl (by decide)) rfl rfl ?_
    refine RLo ?_
    refine RL ?_
    refine l_nil ?_
    refine c_ret ?_
    exact l_end0 (fun _ _ => rets_v rfl) ⟨rfl, rfl⟩
   ·refine c_region ?_
    refine RL ?_
    refine l_l (idx_array1 6 rfl rfl rfl rfl (by decide)) rfl rfl ?_
    refine RLo ?_
    refine RL ?_
    refine l_nil ?_
    refine c_ret ?_
    exact l_end0 (fun _ _ => rets_v rfl) ⟨rfl, rfl⟩
   ·refine c_region ?_
    refine RL ?_
    refine l_l (idx_array1 7 rfl rfl rfl rfl (by decide)) rfl rfl ?_
    refine RLo ?_
    refine RL ?_
    refine l_nil ?_
    refine c_ret ?_
    exact l_end0 (fun _ _ => rets_v rfl) ⟨rfl, rfl⟩

theorem get_fn (r : CR) (n : Int) (w : World) : Does Tryz.prog 90 [.agg (cR r).toArray, .int .i64 n] w [] (fun v H => H = [] ∧ ∃ k : Int, v = .tuple #[.int .u8 (getR r n), .int .i64 k]) := by
 refine does_of Tryz.func90 rfl rfl rfl (St.refl w) ?_
 refine c_seq ?_
 refine c_region ?_
 refine l_x (x_box (l := cR r) rfl rfl) rfl rfl ?_
 rintro _ _ ⟨b2, rfl, rfl⟩
 refine RL ?_
 refine RL ?_
 refine l_nil ?_
 refine c_seq ?_
 refine c_seq ?_
 rcases reg_cases n with rfl | rfl | rfl | rfl | rfl | rfl | rfl | hno
 ·refine c_region ?_
  refine RL ?_
  refine RLv call_105 (fun w hw => at_fn b2 0 w) ?_
  rw [show atV b2 0 = Value.pointer (some ⟨b2, 2, none⟩) from rfl]
  refine RL ?_
  refine l_nil ?_
  refine c_seq ?_
  refine c_region ?_
  refine RL ?_
  refine RL ?_
  refine l_nil ?_
  refine c_true rfl ?_
  refine c_seq ?_
  refine c_region ?_
  refine RL ?_
  refine RL ?_
  refine RLo ?_
  refine RL ?_
  refine RL ?_
  refine l_nil ?_
  refine c_ret ?_
  exact l_end0 (fun _ _ => rets_v2 rfl rfl) ⟨rfl, _, rfl⟩
 ·refine c_region ?_
  refine RL ?_
  refine RLv call_105 (fun w hw => at_fn b2 1 w) ?_
  rw [show atV b2 1 = Value.pointer (some ⟨b2, 3, none⟩) from rfl]
  refine RL ?_
  refine l_nil ?_
  refine c_seq ?_
  refine c_region ?_
  refine RL ?_
  refine RL ?_
  refine l_nil ?_
  refine c_true rfl ?_
  refine c_seq ?_
  refine c_region ?_
  refine RL ?_
  refine RL ?_
  refine RLo ?_
  refine RL ?_
  refine RL ?_
  refine l_nil ?_
  refine c_ret ?_
  exact l_end0 (fun _ _ => rets_v2 rfl rfl) ⟨rfl, _, rfl⟩
 ·refine c_region ?_
  refine RL ?_
  refine RLv call_105 (fun w hw => at_fn b2 2 w) ?_
  rw [show atV b2 2 = Value.pointer (some ⟨b2, 4, none⟩) from rfl]
  refine RL ?_
  refine l_nil ?_
  refine c_seq ?_
  refine c_region ?_
  refine RL ?_
  refine RL ?_
  refine l_nil ?_
  refine c_true rfl ?_
  refine c_seq ?_
  refine c_region ?_
  refine RL ?_
  refine RL ?_
  refine RLo ?_
  refine RL ?_
  refine RL ?_
  refine l_nil ?_
  refine c_ret ?_
  exact l_end0 (fun _ _ => rets_v2 rfl rfl) ⟨rfl, _, rfl⟩
 ·refine c_region ?_
  refine RL ?_
  refine RLv call_105 (fun w hw => at_fn b2 3 w) ?_
  rw [show atV b2 3 = Value.pointer (some ⟨b2, 5, none⟩) from rfl]
  refine RL ?_
  refine l_nil ?_
  refine c_seq ?_
  refine c_region ?_
  refine RL ?_
  refine RL ?_
  refine l_nil ?_
  refine c_true rfl ?_
  refine c_seq ?_
  refine c_region ?_
  refine RL ?_
  refine RL ?_
  refine RLo ?_
  refine RL ?_
  refine RL ?_
  refine l_nil ?_
  refine c_ret ?_
  exact l_end0 (fun _ _ => rets_v2 rfl rfl) ⟨rfl, _, rfl⟩
 ·refine c_region ?_
  refine RL ?_
  refine RLv call_105 (fun w hw => at_fn b2 4 w) ?_
  rw [show atV b2 4 = Value.pointer (some ⟨b2, 6, none⟩) from rfl]
  refine RL ?_
  refine l_nil ?_
  refine c_seq ?_
  refine c_region ?_
  refine RL ?_
  refine RL ?_
  refine l_nil ?_
  refine c_true rfl ?_
  refine c_seq ?_
  refine c_region ?_
  refine RL ?_
  refine RL ?_
  refine RLo ?_
  refine RL ?_
  refine RL ?_
  refine l_nil ?_
  refine c_ret ?_
  exact l_end0 (fun _ _ => rets_v2 rfl rfl) ⟨rfl, _, rfl⟩
 ·refine c_region ?_
  refine RL ?_
  refine RLv call_105 (fun w hw => at_fn b2 5 w) ?_
  rw [show atV b2 5 = Value.pointer (some ⟨b2, 7, none⟩) from rfl]
  refine RL ?_
  refine l_nil ?_
  refine c_seq ?_
  refine c_region ?_
  refine RL ?_
  refine RL ?_
  refine l_nil ?_
  refine c_true rfl ?_
  refine c_seq ?_
  refine c_region ?_
  refine RL ?_
  refine RL ?_
  refine RLo ?_
  refine RL ?_
  refine RL ?_
  refine l_nil ?_
  refine c_ret ?_
  exact l_end0 (fun _ _ => rets_v2 rfl rfl) ⟨rfl, _, rfl⟩
 ·refine c_region ?_
  refine RL ?_
  refine RLv call_105 (fun w hw => at_fn b2 7 w) ?_
  rw [show atV b2 7 = Value.pointer (some ⟨b2, 0, none⟩) from rfl]
  refine RL ?_
  refine l_nil ?_
  refine c_seq ?_
  refine c_region ?_
  refine RL ?_
  refine RL ?_
  refine l_nil ?_
  refine c_true rfl ?_
  refine c_seq ?_
  refine c_region ?_
  refine RL ?_
  refine RL ?_
  refine RLo ?_
  refine RL ?_
  refine RL ?_
  refine l_nil ?_
  refine c_ret ?_
  exact l_end0 (fun _ _ => rets_v2 rfl rfl) ⟨rfl, _, rfl⟩
 ·refine c_region ?_
  refine RL ?_
  refine RLv call_105 (fun w hw => at_fn b2 n w) ?_
  rw [atV_no hno]
  refine RL ?_
  refine l_nil ?_
  refine c_seq ?_
  refine c_region ?_
  refine RL ?_
  refine RL ?_
  refine l_nil ?_
  refine c_false rfl ?_
  refine c_skip ?_
  refine c_seq ?_
  refine c_region ?_
  refine RL ?_
  refine RL ?_
  refine l_nil ?_
  refine c_ret ?_
  exact l_end0 (fun _ _ => rets_v2 rfl rfl) ⟨rfl, _, by rw [getR_no hno]⟩

theorem set_fn (r : CR) (n x : Int) (w : World) : Does Tryz.prog 89 [.agg (cR r).toArray, .int .i64 n, .int .u8 x] w [] (fun v H => H = [] ∧ ∃ k : Int, v = .tuple #[.agg (cR (setR r n x)).toArray, .int .i64 k]) := by
 refine does_of Tryz.func89 rfl rfl rfl (St.refl w) ?_
 refine c_seq ?_
 refine c_region ?_
 refine l_x (x_box (l := cR r) rfl rfl) rfl rfl ?_
 rintro _ _ ⟨b3, rfl, rfl⟩
 refine l_x (x_alloc rfl) rfl rfl ?_
 rintro _ _ ⟨b6, rfl, rfl⟩
 refine RL ?_
 refine l_nil ?_
 refine c_seq ?_
 rcases reg_cases n with rfl | rfl | rfl | rfl | rfl | rfl | rfl | hno
 ·refine c_region ?_
  refine RL ?_
  refine RLv call_105 (fun w hw => at_fn b3 0 w) ?_
  rw [show atV b3 0 = Value.pointer (some ⟨b3, 2, none⟩) from rfl]
  refine RL ?_
  refine l_nil ?_
  refine c_seq ?_
  refine c_seq ?_
  refine c_region ?_
  refine RL ?_
  refine RL ?_
  refine l_nil ?_
  refine c_false rfl ?_
  refine c_skip ?_
  refine c_seq ?_
  refine c_region ?_
  iterate 3 refine RL ?_
  refine l_x s_t rfl rfl ?_
  rintro _ _ ⟨rfl, rfl⟩
  refine l_nil ?_
  refine c_seq ?_
  refine c_region ?_
  refine l_x (x_loadA rfl rfl rfl (by first | exact row_own m_m | exact row_own_at m_m _ 10 rfl)) rfl rfl ?_
  rintro _ _ ⟨rfl, rfl⟩
  refine l_x s_t rfl rfl ?_
  rintro _ _ ⟨rfl, rfl⟩
  refine RL ?_
  refine l_nil ?_
  refine c_ret ?_
  exact l_end0 (fun w hw => rets_cell2 rfl rfl rfl (row_own (b := b6) (l := cR (setR r 0 x)) m_m w hw) rfl) ⟨rfl, _, rfl⟩
 ·refine c_region ?_
  refine RL ?_
  refine RLv call_105 (fun w hw => at_fn b3 1 w) ?_
  rw [show atV b3 1 = Value.pointer (some ⟨b3, 3, none⟩) from rfl]
  refine RL ?_
  refine l_nil ?_
  refine c_seq ?_
  refine c_seq ?_
  refine c_region ?_
  refine RL ?_
  refine RL ?_
  refine l_nil ?_
  refine c_false rfl ?_
  refine c_skip ?_
  refine c_seq ?_
  refine c_region ?_
  iterate 3 refine RL ?_
  refine l_x s_t rfl rfl ?_
  rintro _ _ ⟨rfl, rfl⟩
  refine l_nil ?_
  refine c_seq ?_
  refine c_region ?_
  refine l_x (x_loadA rfl rfl rfl (by first | exact row_own m_m | exact row_own_at m_m _ 10 rfl)) rfl rfl ?_
  rintro _ _ ⟨rfl, rfl⟩
  refine l_x s_t rfl rfl ?_
  rintro _ _ ⟨rfl, rfl⟩
  refine RL ?_
  refine l_nil ?_
  refine c_ret ?_
  exact l_end0 (fun w hw => rets_cell2 rfl rfl rfl (row_own (b := b6) (l := cR (setR r 1 x)) m_m w hw) rfl) ⟨rfl, _, rfl⟩
 ·refine c_region ?_
  refine RL ?_
  refine RLv call_105 (fun w hw => at_fn b3 2 w) ?_
  rw [show atV b3 2 = Value.pointer (some ⟨b3, 4, none⟩) from rfl]
  refine RL ?_
  refine l_nil ?_
  refine c_seq ?_
  refine c_seq ?_
  refine c_region ?_
  refine RL ?_
  refine RL ?_
  refine l_nil ?_
  refine c_false rfl ?_
  refine c_skip ?_
  refine c_seq ?_
  refine c_region ?_
  iterate 3 refine RL ?_
  refine l_x s_t rfl rfl ?_
  rintro _ _ ⟨rfl, rfl⟩
  refine l_nil ?_
  refine c_seq ?_
  refine c_region ?_
  refine l_x (x_loadA rfl rfl rfl (by first | exact row_own m_m | exact row_own_at m_m _ 10 rfl)) rfl rfl ?_
  rintro _ _ ⟨rfl, rfl⟩
  refine l_x s_t rfl rfl ?_
  rintro _ _ ⟨rfl, rfl⟩
  refine RL ?_
  refine l_nil ?_
  refine c_ret ?_
  exact l_end0 (fun w hw => rets_cell2 rfl rfl rfl (row_own (b := b6) (l := cR (setR r 2 x)) m_m w hw) rfl) ⟨rfl, _, rfl⟩
 ·refine c_region ?_
  refine RL ?_
  refine RLv call_105 (fun w hw => at_fn b3 3 w) ?_
  rw [show atV b3 3 = Value.pointer (some ⟨b3, 5, none⟩) from rfl]
  refine RL ?_
  refine l_nil ?_
  refine c_seq ?_
  refine c_seq ?_
  refine c_region ?_
  refine RL ?_
  refine RL ?_
  refine l_nil ?_
  refine c_false rfl ?_
  refine c_skip ?_
  refine c_seq ?_
  refine c_region ?_
  iterate 3 refine RL ?_
  refine l_x s_t rfl rfl ?_
  rintro _ _ ⟨rfl, rfl⟩
  refine l_nil ?_
  refine c_seq ?_
  refine c_region ?_
  refine l_x (x_loadA rfl rfl rfl (by first | exact row_own m_m | exact row_own_at m_m _ 10 rfl)) rfl rfl ?_
  rintro _ _ ⟨rfl, rfl⟩
  refine l_x s_t rfl rfl ?_
  rintro _ _ ⟨rfl, rfl⟩
  refine RL ?_
  refine l_nil ?_
  refine c_ret ?_
  exact l_end0 (fun w hw => rets_cell2 rfl rfl rfl (row_own (b := b6) (l := cR (setR r 3 x)) m_m w hw) rfl) ⟨rfl, _, rfl⟩
 ·refine c_region ?_
  refine RL ?_
  refine RLv call_105 (fun w hw => at_fn b3 4 w) ?_
  rw [show atV b3 4 = Value.pointer (some ⟨b3, 6, none⟩) from rfl]
  refine RL ?_
  refine l_nil ?_
  refine c_seq ?_
  refine c_seq ?_
  refine c_region ?_
  refine RL ?_
  refine RL ?_
  refine l_nil ?_
  refine c_false rfl ?_
  refine c_skip ?_
  refine c_seq ?_
  refine c_region ?_
  iterate 3 refine RL ?_
  refine l_x s_t rfl rfl ?_
  rintro _ _ ⟨rfl, rfl⟩
  refine l_nil ?_
  refine c_seq ?_
  refine c_region ?_
  refine l_x (x_loadA rfl rfl rfl (by first | exact row_own m_m | exact row_own_at m_m _ 10 rfl)) rfl rfl ?_
  rintro _ _ ⟨rfl, rfl⟩
  refine l_x s_t rfl rfl ?_
  rintro _ _ ⟨rfl, rfl⟩
  refine RL ?_
  refine l_nil ?_
  refine c_ret ?_
  exact l_end0 (fun w hw => rets_cell2 rfl rfl rfl (row_own (b := b6) (l := cR (setR r 4 x)) m_m w hw) rfl) ⟨rfl, _, rfl⟩
 ·refine c_region ?_
  refine RL ?_
  refine RLv call_105 (fun w hw => at_fn b3 5 w) ?_
  rw [show atV b3 5 = Value.pointer (some ⟨b3, 7, none⟩) from rfl]
  refine RL ?_
  refine l_nil ?_
  refine c_seq ?_
  refine c_seq ?_
  refine c_region ?_
  refine RL ?_
  refine RL ?_
  refine l_nil ?_
  refine c_false rfl ?_
  refine c_skip ?_
  refine c_seq ?_
  refine c_region ?_
  iterate 3 refine RL ?_
  refine l_x s_t rfl rfl ?_
  rintro _ _ ⟨rfl, rfl⟩
  refine l_nil ?_
  refine c_seq ?_
  refine c_region ?_
  refine l_x (x_loadA rfl rfl rfl (by first | exact row_own m_m | exact row_own_at m_m _ 10 rfl)) rfl rfl ?_
  rintro _ _ ⟨rfl, rfl⟩
  refine l_x s_t rfl rfl ?_
  rintro _ _ ⟨rfl, rfl⟩
  refine RL ?_
  refine l_nil ?_
  refine c_ret ?_
  exact l_end0 (fun w hw => rets_cell2 rfl rfl rfl (row_own (b := b6) (l := cR (setR r 5 x)) m_m w hw) rfl) ⟨rfl, _, rfl⟩
 ·refine c_region ?_
  refine RL ?_
  refine RLv call_105 (fun w hw => at_fn b3 7 w) ?_
  rw [show atV b3 7 = Value.pointer (some ⟨b3, 0, none⟩) from rfl]
  refine RL ?_
  refine l_nil ?_
  refine c_seq ?_
  refine c_seq ?_
  refine c_region ?_
  refine RL ?_
  refine RL ?_
  refine l_nil ?_
  refine c_false rfl ?_
  refine c_skip ?_
  refine c_seq ?_
  refine c_region ?_
  iterate 3 refine RL ?_
  refine l_x s_t rfl rfl ?_
  rintro _ _ ⟨rfl, rfl⟩
  refine l_nil ?_
  refine c_seq ?_
  refine c_region ?_
  refine l_x (x_loadA rfl rfl rfl (by first | exact row_own m_m | exact row_own_at m_m _ 10 rfl)) rfl rfl ?_
  rintro _ _ ⟨rfl, rfl⟩
  refine l_x s_t rfl rfl ?_
  rintro _ _ ⟨rfl, rfl⟩
  refine RL ?_
  refine l_nil ?_
  refine c_ret ?_
  exact l_end0 (fun w hw => rets_cell2 rfl rfl rfl (row_own (b := b6) (l := cR (setR r 7 x)) m_m w hw) rfl) ⟨rfl, _, rfl⟩
 ·refine c_region ?_
  refine RL ?_
  refine RLv call_105 (fun w hw => at_fn b3 n w) ?_
  rw [atV_no hno]
  refine RL ?_
  refine l_nil ?_
  refine c_seq ?_
  refine c_seq ?_
  refine c_region ?_
  refine RL ?_
  refine RL ?_
  refine l_nil ?_
  refine c_true rfl ?_
  refine c_seq ?_
  refine c_region ?_
  refine l_l (light_struct rfl rfl rfl rfl) rfl rfl ?_
  refine l_x s_t rfl rfl ?_
  rintro _ _ ⟨rfl, rfl⟩
  refine RL ?_
  refine l_nil ?_
  refine c_ret ?_
  exact l_end0 (fun w hw => rets_cell2 rfl rfl rfl (row_own (b := b6) m_m w hw) rfl) ⟨rfl, _, by rw [setR_no hno]; rfl⟩

theorem both_fn (rb : Nat) (n : Int) (hn : n = 0 ∨ n = 1 ∨ n = 2 ∨ n = 4) (w : World) : Does Tryz.prog 107 [.pointer (some ⟨rb, 0, none⟩), .int .i64 n] w [] (fun v H => H = [] ∧ v = .tuple #[.pointer (some ⟨rb, hiO n, none⟩), .pointer (some ⟨rb, loO n, none⟩)]) := by
 refine does_of Tryz.func107 rfl rfl rfl (St.refl w) ?_
 refine c_seq ?_
 refine c_region ?_
 refine RL ?_
 refine RL ?_
 refine l_nil ?_
 refine c_seq ?_
 refine c_seq ?_
 rcases hn with rfl | rfl | rfl | rfl
 ·refine c_region ?_
  refine RL ?_
  refine RL ?_
  refine l_nil ?_
  refine c_false rfl ?_
  refine c_skip ?_
  refine c_seq ?_
  refine c_region ?_
  refine RL ?_
  refine RL ?_
  refine l_as (l_mul rfl rfl) rfl rfl (by first | exact as_i64 o_m o_m | rfl) ?_
  refine RLv call_105 (fun w hw => at_fn rb (2 * 0) w) ?_
  rw [show atV rb (2 * 0) = Value.pointer (some ⟨rb, 2, none⟩) from rfl]
  refine RL ?_
  refine RL ?_
  refine l_as (l_mul rfl rfl) rfl rfl (by first | exact as_i64 o_m o_m | rfl) ?_
  refine l_as (l_add rfl rfl) rfl rfl (by first | exact as_i64 o_m o_m | rfl) ?_
  refine RLv call_105 (fun w hw => at_fn rb (2 * 0 + 1) w) ?_
  rw [show atV rb (2 * 0 + 1) = Value.pointer (some ⟨rb, 3, none⟩) from rfl]
  refine RL ?_
  refine RL ?_
  refine l_nil ?_
  refine c_ret ?_
  exact l_end0 (fun _ _ => rets_v2 rfl rfl) ⟨rfl, rfl⟩
 ·refine c_region ?_
  refine RL ?_
  refine RL ?_
  refine l_nil ?_
  refine c_false rfl ?_
  refine c_skip ?_
  refine c_seq ?_
  refine c_region ?_
  refine RL ?_
  refine RL ?_
  refine l_as (l_mul rfl rfl) rfl rfl (by first | exact as_i64 o_m o_m | rfl) ?_
  refine RLv call_105 (fun w hw => at_fn rb (2 * 1) w) ?_
  rw [show atV rb (2 * 1) = Value.pointer (some ⟨rb, 4, none⟩) from rfl]
  refine RL ?_
  refine RL ?_
  refine l_as (l_mul rfl rfl) rfl rfl (by first | exact as_i64 o_m o_m | rfl) ?_
  refine l_as (l_add rfl rfl) rfl rfl (by first | exact as_i64 o_m o_m | rfl) ?_
  refine RLv call_105 (fun w hw => at_fn rb (2 * 1 + 1) w) ?_
  rw [show atV rb (2 * 1 + 1) = Value.pointer (some ⟨rb, 5, none⟩) from rfl]
  refine RL ?_
  refine RL ?_
  refine l_nil ?_
  refine c_ret ?_
  exact l_end0 (fun _ _ => rets_v2 rfl rfl) ⟨rfl, rfl⟩
 ·refine c_region ?_
  refine RL ?_
  refine RL ?_
  refine l_nil ?_
  refine c_false rfl ?_
  refine c_skip ?_
  refine c_seq ?_
  refine c_region ?_
  refine RL ?_
  refine RL ?_
  refine l_as (l_mul rfl rfl) rfl rfl (by first | exact as_i64 o_m o_m | rfl) ?_
  refine RLv call_105 (fun w hw => at_fn rb (2 * 2) w) ?_
  rw [show atV rb (2 * 2) = Value.pointer (some ⟨rb, 6, none⟩) from rfl]
  refine RL ?_
  refine RL ?_
  refine l_as (l_mul rfl rfl) rfl rfl (by first | exact as_i64 o_m o_m | rfl) ?_
  refine l_as (l_add rfl rfl) rfl rfl (by first | exact as_i64 o_m o_m | rfl) ?_
  refine RLv call_105 (fun w hw => at_fn rb (2 * 2 + 1) w) ?_
  rw [show atV rb (2 * 2 + 1) = Value.pointer (some ⟨rb, 7, none⟩) from rfl]
  refine RL ?_
  refine RL ?_
  refine l_nil ?_
  refine c_ret ?_
  exact l_end0 (fun _ _ => rets_v2 rfl rfl) ⟨rfl, rfl⟩
 ·refine c_region ?_
  refine RL ?_
  refine RL ?_
  refine l_nil ?_
  refine c_true rfl ?_
  refine c_seq ?_
  refine c_draw _ [] (.step true 0 (.step true 1 (.step true 2 (.step true 3 (.step true 4 (.step true 5 (.step true 6 (.step true 7 .done)))))))) rfl (by kernel_rfl) (by kernel_rfl) (fun _ h => h) ?_
  refine RD ?_
  refine RD ?_
  refine RDa ?_
  refine RD ?_
  refine RD ?_
  refine RDa ?_
  refine RD ?_
  refine RD ?_
  refine d_nil ?_
  refine c_ret ?_
  exact l_end0 (fun _ _ => rets_v2 rfl rfl) ⟨rfl, rfl⟩

theorem pair_fn (r : CR) (hr : r.Ok) (n : Int) (w : World) : Does Tryz.prog 100 [.agg (cR r).toArray, .int .i64 n] w [] (fun v H => H = [] ∧ ∃ k : Int, v = .tuple #[.int .u16 (pairR r n), .int .i64 k]) := by
 have k1 := hr.a
 have k2 := hr.f
 have k3 := hr.b
 have k4 := hr.c
 have k5 := hr.d
 have k6 := hr.e
 have k7 := hr.h
 have k8 := hr.l
 have k9 := hr.sp
 refine does_of Tryz.func100 rfl rfl rfl (St.refl w) ?_
 refine c_seq ?_
 refine c_region ?_
 refine l_x (x_box (l := cR r) rfl rfl) rfl rfl ?_
 rintro _ _ ⟨b2, rfl, rfl⟩
 refine RL ?_
 refine RL ?_
 refine l_nil ?_
 refine c_seq ?_
 refine c_block ?_
 refine c_seq ?_
 refine c_region ?_
 refine RL ?_
 refine RL ?_
 refine RLb (fun h1 => ?_) (fun h1 => ?_)
 ·have h1n := r_f h1
  refine RLp ?_
  refine RLp ?_
  refine RL ?_
  refine RL ?_
  refine l_nil ?_
  refine c_true rfl ?_
  refine c_seq ?_
  refine c_region ?_
  refine RL ?_
  refine RL ?_
  refine l_nil ?_
  refine c_ret ?_
  exact l_end0 (fun _ _ => rets_v2 rfl rfl) ⟨rfl, _, (by rw [pairR_no o_m])⟩
 ·have h1n := r_f h1
  iterate 4 refine RL ?_
  refine l_nil ?_
  refine c_cond rfl (fun h2 => ?_) (fun h2 => ?_)
  ·have h2n := r_f h2
   refine c_seq ?_
   refine c_region ?_
   refine RL ?_
   refine RL ?_
   refine l_nil ?_
   refine c_ret ?_
   exact l_end0 (fun _ _ => rets_v2 rfl rfl) ⟨rfl, _, (by rw [pairR_no o_m])⟩
  ·have h2n := r_f h2
   refine c_seq ?_
   refine c_region ?_
   iterate 3 refine RL ?_
   refine l_nil ?_
   refine c_cond rfl (fun h3 => ?_) (fun h3 => ?_)
   ·have h3n := r_f h3
    refine c_seq ?_
    refine c_region ?_
    refine RLa ?_
    refine RLo ?_
    refine RL ?_
    refine RL ?_
    refine l_nil ?_
    refine c_ret ?_
    obtain rfl : n = 3 := by omega
    exact l_end0 (fun _ _ => rets_v2 rfl rfl) ⟨rfl, _, rfl⟩
   ·have h3n := r_f h3
    refine c_skip ?_
    refine c_seq ?_
    refine c_region ?_
    refine RLa ?_
    refine RLo ?_
    refine l_as (v := (.int .u8 (r.f / 16 * 16))) (l_and rfl rfl) rfl rfl (congrArg _ (hi_16 hr.f)) ?_
    refine RLa ?_
    refine l_x s_t rfl rfl ?_
    rintro _ _ ⟨rfl, rfl⟩
    refine l_nil ?_
    refine c_seq ?_
    rcases (show n = 0 ∨ n = 1 ∨ n = 2 ∨ n = 4 by omega) with rfl | rfl | rfl | rfl
    ·refine c_region ?_
     refine RL ?_
     refine RLv call_107 (fun w hw => both_fn b2 0 (by decide) w) ?_
     rw [show hiO 0 = 2 from rfl, show loO 0 = 3 from rfl]
     iterate 5 refine RL ?_
     refine l_nil ?_
     refine c_seq ?_
     refine c_draw _ [5, 6, 7, 8] (.step true 0 (.step true 1 (.step true 2 (.step true 3 (.step true 4 (.step true 5 (.step true 6 (.step true 7 (.step true 8 (.step true 9 (.step true 10 (.step true 11 .done)))))))))))) rfl (by kernel_rfl) (by kernel_rfl) (fun _ h => h) ?_
     refine RD ?_
     refine RD ?_
     refine RDo ?_
     refine d_as rfl (l_conv rfl rfl rfl) rfl rfl rfl (by first | exact as_u16 o_m o_m | exact as_u16m _) ?_
     refine d_as rfl (shl_pos rfl rfl (by decide)) rfl rfl rfl (by first | exact as_shl 256 (by decide) o_m (show _ < (65536 : Int) by omega) | exact as_shl16 256 (by decide) | rfl) ?_
     refine RD ?_
     refine RD ?_
     refine RDo ?_
     refine d_as rfl (l_conv rfl rfl rfl) rfl rfl rfl (by first | exact as_u16 o_m o_m | exact as_u16m _) ?_
     refine d_as (v := (.int .u16 (r.b * 256 + r.c))) rfl (l_or rfl rfl) rfl rfl rfl (congrArg _ (or_wrd hr.b hr.c)) ?_
     refine RD ?_
     refine RD ?_
     refine d_nil ?_
     refine c_ret ?_
     exact l_end0 (fun _ _ => rets_v2 rfl rfl) ⟨rfl, _, rfl⟩
    ·refine c_region ?_
     refine RL ?_
     refine RLv call_107 (fun w hw => both_fn b2 1 (by decide) w) ?_
     rw [show hiO 1 = 4 from rfl, show loO 1 = 5 from rfl]
     iterate 5 refine RL ?_
     refine l_nil ?_
     refine c_seq ?_
     refine c_draw _ [5, 6, 7, 8] (.step true 0 (.step true 1 (.step true 2 (.step true 3 (.step true 4 (.step true 5 (.step true 6 (.step true 7 (.step true 8 (.step true 9 (.step true 10 (.step true 11 .done)))))))))))) rfl (by kernel_rfl) (by kernel_rfl) (fun _ h => h) ?_
     refine RD ?_
     refine RD ?_
     refine RDo ?_
     refine d_as rfl (l_conv rfl rfl rfl) rfl rfl rfl (by first | exact as_u16 o_m o_m | exact as_u16m _) ?_
     refine d_as rfl (shl_pos rfl rfl (by decide)) rfl rfl rfl (by first | exact as_shl 256 (by decide) o_m (show _ < (65536 : Int) by omega) | exact as_shl16 256 (by decide) | rfl) ?_
     refine RD ?_
     refine RD ?_
     refine RDo ?_
     refine d_as rfl (l_conv rfl rfl rfl) rfl rfl rfl (by first | exact as_u16 o_m o_m | exact as_u16m _) ?_
     refine d_as (v := (.int .u16 (r.d * 256 + r.e))) rfl (l_or rfl rfl) rfl rfl rfl (congrArg _ (or_wrd hr.d hr.e)) ?_
     refine RD ?_
     refine RD ?_
     refine d_nil ?_
     refine c_ret ?_
     exact l_end0 (fun _ _ => rets_v2 rfl rfl) ⟨rfl, _, rfl⟩
    ·refine c_region ?_
     refine RL ?_
     refine RLv call_107 (fun w hw => both_fn b2 2 (by decide) w) ?_
     rw [show hiO 2 = 6 from rfl, show loO 2 = 7 from rfl]
     iterate 5 refine RL ?_
     refine l_nil ?_
     refine c_seq ?_
     refine c_draw _ [5, 6, 7, 8] (.step true 0 (.step true 1 (.step true 2 (.step true 3 (.step true 4 (.step true 5 (.step true 6 (.step true 7 (.step true 8 (.step true 9 (.step true 10 (.step true 11 .done)))))))))))) rfl (by kernel_rfl) (by kernel_rfl) (fun _ h => h) ?_
     refine RD ?_
     refine RD ?_
     refine RDo ?_
     refine d_as rfl (l_conv rfl rfl rfl) rfl rfl rfl (by first | exact as_u16 o_m o_m | exact as_u16m _) ?_
     refine d_as rfl (shl_pos rfl rfl (by decide)) rfl rfl rfl (by first | exact as_shl 256 (by decide) o_m (show _ < (65536 : Int) by omega) | exact as_shl16 256 (by decide) | rfl) ?_
     refine RD ?_
     refine RD ?_
     refine RDo ?_
     refine d_as rfl (l_conv rfl rfl rfl) rfl rfl rfl (by first | exact as_u16 o_m o_m | exact as_u16m _) ?_
     refine d_as (v := (.int .u16 (r.h * 256 + r.l))) rfl (l_or rfl rfl) rfl rfl rfl (congrArg _ (or_wrd hr.h hr.l)) ?_
     refine RD ?_
     refine RD ?_
     refine d_nil ?_
     refine c_ret ?_
     exact l_end0 (fun _ _ => rets_v2 rfl rfl) ⟨rfl, _, rfl⟩
    ·refine c_region ?_
     refine RL ?_
     refine RLv call_107 (fun w hw => both_fn b2 4 (by decide) w) ?_
     rw [show hiO 4 = 0 from rfl, show loO 4 = 1 from rfl]
     iterate 5 refine RL ?_
     refine l_nil ?_
     refine c_seq ?_
     refine c_draw _ [5, 6, 7, 8] (.step true 0 (.step true 1 (.step true 2 (.step true 3 (.step true 4 (.step true 5 (.step true 6 (.step true 7 (.step true 8 (.step true 9 (.step true 10 (.step true 11 .done)))))))))))) rfl (by kernel_rfl) (by kernel_rfl) (fun _ h => h) ?_
     refine RD ?_
     refine RD ?_
     refine RDo ?_
     refine d_as rfl (l_conv rfl rfl rfl) rfl rfl rfl (by first | exact as_u16 o_m o_m | exact as_u16m _) ?_
     refine d_as rfl (shl_pos rfl rfl (by decide)) rfl rfl rfl (by first | exact as_shl 256 (by decide) o_m (show _ < (65536 : Int) by omega) | exact as_shl16 256 (by decide) | rfl) ?_
     refine RD ?_
     refine RD ?_
     refine RDo ?_
     refine d_as rfl (l_conv rfl rfl rfl) rfl rfl rfl (by first | exact as_u16 o_m o_m | exact as_u16m _) ?_
     refine d_as (v := (.int .u16 (r.a * 256 + r.f / 16 * 16))) rfl (l_or rfl rfl) rfl rfl rfl (congrArg _ (or_wrd hr.a o_m)) ?_
     refine RD ?_
     refine RD ?_
     refine d_nil ?_
     refine c_ret ?_
     exact l_end0 (fun _ _ => rets_v2 rfl rfl) ⟨rfl, _, rfl⟩

theorem setPair_fn (r : CR) (n x : Int) (hx : 0 ≤ x ∧ x < 65536) (w : World) : Does Tryz.prog 99 [.agg (cR r).toArray, .int .i64 n, .int .u16 x] w [] (fun v H => H = [] ∧ ∃ k : Int, v = .tuple #[.agg (cR (setPR r n x)).toArray, .int .i64 k]) := by
 refine does_of Tryz.func99 rfl rfl rfl (St.refl w) ?_
 refine c_seq ?_
 refine c_region ?_
 refine l_x (x_box (l := cR r) rfl rfl) rfl rfl ?_
 rintro _ _ ⟨b3, rfl, rfl⟩
 refine l_x (x_alloc rfl) rfl rfl ?_
 rintro _ _ ⟨b6, rfl, rfl⟩
 refine RL ?_
 refine l_nil ?_
 refine c_seq ?_
 refine c_block ?_
 refine c_seq ?_
 refine c_region ?_
 refine RL ?_
 refine RL ?_
 refine RLb (fun h1 => ?_) (fun h1 => ?_)
 ·have h1n := r_f h1
  refine RLp ?_
  refine RLp ?_
  refine RL ?_
  refine RL ?_
  refine l_nil ?_
  refine c_true rfl ?_
  refine c_seq ?_
  refine c_region ?_
  refine l_l (light_struct rfl rfl rfl rfl) rfl rfl ?_
  refine l_x s_t rfl rfl ?_
  rintro _ _ ⟨rfl, rfl⟩
  refine RL ?_
  refine l_nil ?_
  refine c_ret ?_
  exact l_end0 (fun w hw => rets_cell2 rfl rfl rfl (row_own (b := b6) m_m w hw) rfl) ⟨rfl, _, by rw [setPR_no o_m]; rfl⟩
 ·have h1n := r_f h1
  iterate 4 refine RL ?_
  refine l_nil ?_
  refine c_cond rfl (fun h2 => ?_) (fun h2 => ?_)
  ·have h2n := r_f h2
   refine c_seq ?_
   refine c_region ?_
   refine l_l (light_struct rfl rfl rfl rfl) rfl rfl ?_
   refine l_x s_t rfl rfl ?_
   rintro _ _ ⟨rfl, rfl⟩
   refine RL ?_
   refine l_nil ?_
   refine c_ret ?_
   exact l_end0 (fun w hw => rets_cell2 rfl rfl rfl (row_own (b := b6) m_m w hw) rfl) ⟨rfl, _, by rw [setPR_no o_m]; rfl⟩
  ·have h2n := r_f h2
   refine c_seq ?_
   refine c_region ?_
   iterate 3 refine RL ?_
   refine l_nil ?_
   refine c_cond rfl (fun h3 => ?_) (fun h3 => ?_)
   ·have h3n := r_f h3
    refine c_seq ?_
    refine c_region ?_
    refine RL ?_
    refine RLa ?_
    refine l_x s_t rfl rfl ?_
    rintro _ _ ⟨rfl, rfl⟩
    refine l_nil ?_
    refine c_seq ?_
    refine c_region ?_
    refine l_x (x_loadA rfl rfl rfl (by first | exact row_own m_m | exact row_own_at m_m _ 10 rfl)) rfl rfl ?_
    rintro _ _ ⟨rfl, rfl⟩
    refine l_x s_t rfl rfl ?_
    rintro _ _ ⟨rfl, rfl⟩
    refine RL ?_
    refine l_nil ?_
    refine c_ret ?_
    obtain rfl : n = 3 := by omega
    exact l_end0 (fun w hw => rets_cell2 rfl rfl rfl (row_own (b := b6) (l := cR (setPR r 3 x)) m_m w hw) rfl) ⟨rfl, _, rfl⟩
   ·have h3n := r_f h3
    refine c_seq ?_
    refine c_region ?_
    iterate 3 refine RL ?_
    refine l_nil ?_
    refine c_cond rfl (fun h4 => ?_) (fun h4 => ?_)
    ·have h4n := r_f h4
     refine c_region ?_
     refine RL ?_
     refine l_as (v := (.int .u16 (x / 16 * 16))) (l_andn rfl rfl) rfl rfl (congrArg _ (clr_15 hx)) ?_
     refine RL ?_
     refine l_nil ?_
     refine c_seq ?_
     obtain rfl : n = 4 := by omega
     ·refine c_region ?_
      refine RL ?_
      refine RLv call_107 (fun w hw => both_fn b3 4 (by decide) w) ?_
      rw [show hiO 4 = 0 from rfl, show loO 4 = 1 from rfl]
      iterate 5 refine RL ?_
      refine l_nil ?_
      refine c_seq ?_
      refine c_region ?_
      iterate 3 refine RL ?_
      refine l_as (shr_pos rfl rfl (by decide)) rfl rfl (as_shr 256 (by decide) (by decide)) ?_
      refine l_as (v := (.int .u8 (x / 256))) (l_conv rfl rfl rfl) rfl rfl (congrArg _ ((wrap_u8 _).trans o_m)) ?_
      refine RL ?_
      refine l_as (v := (.int .u8 (x % 256 / 16 * 16))) (l_conv rfl rfl rfl) rfl rfl (congrArg _ ((wrap_u8 _).trans o_m)) ?_
      refine RL ?_
      refine l_x s_t rfl rfl ?_
      rintro _ _ ⟨rfl, rfl⟩
      refine RL ?_
      refine l_x s_t rfl rfl ?_
      rintro _ _ ⟨rfl, rfl⟩
      refine l_nil ?_
      refine c_seq ?_
      refine c_region ?_
      refine l_x (x_loadA rfl rfl rfl (by first | exact row_own m_m | exact row_own_at m_m _ 10 rfl)) rfl rfl ?_
      rintro _ _ ⟨rfl, rfl⟩
      refine l_x s_t rfl rfl ?_
      rintro _ _ ⟨rfl, rfl⟩
      refine RL ?_
      refine l_nil ?_
      refine c_ret ?_
      exact l_end0 (fun w hw => rets_cell2 rfl rfl rfl (row_own (b := b6) (l := cR (setPR r 4 x)) m_m w hw) rfl) ⟨rfl, _, rfl⟩
    ·have h4n := r_f h4
     refine c_skip ?_
     refine c_seq ?_
     rcases (show n = 0 ∨ n = 1 ∨ n = 2 by omega) with rfl | rfl | rfl
     ·refine c_region ?_
      refine RL ?_
      refine RLv call_107 (fun w hw => both_fn b3 0 (by decide) w) ?_
      rw [show hiO 0 = 2 from rfl, show loO 0 = 3 from rfl]
      iterate 5 refine RL ?_
      refine l_nil ?_
      refine c_seq ?_
      refine c_region ?_
      iterate 3 refine RL ?_
      refine l_as (shr_pos rfl rfl (by decide)) rfl rfl (as_shr 256 (by decide) (by decide)) ?_
      refine l_as (v := (.int .u8 (x / 256))) (l_conv rfl rfl rfl) rfl rfl (congrArg _ ((wrap_u8 _).trans o_m)) ?_
      refine RL ?_
      refine l_as (v := (.int .u8 (x % 256))) (l_conv rfl rfl rfl) rfl rfl (congrArg _ ((wrap_u8 _).trans o_m)) ?_
      refine RL ?_
      refine l_x s_t rfl rfl ?_
      rintro _ _ ⟨rfl, rfl⟩
      refine RL ?_
      refine l_x s_t rfl rfl ?_
      rintro _ _ ⟨rfl, rfl⟩
      refine l_nil ?_
      refine c_seq ?_
      refine c_region ?_
      refine l_x (x_loadA rfl rfl rfl (by first | exact row_own m_m | exact row_own_at m_m _ 10 rfl)) rfl rfl ?_
      rintro _ _ ⟨rfl, rfl⟩
      refine l_x s_t rfl rfl ?_
      rintro _ _ ⟨rfl, rfl⟩
      refine RL ?_
      refine l_nil ?_
      refine c_ret ?_
      exact l_end0 (fun w hw => rets_cell2 rfl rfl rfl (row_own (b := b6) (l := cR (setPR r 0 x)) m_m w hw) rfl) ⟨rfl, _, rfl⟩
     ·refine c_region ?_
      refine RL ?_
      refine RLv call_107 (fun w hw => both_fn b3 1 (by decide) w) ?_
      rw [show hiO 1 = 4 from rfl, show loO 1 = 5 from rfl]
      iterate 5 refine RL ?_
      refine l_nil ?_
      refine c_seq ?_
      refine c_region ?_
      iterate 3 refine RL ?_
      refine l_as (shr_pos rfl rfl (by decide)) rfl rfl (as_shr 256 (by decide) (by decide)) ?_
      refine l_as (v := (.int .u8 (x / 256))) (l_conv rfl rfl rfl) rfl rfl (congrArg _ ((wrap_u8 _).trans o_m)) ?_
      refine RL ?_
      refine l_as (v := (.int .u8 (x % 256))) (l_conv rfl rfl rfl) rfl rfl (congrArg _ ((wrap_u8 _).trans o_m)) ?_
      refine RL ?_
      refine l_x s_t rfl rfl ?_
      rintro _ _ ⟨rfl, rfl⟩
      refine RL ?_
      refine l_x s_t rfl rfl ?_
      rintro _ _ ⟨rfl, rfl⟩
      refine l_nil ?_
      refine c_seq ?_
      refine c_region ?_
      refine l_x (x_loadA rfl rfl rfl (by first | exact row_own m_m | exact row_own_at m_m _ 10 rfl)) rfl rfl ?_
      rintro _ _ ⟨rfl, rfl⟩
      refine l_x s_t rfl rfl ?_
      rintro _ _ ⟨rfl, rfl⟩
      refine RL ?_
      refine l_nil ?_
      refine c_ret ?_
      exact l_end0 (fun w hw => rets_cell2 rfl rfl rfl (row_own (b := b6) (l := cR (setPR r 1 x)) m_m w hw) rfl) ⟨rfl, _, rfl⟩
     ·refine c_region ?_
      refine RL ?_
      refine RLv call_107 (fun w hw => both_fn b3 2 (by decide) w) ?_
      rw [show hiO 2 = 6 from rfl, show loO 2 = 7 from rfl]
      iterate 5 refine RL ?_
      refine l_nil ?_
      refine c_seq ?_
      refine c_region ?_
      iterate 3 refine RL ?_
      refine l_as (shr_pos rfl rfl (by decide)) rfl rfl (as_shr 256 (by decide) (by decide)) ?_
      refine l_as (v := (.int .u8 (x / 256))) (l_conv rfl rfl rfl) rfl rfl (congrArg _ ((wrap_u8 _).trans o_m)) ?_
      refine RL ?_
      refine l_as (v := (.int .u8 (x % 256))) (l_conv rfl rfl rfl) rfl rfl (congrArg _ ((wrap_u8 _).trans o_m)) ?_
      refine RL ?_
      refine l_x s_t rfl rfl ?_
      rintro _ _ ⟨rfl, rfl⟩
      refine RL ?_
      refine l_x s_t rfl rfl ?_
      rintro _ _ ⟨rfl, rfl⟩
      refine l_nil ?_
      refine c_seq ?_
      refine c_region ?_
      refine l_x (x_loadA rfl rfl rfl (by first | exact row_own m_m | exact row_own_at m_m _ 10 rfl)) rfl rfl ?_
      rintro _ _ ⟨rfl, rfl⟩
      refine l_x s_t rfl rfl ?_
      rintro _ _ ⟨rfl, rfl⟩
      refine RL ?_
      refine l_nil ?_
      refine c_ret ?_
      exact l_end0 (fun w hw => rets_cell2 rfl rfl rfl (row_own (b := b6) (l := cR (setPR r 2 x)) m_m w hw) rfl) ⟨rfl, _, rfl⟩

theorem is_fn (r : CR) (hr : r.Ok) (n : Int) (w : World) : Does Tryz.prog 71 [.agg (cR r).toArray, .int .i64 n] w [] (fun v H => H = [] ∧ v = .bool (isR r n)) := by
 refine does_of Tryz.func71 rfl rfl rfl (St.refl w) ?_
 refine c_seq ?_
 refine c_region ?_
 refine l_x (x_box (l := cR r) rfl rfl) rfl rfl ?_
 rintro _ _ ⟨b2, rfl, rfl⟩
 refine RL ?_
 refine l_nil ?_
 refine c_seq ?_
 refine c_seq ?_
 refine c_region ?_
 refine RL ?_
 refine l_nil ?_
 refine c_block ?_
 refine c_seq ?_
 refine c_seq ?_
 refine c_region ?_
 refine RL ?_
 refine RL ?_
 refine l_nil ?_
 refine c_cond rfl (fun h1 => ?_) (fun h1 => ?_)
 ·have h1n := r_f h1
  refine c_skip ?_
  refine c_sure true rfl h1 ?_
  refine c_seq ?_
  refine c_region ?_
  refine RLa ?_
  refine RLo ?_
  refine l_as (v := (.int .u8 (band .u8 r.f 128))) rfl rfl rfl rfl ?_
  refine l_as (v := (.bool (zF r.f))) rfl rfl rfl (congrArg _ (ne_zF hr.f)) ?_
  refine RL ?_
  refine RL ?_
  refine l_l (light_eqb rfl rfl rfl) rfl rfl ?_
  refine RL ?_
  refine l_nil ?_
  refine c_ret ?_
  exact l_end0 (fun _ _ => rets_v rfl) ⟨rfl, (congrArg Value.bool (isR_01 o_m r))⟩
 ·have h1n := r_f h1
  refine c_region ?_
  refine RL ?_
  refine RL ?_
  refine l_nil ?_
  refine c_cond rfl (fun h2 => ?_) (fun h2 => ?_)
  ·have h2n := r_f h2
   refine c_seq ?_
   refine c_region ?_
   refine RLa ?_
   refine RLo ?_
   refine l_as (v := (.int .u8 (band .u8 r.f 128))) rfl rfl rfl rfl ?_
   refine l_as (v := (.bool (zF r.f))) rfl rfl rfl (congrArg _ (ne_zF hr.f)) ?_
   refine RL ?_
   refine RL ?_
   refine l_l (light_eqb rfl rfl rfl) rfl rfl ?_
   refine RL ?_
   refine l_nil ?_
   refine c_ret ?_
   exact l_end0 (fun _ _ => rets_v rfl) ⟨rfl, (congrArg Value.bool (isR_01 o_m r))⟩
  ·have h2n := r_f h2
   refine c_seq ?_
   refine c_seq ?_
   refine c_region ?_
   refine RL ?_
   refine RL ?_
   refine l_nil ?_
   refine c_cond rfl (fun h3 => ?_) (fun h3 => ?_)
   ·have h3n := r_f h3
    refine c_skip ?_
    refine c_sure true rfl h3 ?_
    refine c_seq ?_
    refine c_region ?_
    refine RLa ?_
    refine RLo ?_
    refine l_as (v := (.int .u8 (band .u8 r.f 16))) rfl rfl rfl rfl ?_
    refine l_as (v := (.bool (cF r.f))) rfl rfl rfl (congrArg _ (ne_cF hr.f)) ?_
    refine RL ?_
    refine RL ?_
    refine l_l (light_eqb rfl rfl rfl) rfl rfl ?_
    refine RL ?_
    refine l_nil ?_
    refine c_ret ?_
    exact l_end0 (fun _ _ => rets_v rfl) ⟨rfl, (congrArg Value.bool (isR_23 o_m r))⟩
   ·have h3n := r_f h3
    refine c_region ?_
    refine RL ?_
    refine RL ?_
    refine l_nil ?_
    refine c_cond rfl (fun h4 => ?_) (fun h4 => ?_)
    ·have h4n := r_f h4
     refine c_seq ?_
     refine c_region ?_
     refine RLa ?_
     refine RLo ?_
     refine l_as (v := (.int .u8 (band .u8 r.f 16))) rfl rfl rfl rfl ?_
     refine l_as (v := (.bool (cF r.f))) rfl rfl rfl (congrArg _ (ne_cF hr.f)) ?_
     refine RL ?_
     refine RL ?_
     refine l_l (light_eqb rfl rfl rfl) rfl rfl ?_
     refine RL ?_
     refine l_nil ?_
     refine c_ret ?_
     exact l_end0 (fun _ _ => rets_v rfl) ⟨rfl, (congrArg Value.bool (isR_23 o_m r))⟩
    ·have h4n := r_f h4
     refine c_skip ?_
     refine c_seq ?_
     refine c_region ?_
     iterate 3 refine RL ?_
     refine l_nil ?_
     refine c_ret ?_
     exact l_end0 (fun _ _ => rets_v rfl) ⟨rfl, (congrArg Value.bool (isR_4 o_m o_m o_m o_m r))⟩

end Go.Proofs.YtjjemehigdpboaaGreat
namespace Go.Proofs.YtjjemehigdpboaaGreat
open Go Go.VV Go.Proofs
set_option linter.unusedSimpArgs false
set_option linter.unusedVariables false
set_option maxRecDepth 100000
theorem flag_fn (x : Int) (b : Bool) (w : World) : Does Tryz.prog 97 [.int .u8 x, .bool b] w [] (fun v H => H = [] ∧ v = .int .u8 (fg x b)) := by
 refine does_of Tryz.func97 rfl rfl rfl (St.refl w) ?_
 refine c_seq ?_
 refine c_region ?_
 refine RL ?_
 refine l_nil ?_
 refine c_seq ?_
 refine c_seq ?_
 refine c_region ?_
 refine RL ?_
 refine l_nil ?_
 refine c_cond rfl (fun h1 => ?_) (fun h1 => ?_)
 ·have h1n := r_f h1
  refine c_seq ?_
  refine c_region ?_
  refine RL ?_
  refine RL ?_
  refine l_nil ?_
  refine c_ret ?_
  exact l_end0 (fun _ _ => rets_v rfl) ⟨rfl, (by rw [show b = true from h1]; rfl)⟩
 ·have h1n := r_f h1
  refine c_skip ?_
  refine c_seq ?_
  refine c_region ?_
  refine RL ?_
  refine l_nil ?_
  refine c_ret ?_
  exact l_end0 (fun _ _ => rets_v rfl) ⟨rfl, (by rw [show b = false from h1]; rfl)⟩

theorem zero_fn (x : Int) (w : World) : Does Tryz.prog 96 [.int .u8 x] w [] (fun v H => H = [] ∧ v = .int .u8 (fg 128 (x == 0))) := by
 refine does_of Tryz.func96 rfl rfl rfl (St.refl w) ?_
 refine c_seq ?_
 refine c_region ?_
 refine RL ?_
 refine l_nil ?_
 refine c_seq ?_
 refine c_region ?_
 refine RL ?_
 refine RL ?_
 refine RLv call_97 (fun w hw => flag_fn 128 _ w) ?_
 refine RL ?_
 refine l_nil ?_
 refine c_ret ?_
 exact l_end0 (fun _ _ => rets_v rfl) ⟨rfl, rfl⟩

theorem one_fn (b : Bool) (w : World) : Does Tryz.prog 106 [.bool b] w [] (fun v H => H = [] ∧ v = .int .u8 (b2i b)) := by
 refine does_of Tryz.func106 rfl rfl rfl (St.refl w) ?_
 refine c_seq ?_
 refine c_region ?_
 refine RL ?_
 refine l_nil ?_
 refine c_seq ?_
 refine c_region ?_
 refine RL ?_
 refine RLv call_97 (fun w hw => flag_fn 1 _ w) ?_
 refine RL ?_
 refine l_nil ?_
 refine c_ret ?_
 exact l_end0 (fun _ _ => rets_v rfl) ⟨rfl, rfl⟩

theorem add_fn (a b : Int) (c : Bool) (ha : 0 ≤ a ∧ a < 256) (hb : 0 ≤ b ∧ b < 256) (w : World) : Does Tryz.prog 91 [.int .u8 a, .int .u8 b, .bool c] w [] (fun v H => H = [] ∧ v = .tuple #[.int .u8 (addR a b c), .int .u8 (addF a b c)]) := by
 have hc := b2i_le c
 refine does_of Tryz.func91 rfl rfl rfl (St.refl w) ?_
 refine c_seq ?_
 refine c_region ?_
 refine RL ?_
 refine RL ?_
 refine l_nil ?_
 refine c_seq ?_
 refine c_region ?_
 refine RL ?_
 refine RLv call_106 (fun w hw => one_fn c w) ?_
 refine RL ?_
 refine l_nil ?_
 refine c_seq ?_
 refine c_region ?_
 refine RL ?_
 refine RL ?_
 refine l_as (l_add rfl rfl) rfl rfl (by first | exact as_u8 o_m o_m | exact as_u8m _) ?_
 refine RL ?_
 refine l_as (l_add rfl rfl) rfl rfl (by first | exact as_u8 o_m o_m | exact as_u8m _) ?_
 refine RL ?_
 refine l_nil ?_
 refine c_seq ?_
 refine c_region ?_
 refine RL ?_
 refine RL ?_
 refine RLv call_96 (fun w hw => zero_fn _ w) ?_
 refine RL ?_
 refine l_as (l_and rfl rfl) rfl rfl (by first | exact as_mask 4 16 (by decide) rfl o_m (show _ < (256 : Int) by omega) (show _ < (256 : Int) by decide) | rfl) ?_
 refine RL ?_
 refine l_as (l_and rfl rfl) rfl rfl (by first | exact as_mask 4 16 (by decide) rfl o_m (show _ < (256 : Int) by omega) (show _ < (256 : Int) by decide) | rfl) ?_
 refine l_as (l_add rfl rfl) rfl rfl (by first | exact as_u8 o_m o_m | exact as_u8m _) ?_
 refine RL ?_
 refine l_as (l_add rfl rfl) rfl rfl (by first | exact as_u8 o_m o_m | exact as_u8m _) ?_
 refine RL ?_
 refine RLv call_97 (fun w hw => flag_fn 32 _ w) ?_
 refine l_as (l_or rfl rfl) rfl rfl rfl ?_
 refine RL ?_
 refine l_as (l_conv rfl rfl rfl) rfl rfl (by first | exact as_i64 o_m o_m | rfl) ?_
 refine RL ?_
 refine l_as (l_conv rfl rfl rfl) rfl rfl (by first | exact as_i64 o_m o_m | rfl) ?_
 refine l_as (l_add rfl rfl) rfl rfl (by first | exact as_i64 o_m o_m | rfl) ?_
 refine RL ?_
 refine l_as (l_conv rfl rfl rfl) rfl rfl (by first | exact as_i64 o_m o_m | rfl) ?_
 refine l_as (l_add rfl rfl) rfl rfl (by first | exact as_i64 o_m o_m | rfl) ?_
 refine RL ?_
 refine RLv call_97 (fun w hw => flag_fn 16 _ w) ?_
 refine l_as (l_or rfl rfl) rfl rfl rfl ?_
 refine RL ?_
 refine RL ?_
 refine l_nil ?_
 refine c_ret ?_
 have e1 : ((a + b) % 256 + b2i c) % 256 = addR a b c := by unfold addR; omega
 rw [e1, or_zhc]
 exact l_end0 (fun _ _ => rets_two rfl rfl) ⟨rfl, rfl⟩

theorem sub_fn (a b : Int) (c : Bool) (ha : 0 ≤ a ∧ a < 256) (hb : 0 ≤ b ∧ b < 256) (w : World) : Does Tryz.prog 92 [.int .u8 a, .int .u8 b, .bool c] w [] (fun v H => H = [] ∧ v = .tuple #[.int .u8 (subR a b c), .int .u8 (subF a b c)]) := by
 have hc := b2i_le c
 refine does_of Tryz.func92 rfl rfl rfl (St.refl w) ?_
 refine c_seq ?_
 refine c_region ?_
 refine RL ?_
 refine RL ?_
 refine l_nil ?_
 refine c_seq ?_
 refine c_region ?_
 refine RL ?_
 refine RLv call_106 (fun w hw => one_fn c w) ?_
 refine RL ?_
 refine l_nil ?_
 refine c_seq ?_
 refine c_region ?_
 refine RL ?_
 refine RL ?_
 refine l_as (l_sub rfl rfl) rfl rfl (by first | exact as_u8 o_m o_m | exact as_u8m _) ?_
 refine RL ?_
 refine l_as (l_sub rfl rfl) rfl rfl (by first | exact as_u8 o_m o_m | exact as_u8m _) ?_
 refine RL ?_
 refine l_nil ?_
 refine c_seq ?_
 refine c_region ?_
 refine RL ?_
 refine RL ?_
 refine RLv call_96 (fun w hw => zero_fn _ w) ?_
 refine l_as (l_or rfl rfl) rfl rfl rfl ?_
 refine RL ?_
 refine l_as (l_and rfl rfl) rfl rfl (by first | exact as_mask 4 16 (by decide) rfl o_m (show _ < (256 : Int) by omega) (show _ < (256 : Int) by decide) | rfl) ?_
 refine RL ?_
 refine l_as (l_and rfl rfl) rfl rfl (by first | exact as_mask 4 16 (by decide) rfl o_m (show _ < (256 : Int) by omega) (show _ < (256 : Int) by decide) | rfl) ?_
 refine RL ?_
 refine l_as (l_add rfl rfl) rfl rfl (by first | exact as_u8 o_m o_m | exact as_u8m _) ?_
 refine RL ?_
 refine RLv call_97 (fun w hw => flag_fn 32 _ w) ?_
 refine l_as (l_or rfl rfl) rfl rfl rfl ?_
 refine RL ?_
 refine l_as (l_conv rfl rfl rfl) rfl rfl (by first | exact as_i64 o_m o_m | rfl) ?_
 refine RL ?_
 refine l_as (l_conv rfl rfl rfl) rfl rfl (by first | exact as_i64 o_m o_m | rfl) ?_
 refine RL ?_
 refine l_as (l_conv rfl rfl rfl) rfl rfl (by first | exact as_i64 o_m o_m | rfl) ?_
 refine l_as (l_add rfl rfl) rfl rfl (by first | exact as_i64 o_m o_m | rfl) ?_
 refine RL ?_
 refine RLv call_97 (fun w hw => flag_fn 16 _ w) ?_
 refine l_as (l_or rfl rfl) rfl rfl rfl ?_
 refine RL ?_
 refine RL ?_
 refine l_nil ?_
 refine c_ret ?_
 have e1 : ((a - b) % 256 - b2i c) % 256 = subR a b c := by unfold subR; omega
 rw [e1, or_znhc]
 exact l_end0 (fun _ _ => rets_two rfl rfl) ⟨rfl, rfl⟩

theorem and_fn (a b : Int) (ha : 0 ≤ a ∧ a < 256) (hb : 0 ≤ b ∧ b < 256) (w : World) : Does Tryz.prog 93 [.int .u8 a, .int .u8 b] w [] (fun v H => H = [] ∧ v = .tuple #[.int .u8 (band .u8 a b), .int .u8 (logF 0 (band .u8 a b))]) := by
 refine does_of Tryz.func93 rfl rfl rfl (St.refl w) ?_
 refine c_seq ?_
 refine c_region ?_
 refine RL ?_
 refine RL ?_
 refine l_nil ?_
 refine c_seq ?_
 refine c_region ?_
 refine RL ?_
 refine RL ?_
 refine l_as (l_and rfl rfl) rfl rfl rfl ?_
 refine RL ?_
 refine RL ?_
 refine l_as (l_and rfl rfl) rfl rfl rfl ?_
 refine RLv call_96 (fun w hw => zero_fn _ w) ?_
 refine l_as (l_or rfl rfl) rfl rfl rfl ?_
 refine RL ?_
 refine RL ?_
 refine l_nil ?_
 refine c_ret ?_
 rw [or_zh]
 exact l_end0 (fun _ _ => rets_two rfl rfl) ⟨rfl, rfl⟩

theorem or_fn (a b : Int) (ha : 0 ≤ a ∧ a < 256) (hb : 0 ≤ b ∧ b < 256) (w : World) : Does Tryz.prog 95 [.int .u8 a, .int .u8 b] w [] (fun v H => H = [] ∧ v = .tuple #[.int .u8 (bor .u8 a b), .int .u8 (logF 1 (bor .u8 a b))]) := by
 refine does_of Tryz.func95 rfl rfl rfl (St.refl w) ?_
 refine c_seq ?_
 refine c_region ?_
 refine RL ?_
 refine RL ?_
 refine l_nil ?_
 refine c_seq ?_
 refine c_region ?_
 refine RL ?_
 refine RL ?_
 refine l_as (l_or rfl rfl) rfl rfl rfl ?_
 refine RL ?_
 refine RL ?_
 refine l_as (l_or rfl rfl) rfl rfl rfl ?_
 refine RLv call_96 (fun w hw => zero_fn _ w) ?_
 refine RL ?_
 refine RL ?_
 refine l_nil ?_
 refine c_ret ?_
 rw [or_z]
 exact l_end0 (fun _ _ => rets_two rfl rfl) ⟨rfl, rfl⟩

theorem xor_fn (a b : Int) (ha : 0 ≤ a ∧ a < 256) (hb : 0 ≤ b ∧ b < 256) (w : World) : Does Tryz.prog 94 [.int .u8 a, .int .u8 b] w [] (fun v H => H = [] ∧ v = .tuple #[.int .u8 (bxor .u8 a b), .int .u8 (logF 2 (bxor .u8 a b))]) := by
 refine does_of Tryz.func94 rfl rfl rfl (St.refl w) ?_
 refine c_seq ?_
 refine c_region ?_
 refine RL ?_
 refine RL ?_
 refine l_nil ?_
 refine c_seq ?_
 refine c_region ?_
 refine RL ?_
 refine RL ?_
 refine l_as (l_xor rfl rfl) rfl rfl rfl ?_
 refine RL ?_
 refine RL ?_
 refine l_as (l_xor rfl rfl) rfl rfl rfl ?_
 refine RLv call_96 (fun w hw => zero_fn _ w) ?_
 refine RL ?_
 refine RL ?_
 refine l_nil ?_
 refine c_ret ?_
 rw [or_z]
 exact l_end0 (fun _ _ => rets_two rfl rfl) ⟨rfl, rfl⟩

theorem inc_fn (a f : Int) (ha : 0 ≤ a ∧ a < 256) (hf : 0 ≤ f ∧ f < 256) (w : World) : Does Tryz.prog 59 [.int .u8 a, .int .u8 f] w [] (fun v H => H = [] ∧ v = .tuple #[.int .u8 (incR a), .int .u8 (incF a f)]) := by
 refine does_of Tryz.func59 rfl rfl rfl (St.refl w) ?_
 refine c_seq ?_
 refine c_region ?_
 refine RL ?_
 refine RL ?_
 refine l_nil ?_
 refine c_seq ?_
 refine c_region ?_
 refine RL ?_
 refine l_as (l_add rfl rfl) rfl rfl (by first | exact as_u8 o_m o_m | exact as_u8m _) ?_
 refine RL ?_
 refine l_nil ?_
 refine c_seq ?_
 refine c_region ?_
 refine RL ?_
 refine RL ?_
 refine RLv call_96 (fun w hw => zero_fn _ w) ?_
 refine RL ?_
 refine l_as (l_and rfl rfl) rfl rfl (by first | exact as_mask 4 16 (by decide) rfl o_m (show _ < (256 : Int) by omega) (show _ < (256 : Int) by decide) | rfl) ?_
 refine RL ?_
 refine RLv call_97 (fun w hw => flag_fn 32 _ w) ?_
 refine l_as (l_or rfl rfl) rfl rfl rfl ?_
 refine RL ?_
 refine l_as (l_and rfl rfl) rfl rfl (by first | exact as_bit 4 (by decide) o_m (show _ < (256 : Int) by omega) (show _ < (256 : Int) by decide) | rfl) ?_
 refine l_as (l_or rfl rfl) rfl rfl rfl ?_
 refine RL ?_
 refine RL ?_
 refine l_nil ?_
 refine c_ret ?_
 rw [cF_fg, or_zhc]
 exact l_end0 (fun _ _ => rets_two rfl rfl) ⟨rfl, rfl⟩

theorem dec_fn (a f : Int) (ha : 0 ≤ a ∧ a < 256) (hf : 0 ≤ f ∧ f < 256) (w : World) : Does Tryz.prog 60 [.int .u8 a, .int .u8 f] w [] (fun v H => H = [] ∧ v = .tuple #[.int .u8 (decR a), .int .u8 (decF a f)]) := by
 refine does_of Tryz.func60 rfl rfl rfl (St.refl w) ?_
 refine c_seq ?_
 refine c_region ?_
 refine RL ?_
 refine RL ?_
 refine l_nil ?_
 refine c_seq ?_
 refine c_region ?_
 refine RL ?_
 refine l_as (l_sub rfl rfl) rfl rfl (by first | exact as_u8 o_m o_m | exact as_u8m _) ?_
 refine RL ?_
 refine l_nil ?_
 refine c_seq ?_
 refine c_region ?_
 refine RL ?_
 refine RL ?_
 refine RLv call_96 (fun w hw => zero_fn _ w) ?_
 refine l_as (l_or rfl rfl) rfl rfl rfl ?_
 refine RL ?_
 refine l_as (l_and rfl rfl) rfl rfl (by first | exact as_mask 4 16 (by decide) rfl o_m (show _ < (256 : Int) by omega) (show _ < (256 : Int) by decide) | rfl) ?_
 refine RL ?_
 refine RLv call_97 (fun w hw => flag_fn 32 _ w) ?_
 refine l_as (l_or rfl rfl) rfl rfl rfl ?_
 refine RL ?_
 refine l_as (l_and rfl rfl) rfl rfl (by first | exact as_bit 4 (by decide) o_m (show _ < (256 : Int) by omega) (show _ < (256 : Int) by decide) | rfl) ?_
 refine l_as (l_or rfl rfl) rfl rfl rfl ?_
 refine RL ?_
 refine RL ?_
 refine l_nil ?_
 refine c_ret ?_
 rw [cF_fg, or_znhc]
 exact l_end0 (fun _ _ => rets_two rfl rfl) ⟨rfl, rfl⟩

theorem add16_fn (a b f : Int) (ha : 0 ≤ a ∧ a < 65536) (hb : 0 ≤ b ∧ b < 65536) (hf : 0 ≤ f ∧ f < 256) (w : World) : Does Tryz.prog 67 [.int .u16 a, .int .u16 b, .int .u8 f] w [] (fun v H => H = [] ∧ v = .tuple #[.int .u16 (add16R a b), .int .u8 (add16F a b f)]) := by
 refine does_of Tryz.func67 rfl rfl rfl (St.refl w) ?_
 refine c_seq ?_
 refine c_region ?_
 refine RL ?_
 refine RL ?_
 refine l_nil ?_
 refine c_seq ?_
 refine c_region ?_
 refine RL ?_
 refine RL ?_
 refine l_as (l_add rfl rfl) rfl rfl (by first | exact as_u16 o_m o_m | exact as_u16m _) ?_
 refine RL ?_
 refine l_as (l_and rfl rfl) rfl rfl (by first | exact as_bit 7 (by decide) o_m (show _ < (256 : Int) by omega) (show _ < (256 : Int) by decide) | rfl) ?_
 refine RL ?_
 refine l_as (l_and rfl rfl) rfl rfl (by first | exact as_mask 12 4096 (by decide) rfl o_m (show _ < (65536 : Int) by omega) (show _ < (65536 : Int) by decide) | rfl) ?_
 refine RL ?_
 refine l_as (l_and rfl rfl) rfl rfl (by first | exact as_mask 12 4096 (by decide) rfl o_m (show _ < (65536 : Int) by omega) (show _ < (65536 : Int) by decide) | rfl) ?_
 refine l_as (l_add rfl rfl) rfl rfl (by first | exact as_u16 o_m o_m | exact as_u16m _) ?_
 refine RL ?_
 refine RLv call_97 (fun w hw => flag_fn 32 _ w) ?_
 refine l_as (l_or rfl rfl) rfl rfl rfl ?_
 refine RL ?_
 refine l_as (l_conv rfl rfl rfl) rfl rfl (by first | exact as_i64 o_m o_m | rfl) ?_
 refine RL ?_
 refine l_as (l_conv rfl rfl rfl) rfl rfl (by first | exact as_i64 o_m o_m | rfl) ?_
 refine l_as (l_add rfl rfl) rfl rfl (by first | exact as_i64 o_m o_m | rfl) ?_
 refine RL ?_
 refine RLv call_97 (fun w hw => flag_fn 16 _ w) ?_
 refine l_as (l_or rfl rfl) rfl rfl rfl ?_
 refine RL ?_
 refine RL ?_
 refine l_nil ?_
 refine c_ret ?_
 rw [zF_fg hf, or_Zhc]
 exact l_end0 (fun _ _ => rets_two rfl rfl) ⟨rfl, rfl⟩

theorem shift_fn (a e : Int) (ha : 0 ≤ a ∧ a < 65536) (he : 0 ≤ e ∧ e < 256) (w : World) : Does Tryz.prog 68 [.int .u16 a, .int .u8 e] w [] (fun v H => H = [] ∧ v = .tuple #[.int .u16 (shR a e), .int .u8 (shF a e)]) := by
 refine does_of Tryz.func68 rfl rfl rfl (St.refl w) ?_
 refine c_seq ?_
 refine c_region ?_
 refine RL ?_
 refine RL ?_
 refine l_nil ?_
 refine c_seq ?_
 refine c_region ?_
 refine RL ?_
 refine l_as (v := (.int .u8 (a % 256))) rfl rfl rfl (congrArg _ (wrap_u8 _)) ?_
 refine RL ?_
 refine l_nil ?_
 refine c_seq ?_
 refine c_region ?_
 refine RL ?_
 refine RL ?_
 refine l_as (v := (.int .i8 (s8 e))) (l_conv rfl rfl rfl) rfl rfl (congrArg _ (s8_wrap he)) ?_
 refine l_as (v := (.int .u16 (s8 e % 65536))) (l_conv rfl rfl rfl) rfl rfl (congrArg _ (wrap_u16 _)) ?_
 refine l_as (l_add rfl rfl) rfl rfl (by first | exact as_u16 o_m o_m | exact as_u16m _) ?_
 refine RL ?_
 refine l_as (l_and rfl rfl) rfl rfl (by first | exact as_mask 4 16 (by decide) rfl o_m (show _ < (256 : Int) by omega) (show _ < (256 : Int) by decide) | rfl) ?_
 refine RL ?_
 refine l_as (l_and rfl rfl) rfl rfl (by first | exact as_mask 4 16 (by decide) rfl o_m (show _ < (256 : Int) by omega) (show _ < (256 : Int) by decide) | rfl) ?_
 refine l_as (l_add rfl rfl) rfl rfl (by first | exact as_u8 o_m o_m | exact as_u8m _) ?_
 refine RL ?_
 refine RLv call_97 (fun w hw => flag_fn 32 _ w) ?_
 refine RL ?_
 refine l_as (l_conv rfl rfl rfl) rfl rfl (by first | exact as_i64 o_m o_m | rfl) ?_
 refine RL ?_
 refine l_as (l_conv rfl rfl rfl) rfl rfl (by first | exact as_i64 o_m o_m | rfl) ?_
 refine l_as (l_add rfl rfl) rfl rfl (by first | exact as_i64 o_m o_m | rfl) ?_
 refine RL ?_
 refine RLv call_97 (fun w hw => flag_fn 16 _ w) ?_
 refine l_as (l_or rfl rfl) rfl rfl rfl ?_
 refine RL ?_
 refine RL ?_
 refine l_nil ?_
 refine c_ret ?_
 have e1 : (a + s8 e % 65536) % 65536 = shR a e := by unfold shR; omega
 rw [e1, or_hc, show a % 256 % 16 = a % 16 by omega]
 exact l_end0 (fun _ _ => rets_two rfl rfl) ⟨rfl, rfl⟩

theorem bit_fn (n a f : Int) (ha : 0 ≤ a ∧ a < 256) (hf : 0 ≤ f ∧ f < 256) (w : World) : Does Tryz.prog 63 [.int .i64 n, .int .u8 a, .int .u8 f] w [] (fun v H => H = [] ∧ v = .int .u8 (bitF n a f)) := by
 refine does_of Tryz.func63 rfl rfl rfl (St.refl w) ?_
 refine c_seq ?_
 refine c_region ?_
 refine RL ?_
 refine l_nil ?_
 refine c_seq ?_
 have hs := shr_byte n ha
 refine c_region ?_
 refine RL ?_
 refine RL ?_
 refine l_as (v := (.int .i64 (n % 8))) (l_and rfl rfl) rfl rfl (congrArg _ (low_8 n)) ?_
 refine l_as (v := (.int .u8 (a / 2 ^ (n % 8).toNat))) (shr_pos rfl rfl o_m) rfl rfl (congrArg _ (shr_low o_m)) ?_
 refine l_as (l_and rfl rfl) rfl rfl (by first | exact as_mask 1 2 (by decide) rfl o_m (show _ < (256 : Int) by omega) (show _ < (256 : Int) by decide) | rfl) ?_
 refine RLv call_96 (fun w hw => zero_fn _ w) ?_
 refine l_as (l_or rfl rfl) rfl rfl rfl ?_
 refine RL ?_
 refine l_as (l_and rfl rfl) rfl rfl (by first | exact as_bit 4 (by decide) o_m (show _ < (256 : Int) by omega) (show _ < (256 : Int) by decide) | rfl) ?_
 refine l_as (l_or rfl rfl) rfl rfl rfl ?_
 refine RL ?_
 refine l_nil ?_
 refine c_ret ?_
 rw [cF_fg, or_zhC]
 exact l_end0 (fun _ _ => rets_v rfl) ⟨rfl, rfl⟩

theorem rot1_fn (a : Int) (ha : 0 ≤ a ∧ a < 256) (w : World) : Does Tryz.prog 98 [.int .u8 a, .int .i64 1] w [] (fun v H => H = [] ∧ v = .int .u8 (a * 2 % 256 + a / 128)) := by
 refine does_of Tryz.func98 rfl rfl rfl (St.refl w) ?_
 refine c_seq ?_
 refine c_region ?_
 refine RL ?_
 refine l_nil ?_
 refine c_seq ?_
 refine c_region ?_
 refine RL ?_
 refine l_as (v := (.int .u64 1)) rfl rfl rfl rfl ?_
 refine l_as (v := (.int .u64 1)) (l_and rfl rfl) rfl rfl (congrArg _ (by decide)) ?_
 refine RL ?_
 refine l_nil ?_
 refine c_seq ?_
 refine c_region ?_
 refine RL ?_
 refine RL ?_
 refine l_as (v := (.int .u8 (shl .u8 a 1))) (shl_pos rfl rfl (by decide)) rfl rfl rfl ?_
 refine RL ?_
 refine RL ?_
 refine l_as (v := (.int .u64 7)) (l_sub rfl rfl) rfl rfl (congrArg _ (by decide)) ?_
 refine l_as (v := (.int .u8 (shr .u8 a 7))) (shr_pos rfl rfl (by decide)) rfl rfl rfl ?_
 refine l_as (l_or rfl rfl) rfl rfl rfl ?_
 refine RL ?_
 refine l_nil ?_
 refine c_ret ?_
 rw [rot_1 ha]
 exact l_end0 (fun _ _ => rets_v rfl) ⟨rfl, rfl⟩

theorem rot4_fn (a : Int) (ha : 0 ≤ a ∧ a < 256) (w : World) : Does Tryz.prog 98 [.int .u8 a, .int .i64 4] w [] (fun v H => H = [] ∧ v = .int .u8 (a % 16 * 16 + a / 16)) := by
 refine does_of Tryz.func98 rfl rfl rfl (St.refl w) ?_
 refine c_seq ?_
 refine c_region ?_
 refine RL ?_
 refine l_nil ?_
 refine c_seq ?_
 refine c_region ?_
 refine RL ?_
 refine l_as (v := (.int .u64 4)) rfl rfl rfl rfl ?_
 refine l_as (v := (.int .u64 4)) (l_and rfl rfl) rfl rfl (congrArg _ (by decide)) ?_
 refine RL ?_
 refine l_nil ?_
 refine c_seq ?_
 refine c_region ?_
 refine RL ?_
 refine RL ?_
 refine l_as (v := (.int .u8 (shl .u8 a 4))) (shl_pos rfl rfl (by decide)) rfl rfl rfl ?_
 refine RL ?_
 refine RL ?_
 refine l_as (v := (.int .u64 4)) (l_sub rfl rfl) rfl rfl (congrArg _ (by decide)) ?_
 refine l_as (v := (.int .u8 (shr .u8 a 4))) (shr_pos rfl rfl (by decide)) rfl rfl rfl ?_
 refine l_as (l_or rfl rfl) rfl rfl rfl ?_
 refine RL ?_
 refine l_nil ?_
 refine c_ret ?_
 rw [rot_4 ha]
 exact l_end0 (fun _ _ => rets_v rfl) ⟨rfl, rfl⟩

theorem daa_fn (a f : Int) (ha : 0 ≤ a ∧ a < 256) (hf : 0 ≤ f ∧ f < 256) (w : World) : Does Tryz.prog 64 [.int .u8 a, .int .u8 f] w [] (fun v H => H = [] ∧ v = .tuple #[.int .u8 (daaR a f), .int .u8 (daaF a f)]) := by
 refine does_of Tryz.func64 rfl rfl rfl (St.refl w) ?_
 refine c_seq ?_
 refine c_region ?_
 refine RL ?_
 refine RL ?_
 refine l_nil ?_
 refine c_seq ?_
 refine c_region ?_
 refine RL ?_
 refine l_nil ?_
 refine c_seq ?_
 refine c_region ?_
 refine RL ?_
 refine l_as (v := (.int .u8 (band .u8 f 64))) rfl rfl rfl rfl ?_
 refine l_as (v := (.bool (nF f))) rfl rfl rfl (congrArg _ (ne_nF hf)) ?_
 refine RL ?_
 refine l_nil ?_
 refine c_seq ?_
 refine c_region ?_
 refine RL ?_
 refine l_as (v := (.int .u8 (fg 16 (cF f)))) rfl rfl rfl (congrArg _ (band_c hf)) ?_
 refine RL ?_
 refine l_nil ?_
 refine c_cut (σ := Unit) [6, 14, 15, 16, 17, 18, 19, 20, 21, 22, 23, 24, 25, 26, 27] (fun _ => [(6, .int .u8 (fg 6 (daaL a f)))]) (fun _ => []) (fun _ => True) ?_ ?_
 ·refine c_seq ?_
  refine c_region ?_
  refine RL ?_
  refine l_as (v := (.int .u8 (band .u8 f 32))) rfl rfl rfl rfl ?_
  refine l_as (v := (.bool (hF f))) rfl rfl rfl (congrArg _ (ne_hF hf)) ?_
  refine RLb (fun h1 => ?_) (fun h1 => ?_)
  ·have h1n := r_f h1
   iterate 7 refine RLp ?_
   refine RL ?_
   refine l_nil ?_
   refine c_true rfl ?_
   refine c_region ?_
   refine RL ?_
   refine l_as (v := (.int .u8 6)) (l_or rfl rfl) rfl rfl (congrArg _ (by decide)) ?_
   refine RL ?_
   refine l_nil ?_
   exact ⟨(), trivial, .cons (congrArg (Value.int .u8) (by unfold daaL; simp_all [fg]; all_goals (repeat' split); all_goals omega)) (.nil), a_g, fun _ h => h⟩
  ·have h1n := r_f h1
   refine RL ?_
   refine RL ?_
   refine RLb (fun h2 => ?_) (fun h2 => ?_)
   ·have h2n := r_f h2
    refine RL ?_
    refine l_as (l_and rfl rfl) rfl rfl (by first | exact as_mask 4 16 (by decide) rfl o_m (show _ < (256 : Int) by omega) (show _ < (256 : Int) by decide) | rfl) ?_
    iterate 3 refine RL ?_
    refine l_nil ?_
    refine c_cond rfl (fun h3 => ?_) (fun h3 => ?_)
    ·have h3n := r_f h3
     refine c_region ?_
     refine RL ?_
     refine l_as (v := (.int .u8 6)) (l_or rfl rfl) rfl rfl (congrArg _ (by decide)) ?_
     refine RL ?_
     refine l_nil ?_
     exact ⟨(), trivial, .cons (congrArg (Value.int .u8) (by unfold daaL; simp_all [fg]; all_goals (repeat' split); all_goals omega)) (.nil), a_g, fun _ h => h⟩
    ·have h3n := r_f h3
     refine c_skip ?_
     exact ⟨(), trivial, .cons (congrArg (Value.int .u8) (by unfold daaL; simp_all [fg]; all_goals (repeat' split); all_goals omega)) (.nil), a_g, fun _ h => h⟩
   ·have h2n := r_f h2
    iterate 3 refine RLp ?_
    refine RL ?_
    refine RL ?_
    refine l_nil ?_
    refine c_false rfl ?_
    refine c_skip ?_
    exact ⟨(), trivial, .cons (congrArg (Value.int .u8) (by unfold daaL; simp_all [fg]; all_goals (repeat' split); all_goals omega)) (.nil), a_g, fun _ h => h⟩
 ·rintro _ y4 _
  refine c_cut (σ := Unit) [6, 28, 29, 30, 31, 32, 33, 34, 35, 36, 37, 38, 39, 8] (fun _ => [(6, .int .u8 (daaB a f)), (8, .int .u8 (fg 16 (daaC a f)))]) (fun _ => []) (fun _ => True) ?_ ?_
  ·refine c_seq ?_
   refine c_region ?_
   refine RL ?_
   refine l_as (v := (.bool (cF f))) rfl rfl rfl (congrArg _ (fg_ne _)) ?_
   refine RLb (fun h4 => ?_) (fun h4 => ?_)
   ·have h4n := r_f h4
    iterate 6 refine RLp ?_
    refine RL ?_
    refine l_nil ?_
    refine c_true rfl ?_
    refine c_seq ?_
    refine c_region ?_
    refine RL ?_
    refine l_as (v := (.int .u8 (fg 6 (daaL a f) + 96))) (l_or rfl rfl) rfl rfl (congrArg _ (or_96 _)) ?_
    refine RL ?_
    refine l_nil ?_
    refine c_region ?_
    refine RL ?_
    refine l_nil ?_
    exact ⟨(), trivial, .cons (congrArg (Value.int .u8) (by unfold daaB daaC; simp_all [fg]; all_goals (repeat' split); all_goals omega)) (.cons (congrArg (Value.int .u8) (by unfold daaC; simp_all [fg]; all_goals (repeat' split); all_goals omega)) (.nil)), a_g, fun _ h => h⟩
   ·have h4n := r_f h4
    refine RL ?_
    refine RL ?_
    refine RLb (fun h5 => ?_) (fun h5 => ?_)
    ·have h5n := r_f h5
     iterate 4 refine RL ?_
     refine l_nil ?_
     refine c_cond rfl (fun h6 => ?_) (fun h6 => ?_)
     ·have h6n := r_f h6
      refine c_seq ?_
      refine c_region ?_
      refine RL ?_
      refine l_as (v := (.int .u8 (fg 6 (daaL a f) + 96))) (l_or rfl rfl) rfl rfl (congrArg _ (or_96 _)) ?_
      refine RL ?_
      refine l_nil ?_
      refine c_region ?_
      refine RL ?_
      refine l_nil ?_
      exact ⟨(), trivial, .cons (congrArg (Value.int .u8) (by unfold daaB daaC; simp_all [fg]; all_goals (repeat' split); all_goals omega)) (.cons (congrArg (Value.int .u8) (by unfold daaC; simp_all [fg]; all_goals (repeat' split); all_goals omega)) (.nil)), a_g, fun _ h => h⟩
     ·have h6n := r_f h6
      refine c_skip ?_
      exact ⟨(), trivial, .cons (congrArg (Value.int .u8) (by unfold daaB daaC; simp_all [fg]; all_goals (repeat' split); all_goals omega)) (.cons (congrArg (Value.int .u8) (by unfold daaC; simp_all [fg]; all_goals (repeat' split); all_goals omega)) (.nil)), a_g, fun _ h => h⟩
    ·have h5n := r_f h5
     refine RLp ?_
     refine RLp ?_
     refine RL ?_
     refine RL ?_
     refine l_nil ?_
     refine c_false rfl ?_
     refine c_skip ?_
     exact ⟨(), trivial, .cons (congrArg (Value.int .u8) (by unfold daaB daaC; simp_all [fg]; all_goals (repeat' split); all_goals omega)) (.cons (congrArg (Value.int .u8) (by unfold daaC; simp_all [fg]; all_goals (repeat' split); all_goals omega)) (.nil)), a_g, fun _ h => h⟩
  ·rintro _ y6 _
   refine c_cut (σ := Unit) [4, 40, 41, 42, 43, 44, 45, 46] (fun _ => [(4, .int .u8 (daaR a f))]) (fun _ => []) (fun _ => True) ?_ ?_
   ·refine c_seq ?_
    refine c_region ?_
    refine RL ?_
    refine RL ?_
    refine l_as (l_add rfl rfl) rfl rfl (by first | exact as_u8 o_m o_m | exact as_u8m _) ?_
    refine RL ?_
    refine l_nil ?_
    refine c_seq ?_
    refine c_region ?_
    refine RL ?_
    refine l_nil ?_
    refine c_cond rfl (fun h7 => ?_) (fun h7 => ?_)
    ·have h7n := r_f h7
     refine c_region ?_
     refine RL ?_
     refine RL ?_
     refine l_as (l_sub rfl rfl) rfl rfl (by first | exact as_u8 o_m o_m | exact as_u8m _) ?_
     refine RL ?_
     refine l_nil ?_
     exact ⟨(), trivial, .cons (congrArg (Value.int .u8) (by unfold daaR; simp_all)) (.nil), a_g, fun _ h => h⟩
    ·have h7n := r_f h7
     refine c_skip ?_
     exact ⟨(), trivial, .cons (congrArg (Value.int .u8) (by unfold daaR; simp_all)) (.nil), a_g, fun _ h => h⟩
   ·rintro _ y10 _
    refine c_seq ?_
    refine c_region ?_
    refine RL ?_
    refine RL ?_
    refine RLv call_96 (fun w hw => zero_fn _ w) ?_
    refine RL ?_
    refine l_as (l_and rfl rfl) rfl rfl (by first | exact as_bit 6 (by decide) o_m (show _ < (256 : Int) by omega) (show _ < (256 : Int) by decide) | rfl) ?_
    refine l_as (l_or rfl rfl) rfl rfl rfl ?_
    refine RL ?_
    refine l_as (l_or rfl rfl) rfl rfl rfl ?_
    refine RL ?_
    refine RL ?_
    refine l_nil ?_
    refine c_ret ?_
    rw [nF_fg, or_znc]
    exact l_end0 (fun _ _ => rets_two rfl rfl) ⟨rfl, rfl⟩

theorem turn_fn (k a f : Int) (ha : 0 ≤ a ∧ a < 256) (hf : 0 ≤ f ∧ f < 256) (w : World) : Does Tryz.prog 62 [.int .i64 k, .int .u8 a, .int .u8 f] w [] (fun v H => H = [] ∧ v = .tuple #[.int .u8 (turnR k a f), .int .u8 (turnF k a f)]) := by
 have hb := b2i_le (cF f)
 refine does_of Tryz.func62 rfl rfl rfl (St.refl w) ?_
 refine c_seq ?_
 refine c_region ?_
 refine RL ?_
 refine RL ?_
 refine l_nil ?_
 refine c_seq ?_
 refine c_region ?_
 refine RL ?_
 refine l_as (v := (.int .u8 (fg 16 (cF f)))) rfl rfl rfl (congrArg _ (band_c hf)) ?_
 refine l_as (v := (.int .u8 (b2i (cF f)))) (shr_pos rfl rfl (by decide)) rfl rfl (congrArg _ (shr_c _)) ?_
 refine RL ?_
 refine l_nil ?_
 refine c_seq ?_
 refine c_region ?_
 refine RL ?_
 refine l_as (shr_pos rfl rfl (by decide)) rfl rfl (as_shr 128 (by decide) (by decide)) ?_
 refine RL ?_
 refine l_as (l_and rfl rfl) rfl rfl (by first | exact as_mask 1 2 (by decide) rfl o_m (show _ < (256 : Int) by omega) (show _ < (256 : Int) by decide) | rfl) ?_
 refine RL ?_
 refine RL ?_
 refine l_nil ?_
 refine c_seq ?_
 refine c_region ?_
 refine RL ?_
 refine RL ?_
 refine l_nil ?_
 refine c_seq ?_
 refine c_seq ?_
 refine c_region ?_
 refine RL ?_
 refine l_as (v := (.int .i64 (k % 8))) (l_and rfl rfl) rfl rfl (congrArg _ (low_8 k)) ?_
 refine l_nil ?_
 refine c_block ?_
 refine c_seq ?_
 refine c_block ?_
 refine c_seq ?_
 refine c_block ?_
 refine c_seq ?_
 refine c_block ?_
 refine c_seq ?_
 refine c_block ?_
 refine c_seq ?_
 refine c_block ?_
 refine c_seq ?_
 refine c_block ?_
 refine c_seq ?_
 refine c_block ?_
 refine c_seq ?_
 refine c_block ?_
 refine c_seq ?_
 refine c_seq ?_
 refine c_seq ?_
 refine c_region ?_
 refine RL ?_
 refine RL ?_
 refine l_nil ?_
 refine c_cond rfl (fun h1 => ?_) (fun h1 => ?_)
 ·have h1n := r_f h1
  refine c_exit rfl ?_
  refine c_seq ?_
  refine c_region ?_
  refine RL ?_
  refine RLv call_98 (fun w hw => rot1_fn a ha w) ?_
  refine RL ?_
  refine l_nil ?_
  refine c_exit rfl ?_
  refine c_seq ?_
  refine c_region ?_
  refine RL ?_
  refine RL ?_
  refine RLv call_96 (fun w hw => zero_fn _ w) ?_
  refine RL ?_
  refine l_as (shl_pos rfl rfl (by decide)) rfl rfl (by first | exact as_shl 16 (by decide) o_m (show _ < (256 : Int) by omega) | exact as_shl8 16 (by decide) | rfl) ?_
  refine l_as (l_or rfl rfl) rfl rfl rfl ?_
  refine RL ?_
  refine RL ?_
  refine l_nil ?_
  refine c_ret ?_
  have hk : k % 8 = 0 := by omega
  have hr : turnR k a f = a * 2 % 256 + a / 128 := by unfold turnR; rw [hk]; rfl
  have ho : turnO k a = (a / 128 == 1) := by unfold turnO; rw [hk]; rfl
  rw [x16 (x := a / 128) o_m, or_zc]
  have e9 : Value.tuple #[.int .u8 (a * 2 % 256 + a / 128), .int .u8 (fl ((a * 2 % 256 + a / 128) == 0) false false (a / 128 == 1))] = .tuple #[.int .u8 (turnR k a f), .int .u8 (turnF k a f)] := by unfold turnF; rw [hr, ho]
  exact l_end0 (fun _ _ => rets_two rfl rfl) ⟨rfl, e9⟩
 ·have h1n := r_f h1
  refine c_skip ?_
  refine c_seq ?_
  refine c_seq ?_
  refine c_region ?_
  refine RL ?_
  refine RL ?_
  refine l_nil ?_
  refine c_cond rfl (fun h2 => ?_) (fun h2 => ?_)
  ·have h2n := r_f h2
   refine c_exit rfl ?_
   refine c_seq ?_
   refine c_region ?_
   refine RL ?_
   refine l_as (shl_pos rfl rfl (by decide)) rfl rfl (by first | exact as_shl 2 (by decide) o_m (show _ < (256 : Int) by omega) | exact as_shl8 2 (by decide) | rfl) ?_
   refine RL ?_
   refine l_as (v := (.int .u8 (a * 2 % 256 + b2i (cF f)))) (l_or rfl rfl) rfl rfl (congrArg _ (or_low ha _)) ?_
   refine RL ?_
   refine l_nil ?_
   refine c_exit rfl ?_
   refine c_seq ?_
   refine c_region ?_
   refine RL ?_
   refine RL ?_
   refine RLv call_96 (fun w hw => zero_fn _ w) ?_
   refine RL ?_
   refine l_as (shl_pos rfl rfl (by decide)) rfl rfl (by first | exact as_shl 16 (by decide) o_m (show _ < (256 : Int) by omega) | exact as_shl8 16 (by decide) | rfl) ?_
   refine l_as (l_or rfl rfl) rfl rfl rfl ?_
   refine RL ?_
   refine RL ?_
   refine l_nil ?_
   refine c_ret ?_
   have hk : k % 8 = 2 := by omega
   have hr : turnR k a f = a * 2 % 256 + b2i (cF f) := by unfold turnR; rw [hk]; rfl
   have ho : turnO k a = (a / 128 == 1) := by unfold turnO; rw [hk]; rfl
   rw [x16 (x := a / 128) o_m, or_zc]
   have e9 : Value.tuple #[.int .u8 (a * 2 % 256 + b2i (cF f)), .int .u8 (fl ((a * 2 % 256 + b2i (cF f)) == 0) false false (a / 128 == 1))] = .tuple #[.int .u8 (turnR k a f), .int .u8 (turnF k a f)] := by unfold turnF; rw [hr, ho]
   exact l_end0 (fun _ _ => rets_two rfl rfl) ⟨rfl, e9⟩
  ·have h2n := r_f h2
   refine c_skip ?_
   refine c_seq ?_
   refine c_seq ?_
   refine c_region ?_
   refine RL ?_
   refine RL ?_
   refine l_nil ?_
   refine c_cond rfl (fun h3 => ?_) (fun h3 => ?_)
   ·have h3n := r_f h3
    refine c_exit rfl ?_
    refine c_seq ?_
    refine c_region ?_
    refine RL ?_
    refine l_as (shl_pos rfl rfl (by decide)) rfl rfl (by first | exact as_shl 2 (by decide) o_m (show _ < (256 : Int) by omega) | exact as_shl8 2 (by decide) | rfl) ?_
    refine RL ?_
    refine l_nil ?_
    refine c_exit rfl ?_
    refine c_seq ?_
    refine c_region ?_
    refine RL ?_
    refine RL ?_
    refine RLv call_96 (fun w hw => zero_fn _ w) ?_
    refine RL ?_
    refine l_as (shl_pos rfl rfl (by decide)) rfl rfl (by first | exact as_shl 16 (by decide) o_m (show _ < (256 : Int) by omega) | exact as_shl8 16 (by decide) | rfl) ?_
    refine l_as (l_or rfl rfl) rfl rfl rfl ?_
    refine RL ?_
    refine RL ?_
    refine l_nil ?_
    refine c_ret ?_
    have hk : k % 8 = 4 := by omega
    have hr : turnR k a f = a * 2 % 256 := by unfold turnR; rw [hk]; rfl
    have ho : turnO k a = (a / 128 == 1) := by unfold turnO; rw [hk]; rfl
    rw [x16 (x := a / 128) o_m, or_zc]
    have e9 : Value.tuple #[.int .u8 (a * 2 % 256), .int .u8 (fl ((a * 2 % 256) == 0) false false (a / 128 == 1))] = .tuple #[.int .u8 (turnR k a f), .int .u8 (turnF k a f)] := by unfold turnF; rw [hr, ho]
    exact l_end0 (fun _ _ => rets_two rfl rfl) ⟨rfl, e9⟩
   ·have h3n := r_f h3
    refine c_skip ?_
    refine c_seq ?_
    refine c_seq ?_
    refine c_region ?_
    refine RL ?_
    refine RL ?_
    refine l_nil ?_
    refine c_cond rfl (fun h4 => ?_) (fun h4 => ?_)
    ·have h4n := r_f h4
     refine c_exit rfl ?_
     refine c_seq ?_
     refine c_region ?_
     refine RL ?_
     refine RLv call_98 (fun w hw => rot4_fn a ha w) ?_
     refine RL ?_
     refine RL ?_
     refine l_nil ?_
     refine c_exit rfl ?_
     refine c_seq ?_
     refine c_region ?_
     refine RL ?_
     refine RL ?_
     refine RLv call_96 (fun w hw => zero_fn _ w) ?_
     refine RL ?_
     refine l_as (shl_pos rfl rfl (by decide)) rfl rfl (by first | exact as_shl 16 (by decide) o_m (show _ < (256 : Int) by omega) | exact as_shl8 16 (by decide) | rfl) ?_
     refine l_as (l_or rfl rfl) rfl rfl rfl ?_
     refine RL ?_
     refine RL ?_
     refine l_nil ?_
     refine c_ret ?_
     have hk : k % 8 = 6 := by omega
     have hr : turnR k a f = a % 16 * 16 + a / 16 := by unfold turnR; rw [hk]; rfl
     have ho : turnO k a = ((0 : Int) == 1) := by unfold turnO; rw [hk]; rfl
     rw [x16 (x := 0) o_m, or_zc]
     have e9 : Value.tuple #[.int .u8 (a % 16 * 16 + a / 16), .int .u8 (fl ((a % 16 * 16 + a / 16) == 0) false false ((0 : Int) == 1))] = .tuple #[.int .u8 (turnR k a f), .int .u8 (turnF k a f)] := by unfold turnF; rw [hr, ho]
     exact l_end0 (fun _ _ => rets_two rfl rfl) ⟨rfl, e9⟩
    ·have h4n := r_f h4
     refine c_skip ?_
     refine c_seq ?_
     refine c_seq ?_
     refine c_region ?_
     refine RL ?_
     refine RL ?_
     refine l_nil ?_
     refine c_cond rfl (fun h5 => ?_) (fun h5 => ?_)
     ·have h5n := r_f h5
      refine c_exit rfl ?_
      refine c_region ?_
      refine RL ?_
      refine RL ?_
      refine l_nil ?_
      refine c_seq ?_
      refine c_region ?_
      refine RL ?_
      refine l_as (shr_pos rfl rfl (by decide)) rfl rfl (as_shr 2 (by decide) (by decide)) ?_
      refine RL ?_
      refine l_as (shl_pos rfl rfl (by decide)) rfl rfl (by first | exact as_shl 128 (by decide) o_m (show _ < (256 : Int) by omega) | exact as_shl8 128 (by decide) | rfl) ?_
      refine l_as (v := (.int .u8 (a / 2 + a % 2 * 128))) (l_or rfl rfl) rfl rfl (congrArg _ (or_topL ha)) ?_
      iterate 3 refine RL ?_
      refine l_nil ?_
      refine c_exit rfl ?_
      refine c_seq ?_
      refine c_region ?_
      refine RL ?_
      refine RL ?_
      refine RLv call_96 (fun w hw => zero_fn _ w) ?_
      refine RL ?_
      refine l_as (shl_pos rfl rfl (by decide)) rfl rfl (by first | exact as_shl 16 (by decide) o_m (show _ < (256 : Int) by omega) | exact as_shl8 16 (by decide) | rfl) ?_
      refine l_as (l_or rfl rfl) rfl rfl rfl ?_
      refine RL ?_
      refine RL ?_
      refine l_nil ?_
      refine c_ret ?_
      have hk : k % 8 = 1 := by omega
      have hr : turnR k a f = a / 2 + a % 2 * 128 := by unfold turnR; rw [hk]; rfl
      have ho : turnO k a = (a % 2 == 1) := by unfold turnO; rw [hk]; rfl
      rw [x16 (x := a % 2) o_m, or_zc]
      have e9 : Value.tuple #[.int .u8 (a / 2 + a % 2 * 128), .int .u8 (fl ((a / 2 + a % 2 * 128) == 0) false false (a % 2 == 1))] = .tuple #[.int .u8 (turnR k a f), .int .u8 (turnF k a f)] := by unfold turnF; rw [hr, ho]
      exact l_end0 (fun _ _ => rets_two rfl rfl) ⟨rfl, e9⟩
     ·have h5n := r_f h5
      refine c_skip ?_
      refine c_seq ?_
      refine c_seq ?_
      refine c_region ?_
      refine RL ?_
      refine RL ?_
      refine l_nil ?_
      refine c_cond rfl (fun h6 => ?_) (fun h6 => ?_)
      ·have h6n := r_f h6
       refine c_exit rfl ?_
       refine c_seq ?_
       refine c_region ?_
       refine RL ?_
       refine l_as (shr_pos rfl rfl (by decide)) rfl rfl (as_shr 2 (by decide) (by decide)) ?_
       refine RL ?_
       refine l_as (shl_pos rfl rfl (by decide)) rfl rfl (by first | exact as_shl 128 (by decide) o_m (show _ < (256 : Int) by omega) | exact as_shl8 128 (by decide) | rfl) ?_
       refine l_as (v := (.int .u8 (a / 2 + b2i (cF f) * 128))) (l_or rfl rfl) rfl rfl (congrArg _ (or_topB ha _)) ?_
       iterate 3 refine RL ?_
       refine l_nil ?_
       refine c_exit rfl ?_
       refine c_seq ?_
       refine c_region ?_
       refine RL ?_
       refine RL ?_
       refine RLv call_96 (fun w hw => zero_fn _ w) ?_
       refine RL ?_
       refine l_as (shl_pos rfl rfl (by decide)) rfl rfl (by first | exact as_shl 16 (by decide) o_m (show _ < (256 : Int) by omega) | exact as_shl8 16 (by decide) | rfl) ?_
       refine l_as (l_or rfl rfl) rfl rfl rfl ?_
       refine RL ?_
       refine RL ?_
       refine l_nil ?_
       refine c_ret ?_
       have hk : k % 8 = 3 := by omega
       have hr : turnR k a f = a / 2 + b2i (cF f) * 128 := by unfold turnR; rw [hk]; rfl
       have ho : turnO k a = (a % 2 == 1) := by unfold turnO; rw [hk]; rfl
       rw [x16 (x := a % 2) o_m, or_zc]
       have e9 : Value.tuple #[.int .u8 (a / 2 + b2i (cF f) * 128), .int .u8 (fl ((a / 2 + b2i (cF f) * 128) == 0) false false (a % 2 == 1))] = .tuple #[.int .u8 (turnR k a f), .int .u8 (turnF k a f)] := by unfold turnF; rw [hr, ho]
       exact l_end0 (fun _ _ => rets_two rfl rfl) ⟨rfl, e9⟩
      ·have h6n := r_f h6
       refine c_skip ?_
       refine c_seq ?_
       refine c_seq ?_
       refine c_region ?_
       refine RL ?_
       refine RL ?_
       refine l_nil ?_
       refine c_cond rfl (fun h7 => ?_) (fun h7 => ?_)
       ·have h7n := r_f h7
        refine c_exit rfl ?_
        refine c_seq ?_
        refine c_region ?_
        refine RL ?_
        refine l_as (shr_pos rfl rfl (by decide)) rfl rfl (as_shr 2 (by decide) (by decide)) ?_
        refine RL ?_
        refine l_as (l_and rfl rfl) rfl rfl (by first | exact as_bit 7 (by decide) o_m (show _ < (256 : Int) by omega) (show _ < (256 : Int) by decide) | rfl) ?_
        refine l_as (v := (.int .u8 (a / 2 + a / 128 * 128))) (l_or rfl rfl) rfl rfl (congrArg _ (or_topH ha)) ?_
        iterate 3 refine RL ?_
        refine l_nil ?_
        refine c_exit rfl ?_
        refine c_seq ?_
        refine c_region ?_
        refine RL ?_
        refine RL ?_
        refine RLv call_96 (fun w hw => zero_fn _ w) ?_
        refine RL ?_
        refine l_as (shl_pos rfl rfl (by decide)) rfl rfl (by first | exact as_shl 16 (by decide) o_m (show _ < (256 : Int) by omega) | exact as_shl8 16 (by decide) | rfl) ?_
        refine l_as (l_or rfl rfl) rfl rfl rfl ?_
        refine RL ?_
        refine RL ?_
        refine l_nil ?_
        refine c_ret ?_
        have hk : k % 8 = 5 := by omega
        have hr : turnR k a f = a / 2 + a / 128 * 128 := by unfold turnR; rw [hk]; rfl
        have ho : turnO k a = (a % 2 == 1) := by unfold turnO; rw [hk]; rfl
        rw [x16 (x := a % 2) o_m, or_zc]
        have e9 : Value.tuple #[.int .u8 (a / 2 + a / 128 * 128), .int .u8 (fl ((a / 2 + a / 128 * 128) == 0) false false (a % 2 == 1))] = .tuple #[.int .u8 (turnR k a f), .int .u8 (turnF k a f)] := by unfold turnF; rw [hr, ho]
        exact l_end0 (fun _ _ => rets_two rfl rfl) ⟨rfl, e9⟩
       ·have h7n := r_f h7
        refine c_skip ?_
        refine c_seq ?_
        refine c_region ?_
        refine RL ?_
        refine RL ?_
        refine l_nil ?_
        refine c_cond rfl (fun h8 => ?_) (fun h8 => ?_)
        ·have h8n := r_f h8
         refine c_exit rfl ?_
         refine c_seq ?_
         refine c_region ?_
         refine RL ?_
         refine l_as (shr_pos rfl rfl (by decide)) rfl rfl (as_shr 2 (by decide) (by decide)) ?_
         iterate 3 refine RL ?_
         refine l_nil ?_
         refine c_exit rfl ?_
         refine c_seq ?_
         refine c_region ?_
         refine RL ?_
         refine RL ?_
         refine RLv call_96 (fun w hw => zero_fn _ w) ?_
         refine RL ?_
         refine l_as (shl_pos rfl rfl (by decide)) rfl rfl (by first | exact as_shl 16 (by decide) o_m (show _ < (256 : Int) by omega) | exact as_shl8 16 (by decide) | rfl) ?_
         refine l_as (l_or rfl rfl) rfl rfl rfl ?_
         refine RL ?_
         refine RL ?_
         refine l_nil ?_
         refine c_ret ?_
         have hk : k % 8 = 7 := by omega
         have hr : turnR k a f = a / 2 := by unfold turnR; rw [hk]; rfl
         have ho : turnO k a = (a % 2 == 1) := by unfold turnO; rw [hk]; rfl
         rw [x16 (x := a % 2) o_m, or_zc]
         have e9 : Value.tuple #[.int .u8 (a / 2), .int .u8 (fl ((a / 2) == 0) false false (a % 2 == 1))] = .tuple #[.int .u8 (turnR k a f), .int .u8 (turnF k a f)] := by unfold turnF; rw [hr, ho]
         exact l_end0 (fun _ _ => rets_two rfl rfl) ⟨rfl, e9⟩
        ·have h8n := r_f h8
         refine c_skip ?_
         refine c_exit rfl ?_
         refine c_seq ?_
         refine c_region ?_
         refine RL ?_
         refine RL ?_
         refine RLv call_96 (fun w hw => zero_fn _ w) ?_
         refine RL ?_
         refine l_as (shl_pos rfl rfl (by decide)) rfl rfl (by first | exact as_shl 16 (by decide) o_m (show _ < (256 : Int) by omega) | exact as_shl8 16 (by decide) | rfl) ?_
         refine l_as (l_or rfl rfl) rfl rfl rfl ?_
         refine RL ?_
         refine RL ?_
         refine l_nil ?_
         refine c_ret ?_
         exfalso; omega

end Go.Proofs.YtjjemehigdpboaaGreat
