/- What stays true of a line to which marks are added. Plain lemmas; no program. -/
import Derived.Test.YtkifhldkhemdlaaThin
namespace Go.Proofs.Ytkifhldkhemdlaa
open Go Go.VV

theorem thinR_last (last : Int) : ∀ (r : List Mark) (b : Int) (hr : r ≠ []), ∃ A, thinR last b r = A ++ [r.getLast hr]
  | [], _, h => absurd rfl h
  | [m], _, _ => ⟨[], rfl⟩
  | m :: p :: r, b, _ => by
    unfold thinR
    split
    · obtain ⟨A, hA⟩ := thinR_last last (p :: r) b (by simp)
      exact ⟨A, by rw [hA]; simp⟩
    · obtain ⟨A, hA⟩ := thinR_last last (p :: r) m.t (by simp)
      exact ⟨m :: A, by rw [hA]; simp⟩
/-- The first one, and the last one, stay. -/
theorem thinL_ends (x : Mark) (ms : List Mark) (mk : Mark) : ∃ A, thinL (x :: ms ++ [mk]) = x :: A ++ [mk] := by
  unfold thinL
  have h : (x :: ms ++ [mk]).reverse = mk :: (ms.reverse ++ [x]) := by simp
  rw [h]
  obtain ⟨A, hA⟩ := thinR_last mk.t (ms.reverse ++ [x]) mk.t (by simp)
  exact ⟨A.reverse, by simp only [hA]; simp⟩
theorem thinL_one (mk : Mark) : thinL ([] ++ [mk]) = [mk] := rfl
theorem cutL_ends {cap : Nat} (hc : 2 ≤ cap) (x : Mark) (ms : List Mark) (mk : Mark) : ∃ A, cutL cap (x :: ms ++ [mk]) = x :: A ++ [mk] := by
  unfold cutL
  refine ⟨ms.drop ((x :: ms ++ [mk]).length - cap), ?_⟩
  have h1 : (x :: ms ++ [mk]).take 1 = [x] := by simp
  have h2 : (x :: ms ++ [mk]).drop (1 + ((x :: ms ++ [mk]).length - cap)) = ms.drop ((x :: ms ++ [mk]).length - cap) ++ [mk] := by
    rw [Nat.add_comm, List.cons_append, List.drop_succ_cons, List.drop_append_of_le_length (by simp; omega)]
  rw [h1, h2]; rfl
theorem cutL_len {cap : Nat} (hc : 2 ≤ cap) (ms : List Mark) : (cutL cap ms).length ≤ cap := by
  unfold cutL
  rw [List.length_append, List.length_take, List.length_drop]; omega
theorem addM_sub (cap : Nat) (ms : List Mark) (mk : Mark) : (addM cap ms mk).Sublist (ms ++ [mk]) := (cutL_sub cap _).trans (thinL_sub _)
theorem addM_ends {cap : Nat} (hc : 2 ≤ cap) (x : Mark) (ms : List Mark) (mk : Mark) : ∃ A, addM cap (x :: ms) mk = x :: A ++ [mk] := by
  unfold addM
  obtain ⟨A, hA⟩ := thinL_ends x ms mk
  rw [hA]
  exact cutL_ends hc x A mk
theorem addM_one {cap : Nat} (hc : 2 ≤ cap) (mk : Mark) : addM cap [] mk = [mk] := by
  unfold addM
  rw [thinL_one, cutL_all (by simp; omega)]
theorem lastT_snoc (A : List Mark) (mk : Mark) : lastT (A ++ [mk]) = mk.t := by simp [lastT, tm]
theorem tm_cons (x : Mark) (A : List Mark) : tm (x :: A) 0 = x.t := by simp [tm]

/-- Behind k marks, the last one at t. -/
structure LJ (b : Nat) (cap : Int) (k : Nat) (t : Int) (ms : List Mark) (G D : Heap) : Prop where
  line : LineH b cap ms G
  dat : DatH D ms
  rise : Rise ms
  len : ms.length ≤ cap.toNat
  lo : 0 ≤ t
  hi : t ≤ k * 9
  zero : k = 0 → ms = [] ∧ t = 0
  more : 0 < k → 0 < ms.length ∧ tm ms 0 = 0 ∧ lastT ms = t
theorem LJ.start (b : Nat) (cap : Int) : LJ b cap 0 0 [] [(b, blk [.slice none 0 0, .int .i64 cap] 53)] [] :=
  ⟨⟨_, [], rfl, .nil⟩, fun _ h => (by cases h), Rise.nil, Nat.zero_le _, Int.le_refl _, by simp, fun _ => ⟨rfl, rfl⟩, fun h => (by omega)⟩
/-- The next time. -/
def Nxt (k : Nat) (t t' : Int) : Prop := (k = 0 → t' = 0) ∧ (0 < k → t < t' ∧ t' ≤ t + 9)
section
variable {b k : Nat} {cap t t' : Int} {ms : List Mark} {G D : Heap}
theorem LJ.rise' (h : LJ b cap k t ms G D) (hk : k < 1000000) (hn : Nxt k t t') {mk : Mark} (hm : mk.t = t') : Rise (ms ++ [mk]) := by
  have h1 := h.lo; have h2 := h.hi
  rcases Nat.eq_zero_or_pos k with hz | hz
  · have := hn.1 hz
    exact rise_snoc h.rise (by omega) (by omega) (fun hl => by rw [(h.zero hz).1] at hl; simp at hl)
  · have := hn.2 hz; have h4 := (h.more hz).2.2
    exact rise_snoc h.rise (by omega) (by omega) (fun _ => by omega)
theorem LJ.ok (h : LJ b cap k t ms G D) (hk : k < 1000000) (hn : Nxt k t t') : addErr ms t' = 0 := by
  have h1 := h.lo; have h2 := h.hi
  rcases Nat.eq_zero_or_pos k with hz | hz
  · have := hn.1 hz
    have hm := (h.zero hz).1
    exact addErr_ok (by omega) (fun _ => by omega) (fun hl => by rw [hm] at hl; simp at hl)
  · have := hn.2 hz; have h4 := h.more hz
    exact addErr_ok (by omega) (fun hl => by omega) (fun _ => by omega)
theorem LJ.step (h : LJ b cap k t ms G D) (hk : k < 1000000) (hc : 2 ≤ cap) (hn : Nxt k t t') {mk : Mark} {G' D' : Heap} {l : List Int} (ht : mk.t = t') (hl : mk.l = l) (hlen : l.length ≤ 140737488355328) (hlc : mk.l.length ≤ mk.c)
    (hL : LineH b cap (addM cap.toNat ms mk) G') (hB : Byt l (.slice mk.a l.length mk.c) D') : LJ b cap (k + 1) t' (addM cap.toNat ms mk) G' (D' ++ D) := by
  have hsub := addM_sub cap.toNat ms mk
  have h1 := h.lo; have h2 := h.hi
  have ht2 : 0 ≤ t' ∧ t' ≤ (k + 1 : Nat) * 9 := by
    rcases Nat.eq_zero_or_pos k with hz | hz
    · have := hn.1 hz; omega
    · have := hn.2 hz; omega
  refine ⟨hL, ?_, (h.rise' hk hn ht).sub hsub, cutL_len (by omega) _, ht2.1, ht2.2, fun h0 => (by omega), fun _ => ?_⟩
  · have hD : DatH (D' ++ D) (ms ++ [mk]) := fun m hm => by
      rcases List.mem_append.1 hm with hm | hm
      · exact (h.dat.more fun x hx => List.mem_append_right _ hx) m hm
      · have : m = mk := by simpa using hm
        subst this
        obtain ⟨a, c, hs, _, hW⟩ := hB.slice
        cases hs
        exact ⟨hlc, by rw [hl]; exact hlen, fun w0 w bs H hw hx => by rw [hl]; exact hW w0 w bs H hw fun x hx' => hx x (List.mem_append_left _ hx')⟩
    exact hD.sub hsub
  · rcases Nat.eq_zero_or_pos k with hz | hz
    · rw [(h.zero hz).1, addM_one (by omega)]
      have := hn.1 hz
      exact ⟨by simp, by simp [tm]; omega, by rw [show [mk] = [] ++ [mk] from rfl, lastT_snoc, ht]⟩
    · obtain ⟨h3, h4, h5⟩ := h.more hz
      cases ms with
      | nil => simp at h3
      | cons x A =>
        obtain ⟨B, hB2⟩ := addM_ends (cap := cap.toNat) (by omega) x A mk
        rw [hB2]
        rw [tm_cons] at h4
        exact ⟨by simp, by rw [List.cons_append, tm_cons]; exact h4, by rw [lastT_snoc, ht]⟩
end
theorem step9 {t x : Int} {k : Nat} (h0 : 0 ≤ t) (h1 : t ≤ k * 9) (hk : k < 1000000) (hx : 0 ≤ x ∧ x < 256) : IntKind.u64.wrap (t + IntKind.u64.wrap (1 + IntKind.u64.wrap (x.tmod 9))) = t + (1 + x % 9) := by
  rw [Int.tmod_eq_emod_of_nonneg hx.1, wrap_u64_id (n := x % 9) (by omega) (by omega), wrap_u64_id (n := 1 + x % 9) (by omega) (by omega), wrap_u64_id (by omega) (by omega)]
theorem nxt9 {t x : Int} {k : Nat} (hk : 0 < k) : Nxt k t (t + (1 + x % 9)) := ⟨fun h => (by omega), fun _ => by omega⟩
theorem nxt0 {t : Int} {k : Nat} (hk : k = 0) (ht : t = 0) : Nxt k t t := ⟨fun _ => ht, fun h => (by omega)⟩
theorem cap_ok (n : Int) : 2 ≤ max 2 (min n 256) ∧ max 2 (min n 256) ≤ 256 := by omega
theorem times_get {ms : List Mark} {k : Nat} (hk : k < ms.length) : (times ms).getD k 0 = tm ms k := by simp [times, tm, hk]
theorem tm_lt {ms : List Mark} (hR : Rise ms) {i j : Nat} (hij : i < j) (hj : j < ms.length) : tm ms i < tm ms j := by
  have := (List.pairwise_iff_getElem.1 hR.1) i j (by omega) hj hij
  rwa [tm_get (by omega), tm_get hj] at this
structure LS where
  k : Nat
  t : Int
  ms : List Mark
  G : Heap
  D : Heap
theorem awake_ms {mk1 mk2 : Mark} (e1 : mk1.t = 0) (f1 : mk1.l = [7]) (e2 : mk2.t = 1) : addM (9 : Int).toNat (addM (9 : Int).toNat [] mk1) mk2 = [mk1, mk2] ∧
    decide (0 ≤ bef [mk1, mk2] 0) = true ∧ befM [mk1, mk2] 0 = mk1 := by
  have hb : bef [mk1, mk2] 0 = 0 := by simp [bef, cntLe, e1, e2]
  refine ⟨?_, ?_, ?_⟩
  · rw [addM_one (by decide)]
    obtain ⟨A, hA⟩ := addM_ends (cap := (9 : Int).toNat) (by decide) mk1 [] mk2
    rw [hA]
    have := (addM_sub (9 : Int).toNat [mk1] mk2).length_le
    rw [hA] at this
    have : A = [] := List.eq_nil_of_length_eq_zero (by simp only [List.length_append, List.length_cons, List.length_nil] at this; omega)
    subst this; rfl
  · simp [hb]
  · simp [befM, hb]
theorem awake_last {mk1 mk2 : Mark} (e2 : mk2.t = 1) : Value.tuple #[.int .u64 (lastT [mk1, mk2]), .bool (decide ([mk1, mk2].length ≠ 0))] = .tuple #[.int .u64 1, .bool true] := by simp [lastT, tm, e2]
theorem times_cell {ms : List Mark} {sp : List Value} {k : Nat} (hk : k < ms.length) : ((times ms).map (Value.int .u64) ++ sp)[0 + k]? = some (.int .u64 (tm ms k)) := by
  rw [Nat.zero_add, List.getElem?_append_left (by simpa [times] using hk)]
  simp [times, tm, hk]
/-! ### which mark is ahead -/
theorem bef_nn {ms : List Mark} (hR : Rise ms) (h0 : 0 < ms.length) (hz : tm ms 0 = 0) {x : Int} (hx : 0 ≤ x) : 0 ≤ bef ms x := by
  have := (cntLe_iff hR.1 x h0).1 (by rw [tm_get h0]; omega)
  unfold bef; omega
theorem bef_mono {ms : List Mark} (hR : Rise ms) {x y : Int} (h : x ≤ y) : bef ms x ≤ bef ms y := by
  have h1 := cntLe_le ms x
  rcases Nat.lt_or_ge (cntLe ms y) (cntLe ms x) with h2 | h2
  · have hk : cntLe ms y < ms.length := by omega
    have a1 := (cntLe_iff hR.1 x hk).2 h2
    have a2 := (cntLe_iff hR.1 y hk).1 (by omega)
    omega
  · unfold bef; omega
theorem befM_tm {ms : List Mark} {x : Int} (h : 0 ≤ bef ms x) : (befM ms x).t = tm ms (bef ms x).toNat := by
  rw [← befM_some (by omega)]; rfl
theorem befM_mono {ms : List Mark} (hR : Rise ms) {x y : Int} (h : x ≤ y) (h0 : 0 ≤ bef ms x) : (befM ms x).t ≤ (befM ms y).t := by
  have h1 := bef_mono hR h
  rw [befM_tm h0, befM_tm (by omega)]
  rcases Nat.lt_or_ge (bef ms x).toNat (bef ms y).toNat with h2 | h2
  · exact Int.le_of_lt (tm_lt hR h2 (bef_lt (by omega)).1)
  · rw [show (bef ms x).toNat = (bef ms y).toNat by omega]; exact Int.le_refl _
theorem bef_self {ms : List Mark} (hR : Rise ms) {k : Nat} (hk : k < ms.length) : bef ms (tm ms k) = k := by
  have h1 := (cntLe_iff hR.1 (tm ms k) hk).1 (by rw [tm_get hk]; exact Int.le_refl _)
  have h2 := cntLe_le ms (tm ms k)
  rcases Nat.lt_or_ge (k + 1) (cntLe ms (tm ms k)) with h3 | h3
  · have hk2 : k + 1 < ms.length := by omega
    have a1 := (cntLe_iff hR.1 (tm ms k) hk2).2 h3
    rw [tm_get hk2] at a1
    have := tm_lt hR (i := k) (j := k + 1) (by omega) hk2
    omega
  · unfold bef; omega
theorem befM_self {ms : List Mark} (hR : Rise ms) {k : Nat} (hk : k < ms.length) : (befM ms (tm ms k)).t = tm ms k := by
  have := bef_self hR hk
  rw [befM_tm (by omega), this]; rfl
theorem bef_end {ms : List Mark} (hR : Rise ms) (h0 : 0 < ms.length) {x : Int} (hx : lastT ms ≤ x) : bef ms x = (ms.length - 1 : Nat) := by
  have hk : ms.length - 1 < ms.length := by omega
  have hl := lastT_some (ms := ms) (by omega)
  have h1 := (cntLe_iff hR.1 x hk).1 (by rw [tm_get hk]; omega)
  have h2 := cntLe_le ms x
  unfold bef; omega
theorem befM_end {ms : List Mark} (hR : Rise ms) (h0 : 0 < ms.length) {x : Int} (hx : lastT ms ≤ x) : (befM ms x).t = lastT ms := by
  have := bef_end hR h0 hx
  rw [befM_tm (by omega), this, ← lastT_some (by omega)]; rfl
theorem befM_le {ms : List Mark} (hR : Rise ms) {x : Int} (h0 : 0 ≤ bef ms x) : (befM ms x).t ≤ x := (bef_time hR (by omega)).1
end Go.Proofs.Ytkifhldkhemdlaa
namespace Go.Proofs.Ytkifhldkhemdlaa
open Go Go.VV
/-- The bytes that a time stands for. -/
def tb (t : Int) : List Int := [t % 256, t / 256 % 256, 9]
theorem LJ.nxt {b k : Nat} {cap t t' : Int} {ms : List Mark} {G D : Heap} (h : LJ b cap k t ms G D) (hn : Nxt k t t') : 0 ≤ t' := by
  have h1 := h.lo
  rcases Nat.eq_zero_or_pos k with hz | hz
  · have := hn.1 hz; omega
  · have := hn.2 hz; omega
theorem bef_nil (x : Int) : bef [] x = -1 := rfl
theorem bef_one {mk : Mark} (e : mk.t = 0) {x : Int} (hx : 0 ≤ x) : bef [mk] x = 0 := by
  have : decide (mk.t ≤ x) = true := decide_eq_true (by omega)
  simp [bef, cntLe, this]
theorem byt_t (t : Int) : IntKind.u8.wrap t = t % 256 := wrap_u8 t
theorem byt_t8 (t : Int) (h : 0 ≤ t) : IntKind.u8.wrap (shr .u64 t 8) = t / 256 % 256 := by
  rw [wrap_u8]
  have : shr .u64 t 8 = t / 256 := by
    unfold shr
    have h8 : (2 : Int) ^ min (8 : Int).toNat IntKind.u64.bits = 256 := by decide
    rw [h8, Int.fdiv_eq_ediv_of_nonneg _ (by omega)]
  rw [this]
theorem tb_keep {cap : Nat} {ms : List Mark} {mk : Mark} (h : ∀ m ∈ ms, m.l = tb m.t) (hk : mk.l = tb mk.t) : ∀ m ∈ addM cap ms mk, m.l = tb m.t := fun m hm => by
  have := (addM_sub cap ms mk).subset hm
  rcases List.mem_append.1 this with h1 | h1
  · exact h m h1
  · rw [List.mem_singleton.1 h1]; exact hk
theorem befM_tb {ms : List Mark} {x : Int} (h : ∀ m ∈ ms, m.l = tb m.t) (h0 : 0 ≤ bef ms x) : (befM ms x).l = tb (befM ms x).t := h _ (befM_mem (by omega))
end Go.Proofs.Ytkifhldkhemdlaa
