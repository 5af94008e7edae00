/- The addition of a mark, as it is used: it is taken, or it isn't. -/
import Derived.Test.YtkifhldkhemdlaaAdd
import Derived.Test.YtkifhldkhemdlaaInv
namespace Go.Proofs.Ytkifhldkhemdlaa
open Go Go.VV Go.Proofs
section
variable (b : Nat) (cap : Int) (hcap : 2 ≤ cap ∧ cap ≤ 256) (ms : List Mark) (hR : Rise ms) (hlen : ms.length < 100000000) (x : Int) (hx : 0 ≤ x) (a : Option Addr) (c : Nat) (l : List Int) (hl : l.length ≤ 140737488355328) (G : Heap) (w : World)
  (hL : LineH b cap ms G) (hst : St w (G.map (·.1)) G w) (hB : BytS w (G.map (·.1)) a l)
include hcap hR hlen hx hl hL hst hB
theorem add_ok (h : addErr ms x = 0) : Does Try.prog 11 [.pointer (some ⟨b, 0, none⟩), .int .u64 x, .slice a l.length c] w (G.map (·.1)) (fun v H => v = .int .i64 0 ∧
    ∃ mk G' D', mk.t = x ∧ mk.l = l ∧ mk.l.length ≤ mk.c ∧ H = G' ++ D' ∧ LineH b cap (addM cap.toNat ms mk) G' ∧ Byt l (.slice mk.a l.length mk.c) D') :=
  (add_fn b cap hcap.1 hcap.2 ms hR hlen x hx a c l hl G w hL hst hB).mono fun v H hA => by
    obtain ⟨rfl, h1 | h1⟩ := hA
    · exact absurd h h1.1
    · exact ⟨by rw [h], h1.2⟩
theorem add_no (e : Int) (h : addErr ms x = e) (he : e ≠ 0) : Does Try.prog 11 [.pointer (some ⟨b, 0, none⟩), .int .u64 x, .slice a l.length c] w (G.map (·.1)) (fun v H => v = .int .i64 e ∧ H = G) :=
  (add_fn b cap hcap.1 hcap.2 ms hR hlen x hx a c l hl G w hL hst hB).mono fun v H hA => by
    obtain ⟨rfl, h1 | h1⟩ := hA
    · exact ⟨by rw [h], h1.2⟩
    · exact absurd (h1.1.symm.trans h).symm he
end
/-- At a loop's turn. -/
theorem add_at {b k : Nat} {cap t t' : Int} {ms : List Mark} {G D R : Heap} (hcap : 2 ≤ cap ∧ cap ≤ 256) (h : LJ b cap k t ms G D) (hk : k < 1000000) (hn : Nxt k t t') {a : Option Addr} {c : Nat} {l : List Int} (hl : l.length ≤ 140737488355328)
    {w0 w : World} {bs : List Nat} (hw : St w0 bs (G ++ R) w) (hB : BytS w (G.map (·.1)) a l) :
    Does Try.prog 11 [.pointer (some ⟨b, 0, none⟩), .int .u64 t', .slice a l.length c] w (G.map (·.1)) (fun v H => v = .int .i64 0 ∧ ∃ mk G' D', mk.t = t' ∧ mk.l = l ∧ H = G' ++ D' ∧ LJ b cap (k + 1) t' (addM cap.toNat ms mk) G' (D' ++ D)) := by
  have h1 := h.lo; have h2 := h.len
  have ht : 0 ≤ t' := by
    rcases Nat.eq_zero_or_pos k with hz | hz
    · have := hn.1 hz; omega
    · have := hn.2 hz; omega
  refine (add_ok b cap hcap ms h.rise (by omega) t' ht a c l hl G w h.line (St.lend hw) hB (h.ok hk hn)).mono ?_
  rintro v H ⟨rfl, mk, G', D', e1, e2, e3, rfl, hL, hB⟩
  exact ⟨rfl, mk, G', D', e1, e2, rfl, h.step hk hcap.1 hn e1 e2 hl e3 hL hB⟩
/-- .. without bytes. -/
theorem add_nil {b k : Nat} {cap t t' : Int} {ms : List Mark} {G D R : Heap} (hcap : 2 ≤ cap ∧ cap ≤ 256) (h : LJ b cap k t ms G D) (hk : k < 1000000) (hn : Nxt k t t') {w0 w : World} {bs : List Nat} (hw : St w0 bs (G ++ R) w) :
    Does Try.prog 11 [.pointer (some ⟨b, 0, none⟩), .int .u64 t', .slice none 0 0] w (G.map (·.1)) (fun v H => v = .int .i64 0 ∧ ∃ mk G' D', mk.t = t' ∧ mk.l = [] ∧ H = G' ++ D' ∧ LJ b cap (k + 1) t' (addM cap.toNat ms mk) G' (D' ++ D)) :=
  add_at hcap h hk hn (l := []) (by simp) hw (.inl ⟨rfl, rfl⟩)
/-- .. where there is one as late. -/
theorem add_late {b k : Nat} {cap t t' : Int} {ms : List Mark} {G D R : Heap} (hcap : 2 ≤ cap ∧ cap ≤ 256) (h : LJ b cap k t ms G D) (hk : k < 1000000) (h0 : 0 ≤ t') (hz : 0 < k) (ht : t' ≤ t) {w0 w : World} {bs : List Nat} (hw : St w0 bs (G ++ R) w) :
    Does Try.prog 11 [.pointer (some ⟨b, 0, none⟩), .int .u64 t', .slice none 0 0] w (G.map (·.1)) (fun v H => v = .int .i64 10 ∧ H = G) := by
  have h1 := h.hi; have h2 := h.len; have h3 := h.more hz
  exact add_no b cap hcap ms h.rise (by omega) t' h0 none 0 [] (by simp) G w h.line (St.lend hw) (.inl ⟨rfl, rfl⟩) 10 (addErr_same (by omega) (by omega) (by omega)) (by decide)
theorem byt_away {w0 w : World} {bs : List Nat} {G R : Heap} (hw : St w0 bs (G ++ R) w) {b : Nat} {l : List Int} {T : TypeId} (hm : (b, Obj.cells (l.map (.int .u8)).toArray T (0, 0)) ∈ R) : BytS w (G.map (·.1)) (some ⟨b, 0, none⟩) l := by
  refine .inr ⟨b, 0, rfl, fun hb => ?_, Row.all (hw.holds _ (List.mem_append_right _ hm))⟩
  have hn := hw.nodup
  rw [List.map_append, List.nodup_append] at hn
  exact hn.2.2 b hb b (List.mem_map.2 ⟨_, hm, rfl⟩) rfl
end Go.Proofs.Ytkifhldkhemdlaa
