/- The contracts of a line, as the document draws it. -/
import Derived.Test.YtjceoaomkbabmaaMcB
import Derived.Test.YtjceoaomkbabmaaMcD
import Derived.Test.YtjceoaomkbabmaaMcF
import Derived.Test.YtjceoaomkbabmaaMcG
import Derived.Test.YtjceoaomkbabmaaMcH
import Derived.Test.YtjceoaomkbabmaaMcI
import Derived.Test.YtjceoaomkbabmaaMcJ
import Derived.Test.YtjceoaomkbabmaaMcL
import Derived.Test.YtjceoaomkbabmaaMcM
namespace Go.Proofs.Ytjceoaomkbabmaa
open Go Go.VV

structure OpL where
  kind : Int
  n : Int
  addr : Int
  x : Int
  ba : Option Addr
  bc : Nat
  B : List Int
def cO (o : OpL) : List Value := [.int .i64 o.kind, .int .i64 o.n, .int .u16 o.addr, .int .u8 o.x, .slice o.ba o.B.length o.bc]
theorem cO_len (o : OpL) : (cO o).length = 5 := rfl
structure OpL.Ok (w : World) (o : OpL) : Prop where
  n : -9223372036854775808 ≤ o.n ∧ o.n ≤ 9223372036854775807
  addr : 0 ≤ o.addr ∧ o.addr < 65536
  x : 0 ≤ o.x ∧ o.x < 256
  by_ : Byts o.B
  cap : o.B.length ≤ o.bc
  max : o.B.length ≤ maxLen
  ns : Ns w .u8 o.ba o.B
def wrN (s : PU) (addr : Int) (B : List Int) : Nat → PU
  | 0 => s
  | i + 1 => writeU (wrN s addr B i) ((addr + i) % 65536) (B.getD i 0)
def doU (s : PU) (o : OpL) : PU :=
  if o.kind = 1 then tickN (max 0 (min o.n 3000)).toNat s else if o.kind = 2 then writeU s o.addr o.x else if o.kind = 3 then spriteU s o.n o.x
  else if o.kind = 4 then wrN s o.addr o.B o.B.length else s
def runU (s : PU) (l : List OpL) : PU := l.foldl doU s
abbrev DH (b rb bv bs : Nat) (s : PU) : Heap := (b, blk (cU s) 60) :: RH rb bv bs s
theorem wrN_succ (s : PU) (addr : Int) (B : List Int) (i : Nat) : wrN s addr B (i + 1) = writeU (wrN s addr B i) ((addr + i) % 65536) (B.getD i 0) := rfl
theorem tickN_succ (s : PU) (i : Nat) : tickN (i + 1) s = tickU (tickN i s) := rfl
theorem wrN_ok {s : PU} (h : s.Ok) (addr : Int) {B : List Int} (hB : Byts B) : ∀ i, (wrN s addr B i).Ok
  | 0 => h
  | i + 1 => (wrN_ok h addr hB i).write (hB.get i)
theorem doU_ok {w : World} {s : PU} (h : s.Ok) {o : OpL} (ho : o.Ok w) : (doU s o).Ok := by
  unfold doU
  split
  · exact tickN_ok h _
  · split
    · exact h.write ho.x
    · split
      · exact h.sprite _ ho.x
      · split
        · exact wrN_ok h _ ho.by_ _
        · exact h
theorem do_1 {s : PU} {o : OpL} (h : o.kind = 1) : doU s o = tickN (max 0 (min o.n 3000)).toNat s := by unfold doU; rw [if_pos h]
theorem do_2 {s : PU} {o : OpL} (h : o.kind = 2) : doU s o = writeU s o.addr o.x := by unfold doU; rw [if_neg (by omega), if_pos h]
theorem do_3 {s : PU} {o : OpL} (h : o.kind = 3) : doU s o = spriteU s o.n o.x := by unfold doU; rw [if_neg (by omega), if_neg (by omega), if_pos h]
theorem do_4 {s : PU} {o : OpL} (h : o.kind = 4) : doU s o = wrN s o.addr o.B o.B.length := by unfold doU; rw [if_neg (by omega), if_neg (by omega), if_neg (by omega), if_pos h]
theorem do_no {s : PU} {o : OpL} (h1 : o.kind ≠ 1) (h2 : o.kind ≠ 2) (h3 : o.kind ≠ 3) (h4 : o.kind ≠ 4) : doU s o = s := by unfold doU; rw [if_neg h1, if_neg h2, if_neg h3, if_neg h4]
theorem sprite_in {s : PU} {n : Int} (x : Int) (h : 0 ≤ n ∧ n < 160) : spriteU s n x = { s with O := s.O.set n.toNat x } := by unfold spriteU; rw [if_pos h]
theorem sprite_out {s : PU} {n : Int} (x : Int) (h : ¬ (0 ≤ n ∧ n < 160)) : spriteU s n x = s := by unfold spriteU; rw [if_neg h]
/-- A byte written into memory, as an operation on the sprites that the document holds. -/
theorem RH_O (b bv bs : Nat) (s : PU) (l : List Int) : RH b bv bs { s with O := l } = [(b, blk (cW bv bs s) 48), (bv, blk (s.V.map (.int .u8)) 5), (bs, blk (l.map (.int .u8)) 5)] := rfl
structure OpL.Away (o : OpL) (ms : List Nat) : Prop where
  ne : 0 < o.B.length → ∀ p, o.ba = some p → p.block ∉ ms
theorem OpL.Ok.later {w0 w : World} {H : Heap} {o : OpL} (h : o.Ok w0) (hw : St w0 [] H w) : o.Ok w := ⟨h.n, h.addr, h.x, h.by_, h.cap, h.max, h.ns.later0 hw⟩
theorem OpL.Ok.away {w0 w : World} {H : Heap} {o : OpL} (h : o.Ok w0) (hw : St w0 [] H w) {ms : List Nat} (hm : ∀ b ∈ ms, ∃ x, (b, x) ∈ H) : o.Away ms := ⟨fun hl p hp hb => by
  obtain ⟨x, hx⟩ := hm _ hb
  exact h.ns.apart hl hw hx hp rfl⟩
theorem runU_snoc (s : PU) {l : List OpL} {i : Nat} {o : OpL} (h : l[i]? = some o) : runU s (l.take (i + 1)) = doU (runU s (l.take i)) o := by
  unfold runU; rw [get_part h, List.foldl_append]; rfl
theorem runU_ok {w : World} : ∀ {l : List OpL} {s : PU}, s.Ok → (∀ o ∈ l, o.Ok w) → (runU s l).Ok
  | [], _, h, _ => h
  | o :: l, s, h, hl => show (runU (doU s o) l).Ok from runU_ok (l := l) (s := doU s o) (doU_ok h (hl o (.head _))) fun x hx => hl x (.tail _ hx)
theorem runU_okt {w : World} {l : List OpL} {s : PU} (h : s.Ok) (hl : ∀ o ∈ l, o.Ok w) (i : Nat) : (runU s (l.take i)).Ok := runU_ok h fun o ho => hl o (List.mem_of_mem_take ho)
theorem cO_of {w : World} : ∀ cs : List Value, Nks w [.int .i64, .int .i64, .int .u16, .int .u8, .ints .u8] cs → ∃ o : OpL, cs = cO o ∧ o.Ok w := by
  intro cs h
  have hl := h.len
  match cs, hl with
  | [v1, v2, v3, v4, v5], _ =>
    obtain ⟨h1, h2, h3, h4, h5, _⟩ := h
    obtain ⟨k, rfl, _⟩ := h1
    obtain ⟨n, rfl, hn⟩ := h2
    obtain ⟨a, rfl, ha⟩ := h3
    obtain ⟨x, rfl, hx⟩ := h4
    obtain ⟨ba, bc, B, rfl, e1, e2, e3, e4⟩ := h5
    exact ⟨⟨k, n, a, x, ba, bc, B⟩, rfl, wf_i64 hn, wf_u16 ha, wf_u8 hx, byts_of e3, e1, e2, e4⟩
end Go.Proofs.Ytjceoaomkbabmaa
namespace Go.Proofs.Ytjceoaomkbabmaa
open Go Go.VV Go.Proofs
set_option linter.unusedSimpArgs false
set_option linter.unusedVariables false
set_option maxRecDepth 100000
theorem grow_fn (n : Nat) (hn : n ≤ 1000000) (w : World) : Does Try.prog 54 [.slice none 0 0, .int .i64 n] w [] (fun v H => Vec 5 1 v 0 [] H) := by
  refine does_of Try.func54 rfl rfl rfl (St.refl w) ?_
  refine c_seq ?_
  refine c_region ?_
  refine l_l rfl rfl rfl ?_
  refine l_nil ?_
  refine c_seq ?_
  refine c_seq ?_
  refine c_region ?_
  refine l_l rfl rfl rfl ?_
  refine l_sure false rfl rfl rfl (by simp) ?_
  refine l_nil ?_
  refine c_false rfl ?_
  refine c_skip ?_
  refine c_seq ?_
  refine c_seq ?_
  refine c_region ?_
  refine l_l rfl rfl rfl ?_
  refine l_l rfl rfl rfl ?_
  refine l_l (light_cap rfl rfl) rfl rfl ?_
  refine l_l rfl rfl rfl ?_
  refine l_l (by first | exact light_len rfl rfl | exact light_lens rfl rfl | rfl) rfl rfl ?_
  refine l_as (v := (.int .i64 0)) rfl rfl rfl rfl ?_
  refine l_as (v := (.int .i64 (n : Int))) rfl rfl rfl (congrArg _ (by rw [Int.sub_zero]; exact wrap_i64 (by omega) (by omega))) ?_
  refine l_l rfl rfl rfl ?_
  refine l_nil ?_
  refine c_seq ?_
  refine c_region ?_
  refine l_l rfl rfl rfl ?_
  refine l_l rfl rfl rfl ?_
  refine l_nil ?_
  refine c_cond rfl (fun h1 => ?_) (fun h1 => ?_)
  · have h1n := by first | exact of_decide_eq_true h1 | exact of_decide_eq_false h1 | exact eq_of_beq h1 | exact ne_of_beq_false h1 | exact bne_t h1 | exact bne_f h1 | exact h1
    refine c_region ?_
    refine l_l rfl rfl rfl ?_
    refine l_l rfl rfl rfl ?_
    refine l_l (light_cap rfl rfl) rfl rfl ?_
    refine l_l (cut_pre 0 rfl rfl rfl rfl (by decide)) rfl rfl ?_
    refine l_l rfl rfl rfl ?_
    refine l_x (x_append0M (n := n) (T := 5) (s := 1) (by_ := 1) rfl rfl rfl rfl rfl (by omega) hn (by decide)) rfl rfl ?_
    rintro _ _ ⟨b22, cap, sp, rfl, rfl, hsp, hcap, hcm⟩
    refine l_l rfl rfl rfl ?_
    refine l_l (by first | exact light_len rfl rfl | exact light_lens rfl rfl | rfl) rfl rfl ?_
    refine l_l (cut_pre 0 rfl rfl rfl rfl (by omega)) rfl rfl ?_
    refine l_l rfl rfl rfl ?_
    refine l_nil ?_
    refine c_seq ?_
    refine c_region ?_
    refine l_l rfl rfl rfl ?_
    refine l_l rfl rfl rfl ?_
    refine l_nil ?_
    refine c_ret ?_
    exact l_end (fun _ _ => rets_v rfl) (List.Sublist.refl _) (.row b22 0 cap [] sp rfl (by simpa using hsp) hcm (Nat.zero_le _))
  · have h1n := by first | exact of_decide_eq_true h1 | exact of_decide_eq_false h1 | exact eq_of_beq h1 | exact ne_of_beq_false h1 | exact bne_t h1 | exact bne_f h1 | exact h1
    refine c_skip ?_
    refine c_seq ?_
    refine c_region ?_
    refine l_l rfl rfl rfl ?_
    refine l_l rfl rfl rfl ?_
    refine l_nil ?_
    refine c_ret ?_
    exact l_end0 (fun _ _ => rets_v rfl) .nil

theorem concat_fn (b : Nat) (S : List Sg) (w : World) (hr : Row w b 0 (flat cSg S)) (hn : S.length ≤ 1000) (hs : ∀ s ∈ S, Ns w .u8 s.a s.l ∧ s.l.length ≤ s.c) (hl : (catS S).length ≤ 1000000) :
    Does Try.prog 42 [.slice (some ⟨b, 0, none⟩) S.length S.length] w [] (fun v H => Vec 5 1 v (catS S).length ((catS S).map (.int .u8)) H) := by
  refine does_of Try.func42 rfl rfl rfl (St.refl w) ?_
  refine c_seq ?_
  refine c_region ?_
  refine l_l rfl rfl rfl ?_
  refine l_nil ?_
  refine c_seq ?_
  refine c_region ?_
  refine l_l rfl rfl rfl ?_
  refine l_nil ?_
  refine c_seq ?_
  refine c_seq ?_
  refine c_region ?_
  refine l_l rfl rfl rfl ?_
  refine l_l (by first | exact light_len rfl rfl | exact light_lens rfl rfl | rfl) rfl rfl ?_
  refine l_l rfl rfl rfl ?_
  refine l_nil ?_
  refine c_block ?_
  refine c_loopk (σ := Nat) [3, 5, 11, 12, 13, 14, 15, 16, 17, 18, 19, 20, 21, 22] (fun i => [(3, .int .i64 ((catS (S.take i)).length : Int)), (11, .int .i64 i)]) (fun i => i ≤ S.length) (fun i => S.length - i) 0 ?_ ?_ ?_
  · exact Nat.zero_le _
  · exact .cons rfl (.cons rfl .nil)
  · intro i y3 hi
    have hc0 := catS_le S i
    refine c_seq ?_
    refine c_region ?_
    refine l_l rfl rfl rfl ?_
    refine l_nil ?_
    refine c_seq ?_
    refine c_cond rfl (fun h1 => ?_) (fun h1 => ?_)
    · have h1n := by first | exact of_decide_eq_true h1 | exact of_decide_eq_false h1 | exact eq_of_beq h1 | exact ne_of_beq_false h1 | exact bne_t h1 | exact bne_f h1 | exact h1
      refine c_skip ?_
      refine c_seq ?_
      refine c_block ?_
      refine c_seq ?_
      obtain ⟨s, hsi⟩ : ∃ s, S[i]? = some s := ⟨_, get_some (by omega)⟩
      have hc1 := catS_snoc S i hsi
      have hc2 := catS_le S (i + 1)
      have hc3 := congrArg List.length hc1
      rw [List.length_append] at hc3
      refine c_region ?_
      refine l_l (idx_slice1 i rfl rfl rfl rfl (by omega)) rfl rfl ?_
      refine l_x (x_load rfl rfl (fun w hw => by have h9 := (row_old hr (by simp) w hw).at cSg_len hsi 0 rfl; simpa using h9)) rfl rfl ?_
      rintro _ _ ⟨rfl, rfl⟩
      refine l_l rfl rfl rfl ?_
      refine l_nil ?_
      refine c_seq ?_
      refine c_region ?_
      refine l_l rfl rfl rfl ?_
      refine l_l rfl rfl rfl ?_
      refine l_l (light_len (a := s.a) (c := s.c) rfl rfl) rfl rfl ?_
      refine l_as (v := (.int .i64 (((catS (S.take i)).length : Int) + (s.l.length : Int)))) rfl rfl rfl (congrArg _ (wrap_i64 (by omega) (by omega))) ?_
      refine l_l rfl rfl rfl ?_
      refine l_nil ?_
      refine c_seq ?_
      refine c_region ?_
      refine l_l rfl rfl rfl ?_
      refine l_sure false rfl rfl rfl (by simp; omega) ?_
      refine l_nil ?_
      refine c_false rfl ?_
      refine c_skip ?_
      refine c_region ?_
      refine l_as (v := (.int .i64 ((i + 1 : Nat) : Int))) rfl rfl rfl (congrArg _ (succ_law (by omega))) ?_
      refine l_l rfl rfl rfl ?_
      refine l_nil ?_
      exact ⟨i + 1, by omega, by omega, .cons (congrArg (Value.int .i64) (show (((catS (S.take i)).length : Int) + (s.l.length : Int)) = ((catS (S.take (i + 1))).length : Int) by omega)) (.cons rfl .nil), (by repeat (first | exact Agree.refl _ _ | exact Agree.mix rfl | refine Agree.put rfl ?_ | refine Agree.keep rfl ?_)), fun _ h => h⟩
    · have h1n := by first | exact of_decide_eq_true h1 | exact of_decide_eq_false h1 | exact eq_of_beq h1 | exact ne_of_beq_false h1 | exact bne_t h1 | exact bne_f h1 | exact h1
      refine c_exit rfl ?_
      refine c_seq ?_
      obtain rfl : S.length = i := by omega
      rw [List.take_length]
      refine c_region ?_
      refine l_l rfl rfl rfl ?_
      refine l_x (x_call call_54 rfl (fun w hw => grow_fn _ (by omega) w)) rfl rfl ?_
      rintro v24 _ ⟨G24, hV24, rfl⟩
      refine l_as' (v := v24) rfl rfl rfl ?_
      refine l_nil ?_
      refine c_seq ?_
      refine c_seq ?_
      refine c_region ?_
      refine l_l rfl rfl rfl ?_
      refine l_l (by first | exact light_len rfl rfl | exact light_lens rfl rfl | rfl) rfl rfl ?_
      refine l_l rfl rfl rfl ?_
      refine l_nil ?_
      refine c_block ?_
      refine c_loop (σ := Nat × Value × Heap) [6, 8, 27, 28, 29, 30, 31, 32, 33, 34] (fun s => [(6, s.2.1), (27, .int .i64 s.1)]) (fun s => s.2.2 ++ []) (fun s => s.1 ≤ S.length ∧ Vec 5 1 s.2.1 (catS (S.take s.1)).length ((catS (S.take s.1)).map (.int .u8)) s.2.2) (fun s => S.length - s.1) (0, v24, G24) ?_ ?_ ?_ ?_
      · exact ⟨Nat.zero_le _, hV24⟩
      · exact .cons rfl (.cons rfl .nil)
      · exact fun _ h => h
      · rintro ⟨i, v6, G6⟩ y11 ⟨hi, hV6⟩
        dsimp only at hi hV6 ⊢
        obtain ⟨a6, c6, rfl⟩ := hV6.slice
        have hle6 := hV6.cap_le.1
        refine c_seq ?_
        refine c_region ?_
        refine l_l rfl rfl rfl ?_
        refine l_nil ?_
        refine c_seq ?_
        refine c_cond rfl (fun h2 => ?_) (fun h2 => ?_)
        · have h2n := by first | exact of_decide_eq_true h2 | exact of_decide_eq_false h2 | exact eq_of_beq h2 | exact ne_of_beq_false h2 | exact bne_t h2 | exact bne_f h2 | exact h2
          refine c_skip ?_
          refine c_seq ?_
          refine c_block ?_
          refine c_seq ?_
          obtain ⟨s, hsi⟩ : ∃ s, S[i]? = some s := ⟨_, get_some (by omega)⟩
          obtain ⟨hsN, hsc⟩ := hs s (List.mem_of_getElem? hsi)
          have hc1 := catS_snoc S i hsi
          have hc2 := catS_le S (i + 1)
          have hc3 := congrArg List.length hc1
          rw [List.length_append] at hc3
          rcases (show s.l.length = 0 ∨ 0 < s.l.length by omega) with hs0 | hs1
          · refine c_region ?_
            refine l_l (idx_slice1 i rfl rfl rfl rfl (by omega)) rfl rfl ?_
            refine l_x (x_load rfl rfl (fun w hw => by have h9 := (row_old hr (by simp) w hw).at cSg_len hsi 0 rfl; simpa using h9)) rfl rfl ?_
            rintro _ _ ⟨rfl, rfl⟩
            refine l_l rfl rfl rfl ?_
            refine l_nil ?_
            refine c_region ?_
            refine l_l rfl rfl rfl ?_
            refine l_l rfl rfl rfl ?_
            refine l_x (x_appendZ rfl rfl hs0 rfl rfl hle6) rfl rfl ?_
            rintro _ _ ⟨rfl, rfl⟩
            refine l_l rfl rfl rfl ?_
            refine l_nil ?_
            refine c_region ?_
            refine l_as (v := (.int .i64 ((i + 1 : Nat) : Int))) rfl rfl rfl (congrArg _ (succ_law (by omega))) ?_
            refine l_l rfl rfl rfl ?_
            refine l_nil ?_
            exact ⟨(i + 1, _, G6), ⟨by omega, by rw [hc1, List.eq_nil_of_length_eq_zero hs0, List.append_nil]; exact hV6⟩, by omega, .cons rfl (.cons rfl .nil), (by repeat (first | exact Agree.refl _ _ | exact Agree.mix rfl | refine Agree.put rfl ?_ | refine Agree.keep rfl ?_)), fun _ h => h⟩
          · refine c_region ?_
            refine l_l (idx_slice1 i rfl rfl rfl rfl (by omega)) rfl rfl ?_
            refine l_x (x_load rfl rfl (fun w hw => by have h9 := (row_old hr (by simp) w hw).at cSg_len hsi 0 rfl; simpa using h9)) rfl rfl ?_
            rintro _ _ ⟨rfl, rfl⟩
            refine l_l rfl rfl rfl ?_
            refine l_nil ?_
            refine c_region ?_
            refine l_l rfl rfl rfl ?_
            refine l_l rfl rfl rfl ?_
            obtain ⟨bs9, os9, has9, hrs⟩ := hsN hs1
            rw [has9]
            refine l_x (x_appendE (A := []) (G := G6 ++ []) (n := (catS (S.take i)).length) (m := s.l.length) (T := 5) (s := 1) (by_ := 1) (ys := s.l.map (.int .u8)) rfl rfl rfl rfl (by rw [List.append_nil]; exact hV6) (fun w hw => .row _ _ _ _ _ (by simp) (row_old hrs (by simp) w hw)) (ones_int _ _) (by omega) (by omega)) rfl rfl ?_
            rintro v33 _ ⟨G33, hV33, _, rfl⟩
            obtain ⟨a33, c33, rfl⟩ := hV33.slice
            refine l_l rfl rfl rfl ?_
            refine l_nil ?_
            refine c_region ?_
            refine l_as (v := (.int .i64 ((i + 1 : Nat) : Int))) rfl rfl rfl (congrArg _ (succ_law (by omega))) ?_
            refine l_l rfl rfl rfl ?_
            refine l_nil ?_
            exact ⟨(i + 1, _, G33), ⟨by omega, hV33.as hc3.symm (by rw [hc1, List.map_append])⟩, by omega, .cons rfl (.cons rfl .nil), (by repeat (first | exact Agree.refl _ _ | exact Agree.mix rfl | refine Agree.put rfl ?_ | refine Agree.keep rfl ?_)), fun _ h => h⟩
        · have h2n := by first | exact of_decide_eq_true h2 | exact of_decide_eq_false h2 | exact eq_of_beq h2 | exact ne_of_beq_false h2 | exact bne_t h2 | exact bne_f h2 | exact h2
          refine c_exit rfl ?_
          refine c_seq ?_
          obtain rfl : S.length = i := by omega
          refine c_region ?_
          refine l_l rfl rfl rfl ?_
          refine l_l rfl rfl rfl ?_
          refine l_nil ?_
          refine c_ret ?_
          exact l_end (fun _ _ => rets_v rfl) (List.sublist_append_left _ _) (by have h9 := hV6; simp only [List.take_length] at h9 ⊢; exact h9)

theorem flag_fn (is : Bool) (w : World) : Does Try.prog 43 [.bool is] w [] (fun v H => H = [] ∧ v = .int .u8 (boolI is)) := by
  refine does_of Try.func43 rfl rfl rfl (St.refl w) ?_
  refine c_seq ?_
  refine c_region ?_
  refine l_l rfl rfl rfl ?_
  refine l_nil ?_
  refine c_seq ?_
  refine c_seq ?_
  refine c_region ?_
  refine l_l rfl rfl rfl ?_
  refine l_nil ?_
  refine c_cond rfl (fun h1 => ?_) (fun h1 => ?_)
  · have h1n := by first | exact of_decide_eq_true h1 | exact of_decide_eq_false h1 | exact eq_of_beq h1 | exact ne_of_beq_false h1 | exact bne_t h1 | exact bne_f h1 | exact h1
    refine c_seq ?_
    refine c_region ?_
    refine l_l rfl rfl rfl ?_
    refine l_nil ?_
    refine c_ret ?_
    exact l_end0 (fun _ _ => rets_v rfl) ⟨rfl, by subst h1; rfl⟩
  · have h1n := by first | exact of_decide_eq_true h1 | exact of_decide_eq_false h1 | exact eq_of_beq h1 | exact ne_of_beq_false h1 | exact bne_t h1 | exact bne_f h1 | exact h1
    refine c_skip ?_
    refine c_seq ?_
    refine c_region ?_
    refine l_l rfl rfl rfl ?_
    refine l_nil ?_
    refine c_ret ?_
    exact l_end0 (fun _ _ => rets_v rfl) ⟨rfl, by subst h1; rfl⟩

theorem row_fn (b : Nat) (u : PU) (hu : u.Wf) (w : World) (hr : Row w b 0 (cU u)) (n : Int) : Does Try.prog 23 [.pointer (some ⟨b, 0, none⟩), .int .i64 n] w [] (fun v H => H = [] ∧ v = .agg ((rowAt u n).map (.int .u8)).toArray) := by
  refine does_of Try.func23 rfl rfl rfl (St.refl w) ?_
  refine c_seq ?_
  refine c_region ?_
  refine l_x (x_alloc (l := (List.replicate 160 0).map (.int .u8)) (by kernel_rfl)) rfl rfl ?_
  rintro _ _ ⟨b4, rfl, rfl⟩
  refine l_nil ?_
  refine c_seq ?_
  refine c_seq ?_
  refine c_region ?_
  refine l_l rfl rfl rfl ?_
  refine l_l rfl rfl rfl ?_
  refine l_l rfl rfl rfl ?_
  refine l_l rfl rfl rfl ?_
  refine l_l rfl rfl rfl ?_
  refine l_l rfl rfl rfl ?_
  refine l_b rfl rfl rfl (fun h1 => ?_) (fun h1 => ?_)
  · have h1n := by first | exact of_decide_eq_true h1 | exact of_decide_eq_false h1 | exact eq_of_beq h1 | exact ne_of_beq_false h1 | exact bne_t h1 | exact bne_f h1 | exact h1
    refine l_p rfl rfl ?_
    refine l_p rfl rfl ?_
    refine l_l rfl rfl rfl ?_
    refine l_nil ?_
    refine c_true rfl ?_
    refine c_seq ?_
    refine c_region ?_
    refine l_l (light_array (l := (List.replicate 160 0).map (.int .u8)) (z := (List.replicate 160 0).map (.int .u8)) (ps := []) rfl (by kernel_rfl) rfl rfl) rfl rfl ?_
    refine l_x (x_storeTo (l' := (rowAt u n).map (.int .u8)) 0 rfl rfl rfl rfl (ones_int _ _) rfl (by simp) (by rw [rowAt_out (by omega)]; exact putL_all rfl)) rfl rfl ?_
    rintro _ _ ⟨rfl, rfl⟩
    refine l_nil ?_
    refine c_ret ?_
    exact ends_of (fun w hw => rets_cell rfl rfl (by rw [List.length_map, rowAt_len hu]; rfl) (row_own (.head _) w hw)) (fun _ h => h.sub (List.nil_sublist _)) ⟨rfl, rfl⟩
  · have h1n := by first | exact of_decide_eq_true h1 | exact of_decide_eq_false h1 | exact eq_of_beq h1 | exact ne_of_beq_false h1 | exact bne_t h1 | exact bne_f h1 | exact h1
    refine l_l rfl rfl rfl ?_
    refine l_l rfl rfl rfl ?_
    refine l_l rfl rfl rfl ?_
    refine l_nil ?_
    refine c_cond rfl (fun h2 => ?_) (fun h2 => ?_)
    · have h2n := by first | exact of_decide_eq_true h2 | exact of_decide_eq_false h2 | exact eq_of_beq h2 | exact ne_of_beq_false h2 | exact bne_t h2 | exact bne_f h2 | exact h2
      refine c_seq ?_
      refine c_region ?_
      refine l_l (light_array (l := (List.replicate 160 0).map (.int .u8)) (z := (List.replicate 160 0).map (.int .u8)) (ps := []) rfl (by kernel_rfl) rfl rfl) rfl rfl ?_
      refine l_x (x_storeTo (l' := (rowAt u n).map (.int .u8)) 0 rfl rfl rfl rfl (ones_int _ _) rfl (by simp) (by rw [rowAt_out (by omega)]; exact putL_all rfl)) rfl rfl ?_
      rintro _ _ ⟨rfl, rfl⟩
      refine l_nil ?_
      refine c_ret ?_
      exact ends_of (fun w hw => rets_cell rfl rfl (by rw [List.length_map, rowAt_len hu]; rfl) (row_own (.head _) w hw)) (fun _ h => h.sub (List.nil_sublist _)) ⟨rfl, rfl⟩
    · have h2n := by first | exact of_decide_eq_true h2 | exact of_decide_eq_false h2 | exact eq_of_beq h2 | exact ne_of_beq_false h2 | exact bne_t h2 | exact bne_f h2 | exact h2
      refine c_skip ?_
      refine c_seq ?_
      refine c_region ?_
      refine l_l rfl rfl rfl ?_
      refine l_l rfl rfl rfl ?_
      refine l_l rfl rfl rfl ?_
      refine l_l (light_fa rfl rfl) rfl rfl ?_
      refine l_l (idx_array (s := 160) n.toNat rfl rfl rfl (by omega) (by omega)) rfl rfl ?_
      refine l_x (x_loadA rfl rfl (by rw [List.length_map, ← rowAt_in (by omega), rowAt_len hu]; rfl) (row_old (rowPi hu hr (i := n.toNat) (by omega)) (by simp))) rfl rfl ?_
      rintro _ _ ⟨rfl, rfl⟩
      refine l_x (x_storeTo (l' := (rowAt u n).map (.int .u8)) 0 rfl rfl rfl (by rw [List.length_map, ← rowAt_in (by omega), rowAt_len hu]; rfl) (ones_int _ _) rfl (by rw [List.length_map, ← rowAt_in (by omega), rowAt_len hu]; simp) (by rw [← rowAt_in (by omega)]; exact putL_all (by rw [List.length_map, rowAt_len hu]; simp))) rfl rfl ?_
      rintro _ _ ⟨rfl, rfl⟩
      refine l_nil ?_
      refine c_ret ?_
      exact ends_of (fun w hw => rets_cell rfl rfl (by rw [List.length_map, rowAt_len hu]; rfl) (row_own (.head _) w hw)) (fun _ h => h.sub (List.nil_sublist _)) ⟨rfl, rfl⟩

end Go.Proofs.Ytjceoaomkbabmaa
namespace Go.Proofs.Ytjceoaomkbabmaa
open Go Go.VV Go.Proofs
set_option linter.unusedSimpArgs false
set_option linter.unusedVariables false
set_option maxRecDepth 100000
set_option maxHeartbeats 1000000 in
theorem enc_fn (b : Nat) (u : PU) (hu : u.Wf) (w : World) (hr : Row w b 0 (cU u)) : Does Try.prog 25 [.pointer (some ⟨b, 0, none⟩)] w [] (fun v H => Vec 5 1 v (encU u).length ((encU u).map (.int .u8)) H) := by
  have hdb := hu.dot
  have hlb := hu.line
  have hob := hu.own
  have hfb := hu.frames
  refine does_of Try.func25 rfl rfl rfl (St.refl w) ?_
  refine c_seq ?_
  refine c_region ?_
  refine l_l rfl rfl rfl ?_
  refine l_nil ?_
  refine c_seq ?_
  refine c_seq ?_
  refine c_region ?_
  refine l_l rfl rfl rfl ?_
  refine l_l rfl rfl rfl ?_
  refine l_nil ?_
  refine c_false rfl ?_
  refine c_skip ?_
  refine c_seq ?_
  refine c_region ?_
  refine l_l rfl rfl rfl ?_
  refine l_l rfl rfl rfl ?_
  refine l_l (light_fa rfl rfl) rfl rfl ?_
  refine l_x (x_loadA rfl rfl (by rw [List.length_map, hu.lR]; rfl) (row_old (rowR hu hr) (by simp))) rfl rfl ?_
  rintro _ _ ⟨rfl, rfl⟩
  refine l_x (x_alloc rfl) rfl rfl ?_
  rintro _ _ ⟨b3, rfl, rfl⟩
  refine l_x (x_storeTo (l' := u.R.map (.int .u8)) 0 rfl rfl rfl (by rw [List.length_map, hu.lR]; rfl) (ones_int _ _) rfl (by rw [List.length_map, hu.lR]; simp) (putL_all (by rw [List.length_map, hu.lR]; rfl))) rfl rfl ?_
  rintro _ _ ⟨rfl, rfl⟩
  refine l_nil ?_
  refine c_seq ?_
  refine c_region ?_
  refine l_l rfl rfl rfl ?_
  refine l_l rfl rfl rfl ?_
  refine l_l (light_fa rfl rfl) rfl rfl ?_
  refine l_x (x_load rfl rfl (at_old (get0 hr (cU_line hu)) (by simp))) rfl rfl ?_
  rintro _ _ ⟨rfl, rfl⟩
  refine l_as (l_conv rfl rfl rfl) rfl rfl (by first | exact as_u8 (by omega) (by omega) | exact as_u8m _) ?_
  refine l_l (by first | exact idx_array1 4 rfl rfl rfl rfl (by decide) | exact idx_slice1 4 rfl rfl rfl rfl (by decide) | exact idx_array 4 rfl rfl rfl rfl (by decide) | exact idx_slice 4 rfl rfl rfl rfl (by decide)) rfl rfl ?_
  refine l_x (x_storeTo (l' := (r4 u).map (.int .u8)) 0 rfl rfl rfl rfl rfl rfl (by rw [List.length_map, hu.lR]; simp) (putL_int .u8 (by rw [hu.lR]; decide) _)) rfl rfl ?_
  rintro _ _ ⟨rfl, rfl⟩
  refine l_nil ?_
  refine c_seq ?_
  have hl83 := segsE_len hu b b3
  refine c_draw _ [] (.step true 0 (.step true 1 (.step true 2 (.step true 3 (.step true 4 (.step true 5 (.step true 6 (.step true 7 (.step true 8 (.step true 9 (.step false 10 (.step false 11 (.step true 12 .done))))))))))))) rfl (by kernel_rfl) (by kernel_rfl) (fun _ h => h) ?_
  refine d_light rfl rfl rfl rfl rfl ?_
  refine d_light rfl rfl rfl rfl rfl ?_
  refine d_light rfl (light_fa rfl rfl) rfl rfl rfl ?_
  refine d_as (v := (.slice (some ⟨b, 0, none⟩) u.V.length 8192)) rfl (cut_array1 0 8192 rfl rfl rfl rfl rfl rfl (by decide) (by decide)) rfl rfl rfl (by rw [hu.lV]; rfl) ?_
  refine d_light rfl rfl rfl rfl rfl ?_
  refine d_light rfl rfl rfl rfl rfl ?_
  refine d_light rfl (light_fa rfl rfl) rfl rfl rfl ?_
  refine d_as (v := (.slice (some ⟨b, 8192, none⟩) u.O.length 160)) rfl (cut_array1 0 160 rfl rfl rfl rfl rfl rfl (by decide) (by decide)) rfl rfl rfl (by rw [hu.lO]; rfl) ?_
  refine d_as (v := (.slice (some ⟨b3, 0, none⟩) ((r4 u).take 6).length 12)) rfl (cut_array1 0 6 rfl rfl rfl rfl rfl rfl (by decide) (by decide)) rfl rfl rfl (by rw [List.length_take, r4_len hu]; rfl) ?_
  refine d_as (v := (.slice (some ⟨b3, 7, none⟩) ((r4 u).drop 7).length 5)) rfl (cut_array1 7 12 rfl rfl rfl rfl rfl rfl (by decide) (by decide)) rfl rfl rfl (by rw [List.length_drop, r4_len hu]; rfl) ?_
  refine d_x rfl (x_slc rfl rfl rfl rfl rfl rfl) rfl rfl (by intro h; cases h) ?_
  rintro _ _ ⟨b28, rfl, rfl⟩
  refine d_x rfl (x_call call_42 (vs := [.slice (some ⟨b28, 0, none⟩) 4 4]) rfl (fun w hw => concat_fn b28 (segsE u b b3) w (row_own (by repeat (first | exact .head _ | refine .tail _ ?_ | refine List.mem_append_right _ ?_)) w hw) (by simp [segsE]) (segsE_ok hu (row_old hr (by simp) w hw) (row_own (by repeat (first | exact .head _ | refine .tail _ ?_ | refine List.mem_append_right _ ?_)) w hw)) (by omega))) rfl rfl (by intro h; cases h) ?_
  rintro v29 _ ⟨G29, hV29, rfl⟩
  obtain ⟨a29, c29, rfl⟩ := hV29.slice
  refine d_light rfl rfl rfl rfl rfl ?_
  refine d_nil ?_
  refine c_seq ?_
  refine c_draw _ [6, 7, 8, 9, 10, 11, 12, 13, 14, 15, 16, 17, 18, 19, 20, 21, 22, 23, 24, 25, 26] (.step true 0 (.step true 1 (.step true 2 (.step true 3 (.step true 4 (.step true 5 (.step true 6 (.step true 7 (.step true 8 (.step true 9 (.step true 10 (.step true 11 (.step true 12 (.step true 13 (.step true 14 (.step true 15 (.step true 16 (.step true 17 (.step true 18 (.step true 19 (.step true 20 (.step true 21 (.step true 22 (.step true 23 (.step true 24 (.step true 25 (.step false 26 (.step false 27 (.step false 28 (.step true 29 .done)))))))))))))))))))))))))))))) rfl (by kernel_rfl) (by kernel_rfl) (fun _ h => h) ?_
  refine d_light rfl rfl rfl rfl rfl ?_
  refine d_light rfl rfl rfl rfl rfl ?_
  refine d_light rfl rfl rfl rfl rfl ?_
  refine d_light rfl (light_fa rfl rfl) rfl rfl rfl ?_
  refine d_load rfl rfl rfl (s_old (get0 hr (cU_dot hu)) (by simp)) rfl rfl ?_
  refine d_as rfl (l_conv rfl rfl rfl) rfl rfl rfl (by first | exact as_u8 (by omega) (by omega) | exact as_u8m _) ?_
  refine d_light rfl rfl rfl rfl rfl ?_
  refine d_light rfl rfl rfl rfl rfl ?_
  refine d_light rfl (light_fa rfl rfl) rfl rfl rfl ?_
  refine d_load rfl rfl rfl (s_old (get0 hr (cU_own hu)) (by simp)) rfl rfl ?_
  refine d_as rfl (l_conv rfl rfl rfl) rfl rfl rfl (by first | exact as_u8 (by omega) (by omega) | exact as_u8m _) ?_
  refine d_light rfl rfl rfl rfl rfl ?_
  refine d_light rfl rfl rfl rfl rfl ?_
  refine d_light rfl (light_fa rfl rfl) rfl rfl rfl ?_
  refine d_load rfl rfl rfl (s_old (get0 hr (cU_frames hu)) (by simp)) rfl rfl ?_
  refine d_as rfl (l_conv rfl rfl rfl) rfl rfl rfl (by first | exact as_u8 (by omega) (by omega) | exact as_u8m _) ?_
  refine d_light rfl rfl rfl rfl rfl ?_
  refine d_light rfl rfl rfl rfl rfl ?_
  refine d_light rfl (light_fa rfl rfl) rfl rfl rfl ?_
  refine d_load rfl rfl rfl (s_old (get0 hr (cU_frames hu)) (by simp)) rfl rfl ?_
  refine d_as rfl (shr_pos rfl rfl (by decide)) rfl rfl rfl (as_shr 256 (by decide) (by decide)) ?_
  refine d_as rfl (l_conv rfl rfl rfl) rfl rfl rfl (by first | exact as_u8 (by omega) (by omega) | exact as_u8m _) ?_
  refine d_light rfl rfl rfl rfl rfl ?_
  refine d_light rfl rfl rfl rfl rfl ?_
  refine d_light rfl (light_fa rfl rfl) rfl rfl rfl ?_
  refine d_load rfl rfl rfl (s_old (get0 hr (cU_sig hu)) (by simp)) rfl rfl ?_
  refine d_x rfl (x_val call_43 rfl (fun w hw => flag_fn u.sig w)) rfl rfl (by intro _ _ _ hK x hx; obtain ⟨rfl, rfl⟩ := hK; repeat (first | exact hx | exact List.mem_append_left _ hx | refine List.mem_append_right _ ?_ | refine .tail _ ?_)) ?_
  rintro _ _ ⟨rfl, rfl⟩
  refine d_x rfl (x_slc rfl rfl rfl rfl rfl rfl) rfl rfl (by intro h; cases h) ?_
  rintro _ _ ⟨b57, rfl, rfl⟩
  refine d_heap (H' := [(b57, _)] ++ G29) (fun _ h => St.fl [[_], G29, [_], [_]] [0, 1] rfl h) ?_
  refine d_x rfl (x_appendE (A := [(b57, blk ((tailE u).map (.int .u8)) 5)]) (G := G29) (n := (catS (segsE u b b3)).length) (m := 5) (T := 5) (s := 1) (by_ := 1) (ys := (tailE u).map (.int .u8)) rfl rfl rfl rfl hV29 (fun w hw => .row _ _ _ _ _ rfl (row_own (.head _) w hw)) (ones_int _ _) (by omega) (by omega)) rfl rfl (by intro h; cases h) ?_
  rintro v58 _ ⟨G58, hV58, _, rfl⟩
  refine d_as' (v := v58) rfl rfl rfl rfl ?_
  refine d_nil ?_
  refine c_seq ?_
  refine c_seq ?_
  have hV5 : Vec 5 1 v58 (headE u).length ((headE u).map (.int .u8)) G58 := hV58.as (by rw [headE_len hu, segsE_len hu]) (by rw [segsE_cat]; simp [headE])
  refine c_region ?_
  refine l_l rfl rfl rfl ?_
  refine l_nil ?_
  refine c_block ?_
  refine c_loop (σ := Nat × Value × Heap) [4, 5, 59, 60, 61, 62, 63, 64, 65, 66, 67, 68, 69, 70] (fun s => [(4, s.2.1), (59, .int .i64 s.1)]) (fun s => s.2.2 ++ []) (fun s => s.1 ≤ 144 ∧ Vec 5 1 s.2.1 (headE u ++ u.P.take (s.1 * 160)).length ((headE u ++ u.P.take (s.1 * 160)).map (.int .u8)) s.2.2) (fun s => 144 - s.1) (0, v58, G58) ?_ ?_ ?_ ?_
  · exact ⟨Nat.zero_le _, by simpa using hV5⟩
  · exact .cons rfl (.cons rfl .nil)
  · exact fun _ h => h.sub ((List.Sublist.refl _).append (List.nil_sublist _))
  · rintro ⟨i, v4, G4⟩ y8 ⟨hi, hV4⟩
    dsimp only at hi hV4 ⊢
    obtain ⟨a4, c4, rfl⟩ := hV4.slice
    have hl4 : (headE u ++ u.P.take (i * 160)).length ≤ 31408 := by rw [List.length_append, headE_len hu, List.length_take, hu.lP]; omega
    refine c_seq ?_
    refine c_region ?_
    refine l_l rfl rfl rfl ?_
    refine l_nil ?_
    refine c_seq ?_
    refine c_cond rfl (fun h1 => ?_) (fun h1 => ?_)
    · have h1n := by first | exact of_decide_eq_true h1 | exact of_decide_eq_false h1 | exact eq_of_beq h1 | exact ne_of_beq_false h1 | exact bne_t h1 | exact bne_f h1 | exact h1
      refine c_skip ?_
      refine c_seq ?_
      refine c_block ?_
      refine c_seq ?_
      refine c_region ?_
      refine l_l rfl rfl rfl ?_
      refine l_l rfl rfl rfl ?_
      refine l_nil ?_
      have hi144 : i < 144 := by omega
      refine c_region ?_
      refine l_l rfl rfl rfl ?_
      refine l_l rfl rfl rfl ?_
      refine l_l rfl rfl rfl ?_
      refine l_l rfl rfl rfl ?_
      refine l_l (light_fa rfl rfl) rfl rfl ?_
      refine l_l (idx_array (s := 160) i rfl rfl rfl rfl (by omega)) rfl rfl ?_
      refine l_as (v := (.slice (some ⟨b, 8369 + i * 160, none⟩) 160 160)) (cut_array1 0 160 rfl rfl rfl rfl rfl rfl (by decide) (by decide)) rfl rfl rfl ?_
      refine l_x (x_appendE (A := []) (G := G4 ++ []) (n := (headE u ++ u.P.take (i * 160)).length) (m := 160) (T := 5) (s := 1) (by_ := 1) (ys := ((u.P.drop (i * 160)).take 160).map (.int .u8)) rfl rfl rfl rfl (by rw [List.append_nil]; exact hV4) (fun w hw => .row _ _ _ _ _ (by rw [List.length_map, List.length_take, List.length_drop, hu.lP]; omega) (row_old (rowPi hu hr (by omega)) (by simp) w hw)) (ones_int _ _) (by omega) (by omega)) rfl rfl ?_
      rintro v69 _ ⟨G69, hV69, _, rfl⟩
      refine l_as' (v := v69) rfl rfl rfl ?_
      refine l_nil ?_
      refine c_region ?_
      refine l_as (v := (.int .i64 ((i + 1 : Nat) : Int))) rfl rfl rfl (congrArg _ (succ_law (by omega))) ?_
      refine l_l rfl rfl rfl ?_
      refine l_nil ?_
      exact ⟨(i + 1, _, G69), ⟨by omega, hV69.as (by rw [← take_rows u.P i]; simp only [List.length_append, List.length_take, List.length_drop, hu.lP]; omega) (by rw [← take_rows u.P i]; simp)⟩, by omega, .cons rfl (.cons rfl .nil), (by repeat (first | exact Agree.refl _ _ | exact Agree.mix rfl | refine Agree.put rfl ?_ | refine Agree.keep rfl ?_)), fun _ h => h⟩
    · have h1n := by first | exact of_decide_eq_true h1 | exact of_decide_eq_false h1 | exact eq_of_beq h1 | exact ne_of_beq_false h1 | exact bne_t h1 | exact bne_f h1 | exact h1
      refine c_exit rfl ?_
      refine c_seq ?_
      obtain rfl : i = 144 := by omega
      refine c_region ?_
      refine l_l rfl rfl rfl ?_
      refine l_l rfl rfl rfl ?_
      refine l_nil ?_
      refine c_ret ?_
      exact l_end (fun _ _ => rets_v rfl) (List.sublist_append_left _ _) (hV4.as (by rw [show 144 * 160 = u.P.length by rw [hu.lP], List.take_length]; rfl) (by rw [show 144 * 160 = u.P.length by rw [hu.lP], List.take_length]; rfl))

end Go.Proofs.Ytjceoaomkbabmaa
namespace Go.Proofs.Ytjceoaomkbabmaa
open Go Go.VV Go.Proofs
set_option linter.unusedSimpArgs false
set_option linter.unusedVariables false
set_option maxRecDepth 100000
theorem wrong_fn (x : Int) (w : World) : Does Try.prog 44 [.int .u8 x] w [] (fun v H => H = [] ∧ v = .bool (decide (3 < x))) := by
  refine does_of Try.func44 rfl rfl rfl (St.refl w) ?_
  refine c_seq ?_
  refine c_region ?_
  refine l_l rfl rfl rfl ?_
  refine l_nil ?_
  refine c_seq ?_
  refine c_region ?_
  refine l_l rfl rfl rfl ?_
  refine l_l rfl rfl rfl ?_
  refine l_l rfl rfl rfl ?_
  refine l_nil ?_
  refine c_ret ?_
  exact l_end0 (fun _ _ => rets_v rfl) ⟨rfl, rfl⟩

theorem index_fn (a : Option Addr) (c : Nat) (l : List Int) (hc : l.length ≤ 1000000) (w : World) (hB : Ns w .u8 a l) :
    Does Try.prog 55 [.slice a l.length c, .func (.func 44) #[] #[]] w [] (fun v H => H = [] ∧ ∃ o, v = .int .i64 o ∧ decide (0 ≤ o) = l.any fun x => decide (3 < x)) := by
  refine does_of Try.func55 rfl rfl rfl (St.refl w) ?_
  refine c_seq ?_
  refine c_region ?_
  refine l_l rfl rfl rfl ?_
  refine l_nil ?_
  refine c_seq ?_
  refine c_seq ?_
  refine c_region ?_
  refine l_l rfl rfl rfl ?_
  refine l_l (by first | exact light_len rfl rfl | exact light_lens rfl rfl | rfl) rfl rfl ?_
  refine l_l rfl rfl rfl ?_
  refine l_nil ?_
  refine c_block ?_
  refine c_loopk (σ := Nat) [4, 5, 8, 9, 10, 11, 12, 13, 14, 15, 16, 17, 18] (fun i => [(8, .int .i64 i)]) (fun i => i ≤ l.length ∧ ∀ j, j < i → ¬ 3 < l.getD j 0) (fun i => l.length - i) 0 ?_ ?_ ?_
  · exact ⟨Nat.zero_le _, fun j hj => by omega⟩
  · exact .cons rfl .nil
  · rintro i y2 ⟨hi, hno⟩
    refine c_seq ?_
    refine c_region ?_
    refine l_l rfl rfl rfl ?_
    refine l_nil ?_
    refine c_seq ?_
    refine c_cond rfl (fun h1 => ?_) (fun h1 => ?_)
    · have h1n := by first | exact of_decide_eq_true h1 | exact of_decide_eq_false h1 | exact eq_of_beq h1 | exact ne_of_beq_false h1 | exact bne_t h1 | exact bne_f h1 | exact h1
      refine c_skip ?_
      refine c_seq ?_
      refine c_block ?_
      refine c_seq ?_
      refine c_region ?_
      refine l_l rfl rfl rfl ?_
      refine l_l rfl rfl rfl ?_
      refine l_nil ?_
      refine c_seq ?_
      obtain ⟨b, off, rfl, hr⟩ := hB.row (i := i) (by omega)
      refine c_region ?_
      refine l_l rfl rfl rfl ?_
      refine l_l rfl rfl rfl ?_
      refine l_l rfl rfl rfl ?_
      refine l_l (idx_slice1 i rfl rfl rfl rfl (by omega)) rfl rfl ?_
      refine l_x (x_load rfl rfl (at_old (hr.int (i := i) (by omega)) (by simp))) rfl rfl ?_
      rintro _ _ ⟨rfl, rfl⟩
      refine l_x (x_valV (A := []) (B := []) rfl call_44 rfl (fun w hw => wrong_fn _ w)) rfl rfl ?_
      rintro _ _ ⟨rfl, rfl⟩
      refine l_nil ?_
      refine c_cond rfl (fun h2 => ?_) (fun h2 => ?_)
      · have h2n := by first | exact of_decide_eq_true h2 | exact of_decide_eq_false h2 | exact eq_of_beq h2 | exact ne_of_beq_false h2 | exact bne_t h2 | exact bne_f h2 | exact h2
        refine c_seq ?_
        refine c_region ?_
        refine l_l rfl rfl rfl ?_
        refine l_l rfl rfl rfl ?_
        refine l_nil ?_
        refine c_ret ?_
        exact l_end0 (fun _ _ => rets_v rfl) ⟨rfl, _, rfl, by rw [any_at (i := i) (by omega) (by simpa using h2)]; simp⟩
      · have h2n := by first | exact of_decide_eq_true h2 | exact of_decide_eq_false h2 | exact eq_of_beq h2 | exact ne_of_beq_false h2 | exact bne_t h2 | exact bne_f h2 | exact h2
        refine c_skip ?_
        refine c_region ?_
        refine l_as (v := (.int .i64 ((i + 1 : Nat) : Int))) rfl rfl rfl (congrArg _ (succ_law (by omega))) ?_
        refine l_l rfl rfl rfl ?_
        refine l_nil ?_
        exact ⟨i + 1, ⟨by omega, fun j hj => by
          rcases Nat.lt_or_ge j i with h9 | h9
          · exact hno j h9
          · obtain rfl : j = i := by omega
            simpa using h2⟩, by omega, .cons rfl .nil, (by repeat (first | exact Agree.refl _ _ | exact Agree.mix rfl | refine Agree.put rfl ?_ | refine Agree.keep rfl ?_)), fun _ h => h⟩
    · have h1n := by first | exact of_decide_eq_true h1 | exact of_decide_eq_false h1 | exact eq_of_beq h1 | exact ne_of_beq_false h1 | exact bne_t h1 | exact bne_f h1 | exact h1
      refine c_exit rfl ?_
      refine c_seq ?_
      obtain rfl : l.length = i := by omega
      refine c_region ?_
      refine l_l rfl rfl rfl ?_
      refine l_nil ?_
      refine c_ret ?_
      exact l_end0 (fun _ _ => rets_v rfl) ⟨rfl, _, rfl, by rw [any_none hno]; rfl⟩

theorem contains_fn (a : Option Addr) (c : Nat) (l : List Int) (hc : l.length ≤ 1000000) (w : World) (hB : Ns w .u8 a l) :
    Does Try.prog 45 [.slice a l.length c, .func (.func 44) #[] #[]] w [] (fun v H => H = [] ∧ v = .bool (l.any fun x => decide (3 < x))) := by
  refine does_of Try.func45 rfl rfl rfl (St.refl w) ?_
  refine c_seq ?_
  refine c_region ?_
  refine l_l rfl rfl rfl ?_
  refine l_nil ?_
  refine c_seq ?_
  refine c_region ?_
  refine l_l rfl rfl rfl ?_
  refine l_l rfl rfl rfl ?_
  refine l_x (x_call call_55 rfl (fun w hw => index_fn a c l hc w (hB.later0 hw))) rfl rfl ?_
  rintro _ _ ⟨G7, ⟨rfl, o, rfl, ho⟩, rfl⟩
  refine l_l rfl rfl rfl ?_
  refine l_l rfl rfl rfl ?_
  refine l_nil ?_
  refine c_ret ?_
  exact l_end0 (fun _ _ => rets_v rfl) ⟨rfl, congrArg _ ho⟩

set_option maxHeartbeats 4000000 in
theorem dec_fn (b : Nat) (u : PU) (hu : u.Wf) (w : World) (hst : St w [b] [(b, blk (cU u) 60)] w) (a : Option Addr) (c : Nat) (l : List Int) (hby : Byts l) (hc : l.length ≤ c) (hB : Ns w .u8 a l) (hne : ∀ p, a = some p → p.block ≠ b) :
    Does Try.prog 27 [.pointer (some ⟨b, 0, none⟩), .slice a l.length c] w [b] (fun v H => v = .int .i64 (decE l) ∧ H = [(b, blk (cU (decTo u l)) 60)]) := by

  refine does_of Try.func27 rfl rfl rfl hst ?_
  refine c_seq ?_
  refine c_region ?_
  refine l_l rfl rfl rfl ?_
  refine l_nil ?_
  refine c_seq ?_
  refine c_block ?_
  refine c_seq ?_
  refine c_region ?_
  refine l_l rfl rfl rfl ?_
  refine l_l rfl rfl rfl ?_
  refine l_l rfl rfl rfl ?_
  refine l_nil ?_
  refine c_false rfl ?_
  refine c_seq ?_
  refine c_region ?_
  refine l_l rfl rfl rfl ?_
  refine l_l (by first | exact light_len rfl rfl | exact light_lens rfl rfl | rfl) rfl rfl ?_
  refine l_l rfl rfl rfl ?_
  refine l_l rfl rfl rfl ?_
  refine l_nil ?_
  refine c_cond rfl (fun h1 => ?_) (fun h1 => ?_)
  · have h1n := by first | exact of_decide_eq_true h1 | exact of_decide_eq_false h1 | exact eq_of_beq h1 | exact ne_of_beq_false h1 | exact bne_t h1 | exact bne_f h1 | exact h1
    refine c_seq ?_
    refine c_region ?_
    refine l_l rfl rfl rfl ?_
    refine l_nil ?_
    refine c_ret ?_
    exact l_end (fun _ _ => rets_v rfl) (List.Sublist.refl _) ⟨congrArg _ (decE_len (by omega)), by rw [decTo_no (decE_len (by omega)) (by decide)]⟩
  · have h1n := by first | exact of_decide_eq_true h1 | exact of_decide_eq_false h1 | exact eq_of_beq h1 | exact ne_of_beq_false h1 | exact bne_t h1 | exact bne_f h1 | exact h1
    refine c_skip ?_
    refine c_seq ?_
    have hl : l.length = 31408 := by omega
    obtain ⟨bb, off, rfl, hr⟩ := hB.row (i := 0) (by omega)
    have hab : bb ≠ b := hne _ rfl
    have b1 := hby.get 8356
    have b2 := hby.get 8363
    have b3 := hby.get 8364
    have b4 := hby.get 8365
    have b5' := hby.get 8366
    have b6 := hby.get 8367
    refine c_region ?_
    refine l_x (x_alloc (l := cU zeroU) (by kernel_rfl)) rfl rfl ?_
    rintro _ _ ⟨b5, rfl, rfl⟩
    refine l_nil ?_
    refine c_seq ?_
    refine c_region ?_
    refine l_l (light_fa rfl rfl) rfl rfl ?_
    refine l_as (v := (.slice (some ⟨b5, 0, none⟩) 8192 8192)) (cut_array1 0 8192 rfl rfl rfl rfl rfl rfl (by decide) (by decide)) rfl rfl rfl ?_
    refine l_l rfl rfl rfl ?_
    refine l_x (x_copyTo (l' := cU (z1 l)) (m := l.length) (ys := l.map (.int .u8)) 0 rfl rfl rfl rfl rfl (fun w hw => Src.row (s := 1) bb (off) l.length (c) (l.map (.int .u8)) (by simp [hl]) (row_old (hr) (by simp [hab]) w hw)) (ones_int _ _) (by rw [nU_len z0_ln]; omega) (by rw [show min l.length 8192 = 8192 by omega]; exact p_1 hl)) rfl rfl ?_
    rintro _ _ ⟨rfl, rfl⟩
    try simp only [List.set_cons_zero, List.set_cons_succ]
    refine l_nil ?_
    refine c_seq ?_
    refine c_draw _ [] (.step true 0 (.step true 1 (.step true 2 (.step true 3 (.step false 4 .done))))) rfl (by kernel_rfl) (by kernel_rfl) (fun _ h => h) ?_
    refine d_light rfl (light_fa rfl rfl) rfl rfl rfl ?_
    refine d_as (v := (.slice (some ⟨b5, 8192, none⟩) 160 160)) rfl (cut_array1 0 160 rfl rfl rfl rfl rfl rfl (by decide) (by decide)) rfl rfl rfl rfl ?_
    refine d_light rfl rfl rfl rfl rfl ?_
    refine d_as (v := (.slice (some ⟨bb, off + 8192, none⟩) 23216 (c - 8192))) rfl (cut_slice1 8192 l.length rfl rfl rfl rfl rfl rfl (by omega) (by omega)) rfl rfl rfl (by rw [cut1_on (by omega), hl]) ?_
    refine d_x rfl (x_copyTo (l' := cU (z2 l)) (m := 23216) (ys := (l.drop 8192).map (.int .u8)) 0 rfl rfl rfl rfl rfl (fun w hw => Src.row (s := 1) bb (off + 8192) 23216 (c - 8192) ((l.drop 8192).map (.int .u8)) (by simp [hl]) (row_old (hr.dropK 8192) (by simp [hab]) w hw)) (ones_int _ _) (by rw [nU_len (z1_ln hl)]; decide) (p_2 hl)) rfl rfl (by intro h; cases h) ?_
    rintro _ _ ⟨rfl, rfl⟩
    try simp only [List.set_cons_zero, List.set_cons_succ]
    refine d_nil ?_
    refine c_seq ?_
    refine c_draw _ [] (.step true 0 (.step true 1 (.step true 2 (.step true 3 (.step false 4 .done))))) rfl (by kernel_rfl) (by kernel_rfl) (fun _ h => h) ?_
    refine d_light rfl (light_fa rfl rfl) rfl rfl rfl ?_
    refine d_as (v := (.slice (some ⟨b5, 8352, none⟩) 6 12)) rfl (cut_array1 0 6 rfl rfl rfl rfl rfl rfl (by decide) (by decide)) rfl rfl rfl rfl ?_
    refine d_light rfl rfl rfl rfl rfl ?_
    refine d_as (v := (.slice (some ⟨bb, off + 8352, none⟩) 23056 (c - 8352))) rfl (cut_slice1 8352 l.length rfl rfl rfl rfl rfl rfl (by omega) (by omega)) rfl rfl rfl (by rw [cut1_on (by omega), hl]) ?_
    refine d_x rfl (x_copyTo (l' := cU (z3 l)) (m := 23056) (ys := (l.drop 8352).map (.int .u8)) 0 rfl rfl rfl rfl rfl (fun w hw => Src.row (s := 1) bb (off + 8352) 23056 (c - 8352) ((l.drop 8352).map (.int .u8)) (by simp [hl]) (row_old (hr.dropK 8352) (by simp [hab]) w hw)) (ones_int _ _) (by rw [nU_len (z2_ln hl)]; decide) (p_3 hl)) rfl rfl (by intro h; cases h) ?_
    rintro _ _ ⟨rfl, rfl⟩
    try simp only [List.set_cons_zero, List.set_cons_succ]
    refine d_nil ?_
    refine c_seq ?_
    refine c_draw _ [] (.step true 0 (.step true 1 (.step true 2 (.step true 3 (.step false 4 .done))))) rfl (by kernel_rfl) (by kernel_rfl) (fun _ h => h) ?_
    refine d_light rfl (light_fa rfl rfl) rfl rfl rfl ?_
    refine d_as (v := (.slice (some ⟨b5, 8359, none⟩) 5 5)) rfl (cut_array1 7 12 rfl rfl rfl rfl rfl rfl (by decide) (by decide)) rfl rfl rfl rfl ?_
    refine d_light rfl rfl rfl rfl rfl ?_
    refine d_as (v := (.slice (some ⟨bb, off + 8358, none⟩) 5 (c - 8358))) rfl (cut_slice1 8358 8363 rfl rfl rfl rfl rfl rfl (by omega) (by omega)) rfl rfl rfl (by rw [cut1_on (by omega)]) ?_
    refine d_x rfl (x_copyTo (l' := cU (z4 l)) (m := 5) (ys := ((l.drop 8358).take 5).map (.int .u8)) 0 rfl rfl rfl rfl rfl (fun w hw => Src.row (s := 1) bb (off + 8358) 5 (c - 8358) (((l.drop 8358).take 5).map (.int .u8)) (by simp [hl]) (row_old ((hr.dropK 8358).takeK 5) (by simp [hab]) w hw)) (ones_int _ _) (by rw [nU_len (z3_ln hl)]; decide) (p_4 hl)) rfl rfl (by intro h; cases h) ?_
    rintro _ _ ⟨rfl, rfl⟩
    try simp only [List.set_cons_zero, List.set_cons_succ]
    refine d_nil ?_
    refine c_seq ?_
    refine c_draw _ [4, 5, 6, 7, 8, 9, 10, 11] (.step true 0 (.step true 1 (.step true 2 (.step true 3 (.step true 4 (.step true 5 (.step true 6 (.step true 7 (.step true 8 (.step true 9 (.step true 10 (.step true 11 (.step true 12 (.step false 13 (.step true 14 (.step false 15 (.step true 16 (.step false 17 .done)))))))))))))))))) rfl (by kernel_rfl) (by kernel_rfl) (fun _ h => h) ?_
    refine d_light rfl (light_fa rfl rfl) rfl rfl rfl ?_
    refine d_light rfl (by first | exact idx_array1 4 rfl rfl rfl rfl (by decide) | exact idx_slice1 4 rfl rfl rfl rfl (by decide) | exact idx_array 4 rfl rfl rfl rfl (by decide) | exact idx_slice 4 rfl rfl rfl rfl (by decide)) rfl rfl rfl ?_
    refine d_load rfl rfl rfl (s_own (by repeat (first | exact .head _ | refine .tail _ ?_ | refine List.mem_append_right _ ?_)) (at_4 hl)) rfl rfl ?_
    refine d_as rfl (l_conv rfl rfl rfl) rfl rfl rfl (by first | exact as_i64 (by omega) (by omega) | rfl) ?_
    refine d_light rfl rfl rfl rfl rfl ?_
    refine d_light rfl (idx_slice1 8363 rfl rfl rfl rfl (by omega)) rfl rfl rfl ?_
    refine d_load rfl rfl rfl (s_old (hr.int (i := 8363) (by omega)) (by simp [hab])) rfl rfl ?_
    refine d_as rfl (l_conv rfl rfl rfl) rfl rfl rfl (by first | exact as_i64 (by omega) (by omega) | rfl) ?_
    refine d_light rfl rfl rfl rfl rfl ?_
    refine d_light rfl (idx_slice1 8364 rfl rfl rfl rfl (by omega)) rfl rfl rfl ?_
    refine d_load rfl rfl rfl (s_old (hr.int (i := 8364) (by omega)) (by simp [hab])) rfl rfl ?_
    refine d_as rfl (l_conv rfl rfl rfl) rfl rfl rfl (by first | exact as_i64 (by omega) (by omega) | rfl) ?_
    refine d_light rfl (light_fa rfl rfl) rfl rfl rfl ?_
    refine d_x rfl (x_storeTo (l' := cU ({ z4 l with line := l.getD 8356 0 })) 0 rfl rfl rfl rfl rfl rfl (by rw [nU_len (z4_ln hl)]; simp) (p_5a hl)) rfl rfl (by intro h; cases h) ?_
    rintro _ _ ⟨rfl, rfl⟩
    try simp only [List.set_cons_zero, List.set_cons_succ]
    refine d_light rfl (light_fa rfl rfl) rfl rfl rfl ?_
    refine d_x rfl (x_storeTo (l' := cU ({ z4 l with line := l.getD 8356 0, dot := l.getD 8363 0 })) 0 rfl rfl rfl rfl rfl rfl (by rw [nU_len (u := { z4 l with line := l.getD 8356 0 }) ⟨(z4_ln hl).lV, (z4_ln hl).lO, (z4_ln hl).lR, (z4_ln hl).lP⟩]; simp) (p_5b hl)) rfl rfl (by intro h; cases h) ?_
    rintro _ _ ⟨rfl, rfl⟩
    try simp only [List.set_cons_zero, List.set_cons_succ]
    refine d_light rfl (light_fa rfl rfl) rfl rfl rfl ?_
    refine d_x rfl (x_storeTo (l' := cU (z5 l)) 0 rfl rfl rfl rfl rfl rfl (by rw [nU_len (u := { z4 l with line := l.getD 8356 0, dot := l.getD 8363 0 }) ⟨(z4_ln hl).lV, (z4_ln hl).lO, (z4_ln hl).lR, (z4_ln hl).lP⟩]; simp) (p_5c hl)) rfl rfl (by intro h; cases h) ?_
    rintro _ _ ⟨rfl, rfl⟩
    try simp only [List.set_cons_zero, List.set_cons_succ]
    refine d_nil ?_
    refine c_seq ?_
    refine c_draw _ [4, 5, 6, 7, 8, 10, 11, 12, 13] (.step true 0 (.step true 1 (.step true 2 (.step true 3 (.step true 4 (.step true 5 (.step true 6 (.step true 7 (.step true 8 (.step true 9 (.step true 10 (.step true 11 (.step true 12 (.step true 13 (.step true 14 (.step false 15 (.step true 16 (.step false 17 .done)))))))))))))))))) rfl (by kernel_rfl) (by kernel_rfl) (fun _ h => h) ?_
    refine d_light rfl rfl rfl rfl rfl ?_
    refine d_light rfl (idx_slice1 8365 rfl rfl rfl rfl (by omega)) rfl rfl rfl ?_
    refine d_load rfl rfl rfl (s_old (hr.int (i := 8365) (by omega)) (by simp [hab])) rfl rfl ?_
    refine d_as rfl (l_conv rfl rfl rfl) rfl rfl rfl (by first | exact as_i64 (by omega) (by omega) | rfl) ?_
    refine d_light rfl rfl rfl rfl rfl ?_
    refine d_light rfl (idx_slice1 8366 rfl rfl rfl rfl (by omega)) rfl rfl rfl ?_
    refine d_load rfl rfl rfl (s_old (hr.int (i := 8366) (by omega)) (by simp [hab])) rfl rfl ?_
    refine d_as rfl (l_conv rfl rfl rfl) rfl rfl rfl (by first | exact as_i64 (by omega) (by omega) | rfl) ?_
    refine d_as rfl (shl_pos rfl rfl (by decide)) rfl rfl rfl (by first | exact as_shl 256 (by decide) (by omega) (show _ < (9223372036854775808 : Int) by omega) | rfl) ?_
    refine d_as (v := (.int .i64 (l.getD 8365 0 + 256 * l.getD 8366 0))) rfl rfl rfl rfl rfl (congrArg _ (by rw [Int.mul_comm (l.getD 8366 0)]; exact two_law b4 b5')) ?_
    refine d_light rfl rfl rfl rfl rfl ?_
    refine d_light rfl (idx_slice1 8367 rfl rfl rfl rfl (by omega)) rfl rfl rfl ?_
    refine d_load rfl rfl rfl (s_old (hr.int (i := 8367) (by omega)) (by simp [hab])) rfl rfl ?_
    refine d_light rfl rfl rfl rfl rfl ?_
    refine d_light rfl (light_fa rfl rfl) rfl rfl rfl ?_
    refine d_x rfl (x_storeTo (l' := cU ({ z5 l with frames := l.getD 8365 0 + 256 * l.getD 8366 0 })) 0 rfl rfl rfl rfl rfl rfl (by rw [nU_len (z5_ln hl)]; simp) (p_6a hl)) rfl rfl (by intro h; cases h) ?_
    rintro _ _ ⟨rfl, rfl⟩
    try simp only [List.set_cons_zero, List.set_cons_succ]
    refine d_light rfl (light_fa rfl rfl) rfl rfl rfl ?_
    refine d_x rfl (x_storeTo (l' := cU (z6 l)) 0 rfl rfl rfl rfl rfl rfl (by rw [nU_len (u := { z5 l with frames := l.getD 8365 0 + 256 * l.getD 8366 0 }) ⟨(z5_ln hl).lV, (z5_ln hl).lO, (z5_ln hl).lR, (z5_ln hl).lP⟩]; simp) (p_6b hl)) rfl rfl (by intro h; cases h) ?_
    rintro _ _ ⟨rfl, rfl⟩
    try simp only [List.set_cons_zero, List.set_cons_succ]
    refine d_nil ?_
    refine c_seq ?_
    refine c_region ?_
    refine l_l (light_fa rfl rfl) rfl rfl ?_
    refine l_l (by first | exact idx_array1 4 rfl rfl rfl rfl (by decide) | exact idx_slice1 4 rfl rfl rfl rfl (by decide) | exact idx_array 4 rfl rfl rfl rfl (by decide) | exact idx_slice 4 rfl rfl rfl rfl (by decide)) rfl rfl ?_
    refine l_x (x_storeTo (l' := cU (z7 l)) 0 rfl rfl rfl rfl rfl rfl (by rw [nU_len (z6_ln hl)]; simp) (p_7 hl)) rfl rfl ?_
    rintro _ _ ⟨rfl, rfl⟩
    try simp only [List.set_cons_zero, List.set_cons_succ]
    refine l_nil ?_
    refine c_seq ?_
    refine c_region ?_
    refine l_l rfl rfl rfl ?_
    refine l_nil ?_
    refine c_seq ?_
    refine c_seq ?_
    refine c_region ?_
    refine l_l (light_fa rfl rfl) rfl rfl ?_
    refine l_x (x_load rfl rfl (at_own (by repeat (first | exact .head _ | refine .tail _ ?_ | refine List.mem_append_right _ ?_)) (at_line hl))) rfl rfl ?_
    rintro _ _ ⟨rfl, rfl⟩
    refine l_l rfl rfl rfl ?_
    refine l_b rfl rfl rfl (fun h2 => ?_) (fun h2 => ?_)
    · have h2n := by first | exact of_decide_eq_true h2 | exact of_decide_eq_false h2 | exact eq_of_beq h2 | exact ne_of_beq_false h2 | exact bne_t h2 | exact bne_f h2 | exact h2
      refine l_p rfl rfl ?_
      refine l_p rfl rfl ?_
      refine l_p rfl rfl ?_
      refine l_l rfl rfl rfl ?_
      refine l_l rfl rfl rfl ?_
      refine l_p rfl rfl ?_
      refine l_p rfl rfl ?_
      refine l_p rfl rfl ?_
      refine l_p rfl rfl ?_
      refine l_p rfl rfl ?_
      refine l_l rfl rfl rfl ?_
      refine l_l rfl rfl rfl ?_
      refine l_p rfl rfl ?_
      refine l_p rfl rfl ?_
      refine l_p rfl rfl ?_
      refine l_p rfl rfl ?_
      refine l_l rfl rfl rfl ?_
      refine l_l rfl rfl rfl ?_
      refine l_p rfl rfl ?_
      refine l_p rfl rfl ?_
      refine l_p rfl rfl ?_
      refine l_p rfl rfl ?_
      refine l_l rfl rfl rfl ?_
      refine l_nil ?_
      refine c_true rfl ?_
      refine c_seq ?_
      refine c_region ?_
      refine l_l rfl rfl rfl ?_
      refine l_nil ?_
      refine c_ret ?_
      exact l_end (fun _ _ => rets_v rfl) (List.sublist_cons_self _ _) ⟨congrArg _ (decE_no hl (ok_1 (by omega))), by rw [decTo_no (decE_no hl (ok_1 (by omega))) (by decide)]⟩
    · have h2n := by first | exact of_decide_eq_true h2 | exact of_decide_eq_false h2 | exact eq_of_beq h2 | exact ne_of_beq_false h2 | exact bne_t h2 | exact bne_f h2 | exact h2
      refine l_l (light_fa rfl rfl) rfl rfl ?_
      refine l_x (x_load rfl rfl (at_own (by repeat (first | exact .head _ | refine .tail _ ?_ | refine List.mem_append_right _ ?_)) (at_dot hl))) rfl rfl ?_
      rintro _ _ ⟨rfl, rfl⟩
      refine l_l rfl rfl rfl ?_
      refine l_l rfl rfl rfl ?_
      refine l_b rfl rfl rfl (fun h3 => ?_) (fun h3 => ?_)
      · have h3n := by first | exact of_decide_eq_true h3 | exact of_decide_eq_false h3 | exact eq_of_beq h3 | exact ne_of_beq_false h3 | exact bne_t h3 | exact bne_f h3 | exact h3
        refine l_p rfl rfl ?_
        refine l_p rfl rfl ?_
        refine l_p rfl rfl ?_
        refine l_p rfl rfl ?_
        refine l_p rfl rfl ?_
        refine l_l rfl rfl rfl ?_
        refine l_l rfl rfl rfl ?_
        refine l_p rfl rfl ?_
        refine l_p rfl rfl ?_
        refine l_p rfl rfl ?_
        refine l_p rfl rfl ?_
        refine l_l rfl rfl rfl ?_
        refine l_l rfl rfl rfl ?_
        refine l_p rfl rfl ?_
        refine l_p rfl rfl ?_
        refine l_p rfl rfl ?_
        refine l_p rfl rfl ?_
        refine l_l rfl rfl rfl ?_
        refine l_nil ?_
        refine c_true rfl ?_
        refine c_seq ?_
        refine c_region ?_
        refine l_l rfl rfl rfl ?_
        refine l_nil ?_
        refine c_ret ?_
        exact l_end (fun _ _ => rets_v rfl) (List.sublist_cons_self _ _) ⟨congrArg _ (decE_no hl (ok_2 (by omega))), by rw [decTo_no (decE_no hl (ok_2 (by omega))) (by decide)]⟩
      · have h3n := by first | exact of_decide_eq_true h3 | exact of_decide_eq_false h3 | exact eq_of_beq h3 | exact ne_of_beq_false h3 | exact bne_t h3 | exact bne_f h3 | exact h3
        refine l_l (light_fa rfl rfl) rfl rfl ?_
        refine l_l (by first | exact idx_array1 1 rfl rfl rfl rfl (by decide) | exact idx_slice1 1 rfl rfl rfl rfl (by decide) | exact idx_array 1 rfl rfl rfl rfl (by decide) | exact idx_slice 1 rfl rfl rfl rfl (by decide)) rfl rfl ?_
        refine l_x (x_load rfl rfl (at_own (by repeat (first | exact .head _ | refine .tail _ ?_ | refine List.mem_append_right _ ?_)) (at_1 hl))) rfl rfl ?_
        rintro _ _ ⟨rfl, rfl⟩
        refine l_as (l_andn rfl rfl) rfl rfl rfl ?_
        refine l_l rfl rfl rfl ?_
        refine l_l rfl rfl rfl ?_
        refine l_b rfl rfl rfl (fun h4 => ?_) (fun h4 => ?_)
        · have h4n := by first | exact of_decide_eq_true h4 | exact of_decide_eq_false h4 | exact eq_of_beq h4 | exact ne_of_beq_false h4 | exact bne_t h4 | exact bne_f h4 | exact h4
          refine l_p rfl rfl ?_
          refine l_p rfl rfl ?_
          refine l_p rfl rfl ?_
          refine l_p rfl rfl ?_
          refine l_l rfl rfl rfl ?_
          refine l_l rfl rfl rfl ?_
          refine l_p rfl rfl ?_
          refine l_p rfl rfl ?_
          refine l_p rfl rfl ?_
          refine l_p rfl rfl ?_
          refine l_l rfl rfl rfl ?_
          refine l_nil ?_
          refine c_true rfl ?_
          refine c_seq ?_
          refine c_region ?_
          refine l_l rfl rfl rfl ?_
          refine l_nil ?_
          refine c_ret ?_
          exact l_end (fun _ _ => rets_v rfl) (List.sublist_cons_self _ _) ⟨congrArg _ (decE_no hl (ok_3 h4)), by rw [decTo_no (decE_no hl (ok_3 h4)) (by decide)]⟩
        · have h4n := by first | exact of_decide_eq_true h4 | exact of_decide_eq_false h4 | exact eq_of_beq h4 | exact ne_of_beq_false h4 | exact bne_t h4 | exact bne_f h4 | exact h4
          refine l_l rfl rfl rfl ?_
          refine l_l (idx_slice1 8367 rfl rfl rfl rfl (by omega)) rfl rfl ?_
          refine l_x (x_load rfl rfl (at_old (hr.int (i := 8367) (by omega)) (by simp [hab]))) rfl rfl ?_
          rintro _ _ ⟨rfl, rfl⟩
          refine l_l rfl rfl rfl ?_
          refine l_l rfl rfl rfl ?_
          refine l_b rfl rfl rfl (fun h5 => ?_) (fun h5 => ?_)
          · have h5n := by first | exact of_decide_eq_true h5 | exact of_decide_eq_false h5 | exact eq_of_beq h5 | exact ne_of_beq_false h5 | exact bne_t h5 | exact bne_f h5 | exact h5
            refine l_p rfl rfl ?_
            refine l_p rfl rfl ?_
            refine l_p rfl rfl ?_
            refine l_p rfl rfl ?_
            refine l_l rfl rfl rfl ?_
            refine l_nil ?_
            refine c_true rfl ?_
            refine c_seq ?_
            refine c_region ?_
            refine l_l rfl rfl rfl ?_
            refine l_nil ?_
            refine c_ret ?_
            exact l_end (fun _ _ => rets_v rfl) (List.sublist_cons_self _ _) ⟨congrArg _ (decE_no hl (ok_4 (by omega))), by rw [decTo_no (decE_no hl (ok_4 (by omega))) (by decide)]⟩
          · have h5n := by first | exact of_decide_eq_true h5 | exact of_decide_eq_false h5 | exact eq_of_beq h5 | exact ne_of_beq_false h5 | exact bne_t h5 | exact bne_f h5 | exact h5
            refine l_l rfl rfl rfl ?_
            refine l_as (v := (.slice (some ⟨bb, off + 8368, none⟩) (l.drop 8368).length (c - 8368))) (cut_slice1 8368 l.length rfl rfl rfl rfl rfl rfl (by omega) (by omega)) rfl rfl (by rw [cut1_on (by omega), List.length_drop]) ?_
            refine l_l rfl rfl rfl ?_
            refine l_x (x_val call_45 rfl (fun w hw => contains_fn (some ⟨bb, off + 8368, none⟩) (c - 8368) (l.drop 8368) (by simp; omega) w (Ns.of (row_old (hr.dropK 8368) (by simp [hab]) w hw)))) rfl rfl ?_
            rintro _ _ ⟨rfl, rfl⟩
            refine l_l rfl rfl rfl ?_
            refine l_nil ?_
            refine c_cond rfl (fun h6 => ?_) (fun h6 => ?_)
            · have h6n := by first | exact of_decide_eq_true h6 | exact of_decide_eq_false h6 | exact eq_of_beq h6 | exact ne_of_beq_false h6 | exact bne_t h6 | exact bne_f h6 | exact h6
              refine c_seq ?_
              refine c_region ?_
              refine l_l rfl rfl rfl ?_
              refine l_nil ?_
              refine c_ret ?_
              exact l_end (fun _ _ => rets_v rfl) (List.sublist_cons_self _ _) ⟨congrArg _ (decE_no hl (ok_5 h6)), by rw [decTo_no (decE_no hl (ok_5 h6)) (by decide)]⟩
            · have h6n := by first | exact of_decide_eq_true h6 | exact of_decide_eq_false h6 | exact eq_of_beq h6 | exact ne_of_beq_false h6 | exact bne_t h6 | exact bne_f h6 | exact h6
              refine c_skip ?_
              refine c_seq ?_
              refine c_seq ?_
              have hok := ok_6 (by omega) (by omega) h4 (by omega) h6
              refine c_region ?_
              refine l_l rfl rfl rfl ?_
              refine l_nil ?_
              refine c_block ?_
              refine c_loop (σ := Nat) [7, 94, 95, 96, 97, 98, 99, 100, 101, 102, 103, 104, 105, 106, 107] (fun i => [(94, .int .i64 i)]) (fun i => [(b5, blk (cU (z8 l i)) 60), (b, blk (cU u) 60)]) (fun i => i ≤ 144) (fun i => 144 - i) 0 ?_ ?_ ?_ ?_
              · exact Nat.zero_le _
              · exact .cons rfl .nil
              · exact fun _ h => h.as (by rw [p_80])
              · rintro i y17 hi
                refine c_seq ?_
                refine c_region ?_
                refine l_l rfl rfl rfl ?_
                refine l_nil ?_
                refine c_seq ?_
                refine c_cond rfl (fun h7 => ?_) (fun h7 => ?_)
                · have h7n := by first | exact of_decide_eq_true h7 | exact of_decide_eq_false h7 | exact eq_of_beq h7 | exact ne_of_beq_false h7 | exact bne_t h7 | exact bne_f h7 | exact h7
                  refine c_skip ?_
                  refine c_seq ?_
                  refine c_block ?_
                  refine c_seq ?_
                  refine c_region ?_
                  refine l_l rfl rfl rfl ?_
                  refine l_l rfl rfl rfl ?_
                  refine l_nil ?_
                  refine c_draw _ [] (.step true 0 (.step true 1 (.step true 2 (.step true 3 (.step true 4 (.step true 5 (.step true 6 (.step true 7 (.step true 8 (.step false 9 .done)))))))))) rfl (by kernel_rfl) (by kernel_rfl) (fun _ h => h) ?_
                  refine d_light rfl rfl rfl rfl rfl ?_
                  refine d_light rfl (light_fa rfl rfl) rfl rfl rfl ?_
                  refine d_light rfl (idx_array (s := 160) i rfl rfl rfl rfl (by omega)) rfl rfl rfl ?_
                  refine d_as (v := (.slice (some ⟨b5, 8369 + i * 160, none⟩) 160 160)) rfl (cut_array1 0 160 rfl rfl rfl rfl rfl rfl (by decide) (by decide)) rfl rfl rfl rfl ?_
                  refine d_light rfl rfl rfl rfl rfl ?_
                  refine d_light rfl rfl rfl rfl rfl ?_
                  refine d_as rfl (l_mul rfl rfl) rfl rfl rfl (by first | exact as_i64 (by omega) (by omega) | rfl) ?_
                  refine d_as rfl (l_add rfl rfl) rfl rfl rfl (by first | exact as_i64 (by omega) (by omega) | rfl) ?_
                  refine d_as (v := (.slice (some ⟨bb, off + (8368 + i * 160), none⟩) (31408 - (8368 + i * 160)) (c - (8368 + i * 160)))) rfl (cut_slice1 (8368 + i * 160) l.length rfl rfl rfl rfl rfl rfl (by omega) (by omega)) rfl rfl rfl (by rw [cut1_on (by omega), hl]) ?_
                  refine d_x rfl (x_copyTo (l' := cU (z8 l (i + 1))) (m := 31408 - (8368 + i * 160)) (ys := (l.drop (8368 + i * 160)).map (.int .u8)) 0 rfl rfl rfl rfl rfl (fun w hw => Src.row (s := 1) bb (off + (8368 + i * 160)) (31408 - (8368 + i * 160)) (c - (8368 + i * 160)) ((l.drop (8368 + i * 160)).map (.int .u8)) (by simp [hl]) (row_old (hr.dropK (8368 + i * 160)) (by simp [hab]) w hw)) (ones_int _ _) (by rw [nU_len (z8_ln hl (by omega))]; omega) (by rw [show min (31408 - (8368 + i * 160)) 160 = 160 by omega]; exact p_8 hl (by omega))) rfl rfl (by intro h; cases h) ?_
                  rintro _ _ ⟨rfl, rfl⟩
                  simp only [List.cons_append, List.nil_append, List.set_cons_zero]
                  refine d_nil ?_
                  refine c_region ?_
                  refine l_as (v := (.int .i64 ((i + 1 : Nat) : Int))) rfl rfl rfl (congrArg _ (succ_law (by omega))) ?_
                  refine l_l rfl rfl rfl ?_
                  refine l_nil ?_
                  exact ⟨i + 1, by omega, by omega, .cons rfl .nil, (by repeat (first | exact Agree.refl _ _ | exact Agree.mix rfl | refine Agree.put rfl ?_ | refine Agree.keep rfl ?_)), fun _ h => h⟩
                · have h7n := by first | exact of_decide_eq_true h7 | exact of_decide_eq_false h7 | exact eq_of_beq h7 | exact ne_of_beq_false h7 | exact bne_t h7 | exact bne_f h7 | exact h7
                  refine c_exit rfl ?_
                  refine c_seq ?_
                  obtain rfl : i = 144 := by omega
                  refine c_region ?_
                  refine l_l rfl rfl rfl ?_
                  refine l_x (x_loadA rfl rfl (by rw [← z8_all hl, nU_len (z8_ln hl (Nat.le_refl _))]; rfl) (show ∀ w, St _ _ _ w → Row w b5 0 (cU (decU l)) from fun w hw => by have h9 := row_own (by repeat (first | exact .head _ | refine .tail _ ?_ | refine List.mem_append_right _ ?_)) w hw; rw [z8_all hl] at h9; exact h9)) rfl rfl ?_
                  rintro _ _ ⟨rfl, rfl⟩
                  refine l_l rfl rfl rfl ?_
                  refine l_x (x_storeTo (l' := cU (decU l)) 1 rfl rfl rfl (by rw [← z8_all hl, nU_len (z8_ln hl (Nat.le_refl _))]; rfl) (cU_ones _) rfl (by rw [← z8_all hl, nU_len (z8_ln hl (Nat.le_refl _)), cU_len hu]; decide) (putL_all (by rw [← z8_all hl, nU_len (z8_ln hl (Nat.le_refl _)), cU_len hu]))) rfl rfl ?_
                  rintro _ _ ⟨rfl, rfl⟩
                  simp only [List.set_cons_zero, List.set_cons_succ]
                  refine l_nil ?_
                  refine c_seq ?_
                  refine c_region ?_
                  refine l_l rfl rfl rfl ?_
                  refine l_nil ?_
                  refine c_ret ?_
                  exact l_end (fun _ _ => rets_v rfl) (List.sublist_cons_self _ _) ⟨congrArg _ (decE_yes hl hok), by rw [decTo_0 (decE_yes hl hok)]⟩

end Go.Proofs.Ytjceoaomkbabmaa
namespace Go.Proofs.Ytjceoaomkbabmaa
open Go Go.VV Go.Proofs
set_option linter.unusedSimpArgs false
set_option linter.unusedVariables false
set_option maxRecDepth 100000
theorem rnum_fn (v : Vw) (hv : v.Ok) (b : Int) (hb : 0 ≤ b ∧ b < 256) (w : World) :
    Does Try.prog 89 [.agg (cV v).toArray, .int .u8 b] w [] (fun v' H => H = [] ∧ v' = .int .i64 (tNum v.c b)) := by
  refine does_of Try.func89 rfl rfl rfl (St.refl w) ?_
  refine c_seq ?_
  refine c_region ?_
  refine l_x (x_box rfl rfl) rfl rfl ?_
  rintro _ _ ⟨b2, rfl, rfl⟩
  refine l_l rfl rfl rfl ?_
  refine l_nil ?_
  refine c_seq ?_
  refine c_seq ?_
  refine c_region ?_
  refine l_l (light_fa rfl rfl) rfl rfl ?_
  refine l_x (x_load rfl rfl (at_own (by repeat (first | exact .head _ | refine .tail _ ?_ | refine List.mem_append_right _ ?_)) (by rfl))) rfl rfl ?_
  rintro _ _ ⟨rfl, rfl⟩
  refine l_x (x_val call_67 rfl (fun w hw => bit_fn _ _ hv.c (by decide) w)) rfl rfl ?_
  rintro _ _ ⟨rfl, rfl⟩
  refine l_l rfl rfl rfl ?_
  refine l_nil ?_
  refine c_cond rfl (fun h1 => ?_) (fun h1 => ?_)
  · refine c_seq ?_
    refine c_region ?_
    refine l_l rfl rfl rfl ?_
    refine l_as (v := (.int .i64 (b))) rfl rfl rfl (congrArg _ (wrap_i64 (by omega) (by omega))) ?_
    refine l_l rfl rfl rfl ?_
    refine l_nil ?_
    refine c_ret ?_
    exact l_end0 (fun _ _ => rets_v rfl) ⟨rfl, congrArg _ (by unfold tNum; simp_all <;> omega)⟩
  · refine c_skip ?_
    refine c_seq ?_
    refine c_seq ?_
    refine c_region ?_
    refine l_l rfl rfl rfl ?_
    refine l_l rfl rfl rfl ?_
    refine l_nil ?_
    refine c_cond rfl (fun h2 => ?_) (fun h2 => ?_)
    · refine c_seq ?_
      refine c_region ?_
      refine l_l rfl rfl rfl ?_
      refine l_as (v := (.int .i64 (b))) rfl rfl rfl (congrArg _ (wrap_i64 (by omega) (by omega))) ?_
      refine l_l rfl rfl rfl ?_
      refine l_nil ?_
      refine c_ret ?_
      exact l_end0 (fun _ _ => rets_v rfl) ⟨rfl, congrArg _ (by unfold tNum; simp_all <;> omega)⟩
    · refine c_skip ?_
      refine c_seq ?_
      refine c_region ?_
      refine l_l rfl rfl rfl ?_
      refine l_as (v := (.int .i64 (b))) rfl rfl rfl (congrArg _ (wrap_i64 (by omega) (by omega))) ?_
      refine l_as (v := (.int .i64 (256 + b))) rfl rfl rfl (congrArg _ (wrap_i64 (by omega) (by omega))) ?_
      refine l_l rfl rfl rfl ?_
      refine l_nil ?_
      refine c_ret ?_
      exact l_end0 (fun _ _ => rets_v rfl) ⟨rfl, congrArg _ (by unfold tNum; simp_all <;> omega)⟩

theorem rspot_fn (a : Option Addr) (cap : Nat) (l : List Int) (hl : Byts l)(v : Vw) (hv : v.Ok) (n px py : Int) (w : World) (hB : Ns w .u8 a l) :
    Does Try.prog 81 [.agg (cV v).toArray, .slice a l.length cap, .bool (rBit v.c n == 1), .int .i64 px, .int .i64 py] w [] (fun v' H => H = [] ∧ v' = .int .u8 (tSpot l v.c n (px % 256) (py % 256))) := by
  refine does_of Try.func81 rfl rfl rfl (St.refl w) ?_
  refine c_seq ?_
  refine c_region ?_
  refine l_x (x_box rfl rfl) rfl rfl ?_
  rintro _ _ ⟨b5, rfl, rfl⟩
  refine l_l rfl rfl rfl ?_
  refine l_nil ?_
  refine c_seq ?_
  refine c_region ?_
  refine l_l rfl rfl rfl ?_
  refine l_nil ?_
  refine c_seq ?_
  refine c_seq ?_
  refine c_region ?_
  refine l_l rfl rfl rfl ?_
  refine l_nil ?_
  refine c_cond rfl (fun h1 => ?_) (fun h1 => ?_)
  · refine c_region ?_
    refine l_l rfl rfl rfl ?_
    refine l_nil ?_
    refine c_seq ?_
    refine c_region ?_
    refine l_l rfl rfl rfl ?_
    refine l_x (x_val call_82 rfl (fun w hw => mod_fn _ 256 ⟨by decide, by decide⟩ w)) rfl rfl ?_
    rintro _ _ ⟨rfl, rfl⟩
    refine l_l rfl rfl rfl ?_
    refine l_x (x_val call_82 rfl (fun w hw => mod_fn _ 256 ⟨by decide, by decide⟩ w)) rfl rfl ?_
    rintro _ _ ⟨rfl, rfl⟩
    refine l_l rfl rfl rfl ?_
    refine l_l rfl rfl rfl ?_
    refine l_nil ?_
    refine c_seq ?_
    refine c_draw _ [2, 3, 4, 5, 6, 7, 8, 9, 10, 11, 13, 14] (.step true 0 (.step true 1 (.step true 2 (.step true 3 (.step true 4 (.step true 5 (.step true 6 (.step true 7 (.step true 8 (.step true 9 (.step true 10 (.step true 13 (.step true 14 (.step false 11 (.step false 12 (.step false 15 (.step true 16 .done))))))))))))))))) rfl (by kernel_rfl) (by kernel_rfl) (fun _ h => h) ?_
    refine d_light rfl rfl rfl rfl rfl ?_
    refine d_loadA rfl rfl rfl rfl (by first | exact srow_own (by repeat (first | exact .head _ | refine .tail _ ?_ | refine List.mem_append_right _ ?_)) | exact srow_own_at (by repeat (first | exact .head _ | refine .tail _ ?_ | refine List.mem_append_right _ ?_)) _ 5 rfl) rfl rfl ?_
    refine d_light rfl rfl rfl rfl rfl ?_
    refine d_light rfl rfl rfl rfl rfl ?_
    refine d_light rfl rfl rfl rfl rfl ?_
    refine d_as (v := (.int .i64 (py % 256 / 8))) rfl rfl rfl rfl rfl (congrArg _ (i64_eighth (mod256 _))) ?_
    refine d_as (v := (.int .i64 (32 * (py % 256 / 8)))) rfl rfl rfl rfl rfl (congrArg _ (wrap_i64 (by omega) (by omega))) ?_
    refine d_as (v := (.int .i64 (7168 + 32 * (py % 256 / 8)))) rfl rfl rfl rfl rfl (congrArg _ (wrap_i64 (by omega) (by omega))) ?_
    refine d_light rfl rfl rfl rfl rfl ?_
    refine d_as (v := (.int .i64 (px % 256 / 8))) rfl rfl rfl rfl rfl (congrArg _ (i64_eighth (mod256 _))) ?_
    refine d_as (v := (.int .i64 (7168 + 32 * (py % 256 / 8) + px % 256 / 8))) rfl rfl rfl rfl rfl (congrArg _ (wrap_i64 (by omega) (by omega))) ?_
    refine d_light rfl rfl rfl rfl rfl ?_
    refine d_light rfl rfl rfl rfl rfl ?_
    refine d_x rfl (x_val call_88 rfl (fun w hw => rat_fn _ _ l _ w (hB.later0 hw))) rfl rfl (by intro _ _ _ hK x hx; obtain ⟨rfl, rfl⟩ := hK; repeat (first | exact hx | exact List.mem_append_left _ hx | refine List.mem_append_right _ ?_ | refine .tail _ ?_)) ?_
    rintro _ _ ⟨rfl, rfl⟩
    refine d_x rfl (x_val call_89 rfl (fun w hw => rnum_fn v hv _ (vAt_byte hl _) w)) rfl rfl (by intro h; cases h) ?_
    rintro _ _ ⟨rfl, rfl⟩
    refine d_x rfl (x_val call_80 rfl (fun w hw => rdot_fn _ _ l hl _ _ _ w (hB.later0 hw))) rfl rfl (by intro h; cases h) ?_
    rintro _ _ ⟨rfl, rfl⟩
    refine d_light rfl rfl rfl rfl rfl ?_
    refine d_nil ?_
    refine c_ret ?_
    exact l_end0 (fun _ _ => rets_v rfl) ⟨rfl, congrArg _ (tSpot_yes (by simpa using h1)).symm⟩
  · refine c_skip ?_
    refine c_seq ?_
    refine c_region ?_
    refine l_l rfl rfl rfl ?_
    refine l_x (x_val call_82 rfl (fun w hw => mod_fn _ 256 ⟨by decide, by decide⟩ w)) rfl rfl ?_
    rintro _ _ ⟨rfl, rfl⟩
    refine l_l rfl rfl rfl ?_
    refine l_x (x_val call_82 rfl (fun w hw => mod_fn _ 256 ⟨by decide, by decide⟩ w)) rfl rfl ?_
    rintro _ _ ⟨rfl, rfl⟩
    refine l_l rfl rfl rfl ?_
    refine l_l rfl rfl rfl ?_
    refine l_nil ?_
    refine c_seq ?_
    refine c_draw _ [2, 3, 4, 5, 6, 7, 8, 9, 10, 11, 13, 14] (.step true 0 (.step true 1 (.step true 2 (.step true 3 (.step true 4 (.step true 5 (.step true 6 (.step true 7 (.step true 8 (.step true 9 (.step true 10 (.step true 13 (.step true 14 (.step false 11 (.step false 12 (.step false 15 (.step true 16 .done))))))))))))))))) rfl (by kernel_rfl) (by kernel_rfl) (fun _ h => h) ?_
    refine d_light rfl rfl rfl rfl rfl ?_
    refine d_loadA rfl rfl rfl rfl (by first | exact srow_own (by repeat (first | exact .head _ | refine .tail _ ?_ | refine List.mem_append_right _ ?_)) | exact srow_own_at (by repeat (first | exact .head _ | refine .tail _ ?_ | refine List.mem_append_right _ ?_)) _ 5 rfl) rfl rfl ?_
    refine d_light rfl rfl rfl rfl rfl ?_
    refine d_light rfl rfl rfl rfl rfl ?_
    refine d_light rfl rfl rfl rfl rfl ?_
    refine d_as (v := (.int .i64 (py % 256 / 8))) rfl rfl rfl rfl rfl (congrArg _ (i64_eighth (mod256 _))) ?_
    refine d_as (v := (.int .i64 (32 * (py % 256 / 8)))) rfl rfl rfl rfl rfl (congrArg _ (wrap_i64 (by omega) (by omega))) ?_
    refine d_as (v := (.int .i64 (6144 + 32 * (py % 256 / 8)))) rfl rfl rfl rfl rfl (congrArg _ (wrap_i64 (by omega) (by omega))) ?_
    refine d_light rfl rfl rfl rfl rfl ?_
    refine d_as (v := (.int .i64 (px % 256 / 8))) rfl rfl rfl rfl rfl (congrArg _ (i64_eighth (mod256 _))) ?_
    refine d_as (v := (.int .i64 (6144 + 32 * (py % 256 / 8) + px % 256 / 8))) rfl rfl rfl rfl rfl (congrArg _ (wrap_i64 (by omega) (by omega))) ?_
    refine d_light rfl rfl rfl rfl rfl ?_
    refine d_light rfl rfl rfl rfl rfl ?_
    refine d_x rfl (x_val call_88 rfl (fun w hw => rat_fn _ _ l _ w (hB.later0 hw))) rfl rfl (by intro _ _ _ hK x hx; obtain ⟨rfl, rfl⟩ := hK; repeat (first | exact hx | exact List.mem_append_left _ hx | refine List.mem_append_right _ ?_ | refine .tail _ ?_)) ?_
    rintro _ _ ⟨rfl, rfl⟩
    refine d_x rfl (x_val call_89 rfl (fun w hw => rnum_fn v hv _ (vAt_byte hl _) w)) rfl rfl (by intro h; cases h) ?_
    rintro _ _ ⟨rfl, rfl⟩
    refine d_x rfl (x_val call_80 rfl (fun w hw => rdot_fn _ _ l hl _ _ _ w (hB.later0 hw))) rfl rfl (by intro h; cases h) ?_
    rintro _ _ ⟨rfl, rfl⟩
    refine d_light rfl rfl rfl rfl rfl ?_
    refine d_nil ?_
    refine c_ret ?_
    exact l_end0 (fun _ _ => rets_v rfl) ⟨rfl, congrArg _ (tSpot_no (by simpa using h1)).symm⟩

theorem rwin_fn (a : Option Addr) (cap : Nat) (l : List Int) (hl : Byts l)(v : Vw) (hv : v.Ok)(x y : Int) (w : World) (hB : Ns w .u8 a l) :
    Does Try.prog 70 [.agg (cV v).toArray, .slice a l.length cap, .int .i64 x, .int .i64 y] w [] (fun v' H => H = [] ∧ v' = .int .u8 (tWin l v x y)) := by
  refine does_of Try.func70 rfl rfl rfl (St.refl w) ?_
  refine c_seq ?_
  refine c_region ?_
  refine l_x (x_box rfl rfl) rfl rfl ?_
  rintro _ _ ⟨b4, rfl, rfl⟩
  refine l_l rfl rfl rfl ?_
  refine l_nil ?_
  refine c_seq ?_
  refine c_draw _ [1, 2, 3, 4, 5, 6, 7] (.step true 0 (.step true 1 (.step true 2 (.step true 3 (.step true 6 (.step true 7 (.step false 4 (.step true 5 (.step false 8 (.step true 9 .done)))))))))) rfl (by kernel_rfl) (by kernel_rfl) (fun _ h => h) ?_
  refine d_loadA rfl rfl rfl rfl (by first | exact srow_own (by repeat (first | exact .head _ | refine .tail _ ?_ | refine List.mem_append_right _ ?_)) | exact srow_own_at (by repeat (first | exact .head _ | refine .tail _ ?_ | refine List.mem_append_right _ ?_)) _ 5 rfl) rfl rfl ?_
  refine d_light rfl rfl rfl rfl rfl ?_
  refine d_light rfl (light_fa rfl rfl) rfl rfl rfl ?_
  refine d_load rfl rfl rfl (s_own (by repeat (first | exact .head _ | refine .tail _ ?_ | refine List.mem_append_right _ ?_)) (by rfl)) rfl rfl ?_
  refine d_light rfl rfl rfl rfl rfl ?_
  refine d_light rfl rfl rfl rfl rfl ?_
  refine d_x rfl (x_val call_67 rfl (fun w hw => bit_fn _ _ hv.c (by decide) w)) rfl rfl (by intro _ _ _ hK x hx; obtain ⟨rfl, rfl⟩ := hK; repeat (first | exact hx | exact List.mem_append_left _ hx | refine List.mem_append_right _ ?_ | refine .tail _ ?_)) ?_
  rintro _ _ ⟨rfl, rfl⟩
  refine d_light rfl rfl rfl rfl rfl ?_
  refine d_x rfl (x_val call_81 rfl (fun w hw => rspot_fn _ _ l hl v hv 6 _ _ w (hB.later0 hw))) rfl rfl (by intro h; cases h) ?_
  rintro _ _ ⟨rfl, rfl⟩
  refine d_light rfl rfl rfl rfl rfl ?_
  refine d_nil ?_
  refine c_ret ?_
  exact l_end0 (fun _ _ => rets_v rfl) ⟨rfl, rfl⟩

theorem rback_fn (a : Option Addr) (cap : Nat) (l : List Int) (hl : Byts l)(v : Vw) (hv : v.Ok)(x y : Int) (w : World) (hB : Ns w .u8 a l) :
    Does Try.prog 71 [.agg (cV v).toArray, .slice a l.length cap, .int .i64 x, .int .i64 y] w [] (fun v' H => H = [] ∧ v' = .int .u8 (tBack l v x y)) := by
  obtain ⟨hvc, hvx, hvy, hwx, hwy⟩ := id hv
  refine does_of Try.func71 rfl rfl rfl (St.refl w) ?_
  refine c_seq ?_
  refine c_region ?_
  refine l_x (x_box rfl rfl) rfl rfl ?_
  rintro _ _ ⟨b4, rfl, rfl⟩
  refine l_l rfl rfl rfl ?_
  refine l_nil ?_
  refine c_seq ?_
  refine c_draw _ [1, 2, 3, 4, 5, 6, 7, 8, 9, 10, 11, 12, 13, 14, 15, 16, 17] (.step true 0 (.step true 1 (.step true 2 (.step true 3 (.step true 6 (.step true 8 (.step true 9 (.step true 10 (.step true 12 (.step true 14 (.step true 15 (.step true 16 (.step false 4 (.step true 5 (.step false 7 (.step true 11 (.step false 13 (.step true 17 (.step false 18 (.step true 19 .done)))))))))))))))))))) rfl (by kernel_rfl) (by kernel_rfl) (fun _ h => h) ?_
  refine d_loadA rfl rfl rfl rfl (by first | exact srow_own (by repeat (first | exact .head _ | refine .tail _ ?_ | refine List.mem_append_right _ ?_)) | exact srow_own_at (by repeat (first | exact .head _ | refine .tail _ ?_ | refine List.mem_append_right _ ?_)) _ 5 rfl) rfl rfl ?_
  refine d_light rfl rfl rfl rfl rfl ?_
  refine d_light rfl (light_fa rfl rfl) rfl rfl rfl ?_
  refine d_load rfl rfl rfl (s_own (by repeat (first | exact .head _ | refine .tail _ ?_ | refine List.mem_append_right _ ?_)) (by rfl)) rfl rfl ?_
  refine d_light rfl rfl rfl rfl rfl ?_
  refine d_light rfl (light_fa rfl rfl) rfl rfl rfl ?_
  refine d_load rfl rfl rfl (s_own (by repeat (first | exact .head _ | refine .tail _ ?_ | refine List.mem_append_right _ ?_)) (by rfl)) rfl rfl ?_
  refine d_as (v := (.int .i64 (v.sx))) rfl rfl rfl rfl rfl (congrArg _ (wrap_i64 (by omega) (by omega))) ?_
  refine d_light rfl rfl rfl rfl rfl ?_
  refine d_light rfl (light_fa rfl rfl) rfl rfl rfl ?_
  refine d_load rfl rfl rfl (s_own (by repeat (first | exact .head _ | refine .tail _ ?_ | refine List.mem_append_right _ ?_)) (by rfl)) rfl rfl ?_
  refine d_as (v := (.int .i64 (v.sy))) rfl rfl rfl rfl rfl (congrArg _ (wrap_i64 (by omega) (by omega))) ?_
  refine d_x rfl (x_val call_67 rfl (fun w hw => bit_fn _ _ hv.c (by decide) w)) rfl rfl (by intro _ _ _ hK x hx; obtain ⟨rfl, rfl⟩ := hK; repeat (first | exact hx | exact List.mem_append_left _ hx | refine List.mem_append_right _ ?_ | refine .tail _ ?_)) ?_
  rintro _ _ ⟨rfl, rfl⟩
  refine d_light rfl rfl rfl rfl rfl ?_
  refine d_x rfl (x_val call_82 rfl (fun w hw => mod_fn _ 256 ⟨by decide, by decide⟩ w)) rfl rfl (by intro _ _ _ hK x hx; obtain ⟨rfl, rfl⟩ := hK; repeat (first | exact hx | exact List.mem_append_left _ hx | refine List.mem_append_right _ ?_ | refine .tail _ ?_)) ?_
  rintro _ _ ⟨rfl, rfl⟩
  refine d_as (v := (.int .i64 (x % 256 + v.sx))) rfl rfl rfl rfl rfl (congrArg _ (wrap_i64 (by omega) (by omega))) ?_
  refine d_x rfl (x_val call_82 rfl (fun w hw => mod_fn _ 256 ⟨by decide, by decide⟩ w)) rfl rfl (by intro _ _ _ hK x hx; obtain ⟨rfl, rfl⟩ := hK; repeat (first | exact hx | exact List.mem_append_left _ hx | refine List.mem_append_right _ ?_ | refine .tail _ ?_)) ?_
  rintro _ _ ⟨rfl, rfl⟩
  refine d_as (v := (.int .i64 (y % 256 + v.sy))) rfl rfl rfl rfl rfl (congrArg _ (wrap_i64 (by omega) (by omega))) ?_
  refine d_x rfl (x_val call_81 rfl (fun w hw => rspot_fn _ _ l hl v hv 3 _ _ w (hB.later0 hw))) rfl rfl (by intro h; cases h) ?_
  rintro _ _ ⟨rfl, rfl⟩
  refine d_light rfl rfl rfl rfl rfl ?_
  refine d_nil ?_
  refine c_ret ?_
  exact l_end0 (fun _ _ => rets_v rfl) ⟨rfl, congrArg _ (by unfold tBack; rw [show (x % 256 + v.sx) % 256 = (x + v.sx) % 256 by omega, show (y % 256 + v.sy) % 256 = (y + v.sy) % 256 by omega])⟩

theorem rseen_fn (v : Vw) (hv : v.Ok) (line : Int) (w : World) :
    Does Try.prog 51 [.agg (cV v).toArray, .int .i64 line] w [] (fun v' H => H = [] ∧ v' = .bool (tSeen v line)) := by
  obtain ⟨hvc, hvx, hvy, hwx, hwy⟩ := id hv
  refine does_of Try.func51 rfl rfl rfl (St.refl w) ?_
  refine c_seq ?_
  refine c_region ?_
  refine l_x (x_box rfl rfl) rfl rfl ?_
  rintro _ _ ⟨b2, rfl, rfl⟩
  refine l_l rfl rfl rfl ?_
  refine l_nil ?_
  refine c_seq ?_
  refine c_region ?_
  refine l_l (light_fa rfl rfl) rfl rfl ?_
  refine l_x (x_load rfl rfl (at_own (by repeat (first | exact .head _ | refine .tail _ ?_ | refine List.mem_append_right _ ?_)) (by rfl))) rfl rfl ?_
  rintro _ _ ⟨rfl, rfl⟩
  refine l_x (x_val call_67 rfl (fun w hw => bit_fn _ _ hv.c (by decide) w)) rfl rfl ?_
  rintro _ _ ⟨rfl, rfl⟩
  refine l_l rfl rfl rfl ?_
  refine l_b rfl rfl rfl (fun h1 => ?_) (fun h1 => ?_)
  · refine l_l (light_fa rfl rfl) rfl rfl ?_
    refine l_x (x_load rfl rfl (at_own (by repeat (first | exact .head _ | refine .tail _ ?_ | refine List.mem_append_right _ ?_)) (by rfl))) rfl rfl ?_
    rintro _ _ ⟨rfl, rfl⟩
    refine l_x (x_val call_67 rfl (fun w hw => bit_fn _ _ hv.c (by decide) w)) rfl rfl ?_
    rintro _ _ ⟨rfl, rfl⟩
    refine l_l rfl rfl rfl ?_
    refine l_l rfl rfl rfl ?_
    refine l_b rfl rfl rfl (fun h2 => ?_) (fun h2 => ?_)
    · refine l_l (light_fa rfl rfl) rfl rfl ?_
      refine l_x (x_load rfl rfl (at_own (by repeat (first | exact .head _ | refine .tail _ ?_ | refine List.mem_append_right _ ?_)) (by rfl))) rfl rfl ?_
      rintro _ _ ⟨rfl, rfl⟩
      refine l_as (v := (.int .i64 (v.wy))) rfl rfl rfl (congrArg _ (wrap_i64 (by omega) (by omega))) ?_
      refine l_l rfl rfl rfl ?_
      refine l_l rfl rfl rfl ?_
      refine l_l rfl rfl rfl ?_
      refine l_b rfl rfl rfl (fun h3 => ?_) (fun h3 => ?_)
      · refine l_l (light_fa rfl rfl) rfl rfl ?_
        refine l_x (x_load rfl rfl (at_own (by repeat (first | exact .head _ | refine .tail _ ?_ | refine List.mem_append_right _ ?_)) (by rfl))) rfl rfl ?_
        rintro _ _ ⟨rfl, rfl⟩
        refine l_l rfl rfl rfl ?_
        refine l_l rfl rfl rfl ?_
        refine l_l rfl rfl rfl ?_
        refine l_nil ?_
        refine c_ret ?_
        exact l_end0 (fun _ _ => rets_v rfl) ⟨rfl, congrArg _ (by unfold tSeen; simp_all <;> omega)⟩
      · refine l_p rfl rfl ?_
        refine l_p rfl rfl ?_
        refine l_p rfl rfl ?_
        refine l_l rfl rfl rfl ?_
        refine l_l rfl rfl rfl ?_
        refine l_nil ?_
        refine c_ret ?_
        exact l_end0 (fun _ _ => rets_v rfl) ⟨rfl, congrArg _ (by unfold tSeen; simp_all <;> omega)⟩
    · refine l_p rfl rfl ?_
      refine l_p rfl rfl ?_
      refine l_p rfl rfl ?_
      refine l_p rfl rfl ?_
      refine l_p rfl rfl ?_
      refine l_l rfl rfl rfl ?_
      refine l_l rfl rfl rfl ?_
      refine l_p rfl rfl ?_
      refine l_p rfl rfl ?_
      refine l_p rfl rfl ?_
      refine l_l rfl rfl rfl ?_
      refine l_l rfl rfl rfl ?_
      refine l_nil ?_
      refine c_ret ?_
      exact l_end0 (fun _ _ => rets_v rfl) ⟨rfl, congrArg _ (by unfold tSeen; simp_all <;> omega)⟩
  · refine l_p rfl rfl ?_
    refine l_p rfl rfl ?_
    refine l_p rfl rfl ?_
    refine l_p rfl rfl ?_
    refine l_l rfl rfl rfl ?_
    refine l_l rfl rfl rfl ?_
    refine l_p rfl rfl ?_
    refine l_p rfl rfl ?_
    refine l_p rfl rfl ?_
    refine l_p rfl rfl ?_
    refine l_p rfl rfl ?_
    refine l_l rfl rfl rfl ?_
    refine l_l rfl rfl rfl ?_
    refine l_p rfl rfl ?_
    refine l_p rfl rfl ?_
    refine l_p rfl rfl ?_
    refine l_l rfl rfl rfl ?_
    refine l_l rfl rfl rfl ?_
    refine l_nil ?_
    refine c_ret ?_
    exact l_end0 (fun _ _ => rets_v rfl) ⟨rfl, congrArg _ (by unfold tSeen; simp_all <;> omega)⟩

theorem rtline_fn (a : Option Addr) (cap : Nat) (l : List Int) (hl : Byts l)(v : Vw) (hv : v.Ok) (line own : Int) (w : World) (hB : Ns w .u8 a l) :
    Does Try.prog 50 [.agg (cV v).toArray, .slice a l.length cap, .int .i64 line, .int .i64 own] w [] (fun v' H => H = [] ∧ v' = .agg ((tLine l v line own).map (.int .u8)).toArray) := by
  obtain ⟨hvc, hvx, hvy, hwx, hwy⟩ := id hv
  refine does_of Try.func50 rfl rfl rfl (St.refl w) ?_
  refine c_seq ?_
  refine c_region ?_
  refine l_x (x_box rfl rfl) rfl rfl ?_
  rintro _ _ ⟨b4, rfl, rfl⟩
  refine l_x (x_alloc (l := List.replicate 160 (.int .u8 0)) (by kernel_rfl)) rfl rfl ?_
  rintro _ _ ⟨b8, rfl, rfl⟩
  refine l_nil ?_
  refine c_seq ?_
  refine c_region ?_
  refine l_l (light_array (l := List.replicate 160 (.int .u8 0)) (z := List.replicate 160 (.int .u8 0)) (ps := []) (n := 160) (el := 5) (s := 1) (by kernel_rfl) (by kernel_rfl) (by kernel_rfl) (by kernel_rfl)) rfl rfl ?_
  refine l_x (x_alloc (l := List.replicate 160 (.int .u8 0)) (by kernel_rfl)) rfl rfl ?_
  rintro _ _ ⟨b9, rfl, rfl⟩
  refine l_x (x_store (vs := List.replicate 160 (.int .u8 0)) (l := List.replicate 160 (.int .u8 0)) 0 rfl rfl rfl (by kernel_rfl) (by kernel_rfl) rfl (by simp)) rfl rfl ?_
  rintro _ _ ⟨rfl, rfl⟩
  rw [List.set_cons_zero, putL_all (by simp)]
  refine l_nil ?_
  refine c_seq ?_
  refine c_seq ?_
  refine c_region ?_
  refine l_l (light_fa rfl rfl) rfl rfl ?_
  refine l_x (x_load rfl rfl (at_own (by repeat (first | exact .head _ | refine .tail _ ?_ | refine List.mem_append_right _ ?_)) (by rfl))) rfl rfl ?_
  rintro _ _ ⟨rfl, rfl⟩
  refine l_x (x_val call_67 rfl (fun w hw => bit_fn _ _ hv.c (by decide) w)) rfl rfl ?_
  rintro _ _ ⟨rfl, rfl⟩
  refine l_l rfl rfl rfl ?_
  refine l_nil ?_
  refine c_cond rfl (fun h1 => ?_) (fun h1 => ?_)
  · refine c_seq ?_
    refine c_region ?_
    refine l_x (x_loadA rfl rfl rfl (row_own (.head _))) rfl rfl ?_
    rintro _ _ ⟨rfl, rfl⟩
    refine l_x (x_store (vs := List.replicate 160 (.int .u8 0)) (l := List.replicate 160 (.int .u8 0)) 1 rfl rfl rfl (by kernel_rfl) (by kernel_rfl) rfl (by simp)) rfl rfl ?_
    rintro _ _ ⟨rfl, rfl⟩
    refine l_nil ?_
    refine c_ret ?_
    exact l_end0 (fun w hw => rets_cell (l := List.replicate 160 (.int .u8 0)) rfl rfl (by kernel_rfl) (row_own (.tail _ (.head _)) w hw)) ⟨rfl, by rw [tLine_off (by simpa using h1), List.map_replicate]⟩
  · refine c_skip ?_
    refine c_seq ?_
    have h1on : rBit v.c 0 = 1 := by have := rBit_01 v.c 0; simp at h1; omega
    refine c_region ?_
    refine l_x (x_loadA rfl rfl rfl (by first | exact row_own (by repeat (first | exact .head _ | refine .tail _ ?_ | refine List.mem_append_right _ ?_)) | exact row_own_at (by repeat (first | exact .head _ | refine .tail _ ?_ | refine List.mem_append_right _ ?_)) _ 5 rfl)) rfl rfl ?_
    rintro _ _ ⟨rfl, rfl⟩
    refine l_l rfl rfl rfl ?_
    refine l_x (x_val call_51 rfl (fun w hw => rseen_fn v hv _ w)) rfl rfl ?_
    rintro _ _ ⟨rfl, rfl⟩
    refine l_l rfl rfl rfl ?_
    refine l_nil ?_
    refine c_seq ?_
    refine c_seq ?_
    refine c_region ?_
    refine l_l rfl rfl rfl ?_
    refine l_nil ?_
    refine c_block ?_
    refine c_loop (σ := Nat) [11, 12, 22, 23, 24, 25, 26, 27, 28, 29, 30, 31, 32, 33, 34, 35, 36, 37, 38, 39, 40, 41, 42, 43, 44, 45, 46, 47, 48, 49, 50] (fun k => [(22, .int .i64 k)]) (fun k => [(b9, blk (upTo .u8 (tPix l v line own) 160 k) 43), (b8, blk (List.replicate 160 (.int .u8 0)) 43), (b4, blk (cV v) 78)]) (fun k => k ≤ 160) (fun k => 160 - k) 0 ?_ ?_ ?_ ?_
    · show 0 ≤ 160; omega
    · exact .cons rfl .nil
    · exact fun w h => by rw [← upTo_zero]; exact h
    · intro k y hk
      refine c_seq ?_
      refine c_region ?_
      refine l_l rfl rfl rfl ?_
      refine l_nil ?_
      refine c_seq ?_
      refine c_cond rfl (fun h2 => ?_) (fun h2 => ?_)
      · refine c_skip ?_
        refine c_seq ?_
        refine c_block ?_
        refine c_seq ?_
        refine c_region ?_
        refine l_l rfl rfl rfl ?_
        refine l_l rfl rfl rfl ?_
        refine l_nil ?_
        refine c_seq ?_
        refine c_region ?_
        refine l_l rfl rfl rfl ?_
        refine l_as (v := (.int .i64 ((k : Int) + 7))) rfl rfl rfl (congrArg _ (wrap_i64 (by omega) (by omega))) ?_
        refine l_l (light_fa rfl rfl) rfl rfl ?_
        refine l_x (x_load rfl rfl (at_own (by repeat (first | exact .head _ | refine .tail _ ?_ | refine List.mem_append_right _ ?_)) (by rfl))) rfl rfl ?_
        rintro _ _ ⟨rfl, rfl⟩
        refine l_as (v := (.int .i64 (v.wx))) rfl rfl rfl (congrArg _ (wrap_i64 (by omega) (by omega))) ?_
        refine l_as (v := (.int .i64 ((k : Int) + 7 - v.wx))) rfl rfl rfl (congrArg _ (wrap_i64 (by omega) (by omega))) ?_
        refine l_l rfl rfl rfl ?_
        refine l_nil ?_
        refine c_seq ?_
        refine c_region ?_
        refine l_l rfl rfl rfl ?_
        refine l_b rfl rfl rfl (fun h3 => ?_) (fun h3 => ?_)
        · refine l_l rfl rfl rfl ?_
          refine l_l rfl rfl rfl ?_
          refine l_l rfl rfl rfl ?_
          refine l_nil ?_
          refine c_cond rfl (fun h4 => ?_) (fun h4 => ?_)
          · refine c_region ?_
            refine l_l rfl rfl rfl ?_
            refine l_x (x_loadA rfl rfl rfl (by first | exact row_own (by repeat (first | exact .head _ | refine .tail _ ?_ | refine List.mem_append_right _ ?_)) | exact row_own_at (by repeat (first | exact .head _ | refine .tail _ ?_ | refine List.mem_append_right _ ?_)) _ 5 rfl)) rfl rfl ?_
            rintro _ _ ⟨rfl, rfl⟩
            refine l_l rfl rfl rfl ?_
            refine l_l rfl rfl rfl ?_
            refine l_l rfl rfl rfl ?_
            refine l_x (x_val call_70 rfl (fun w hw => rwin_fn _ _ l hl v hv _ _ w (hB.later0 hw))) rfl rfl ?_
            rintro _ _ ⟨rfl, rfl⟩
            refine l_l (idx_array0 k rfl rfl rfl rfl (by (try simp only [decide_eq_true_eq, decide_eq_false_iff_not, beq_iff_eq, beq_eq_false_iff_ne, bne_iff_ne, bne_eq_false_iff_eq, ne_eq] at *); omega)) rfl rfl ?_
            refine l_x (x_store 0 rfl rfl rfl rfl rfl rfl (by rw [upTo_len (by (try simp only [decide_eq_true_eq, decide_eq_false_iff_not, beq_iff_eq, beq_eq_false_iff_ne, bne_iff_ne, bne_eq_false_iff_eq, ne_eq] at *); omega)]; simp only [List.length_cons, List.length_nil]; (try simp only [decide_eq_true_eq, decide_eq_false_iff_not, beq_iff_eq, beq_eq_false_iff_ne, bne_iff_ne, bne_eq_false_iff_eq, ne_eq] at *); omega)) rfl rfl ?_
            rintro _ _ ⟨rfl, rfl⟩
            rw [List.set_cons_zero, upTo_put (f := tPix l v line own) (by (try simp only [decide_eq_true_eq, decide_eq_false_iff_not, beq_iff_eq, beq_eq_false_iff_ne, bne_iff_ne, bne_eq_false_iff_eq, ne_eq] at *); omega) _ (pix_win h1on (by simpa using h3) (by simpa using h4))]
            refine l_nil ?_
            refine c_region ?_
            refine l_as (v := (.int .i64 ((k + 1 : Nat) : Int))) rfl rfl rfl (congrArg _ (succ_law (by omega))) ?_
            refine l_l rfl rfl rfl ?_
            refine l_nil ?_
            exact ⟨k + 1, by (try simp only [decide_eq_true_eq, decide_eq_false_iff_not, beq_iff_eq, beq_eq_false_iff_ne, bne_iff_ne, bne_eq_false_iff_eq, ne_eq] at *); omega, by (try simp only [decide_eq_true_eq, decide_eq_false_iff_not, beq_iff_eq, beq_eq_false_iff_ne, bne_iff_ne, bne_eq_false_iff_eq, ne_eq] at *); omega, .cons rfl .nil, (by repeat (first | exact Agree.refl _ _ | exact Agree.mix rfl | refine Agree.put rfl ?_ | refine Agree.keep rfl ?_)), fun _ h => h⟩
          · refine c_region ?_
            refine l_l rfl rfl rfl ?_
            refine l_x (x_loadA rfl rfl rfl (by first | exact row_own (by repeat (first | exact .head _ | refine .tail _ ?_ | refine List.mem_append_right _ ?_)) | exact row_own_at (by repeat (first | exact .head _ | refine .tail _ ?_ | refine List.mem_append_right _ ?_)) _ 5 rfl)) rfl rfl ?_
            rintro _ _ ⟨rfl, rfl⟩
            refine l_l rfl rfl rfl ?_
            refine l_l rfl rfl rfl ?_
            refine l_l rfl rfl rfl ?_
            refine l_x (x_val call_71 rfl (fun w hw => rback_fn _ _ l hl v hv _ _ w (hB.later0 hw))) rfl rfl ?_
            rintro _ _ ⟨rfl, rfl⟩
            refine l_l (idx_array0 k rfl rfl rfl rfl (by (try simp only [decide_eq_true_eq, decide_eq_false_iff_not, beq_iff_eq, beq_eq_false_iff_ne, bne_iff_ne, bne_eq_false_iff_eq, ne_eq] at *); omega)) rfl rfl ?_
            refine l_x (x_store 0 rfl rfl rfl rfl rfl rfl (by rw [upTo_len (by (try simp only [decide_eq_true_eq, decide_eq_false_iff_not, beq_iff_eq, beq_eq_false_iff_ne, bne_iff_ne, bne_eq_false_iff_eq, ne_eq] at *); omega)]; simp only [List.length_cons, List.length_nil]; (try simp only [decide_eq_true_eq, decide_eq_false_iff_not, beq_iff_eq, beq_eq_false_iff_ne, bne_iff_ne, bne_eq_false_iff_eq, ne_eq] at *); omega)) rfl rfl ?_
            rintro _ _ ⟨rfl, rfl⟩
            rw [List.set_cons_zero, upTo_put (f := tPix l v line own) (by (try simp only [decide_eq_true_eq, decide_eq_false_iff_not, beq_iff_eq, beq_eq_false_iff_ne, bne_iff_ne, bne_eq_false_iff_eq, ne_eq] at *); omega) _ (pix_back h1on (by intro h0; have h1 := h0.2; simp at h4; omega))]
            refine l_nil ?_
            refine c_region ?_
            refine l_as (v := (.int .i64 ((k + 1 : Nat) : Int))) rfl rfl rfl (congrArg _ (succ_law (by omega))) ?_
            refine l_l rfl rfl rfl ?_
            refine l_nil ?_
            exact ⟨k + 1, by (try simp only [decide_eq_true_eq, decide_eq_false_iff_not, beq_iff_eq, beq_eq_false_iff_ne, bne_iff_ne, bne_eq_false_iff_eq, ne_eq] at *); omega, by (try simp only [decide_eq_true_eq, decide_eq_false_iff_not, beq_iff_eq, beq_eq_false_iff_ne, bne_iff_ne, bne_eq_false_iff_eq, ne_eq] at *); omega, .cons rfl .nil, (by repeat (first | exact Agree.refl _ _ | exact Agree.mix rfl | refine Agree.put rfl ?_ | refine Agree.keep rfl ?_)), fun _ h => h⟩
        · refine l_p rfl rfl ?_
          refine l_p rfl rfl ?_
          refine l_l rfl rfl rfl ?_
          refine l_nil ?_
          refine c_false rfl ?_
          refine c_region ?_
          refine l_l rfl rfl rfl ?_
          refine l_x (x_loadA rfl rfl rfl (by first | exact row_own (by repeat (first | exact .head _ | refine .tail _ ?_ | refine List.mem_append_right _ ?_)) | exact row_own_at (by repeat (first | exact .head _ | refine .tail _ ?_ | refine List.mem_append_right _ ?_)) _ 5 rfl)) rfl rfl ?_
          rintro _ _ ⟨rfl, rfl⟩
          refine l_l rfl rfl rfl ?_
          refine l_l rfl rfl rfl ?_
          refine l_l rfl rfl rfl ?_
          refine l_x (x_val call_71 rfl (fun w hw => rback_fn _ _ l hl v hv _ _ w (hB.later0 hw))) rfl rfl ?_
          rintro _ _ ⟨rfl, rfl⟩
          refine l_l (idx_array0 k rfl rfl rfl rfl (by (try simp only [decide_eq_true_eq, decide_eq_false_iff_not, beq_iff_eq, beq_eq_false_iff_ne, bne_iff_ne, bne_eq_false_iff_eq, ne_eq] at *); omega)) rfl rfl ?_
          refine l_x (x_store 0 rfl rfl rfl rfl rfl rfl (by rw [upTo_len (by (try simp only [decide_eq_true_eq, decide_eq_false_iff_not, beq_iff_eq, beq_eq_false_iff_ne, bne_iff_ne, bne_eq_false_iff_eq, ne_eq] at *); omega)]; simp only [List.length_cons, List.length_nil]; (try simp only [decide_eq_true_eq, decide_eq_false_iff_not, beq_iff_eq, beq_eq_false_iff_ne, bne_iff_ne, bne_eq_false_iff_eq, ne_eq] at *); omega)) rfl rfl ?_
          rintro _ _ ⟨rfl, rfl⟩
          rw [List.set_cons_zero, upTo_put (f := tPix l v line own) (by (try simp only [decide_eq_true_eq, decide_eq_false_iff_not, beq_iff_eq, beq_eq_false_iff_ne, bne_iff_ne, bne_eq_false_iff_eq, ne_eq] at *); omega) _ (pix_back h1on (by intro h0; rw [h0.1] at h3; cases h3))]
          refine l_nil ?_
          refine c_region ?_
          refine l_as (v := (.int .i64 ((k + 1 : Nat) : Int))) rfl rfl rfl (congrArg _ (succ_law (by omega))) ?_
          refine l_l rfl rfl rfl ?_
          refine l_nil ?_
          exact ⟨k + 1, by (try simp only [decide_eq_true_eq, decide_eq_false_iff_not, beq_iff_eq, beq_eq_false_iff_ne, bne_iff_ne, bne_eq_false_iff_eq, ne_eq] at *); omega, by (try simp only [decide_eq_true_eq, decide_eq_false_iff_not, beq_iff_eq, beq_eq_false_iff_ne, bne_iff_ne, bne_eq_false_iff_eq, ne_eq] at *); omega, .cons rfl .nil, (by repeat (first | exact Agree.refl _ _ | exact Agree.mix rfl | refine Agree.put rfl ?_ | refine Agree.keep rfl ?_)), fun _ h => h⟩
      · refine c_exit rfl ?_
        refine c_seq ?_
        obtain rfl : k = 160 := by (try simp only [decide_eq_true_eq, decide_eq_false_iff_not, beq_iff_eq, beq_eq_false_iff_ne, bne_iff_ne, bne_eq_false_iff_eq, ne_eq] at *); omega
        refine c_region ?_
        refine l_x (x_loadA rfl rfl (by rw [upTo_len (Nat.le_refl _)]; rfl) (row_own (.head _))) rfl rfl ?_
        rintro _ _ ⟨rfl, rfl⟩
        refine l_x (x_store (vs := (upTo .u8 (tPix l v line own) 160 160)) (l := List.replicate 160 (.int .u8 0)) 1 rfl rfl rfl (by rw [upTo_len (Nat.le_refl _)]; rfl) (upTo_ones _ _ _ _) rfl (by rw [upTo_len (Nat.le_refl _)]; simp)) rfl rfl ?_
        rintro _ _ ⟨rfl, rfl⟩
        rw [putL_all (by rw [upTo_len (Nat.le_refl _)]; simp)]
        refine l_nil ?_
        refine c_ret ?_
        exact l_end0 (fun w hw => rets_cell (l := (upTo .u8 (tPix l v line own) 160 160)) rfl rfl (by rw [upTo_len (Nat.le_refl _)]; rfl) (row_own (.tail _ (.head _)) w hw)) ⟨rfl, by rw [tLine_vals]⟩

end Go.Proofs.Ytjceoaomkbabmaa
namespace Go.Proofs.Ytjceoaomkbabmaa
open Go Go.VV

theorem up_range {q : Int → Bool} {xk : Int → Int} {l : List Int} (hl : ∀ n ∈ l, 0 ≤ n ∧ n < 40) : -1 ≤ upper q xk l ∧ upper q xk l < 40 := by
  suffices h : ∀ (l : List Int) (b : Int), (∀ n ∈ l, 0 ≤ n ∧ n < 40) → -1 ≤ b ∧ b < 40 → -1 ≤ l.foldl (upStep q xk) b ∧ l.foldl (upStep q xk) b < 40 from h l (-1) hl (by omega)
  intro l
  induction l with
  | nil => exact fun b _ h => h
  | cons a l ih =>
    intro b hl hb
    refine ih _ (fun n hn => hl n (by simp [hn])) ?_
    have := hl a (by simp)
    unfold upStep; split <;> omega
theorem take_range {l : List Int} (hl : ∀ n ∈ l, 0 ≤ n ∧ n < 40) (k : Nat) : ∀ n ∈ l.take k, 0 ≤ n ∧ n < 40 := fun n hn => hl n (List.mem_of_mem_take hn)
theorem up_next {q : Int → Bool} {xk : Int → Int} {l : List Int} {k : Nat} (hk : k < l.length) : upper q xk (l.take (k + 1)) = upStep q xk (upper q xk (l.take k)) (l.getD k 0) := by
  rw [List.take_succ_eq_append_getElem hk, upper_snoc, List.getD_eq_getElem?_getD, List.getElem?_eq_getElem hk]; rfl
theorem up_yes {q : Int → Bool} {xk : Int → Int} {l : List Int} {k : Nat} (hk : k < l.length) (h : q (l.getD k 0) = true) (h2 : upper q xk (l.take k) < 0 ∨ xk (l.getD k 0) < xk (upper q xk (l.take k))) : l.getD k 0 = upper q xk (l.take (k + 1)) := by
  rw [up_next hk, upStep, if_pos ⟨h, h2⟩]
theorem up_no {q : Int → Bool} {xk : Int → Int} {l : List Int} {k : Nat} (hk : k < l.length) (h : ¬ (q (l.getD k 0) = true ∧ (upper q xk (l.take k) < 0 ∨ xk (l.getD k 0) < xk (upper q xk (l.take k))))) : upper q xk (l.take k) = upper q xk (l.take (k + 1)) := by
  rw [up_next hk, upStep, if_neg h]
theorem upper_congr {q q' : Int → Bool} {xk : Int → Int} {l : List Int} (h : ∀ n ∈ l, q n = q' n) : upper q xk l = upper q' xk l := by
  suffices hh : ∀ (l : List Int) (b : Int), (∀ n ∈ l, q n = q' n) → l.foldl (upStep q xk) b = l.foldl (upStep q' xk) b from hh l (-1) h
  intro l
  induction l with
  | nil => exact fun _ _ => rfl
  | cons a l ih =>
    intro b hl
    rw [List.foldl_cons, List.foldl_cons]
    have : upStep q xk b a = upStep q' xk b a := by unfold upStep; rw [hl a (by simp)]
    rw [this]
    exact ih _ (fun n hn => hl n (by simp [hn]))

def qR (l oam : List Int) (c x line : Int) (n : Int) : Bool := spDot l oam c n x line != 0
def upS (l oam : List Int) (c x line : Int) : Int := upper (qR l oam c x line) (fun n => oB oam n 1) (scan oam c line)
theorem upS_range (l oam : List Int) (c x line : Int) : -1 ≤ upS l oam c x line ∧ upS l oam c x line < 40 := up_range scan_range
def refS (l oam : List Int) (c bk f s2 line : Int) (bl : List Int) (i : Nat) : Int :=
  if rBit c 1 = 0 ∨ upS l oam c i line < 0 then shd bk (bl.getD i 0) else
  if rBit (oB oam (upS l oam c i line) 3) 7 = 1 ∧ bl.getD i 0 % 4 ≠ 0 then shd bk (bl.getD i 0) else
  if rBit (oB oam (upS l oam c i line) 3) 4 = 1 then shd s2 (spDot l oam c (upS l oam c i line) i line) else shd f (spDot l oam c (upS l oam c i line) i line)
theorem ref_1 {l oam : List Int} {c bk f s2 line : Int} {bl : List Int} {i : Nat} (h : rBit c 1 = 0 ∨ upS l oam c i line < 0) : shd bk (bl.getD i 0) = refS l oam c bk f s2 line bl i := by rw [refS, if_pos h]
theorem ref_2 {l oam : List Int} {c bk f s2 line : Int} {bl : List Int} {i : Nat} (h : ¬ (rBit c 1 = 0 ∨ upS l oam c i line < 0)) (h2 : rBit (oB oam (upS l oam c i line) 3) 7 = 1 ∧ bl.getD i 0 % 4 ≠ 0) : shd bk (bl.getD i 0) = refS l oam c bk f s2 line bl i := by rw [refS, if_neg h, if_pos h2]
theorem ref_3 {l oam : List Int} {c bk f s2 line : Int} {bl : List Int} {i : Nat} (h : ¬ (rBit c 1 = 0 ∨ upS l oam c i line < 0)) (h2 : ¬ (rBit (oB oam (upS l oam c i line) 3) 7 = 1 ∧ bl.getD i 0 % 4 ≠ 0)) {b : Bool} (h3 : (rBit (oB oam (upS l oam c i line) 3) 4 == 1) = b) :
    (bif b then shd s2 (spDot l oam c (upS l oam c i line) i line) else shd f (spDot l oam c (upS l oam c i line) i line)) = refS l oam c bk f s2 line bl i := by
  rw [refS, if_neg h, if_neg h2]
  subst h3
  by_cases h : rBit (oB oam (upS l oam c i line) 3) 4 = 1
  · simp [h]
  · have h1 : (rBit (oB oam (upS l oam c i line) 3) 4 == 1) = false := by simpa using h
    rw [if_neg h, h1]; rfl
theorem hit_q (l oam : List Int) (c x line : Int) {n : Int} (h : 0 ≤ n ∧ n < 40) : hit l c x line (sp oam n) = qR l oam c x line n := by
  unfold hit qR
  rw [← spDot_in (by omega)]; rfl
theorem ref_eq (l oam : List Int) (c bk f s2 line : Int) (bl : List Int) (i : Nat) : refS l oam c bk f s2 line bl i = lineS l oam c bk f s2 line bl i := by
  unfold lineS refS
  by_cases hc : rBit c 1 = 1
  · have hs : shownS oam c line = (scan oam c line).map (sp oam) := by rw [shownS, if_pos hc]
    rw [hs, upper_law oam (hit l c i line) (scan oam c line) (fun n hn => (scan_range n hn).1)]
    have hu : upper (fun n => hit l c i line (sp oam n)) (fun n => oB oam n 1) (scan oam c line) = upS l oam c i line := upper_congr fun n hn => hit_q l oam c i line (scan_range n hn)
    rw [hu]
    have hr := upS_range l oam c i line
    generalize upS l oam c i line = u at *
    by_cases h0 : u < 0
    · rw [if_pos h0, if_pos (.inr h0)]; rfl
    · rw [if_neg h0, if_neg (by omega)]
      have e : sDot l c (sp oam u).y (sp oam u).x (sp oam u).t (sp oam u).h i line = spDot l oam c u i line := spDot_in (by omega)
      simp only [seenS, e]
      rfl
  · have hc0 : rBit c 1 = 0 := by rcases rBit_01 c 1 with h | h <;> omega
    have hs : shownS oam c line = [] := by rw [shownS, if_neg hc]
    rw [if_pos (.inl hc0), hs]; rfl

/-! ### no sprites -/
theorem bandn2 {c : Int} (hc : 0 ≤ c ∧ c < 256) : (0 ≤ bandn .u8 c 2 ∧ bandn .u8 c 2 < 256) ∧ rBit (bandn .u8 c 2) 1 = 0 := by
  have := byte_all (p := fun h => decide (0 ≤ bandn .u8 h 2 ∧ bandn .u8 h 2 < 256) && decide (rBit (bandn .u8 h 2) 1 = 0) = true) (by decide +kernel) hc.1 hc.2
  simp only [Bool.and_eq_true, decide_eq_true_eq] at this
  exact this
theorem line_off (l oam : List Int) {c bk f s2 line : Int} {bl : List Int} (h : rBit c 1 = 0) : lineL l oam c bk f s2 line bl = (List.range 160).map (fun i => Value.int .u8 (shd bk (bl.getD i 0))) := by
  have hs : shownS oam c line = [] := by rw [shownS, if_neg (by omega)]
  unfold lineL lineS
  rw [hs]; rfl
theorem line_none {l oam : List Int} {c bk f s2 line : Int} {bl : List Int} (h : shownS oam c line = []) : lineL l oam c bk f s2 line bl = (List.range 160).map (fun i => Value.int .u8 (shd bk (bl.getD i 0))) := by
  unfold lineL lineS
  rw [h]; rfl
theorem line_nil (l : List Int) {c bk f s2 line : Int} (bl : List Int) (h : 0 ≤ line) : lineL l [] c bk f s2 line bl = (List.range 160).map (fun i => Value.int .u8 (shd bk (bl.getD i 0))) := by
  refine line_none ?_
  unfold shownS
  split
  · have hf : (List.range 40).filter (hasB [] c line) = [] := by
      rw [List.filter_eq_nil_iff]
      intro n _
      have hg := hgt_two c
      simp [hasB, oB]; omega
    simp [scan, scanK, hf]
  · rfl
theorem shds_get {bk : Int} {bl : List Int} {k : Nat} (h : k < 160) : ((List.range 160).map (fun i => Value.int .u8 (shd bk (bl.getD i 0))))[k]? = some (.int .u8 (shd bk (bl.getD k 0))) := by
  rw [List.getElem?_map, List.getElem?_range h]; rfl
theorem shds_ones (bk : Int) (bl : List Int) : ones ((List.range 160).map (fun i => Value.int .u8 (shd bk (bl.getD i 0)))) = true := by
  refine List.all_eq_true.2 fun x hx => ?_
  obtain ⟨i, _, rfl⟩ := List.mem_map.1 hx; rfl

/-! ### two sprites on one line -/
theorem bor2 {c : Int} (hc : 0 ≤ c ∧ c < 256) : (0 ≤ bor .u8 c 2 ∧ bor .u8 c 2 < 256) ∧ rBit (bor .u8 c 2) 1 = 1 := by
  have := byte_all (p := fun h => decide (0 ≤ bor .u8 h 2 ∧ bor .u8 h 2 < 256) && decide (rBit (bor .u8 h 2) 1 = 1) = true) (by decide +kernel) hc.1 hc.2
  simp only [Bool.and_eq_true, decide_eq_true_eq] at this
  exact this
theorem band127 {c : Int} (hc : 0 ≤ c ∧ c < 256) : 0 ≤ band .u8 c 127 ∧ band .u8 c 127 < 256 := by
  have := byte_all (p := fun h => decide (0 ≤ band .u8 h 127 ∧ band .u8 h 127 < 256) = true) (by decide +kernel) hc.1 hc.2
  simpa using this
theorem scanK_stop {oam : List Int} {c line : Int} {k m : Nat} (h : ∀ n, k ≤ n → hasB oam c line n = false) (hm : k ≤ m) : scanK oam c line m = scanK oam c line k := by
  induction m with
  | zero => have : k = 0 := by omega
            subst this; rfl
  | succ m ih =>
    by_cases hk : k = m + 1
    · subst hk; rfl
    · rw [scanK_no (h m (by omega)), ih (by omega)]
theorem has_none {oam : List Int} {c line : Int} {n : Nat} (hl : 0 ≤ line) (h : oam.length ≤ 4 * n) : hasB oam c line n = false := by
  have hg := hgt_two c
  have e : oB oam (n : Int) 0 = 0 := by simp [oB, List.getD_eq_getElem?_getD, List.getElem?_eq_none h]
  simp [hasB, e]; omega
theorem has_16 {oam : List Int} {c line : Int} {n : Nat} (hl : 0 ≤ line ∧ line < 8) (h : oB oam (n : Int) 0 = 16) : hasB oam c line n = true := by
  have hg := hgt_two c
  simp [hasB, h]; omega
theorem scan_two {c line x1 t1 h1 x2 t2 h2 : Int} (hl : 0 ≤ line ∧ line < 8) : scan [16, x1, t1, h1, 16, x2, t2, h2] c line = [0, 1] := by
  unfold scan
  rw [scanK_stop (k := 2) (fun n hn => has_none hl.1 (by simp; omega)) (by omega), scanK_yes (has_16 hl (by simp [oB])), scanK_yes (k := 0) (has_16 hl (by simp [oB]))]
  rfl
theorem scan_one {c line x1 t1 h1 : Int} (hl : 0 ≤ line ∧ line < 8) : scan [16, x1, t1, h1] c line = [0] := by
  unfold scan
  rw [scanK_stop (k := 1) (fun n hn => has_none hl.1 (by simp; omega)) (by omega), scanK_yes (k := 0) (has_16 hl (by simp [oB]))]
  rfl
theorem isort_two (a b : Sp) : isort [a, b] = if b.x < a.x then [b, a] else [a, b] := by
  simp only [isort, List.foldl_cons, List.foldl_nil, insB, List.reverse_nil, List.reverse_cons, List.nil_append]
  split <;> simp
theorem zeros_getD (i : Nat) : (List.replicate 160 (0 : Int)).getD i 0 = 0 := by
  rw [List.getD_eq_getElem?_getD, List.getElem?_replicate]; split <;> rfl
/-- What is seen, where all that is below is 0, of one sprite. -/
def lone (l : List Int) (c bk f s2 x line : Int) (s : Sp) : Int :=
  if hit l c x line s = true then (if rBit s.h 4 = 1 then shd s2 (sDot l c s.y s.x s.t s.h x line) else shd f (sDot l c s.y s.x s.t s.h x line)) else shd bk 0
theorem seen_lone {l : List Int} {c bk f s2 x line : Int} {s : Sp} (h : hit l c x line s = true) : seenS l c bk f s2 x line 0 (some s) = lone l c bk f s2 x line s := by simp [seenS, lone, h]
theorem line_one {l : List Int} {c bk f s2 line x1 t1 h1 : Int} (hc1 : rBit c 1 = 1) (hl : 0 ≤ line ∧ line < 8) (i : Nat) :
    lineS l [16, x1, t1, h1] c bk f s2 line (List.replicate 160 0) i = lone l c bk f s2 i line ⟨0, 0, x1 - 8, t1, h1⟩ := by
  unfold lineS
  rw [shownS, if_pos hc1, scan_one hl, zeros_getD]
  have e : [0].map (sp [16, x1, t1, h1]) = [⟨0, 0, x1 - 8, t1, h1⟩] := by simp [sp, oB]
  rw [e]
  show seenS l c bk f s2 i line 0 (List.find? _ [_]) = _
  rw [List.find?_cons]
  cases hq : hit l c i line ⟨0, 0, x1 - 8, t1, h1⟩ with
  | true => exact seen_lone hq
  | false => simp [seenS, lone, hq]
theorem lone_n {l : List Int} {c bk f s2 x line : Int} (n m y x0 t h : Int) : lone l c bk f s2 x line ⟨n, y, x0, t, h⟩ = lone l c bk f s2 x line ⟨m, y, x0, t, h⟩ := rfl
theorem line_two {l : List Int} {c bk f s2 line x1 t1 h1 x2 t2 h2 : Int} (hc1 : rBit c 1 = 1) (hl : 0 ≤ line ∧ line < 8) (i : Nat) :
    lineS l [16, x1, t1, h1, 16, x2, t2, h2] c bk f s2 line (List.replicate 160 0) i =
      if hit l c i line ⟨0, 0, x2 - 8, t2, h2⟩ = true ∧ (¬ hit l c i line ⟨0, 0, x1 - 8, t1, h1⟩ = true ∨ x2 < x1) then lone l c bk f s2 i line ⟨0, 0, x2 - 8, t2, h2⟩ else lone l c bk f s2 i line ⟨0, 0, x1 - 8, t1, h1⟩ := by
  unfold lineS
  rw [shownS, if_pos hc1, scan_two hl, zeros_getD]
  have e : [0, 1].map (sp [16, x1, t1, h1, 16, x2, t2, h2]) = [⟨0, 0, x1 - 8, t1, h1⟩, ⟨1, 0, x2 - 8, t2, h2⟩] := by simp [sp, oB]
  rw [e, isort_two]
  have hx : x2 - 8 < x1 - 8 ↔ x2 < x1 := by omega
  have hh : hit l c i line ⟨1, 0, x2 - 8, t2, h2⟩ = hit l c i line ⟨0, 0, x2 - 8, t2, h2⟩ := rfl
  have h1' := @seen_lone l c bk f s2 i line ⟨0, 0, x1 - 8, t1, h1⟩
  have h2' := @seen_lone l c bk f s2 i line ⟨1, 0, x2 - 8, t2, h2⟩
  rw [hh, lone_n 1 0] at h2'
  simp only [hx]
  by_cases hlt : x2 < x1
  · rw [if_pos hlt, List.find?_cons, List.find?_cons, hh]
    cases ha : hit l c i line ⟨0, 0, x1 - 8, t1, h1⟩ <;> cases hb : hit l c i line ⟨0, 0, x2 - 8, t2, h2⟩
    · simp [seenS, lone, ha]
    · simp only [h2' hb]; simp [hlt]
    · simp only [h1' ha]; simp
    · simp only [h2' hb]; simp [hlt]
  · rw [if_neg hlt, List.find?_cons, List.find?_cons, hh]
    cases ha : hit l c i line ⟨0, 0, x1 - 8, t1, h1⟩ <;> cases hb : hit l c i line ⟨0, 0, x2 - 8, t2, h2⟩
    · simp [seenS, lone, ha]
    · simp only [h2' hb]; simp
    · simp only [h1' ha]; simp
    · simp only [h1' ha]; simp [hlt]
theorem dot_0 {l : List Int} {c x line x1 t1 h1 x2 t2 h2 : Int} : (spDot l [16, x1, t1, h1, 16, x2, t2, h2] c 0 x line != 0) = hit l c x line ⟨0, 0, x1 - 8, t1, h1⟩ := by
  simp [spDot, oB, hit]
theorem dot_1 {l : List Int} {c x line x1 t1 h1 x2 t2 h2 : Int} : (spDot l [16, x1, t1, h1, 16, x2, t2, h2] c 1 x line != 0) = hit l c x line ⟨0, 0, x2 - 8, t2, h2⟩ := by
  simp [spDot, oB, hit]
theorem left_yes {l : List Int} {c bk f s2 line x1 t1 h1 x2 t2 h2 : Int} (hc1 : rBit c 1 = 1) (hl : 0 ≤ line ∧ line < 8) (i : Nat) (h : (spDot l [16, x1, t1, h1, 16, x2, t2, h2] c 1 i line != 0) = true) (h' : (spDot l [16, x1, t1, h1, 16, x2, t2, h2] c 0 i line != 0) = false ∨ x2 < x1) :
    lineS l [16, x1, t1, h1, 16, x2, t2, h2] c bk f s2 line (List.replicate 160 0) i = lineS l [16, x2, t2, h2] c bk f s2 line (List.replicate 160 0) i := by
  rw [dot_1] at h
  rw [dot_0] at h'
  rw [line_two hc1 hl, line_one hc1 hl, if_pos ⟨h, by rcases h' with h' | h' <;> simp [h']⟩]
theorem left_no {l : List Int} {c bk f s2 line x1 t1 h1 x2 t2 h2 : Int} (hc1 : rBit c 1 = 1) (hl : 0 ≤ line ∧ line < 8) (i : Nat) (h : (spDot l [16, x1, t1, h1, 16, x2, t2, h2] c 1 i line != 0) = false ∨ ((spDot l [16, x1, t1, h1, 16, x2, t2, h2] c 0 i line != 0) = true ∧ ¬ x2 < x1)) :
    lineS l [16, x1, t1, h1, 16, x2, t2, h2] c bk f s2 line (List.replicate 160 0) i = lineS l [16, x1, t1, h1] c bk f s2 line (List.replicate 160 0) i := by
  rw [dot_1, dot_0] at h
  rw [line_two hc1 hl, line_one hc1 hl, if_neg (by rcases h with h | ⟨h, h'⟩ <;> simp_all)]
theorem lineL_get (l oam : List Int) (c bk f s2 line : Int) (bl : List Int) {k : Nat} (h : k < 160) : (lineL l oam c bk f s2 line bl)[k]? = some (.int .u8 (lineS l oam c bk f s2 line bl k)) := by
  unfold lineL
  rw [List.getElem?_map, List.getElem?_range h]; rfl
theorem lineL_len (l oam : List Int) (c bk f s2 line : Int) (bl : List Int) : (lineL l oam c bk f s2 line bl).length = 160 := by simp [lineL]
theorem lineL_ones (l oam : List Int) (c bk f s2 line : Int) (bl : List Int) : ones (lineL l oam c bk f s2 line bl) = true := by
  refine List.all_eq_true.2 fun x hx => ?_
  obtain ⟨i, _, rfl⟩ := List.mem_map.1 hx; rfl
theorem zeros_byts : Byts (List.replicate 160 (0 : Int)) := by
  intro x hx
  obtain ⟨_, rfl⟩ := List.mem_replicate.1 hx
  omega
end Go.Proofs.Ytjceoaomkbabmaa
namespace Go.Proofs.Ytjceoaomkbabmaa
open Go Go.VV

theorem spDot_lit (l : List Int) (y x t h c X L : Int) : spDot l [y, x, t, h] c 0 X L = sDot l c (y - 16) (x - 8) t h X L := by simp [spDot, oB]
theorem sDot_in (l : List Int) (c y x0 t h X L : Int) (hin : ¬ (L < y ∨ y + hgt c ≤ L ∨ X < x0 ∨ x0 + 8 ≤ X)) : sDot l c y x0 t h X L =
    tDot l (if hgt c = 16 then t / 2 * 2 + (if rBit h 6 = 1 then hgt c - 1 - (L - y) else L - y) / 8 else t) (if rBit h 5 = 1 then 7 - (X - x0) else X - x0) (if rBit h 6 = 1 then hgt c - 1 - (L - y) else L - y) := by
  unfold sDot
  rw [if_neg hin]
theorem xor64 {h : Int} (hh : 0 ≤ h ∧ h < 256) : (0 ≤ bxor .u8 h 64 ∧ bxor .u8 h 64 < 256) ∧ rBit (bxor .u8 h 64) 6 = 1 - rBit h 6 ∧ rBit (bxor .u8 h 64) 5 = rBit h 5 := by
  have := byte_all (p := fun h => decide (0 ≤ bxor .u8 h 64 ∧ bxor .u8 h 64 < 256) && (decide (rBit (bxor .u8 h 64) 6 = 1 - rBit h 6) && decide (rBit (bxor .u8 h 64) 5 = rBit h 5)) = true) (by decide +kernel) hh.1 hh.2
  simp only [Bool.and_eq_true, decide_eq_true_eq] at this
  exact this
theorem xor32 {h : Int} (hh : 0 ≤ h ∧ h < 256) : (0 ≤ bxor .u8 h 32 ∧ bxor .u8 h 32 < 256) ∧ rBit (bxor .u8 h 32) 6 = rBit h 6 ∧ rBit (bxor .u8 h 32) 5 = 1 - rBit h 5 := by
  have := byte_all (p := fun h => decide (0 ≤ bxor .u8 h 32 ∧ bxor .u8 h 32 < 256) && (decide (rBit (bxor .u8 h 32) 6 = rBit h 6) && decide (rBit (bxor .u8 h 32) 5 = 1 - rBit h 5)) = true) (by decide +kernel) hh.1 hh.2
  simp only [Bool.and_eq_true, decide_eq_true_eq] at this
  exact this
theorem turn64 {l : List Int} {c y x t h i j : Int} (hh : 0 ≤ h ∧ h < 256) (hi : 0 ≤ i ∧ i < hgt c) (hj : 0 ≤ j ∧ j < 8) :
    spDot l [y, x, t, bxor .u8 h 64] c 0 (x - 8 + j) (y - 16 + hgt c - 1 - i) = spDot l [y, x, t, h] c 0 (x - 8 + j) (y - 16 + i) := by
  obtain ⟨_, h6, h5⟩ := xor64 hh
  rw [spDot_lit, spDot_lit, sDot_in _ _ _ _ _ _ _ _ (by omega), sDot_in _ _ _ _ _ _ _ _ (by omega), h6, h5]
  have e1 : y - 16 + hgt c - 1 - i - (y - 16) = hgt c - 1 - i := by omega
  have e2 : y - 16 + i - (y - 16) = i := by omega
  have e3 : hgt c - 1 - (hgt c - 1 - i) = i := by omega
  rw [e1, e2, e3]
  rcases rBit_01 h 6 with h0 | h0 <;> simp [h0]
theorem turn32 {l : List Int} {c y x t h i j : Int} (hh : 0 ≤ h ∧ h < 256) (hi : 0 ≤ i ∧ i < hgt c) (hj : 0 ≤ j ∧ j < 8) :
    spDot l [y, x, t, bxor .u8 h 32] c 0 (x - 8 + 7 - j) (y - 16 + i) = spDot l [y, x, t, h] c 0 (x - 8 + j) (y - 16 + i) := by
  obtain ⟨_, h6, h5⟩ := xor32 hh
  rw [spDot_lit, spDot_lit, sDot_in _ _ _ _ _ _ _ _ (by omega), sDot_in _ _ _ _ _ _ _ _ (by omega), h6, h5]
  have e1 : x - 8 + 7 - j - (x - 8) = 7 - j := by omega
  have e2 : x - 8 + j - (x - 8) = j := by omega
  have e3 : 7 - (7 - j) = j := by omega
  rw [e1, e2, e3]
  rcases rBit_01 h 5 with h0 | h0 <;> simp [h0]
theorem tDot_four (l : List Int) (t x y : Int) : 0 ≤ tDot l t x y ∧ tDot l t x y < 4 := by
  unfold tDot
  split
  · omega
  · have := rBit_01 (vAt l (16 * t + 2 * (y % 8))) (7 - x % 8)
    have := rBit_01 (vAt l (16 * t + 2 * (y % 8) + 1)) (7 - x % 8)
    omega
theorem spDot_four (l oam : List Int) (c n x line : Int) : 0 ≤ spDot l oam c n x line ∧ spDot l oam c n x line < 4 := by
  unfold spDot sDot
  split
  · omega
  · split
    · omega
    · exact tDot_four _ _ _ _
theorem mod_hgt (c : Int) {r : Int} (hr : 0 ≤ r) : (0 ≤ r % hgt c ∧ r % hgt c < hgt c) ∧ r.tmod (hgt c) = r % hgt c := by
  have hg := hgt_two c
  refine ⟨⟨Int.emod_nonneg _ (by omega), Int.emod_lt_of_pos _ (by omega)⟩, Int.tmod_eq_emod_of_nonneg hr⟩
theorem byts4 {y x t h : Int} (hy : 0 ≤ y ∧ y < 256) (hx : 0 ≤ x ∧ x < 256) (ht : 0 ≤ t ∧ t < 256) (hh : 0 ≤ h ∧ h < 256) : Byts [y, x, t, h] := by
  intro z hz
  simp only [List.mem_cons, List.not_mem_nil, or_false] at hz
  rcases hz with rfl | rfl | rfl | rfl <;> assumption
end Go.Proofs.Ytjceoaomkbabmaa
namespace Go.Proofs.Ytjceoaomkbabmaa
open Go Go.VV Go.Proofs
set_option linter.unusedSimpArgs false
set_option linter.unusedVariables false
set_option maxRecDepth 100000
theorem upper_fn (c cb cf cs : Int) (hc : 0 ≤ c ∧ c < 256) (a a2 a3 : Option Addr) (cap cap2 cap3 : Nat) (l oam all : List Int) (hl : Byts l) (ho : Byts oam) (hall : ∀ n ∈ all, 0 ≤ n ∧ n < 40) (hlen : all.length ≤ 1000) (x line : Int)
    (w : World) (hB : Ns w .u8 a l) (hO : Ns w .u8 a2 oam) (hA : Ns w .i64 a3 all) :
    Does Try.prog 66 [.agg #[.int .u8 c, .int .u8 cb, .int .u8 cf, .int .u8 cs], .slice a l.length cap, .slice a2 oam.length cap2, .slice a3 all.length cap3, .int .i64 x, .int .i64 line] w [] (fun v H => H = [] ∧ v = .int .i64 (upper (qR l oam c x line) (fun n => oB oam n 1) all)) := by
  refine does_of Try.func66 rfl rfl rfl (St.refl w) ?_
  refine c_seq ?_
  refine c_region ?_
  refine l_x (x_box rfl rfl) rfl rfl ?_
  rintro _ _ ⟨b6, rfl, rfl⟩
  refine l_l rfl rfl rfl ?_
  refine l_nil ?_
  refine c_seq ?_
  refine c_region ?_
  refine l_l rfl rfl rfl ?_
  refine l_nil ?_
  refine c_seq ?_
  refine c_seq ?_
  refine c_region ?_
  refine l_l rfl rfl rfl ?_
  refine l_l (by first | exact light_len rfl rfl | exact light_lens rfl rfl | rfl) rfl rfl ?_
  refine l_l rfl rfl rfl ?_
  refine l_nil ?_
  refine c_block ?_
  refine c_loopk (σ := Nat) [13, 14, 15, 16, 19, 20, 21, 22, 23, 24, 25, 26, 27, 28, 29, 30, 31, 32, 33, 34, 35, 36, 37, 38, 39, 40, 41, 42, 43, 44, 45, 46, 47, 48, 49, 50, 51, 52, 53, 54, 55, 56] (fun k => [(13, .int .i64 (upper (qR l oam c x line) (fun n => oB oam n 1) (all.take k))), (19, .int .i64 k)]) (fun k => k ≤ all.length) (fun k => all.length - k) 0 ?_ ?_ ?_
  · exact Nat.zero_le _
  · exact .cons rfl (.cons rfl .nil)
  · intro k y hk
    refine c_seq ?_
    refine c_region ?_
    refine l_l rfl rfl rfl ?_
    refine l_nil ?_
    refine c_seq ?_
    refine c_cond rfl (fun h1 => ?_) (fun h1 => ?_)
    · refine c_skip ?_
      refine c_seq ?_
      refine c_block ?_
      refine c_seq ?_
      refine c_region ?_
      refine l_l rfl rfl rfl ?_
      refine l_l rfl rfl rfl ?_
      refine l_nil ?_
      refine c_seq ?_
      have hkn : k < all.length := by simp at *; omega
      obtain ⟨b3, o3, rfl, r3⟩ := hA.row (i := k) hkn
      refine c_draw _ [1, 2, 3, 4, 5, 6, 7, 8] (.step true 0 (.step true 1 (.step true 2 (.step true 3 (.step true 4 (.step true 5 (.step true 6 (.step true 7 (.step true 8 (.step false 9 (.step true 10 (.step true 11 (.step true 12 (.step true 13 (.step true 14 .done))))))))))))))) rfl (by kernel_rfl) (by kernel_rfl) (fun _ h => h) ?_
      refine d_loadA rfl rfl rfl rfl (by first | exact srow_own (by repeat (first | exact .head _ | refine .tail _ ?_ | refine List.mem_append_right _ ?_)) | exact srow_own_at (by repeat (first | exact .head _ | refine .tail _ ?_ | refine List.mem_append_right _ ?_)) _ 4 rfl) rfl rfl ?_
      refine d_light rfl rfl rfl rfl rfl ?_
      refine d_light rfl rfl rfl rfl rfl ?_
      refine d_light rfl rfl rfl rfl rfl ?_
      refine d_light rfl rfl rfl rfl rfl ?_
      refine d_light rfl (idx_slice1 k rfl rfl rfl rfl hkn) rfl rfl rfl ?_
      refine d_load rfl rfl rfl (s_old (r3.int hkn) (by simp)) rfl rfl ?_
      refine d_light rfl rfl rfl rfl rfl ?_
      refine d_light rfl rfl rfl rfl rfl ?_
      refine d_x rfl (x_val call_69 rfl (fun w hw => rspdot_fn c cb cf cs hc _ _ _ _ l oam hl ho _ x line w (hB.later0 hw) (hO.later0 hw))) rfl rfl (by intro h; cases h) ?_
      rintro _ _ ⟨rfl, rfl⟩
      refine d_mv rfl (vnf_eq rfl) rfl rfl ?_
      refine d_light rfl rfl rfl rfl rfl ?_
      refine d_light rfl rfl rfl rfl rfl ?_
      refine d_light rfl rfl rfl rfl rfl ?_
      refine d_light rfl rfl rfl rfl rfl ?_
      refine d_nil ?_
      refine c_seq ?_
      refine c_region ?_
      refine l_l rfl rfl rfl ?_
      refine l_b rfl rfl rfl (fun h2 => ?_) (fun h2 => ?_)
      · refine l_l rfl rfl rfl ?_
        refine l_l rfl rfl rfl ?_
        refine l_b rfl rfl rfl (fun h3 => ?_) (fun h3 => ?_)
        · refine l_p rfl rfl ?_
          refine l_p rfl rfl ?_
          refine l_p rfl rfl ?_
          refine l_p rfl rfl ?_
          refine l_p rfl rfl ?_
          refine l_p rfl rfl ?_
          refine l_p rfl rfl ?_
          refine l_p rfl rfl ?_
          refine l_p rfl rfl ?_
          refine l_p rfl rfl ?_
          refine l_l rfl rfl rfl ?_
          refine l_l rfl rfl rfl ?_
          refine l_nil ?_
          refine c_true rfl ?_
          refine c_region ?_
          refine l_l rfl rfl rfl ?_
          refine l_l rfl rfl rfl ?_
          refine l_l (idx_slice1 k rfl rfl rfl rfl hkn) rfl rfl ?_
          refine l_x (x_load rfl rfl (at_old (r3.int hkn) (by simp))) rfl rfl ?_
          rintro _ _ ⟨rfl, rfl⟩
          refine l_l rfl rfl rfl ?_
          refine l_nil ?_
          refine c_region ?_
          refine l_l rfl rfl rfl ?_
          refine l_l rfl rfl rfl ?_
          refine l_nil ?_
          exact ⟨k + 1, by omega, by omega, .cons (congrArg _ (up_yes hkn h2 (.inl (by simpa using h3)))) (.cons (congrArg _ (succ_law (by omega))) .nil), (by repeat (first | exact Agree.refl _ _ | exact Agree.mix rfl | refine Agree.put rfl ?_ | refine Agree.keep rfl ?_)), fun _ h => h⟩
        · refine l_l rfl rfl rfl ?_
          refine l_l rfl rfl rfl ?_
          refine l_l rfl rfl rfl ?_
          refine l_l (idx_slice1 k rfl rfl rfl rfl hkn) rfl rfl ?_
          refine l_x (x_load rfl rfl (at_old (r3.int hkn) (by simp))) rfl rfl ?_
          rintro _ _ ⟨rfl, rfl⟩
          refine l_x (x_val call_68 rfl (fun w hw => oat_fn _ _ oam (all.getD k 0) 1 (hall _ (getD_mem hkn)) (by decide) ho w (hO.later0 hw))) rfl rfl ?_
          rintro _ _ ⟨rfl, rfl⟩
          refine l_l rfl rfl rfl ?_
          refine l_l rfl rfl rfl ?_
          refine l_x (x_val call_68 rfl (fun w hw => oat_fn _ _ oam (upper (qR l oam c x line) (fun n => oB oam n 1) (all.take k)) 1 (by have := up_range (q := qR l oam c x line) (xk := fun n => oB oam n 1) (take_range hall k); simp at *; omega) (by decide) ho w (hO.later0 hw))) rfl rfl ?_
          rintro _ _ ⟨rfl, rfl⟩
          refine l_l rfl rfl rfl ?_
          refine l_l rfl rfl rfl ?_
          refine l_l rfl rfl rfl ?_
          refine l_nil ?_
          refine c_cond rfl (fun h4 => ?_) (fun h4 => ?_)
          · refine c_region ?_
            refine l_l rfl rfl rfl ?_
            refine l_l rfl rfl rfl ?_
            refine l_l (idx_slice1 k rfl rfl rfl rfl hkn) rfl rfl ?_
            refine l_x (x_load rfl rfl (at_old (r3.int hkn) (by simp))) rfl rfl ?_
            rintro _ _ ⟨rfl, rfl⟩
            refine l_l rfl rfl rfl ?_
            refine l_nil ?_
            refine c_region ?_
            refine l_l rfl rfl rfl ?_
            refine l_l rfl rfl rfl ?_
            refine l_nil ?_
            exact ⟨k + 1, by omega, by omega, .cons (congrArg _ (up_yes hkn h2 (.inr (by simpa using h4)))) (.cons (congrArg _ (succ_law (by omega))) .nil), (by repeat (first | exact Agree.refl _ _ | exact Agree.mix rfl | refine Agree.put rfl ?_ | refine Agree.keep rfl ?_)), fun _ h => h⟩
          · refine c_skip ?_
            refine c_region ?_
            refine l_l rfl rfl rfl ?_
            refine l_l rfl rfl rfl ?_
            refine l_nil ?_
            exact ⟨k + 1, by omega, by omega, .cons (congrArg _ (up_no hkn (by simp at *; omega))) (.cons (congrArg _ (succ_law (by omega))) .nil), (by repeat (first | exact Agree.refl _ _ | exact Agree.mix rfl | refine Agree.put rfl ?_ | refine Agree.keep rfl ?_)), fun _ h => h⟩
      · refine l_p rfl rfl ?_
        refine l_p rfl rfl ?_
        refine l_p rfl rfl ?_
        refine l_p rfl rfl ?_
        refine l_p rfl rfl ?_
        refine l_p rfl rfl ?_
        refine l_p rfl rfl ?_
        refine l_p rfl rfl ?_
        refine l_p rfl rfl ?_
        refine l_p rfl rfl ?_
        refine l_p rfl rfl ?_
        refine l_p rfl rfl ?_
        refine l_p rfl rfl ?_
        refine l_p rfl rfl ?_
        refine l_l rfl rfl rfl ?_
        refine l_nil ?_
        refine c_false rfl ?_
        refine c_skip ?_
        refine c_region ?_
        refine l_l rfl rfl rfl ?_
        refine l_l rfl rfl rfl ?_
        refine l_nil ?_
        exact ⟨k + 1, by omega, by omega, .cons (congrArg _ (up_no hkn (by intro h0; have h1 := h0.1; rw [show qR l oam c x line (all.getD k 0) = false from h2] at h1; cases h1))) (.cons (congrArg _ (succ_law (by omega))) .nil), (by repeat (first | exact Agree.refl _ _ | exact Agree.mix rfl | refine Agree.put rfl ?_ | refine Agree.keep rfl ?_)), fun _ h => h⟩
    · refine c_exit rfl ?_
      refine c_seq ?_
      obtain rfl : k = all.length := by simp at *; omega
      rw [List.take_length]
      refine c_region ?_
      refine l_l rfl rfl rfl ?_
      refine l_l rfl rfl rfl ?_
      refine l_nil ?_
      refine c_ret ?_
      exact l_end0 (fun _ _ => rets_v rfl) ⟨rfl, rfl⟩

set_option maxRecDepth 100000 in
theorem rline_fn (c cb cf cs : Int) (hc : 0 ≤ c ∧ c < 256) (hcb : 0 ≤ cb ∧ cb < 256) (hcf : 0 ≤ cf ∧ cf < 256) (hcs : 0 ≤ cs ∧ cs < 256) (a a2 : Option Addr) (cap cap2 : Nat) (l oam : List Int) (hl : Byts l) (ho : Byts oam) (hcap : oam.length ≤ cap2) (line : Int) (bl : List Int) (hbl : bl.length = 160) (hbb : Byts bl)
    (w : World) (hB : Ns w .u8 a l) (hO : Ns w .u8 a2 oam) :
    Does Try.prog 49 [.agg #[.int .u8 c, .int .u8 cb, .int .u8 cf, .int .u8 cs], .slice a l.length cap, .slice a2 oam.length cap2, .int .i64 line, .agg (bl.map (.int .u8)).toArray] w [] (fun v H => H = [] ∧ v = .agg (lineL l oam c cb cf cs line bl).toArray) := by
  refine does_of Try.func49 rfl rfl rfl (St.refl w) ?_
  refine c_seq ?_
  refine c_region ?_
  refine l_x (x_box rfl rfl) rfl rfl ?_
  rintro _ _ ⟨b5, rfl, rfl⟩
  refine l_x (x_box (l := bl.map (.int .u8)) rfl rfl) rfl rfl ?_
  rintro _ _ ⟨b9, rfl, rfl⟩
  refine l_x (x_alloc (l := List.replicate 160 (.int .u8 0)) (by kernel_rfl)) rfl rfl ?_
  rintro _ _ ⟨b10, rfl, rfl⟩
  refine l_nil ?_
  refine c_seq ?_
  refine c_region ?_
  refine l_l (light_array (l := List.replicate 160 (.int .u8 0)) (z := List.replicate 160 (.int .u8 0)) (ps := []) (n := 160) (el := 5) (s := 1) (by kernel_rfl) (by kernel_rfl) (by kernel_rfl) (by kernel_rfl)) rfl rfl ?_
  refine l_x (x_alloc (l := List.replicate 160 (.int .u8 0)) (by kernel_rfl)) rfl rfl ?_
  rintro _ _ ⟨b11, rfl, rfl⟩
  refine l_x (x_store (vs := List.replicate 160 (.int .u8 0)) (l := List.replicate 160 (.int .u8 0)) 0 rfl rfl rfl (by kernel_rfl) (by kernel_rfl) rfl (by simp)) rfl rfl ?_
  rintro _ _ ⟨rfl, rfl⟩
  rw [List.set_cons_zero, putL_all (by simp)]
  refine l_nil ?_
  refine c_seq ?_
  refine c_region ?_
  refine l_x (x_loadA rfl rfl rfl (by first | exact row_own (by repeat (first | exact .head _ | refine .tail _ ?_ | refine List.mem_append_right _ ?_)) | exact row_own_at (by repeat (first | exact .head _ | refine .tail _ ?_ | refine List.mem_append_right _ ?_)) _ 4 rfl)) rfl rfl ?_
  rintro _ _ ⟨rfl, rfl⟩
  refine l_l rfl rfl rfl ?_
  refine l_l rfl rfl rfl ?_
  refine l_x (x_call call_64 rfl (fun w hw => rscan_fn c cb cf cs hc _ _ oam ho line hcap w (hO.later0 hw))) rfl rfl ?_
  rintro _ _ ⟨G22, ⟨a22, c22, rfl, hc22, hL22⟩, rfl⟩
  refine l_l rfl rfl rfl ?_
  refine l_nil ?_
  refine c_seq ?_
  refine c_seq ?_
  refine c_heap (fun w h => h.perm List.perm_append_comm) ?_
  refine c_region ?_
  refine l_l rfl rfl rfl ?_
  refine l_nil ?_
  refine c_block ?_
  refine c_loop (σ := Nat) [13, 14, 15, 16, 17, 23, 24, 25, 26, 27, 28, 29, 30, 31, 32, 33, 34, 35, 36, 37, 38, 39, 40, 41, 42, 43, 44, 45, 46, 47, 48, 49, 50, 51, 52, 53, 54, 55, 56, 57, 58, 59, 60, 61, 62, 63, 64, 65, 66, 67, 68, 69, 70, 71, 72, 73, 74, 75, 76, 77, 78, 79, 80, 81, 82, 83, 84, 85, 86, 87, 88] (fun k => [(23, .int .i64 k)]) (fun k => (b11, blk (upTo .u8 (refS l oam c cb cf cs line bl) 160 k) 43) :: (b10, blk (List.replicate 160 (.int .u8 0)) 43) :: (b9, blk (bl.map (.int .u8)) 43) :: (b5, blk [.int .u8 c, .int .u8 cb, .int .u8 cf, .int .u8 cs] 79) :: G22) (fun k => k ≤ 160) (fun k => 160 - k) 0 ?_ ?_ ?_ ?_
  · show 0 ≤ 160; omega
  · exact .cons rfl .nil
  · exact fun w h => by rw [← upTo_zero]; exact h
  · intro k y hk
    refine c_seq ?_
    refine c_region ?_
    refine l_l rfl rfl rfl ?_
    refine l_nil ?_
    refine c_seq ?_
    refine c_cond rfl (fun h1 => ?_) (fun h1 => ?_)
    · refine c_skip ?_
      refine c_seq ?_
      refine c_block ?_
      refine c_seq ?_
      refine c_region ?_
      refine l_l rfl rfl rfl ?_
      refine l_l rfl rfl rfl ?_
      refine l_nil ?_
      refine c_seq ?_
      have hk160 : k < 160 := by simp at *; omega
      refine c_draw _ [3, 4, 5] (.step true 0 (.step true 1 (.step true 2 (.step true 3 (.step true 4 (.step true 5 (.step false 6 (.step true 7 (.step false 8 .done))))))))) rfl (by kernel_rfl) (by kernel_rfl) (fun _ h => h) ?_
      refine d_light rfl rfl rfl rfl rfl ?_
      refine d_light rfl (light_fa rfl rfl) rfl rfl rfl ?_
      refine d_load rfl rfl rfl (s_own (by repeat (first | exact .head _ | refine .tail _ ?_ | refine List.mem_append_right _ ?_)) (by rfl)) rfl rfl ?_
      refine d_light rfl rfl rfl rfl rfl ?_
      refine d_light rfl (idx_array0 k rfl rfl rfl rfl hk160) rfl rfl rfl ?_
      refine d_load rfl rfl rfl (s_own (.tail _ (.tail _ (.head _))) (map_get (by omega))) rfl rfl ?_
      refine d_x rfl (x_val call_65 rfl (fun w hw => rshade_fn cb _ hcb (hbb.get k) w)) rfl rfl (by intro h; cases h) ?_
      rintro _ _ ⟨rfl, rfl⟩
      refine d_light rfl (idx_array0 k rfl rfl rfl rfl hk160) rfl rfl rfl ?_
      refine d_x rfl (x_store 0 rfl rfl rfl rfl rfl rfl (by rw [upTo_len (by simp at *; omega)]; simp at *; omega)) rfl rfl (by intro h; cases h) ?_
      rintro _ _ ⟨rfl, rfl⟩
      refine d_nil ?_
      refine c_seq ?_
      refine c_region ?_
      refine l_x (x_loadA rfl rfl rfl (by first | exact row_own (by repeat (first | exact .head _ | refine .tail _ ?_ | refine List.mem_append_right _ ?_)) | exact row_own_at (by repeat (first | exact .head _ | refine .tail _ ?_ | refine List.mem_append_right _ ?_)) _ 4 rfl)) rfl rfl ?_
      rintro _ _ ⟨rfl, rfl⟩
      refine l_l rfl rfl rfl ?_
      refine l_l rfl rfl rfl ?_
      refine l_l rfl rfl rfl ?_
      refine l_l rfl rfl rfl ?_
      refine l_l rfl rfl rfl ?_
      refine l_x (x_val call_66 rfl (fun w hw => upper_fn c cb cf cs hc _ _ _ _ _ _ l oam (scan oam c line) hl ho scan_range (by have := scan_ten oam c line; omega) (k : Int) line w (hB.later0 hw) (hO.later0 hw) (hL22.ns hw (by intro x hx; simp [hx])))) rfl rfl ?_
      rintro _ _ ⟨rfl, rfl⟩
      rw [show upper (qR l oam c (k : Int) line) (fun n => oB oam n 1) (scan oam c line) = (upS l oam c (k : Int) line) from rfl]
      refine l_l rfl rfl rfl ?_
      refine l_nil ?_
      refine c_seq ?_
      refine c_seq ?_
      refine c_region ?_
      refine l_l (light_fa rfl rfl) rfl rfl ?_
      refine l_x (x_load rfl rfl (at_own (by repeat (first | exact .head _ | refine .tail _ ?_ | refine List.mem_append_right _ ?_)) (by rfl))) rfl rfl ?_
      rintro _ _ ⟨rfl, rfl⟩
      refine l_x (x_val call_67 rfl (fun w hw => bit_fn _ _ hc ⟨by decide, by decide⟩ w)) rfl rfl ?_
      rintro _ _ ⟨rfl, rfl⟩
      refine l_l rfl rfl rfl ?_
      refine l_b rfl rfl rfl (fun h2 => ?_) (fun h2 => ?_)
      · refine l_p rfl rfl ?_
        refine l_p rfl rfl ?_
        refine l_l rfl rfl rfl ?_
        refine l_nil ?_
        refine c_true rfl ?_
        refine c_exit rfl ?_
        refine c_region ?_
        refine l_l rfl rfl rfl ?_
        refine l_l rfl rfl rfl ?_
        refine l_nil ?_
        exact ⟨k + 1, by omega, by omega, .cons (congrArg _ (succ_law (by omega))) .nil, (by repeat (first | exact Agree.refl _ _ | exact Agree.mix rfl | refine Agree.put rfl ?_ | refine Agree.keep rfl ?_)), fun w h => by rw [upTo_put (f := refS l oam c cb cf cs line bl) hk160 (shd cb (bl.getD k 0)) (ref_1 (.inl (by simpa using h2)))] at h; exact h⟩
      · refine l_l rfl rfl rfl ?_
        refine l_l rfl rfl rfl ?_
        refine l_l rfl rfl rfl ?_
        refine l_nil ?_
        refine c_cond rfl (fun h3 => ?_) (fun h3 => ?_)
        · refine c_exit rfl ?_
          refine c_region ?_
          refine l_l rfl rfl rfl ?_
          refine l_l rfl rfl rfl ?_
          refine l_nil ?_
          exact ⟨k + 1, by omega, by omega, .cons (congrArg _ (succ_law (by omega))) .nil, (by repeat (first | exact Agree.refl _ _ | exact Agree.mix rfl | refine Agree.put rfl ?_ | refine Agree.keep rfl ?_)), fun w h => by rw [upTo_put (f := refS l oam c cb cf cs line bl) hk160 (shd cb (bl.getD k 0)) (ref_1 (.inr (by simpa using h3)))] at h; exact h⟩
        · refine c_skip ?_
          refine c_seq ?_
          refine c_region ?_
          refine l_l rfl rfl rfl ?_
          refine l_l rfl rfl rfl ?_
          refine l_x (x_val call_68 rfl (fun w hw => oat_fn _ _ oam (upS l oam c (k : Int) line) 3 (by have := upS_range l oam c (k : Int) line; simp at *; omega) (by decide) ho w (hO.later0 hw))) rfl rfl ?_
          rintro _ _ ⟨rfl, rfl⟩
          refine l_as (v := (.int .u8 (oB oam (upS l oam c (k : Int) line) 3))) rfl rfl rfl (congrArg _ (by have := oB_byte ho (upS l oam c (k : Int) line) 3; exact wrap_u8_id (by omega) (by omega))) ?_
          refine l_l rfl rfl rfl ?_
          refine l_nil ?_
          refine c_seq ?_
          refine c_seq ?_
          refine c_region ?_
          refine l_l rfl rfl rfl ?_
          refine l_x (x_val call_67 rfl (fun w hw => bit_fn _ _ (oB_byte ho _ 3) ⟨by decide, by decide⟩ w)) rfl rfl ?_
          rintro _ _ ⟨rfl, rfl⟩
          refine l_l rfl rfl rfl ?_
          refine l_b rfl rfl rfl (fun h4 => ?_) (fun h4 => ?_)
          · refine l_l rfl rfl rfl ?_
            refine l_l (idx_array0 k rfl rfl rfl rfl hk160) rfl rfl ?_
            refine l_x (x_load rfl rfl (at_own (.tail _ (.tail _ (.head _))) (map_get (by omega)))) rfl rfl ?_
            rintro _ _ ⟨rfl, rfl⟩
            refine l_as (v := (.int .u8 (bl.getD k 0 % 4))) (rem_pos rfl rfl (by decide)) rfl rfl (congrArg _ (Int.tmod_eq_emod_of_nonneg (hbb.get k).1)) ?_
            refine l_l rfl rfl rfl ?_
            refine l_l rfl rfl rfl ?_
            refine l_nil ?_
            refine c_cond rfl (fun h5 => ?_) (fun h5 => ?_)
            · refine c_exit rfl ?_
              refine c_region ?_
              refine l_l rfl rfl rfl ?_
              refine l_l rfl rfl rfl ?_
              refine l_nil ?_
              exact ⟨k + 1, by omega, by omega, .cons (congrArg _ (succ_law (by omega))) .nil, (by repeat (first | exact Agree.refl _ _ | exact Agree.mix rfl | refine Agree.put rfl ?_ | refine Agree.keep rfl ?_)), fun w h => by rw [upTo_put (f := refS l oam c cb cf cs line bl) hk160 (shd cb (bl.getD k 0)) (ref_2 (by simp at *; omega) ⟨by simpa using h4, by simpa using h5⟩)] at h; exact h⟩
            · refine c_skip ?_
              refine c_seq ?_
              refine c_region ?_
              refine l_x (x_loadA rfl rfl rfl (by first | exact row_own (by repeat (first | exact .head _ | refine .tail _ ?_ | refine List.mem_append_right _ ?_)) | exact row_own_at (by repeat (first | exact .head _ | refine .tail _ ?_ | refine List.mem_append_right _ ?_)) _ 4 rfl)) rfl rfl ?_
              rintro _ _ ⟨rfl, rfl⟩
              refine l_l rfl rfl rfl ?_
              refine l_l rfl rfl rfl ?_
              refine l_l rfl rfl rfl ?_
              refine l_l rfl rfl rfl ?_
              refine l_l rfl rfl rfl ?_
              refine l_x (x_val call_69 rfl (fun w hw => rspdot_fn c cb cf cs hc _ _ _ _ l oam hl ho _ _ line w (hB.later0 hw) (hO.later0 hw))) rfl rfl ?_
              rintro _ _ ⟨rfl, rfl⟩
              refine l_l rfl rfl rfl ?_
              refine l_l rfl rfl rfl ?_
              refine l_l rfl rfl rfl ?_
              refine l_l rfl rfl rfl ?_
              refine l_l rfl rfl rfl ?_
              refine l_nil ?_
              refine c_seq ?_
              refine c_region ?_
              refine l_l rfl rfl rfl ?_
              refine l_x (x_val call_67 rfl (fun w hw => bit_fn _ _ (oB_byte ho _ 3) ⟨by decide, by decide⟩ w)) rfl rfl ?_
              rintro _ _ ⟨rfl, rfl⟩
              refine l_l rfl rfl rfl ?_
              refine l_nil ?_
              refine c_cond rfl (fun h6 => ?_) (fun h6 => ?_)
              · refine c_region ?_
                refine l_l rfl rfl rfl ?_
                refine l_l (light_fa rfl rfl) rfl rfl ?_
                refine l_x (x_load rfl rfl (at_own (by repeat (first | exact .head _ | refine .tail _ ?_ | refine List.mem_append_right _ ?_)) (by rfl))) rfl rfl ?_
                rintro _ _ ⟨rfl, rfl⟩
                refine l_l rfl rfl rfl ?_
                refine l_x (x_val call_65 rfl (fun w hw => rshade_fn cs _ hcs (by have := spDot_four l oam c (upS l oam c (k : Int) line) k line; omega) w)) rfl rfl ?_
                rintro _ _ ⟨rfl, rfl⟩
                refine l_l (idx_array0 k rfl rfl rfl rfl hk160) rfl rfl ?_
                refine l_x (x_store 0 rfl rfl rfl rfl rfl rfl (by rw [putL_len (by rw [upTo_len (by omega)]; exact hk160), upTo_len (by omega)]; exact hk160)) rfl rfl ?_
                rintro _ _ ⟨rfl, rfl⟩
                refine l_nil ?_
                refine c_region ?_
                refine l_l rfl rfl rfl ?_
                refine l_l rfl rfl rfl ?_
                refine l_nil ?_
                exact ⟨k + 1, by omega, by omega, .cons (congrArg _ (succ_law (by omega))) .nil, (by repeat (first | exact Agree.refl _ _ | exact Agree.mix rfl | refine Agree.put rfl ?_ | refine Agree.keep rfl ?_)), fun w h => by rw [putL_again (by rw [upTo_len (by omega)]; exact hk160), upTo_put (f := refS l oam c cb cf cs line bl) hk160 (shd cs (spDot l oam c (upS l oam c (k : Int) line) k line)) (ref_3 (b := true) (by simp at *; omega) (by intro h0; have h1 := h0.2; simp at h5; exact h1 h5) h6)] at h; exact h⟩
              · refine c_region ?_
                refine l_l rfl rfl rfl ?_
                refine l_l (light_fa rfl rfl) rfl rfl ?_
                refine l_x (x_load rfl rfl (at_own (by repeat (first | exact .head _ | refine .tail _ ?_ | refine List.mem_append_right _ ?_)) (by rfl))) rfl rfl ?_
                rintro _ _ ⟨rfl, rfl⟩
                refine l_l rfl rfl rfl ?_
                refine l_x (x_val call_65 rfl (fun w hw => rshade_fn cf _ hcf (by have := spDot_four l oam c (upS l oam c (k : Int) line) k line; omega) w)) rfl rfl ?_
                rintro _ _ ⟨rfl, rfl⟩
                refine l_l (idx_array0 k rfl rfl rfl rfl hk160) rfl rfl ?_
                refine l_x (x_store 0 rfl rfl rfl rfl rfl rfl (by rw [putL_len (by rw [upTo_len (by omega)]; exact hk160), upTo_len (by omega)]; exact hk160)) rfl rfl ?_
                rintro _ _ ⟨rfl, rfl⟩
                refine l_nil ?_
                refine c_region ?_
                refine l_l rfl rfl rfl ?_
                refine l_l rfl rfl rfl ?_
                refine l_nil ?_
                exact ⟨k + 1, by omega, by omega, .cons (congrArg _ (succ_law (by omega))) .nil, (by repeat (first | exact Agree.refl _ _ | exact Agree.mix rfl | refine Agree.put rfl ?_ | refine Agree.keep rfl ?_)), fun w h => by rw [putL_again (by rw [upTo_len (by omega)]; exact hk160), upTo_put (f := refS l oam c cb cf cs line bl) hk160 (shd cf (spDot l oam c (upS l oam c (k : Int) line) k line)) (ref_3 (b := false) (by simp at *; omega) (by intro h0; have h1 := h0.2; simp at h5; exact h1 h5) h6)] at h; exact h⟩
          · refine l_p rfl rfl ?_
            refine l_p rfl rfl ?_
            refine l_p rfl rfl ?_
            refine l_p rfl rfl ?_
            refine l_p rfl rfl ?_
            refine l_l rfl rfl rfl ?_
            refine l_nil ?_
            refine c_false rfl ?_
            refine c_skip ?_
            refine c_seq ?_
            refine c_region ?_
            refine l_x (x_loadA rfl rfl rfl (by first | exact row_own (by repeat (first | exact .head _ | refine .tail _ ?_ | refine List.mem_append_right _ ?_)) | exact row_own_at (by repeat (first | exact .head _ | refine .tail _ ?_ | refine List.mem_append_right _ ?_)) _ 4 rfl)) rfl rfl ?_
            rintro _ _ ⟨rfl, rfl⟩
            refine l_l rfl rfl rfl ?_
            refine l_l rfl rfl rfl ?_
            refine l_l rfl rfl rfl ?_
            refine l_l rfl rfl rfl ?_
            refine l_l rfl rfl rfl ?_
            refine l_x (x_val call_69 rfl (fun w hw => rspdot_fn c cb cf cs hc _ _ _ _ l oam hl ho _ _ line w (hB.later0 hw) (hO.later0 hw))) rfl rfl ?_
            rintro _ _ ⟨rfl, rfl⟩
            refine l_l rfl rfl rfl ?_
            refine l_l rfl rfl rfl ?_
            refine l_l rfl rfl rfl ?_
            refine l_l rfl rfl rfl ?_
            refine l_l rfl rfl rfl ?_
            refine l_nil ?_
            refine c_seq ?_
            refine c_region ?_
            refine l_l rfl rfl rfl ?_
            refine l_x (x_val call_67 rfl (fun w hw => bit_fn _ _ (oB_byte ho _ 3) ⟨by decide, by decide⟩ w)) rfl rfl ?_
            rintro _ _ ⟨rfl, rfl⟩
            refine l_l rfl rfl rfl ?_
            refine l_nil ?_
            refine c_cond rfl (fun h7 => ?_) (fun h7 => ?_)
            · refine c_region ?_
              refine l_l rfl rfl rfl ?_
              refine l_l (light_fa rfl rfl) rfl rfl ?_
              refine l_x (x_load rfl rfl (at_own (by repeat (first | exact .head _ | refine .tail _ ?_ | refine List.mem_append_right _ ?_)) (by rfl))) rfl rfl ?_
              rintro _ _ ⟨rfl, rfl⟩
              refine l_l rfl rfl rfl ?_
              refine l_x (x_val call_65 rfl (fun w hw => rshade_fn cs _ hcs (by have := spDot_four l oam c (upS l oam c (k : Int) line) k line; omega) w)) rfl rfl ?_
              rintro _ _ ⟨rfl, rfl⟩
              refine l_l (idx_array0 k rfl rfl rfl rfl hk160) rfl rfl ?_
              refine l_x (x_store 0 rfl rfl rfl rfl rfl rfl (by rw [putL_len (by rw [upTo_len (by omega)]; exact hk160), upTo_len (by omega)]; exact hk160)) rfl rfl ?_
              rintro _ _ ⟨rfl, rfl⟩
              refine l_nil ?_
              refine c_region ?_
              refine l_l rfl rfl rfl ?_
              refine l_l rfl rfl rfl ?_
              refine l_nil ?_
              exact ⟨k + 1, by omega, by omega, .cons (congrArg _ (succ_law (by omega))) .nil, (by repeat (first | exact Agree.refl _ _ | exact Agree.mix rfl | refine Agree.put rfl ?_ | refine Agree.keep rfl ?_)), fun w h => by rw [putL_again (by rw [upTo_len (by omega)]; exact hk160), upTo_put (f := refS l oam c cb cf cs line bl) hk160 (shd cs (spDot l oam c (upS l oam c (k : Int) line) k line)) (ref_3 (b := true) (by simp at *; omega) (by intro h0; have h1 := h0.1; simp at h4; exact h4 h1) h7)] at h; exact h⟩
            · refine c_region ?_
              refine l_l rfl rfl rfl ?_
              refine l_l (light_fa rfl rfl) rfl rfl ?_
              refine l_x (x_load rfl rfl (at_own (by repeat (first | exact .head _ | refine .tail _ ?_ | refine List.mem_append_right _ ?_)) (by rfl))) rfl rfl ?_
              rintro _ _ ⟨rfl, rfl⟩
              refine l_l rfl rfl rfl ?_
              refine l_x (x_val call_65 rfl (fun w hw => rshade_fn cf _ hcf (by have := spDot_four l oam c (upS l oam c (k : Int) line) k line; omega) w)) rfl rfl ?_
              rintro _ _ ⟨rfl, rfl⟩
              refine l_l (idx_array0 k rfl rfl rfl rfl hk160) rfl rfl ?_
              refine l_x (x_store 0 rfl rfl rfl rfl rfl rfl (by rw [putL_len (by rw [upTo_len (by omega)]; exact hk160), upTo_len (by omega)]; exact hk160)) rfl rfl ?_
              rintro _ _ ⟨rfl, rfl⟩
              refine l_nil ?_
              refine c_region ?_
              refine l_l rfl rfl rfl ?_
              refine l_l rfl rfl rfl ?_
              refine l_nil ?_
              exact ⟨k + 1, by omega, by omega, .cons (congrArg _ (succ_law (by omega))) .nil, (by repeat (first | exact Agree.refl _ _ | exact Agree.mix rfl | refine Agree.put rfl ?_ | refine Agree.keep rfl ?_)), fun w h => by rw [putL_again (by rw [upTo_len (by omega)]; exact hk160), upTo_put (f := refS l oam c cb cf cs line bl) hk160 (shd cf (spDot l oam c (upS l oam c (k : Int) line) k line)) (ref_3 (b := false) (by simp at *; omega) (by intro h0; have h1 := h0.1; simp at h4; exact h4 h1) h7)] at h; exact h⟩
    · refine c_exit rfl ?_
      refine c_seq ?_
      obtain rfl : k = 160 := by simp at *; omega
      refine c_region ?_
      refine l_x (x_loadA rfl rfl (by rw [upTo_len (Nat.le_refl _)]; rfl) (row_own (.head _))) rfl rfl ?_
      rintro _ _ ⟨rfl, rfl⟩
      refine l_x (x_store (vs := (upTo .u8 (refS l oam c cb cf cs line bl) 160 160)) (l := List.replicate 160 (.int .u8 0)) 1 rfl rfl rfl (by rw [upTo_len (Nat.le_refl _)]; rfl) (upTo_ones _ _ _ _) rfl (by rw [upTo_len (Nat.le_refl _)]; simp)) rfl rfl ?_
      rintro _ _ ⟨rfl, rfl⟩
      rw [putL_all (by rw [upTo_len (Nat.le_refl _)]; simp)]
      refine l_nil ?_
      refine c_ret ?_
      exact l_end0 (fun w hw => rets_cell (l := (upTo .u8 (refS l oam c cb cf cs line bl) 160 160)) rfl rfl (by rw [upTo_len (Nat.le_refl _)]; rfl) (row_own (.tail _ (.head _)) w hw)) ⟨rfl, by rw [upTo_all]; simp only [ref_eq]; rfl⟩

end Go.Proofs.Ytjceoaomkbabmaa
