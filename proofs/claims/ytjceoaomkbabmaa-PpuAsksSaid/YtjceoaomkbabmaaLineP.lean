/- The contracts of a line, as the program draws it. -/
import Derived.Test.YtjceoaomkbabmaaOrder
import Derived.Test.YtjceoaomkbabmaaCalls
namespace Go.Proofs.Ytjceoaomkbabmaa
open Go Go.VV Go.Proofs
set_option linter.unusedSimpArgs false
set_option linter.unusedVariables false
set_option maxRecDepth 100000
theorem shadeS_fn (c cb cf cs : Int) (hc : 0 ≤ c ∧ c < 256) (hcb : 0 ≤ cb ∧ cb < 256) (hcf : 0 ≤ cf ∧ cf < 256) (hcs : 0 ≤ cs ∧ cs < 256) (a a2 : Option Addr) (cap cap2 n : Nat) (l : List Int) (hl : Byts l) (L : List Sp) (hL : L.length = n) (hok : ∀ s ∈ L, SpOk s) (h1000 : n ≤ 1000) (x line below : Int) (hb : 0 ≤ below ∧ below < 256)
    (w : World) (hB : Ns w .u8 a l) (hE : Els w spc a2 L) :
    Does Try.prog 63 [.agg #[.int .u8 c, .int .u8 cb, .int .u8 cf, .int .u8 cs], .slice a l.length cap, .slice a2 n cap2, .int .i64 x, .int .i64 line, .int .u8 below] w [] (fun v H => H = [] ∧ v = .int .u8 (seenS l c cb cf cs x line below (L.find? (hit l c x line)))) := by
  refine does_of Try.func63 rfl rfl rfl (St.refl w) ?_
  refine c_seq ?_
  refine c_region ?_
  refine l_x (x_box rfl rfl) rfl rfl ?_
  rintro _ _ ⟨b6, rfl, rfl⟩
  refine l_l rfl rfl rfl ?_
  refine l_nil ?_
  refine c_seq ?_
  refine c_seq ?_
  refine c_region ?_
  refine l_l rfl rfl rfl ?_
  refine l_l (by first | exact light_len rfl rfl | exact light_lens rfl rfl | rfl) rfl rfl ?_
  refine l_l rfl rfl rfl ?_
  refine l_nil ?_
  refine c_block ?_
  refine c_loop (σ := Nat) [12, 14, 15, 18, 19, 20, 21, 22, 23, 24, 25, 26, 27, 28, 29, 30, 31, 32, 33, 34, 35, 36, 37, 38, 39, 40, 41, 42, 43, 44, 45, 46, 47, 48, 49, 50, 51, 52, 53, 54, 55, 56, 57, 58] (fun k => [(18, .int .i64 k)]) (fun _ => [(b6, blk [.int .u8 c, .int .u8 cb, .int .u8 cf, .int .u8 cs] 74)]) (fun k => k ≤ n ∧ (L.take k).find? (hit l c x line) = none) (fun k => n - k) 0 ?_ ?_ ?_ ?_
  · exact ⟨Nat.zero_le _, rfl⟩
  · exact .cons rfl .nil
  · exact fun _ h => h
  · rintro k y ⟨hk, hk2⟩
    refine c_seq ?_
    refine c_region ?_
    refine l_l rfl rfl rfl ?_
    refine l_nil ?_
    refine c_seq ?_
    refine c_cond rfl (fun h1 => ?_) (fun h1 => ?_)
    · refine c_skip ?_
      refine c_seq ?_
      refine c_block ?_
      refine c_seq ?_
      have hkn : k < n := by simp at *; omega
      obtain ⟨b, off, rfl, hr⟩ := hE.row (i := k) (by omega)
      obtain ⟨s, hs⟩ : ∃ s, L[k]? = some s := ⟨_, List.getElem?_eq_getElem (by omega)⟩
      have hso := hok s (List.mem_of_getElem? hs)
      refine c_region ?_
      refine l_l (idx_slice (s := 5) k rfl rfl rfl rfl hkn) rfl rfl ?_
      refine l_x (x_loadA rfl rfl rfl (row_old (hr.nth' spc_len hs) (by simp))) rfl rfl ?_
      rintro _ _ ⟨rfl, rfl⟩
      refine l_x (x_alloc rfl) rfl rfl ?_
      rintro _ _ ⟨b14, rfl, rfl⟩
      refine l_x (by first | exact x_store 0 rfl rfl rfl rfl rfl rfl (by first | rfl | exact Nat.le_of_ble_eq_true rfl | (simp; done)) | exact x_store 1 rfl rfl rfl rfl rfl rfl (by first | rfl | exact Nat.le_of_ble_eq_true rfl | (simp; done)) | exact x_store 2 rfl rfl rfl rfl rfl rfl (by first | rfl | exact Nat.le_of_ble_eq_true rfl | (simp; done)) | exact x_store 3 rfl rfl rfl rfl rfl rfl (by first | rfl | exact Nat.le_of_ble_eq_true rfl | (simp; done))) rfl rfl ?_
      rintro _ _ ⟨rfl, rfl⟩
      refine l_nil ?_
      refine c_seq ?_
      refine c_region ?_
      refine l_x (x_loadA rfl rfl rfl (by first | exact row_own (by repeat (first | exact .head _ | refine .tail _ ?_ | refine List.mem_append_right _ ?_)) | exact row_own_at (by repeat (first | exact .head _ | refine .tail _ ?_ | refine List.mem_append_right _ ?_)) _ 4 rfl)) rfl rfl ?_
      rintro _ _ ⟨rfl, rfl⟩
      refine l_l rfl rfl rfl ?_
      refine l_x (x_loadA rfl rfl rfl (by first | exact row_own (by repeat (first | exact .head _ | refine .tail _ ?_ | refine List.mem_append_right _ ?_)) | exact row_own_at (by repeat (first | exact .head _ | refine .tail _ ?_ | refine List.mem_append_right _ ?_)) _ 5 rfl)) rfl rfl ?_
      rintro _ _ ⟨rfl, rfl⟩
      refine l_l rfl rfl rfl ?_
      refine l_l rfl rfl rfl ?_
      refine l_x (x_val call_77 rfl (fun w hw => sdot_fn c cb cf cs hc _ _ l hl s.n s.y s.x s.t s.h x line hso.1 hso.2.1 hso.2.2.1 hso.2.2.2 w (hB.later0 hw))) rfl rfl ?_
      rintro _ _ ⟨rfl, rfl⟩
      refine l_l rfl rfl rfl ?_
      refine l_nil ?_
      refine c_seq ?_
      refine c_block ?_
      refine c_seq ?_
      refine c_region ?_
      refine l_l rfl rfl rfl ?_
      refine l_l rfl rfl rfl ?_
      refine l_l rfl rfl rfl ?_
      refine l_nil ?_
      refine c_cond rfl (fun h2 => ?_) (fun h2 => ?_)
      · refine c_exit rfl ?_
        refine c_region ?_
        refine l_l rfl rfl rfl ?_
        refine l_l rfl rfl rfl ?_
        refine l_nil ?_
        exact ⟨k + 1, ⟨by omega, find_on hk2 hs (by have h0 := h2; simp at h0; simp [hit, h0])⟩, by omega, .cons (congrArg _ (succ_law (by omega))) .nil, (by repeat (first | exact Agree.refl _ _ | exact Agree.mix rfl | refine Agree.put rfl ?_ | refine Agree.keep rfl ?_)), (fun _ h => h.sub (by first | exact List.Sublist.refl _ | exact (List.Sublist.refl _).append (List.sublist_append_right _ _) | exact List.sublist_append_right _ _ | exact List.sublist_cons_self _ _))⟩
      · refine c_seq ?_
        refine c_region ?_
        refine l_l (light_fa rfl rfl) rfl rfl ?_
        refine l_x (x_load rfl rfl (at_own (by repeat (first | exact .head _ | refine .tail _ ?_ | refine List.mem_append_right _ ?_)) (by rfl))) rfl rfl ?_
        rintro _ _ ⟨rfl, rfl⟩
        refine l_l rfl rfl rfl ?_
        refine l_l rfl rfl rfl ?_
        refine l_b rfl rfl rfl (fun h3 => ?_) (fun h3 => ?_)
        · refine l_l rfl rfl rfl ?_
          refine l_l rfl rfl rfl ?_
          refine l_l rfl rfl rfl ?_
          refine l_l rfl rfl rfl ?_
          refine l_l rfl rfl rfl ?_
          refine l_nil ?_
          refine c_cond rfl (fun h4 => ?_) (fun h4 => ?_)
          · refine c_seq ?_
            refine c_region ?_
            refine l_l (light_fa rfl rfl) rfl rfl ?_
            refine l_x (x_load rfl rfl (at_own (by repeat (first | exact .head _ | refine .tail _ ?_ | refine List.mem_append_right _ ?_)) (by rfl))) rfl rfl ?_
            rintro _ _ ⟨rfl, rfl⟩
            refine l_l rfl rfl rfl ?_
            refine l_x (x_val call_78 rfl (fun w hw => shade_fn cb _ hcb hb w)) rfl rfl ?_
            rintro _ _ ⟨rfl, rfl⟩
            refine l_l rfl rfl rfl ?_
            refine l_nil ?_
            refine c_ret ?_
            exact l_end0 (fun _ _ => rets_v rfl) ⟨rfl, (congrArg _ (shade_far hs hso hb hk2 h2 h3 h4))⟩
          · refine c_seq ?_
            refine c_region ?_
            refine l_l (light_fa rfl rfl) rfl rfl ?_
            refine l_x (x_load rfl rfl (at_own (by repeat (first | exact .head _ | refine .tail _ ?_ | refine List.mem_append_right _ ?_)) (by rfl))) rfl rfl ?_
            rintro _ _ ⟨rfl, rfl⟩
            refine l_l rfl rfl rfl ?_
            refine l_l rfl rfl rfl ?_
            refine l_l rfl rfl rfl ?_
            refine l_nil ?_
            refine c_cond rfl (fun h5 => ?_) (fun h5 => ?_)
            · refine c_seq ?_
              refine c_region ?_
              refine l_l (light_fa rfl rfl) rfl rfl ?_
              refine l_x (x_load rfl rfl (at_own (by repeat (first | exact .head _ | refine .tail _ ?_ | refine List.mem_append_right _ ?_)) (by rfl))) rfl rfl ?_
              rintro _ _ ⟨rfl, rfl⟩
              refine l_l rfl rfl rfl ?_
              refine l_x (x_val call_78 rfl (fun w hw => shade_fn cs _ hcs (sDot_four _ _ _ _ _ _ _ _) w)) rfl rfl ?_
              rintro _ _ ⟨rfl, rfl⟩
              refine l_l rfl rfl rfl ?_
              refine l_nil ?_
              refine c_ret ?_
              exact l_end0 (fun _ _ => rets_v rfl) ⟨rfl, (congrArg _ (shade_near (b4 := true) hs hso hb hk2 h2 (.inr h4) h5))⟩
            · refine c_skip ?_
              refine c_seq ?_
              refine c_region ?_
              refine l_l (light_fa rfl rfl) rfl rfl ?_
              refine l_x (x_load rfl rfl (at_own (by repeat (first | exact .head _ | refine .tail _ ?_ | refine List.mem_append_right _ ?_)) (by rfl))) rfl rfl ?_
              rintro _ _ ⟨rfl, rfl⟩
              refine l_l rfl rfl rfl ?_
              refine l_x (x_val call_78 rfl (fun w hw => shade_fn cf _ hcf (sDot_four _ _ _ _ _ _ _ _) w)) rfl rfl ?_
              rintro _ _ ⟨rfl, rfl⟩
              refine l_l rfl rfl rfl ?_
              refine l_nil ?_
              refine c_ret ?_
              exact l_end0 (fun _ _ => rets_v rfl) ⟨rfl, (congrArg _ (shade_near (b4 := false) hs hso hb hk2 h2 (.inr h4) h5))⟩
        · refine l_p rfl rfl ?_
          refine l_p rfl rfl ?_
          refine l_p rfl rfl ?_
          refine l_l rfl rfl rfl ?_
          refine l_l rfl rfl rfl ?_
          refine l_nil ?_
          refine c_false rfl ?_
          refine c_seq ?_
          refine c_region ?_
          refine l_l (light_fa rfl rfl) rfl rfl ?_
          refine l_x (x_load rfl rfl (at_own (by repeat (first | exact .head _ | refine .tail _ ?_ | refine List.mem_append_right _ ?_)) (by rfl))) rfl rfl ?_
          rintro _ _ ⟨rfl, rfl⟩
          refine l_l rfl rfl rfl ?_
          refine l_l rfl rfl rfl ?_
          refine l_l rfl rfl rfl ?_
          refine l_nil ?_
          refine c_cond rfl (fun h6 => ?_) (fun h6 => ?_)
          · refine c_seq ?_
            refine c_region ?_
            refine l_l (light_fa rfl rfl) rfl rfl ?_
            refine l_x (x_load rfl rfl (at_own (by repeat (first | exact .head _ | refine .tail _ ?_ | refine List.mem_append_right _ ?_)) (by rfl))) rfl rfl ?_
            rintro _ _ ⟨rfl, rfl⟩
            refine l_l rfl rfl rfl ?_
            refine l_x (x_val call_78 rfl (fun w hw => shade_fn cs _ hcs (sDot_four _ _ _ _ _ _ _ _) w)) rfl rfl ?_
            rintro _ _ ⟨rfl, rfl⟩
            refine l_l rfl rfl rfl ?_
            refine l_nil ?_
            refine c_ret ?_
            exact l_end0 (fun _ _ => rets_v rfl) ⟨rfl, (congrArg _ (shade_near (b4 := true) hs hso hb hk2 h2 (.inl h3) h6))⟩
          · refine c_skip ?_
            refine c_seq ?_
            refine c_region ?_
            refine l_l (light_fa rfl rfl) rfl rfl ?_
            refine l_x (x_load rfl rfl (at_own (by repeat (first | exact .head _ | refine .tail _ ?_ | refine List.mem_append_right _ ?_)) (by rfl))) rfl rfl ?_
            rintro _ _ ⟨rfl, rfl⟩
            refine l_l rfl rfl rfl ?_
            refine l_x (x_val call_78 rfl (fun w hw => shade_fn cf _ hcf (sDot_four _ _ _ _ _ _ _ _) w)) rfl rfl ?_
            rintro _ _ ⟨rfl, rfl⟩
            refine l_l rfl rfl rfl ?_
            refine l_nil ?_
            refine c_ret ?_
            exact l_end0 (fun _ _ => rets_v rfl) ⟨rfl, (congrArg _ (shade_near (b4 := false) hs hso hb hk2 h2 (.inl h3) h6))⟩
    · refine c_exit rfl ?_
      refine c_seq ?_
      refine c_region ?_
      refine l_l (light_fa rfl rfl) rfl rfl ?_
      refine l_x (x_load rfl rfl (at_own (by repeat (first | exact .head _ | refine .tail _ ?_ | refine List.mem_append_right _ ?_)) (by rfl))) rfl rfl ?_
      rintro _ _ ⟨rfl, rfl⟩
      refine l_l rfl rfl rfl ?_
      refine l_x (x_val call_78 rfl (fun w hw => shade_fn cb _ hcb hb w)) rfl rfl ?_
      rintro _ _ ⟨rfl, rfl⟩
      refine l_l rfl rfl rfl ?_
      refine l_nil ?_
      refine c_ret ?_
      exact l_end0 (fun _ _ => rets_v rfl) ⟨rfl, (congrArg _ (shade_none (k := k) (by simp at *; omega) hk2))⟩

set_option maxRecDepth 100000 in
theorem line_fn (c cb cf cs : Int) (hc : 0 ≤ c ∧ c < 256) (hcb : 0 ≤ cb ∧ cb < 256) (hcf : 0 ≤ cf ∧ cf < 256) (hcs : 0 ≤ cs ∧ cs < 256) (a a2 : Option Addr) (cap cap2 : Nat) (l oam : List Int) (hl : Byts l) (ho : Byts oam) (hcap : oam.length ≤ cap2) (line : Int) (bl : List Int) (hbl : bl.length = 160) (hbb : Byts bl)
    (w : World) (hB : Ns w .u8 a l) (hO : Ns w .u8 a2 oam) :
    Does Try.prog 47 [.agg #[.int .u8 c, .int .u8 cb, .int .u8 cf, .int .u8 cs], .slice a l.length cap, .slice a2 oam.length cap2, .int .i64 line, .agg (bl.map (.int .u8)).toArray] w [] (fun v H => H = [] ∧ v = .agg (lineL l oam c cb cf cs line bl).toArray) := by
  refine does_of Try.func47 rfl rfl rfl (St.refl w) ?_
  refine c_seq ?_
  refine c_region ?_
  refine l_x (x_box rfl rfl) rfl rfl ?_
  rintro _ _ ⟨b5, rfl, rfl⟩
  refine l_x (x_box (l := bl.map (.int .u8)) rfl rfl) rfl rfl ?_
  rintro _ _ ⟨b9, rfl, rfl⟩
  refine l_x (x_alloc (l := List.replicate 160 (.int .u8 0)) (by kernel_rfl)) rfl rfl ?_
  rintro _ _ ⟨b10, rfl, rfl⟩
  refine l_nil ?_
  refine c_seq ?_
  refine c_region ?_
  refine l_l rfl rfl rfl ?_
  refine l_nil ?_
  refine c_cut (σ := Value × Heap) [11, 13, 16, 17, 18, 19, 20, 21, 22, 23, 24, 25, 26, 27, 28, 29, 30, 31, 32, 33, 34, 35] (fun s => [(11, s.1)]) (fun s => s.2 ++ [(b10, blk (List.replicate 160 (.int .u8 0)) 43), (b9, blk (bl.map (.int .u8)) 43), (b5, blk [.int .u8 c, .int .u8 cb, .int .u8 cf, .int .u8 cs] 74)]) (fun s => Vec 91 5 s.1 (shownS oam c line).length (flat spc (shownS oam c line)) s.2) ?_ ?_
  · refine c_seq ?_
    refine c_region ?_
    refine l_l (light_fa rfl rfl) rfl rfl ?_
    refine l_x (x_load rfl rfl (at_own (by repeat (first | exact .head _ | refine .tail _ ?_ | refine List.mem_append_right _ ?_)) (by rfl))) rfl rfl ?_
    rintro _ _ ⟨rfl, rfl⟩
    refine l_l rfl rfl rfl ?_
    refine l_l rfl rfl rfl ?_
    refine l_nil ?_
    refine c_cond rfl (fun h1 => ?_) (fun h1 => ?_)
    · refine c_seq ?_
      refine c_region ?_
      refine l_x (x_loadA rfl rfl rfl (by first | exact row_own (by repeat (first | exact .head _ | refine .tail _ ?_ | refine List.mem_append_right _ ?_)) | exact row_own_at (by repeat (first | exact .head _ | refine .tail _ ?_ | refine List.mem_append_right _ ?_)) _ 4 rfl)) rfl rfl ?_
      rintro _ _ ⟨rfl, rfl⟩
      refine l_l rfl rfl rfl ?_
      refine l_l rfl rfl rfl ?_
      refine l_x (x_call call_58 rfl (fun w hw => scan_fn c cb cf cs hc _ _ oam ho line hcap w (hO.later0 hw))) rfl rfl ?_
      rintro _ _ ⟨G23, ⟨a23, c23, rfl, hc23, hL23⟩, rfl⟩
      refine l_l (by first | exact light_len rfl rfl | exact light_lens rfl rfl | rfl) rfl rfl ?_
      refine l_l rfl rfl rfl ?_
      refine l_nil ?_
      refine c_block ?_
      refine c_loop (σ := Nat × Value × Heap) [11, 13, 25, 26, 27, 28, 29, 30, 31, 32, 33, 34, 35] (fun s => [(11, s.2.1), (25, .int .i64 s.1)]) (fun s => s.2.2 ++ (G23 ++ [(b10, blk (List.replicate 160 (.int .u8 0)) 43), (b9, blk (bl.map (.int .u8)) 43), (b5, blk [.int .u8 c, .int .u8 cb, .int .u8 cf, .int .u8 cs] 74)])) (fun s => s.1 ≤ (scan oam c line).length ∧ Vec 91 5 s.2.1 s.1 (flat spc (((scan oam c line).take s.1).map (sp oam))) s.2.2) (fun s => (scan oam c line).length - s.1) (0, .slice none 0 0, []) ?_ ?_ ?_ ?_
      · exact ⟨Nat.zero_le _, .nil⟩
      · exact .cons rfl (.cons rfl .nil)
      · exact fun _ h => h
      · rintro ⟨k, v, G⟩ y ⟨hk, hV⟩
        simp only at hk hV ⊢
        have h10 := scan_ten oam c line
        refine c_seq ?_
        refine c_region ?_
        refine l_l rfl rfl rfl ?_
        refine l_nil ?_
        refine c_seq ?_
        refine c_cond rfl (fun h2 => ?_) (fun h2 => ?_)
        · refine c_skip ?_
          refine c_seq ?_
          refine c_block ?_
          refine c_seq ?_
          have hkn : k < (scan oam c line).length := by simp at *; omega
          obtain ⟨b, off, rfl, hr⟩ := hL23.row (i := k) hkn
          refine c_region ?_
          refine l_l (idx_slice1 k rfl rfl rfl rfl hkn) rfl rfl ?_
          refine l_x (x_load rfl rfl (at_gives hr (by intro x hx; simp [hx]) hkn)) rfl rfl ?_
          rintro _ _ ⟨rfl, rfl⟩
          refine l_l rfl rfl rfl ?_
          refine l_nil ?_
          refine c_region ?_
          refine l_mv (v := v) rfl rfl rfl ?_
          refine l_l rfl rfl rfl ?_
          refine l_l rfl rfl rfl ?_
          refine l_x (x_val call_59 rfl (fun w hw => of_fn _ _ oam ho _ (scan_range _ (getD_mem hkn)) hcap w (hO.later0 hw))) rfl rfl ?_
          rintro _ _ ⟨rfl, rfl⟩
          refine l_x (x_slc rfl rfl rfl rfl rfl rfl) rfl rfl ?_
          rintro _ _ ⟨b33, rfl, rfl⟩
          refine l_x (x_append (A := [_]) (G := G) (R := _) (v := v) (m := 1) (by_ := 40) rfl rfl rfl rfl hV (fun w hw => .row _ _ _ _ _ rfl (row_own (.head _) w hw)) rfl (by omega) (by omega)) rfl rfl ?_
          rintro v34 _ ⟨G', hV', hnil, rfl⟩
          refine l_as' (v := v34) rfl rfl rfl ?_
          refine l_nil ?_
          refine c_region ?_
          refine l_l rfl rfl rfl ?_
          refine l_l rfl rfl rfl ?_
          refine l_nil ?_
          exact ⟨(k + 1, v34, G'), ⟨by omega, by rw [flat_next hkn]; exact hV'⟩, by omega, .cons rfl (.cons (congrArg _ (succ_law (by omega))) .nil), (by repeat (first | exact Agree.refl _ _ | exact Agree.mix rfl | refine Agree.put rfl ?_ | refine Agree.keep rfl ?_)), (fun _ h => h.sub (by first | exact List.Sublist.refl _ | exact (List.Sublist.refl _).append (List.sublist_append_right _ _) | exact List.sublist_append_right _ _ | exact List.sublist_cons_self _ _))⟩
        · refine c_exit rfl ?_
          obtain rfl : k = (scan oam c line).length := by simp at *; omega
          exact ⟨(v, G), by rw [shown_yes hc h1, List.length_map]; rw [List.take_length] at hV; exact hV, .cons rfl .nil, (by repeat (first | exact Agree.refl _ _ | exact Agree.mix rfl | refine Agree.put rfl ?_ | refine Agree.keep rfl ?_)), fun w h => h.sub ((List.Sublist.refl _).append (List.sublist_append_right _ _))⟩
    · refine c_skip ?_
      exact ⟨(.slice none 0 0, []), by rw [shown_no hc h1]; exact .nil, .cons rfl .nil, (by repeat (first | exact Agree.refl _ _ | exact Agree.mix rfl | refine Agree.put rfl ?_ | refine Agree.keep rfl ?_)), fun w h => h⟩
  · rintro ⟨v, G⟩ y2 hV
    simp only at hV ⊢
    obtain ⟨a11, c11, rfl⟩ := hV.slice
    refine c_seq ?_
    refine c_region ?_
    refine l_l rfl rfl rfl ?_
    refine l_x (x_callF (A := G) (G := _) (G.map (·.1)) call_60 rfl (fun b h => mem_fst h) (fun w hw => sort_fn hV (shown_ten oam c line) w (fun x hx => hw.holds x (by simp [hx])))) rfl rfl ?_
    rintro _ _ ⟨G', ⟨rfl, hV'⟩, rfl⟩
    obtain ⟨a1', c1', he, hn11, hc11, hE⟩ := hV'.gives spc_len (by decide)
    cases he
    refine l_nil ?_
    refine c_seq ?_
    refine c_heap (fun w h => h.perm List.perm_append_comm) ?_
    refine c_region ?_
    refine l_x (x_alloc (l := List.replicate 160 (.int .u8 0)) (by kernel_rfl)) rfl rfl ?_
    rintro _ _ ⟨b14, rfl, rfl⟩
    refine l_nil ?_
    refine c_seq ?_
    refine c_seq ?_
    refine c_region ?_
    refine l_l rfl rfl rfl ?_
    refine l_nil ?_
    refine c_block ?_
    refine c_loop (σ := Nat) [15, 38, 39, 40, 41, 42, 43, 44, 45, 46, 47, 48, 49, 50, 51, 52] (fun k => [(38, .int .i64 k)]) (fun k => (b14, blk (upTo .u8 (lineS l oam c cb cf cs line bl) 160 k) 43) :: ([(b10, blk (List.replicate 160 (.int .u8 0)) 43), (b9, blk (bl.map (.int .u8)) 43), (b5, blk [.int .u8 c, .int .u8 cb, .int .u8 cf, .int .u8 cs] 74)] ++ G')) (fun k => k ≤ 160) (fun k => 160 - k) 0 ?_ ?_ ?_ ?_
    · show 0 ≤ 160; omega
    · exact .cons rfl .nil
    · exact fun w h => by rw [← upTo_zero]; exact h
    · intro k y hk
      refine c_seq ?_
      refine c_region ?_
      refine l_l rfl rfl rfl ?_
      refine l_nil ?_
      refine c_seq ?_
      refine c_cond rfl (fun h3 => ?_) (fun h3 => ?_)
      · refine c_skip ?_
        refine c_seq ?_
        refine c_block ?_
        refine c_seq ?_
        refine c_region ?_
        refine l_l rfl rfl rfl ?_
        refine l_l rfl rfl rfl ?_
        refine l_nil ?_
        refine c_draw _ [2, 3, 4, 5, 6, 7, 8] (.step true 0 (.step true 1 (.step true 2 (.step true 3 (.step true 4 (.step true 5 (.step true 6 (.step true 7 (.step true 8 (.step false 9 (.step true 10 (.step false 11 .done)))))))))))) rfl (by kernel_rfl) (by kernel_rfl) (fun _ h => h) ?_
        refine d_light rfl rfl rfl rfl rfl ?_
        refine d_loadA rfl rfl rfl rfl (by first | exact srow_own (by repeat (first | exact .head _ | refine .tail _ ?_ | refine List.mem_append_right _ ?_)) | exact srow_own_at (by repeat (first | exact .head _ | refine .tail _ ?_ | refine List.mem_append_right _ ?_)) _ 4 rfl) rfl rfl ?_
        refine d_light rfl rfl rfl rfl rfl ?_
        refine d_light rfl rfl rfl rfl rfl ?_
        refine d_light rfl rfl rfl rfl rfl ?_
        refine d_light rfl rfl rfl rfl rfl ?_
        refine d_light rfl rfl rfl rfl rfl ?_
        refine d_light rfl (idx_array0 k rfl rfl rfl rfl (by simp at *; omega)) rfl rfl rfl ?_
        refine d_load rfl rfl rfl (s_own (.tail _ (.tail _ (.head _))) (map_get (by simp at *; omega))) rfl rfl ?_
        refine d_x rfl (x_val call_63 rfl (fun w hw => shadeS_fn c cb cf cs hc hcb hcf hcs _ _ _ _ _ l hl (isort (shownS oam c line)) hn11 (shown_ok ho c line) (by have := shown_ten oam c line; omega) (k : Int) line _ (hbb.get k) w (hB.later0 hw) (hE.els hw (by intro x hx; simp [hx])))) rfl rfl (by intro h; cases h) ?_
        rintro _ _ ⟨rfl, rfl⟩
        refine d_light rfl (idx_array0 k rfl rfl rfl rfl (by simp at *; omega)) rfl rfl rfl ?_
        refine d_x rfl (x_store 0 rfl rfl rfl rfl rfl rfl (by rw [upTo_len (by simp at *; omega)]; simp at *; omega)) rfl rfl (by intro h; cases h) ?_
        rintro _ _ ⟨rfl, rfl⟩
        rw [List.set_cons_zero, upTo_put (f := lineS l oam c cb cf cs line bl) (by simp at *; omega) (seenS l c cb cf cs (k : Int) line (bl.getD k 0) ((isort (shownS oam c line)).find? (hit l c (k : Int) line))) rfl]
        refine d_nil ?_
        refine c_region ?_
        refine l_l rfl rfl rfl ?_
        refine l_l rfl rfl rfl ?_
        refine l_nil ?_
        exact ⟨k + 1, by simp at *; omega, by simp at *; omega, .cons (congrArg _ (succ_law (by omega))) .nil, (by repeat (first | exact Agree.refl _ _ | exact Agree.mix rfl | refine Agree.put rfl ?_ | refine Agree.keep rfl ?_)), fun _ h => h⟩
      · refine c_exit rfl ?_
        refine c_seq ?_
        obtain rfl : k = 160 := by simp at *; omega
        refine c_region ?_
        refine l_x (x_loadA rfl rfl (by rw [upTo_len (Nat.le_refl _)]; rfl) (row_own (.head _))) rfl rfl ?_
        rintro _ _ ⟨rfl, rfl⟩
        refine l_x (x_store (vs := (upTo .u8 (lineS l oam c cb cf cs line bl) 160 160)) (l := List.replicate 160 (.int .u8 0)) 1 rfl rfl rfl (by rw [upTo_len (Nat.le_refl _)]; rfl) (upTo_ones _ _ _ _) rfl (by rw [upTo_len (Nat.le_refl _)]; simp)) rfl rfl ?_
        rintro _ _ ⟨rfl, rfl⟩
        rw [putL_all (by rw [upTo_len (Nat.le_refl _)]; simp)]
        refine l_nil ?_
        refine c_ret ?_
        exact l_end0 (fun w hw => rets_cell (l := (upTo .u8 (lineS l oam c cb cf cs line bl) 160 160)) rfl rfl (by rw [upTo_len (Nat.le_refl _)]; rfl) (row_own (.tail _ (.head _)) w hw)) ⟨rfl, by rw [upTo_all]; rfl⟩

end Go.Proofs.Ytjceoaomkbabmaa
