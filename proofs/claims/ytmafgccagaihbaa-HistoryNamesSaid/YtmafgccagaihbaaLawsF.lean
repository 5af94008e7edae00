/- The contract of the law of names. -/
import Derived.Test.YtmafgccagaihbaaAwake
import Derived.Test.YtmafgccagaihbaaRefAdd
import Derived.Test.YtmafgccagaihbaaCalls
namespace Go.Proofs.Ytmafgccagaihbaa
open Go Go.VV Go.Proofs
set_option linter.unusedSimpArgs false
set_option linter.unusedVariables false
set_option maxRecDepth 100000
theorem RAdd.no {a : Option Addr} {c : Nat} {P W : List Nm} {x : Nm} {v : Value} {H : Heap} (h : RAdd a c P W x v H) (he : addE P x ≠ 0) : v = .tuple #[.slice a W.length c, .int .i64 (addE P x)] ∧ H = [] := by
  rcases h with ⟨_, h1, h2⟩ | ⟨h1, _⟩
  · exact ⟨h1, h2⟩
  · exact absurd h1 he
theorem RAdd.yes {a : Option Addr} {c : Nat} {P W : List Nm} {x : Nm} {v : Value} {H : Heap} (h : RAdd a c P W x v H) (he : addE P x = 0) : ∃ u, v = .tuple #[u, .int .i64 0] ∧ Vec 52 3 u (W ++ [x]).length (flat cN (W ++ [x])) H := by
  rcases h with ⟨h1, _⟩ | ⟨_, h2⟩
  · exact absurd he h1
  · exact h2
theorem find_non {P W : List Nm} (h : Tw P W) {bank at_ : Int} (ha : 0 ≤ at_ ∧ at_ < 65536) {o : Int} (ho : IdxOk W bank at_ W.length o) (hF : findN P bank at_ = none) : o = -1 := by
  rcases find_one h ha ho with ⟨_, h9⟩ | ⟨j, z, _, _, h9⟩
  · exact h9
  · rw [hF] at h9; cases h9
theorem find_som {P W : List Nm} (h : Tw P W) {bank at_ : Int} (ha : 0 ≤ at_ ∧ at_ < 65536) {o : Int} (ho : IdxOk W bank at_ W.length o) {z : Nm} (hF : findN P bank at_ = some z) : ∃ j : Nat, o = (j : Int) ∧ W[j]? = some z := by
  rcases find_one h ha ho with ⟨h9, _⟩ | ⟨j, z9, h1, h2, h9⟩
  · rw [hF] at h9; cases h9
  · rw [hF] at h9; cases h9; exact ⟨j, h1, h2⟩
theorem nlenW_fn (b : Nat) (P : List Nm) (w : World) (hW : NamW w b P) : Does Try.prog 18 [.pointer (some ⟨b, 0, none⟩)] w [] (fun v H => H = [] ∧ v = .int .i64 P.length) := by
  obtain ⟨a, c, h, _⟩ := hW.list
  exact nlen_fn b _ c a w h
theorem i64_ne (n : Int) : (n != n) = false := by simp

set_option maxHeartbeats 4000000 in
theorem names_fn (a : Option Addr) (c : Nat) (l : List Nm) (hok : ∀ y ∈ l, AtOk y) (bank at_ : Int) (hat : 0 ≤ at_ ∧ at_ < 65536) (w : World) (hE : Els w cN a l) :
    Does Try.prog 6 [.slice a l.length c, .int .i64 bank, .int .u16 at_] w [] (fun v H => H = [] ∧ v = .bool true) := by
  refine does_of Try.func6 rfl rfl rfl (St.refl w) ?_
  refine c_seq ?_
  refine c_region ?_
  refine l_l rfl rfl rfl ?_
  refine l_nil ?_
  refine c_seq ?_
  refine c_seq ?_
  refine c_region ?_
  refine l_x (x_val call_9 rfl (fun w hw => awake_fn w)) rfl rfl ?_
  rintro _ _ ⟨rfl, rfl⟩
  refine l_l rfl rfl rfl ?_
  refine l_b rfl rfl rfl (fun h1 => ?_) (fun h1 => ?_)
  · refine l_p rfl rfl ?_
    refine l_p rfl rfl ?_
    refine l_p rfl rfl ?_
    refine l_l rfl rfl rfl ?_
    refine l_nil ?_
    refine c_true rfl ?_
    refine c_seq ?_
    refine c_region ?_
    refine l_x (x_val call_9 rfl (fun w hw => awake_fn w)) rfl rfl ?_
    rintro _ _ ⟨rfl, rfl⟩
    refine l_l rfl rfl rfl ?_
    refine l_nil ?_
    refine c_ret ?_
    exact l_end0 (fun _ _ => rets_v rfl) ⟨rfl, rfl⟩
  · refine l_l rfl rfl rfl ?_
    refine l_l (by first | exact light_len rfl rfl | exact light_lens rfl rfl | rfl) rfl rfl ?_
    refine l_l rfl rfl rfl ?_
    refine l_l rfl rfl rfl ?_
    refine l_nil ?_
    refine c_cond rfl (fun h2 => ?_) (fun h2 => ?_)
    · refine c_seq ?_
      refine c_region ?_
      refine l_x (x_val call_9 rfl (fun w hw => awake_fn w)) rfl rfl ?_
      rintro _ _ ⟨rfl, rfl⟩
      refine l_l rfl rfl rfl ?_
      refine l_nil ?_
      refine c_ret ?_
      exact l_end0 (fun _ _ => rets_v rfl) ⟨rfl, rfl⟩
    · refine c_skip ?_
      refine c_seq ?_
      refine c_region ?_
      refine l_l (light_struct rfl rfl rfl rfl) rfl rfl ?_
      refine l_x (x_box rfl rfl) rfl rfl ?_
      rintro _ _ ⟨b25, rfl, rfl⟩
      refine l_l rfl rfl rfl ?_
      refine l_nil ?_
      refine c_seq ?_
      refine c_region ?_
      refine l_l rfl rfl rfl ?_
      refine l_nil ?_
      refine c_seq ?_
      refine c_seq ?_
      refine c_region ?_
      refine l_l rfl rfl rfl ?_
      refine l_l (by first | exact light_len rfl rfl | exact light_lens rfl rfl | rfl) rfl rfl ?_
      refine l_l rfl rfl rfl ?_
      refine l_nil ?_
      refine c_block ?_
      refine c_loop (σ := Nat × List Nm × List Nm × Value × Heap × Heap) [6, 8, 9, 10, 11, 12, 13, 14, 15, 28, 29, 30, 31, 32, 33, 34, 35, 36, 37, 38, 39, 40, 41, 42, 43, 44, 45, 46, 47, 48, 49, 50, 51, 52, 53, 54, 55, 56, 57, 58, 59, 60, 61, 62, 63, 64, 65, 66, 67, 68, 69, 70, 71, 72, 73, 74, 75, 76, 77, 78, 79, 80, 81, 82, 83, 84, 85, 86, 87, 88, 89, 90, 91, 92, 93, 94, 95, 96, 97, 98, 99, 100, 101, 102, 103, 104, 105, 106, 107, 108, 109, 110, 111, 112, 113, 114, 115, 116, 117, 118, 119] (fun s => [(8, s.2.2.2.1), (28, .int .i64 s.1)]) (fun s => s.2.2.2.2.1 ++ (s.2.2.2.2.2 ++ [])) (fun s => s.1 ≤ l.length ∧ Tw s.2.1 s.2.2.1 ∧ NamH b25 s.2.1 s.2.2.2.2.1 ∧ Vec 52 3 s.2.2.2.1 s.2.2.1.length (flat cN s.2.2.1) s.2.2.2.2.2) (fun s => l.length - s.1) (0, [], [], .slice none 0 0, [(b25, blk [.slice none 0 0] 48)], []) ?_ ?_ ?_ ?_
      · exact ⟨Nat.zero_le _, .start, .start _, .nil⟩
      · exact .cons rfl (.cons rfl .nil)
      · exact fun _ h => h
      · rintro ⟨i, P, W, v8, GP, GW⟩ y6 ⟨hi, hT, hH, hV⟩
        dsimp only at hi hT hH hV ⊢
        obtain ⟨a8, c8, rfl, _, hc8, hg8⟩ := hV.gives cN_len (by decide)
        refine c_seq ?_
        refine c_region ?_
        refine l_l rfl rfl rfl ?_
        refine l_nil ?_
        refine c_seq ?_
        refine c_cond rfl (fun h3 => ?_) (fun h3 => ?_)
        · refine c_skip ?_
          refine c_seq ?_
          refine c_block ?_
          refine c_seq ?_
          refine c_region ?_
          refine l_l rfl rfl rfl ?_
          refine l_l rfl rfl rfl ?_
          refine l_nil ?_
          refine c_seq ?_
          have hl7 : l.length ≤ 700 := by (try simp only [decide_eq_true_eq, decide_eq_false_iff_not, beq_iff_eq, beq_eq_false_iff_ne, bne_iff_ne, bne_eq_false_iff_eq, ne_eq] at *); omega
          obtain ⟨bl, ol, rfl, hr⟩ := hE.row (i := i) (by (try simp only [decide_eq_true_eq, decide_eq_false_iff_not, beq_iff_eq, beq_eq_false_iff_ne, bne_iff_ne, bne_eq_false_iff_eq, ne_eq] at *); omega)
          obtain ⟨y, hy⟩ : ∃ y, l[i]? = some y := ⟨_, get_some (by (try simp only [decide_eq_true_eq, decide_eq_false_iff_not, beq_iff_eq, beq_eq_false_iff_ne, bne_iff_ne, bne_eq_false_iff_eq, ne_eq] at *); omega)⟩
          have hyo := hok y (List.mem_of_getElem? hy)
          refine c_draw _ [6, 7, 8, 9, 10, 11, 12, 13, 14, 15] (.step true 0 (.step true 1 (.step true 2 (.step true 3 (.step true 4 (.step true 5 (.step true 6 (.step true 7 (.step true 8 (.step true 9 (.step true 10 (.step true 11 (.step true 12 (.step true 13 (.step true 14 (.step true 15 (.step false 16 (.step true 17 .done)))))))))))))))))) rfl (by kernel_rfl) (by kernel_rfl) (fun _ h => h) ?_
          refine d_light rfl rfl rfl rfl rfl ?_
          refine d_light rfl rfl rfl rfl rfl ?_
          refine d_light rfl rfl rfl rfl rfl ?_
          refine d_light rfl (idx_slice (s := 3) i rfl rfl rfl rfl (by (try simp only [decide_eq_true_eq, decide_eq_false_iff_not, beq_iff_eq, beq_eq_false_iff_ne, bne_iff_ne, bne_eq_false_iff_eq, ne_eq] at *); omega)) rfl rfl rfl ?_
          refine d_light rfl (light_fa rfl rfl) rfl rfl rfl ?_
          refine d_load rfl rfl rfl (fun w hw => (srow_old hr (by simp) w hw).at cN_len hy 0 rfl) rfl rfl ?_
          refine d_light rfl rfl rfl rfl rfl ?_
          refine d_light rfl rfl rfl rfl rfl ?_
          refine d_light rfl (idx_slice (s := 3) i rfl rfl rfl rfl (by (try simp only [decide_eq_true_eq, decide_eq_false_iff_not, beq_iff_eq, beq_eq_false_iff_ne, bne_iff_ne, bne_eq_false_iff_eq, ne_eq] at *); omega)) rfl rfl rfl ?_
          refine d_light rfl (light_fa rfl rfl) rfl rfl rfl ?_
          refine d_load rfl rfl rfl (fun w hw => (srow_old hr (by simp) w hw).at cN_len hy 1 rfl) rfl rfl ?_
          refine d_light rfl rfl rfl rfl rfl ?_
          refine d_light rfl rfl rfl rfl rfl ?_
          refine d_light rfl (idx_slice (s := 3) i rfl rfl rfl rfl (by (try simp only [decide_eq_true_eq, decide_eq_false_iff_not, beq_iff_eq, beq_eq_false_iff_ne, bne_iff_ne, bne_eq_false_iff_eq, ne_eq] at *); omega)) rfl rfl rfl ?_
          refine d_light rfl (light_fa rfl rfl) rfl rfl rfl ?_
          refine d_load rfl rfl rfl (fun w hw => (srow_old hr (by simp) w hw).at cN_len hy 2 rfl) rfl rfl ?_
          refine d_x rfl (x_callF (A := GP) (G := GW ++ []) (GP.map (·.1)) call_16 rfl (fun _ hb => mem_fst hb) (fun w hw => nadd_fn b25 P GP hH hT.srt hT.ok hT.len y.bank y.at_ y.name hyo w (St.lentV hw))) rfl rfl (by intro h; cases h) ?_
          rintro _ _ ⟨GP', ⟨rfl, hH9⟩, rfl⟩
          replace hH9 : NamH b25 (addP P y) GP' := hH9
          rw [show addE P ⟨y.bank, y.at_, y.name⟩ = addE P y from rfl]
          refine d_light rfl rfl rfl rfl rfl ?_
          refine d_nil ?_
          refine c_seq ?_
          refine c_region ?_
          refine l_l rfl rfl rfl ?_
          refine l_nil ?_
          refine c_seq ?_
          rcases (show addE P y ≠ 0 ∨ addE P y = 0 by omega) with he | he
          · refine c_region ?_
            refine l_l rfl rfl rfl ?_
            refine l_l rfl rfl rfl ?_
            refine l_l rfl rfl rfl ?_
            refine l_l (idx_slice (s := 3) i rfl rfl rfl rfl (by (try simp only [decide_eq_true_eq, decide_eq_false_iff_not, beq_iff_eq, beq_eq_false_iff_ne, bne_iff_ne, bne_eq_false_iff_eq, ne_eq] at *); omega)) rfl rfl ?_
            refine l_x (x_loadA rfl rfl rfl (row_old (hr.nth' cN_len hy) (by simp))) rfl rfl ?_
            rintro _ _ ⟨rfl, rfl⟩
            refine l_x (x_call call_17 rfl (fun w hw => radd_fn a8 c8 P W hT y hyo w (hg8.els hw (fun x hx => by repeat (first | exact hx | exact List.mem_append_left _ hx | refine List.mem_append_right _ ?_ | refine .tail _ ?_))))) rfl rfl ?_
            rintro v54 _ ⟨G54, hR, rfl⟩
            obtain ⟨rfl, rfl⟩ := hR.no he
            have hT' : Tw (addP P y) W := by
              have h9 := hT.step hyo
              rwa [addW_no he] at h9
            refine l_heap (H' := GP' ++ (GW ++ [])) (fun _ h => h) ?_
            refine l_l rfl rfl rfl ?_
            refine l_l rfl rfl rfl ?_
            refine l_l rfl rfl rfl ?_
            refine l_l rfl rfl rfl ?_
            refine l_l rfl rfl rfl ?_
            refine l_nil ?_
            refine c_seq ?_
            refine c_seq ?_
            refine c_region ?_
            refine l_l rfl rfl rfl ?_
            refine l_l rfl rfl rfl ?_
            refine l_sure false rfl rfl rfl (i64_ne _) ?_
            refine l_l rfl rfl rfl ?_
            refine l_l rfl rfl rfl ?_
            refine l_x (x_val call_18 rfl (fun w hw => nlenW_fn b25 _ w (hH9.namW hw (fun x hx => by repeat (first | exact hx | exact List.mem_append_left _ hx | refine List.mem_append_right _ ?_ | refine .tail _ ?_))))) rfl rfl ?_
            rintro _ _ ⟨rfl, rfl⟩
            refine l_l rfl rfl rfl ?_
            refine l_l (by first | exact light_len rfl rfl | exact light_lens rfl rfl | rfl) rfl rfl ?_
            refine l_sure false rfl rfl rfl (by rw [hT'.wlen]; simp) ?_
            refine l_l rfl rfl rfl ?_
            refine l_nil ?_
            refine c_false rfl ?_
            refine c_skip ?_
            refine c_seq ?_
            rcases hF : findN (addP P y) bank at_ with _ | z
            · refine c_region ?_
              refine l_l rfl rfl rfl ?_
              refine l_l rfl rfl rfl ?_
              refine l_l rfl rfl rfl ?_
              refine l_x (x_val call_19 rfl (fun w hw => findp_fn b25 (addP P y) hT'.srt hT'.ok hT'.len bank at_ hat w (hH9.namW hw (fun x hx => by repeat (first | exact hx | exact List.mem_append_left _ hx | refine List.mem_append_right _ ?_ | refine .tail _ ?_))))) rfl rfl ?_
              rintro _ _ ⟨rfl, rfl⟩
              rw [hF, show findV none at_ = .tuple #[.string (.mk #[]), .int .u16 0, .bool false] from rfl]
              refine l_l rfl rfl rfl ?_
              refine l_l rfl rfl rfl ?_
              refine l_l rfl rfl rfl ?_
              refine l_l rfl rfl rfl ?_
              refine l_l rfl rfl rfl ?_
              refine l_l rfl rfl rfl ?_
              refine l_l rfl rfl rfl ?_
              refine l_nil ?_
              refine c_seq ?_
              refine c_region ?_
              refine l_l rfl rfl rfl ?_
              refine l_l rfl rfl rfl ?_
              refine l_l rfl rfl rfl ?_
              refine l_x (x_call call_20 rfl (fun w hw => rfind_fn _ _ W (by rw [hT'.wlen]; exact hT'.len) bank at_ w (hg8.els hw (fun x hx => by repeat (first | exact hx | exact List.mem_append_left _ hx | refine List.mem_append_right _ ?_ | refine .tail _ ?_))))) rfl rfl ?_
              rintro _ _ ⟨G78, ⟨rfl, o9, rfl, hO⟩, rfl⟩
              obtain rfl := find_non hT' hat hO hF
              refine l_l rfl rfl rfl ?_
              refine l_nil ?_
              refine c_seq ?_
              refine c_region ?_
              refine l_l rfl rfl rfl ?_
              refine l_l rfl rfl rfl ?_
              refine l_l rfl rfl rfl ?_
              refine l_sure false (light_neb rfl rfl rfl) rfl rfl rfl ?_
              refine l_l rfl rfl rfl ?_
              refine l_l rfl rfl rfl ?_
              refine l_sure false rfl rfl rfl rfl ?_
              refine l_l rfl rfl rfl ?_
              refine l_p rfl rfl ?_
              refine l_p rfl rfl ?_
              refine l_p rfl rfl ?_
              refine l_p rfl rfl ?_
              refine l_p rfl rfl ?_
              refine l_p rfl rfl ?_
              refine l_p rfl rfl ?_
              refine l_p rfl rfl ?_
              refine l_p rfl rfl ?_
              refine l_p rfl rfl ?_
              refine l_p rfl rfl ?_
              refine l_p rfl rfl ?_
              refine l_p rfl rfl ?_
              refine l_p rfl rfl ?_
              refine l_p rfl rfl ?_
              refine l_p rfl rfl ?_
              refine l_p rfl rfl ?_
              refine l_p rfl rfl ?_
              refine l_l rfl rfl rfl ?_
              refine l_l rfl rfl rfl ?_
              refine l_l rfl rfl rfl ?_
              refine l_l rfl rfl rfl ?_
              refine l_sure true rfl rfl rfl rfl ?_
              refine l_l rfl rfl rfl ?_
              refine l_l rfl rfl rfl ?_
              refine l_sure false (light_nestr rfl rfl) rfl rfl rfl ?_
              refine l_l rfl rfl rfl ?_
              refine l_l rfl rfl rfl ?_
              refine l_sure false rfl rfl rfl rfl ?_
              refine l_l rfl rfl rfl ?_
              refine l_l rfl rfl rfl ?_
              refine l_l rfl rfl rfl ?_
              refine l_nil ?_
              refine c_false rfl ?_
              refine c_skip ?_
              refine c_region ?_
              refine l_as (v := (.int .i64 ((i + 1 : Nat) : Int))) rfl rfl rfl (congrArg _ (succ_law (by omega))) ?_
              refine l_l rfl rfl rfl ?_
              refine l_nil ?_
              exact ⟨(i + 1, addP P y, W, _, GP', GW), ⟨by (try simp only [decide_eq_true_eq, decide_eq_false_iff_not, beq_iff_eq, beq_eq_false_iff_ne, bne_iff_ne, bne_eq_false_iff_eq, ne_eq] at *); omega, hT', hH9, hV⟩, by (try simp only [decide_eq_true_eq, decide_eq_false_iff_not, beq_iff_eq, beq_eq_false_iff_ne, bne_iff_ne, bne_eq_false_iff_eq, ne_eq] at *); omega, .cons rfl (.cons rfl .nil), (by repeat (first | exact Agree.refl _ _ | exact Agree.mix rfl | refine Agree.put rfl ?_ | refine Agree.keep rfl ?_)), fun _ h => h⟩
            · refine c_region ?_
              refine l_l rfl rfl rfl ?_
              refine l_l rfl rfl rfl ?_
              refine l_l rfl rfl rfl ?_
              refine l_x (x_val call_19 rfl (fun w hw => findp_fn b25 (addP P y) hT'.srt hT'.ok hT'.len bank at_ hat w (hH9.namW hw (fun x hx => by repeat (first | exact hx | exact List.mem_append_left _ hx | refine List.mem_append_right _ ?_ | refine .tail _ ?_))))) rfl rfl ?_
              rintro _ _ ⟨rfl, rfl⟩
              rw [hF, show findV (some z) at_ = .tuple #[.string z.name, .int .u16 (at_ - z.at_), .bool true] from rfl]
              refine l_l rfl rfl rfl ?_
              refine l_l rfl rfl rfl ?_
              refine l_l rfl rfl rfl ?_
              refine l_l rfl rfl rfl ?_
              refine l_l rfl rfl rfl ?_
              refine l_l rfl rfl rfl ?_
              refine l_l rfl rfl rfl ?_
              refine l_nil ?_
              refine c_seq ?_
              refine c_region ?_
              refine l_l rfl rfl rfl ?_
              refine l_l rfl rfl rfl ?_
              refine l_l rfl rfl rfl ?_
              refine l_x (x_call call_20 rfl (fun w hw => rfind_fn _ _ W (by rw [hT'.wlen]; exact hT'.len) bank at_ w (hg8.els hw (fun x hx => by repeat (first | exact hx | exact List.mem_append_left _ hx | refine List.mem_append_right _ ?_ | refine .tail _ ?_))))) rfl rfl ?_
              rintro _ _ ⟨G78, ⟨rfl, o9, rfl, hO⟩, rfl⟩
              obtain ⟨j, rfl, hj⟩ := find_som hT' hat hO hF
              refine l_l rfl rfl rfl ?_
              refine l_nil ?_
              refine c_seq ?_
              have hzb := find_best hT' (bank := bank) hat
              rw [hF] at hzb
              have hza := hzb.2.1.2
              have hzo := (hT'.ok z hzb.1).1
              have hjl := (List.getElem?_eq_some_iff.1 hj).1
              have hVz : Vec 52 3 _ _ _ _ := hV
              obtain ⟨bo, co, so, hv9, rfl, hz9, hlc, hxc⟩ := hVz.full (by omega)
              cases hv9
              refine c_region ?_
              refine l_l rfl rfl rfl ?_
              refine l_l rfl rfl rfl ?_
              refine l_l rfl rfl rfl ?_
              refine l_sure false (light_neb rfl rfl rfl) rfl rfl rfl ?_
              refine l_l rfl rfl rfl ?_
              refine l_l rfl rfl rfl ?_
              refine l_sure true rfl rfl rfl (by simp) ?_
              refine l_l rfl rfl rfl ?_
              refine l_l rfl rfl rfl ?_
              refine l_l rfl rfl rfl ?_
              refine l_l rfl rfl rfl ?_
              refine l_l (idx_slice (s := 3) j rfl rfl rfl rfl (by (try simp only [decide_eq_true_eq, decide_eq_false_iff_not, beq_iff_eq, beq_eq_false_iff_ne, bne_iff_ne, bne_eq_false_iff_eq, ne_eq] at *); omega)) rfl rfl ?_
              refine l_l (light_fa rfl rfl) rfl rfl ?_
              refine l_x (x_load rfl rfl (fun w hw => (row_own (by repeat (first | exact .head _ | refine .tail _ ?_ | refine List.mem_append_right _ ?_)) w hw).left.at cN_len hj 2 rfl)) rfl rfl ?_
              rintro _ _ ⟨rfl, rfl⟩
              refine l_sure false (light_nestr (a := z.name.data.toList) (b := z.name.data.toList) rfl rfl) rfl rfl (by simp) ?_
              refine l_l rfl rfl rfl ?_
              refine l_l rfl rfl rfl ?_
              refine l_l rfl rfl rfl ?_
              refine l_l rfl rfl rfl ?_
              refine l_l rfl rfl rfl ?_
              refine l_l (idx_slice (s := 3) j rfl rfl rfl rfl (by (try simp only [decide_eq_true_eq, decide_eq_false_iff_not, beq_iff_eq, beq_eq_false_iff_ne, bne_iff_ne, bne_eq_false_iff_eq, ne_eq] at *); omega)) rfl rfl ?_
              refine l_l (light_fa rfl rfl) rfl rfl ?_
              refine l_x (x_load rfl rfl (fun w hw => (row_own (by repeat (first | exact .head _ | refine .tail _ ?_ | refine List.mem_append_right _ ?_)) w hw).left.at cN_len hj 1 rfl)) rfl rfl ?_
              rintro _ _ ⟨rfl, rfl⟩
              refine l_as (v := (.int .u16 (at_ - z.at_))) rfl rfl rfl (congrArg _ (wrap_u16_id (by omega) (by omega))) ?_
              refine l_sure false rfl rfl rfl (by simp) ?_
              refine l_l rfl rfl rfl ?_
              refine l_l rfl rfl rfl ?_
              refine l_l rfl rfl rfl ?_
              refine l_l rfl rfl rfl ?_
              refine l_l rfl rfl rfl ?_
              refine l_sure false rfl rfl rfl (by simp) ?_
              refine l_l rfl rfl rfl ?_
              refine l_p rfl rfl ?_
              refine l_p rfl rfl ?_
              refine l_p rfl rfl ?_
              refine l_p rfl rfl ?_
              refine l_p rfl rfl ?_
              refine l_p rfl rfl ?_
              refine l_l rfl rfl rfl ?_
              refine l_l rfl rfl rfl ?_
              refine l_nil ?_
              refine c_false rfl ?_
              refine c_skip ?_
              refine c_region ?_
              refine l_as (v := (.int .i64 ((i + 1 : Nat) : Int))) rfl rfl rfl (congrArg _ (succ_law (by omega))) ?_
              refine l_l rfl rfl rfl ?_
              refine l_nil ?_
              exact ⟨(i + 1, addP P y, W, _, GP', [(bo, _)]), ⟨by (try simp only [decide_eq_true_eq, decide_eq_false_iff_not, beq_iff_eq, beq_eq_false_iff_ne, bne_iff_ne, bne_eq_false_iff_eq, ne_eq] at *); omega, hT', hH9, hVz⟩, by (try simp only [decide_eq_true_eq, decide_eq_false_iff_not, beq_iff_eq, beq_eq_false_iff_ne, bne_iff_ne, bne_eq_false_iff_eq, ne_eq] at *); omega, .cons rfl (.cons rfl .nil), (by repeat (first | exact Agree.refl _ _ | exact Agree.mix rfl | refine Agree.put rfl ?_ | refine Agree.keep rfl ?_)), fun _ h => h⟩
          · refine c_region ?_
            refine l_l rfl rfl rfl ?_
            refine l_l rfl rfl rfl ?_
            refine l_l rfl rfl rfl ?_
            refine l_l (idx_slice (s := 3) i rfl rfl rfl rfl (by (try simp only [decide_eq_true_eq, decide_eq_false_iff_not, beq_iff_eq, beq_eq_false_iff_ne, bne_iff_ne, bne_eq_false_iff_eq, ne_eq] at *); omega)) rfl rfl ?_
            refine l_x (x_loadA rfl rfl rfl (row_old (hr.nth' cN_len hy) (by simp))) rfl rfl ?_
            rintro _ _ ⟨rfl, rfl⟩
            refine l_x (x_call call_17 rfl (fun w hw => radd_fn a8 c8 P W hT y hyo w (hg8.els hw (fun x hx => by repeat (first | exact hx | exact List.mem_append_left _ hx | refine List.mem_append_right _ ?_ | refine .tail _ ?_))))) rfl rfl ?_
            rintro v54 _ ⟨G54, hR, rfl⟩
            obtain ⟨u9, rfl, hV9⟩ := hR.yes he
            obtain ⟨a9, c9, rfl, _, hc9, hg9⟩ := hV9.gives cN_len (by decide)
            have hT' : Tw (addP P y) (W ++ [y]) := by
              have h9 := hT.step hyo
              rwa [addW_yes he] at h9
            refine l_heap (H' := GP' ++ (G54 ++ [])) (fun _ h => St.fl [G54, GP', GW, []] [1, 0, 3] rfl h) ?_
            refine l_l rfl rfl rfl ?_
            refine l_l rfl rfl rfl ?_
            refine l_l rfl rfl rfl ?_
            refine l_l rfl rfl rfl ?_
            refine l_l rfl rfl rfl ?_
            refine l_nil ?_
            refine c_seq ?_
            refine c_seq ?_
            refine c_region ?_
            refine l_l rfl rfl rfl ?_
            refine l_l rfl rfl rfl ?_
            refine l_sure false rfl rfl rfl (by rw [he]; rfl) ?_
            refine l_l rfl rfl rfl ?_
            refine l_l rfl rfl rfl ?_
            refine l_x (x_val call_18 rfl (fun w hw => nlenW_fn b25 _ w (hH9.namW hw (fun x hx => by repeat (first | exact hx | exact List.mem_append_left _ hx | refine List.mem_append_right _ ?_ | refine .tail _ ?_))))) rfl rfl ?_
            rintro _ _ ⟨rfl, rfl⟩
            refine l_l rfl rfl rfl ?_
            refine l_l (by first | exact light_len rfl rfl | exact light_lens rfl rfl | rfl) rfl rfl ?_
            refine l_sure false rfl rfl rfl (by rw [hT'.wlen]; simp) ?_
            refine l_l rfl rfl rfl ?_
            refine l_nil ?_
            refine c_false rfl ?_
            refine c_skip ?_
            refine c_seq ?_
            rcases hF : findN (addP P y) bank at_ with _ | z
            · refine c_region ?_
              refine l_l rfl rfl rfl ?_
              refine l_l rfl rfl rfl ?_
              refine l_l rfl rfl rfl ?_
              refine l_x (x_val call_19 rfl (fun w hw => findp_fn b25 (addP P y) hT'.srt hT'.ok hT'.len bank at_ hat w (hH9.namW hw (fun x hx => by repeat (first | exact hx | exact List.mem_append_left _ hx | refine List.mem_append_right _ ?_ | refine .tail _ ?_))))) rfl rfl ?_
              rintro _ _ ⟨rfl, rfl⟩
              rw [hF, show findV none at_ = .tuple #[.string (.mk #[]), .int .u16 0, .bool false] from rfl]
              refine l_l rfl rfl rfl ?_
              refine l_l rfl rfl rfl ?_
              refine l_l rfl rfl rfl ?_
              refine l_l rfl rfl rfl ?_
              refine l_l rfl rfl rfl ?_
              refine l_l rfl rfl rfl ?_
              refine l_l rfl rfl rfl ?_
              refine l_nil ?_
              refine c_seq ?_
              refine c_region ?_
              refine l_l rfl rfl rfl ?_
              refine l_l rfl rfl rfl ?_
              refine l_l rfl rfl rfl ?_
              refine l_x (x_call call_20 rfl (fun w hw => rfind_fn _ _ (W ++ [y]) (by rw [hT'.wlen]; exact hT'.len) bank at_ w (hg9.els hw (fun x hx => by repeat (first | exact hx | exact List.mem_append_left _ hx | refine List.mem_append_right _ ?_ | refine .tail _ ?_))))) rfl rfl ?_
              rintro _ _ ⟨G78, ⟨rfl, o9, rfl, hO⟩, rfl⟩
              obtain rfl := find_non hT' hat hO hF
              refine l_l rfl rfl rfl ?_
              refine l_nil ?_
              refine c_seq ?_
              refine c_region ?_
              refine l_l rfl rfl rfl ?_
              refine l_l rfl rfl rfl ?_
              refine l_l rfl rfl rfl ?_
              refine l_sure false (light_neb rfl rfl rfl) rfl rfl rfl ?_
              refine l_l rfl rfl rfl ?_
              refine l_l rfl rfl rfl ?_
              refine l_sure false rfl rfl rfl rfl ?_
              refine l_l rfl rfl rfl ?_
              refine l_p rfl rfl ?_
              refine l_p rfl rfl ?_
              refine l_p rfl rfl ?_
              refine l_p rfl rfl ?_
              refine l_p rfl rfl ?_
              refine l_p rfl rfl ?_
              refine l_p rfl rfl ?_
              refine l_p rfl rfl ?_
              refine l_p rfl rfl ?_
              refine l_p rfl rfl ?_
              refine l_p rfl rfl ?_
              refine l_p rfl rfl ?_
              refine l_p rfl rfl ?_
              refine l_p rfl rfl ?_
              refine l_p rfl rfl ?_
              refine l_p rfl rfl ?_
              refine l_p rfl rfl ?_
              refine l_p rfl rfl ?_
              refine l_l rfl rfl rfl ?_
              refine l_l rfl rfl rfl ?_
              refine l_l rfl rfl rfl ?_
              refine l_l rfl rfl rfl ?_
              refine l_sure true rfl rfl rfl rfl ?_
              refine l_l rfl rfl rfl ?_
              refine l_l rfl rfl rfl ?_
              refine l_sure false (light_nestr rfl rfl) rfl rfl rfl ?_
              refine l_l rfl rfl rfl ?_
              refine l_l rfl rfl rfl ?_
              refine l_sure false rfl rfl rfl rfl ?_
              refine l_l rfl rfl rfl ?_
              refine l_l rfl rfl rfl ?_
              refine l_l rfl rfl rfl ?_
              refine l_nil ?_
              refine c_false rfl ?_
              refine c_skip ?_
              refine c_region ?_
              refine l_as (v := (.int .i64 ((i + 1 : Nat) : Int))) rfl rfl rfl (congrArg _ (succ_law (by omega))) ?_
              refine l_l rfl rfl rfl ?_
              refine l_nil ?_
              exact ⟨(i + 1, addP P y, (W ++ [y]), _, GP', G54), ⟨by (try simp only [decide_eq_true_eq, decide_eq_false_iff_not, beq_iff_eq, beq_eq_false_iff_ne, bne_iff_ne, bne_eq_false_iff_eq, ne_eq] at *); omega, hT', hH9, hV9⟩, by (try simp only [decide_eq_true_eq, decide_eq_false_iff_not, beq_iff_eq, beq_eq_false_iff_ne, bne_iff_ne, bne_eq_false_iff_eq, ne_eq] at *); omega, .cons rfl (.cons rfl .nil), (by repeat (first | exact Agree.refl _ _ | exact Agree.mix rfl | refine Agree.put rfl ?_ | refine Agree.keep rfl ?_)), fun _ h => h⟩
            · refine c_region ?_
              refine l_l rfl rfl rfl ?_
              refine l_l rfl rfl rfl ?_
              refine l_l rfl rfl rfl ?_
              refine l_x (x_val call_19 rfl (fun w hw => findp_fn b25 (addP P y) hT'.srt hT'.ok hT'.len bank at_ hat w (hH9.namW hw (fun x hx => by repeat (first | exact hx | exact List.mem_append_left _ hx | refine List.mem_append_right _ ?_ | refine .tail _ ?_))))) rfl rfl ?_
              rintro _ _ ⟨rfl, rfl⟩
              rw [hF, show findV (some z) at_ = .tuple #[.string z.name, .int .u16 (at_ - z.at_), .bool true] from rfl]
              refine l_l rfl rfl rfl ?_
              refine l_l rfl rfl rfl ?_
              refine l_l rfl rfl rfl ?_
              refine l_l rfl rfl rfl ?_
              refine l_l rfl rfl rfl ?_
              refine l_l rfl rfl rfl ?_
              refine l_l rfl rfl rfl ?_
              refine l_nil ?_
              refine c_seq ?_
              refine c_region ?_
              refine l_l rfl rfl rfl ?_
              refine l_l rfl rfl rfl ?_
              refine l_l rfl rfl rfl ?_
              refine l_x (x_call call_20 rfl (fun w hw => rfind_fn _ _ (W ++ [y]) (by rw [hT'.wlen]; exact hT'.len) bank at_ w (hg9.els hw (fun x hx => by repeat (first | exact hx | exact List.mem_append_left _ hx | refine List.mem_append_right _ ?_ | refine .tail _ ?_))))) rfl rfl ?_
              rintro _ _ ⟨G78, ⟨rfl, o9, rfl, hO⟩, rfl⟩
              obtain ⟨j, rfl, hj⟩ := find_som hT' hat hO hF
              refine l_l rfl rfl rfl ?_
              refine l_nil ?_
              refine c_seq ?_
              have hzb := find_best hT' (bank := bank) hat
              rw [hF] at hzb
              have hza := hzb.2.1.2
              have hzo := (hT'.ok z hzb.1).1
              have hjl := (List.getElem?_eq_some_iff.1 hj).1
              have hVz : Vec 52 3 _ _ _ _ := hV9
              obtain ⟨bo, co, so, hv9, rfl, hz9, hlc, hxc⟩ := hVz.full (by omega)
              cases hv9
              refine c_region ?_
              refine l_l rfl rfl rfl ?_
              refine l_l rfl rfl rfl ?_
              refine l_l rfl rfl rfl ?_
              refine l_sure false (light_neb rfl rfl rfl) rfl rfl rfl ?_
              refine l_l rfl rfl rfl ?_
              refine l_l rfl rfl rfl ?_
              refine l_sure true rfl rfl rfl (by simp) ?_
              refine l_l rfl rfl rfl ?_
              refine l_l rfl rfl rfl ?_
              refine l_l rfl rfl rfl ?_
              refine l_l rfl rfl rfl ?_
              refine l_l (idx_slice (s := 3) j rfl rfl rfl rfl (by (try simp only [decide_eq_true_eq, decide_eq_false_iff_not, beq_iff_eq, beq_eq_false_iff_ne, bne_iff_ne, bne_eq_false_iff_eq, ne_eq] at *); omega)) rfl rfl ?_
              refine l_l (light_fa rfl rfl) rfl rfl ?_
              refine l_x (x_load rfl rfl (fun w hw => (row_own (by repeat (first | exact .head _ | refine .tail _ ?_ | refine List.mem_append_right _ ?_)) w hw).left.at cN_len hj 2 rfl)) rfl rfl ?_
              rintro _ _ ⟨rfl, rfl⟩
              refine l_sure false (light_nestr (a := z.name.data.toList) (b := z.name.data.toList) rfl rfl) rfl rfl (by simp) ?_
              refine l_l rfl rfl rfl ?_
              refine l_l rfl rfl rfl ?_
              refine l_l rfl rfl rfl ?_
              refine l_l rfl rfl rfl ?_
              refine l_l rfl rfl rfl ?_
              refine l_l (idx_slice (s := 3) j rfl rfl rfl rfl (by (try simp only [decide_eq_true_eq, decide_eq_false_iff_not, beq_iff_eq, beq_eq_false_iff_ne, bne_iff_ne, bne_eq_false_iff_eq, ne_eq] at *); omega)) rfl rfl ?_
              refine l_l (light_fa rfl rfl) rfl rfl ?_
              refine l_x (x_load rfl rfl (fun w hw => (row_own (by repeat (first | exact .head _ | refine .tail _ ?_ | refine List.mem_append_right _ ?_)) w hw).left.at cN_len hj 1 rfl)) rfl rfl ?_
              rintro _ _ ⟨rfl, rfl⟩
              refine l_as (v := (.int .u16 (at_ - z.at_))) rfl rfl rfl (congrArg _ (wrap_u16_id (by omega) (by omega))) ?_
              refine l_sure false rfl rfl rfl (by simp) ?_
              refine l_l rfl rfl rfl ?_
              refine l_l rfl rfl rfl ?_
              refine l_l rfl rfl rfl ?_
              refine l_l rfl rfl rfl ?_
              refine l_l rfl rfl rfl ?_
              refine l_sure false rfl rfl rfl (by simp) ?_
              refine l_l rfl rfl rfl ?_
              refine l_p rfl rfl ?_
              refine l_p rfl rfl ?_
              refine l_p rfl rfl ?_
              refine l_p rfl rfl ?_
              refine l_p rfl rfl ?_
              refine l_p rfl rfl ?_
              refine l_l rfl rfl rfl ?_
              refine l_l rfl rfl rfl ?_
              refine l_nil ?_
              refine c_false rfl ?_
              refine c_skip ?_
              refine c_region ?_
              refine l_as (v := (.int .i64 ((i + 1 : Nat) : Int))) rfl rfl rfl (congrArg _ (succ_law (by omega))) ?_
              refine l_l rfl rfl rfl ?_
              refine l_nil ?_
              exact ⟨(i + 1, addP P y, (W ++ [y]), _, GP', [(bo, _)]), ⟨by (try simp only [decide_eq_true_eq, decide_eq_false_iff_not, beq_iff_eq, beq_eq_false_iff_ne, bne_iff_ne, bne_eq_false_iff_eq, ne_eq] at *); omega, hT', hH9, hVz⟩, by (try simp only [decide_eq_true_eq, decide_eq_false_iff_not, beq_iff_eq, beq_eq_false_iff_ne, bne_iff_ne, bne_eq_false_iff_eq, ne_eq] at *); omega, .cons rfl (.cons rfl .nil), (by repeat (first | exact Agree.refl _ _ | exact Agree.mix rfl | refine Agree.put rfl ?_ | refine Agree.keep rfl ?_)), fun _ h => h⟩
        · refine c_exit rfl ?_
          refine c_seq ?_
          refine c_region ?_
          refine l_l rfl rfl rfl ?_
          refine l_nil ?_
          refine c_ret ?_
          exact l_end0 (fun _ _ => rets_v rfl) ⟨rfl, rfl⟩

end Go.Proofs.Ytmafgccagaihbaa
