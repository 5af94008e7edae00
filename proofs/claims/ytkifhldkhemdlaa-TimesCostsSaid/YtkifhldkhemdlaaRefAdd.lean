/- The contract of the reference's addition of a mark. -/
import Derived.Test.YtkifhldkhemdlaaRefs
import Derived.Test.YtkifhldkhemdlaaThin
import Derived.Test.YtkifhldkhemdlaaCalls
namespace Go.Proofs.Ytkifhldkhemdlaa
open Go Go.VV Go.Proofs
set_option linter.unusedSimpArgs false
set_option linter.unusedVariables false
set_option maxHeartbeats 8000000 in
theorem radd_fn (b : Nat) (cap : Int) (hcap : 2 ≤ cap) (hcap2 : cap ≤ 256) (lack : Bool) (ws : List Mark) (hR : Rise ws) (hlen : ws.length < 100000000) (x : Int) (hx : 0 ≤ x) (a : Option Addr) (c : Nat) (l : List Int) (hl : l.length ≤ 140737488355328) (G : Heap) (w : World)
    (hL : RLineH b cap lack ws G) (hst : St w (G.map (·.1)) G w) (hB : BytS w (G.map (·.1)) a l) (hc0 : a = none → c = 0) :
    Does Try.prog 16 [.pointer (some ⟨b, 0, none⟩), .int .u64 x, .slice a l.length c] w (G.map (·.1)) (RAdded b cap lack ws x l G) := by
  obtain ⟨v, G1, rfl, hV⟩ := hL
  obtain ⟨av, cv, rfl, hlv, hcv, hE⟩ := hV.gives cm_len (by decide)
  refine does_of Try.func16 rfl rfl rfl hst ?_
  refine c_seq ?_
  refine c_region ?_
  refine l_l rfl rfl rfl ?_
  refine l_nil ?_
  refine c_seq ?_
  refine c_region ?_
  refine l_l rfl rfl rfl ?_
  refine l_l rfl rfl rfl ?_
  refine l_l (light_fa rfl rfl) rfl rfl ?_
  refine l_x (x_load rfl rfl (at_own (by repeat (first | exact .head _ | refine .tail _ ?_ | refine List.mem_append_right _ ?_)) (by rfl))) rfl rfl ?_
  rintro _ _ ⟨rfl, rfl⟩
  refine l_l (by first | exact light_len rfl rfl | exact light_lens rfl rfl | rfl) rfl rfl ?_
  refine l_l rfl rfl rfl ?_
  refine l_nil ?_
  refine c_seq ?_
  refine c_seq ?_
  refine c_region ?_
  refine l_l rfl rfl rfl ?_
  refine l_l rfl rfl rfl ?_
  refine l_b rfl rfl rfl (fun h1 => ?_) (fun h1 => ?_)
  · refine l_p rfl rfl ?_
    refine l_p rfl rfl ?_
    refine l_p rfl rfl ?_
    refine l_p rfl rfl ?_
    refine l_p rfl rfl ?_
    refine l_p rfl rfl ?_
    refine l_l rfl rfl rfl ?_
    refine l_nil ?_
    refine c_true rfl ?_
    refine c_seq ?_
    refine c_region ?_
    refine l_l rfl rfl rfl ?_
    refine l_nil ?_
    refine c_ret ?_
    exact l_end (fun _ _ => rets_v rfl) (List.Sublist.refl _) ⟨congrArg _ (addErr_far (by (try simp only [decide_eq_true_eq, decide_eq_false_iff_not, beq_iff_eq, beq_eq_false_iff_ne, bne_iff_ne, bne_eq_false_iff_eq, ne_eq] at *); omega)).symm, .inl ⟨by rw [addErr_far (by (try simp only [decide_eq_true_eq, decide_eq_false_iff_not, beq_iff_eq, beq_eq_false_iff_ne, bne_iff_ne, bne_eq_false_iff_eq, ne_eq] at *); omega)]; decide, rfl⟩⟩
  · refine l_l rfl rfl rfl ?_
    refine l_l rfl rfl rfl ?_
    refine l_b rfl rfl rfl (fun h2 => ?_) (fun h2 => ?_)
    · refine l_l rfl rfl rfl ?_
      refine l_l rfl rfl rfl ?_
      refine l_l rfl rfl rfl ?_
      refine l_l rfl rfl rfl ?_
      refine l_nil ?_
      refine c_cond rfl (fun h3 => ?_) (fun h3 => ?_)
      · refine c_seq ?_
        refine c_region ?_
        refine l_l rfl rfl rfl ?_
        refine l_nil ?_
        refine c_ret ?_
        exact l_end (fun _ _ => rets_v rfl) (List.Sublist.refl _) ⟨congrArg _ (addErr_first (by (try simp only [decide_eq_true_eq, decide_eq_false_iff_not, beq_iff_eq, beq_eq_false_iff_ne, bne_iff_ne, bne_eq_false_iff_eq, ne_eq] at *); omega) (by (try simp only [decide_eq_true_eq, decide_eq_false_iff_not, beq_iff_eq, beq_eq_false_iff_ne, bne_iff_ne, bne_eq_false_iff_eq, ne_eq] at *); omega) (by (try simp only [decide_eq_true_eq, decide_eq_false_iff_not, beq_iff_eq, beq_eq_false_iff_ne, bne_iff_ne, bne_eq_false_iff_eq, ne_eq] at *); omega)).symm, .inl ⟨by rw [addErr_first (by (try simp only [decide_eq_true_eq, decide_eq_false_iff_not, beq_iff_eq, beq_eq_false_iff_ne, bne_iff_ne, bne_eq_false_iff_eq, ne_eq] at *); omega) (by (try simp only [decide_eq_true_eq, decide_eq_false_iff_not, beq_iff_eq, beq_eq_false_iff_ne, bne_iff_ne, bne_eq_false_iff_eq, ne_eq] at *); omega) (by (try simp only [decide_eq_true_eq, decide_eq_false_iff_not, beq_iff_eq, beq_eq_false_iff_ne, bne_iff_ne, bne_eq_false_iff_eq, ne_eq] at *); omega)]; decide, rfl⟩⟩
      · refine c_skip ?_
        refine c_seq ?_
        refine c_seq ?_
        refine c_region ?_
        refine l_l rfl rfl rfl ?_
        refine l_l rfl rfl rfl ?_
        refine l_b rfl rfl rfl (fun h4 => ?_) (fun h4 => ?_)
        · refine l_l rfl rfl rfl ?_
          refine l_l rfl rfl rfl ?_
          refine l_l rfl rfl rfl ?_
          refine l_l (light_fa rfl rfl) rfl rfl ?_
          refine l_x (x_load rfl rfl (at_own (by repeat (first | exact .head _ | refine .tail _ ?_ | refine List.mem_append_right _ ?_)) (by rfl))) rfl rfl ?_
          rintro _ _ ⟨rfl, rfl⟩
          refine l_l rfl rfl rfl ?_
          refine l_as (v := (.int .i64 ((ws.length - 1 : Nat) : Int))) rfl rfl rfl (congrArg _ (len1 (by (try simp only [decide_eq_true_eq, decide_eq_false_iff_not, beq_iff_eq, beq_eq_false_iff_ne, bne_iff_ne, bne_eq_false_iff_eq, ne_eq] at *); omega) (by (try simp only [decide_eq_true_eq, decide_eq_false_iff_not, beq_iff_eq, beq_eq_false_iff_ne, bne_iff_ne, bne_eq_false_iff_eq, ne_eq] at *); omega))) ?_
          obtain ⟨br, off, rfl, hr⟩ := hE (by (try simp only [decide_eq_true_eq, decide_eq_false_iff_not, beq_iff_eq, beq_eq_false_iff_ne, bne_iff_ne, bne_eq_false_iff_eq, ne_eq] at *); omega)
          refine l_l (idx_slice (ws.length - 1) rfl rfl rfl rfl (by (try simp only [decide_eq_true_eq, decide_eq_false_iff_not, beq_iff_eq, beq_eq_false_iff_ne, bne_iff_ne, bne_eq_false_iff_eq, ne_eq] at *); omega)) rfl rfl ?_
          refine l_l (light_fa rfl rfl) rfl rfl ?_
          refine l_x (x_load rfl rfl (fun w hw => last_at (by (try simp only [decide_eq_true_eq, decide_eq_false_iff_not, beq_iff_eq, beq_eq_false_iff_ne, bne_iff_ne, bne_eq_false_iff_eq, ne_eq] at *); omega) (hr w (fun x hx => hw.holds x (.tail _ hx))))) rfl rfl ?_
          rintro _ _ ⟨rfl, rfl⟩
          refine l_l rfl rfl rfl ?_
          refine l_l rfl rfl rfl ?_
          refine l_nil ?_
          refine c_cond rfl (fun h5 => ?_) (fun h5 => ?_)
          · refine c_seq ?_
            refine c_region ?_
            refine l_l rfl rfl rfl ?_
            refine l_nil ?_
            refine c_ret ?_
            exact l_end (fun _ _ => rets_v rfl) (List.Sublist.refl _) ⟨congrArg _ (addErr_same (by (try simp only [decide_eq_true_eq, decide_eq_false_iff_not, beq_iff_eq, beq_eq_false_iff_ne, bne_iff_ne, bne_eq_false_iff_eq, ne_eq] at *); omega) (by (try simp only [decide_eq_true_eq, decide_eq_false_iff_not, beq_iff_eq, beq_eq_false_iff_ne, bne_iff_ne, bne_eq_false_iff_eq, ne_eq] at *); omega) (by (try simp only [decide_eq_true_eq, decide_eq_false_iff_not, beq_iff_eq, beq_eq_false_iff_ne, bne_iff_ne, bne_eq_false_iff_eq, ne_eq] at *); omega)).symm, .inl ⟨by rw [addErr_same (by (try simp only [decide_eq_true_eq, decide_eq_false_iff_not, beq_iff_eq, beq_eq_false_iff_ne, bne_iff_ne, bne_eq_false_iff_eq, ne_eq] at *); omega) (by (try simp only [decide_eq_true_eq, decide_eq_false_iff_not, beq_iff_eq, beq_eq_false_iff_ne, bne_iff_ne, bne_eq_false_iff_eq, ne_eq] at *); omega) (by (try simp only [decide_eq_true_eq, decide_eq_false_iff_not, beq_iff_eq, beq_eq_false_iff_ne, bne_iff_ne, bne_eq_false_iff_eq, ne_eq] at *); omega)]; decide, rfl⟩⟩
          · refine c_skip ?_
            refine c_cut (σ := RS) [40, 41, 42, 43, 44, 45, 46, 47, 48, 49, 50, 51, 52, 53, 54, 55] (fun s => []) (fun s => (b, blk [s.v, .int .i64 cap, .bool lack] 47) :: (s.G ++ s.D)) (fun s => l.length ≤ s.c ∧ Vec 60 2 s.v (ws ++ [Mark.mk x s.am s.c l]).length (flat cm (ws ++ [Mark.mk x s.am s.c l])) s.G ∧ Byt l (.slice s.am l.length s.c) s.D) ?_ ?_
            · obtain ⟨bv, cpv, spv, hv9, hG9, hzv, hlv2, hxv⟩ := vec_some hV (by (try simp only [decide_eq_true_eq, decide_eq_false_iff_not, beq_iff_eq, beq_eq_false_iff_ne, bne_iff_ne, bne_eq_false_iff_eq, ne_eq] at *); omega)
              rcases hB with ⟨rfl, rfl⟩ | ⟨bd, od, rfl, hbd, hrd⟩
              · refine c_region ?_
                cases hv9
                subst hG9
                obtain rfl := hc0 rfl
                refine l_l rfl rfl rfl ?_
                refine l_x (x_slc0 (el := 60) (n := 2) rfl) rfl rfl ?_
                rintro _ _ ⟨b41, rfl, rfl⟩
                refine l_l rfl rfl rfl ?_
                refine l_l rfl rfl rfl ?_
                refine l_l (light_fa rfl rfl) rfl rfl ?_
                refine l_x (x_load rfl rfl (at_own (by repeat (first | exact .head _ | refine .tail _ ?_ | refine List.mem_append_right _ ?_)) (by rfl))) rfl rfl ?_
                rintro _ _ ⟨rfl, rfl⟩
                refine l_x (x_append (A := []) (G := [(b41, blk [] 60)]) (R := _) (v := .slice (some ⟨b41, 0, none⟩) 0 0) (n := 0) (xs := []) (m := ws.length) (T := 60) (s := 2) (by_ := 32) (ys := flat cm ws) rfl rfl rfl rfl (.row b41 0 0 [] [] rfl rfl (by decide) (Nat.le_refl 0)) (fun w hw => .row _ _ _ _ _ (flat_len cm_len ws) (row_own (by repeat (first | exact .head _ | refine .tail _ ?_ | refine List.mem_append_right _ ?_)) w hw).left) (ones_flat _) (by omega) (by omega)) rfl rfl ?_
                rintro v46 _ ⟨G46, hV46, hn46, rfl⟩
                refine l_l rfl rfl rfl ?_
                refine l_x (x_slc0 (el := 5) (n := 1) rfl) rfl rfl ?_
                rintro _ _ ⟨b48, rfl, rfl⟩
                refine l_l rfl rfl rfl ?_
                refine l_x (x_append0 rfl rfl rfl rfl (Nat.le_refl 0)) rfl rfl ?_
                rintro _ _ ⟨rfl, rfl⟩
                refine l_l (light_struct rfl rfl rfl rfl) rfl rfl ?_
                refine l_x (x_slc rfl rfl rfl rfl rfl rfl) rfl rfl ?_
                rintro _ _ ⟨b52, rfl, rfl⟩
                refine l_x (x_append (A := (b52, blk (cm (Mark.mk x (some ⟨b48, 0, none⟩) 0 [])) 60) :: [(b48, blk [] 5)]) (G := G46) (R := _) (v := v46) (n := 0 + ws.length) (m := 1) (T := 60) (s := 2) (by_ := 32) (ys := cm (Mark.mk x (some ⟨b48, 0, none⟩) 0 [])) rfl rfl rfl rfl hV46 (fun w hw => .row _ _ _ _ _ rfl (row_own (.head _) w hw)) rfl (by omega) (by omega)) rfl rfl ?_
                rintro v53 _ ⟨G53, hV53, hn53, rfl⟩
                refine l_heap (H' := (b, _) :: (G53 ++ [(b48, blk [] 5)])) (fun _ h => St.fl [G53, [_], [(b48, blk [] 5)], [_], [_]] [3, 0, 2] rfl h) ?_
                obtain ⟨a53, c53, rfl⟩ := hV53.slice
                refine l_l rfl rfl rfl ?_
                refine l_l (light_fa rfl rfl) rfl rfl ?_
                refine l_x (by first | exact x_store 0 rfl rfl rfl rfl rfl rfl (by first | rfl | exact Nat.le_of_ble_eq_true rfl | (simp; done)) | exact x_store 1 rfl rfl rfl rfl rfl rfl (by first | rfl | exact Nat.le_of_ble_eq_true rfl | (simp; done)) | exact x_store 2 rfl rfl rfl rfl rfl rfl (by first | rfl | exact Nat.le_of_ble_eq_true rfl | (simp; done)) | exact x_store 3 rfl rfl rfl rfl rfl rfl (by first | rfl | exact Nat.le_of_ble_eq_true rfl | (simp; done))) rfl rfl ?_
                rintro _ _ ⟨rfl, rfl⟩
                refine l_nil ?_
                exact ⟨RS.mk (some ⟨b48, 0, none⟩) 0 _ G53 ([(b48, blk [] 5)]), ⟨Nat.le_refl 0, vec_as hV53 (by simp) (by rw [flat_snoc, List.nil_append]), (.row b48 0 0 [] [] rfl rfl (by decide) (Nat.le_refl 0))⟩, .nil, (by repeat (first | exact Agree.refl _ _ | exact Agree.mix rfl | refine Agree.put rfl ?_ | refine Agree.keep rfl ?_)), fun _ h => h⟩
              · refine c_region ?_
                cases hv9
                subst hG9
                refine l_l rfl rfl rfl ?_
                refine l_x (x_slc0 (el := 60) (n := 2) rfl) rfl rfl ?_
                rintro _ _ ⟨b41, rfl, rfl⟩
                refine l_l rfl rfl rfl ?_
                refine l_l rfl rfl rfl ?_
                refine l_l (light_fa rfl rfl) rfl rfl ?_
                refine l_x (x_load rfl rfl (at_own (by repeat (first | exact .head _ | refine .tail _ ?_ | refine List.mem_append_right _ ?_)) (by rfl))) rfl rfl ?_
                rintro _ _ ⟨rfl, rfl⟩
                refine l_x (x_append (A := []) (G := [(b41, blk [] 60)]) (R := _) (v := .slice (some ⟨b41, 0, none⟩) 0 0) (n := 0) (xs := []) (m := ws.length) (T := 60) (s := 2) (by_ := 32) (ys := flat cm ws) rfl rfl rfl rfl (.row b41 0 0 [] [] rfl rfl (by decide) (Nat.le_refl 0)) (fun w hw => .row _ _ _ _ _ (flat_len cm_len ws) (row_own (by repeat (first | exact .head _ | refine .tail _ ?_ | refine List.mem_append_right _ ?_)) w hw).left) (ones_flat _) (by omega) (by omega)) rfl rfl ?_
                rintro v46 _ ⟨G46, hV46, hn46, rfl⟩
                refine l_l rfl rfl rfl ?_
                refine l_x (x_slc0 (el := 5) (n := 1) rfl) rfl rfl ?_
                rintro _ _ ⟨b48, rfl, rfl⟩
                refine l_l rfl rfl rfl ?_
                refine l_x (x_append (A := []) (G := [(b48, blk [] 5)]) (R := _) (v := .slice (some ⟨b48, 0, none⟩) 0 0) (n := 0) (xs := []) (m := l.length) (T := 5) (s := 1) (by_ := 1) (ys := l.map (.int .u8)) rfl rfl rfl rfl (.row b48 0 0 [] [] rfl rfl (by decide) (Nat.le_refl 0)) (fun w hw => .row _ _ _ _ _ (by simp : (l.map (Value.int .u8)).length = l.length * 1) (row_old hrd hbd w hw)) (ones_int _ _) (by omega) (by omega)) rfl rfl ?_
                rintro v50 _ ⟨G50, hV50, hn50, rfl⟩
                rw [Nat.zero_add, List.nil_append] at hV50
                obtain ⟨a50, c50, rfl, hc50, hB50⟩ := Byt.slice hV50
                refine l_l (light_struct rfl rfl rfl rfl) rfl rfl ?_
                refine l_x (x_slc rfl rfl rfl rfl rfl rfl) rfl rfl ?_
                rintro _ _ ⟨b52, rfl, rfl⟩
                refine l_x (x_append (A := (b52, blk (cm (Mark.mk x a50 c50 l)) 60) :: G50) (G := G46) (R := _) (v := v46) (n := 0 + ws.length) (m := 1) (T := 60) (s := 2) (by_ := 32) (ys := cm (Mark.mk x a50 c50 l)) rfl rfl rfl rfl hV46 (fun w hw => .row _ _ _ _ _ rfl (row_own (.head _) w hw)) rfl (by omega) (by omega)) rfl rfl ?_
                rintro v53 _ ⟨G53, hV53, hn53, rfl⟩
                refine l_heap (H' := (b, _) :: (G53 ++ G50)) (fun _ h => St.fl [G53, [_], G50, [_], [_]] [3, 0, 2] rfl h) ?_
                obtain ⟨a53, c53, rfl⟩ := hV53.slice
                refine l_l rfl rfl rfl ?_
                refine l_l (light_fa rfl rfl) rfl rfl ?_
                refine l_x (by first | exact x_store 0 rfl rfl rfl rfl rfl rfl (by first | rfl | exact Nat.le_of_ble_eq_true rfl | (simp; done)) | exact x_store 1 rfl rfl rfl rfl rfl rfl (by first | rfl | exact Nat.le_of_ble_eq_true rfl | (simp; done)) | exact x_store 2 rfl rfl rfl rfl rfl rfl (by first | rfl | exact Nat.le_of_ble_eq_true rfl | (simp; done)) | exact x_store 3 rfl rfl rfl rfl rfl rfl (by first | rfl | exact Nat.le_of_ble_eq_true rfl | (simp; done))) rfl rfl ?_
                rintro _ _ ⟨rfl, rfl⟩
                refine l_nil ?_
                exact ⟨RS.mk a50 c50 _ G53 (G50), ⟨hc50, vec_as hV53 (by simp) (by rw [flat_snoc, List.nil_append]), hV50⟩, .nil, (by repeat (first | exact Agree.refl _ _ | exact Agree.mix rfl | refine Agree.put rfl ?_ | refine Agree.keep rfl ?_)), fun _ h => h⟩
            · rintro ⟨am, cc, v, G, D⟩ y6 ⟨g1, hV, hVD⟩
              dsimp only at g1 hV hVD ⊢
              refine c_seq ?_
              refine c_seq ?_
              have hok : addErr ws x = 0 := addErr_ok (by (try simp only [decide_eq_true_eq, decide_eq_false_iff_not, beq_iff_eq, beq_eq_false_iff_ne, bne_iff_ne, bne_eq_false_iff_eq, ne_eq] at *); omega) (fun hz' => by (try simp only [decide_eq_true_eq, decide_eq_false_iff_not, beq_iff_eq, beq_eq_false_iff_ne, bne_iff_ne, bne_eq_false_iff_eq, ne_eq] at *); omega) (fun hz' => by (try simp only [decide_eq_true_eq, decide_eq_false_iff_not, beq_iff_eq, beq_eq_false_iff_ne, bne_iff_ne, bne_eq_false_iff_eq, ne_eq] at *); omega)
              obtain ⟨av2, cv2, rfl⟩ := hV.slice
              refine c_region ?_
              refine l_l rfl rfl rfl ?_
              refine l_l rfl rfl rfl ?_
              refine l_l (light_fa rfl rfl) rfl rfl ?_
              refine l_x (x_load rfl rfl (at_own (by repeat (first | exact .head _ | refine .tail _ ?_ | refine List.mem_append_right _ ?_)) (by rfl))) rfl rfl ?_
              rintro _ _ ⟨rfl, rfl⟩
              refine l_l (by first | exact light_len rfl rfl | exact light_lens rfl rfl | rfl) rfl rfl ?_
              refine l_as (v := (.int .i64 ((ws.length : Int) - 1))) rfl rfl rfl (congrArg _ (by rw [List.length_append, List.length_singleton, wrap_i64 (by omega) (by omega)]; omega)) ?_
              refine l_l rfl rfl rfl ?_
              refine l_nil ?_
              refine c_block ?_
              refine c_loop (σ := RT) [8, 9, 62, 63, 64, 65, 66, 67, 68, 69, 70, 71, 72, 73, 74, 75, 76, 77, 78, 79, 80, 81, 82, 83, 84, 85, 86, 87, 88, 89, 90, 91, 92, 93, 94, 95, 96, 97, 98, 99, 100, 101, 102, 103, 104, 105, 106, 107] (fun s => [(8, .int .i64 ((s.A.length : Int) - 1))]) (fun s => (b, blk [s.v, .int .i64 cap, .bool lack] 47) :: (s.G ++ D)) (fun s => RI (thinL (ws ++ [Mark.mk x am cc l])) x s.A s.K ∧ Vec 60 2 s.v (s.A ++ s.K).length (flat cm (s.A ++ s.K)) s.G ∧ (s.A ++ s.K).length ≤ ws.length + 1) (fun s => s.A.length) ⟨ws, [Mark.mk x am cc l], .slice av2 (ws ++ [Mark.mk x am cc l]).length cv2, G⟩ ?_ ?_ ?_ ?_
              · exact ⟨RI.start (rise_snoc hR hx (by (try simp only [decide_eq_true_eq, decide_eq_false_iff_not, beq_iff_eq, beq_eq_false_iff_ne, bne_iff_ne, bne_eq_false_iff_eq, ne_eq] at *); omega) (fun _ => by (try simp only [decide_eq_true_eq, decide_eq_false_iff_not, beq_iff_eq, beq_eq_false_iff_ne, bne_iff_ne, bne_eq_false_iff_eq, ne_eq] at *); omega)), hV, by simp⟩
              · exact .cons rfl .nil
              · exact fun _ h => h
              · rintro ⟨A, K, v, G⟩ y8 ⟨hI, hV, hln⟩
                dsimp only at hI hV hln ⊢
                have hln2 : A.length + K.length ≤ ws.length + 1 := by rw [← List.length_append]; exact hln
                refine c_seq ?_
                refine c_seq ?_
                refine c_region ?_
                refine l_l rfl rfl rfl ?_
                refine l_l rfl rfl rfl ?_
                refine l_nil ?_
                refine c_cond rfl (fun h6 => ?_) (fun h6 => ?_)
                · refine c_skip ?_
                  refine c_seq ?_
                  refine c_block ?_
                  refine c_seq ?_
                  have hA : 2 ≤ A.length := by (try simp only [decide_eq_true_eq, decide_eq_false_iff_not, beq_iff_eq, beq_eq_false_iff_ne, bne_iff_ne, bne_eq_false_iff_eq, ne_eq] at *); omega
                  obtain ⟨bv, cpv, spv, rfl, rfl, hzv, hlv, hxv⟩ := vec_some hV (by rw [List.length_append]; have := hI.pos; omega)
                  refine c_draw _ [4, 5, 9, 10, 11, 12, 13, 14, 15, 16, 17] (.step true 0 (.step true 1 (.step true 2 (.step true 3 (.step true 4 (.step true 5 (.step true 6 (.step true 7 (.step true 8 (.step true 9 (.step true 10 (.step true 11 (.step true 12 (.step true 13 (.step true 14 (.step true 15 (.step true 16 (.step true 17 (.step true 18 (.step true 19 .done)))))))))))))))))))) rfl (by kernel_rfl) (by kernel_rfl) (fun _ h => h) ?_
                  refine d_light rfl rfl rfl rfl rfl ?_
                  refine d_light rfl rfl rfl rfl rfl ?_
                  refine d_light rfl (light_fa rfl rfl) rfl rfl rfl ?_
                  refine d_load rfl rfl rfl (s_own (by repeat (first | exact .head _ | refine .tail _ ?_ | refine List.mem_append_right _ ?_)) (by rfl)) rfl rfl ?_
                  refine d_light rfl rfl rfl rfl rfl ?_
                  refine d_as (v := (.int .i64 (A.length : Nat))) rfl rfl rfl rfl rfl (congrArg _ (by rw [wrap_i64 (by omega) (by omega)]; omega)) ?_
                  refine d_light rfl (idx_slice A.length rfl rfl rfl rfl (by rw [List.length_append]; have := hI.pos; omega)) rfl rfl rfl ?_
                  refine d_light rfl (light_fa rfl rfl) rfl rfl rfl ?_
                  refine d_load rfl rfl rfl (fun w hw => mark_t (srow_own (by repeat (first | exact .head _ | refine .tail _ ?_ | refine List.mem_append_right _ ?_)) w hw).left (by rw [List.length_append]; have := hI.pos; omega)) rfl rfl ?_
                  refine d_light rfl rfl rfl rfl rfl ?_
                  refine d_light rfl rfl rfl rfl rfl ?_
                  refine d_light rfl (light_fa rfl rfl) rfl rfl rfl ?_
                  refine d_load rfl rfl rfl (s_own (by repeat (first | exact .head _ | refine .tail _ ?_ | refine List.mem_append_right _ ?_)) (by rfl)) rfl rfl ?_
                  refine d_light rfl rfl rfl rfl rfl ?_
                  refine d_as (v := (.int .i64 ((A.length - 2 : Nat) : Int))) rfl rfl rfl rfl rfl (congrArg _ (by rw [wrap_i64 (by omega) (by omega)]; omega)) ?_
                  refine d_light rfl (idx_slice (A.length - 2) rfl rfl rfl rfl (by rw [List.length_append]; have := hI.pos; omega)) rfl rfl rfl ?_
                  refine d_light rfl (light_fa rfl rfl) rfl rfl rfl ?_
                  refine d_load rfl rfl rfl (fun w hw => mark_t (srow_own (by repeat (first | exact .head _ | refine .tail _ ?_ | refine List.mem_append_right _ ?_)) w hw).left (by rw [List.length_append]; have := hI.pos; omega)) rfl rfl ?_
                  refine d_light rfl rfl rfl rfl rfl ?_
                  refine d_light rfl rfl rfl rfl rfl ?_
                  refine d_nil ?_
                  refine c_seq ?_
                  refine c_region ?_
                  refine l_l rfl rfl rfl ?_
                  refine l_l rfl rfl rfl ?_
                  refine l_l rfl rfl rfl ?_
                  refine l_l rfl rfl rfl ?_
                  refine l_l rfl rfl rfl ?_
                  refine l_l (light_fa rfl rfl) rfl rfl ?_
                  refine l_x (x_load rfl rfl (at_own (by repeat (first | exact .head _ | refine .tail _ ?_ | refine List.mem_append_right _ ?_)) (by rfl))) rfl rfl ?_
                  rintro _ _ ⟨rfl, rfl⟩
                  refine l_l rfl rfl rfl ?_
                  refine l_as (v := (.int .i64 (A.length : Nat))) rfl rfl rfl (congrArg _ (by rw [wrap_i64 (by omega) (by omega)]; omega)) ?_
                  refine l_l (idx_slice A.length rfl rfl rfl rfl (by rw [List.length_append]; have := hI.pos; omega)) rfl rfl ?_
                  refine l_l (light_fa rfl rfl) rfl rfl ?_
                  refine l_x (x_load rfl rfl (fun w hw => mark_t (row_own (by repeat (first | exact .head _ | refine .tail _ ?_ | refine List.mem_append_right _ ?_)) w hw).left (by rw [List.length_append]; have := hI.pos; omega))) rfl rfl ?_
                  rintro _ _ ⟨rfl, rfl⟩
                  refine l_l rfl rfl rfl ?_
                  refine l_l rfl rfl rfl ?_
                  refine l_nil ?_
                  refine c_cond rfl (fun h7 => ?_) (fun h7 => ?_)
                  · have hdr := hI.drop hA (of_decide_eq_true ((rcond hI hA).symm.trans h7))
                    refine c_region ?_
                    refine l_l rfl rfl rfl ?_
                    refine l_l rfl rfl rfl ?_
                    refine l_l rfl rfl rfl ?_
                    refine l_l (light_fa rfl rfl) rfl rfl ?_
                    refine l_x (x_load rfl rfl (at_own (by repeat (first | exact .head _ | refine .tail _ ?_ | refine List.mem_append_right _ ?_)) (by rfl))) rfl rfl ?_
                    rintro _ _ ⟨rfl, rfl⟩
                    refine l_as (v := (.int .i64 ((A.length - 1 : Nat) : Int))) rfl rfl rfl (congrArg _ (by omega)) ?_
                    refine l_x (x_call call_24 rfl (fun w hw => without_fn _ cpv (A ++ K) (A.length - 1) (by rw [List.length_append]; have := hI.pos; omega) hlv (by omega) w (fun _ => ⟨_, _, rfl, (row_own (by repeat (first | exact .head _ | refine .tail _ ?_ | refine List.mem_append_right _ ?_)) w hw).left⟩))) rfl rfl ?_
                    rintro v105 _ ⟨G105, hV105, rfl⟩
                    rw [hdr.2] at hV105
                    obtain ⟨b105, c105, sp105, rfl, rfl, hz105, hl105, hx105⟩ := vec_some hV105 (by rw [List.length_append]; have := hI.pos; omega)
                    refine l_l rfl rfl rfl ?_
                    refine l_l (light_fa rfl rfl) rfl rfl ?_
                    refine l_x (by first | exact x_store 0 rfl rfl rfl rfl rfl rfl (by first | rfl | exact Nat.le_of_ble_eq_true rfl | (simp; done)) | exact x_store 1 rfl rfl rfl rfl rfl rfl (by first | rfl | exact Nat.le_of_ble_eq_true rfl | (simp; done)) | exact x_store 2 rfl rfl rfl rfl rfl rfl (by first | rfl | exact Nat.le_of_ble_eq_true rfl | (simp; done)) | exact x_store 3 rfl rfl rfl rfl rfl rfl (by first | rfl | exact Nat.le_of_ble_eq_true rfl | (simp; done))) rfl rfl ?_
                    rintro _ _ ⟨rfl, rfl⟩
                    refine l_nil ?_
                    refine c_region ?_
                    refine l_l rfl rfl rfl ?_
                    refine l_l rfl rfl rfl ?_
                    refine l_l rfl rfl rfl ?_
                    refine l_nil ?_
                    exact ⟨⟨A.dropLast, K, _, _⟩, ⟨hdr.1, vec_m60 hz105 hl105 hx105, by dsimp only; simp only [List.length_append, List.length_dropLast]; omega⟩, by dsimp only; rw [List.length_dropLast]; omega, .cons (congrArg _ (down_law hA (by omega))) .nil, (by repeat (first | exact Agree.refl _ _ | exact Agree.mix rfl | refine Agree.put rfl ?_ | refine Agree.keep rfl ?_)), fun _ h => St.fl [[_], [_], [_], D] [1, 0, 3] rfl h⟩
                  · refine c_skip ?_
                    refine c_region ?_
                    refine l_l rfl rfl rfl ?_
                    refine l_l rfl rfl rfl ?_
                    refine l_l rfl rfl rfl ?_
                    refine l_nil ?_
                    obtain ⟨m9, hI9, he9⟩ := hI.keep hA (of_decide_eq_false ((rcond hI hA).symm.trans h7))
                    exact ⟨⟨A.dropLast, m9 :: K, _, _⟩, ⟨hI9, by rw [← he9]; exact vec_m60 hzv hlv hxv, by rw [← he9]; exact hln⟩, by dsimp only; rw [List.length_dropLast]; omega, .cons (congrArg _ (down_law hA (by omega))) .nil, (by repeat (first | exact Agree.refl _ _ | exact Agree.mix rfl | refine Agree.put rfl ?_ | refine Agree.keep rfl ?_)), fun _ h => h⟩
                · refine c_exit rfl ?_
                  refine c_seq ?_
                  refine c_block ?_
                  refine c_loop (σ := RU) [108, 109, 110, 111, 112, 113, 114, 115, 116, 117, 118, 119, 120, 121, 122, 123, 124, 125, 126, 127, 128] (fun s => []) (fun s => (b, blk [s.v, .int .i64 cap, .bool s.lk] 47) :: (s.G ++ D)) (fun s => CI cap.toNat (thinL (ws ++ [Mark.mk x am cc l])) lack s.ws s.lk ∧ Vec 60 2 s.v s.ws.length (flat cm s.ws) s.G ∧ s.ws.length ≤ ws.length + 1) (fun s => s.ws.length) ⟨A ++ K, v, G, lack⟩ ?_ ?_ ?_ ?_
                  · exact (by have htt := hI.done (by (try simp only [decide_eq_true_eq, decide_eq_false_iff_not, beq_iff_eq, beq_eq_false_iff_ne, bne_iff_ne, bne_eq_false_iff_eq, ne_eq] at *); omega); dsimp only; rw [htt]; exact ⟨.start (by have := hI.pos; rw [List.length_append]; omega), hV, hln⟩)
                  · exact .nil
                  · exact fun _ h => h
                  · rintro ⟨cur, v, G, lk⟩ y13 ⟨hC, hV, hln⟩
                    dsimp only at hC hV hln ⊢
                    refine c_seq ?_
                    refine c_seq ?_
                    obtain ⟨bv, cpv, spv, rfl, rfl, hzv, hlv, hxv⟩ := vec_some hV (by have := hC.pos; omega)
                    refine c_draw _ [5, 6, 7, 8] (.step true 0 (.step true 1 (.step true 2 (.step true 3 (.step true 4 (.step true 5 (.step true 6 (.step true 7 (.step true 8 (.step true 9 .done)))))))))) rfl (by kernel_rfl) (by kernel_rfl) (fun _ h => h) ?_
                    refine d_light rfl rfl rfl rfl rfl ?_
                    refine d_light rfl rfl rfl rfl rfl ?_
                    refine d_light rfl (light_fa rfl rfl) rfl rfl rfl ?_
                    refine d_load rfl rfl rfl (s_own (by repeat (first | exact .head _ | refine .tail _ ?_ | refine List.mem_append_right _ ?_)) (by rfl)) rfl rfl ?_
                    refine d_light rfl (by first | exact light_len rfl rfl | exact light_lens rfl rfl | rfl) rfl rfl rfl ?_
                    refine d_light rfl rfl rfl rfl rfl ?_
                    refine d_light rfl rfl rfl rfl rfl ?_
                    refine d_light rfl (light_fa rfl rfl) rfl rfl rfl ?_
                    refine d_load rfl rfl rfl (s_own (by repeat (first | exact .head _ | refine .tail _ ?_ | refine List.mem_append_right _ ?_)) (by rfl)) rfl rfl ?_
                    refine d_light rfl rfl rfl rfl rfl ?_
                    refine d_nil ?_
                    refine c_cond rfl (fun h8 => ?_) (fun h8 => ?_)
                    · refine c_skip ?_
                      refine c_block ?_
                      refine c_seq ?_
                      refine c_region ?_
                      refine l_l rfl rfl rfl ?_
                      refine l_l rfl rfl rfl ?_
                      refine l_l rfl rfl rfl ?_
                      refine l_l (light_fa rfl rfl) rfl rfl ?_
                      refine l_x (x_load rfl rfl (at_own (by repeat (first | exact .head _ | refine .tail _ ?_ | refine List.mem_append_right _ ?_)) (by rfl))) rfl rfl ?_
                      rintro _ _ ⟨rfl, rfl⟩
                      refine l_x (x_call call_24 rfl (fun w hw => without_fn _ cpv cur 1 (by (try simp only [decide_eq_true_eq, decide_eq_false_iff_not, beq_iff_eq, beq_eq_false_iff_ne, bne_iff_ne, bne_eq_false_iff_eq, ne_eq] at *); omega) hlv (by omega) w (fun _ => ⟨_, _, rfl, (row_own (by repeat (first | exact .head _ | refine .tail _ ?_ | refine List.mem_append_right _ ?_)) w hw).left⟩))) rfl rfl ?_
                      rintro v105 _ ⟨G123, hV105, rfl⟩
                      obtain ⟨b105, c105, sp105, rfl, rfl, hz105, hl105, hx105⟩ := vec_some hV105 (by rw [erase_len (by (try simp only [decide_eq_true_eq, decide_eq_false_iff_not, beq_iff_eq, beq_eq_false_iff_ne, bne_iff_ne, bne_eq_false_iff_eq, ne_eq] at *); omega)]; (try simp only [decide_eq_true_eq, decide_eq_false_iff_not, beq_iff_eq, beq_eq_false_iff_ne, bne_iff_ne, bne_eq_false_iff_eq, ne_eq] at *); omega)
                      refine l_l rfl rfl rfl ?_
                      refine l_l (light_fa rfl rfl) rfl rfl ?_
                      refine l_x (by first | exact x_store 0 rfl rfl rfl rfl rfl rfl (by first | rfl | exact Nat.le_of_ble_eq_true rfl | (simp; done)) | exact x_store 1 rfl rfl rfl rfl rfl rfl (by first | rfl | exact Nat.le_of_ble_eq_true rfl | (simp; done)) | exact x_store 2 rfl rfl rfl rfl rfl rfl (by first | rfl | exact Nat.le_of_ble_eq_true rfl | (simp; done)) | exact x_store 3 rfl rfl rfl rfl rfl rfl (by first | rfl | exact Nat.le_of_ble_eq_true rfl | (simp; done))) rfl rfl ?_
                      rintro _ _ ⟨rfl, rfl⟩
                      refine l_nil ?_
                      refine c_region ?_
                      refine l_l rfl rfl rfl ?_
                      refine l_l rfl rfl rfl ?_
                      refine l_l (light_fa rfl rfl) rfl rfl ?_
                      refine l_x (by first | exact x_store 0 rfl rfl rfl rfl rfl rfl (by first | rfl | exact Nat.le_of_ble_eq_true rfl | (simp; done)) | exact x_store 1 rfl rfl rfl rfl rfl rfl (by first | rfl | exact Nat.le_of_ble_eq_true rfl | (simp; done)) | exact x_store 2 rfl rfl rfl rfl rfl rfl (by first | rfl | exact Nat.le_of_ble_eq_true rfl | (simp; done)) | exact x_store 3 rfl rfl rfl rfl rfl rfl (by first | rfl | exact Nat.le_of_ble_eq_true rfl | (simp; done))) rfl rfl ?_
                      rintro _ _ ⟨rfl, rfl⟩
                      refine l_nil ?_
                      exact ⟨⟨cur.eraseIdx 1, _, _, true⟩, ⟨hC.step (by omega) (by (try simp only [decide_eq_true_eq, decide_eq_false_iff_not, beq_iff_eq, beq_eq_false_iff_ne, bne_iff_ne, bne_eq_false_iff_eq, ne_eq] at *); omega), vec_m60 hz105 hl105 hx105, by dsimp only; rw [erase_len (by (try simp only [decide_eq_true_eq, decide_eq_false_iff_not, beq_iff_eq, beq_eq_false_iff_ne, bne_iff_ne, bne_eq_false_iff_eq, ne_eq] at *); omega)]; omega⟩, by dsimp only; rw [erase_len (by (try simp only [decide_eq_true_eq, decide_eq_false_iff_not, beq_iff_eq, beq_eq_false_iff_ne, bne_iff_ne, bne_eq_false_iff_eq, ne_eq] at *); omega)]; (try simp only [decide_eq_true_eq, decide_eq_false_iff_not, beq_iff_eq, beq_eq_false_iff_ne, bne_iff_ne, bne_eq_false_iff_eq, ne_eq] at *); omega, .nil, (by repeat (first | exact Agree.refl _ _ | exact Agree.mix rfl | refine Agree.put rfl ?_ | refine Agree.keep rfl ?_)), fun _ h => St.fl [[_], [_], [_], D] [1, 0, 3] rfl h⟩
                    · refine c_exit rfl ?_
                      refine c_seq ?_
                      refine c_region ?_
                      refine l_l rfl rfl rfl ?_
                      refine l_nil ?_
                      refine c_ret ?_
                      obtain ⟨hcut, hlk⟩ := hC.done (by (try simp only [decide_eq_true_eq, decide_eq_false_iff_not, beq_iff_eq, beq_eq_false_iff_ne, bne_iff_ne, bne_eq_false_iff_eq, ne_eq] at *); omega)
                      subst hlk
                      exact l_end (fun _ _ => rets_v rfl) (List.Sublist.refl _) ⟨congrArg _ hok.symm, .inr ⟨hok, (Mark.mk x am cc l), [_, _], D, rfl, rfl, g1, rfl, ⟨_, _, rfl, by unfold addM; rw [hcut]; exact vec_m60 hzv hlv hxv⟩, hVD⟩⟩
        · refine l_p rfl rfl ?_
          refine l_p rfl rfl ?_
          refine l_p rfl rfl ?_
          refine l_p rfl rfl ?_
          refine l_p rfl rfl ?_
          refine l_p rfl rfl ?_
          refine l_p rfl rfl ?_
          refine l_p rfl rfl ?_
          refine l_p rfl rfl ?_
          refine l_p rfl rfl ?_
          refine l_p rfl rfl ?_
          refine l_l rfl rfl rfl ?_
          refine l_nil ?_
          refine c_false rfl ?_
          refine c_skip ?_
          refine c_cut (σ := RS) [40, 41, 42, 43, 44, 45, 46, 47, 48, 49, 50, 51, 52, 53, 54, 55] (fun s => []) (fun s => (b, blk [s.v, .int .i64 cap, .bool lack] 47) :: (s.G ++ s.D)) (fun s => l.length ≤ s.c ∧ Vec 60 2 s.v (ws ++ [Mark.mk x s.am s.c l]).length (flat cm (ws ++ [Mark.mk x s.am s.c l])) s.G ∧ Byt l (.slice s.am l.length s.c) s.D) ?_ ?_
          · rcases vec_or hV with ⟨hv9, hn9, hx9, hG9⟩ | ⟨bv, cpv, spv, hv9, hG9, hzv, hlv2, hxv⟩ <;> rcases hB with ⟨rfl, rfl⟩ | ⟨bd, od, rfl, hbd, hrd⟩
            · refine c_region ?_
              obtain rfl := List.eq_nil_of_length_eq_zero hn9
              cases hv9
              subst hG9
              obtain rfl := hc0 rfl
              refine l_l rfl rfl rfl ?_
              refine l_x (x_slc0 (el := 60) (n := 2) rfl) rfl rfl ?_
              rintro _ _ ⟨b41, rfl, rfl⟩
              refine l_l rfl rfl rfl ?_
              refine l_l rfl rfl rfl ?_
              refine l_l (light_fa rfl rfl) rfl rfl ?_
              refine l_x (x_load rfl rfl (at_own (by repeat (first | exact .head _ | refine .tail _ ?_ | refine List.mem_append_right _ ?_)) (by rfl))) rfl rfl ?_
              rintro _ _ ⟨rfl, rfl⟩
              refine l_x (x_append0 rfl rfl rfl rfl (Nat.le_refl 0)) rfl rfl ?_
              rintro _ _ ⟨rfl, rfl⟩
              refine l_l rfl rfl rfl ?_
              refine l_x (x_slc0 (el := 5) (n := 1) rfl) rfl rfl ?_
              rintro _ _ ⟨b48, rfl, rfl⟩
              refine l_l rfl rfl rfl ?_
              refine l_x (x_append0 rfl rfl rfl rfl (Nat.le_refl 0)) rfl rfl ?_
              rintro _ _ ⟨rfl, rfl⟩
              refine l_l (light_struct rfl rfl rfl rfl) rfl rfl ?_
              refine l_x (x_slc rfl rfl rfl rfl rfl rfl) rfl rfl ?_
              rintro _ _ ⟨b52, rfl, rfl⟩
              refine l_x (x_append (A := (b52, blk (cm (Mark.mk x (some ⟨b48, 0, none⟩) 0 [])) 60) :: [(b48, blk [] 5)]) (G := [(b41, blk [] 60)]) (R := _) (v := (.slice (some ⟨b41, 0, none⟩) 0 0)) (n := 0) (m := 1) (T := 60) (s := 2) (by_ := 32) (ys := cm (Mark.mk x (some ⟨b48, 0, none⟩) 0 [])) rfl rfl rfl rfl (.row b41 0 0 [] [] rfl rfl (by decide) (Nat.le_refl 0)) (fun w hw => .row _ _ _ _ _ rfl (row_own (.head _) w hw)) rfl (by omega) (by omega)) rfl rfl ?_
              rintro v53 _ ⟨G53, hV53, hn53, rfl⟩
              refine l_heap (H' := (b, _) :: (G53 ++ [(b48, blk [] 5)])) (fun _ h => St.fl [G53, [_], [(b48, blk [] 5)], [_], []] [3, 0, 2] rfl h) ?_
              obtain ⟨a53, c53, rfl⟩ := hV53.slice
              refine l_l rfl rfl rfl ?_
              refine l_l (light_fa rfl rfl) rfl rfl ?_
              refine l_x (by first | exact x_store 0 rfl rfl rfl rfl rfl rfl (by first | rfl | exact Nat.le_of_ble_eq_true rfl | (simp; done)) | exact x_store 1 rfl rfl rfl rfl rfl rfl (by first | rfl | exact Nat.le_of_ble_eq_true rfl | (simp; done)) | exact x_store 2 rfl rfl rfl rfl rfl rfl (by first | rfl | exact Nat.le_of_ble_eq_true rfl | (simp; done)) | exact x_store 3 rfl rfl rfl rfl rfl rfl (by first | rfl | exact Nat.le_of_ble_eq_true rfl | (simp; done))) rfl rfl ?_
              rintro _ _ ⟨rfl, rfl⟩
              refine l_nil ?_
              exact ⟨RS.mk (some ⟨b48, 0, none⟩) 0 _ G53 ([(b48, blk [] 5)]), ⟨Nat.le_refl 0, vec_as hV53 (by simp) (by simp [flat]), (.row b48 0 0 [] [] rfl rfl (by decide) (Nat.le_refl 0))⟩, .nil, (by repeat (first | exact Agree.refl _ _ | exact Agree.mix rfl | refine Agree.put rfl ?_ | refine Agree.keep rfl ?_)), fun _ h => h⟩
            · refine c_region ?_
              obtain rfl := List.eq_nil_of_length_eq_zero hn9
              cases hv9
              subst hG9
              refine l_l rfl rfl rfl ?_
              refine l_x (x_slc0 (el := 60) (n := 2) rfl) rfl rfl ?_
              rintro _ _ ⟨b41, rfl, rfl⟩
              refine l_l rfl rfl rfl ?_
              refine l_l rfl rfl rfl ?_
              refine l_l (light_fa rfl rfl) rfl rfl ?_
              refine l_x (x_load rfl rfl (at_own (by repeat (first | exact .head _ | refine .tail _ ?_ | refine List.mem_append_right _ ?_)) (by rfl))) rfl rfl ?_
              rintro _ _ ⟨rfl, rfl⟩
              refine l_x (x_append0 rfl rfl rfl rfl (Nat.le_refl 0)) rfl rfl ?_
              rintro _ _ ⟨rfl, rfl⟩
              refine l_l rfl rfl rfl ?_
              refine l_x (x_slc0 (el := 5) (n := 1) rfl) rfl rfl ?_
              rintro _ _ ⟨b48, rfl, rfl⟩
              refine l_l rfl rfl rfl ?_
              refine l_x (x_append (A := []) (G := [(b48, blk [] 5)]) (R := _) (v := .slice (some ⟨b48, 0, none⟩) 0 0) (n := 0) (xs := []) (m := l.length) (T := 5) (s := 1) (by_ := 1) (ys := l.map (.int .u8)) rfl rfl rfl rfl (.row b48 0 0 [] [] rfl rfl (by decide) (Nat.le_refl 0)) (fun w hw => .row _ _ _ _ _ (by simp : (l.map (Value.int .u8)).length = l.length * 1) (row_old hrd hbd w hw)) (ones_int _ _) (by omega) (by omega)) rfl rfl ?_
              rintro v50 _ ⟨G50, hV50, hn50, rfl⟩
              rw [Nat.zero_add, List.nil_append] at hV50
              obtain ⟨a50, c50, rfl, hc50, hB50⟩ := Byt.slice hV50
              refine l_l (light_struct rfl rfl rfl rfl) rfl rfl ?_
              refine l_x (x_slc rfl rfl rfl rfl rfl rfl) rfl rfl ?_
              rintro _ _ ⟨b52, rfl, rfl⟩
              refine l_x (x_append (A := (b52, blk (cm (Mark.mk x a50 c50 l)) 60) :: G50) (G := [(b41, blk [] 60)]) (R := _) (v := (.slice (some ⟨b41, 0, none⟩) 0 0)) (n := 0) (m := 1) (T := 60) (s := 2) (by_ := 32) (ys := cm (Mark.mk x a50 c50 l)) rfl rfl rfl rfl (.row b41 0 0 [] [] rfl rfl (by decide) (Nat.le_refl 0)) (fun w hw => .row _ _ _ _ _ rfl (row_own (.head _) w hw)) rfl (by omega) (by omega)) rfl rfl ?_
              rintro v53 _ ⟨G53, hV53, hn53, rfl⟩
              refine l_heap (H' := (b, _) :: (G53 ++ G50)) (fun _ h => St.fl [G53, [_], G50, [_], []] [3, 0, 2] rfl h) ?_
              obtain ⟨a53, c53, rfl⟩ := hV53.slice
              refine l_l rfl rfl rfl ?_
              refine l_l (light_fa rfl rfl) rfl rfl ?_
              refine l_x (by first | exact x_store 0 rfl rfl rfl rfl rfl rfl (by first | rfl | exact Nat.le_of_ble_eq_true rfl | (simp; done)) | exact x_store 1 rfl rfl rfl rfl rfl rfl (by first | rfl | exact Nat.le_of_ble_eq_true rfl | (simp; done)) | exact x_store 2 rfl rfl rfl rfl rfl rfl (by first | rfl | exact Nat.le_of_ble_eq_true rfl | (simp; done)) | exact x_store 3 rfl rfl rfl rfl rfl rfl (by first | rfl | exact Nat.le_of_ble_eq_true rfl | (simp; done))) rfl rfl ?_
              rintro _ _ ⟨rfl, rfl⟩
              refine l_nil ?_
              exact ⟨RS.mk a50 c50 _ G53 (G50), ⟨hc50, vec_as hV53 (by simp) (by simp [flat]), hV50⟩, .nil, (by repeat (first | exact Agree.refl _ _ | exact Agree.mix rfl | refine Agree.put rfl ?_ | refine Agree.keep rfl ?_)), fun _ h => h⟩
            · refine c_region ?_
              cases hv9
              subst hG9
              obtain rfl := hc0 rfl
              refine l_l rfl rfl rfl ?_
              refine l_x (x_slc0 (el := 60) (n := 2) rfl) rfl rfl ?_
              rintro _ _ ⟨b41, rfl, rfl⟩
              refine l_l rfl rfl rfl ?_
              refine l_l rfl rfl rfl ?_
              refine l_l (light_fa rfl rfl) rfl rfl ?_
              refine l_x (x_load rfl rfl (at_own (by repeat (first | exact .head _ | refine .tail _ ?_ | refine List.mem_append_right _ ?_)) (by rfl))) rfl rfl ?_
              rintro _ _ ⟨rfl, rfl⟩
              refine l_x (x_append (A := []) (G := [(b41, blk [] 60)]) (R := _) (v := .slice (some ⟨b41, 0, none⟩) 0 0) (n := 0) (xs := []) (m := ws.length) (T := 60) (s := 2) (by_ := 32) (ys := flat cm ws) rfl rfl rfl rfl (.row b41 0 0 [] [] rfl rfl (by decide) (Nat.le_refl 0)) (fun w hw => .row _ _ _ _ _ (flat_len cm_len ws) (row_own (by repeat (first | exact .head _ | refine .tail _ ?_ | refine List.mem_append_right _ ?_)) w hw).left) (ones_flat _) (by omega) (by omega)) rfl rfl ?_
              rintro v46 _ ⟨G46, hV46, hn46, rfl⟩
              refine l_l rfl rfl rfl ?_
              refine l_x (x_slc0 (el := 5) (n := 1) rfl) rfl rfl ?_
              rintro _ _ ⟨b48, rfl, rfl⟩
              refine l_l rfl rfl rfl ?_
              refine l_x (x_append0 rfl rfl rfl rfl (Nat.le_refl 0)) rfl rfl ?_
              rintro _ _ ⟨rfl, rfl⟩
              refine l_l (light_struct rfl rfl rfl rfl) rfl rfl ?_
              refine l_x (x_slc rfl rfl rfl rfl rfl rfl) rfl rfl ?_
              rintro _ _ ⟨b52, rfl, rfl⟩
              refine l_x (x_append (A := (b52, blk (cm (Mark.mk x (some ⟨b48, 0, none⟩) 0 [])) 60) :: [(b48, blk [] 5)]) (G := G46) (R := _) (v := v46) (n := 0 + ws.length) (m := 1) (T := 60) (s := 2) (by_ := 32) (ys := cm (Mark.mk x (some ⟨b48, 0, none⟩) 0 [])) rfl rfl rfl rfl hV46 (fun w hw => .row _ _ _ _ _ rfl (row_own (.head _) w hw)) rfl (by omega) (by omega)) rfl rfl ?_
              rintro v53 _ ⟨G53, hV53, hn53, rfl⟩
              refine l_heap (H' := (b, _) :: (G53 ++ [(b48, blk [] 5)])) (fun _ h => St.fl [G53, [_], [(b48, blk [] 5)], [_], [_]] [3, 0, 2] rfl h) ?_
              obtain ⟨a53, c53, rfl⟩ := hV53.slice
              refine l_l rfl rfl rfl ?_
              refine l_l (light_fa rfl rfl) rfl rfl ?_
              refine l_x (by first | exact x_store 0 rfl rfl rfl rfl rfl rfl (by first | rfl | exact Nat.le_of_ble_eq_true rfl | (simp; done)) | exact x_store 1 rfl rfl rfl rfl rfl rfl (by first | rfl | exact Nat.le_of_ble_eq_true rfl | (simp; done)) | exact x_store 2 rfl rfl rfl rfl rfl rfl (by first | rfl | exact Nat.le_of_ble_eq_true rfl | (simp; done)) | exact x_store 3 rfl rfl rfl rfl rfl rfl (by first | rfl | exact Nat.le_of_ble_eq_true rfl | (simp; done))) rfl rfl ?_
              rintro _ _ ⟨rfl, rfl⟩
              refine l_nil ?_
              exact ⟨RS.mk (some ⟨b48, 0, none⟩) 0 _ G53 ([(b48, blk [] 5)]), ⟨Nat.le_refl 0, vec_as hV53 (by simp) (by rw [flat_snoc, List.nil_append]), (.row b48 0 0 [] [] rfl rfl (by decide) (Nat.le_refl 0))⟩, .nil, (by repeat (first | exact Agree.refl _ _ | exact Agree.mix rfl | refine Agree.put rfl ?_ | refine Agree.keep rfl ?_)), fun _ h => h⟩
            · refine c_region ?_
              cases hv9
              subst hG9
              refine l_l rfl rfl rfl ?_
              refine l_x (x_slc0 (el := 60) (n := 2) rfl) rfl rfl ?_
              rintro _ _ ⟨b41, rfl, rfl⟩
              refine l_l rfl rfl rfl ?_
              refine l_l rfl rfl rfl ?_
              refine l_l (light_fa rfl rfl) rfl rfl ?_
              refine l_x (x_load rfl rfl (at_own (by repeat (first | exact .head _ | refine .tail _ ?_ | refine List.mem_append_right _ ?_)) (by rfl))) rfl rfl ?_
              rintro _ _ ⟨rfl, rfl⟩
              refine l_x (x_append (A := []) (G := [(b41, blk [] 60)]) (R := _) (v := .slice (some ⟨b41, 0, none⟩) 0 0) (n := 0) (xs := []) (m := ws.length) (T := 60) (s := 2) (by_ := 32) (ys := flat cm ws) rfl rfl rfl rfl (.row b41 0 0 [] [] rfl rfl (by decide) (Nat.le_refl 0)) (fun w hw => .row _ _ _ _ _ (flat_len cm_len ws) (row_own (by repeat (first | exact .head _ | refine .tail _ ?_ | refine List.mem_append_right _ ?_)) w hw).left) (ones_flat _) (by omega) (by omega)) rfl rfl ?_
              rintro v46 _ ⟨G46, hV46, hn46, rfl⟩
              refine l_l rfl rfl rfl ?_
              refine l_x (x_slc0 (el := 5) (n := 1) rfl) rfl rfl ?_
              rintro _ _ ⟨b48, rfl, rfl⟩
              refine l_l rfl rfl rfl ?_
              refine l_x (x_append (A := []) (G := [(b48, blk [] 5)]) (R := _) (v := .slice (some ⟨b48, 0, none⟩) 0 0) (n := 0) (xs := []) (m := l.length) (T := 5) (s := 1) (by_ := 1) (ys := l.map (.int .u8)) rfl rfl rfl rfl (.row b48 0 0 [] [] rfl rfl (by decide) (Nat.le_refl 0)) (fun w hw => .row _ _ _ _ _ (by simp : (l.map (Value.int .u8)).length = l.length * 1) (row_old hrd hbd w hw)) (ones_int _ _) (by omega) (by omega)) rfl rfl ?_
              rintro v50 _ ⟨G50, hV50, hn50, rfl⟩
              rw [Nat.zero_add, List.nil_append] at hV50
              obtain ⟨a50, c50, rfl, hc50, hB50⟩ := Byt.slice hV50
              refine l_l (light_struct rfl rfl rfl rfl) rfl rfl ?_
              refine l_x (x_slc rfl rfl rfl rfl rfl rfl) rfl rfl ?_
              rintro _ _ ⟨b52, rfl, rfl⟩
              refine l_x (x_append (A := (b52, blk (cm (Mark.mk x a50 c50 l)) 60) :: G50) (G := G46) (R := _) (v := v46) (n := 0 + ws.length) (m := 1) (T := 60) (s := 2) (by_ := 32) (ys := cm (Mark.mk x a50 c50 l)) rfl rfl rfl rfl hV46 (fun w hw => .row _ _ _ _ _ rfl (row_own (.head _) w hw)) rfl (by omega) (by omega)) rfl rfl ?_
              rintro v53 _ ⟨G53, hV53, hn53, rfl⟩
              refine l_heap (H' := (b, _) :: (G53 ++ G50)) (fun _ h => St.fl [G53, [_], G50, [_], [_]] [3, 0, 2] rfl h) ?_
              obtain ⟨a53, c53, rfl⟩ := hV53.slice
              refine l_l rfl rfl rfl ?_
              refine l_l (light_fa rfl rfl) rfl rfl ?_
              refine l_x (by first | exact x_store 0 rfl rfl rfl rfl rfl rfl (by first | rfl | exact Nat.le_of_ble_eq_true rfl | (simp; done)) | exact x_store 1 rfl rfl rfl rfl rfl rfl (by first | rfl | exact Nat.le_of_ble_eq_true rfl | (simp; done)) | exact x_store 2 rfl rfl rfl rfl rfl rfl (by first | rfl | exact Nat.le_of_ble_eq_true rfl | (simp; done)) | exact x_store 3 rfl rfl rfl rfl rfl rfl (by first | rfl | exact Nat.le_of_ble_eq_true rfl | (simp; done))) rfl rfl ?_
              rintro _ _ ⟨rfl, rfl⟩
              refine l_nil ?_
              exact ⟨RS.mk a50 c50 _ G53 (G50), ⟨hc50, vec_as hV53 (by simp) (by rw [flat_snoc, List.nil_append]), hV50⟩, .nil, (by repeat (first | exact Agree.refl _ _ | exact Agree.mix rfl | refine Agree.put rfl ?_ | refine Agree.keep rfl ?_)), fun _ h => h⟩
          · rintro ⟨am, cc, v, G, D⟩ y6 ⟨g1, hV, hVD⟩
            dsimp only at g1 hV hVD ⊢
            refine c_seq ?_
            refine c_seq ?_
            have hok : addErr ws x = 0 := addErr_ok (by (try simp only [decide_eq_true_eq, decide_eq_false_iff_not, beq_iff_eq, beq_eq_false_iff_ne, bne_iff_ne, bne_eq_false_iff_eq, ne_eq] at *); omega) (fun hz' => by (try simp only [decide_eq_true_eq, decide_eq_false_iff_not, beq_iff_eq, beq_eq_false_iff_ne, bne_iff_ne, bne_eq_false_iff_eq, ne_eq] at *); omega) (fun hz' => by (try simp only [decide_eq_true_eq, decide_eq_false_iff_not, beq_iff_eq, beq_eq_false_iff_ne, bne_iff_ne, bne_eq_false_iff_eq, ne_eq] at *); omega)
            obtain ⟨av2, cv2, rfl⟩ := hV.slice
            refine c_region ?_
            refine l_l rfl rfl rfl ?_
            refine l_l rfl rfl rfl ?_
            refine l_l (light_fa rfl rfl) rfl rfl ?_
            refine l_x (x_load rfl rfl (at_own (by repeat (first | exact .head _ | refine .tail _ ?_ | refine List.mem_append_right _ ?_)) (by rfl))) rfl rfl ?_
            rintro _ _ ⟨rfl, rfl⟩
            refine l_l (by first | exact light_len rfl rfl | exact light_lens rfl rfl | rfl) rfl rfl ?_
            refine l_as (v := (.int .i64 ((ws.length : Int) - 1))) rfl rfl rfl (congrArg _ (by rw [List.length_append, List.length_singleton, wrap_i64 (by omega) (by omega)]; omega)) ?_
            refine l_l rfl rfl rfl ?_
            refine l_nil ?_
            refine c_block ?_
            refine c_loop (σ := RT) [8, 9, 62, 63, 64, 65, 66, 67, 68, 69, 70, 71, 72, 73, 74, 75, 76, 77, 78, 79, 80, 81, 82, 83, 84, 85, 86, 87, 88, 89, 90, 91, 92, 93, 94, 95, 96, 97, 98, 99, 100, 101, 102, 103, 104, 105, 106, 107] (fun s => [(8, .int .i64 ((s.A.length : Int) - 1))]) (fun s => (b, blk [s.v, .int .i64 cap, .bool lack] 47) :: (s.G ++ D)) (fun s => RI (thinL (ws ++ [Mark.mk x am cc l])) x s.A s.K ∧ Vec 60 2 s.v (s.A ++ s.K).length (flat cm (s.A ++ s.K)) s.G ∧ (s.A ++ s.K).length ≤ ws.length + 1) (fun s => s.A.length) ⟨ws, [Mark.mk x am cc l], .slice av2 (ws ++ [Mark.mk x am cc l]).length cv2, G⟩ ?_ ?_ ?_ ?_
            · exact ⟨RI.start (rise_snoc hR hx (by (try simp only [decide_eq_true_eq, decide_eq_false_iff_not, beq_iff_eq, beq_eq_false_iff_ne, bne_iff_ne, bne_eq_false_iff_eq, ne_eq] at *); omega) (fun _ => by (try simp only [decide_eq_true_eq, decide_eq_false_iff_not, beq_iff_eq, beq_eq_false_iff_ne, bne_iff_ne, bne_eq_false_iff_eq, ne_eq] at *); omega)), hV, by simp⟩
            · exact .cons rfl .nil
            · exact fun _ h => h
            · rintro ⟨A, K, v, G⟩ y8 ⟨hI, hV, hln⟩
              dsimp only at hI hV hln ⊢
              have hln2 : A.length + K.length ≤ ws.length + 1 := by rw [← List.length_append]; exact hln
              refine c_seq ?_
              refine c_seq ?_
              refine c_region ?_
              refine l_l rfl rfl rfl ?_
              refine l_l rfl rfl rfl ?_
              refine l_nil ?_
              refine c_cond rfl (fun h9 => ?_) (fun h9 => ?_)
              · refine c_skip ?_
                refine c_seq ?_
                refine c_block ?_
                refine c_seq ?_
                have hA : 2 ≤ A.length := by (try simp only [decide_eq_true_eq, decide_eq_false_iff_not, beq_iff_eq, beq_eq_false_iff_ne, bne_iff_ne, bne_eq_false_iff_eq, ne_eq] at *); omega
                obtain ⟨bv, cpv, spv, rfl, rfl, hzv, hlv, hxv⟩ := vec_some hV (by rw [List.length_append]; have := hI.pos; omega)
                refine c_draw _ [4, 5, 9, 10, 11, 12, 13, 14, 15, 16, 17] (.step true 0 (.step true 1 (.step true 2 (.step true 3 (.step true 4 (.step true 5 (.step true 6 (.step true 7 (.step true 8 (.step true 9 (.step true 10 (.step true 11 (.step true 12 (.step true 13 (.step true 14 (.step true 15 (.step true 16 (.step true 17 (.step true 18 (.step true 19 .done)))))))))))))))))))) rfl (by kernel_rfl) (by kernel_rfl) (fun _ h => h) ?_
                refine d_light rfl rfl rfl rfl rfl ?_
                refine d_light rfl rfl rfl rfl rfl ?_
                refine d_light rfl (light_fa rfl rfl) rfl rfl rfl ?_
                refine d_load rfl rfl rfl (s_own (by repeat (first | exact .head _ | refine .tail _ ?_ | refine List.mem_append_right _ ?_)) (by rfl)) rfl rfl ?_
                refine d_light rfl rfl rfl rfl rfl ?_
                refine d_as (v := (.int .i64 (A.length : Nat))) rfl rfl rfl rfl rfl (congrArg _ (by rw [wrap_i64 (by omega) (by omega)]; omega)) ?_
                refine d_light rfl (idx_slice A.length rfl rfl rfl rfl (by rw [List.length_append]; have := hI.pos; omega)) rfl rfl rfl ?_
                refine d_light rfl (light_fa rfl rfl) rfl rfl rfl ?_
                refine d_load rfl rfl rfl (fun w hw => mark_t (srow_own (by repeat (first | exact .head _ | refine .tail _ ?_ | refine List.mem_append_right _ ?_)) w hw).left (by rw [List.length_append]; have := hI.pos; omega)) rfl rfl ?_
                refine d_light rfl rfl rfl rfl rfl ?_
                refine d_light rfl rfl rfl rfl rfl ?_
                refine d_light rfl (light_fa rfl rfl) rfl rfl rfl ?_
                refine d_load rfl rfl rfl (s_own (by repeat (first | exact .head _ | refine .tail _ ?_ | refine List.mem_append_right _ ?_)) (by rfl)) rfl rfl ?_
                refine d_light rfl rfl rfl rfl rfl ?_
                refine d_as (v := (.int .i64 ((A.length - 2 : Nat) : Int))) rfl rfl rfl rfl rfl (congrArg _ (by rw [wrap_i64 (by omega) (by omega)]; omega)) ?_
                refine d_light rfl (idx_slice (A.length - 2) rfl rfl rfl rfl (by rw [List.length_append]; have := hI.pos; omega)) rfl rfl rfl ?_
                refine d_light rfl (light_fa rfl rfl) rfl rfl rfl ?_
                refine d_load rfl rfl rfl (fun w hw => mark_t (srow_own (by repeat (first | exact .head _ | refine .tail _ ?_ | refine List.mem_append_right _ ?_)) w hw).left (by rw [List.length_append]; have := hI.pos; omega)) rfl rfl ?_
                refine d_light rfl rfl rfl rfl rfl ?_
                refine d_light rfl rfl rfl rfl rfl ?_
                refine d_nil ?_
                refine c_seq ?_
                refine c_region ?_
                refine l_l rfl rfl rfl ?_
                refine l_l rfl rfl rfl ?_
                refine l_l rfl rfl rfl ?_
                refine l_l rfl rfl rfl ?_
                refine l_l rfl rfl rfl ?_
                refine l_l (light_fa rfl rfl) rfl rfl ?_
                refine l_x (x_load rfl rfl (at_own (by repeat (first | exact .head _ | refine .tail _ ?_ | refine List.mem_append_right _ ?_)) (by rfl))) rfl rfl ?_
                rintro _ _ ⟨rfl, rfl⟩
                refine l_l rfl rfl rfl ?_
                refine l_as (v := (.int .i64 (A.length : Nat))) rfl rfl rfl (congrArg _ (by rw [wrap_i64 (by omega) (by omega)]; omega)) ?_
                refine l_l (idx_slice A.length rfl rfl rfl rfl (by rw [List.length_append]; have := hI.pos; omega)) rfl rfl ?_
                refine l_l (light_fa rfl rfl) rfl rfl ?_
                refine l_x (x_load rfl rfl (fun w hw => mark_t (row_own (by repeat (first | exact .head _ | refine .tail _ ?_ | refine List.mem_append_right _ ?_)) w hw).left (by rw [List.length_append]; have := hI.pos; omega))) rfl rfl ?_
                rintro _ _ ⟨rfl, rfl⟩
                refine l_l rfl rfl rfl ?_
                refine l_l rfl rfl rfl ?_
                refine l_nil ?_
                refine c_cond rfl (fun h10 => ?_) (fun h10 => ?_)
                · have hdr := hI.drop hA (of_decide_eq_true ((rcond hI hA).symm.trans h10))
                  refine c_region ?_
                  refine l_l rfl rfl rfl ?_
                  refine l_l rfl rfl rfl ?_
                  refine l_l rfl rfl rfl ?_
                  refine l_l (light_fa rfl rfl) rfl rfl ?_
                  refine l_x (x_load rfl rfl (at_own (by repeat (first | exact .head _ | refine .tail _ ?_ | refine List.mem_append_right _ ?_)) (by rfl))) rfl rfl ?_
                  rintro _ _ ⟨rfl, rfl⟩
                  refine l_as (v := (.int .i64 ((A.length - 1 : Nat) : Int))) rfl rfl rfl (congrArg _ (by omega)) ?_
                  refine l_x (x_call call_24 rfl (fun w hw => without_fn _ cpv (A ++ K) (A.length - 1) (by rw [List.length_append]; have := hI.pos; omega) hlv (by omega) w (fun _ => ⟨_, _, rfl, (row_own (by repeat (first | exact .head _ | refine .tail _ ?_ | refine List.mem_append_right _ ?_)) w hw).left⟩))) rfl rfl ?_
                  rintro v105 _ ⟨G105, hV105, rfl⟩
                  rw [hdr.2] at hV105
                  obtain ⟨b105, c105, sp105, rfl, rfl, hz105, hl105, hx105⟩ := vec_some hV105 (by rw [List.length_append]; have := hI.pos; omega)
                  refine l_l rfl rfl rfl ?_
                  refine l_l (light_fa rfl rfl) rfl rfl ?_
                  refine l_x (by first | exact x_store 0 rfl rfl rfl rfl rfl rfl (by first | rfl | exact Nat.le_of_ble_eq_true rfl | (simp; done)) | exact x_store 1 rfl rfl rfl rfl rfl rfl (by first | rfl | exact Nat.le_of_ble_eq_true rfl | (simp; done)) | exact x_store 2 rfl rfl rfl rfl rfl rfl (by first | rfl | exact Nat.le_of_ble_eq_true rfl | (simp; done)) | exact x_store 3 rfl rfl rfl rfl rfl rfl (by first | rfl | exact Nat.le_of_ble_eq_true rfl | (simp; done))) rfl rfl ?_
                  rintro _ _ ⟨rfl, rfl⟩
                  refine l_nil ?_
                  refine c_region ?_
                  refine l_l rfl rfl rfl ?_
                  refine l_l rfl rfl rfl ?_
                  refine l_l rfl rfl rfl ?_
                  refine l_nil ?_
                  exact ⟨⟨A.dropLast, K, _, _⟩, ⟨hdr.1, vec_m60 hz105 hl105 hx105, by dsimp only; simp only [List.length_append, List.length_dropLast]; omega⟩, by dsimp only; rw [List.length_dropLast]; omega, .cons (congrArg _ (down_law hA (by omega))) .nil, (by repeat (first | exact Agree.refl _ _ | exact Agree.mix rfl | refine Agree.put rfl ?_ | refine Agree.keep rfl ?_)), fun _ h => St.fl [[_], [_], [_], D] [1, 0, 3] rfl h⟩
                · refine c_skip ?_
                  refine c_region ?_
                  refine l_l rfl rfl rfl ?_
                  refine l_l rfl rfl rfl ?_
                  refine l_l rfl rfl rfl ?_
                  refine l_nil ?_
                  obtain ⟨m9, hI9, he9⟩ := hI.keep hA (of_decide_eq_false ((rcond hI hA).symm.trans h10))
                  exact ⟨⟨A.dropLast, m9 :: K, _, _⟩, ⟨hI9, by rw [← he9]; exact vec_m60 hzv hlv hxv, by rw [← he9]; exact hln⟩, by dsimp only; rw [List.length_dropLast]; omega, .cons (congrArg _ (down_law hA (by omega))) .nil, (by repeat (first | exact Agree.refl _ _ | exact Agree.mix rfl | refine Agree.put rfl ?_ | refine Agree.keep rfl ?_)), fun _ h => h⟩
              · refine c_exit rfl ?_
                refine c_seq ?_
                refine c_block ?_
                refine c_loop (σ := RU) [108, 109, 110, 111, 112, 113, 114, 115, 116, 117, 118, 119, 120, 121, 122, 123, 124, 125, 126, 127, 128] (fun s => []) (fun s => (b, blk [s.v, .int .i64 cap, .bool s.lk] 47) :: (s.G ++ D)) (fun s => CI cap.toNat (thinL (ws ++ [Mark.mk x am cc l])) lack s.ws s.lk ∧ Vec 60 2 s.v s.ws.length (flat cm s.ws) s.G ∧ s.ws.length ≤ ws.length + 1) (fun s => s.ws.length) ⟨A ++ K, v, G, lack⟩ ?_ ?_ ?_ ?_
                · exact (by have htt := hI.done (by (try simp only [decide_eq_true_eq, decide_eq_false_iff_not, beq_iff_eq, beq_eq_false_iff_ne, bne_iff_ne, bne_eq_false_iff_eq, ne_eq] at *); omega); dsimp only; rw [htt]; exact ⟨.start (by have := hI.pos; rw [List.length_append]; omega), hV, hln⟩)
                · exact .nil
                · exact fun _ h => h
                · rintro ⟨cur, v, G, lk⟩ y13 ⟨hC, hV, hln⟩
                  dsimp only at hC hV hln ⊢
                  refine c_seq ?_
                  refine c_seq ?_
                  obtain ⟨bv, cpv, spv, rfl, rfl, hzv, hlv, hxv⟩ := vec_some hV (by have := hC.pos; omega)
                  refine c_draw _ [5, 6, 7, 8] (.step true 0 (.step true 1 (.step true 2 (.step true 3 (.step true 4 (.step true 5 (.step true 6 (.step true 7 (.step true 8 (.step true 9 .done)))))))))) rfl (by kernel_rfl) (by kernel_rfl) (fun _ h => h) ?_
                  refine d_light rfl rfl rfl rfl rfl ?_
                  refine d_light rfl rfl rfl rfl rfl ?_
                  refine d_light rfl (light_fa rfl rfl) rfl rfl rfl ?_
                  refine d_load rfl rfl rfl (s_own (by repeat (first | exact .head _ | refine .tail _ ?_ | refine List.mem_append_right _ ?_)) (by rfl)) rfl rfl ?_
                  refine d_light rfl (by first | exact light_len rfl rfl | exact light_lens rfl rfl | rfl) rfl rfl rfl ?_
                  refine d_light rfl rfl rfl rfl rfl ?_
                  refine d_light rfl rfl rfl rfl rfl ?_
                  refine d_light rfl (light_fa rfl rfl) rfl rfl rfl ?_
                  refine d_load rfl rfl rfl (s_own (by repeat (first | exact .head _ | refine .tail _ ?_ | refine List.mem_append_right _ ?_)) (by rfl)) rfl rfl ?_
                  refine d_light rfl rfl rfl rfl rfl ?_
                  refine d_nil ?_
                  refine c_cond rfl (fun h11 => ?_) (fun h11 => ?_)
                  · refine c_skip ?_
                    refine c_block ?_
                    refine c_seq ?_
                    refine c_region ?_
                    refine l_l rfl rfl rfl ?_
                    refine l_l rfl rfl rfl ?_
                    refine l_l rfl rfl rfl ?_
                    refine l_l (light_fa rfl rfl) rfl rfl ?_
                    refine l_x (x_load rfl rfl (at_own (by repeat (first | exact .head _ | refine .tail _ ?_ | refine List.mem_append_right _ ?_)) (by rfl))) rfl rfl ?_
                    rintro _ _ ⟨rfl, rfl⟩
                    refine l_x (x_call call_24 rfl (fun w hw => without_fn _ cpv cur 1 (by (try simp only [decide_eq_true_eq, decide_eq_false_iff_not, beq_iff_eq, beq_eq_false_iff_ne, bne_iff_ne, bne_eq_false_iff_eq, ne_eq] at *); omega) hlv (by omega) w (fun _ => ⟨_, _, rfl, (row_own (by repeat (first | exact .head _ | refine .tail _ ?_ | refine List.mem_append_right _ ?_)) w hw).left⟩))) rfl rfl ?_
                    rintro v105 _ ⟨G123, hV105, rfl⟩
                    obtain ⟨b105, c105, sp105, rfl, rfl, hz105, hl105, hx105⟩ := vec_some hV105 (by rw [erase_len (by (try simp only [decide_eq_true_eq, decide_eq_false_iff_not, beq_iff_eq, beq_eq_false_iff_ne, bne_iff_ne, bne_eq_false_iff_eq, ne_eq] at *); omega)]; (try simp only [decide_eq_true_eq, decide_eq_false_iff_not, beq_iff_eq, beq_eq_false_iff_ne, bne_iff_ne, bne_eq_false_iff_eq, ne_eq] at *); omega)
                    refine l_l rfl rfl rfl ?_
                    refine l_l (light_fa rfl rfl) rfl rfl ?_
                    refine l_x (by first | exact x_store 0 rfl rfl rfl rfl rfl rfl (by first | rfl | exact Nat.le_of_ble_eq_true rfl | (simp; done)) | exact x_store 1 rfl rfl rfl rfl rfl rfl (by first | rfl | exact Nat.le_of_ble_eq_true rfl | (simp; done)) | exact x_store 2 rfl rfl rfl rfl rfl rfl (by first | rfl | exact Nat.le_of_ble_eq_true rfl | (simp; done)) | exact x_store 3 rfl rfl rfl rfl rfl rfl (by first | rfl | exact Nat.le_of_ble_eq_true rfl | (simp; done))) rfl rfl ?_
                    rintro _ _ ⟨rfl, rfl⟩
                    refine l_nil ?_
                    refine c_region ?_
                    refine l_l rfl rfl rfl ?_
                    refine l_l rfl rfl rfl ?_
                    refine l_l (light_fa rfl rfl) rfl rfl ?_
                    refine l_x (by first | exact x_store 0 rfl rfl rfl rfl rfl rfl (by first | rfl | exact Nat.le_of_ble_eq_true rfl | (simp; done)) | exact x_store 1 rfl rfl rfl rfl rfl rfl (by first | rfl | exact Nat.le_of_ble_eq_true rfl | (simp; done)) | exact x_store 2 rfl rfl rfl rfl rfl rfl (by first | rfl | exact Nat.le_of_ble_eq_true rfl | (simp; done)) | exact x_store 3 rfl rfl rfl rfl rfl rfl (by first | rfl | exact Nat.le_of_ble_eq_true rfl | (simp; done))) rfl rfl ?_
                    rintro _ _ ⟨rfl, rfl⟩
                    refine l_nil ?_
                    exact ⟨⟨cur.eraseIdx 1, _, _, true⟩, ⟨hC.step (by omega) (by (try simp only [decide_eq_true_eq, decide_eq_false_iff_not, beq_iff_eq, beq_eq_false_iff_ne, bne_iff_ne, bne_eq_false_iff_eq, ne_eq] at *); omega), vec_m60 hz105 hl105 hx105, by dsimp only; rw [erase_len (by (try simp only [decide_eq_true_eq, decide_eq_false_iff_not, beq_iff_eq, beq_eq_false_iff_ne, bne_iff_ne, bne_eq_false_iff_eq, ne_eq] at *); omega)]; omega⟩, by dsimp only; rw [erase_len (by (try simp only [decide_eq_true_eq, decide_eq_false_iff_not, beq_iff_eq, beq_eq_false_iff_ne, bne_iff_ne, bne_eq_false_iff_eq, ne_eq] at *); omega)]; (try simp only [decide_eq_true_eq, decide_eq_false_iff_not, beq_iff_eq, beq_eq_false_iff_ne, bne_iff_ne, bne_eq_false_iff_eq, ne_eq] at *); omega, .nil, (by repeat (first | exact Agree.refl _ _ | exact Agree.mix rfl | refine Agree.put rfl ?_ | refine Agree.keep rfl ?_)), fun _ h => St.fl [[_], [_], [_], D] [1, 0, 3] rfl h⟩
                  · refine c_exit rfl ?_
                    refine c_seq ?_
                    refine c_region ?_
                    refine l_l rfl rfl rfl ?_
                    refine l_nil ?_
                    refine c_ret ?_
                    obtain ⟨hcut, hlk⟩ := hC.done (by (try simp only [decide_eq_true_eq, decide_eq_false_iff_not, beq_iff_eq, beq_eq_false_iff_ne, bne_iff_ne, bne_eq_false_iff_eq, ne_eq] at *); omega)
                    subst hlk
                    exact l_end (fun _ _ => rets_v rfl) (List.Sublist.refl _) ⟨congrArg _ hok.symm, .inr ⟨hok, (Mark.mk x am cc l), [_, _], D, rfl, rfl, g1, rfl, ⟨_, _, rfl, by unfold addM; rw [hcut]; exact vec_m60 hzv hlv hxv⟩, hVD⟩⟩
    · refine l_p rfl rfl ?_
      refine l_p rfl rfl ?_
      refine l_l rfl rfl rfl ?_
      refine l_l rfl rfl rfl ?_
      refine l_nil ?_
      refine c_false rfl ?_
      refine c_skip ?_
      refine c_seq ?_
      refine c_seq ?_
      refine c_region ?_
      refine l_l rfl rfl rfl ?_
      refine l_l rfl rfl rfl ?_
      refine l_b rfl rfl rfl (fun h12 => ?_) (fun h12 => ?_)
      · refine l_l rfl rfl rfl ?_
        refine l_l rfl rfl rfl ?_
        refine l_l rfl rfl rfl ?_
        refine l_l (light_fa rfl rfl) rfl rfl ?_
        refine l_x (x_load rfl rfl (at_own (by repeat (first | exact .head _ | refine .tail _ ?_ | refine List.mem_append_right _ ?_)) (by rfl))) rfl rfl ?_
        rintro _ _ ⟨rfl, rfl⟩
        refine l_l rfl rfl rfl ?_
        refine l_as (v := (.int .i64 ((ws.length - 1 : Nat) : Int))) rfl rfl rfl (congrArg _ (len1 (by (try simp only [decide_eq_true_eq, decide_eq_false_iff_not, beq_iff_eq, beq_eq_false_iff_ne, bne_iff_ne, bne_eq_false_iff_eq, ne_eq] at *); omega) (by (try simp only [decide_eq_true_eq, decide_eq_false_iff_not, beq_iff_eq, beq_eq_false_iff_ne, bne_iff_ne, bne_eq_false_iff_eq, ne_eq] at *); omega))) ?_
        obtain ⟨br, off, rfl, hr⟩ := hE (by (try simp only [decide_eq_true_eq, decide_eq_false_iff_not, beq_iff_eq, beq_eq_false_iff_ne, bne_iff_ne, bne_eq_false_iff_eq, ne_eq] at *); omega)
        refine l_l (idx_slice (ws.length - 1) rfl rfl rfl rfl (by (try simp only [decide_eq_true_eq, decide_eq_false_iff_not, beq_iff_eq, beq_eq_false_iff_ne, bne_iff_ne, bne_eq_false_iff_eq, ne_eq] at *); omega)) rfl rfl ?_
        refine l_l (light_fa rfl rfl) rfl rfl ?_
        refine l_x (x_load rfl rfl (fun w hw => last_at (by (try simp only [decide_eq_true_eq, decide_eq_false_iff_not, beq_iff_eq, beq_eq_false_iff_ne, bne_iff_ne, bne_eq_false_iff_eq, ne_eq] at *); omega) (hr w (fun x hx => hw.holds x (.tail _ hx))))) rfl rfl ?_
        rintro _ _ ⟨rfl, rfl⟩
        refine l_l rfl rfl rfl ?_
        refine l_l rfl rfl rfl ?_
        refine l_nil ?_
        refine c_cond rfl (fun h13 => ?_) (fun h13 => ?_)
        · refine c_seq ?_
          refine c_region ?_
          refine l_l rfl rfl rfl ?_
          refine l_nil ?_
          refine c_ret ?_
          exact l_end (fun _ _ => rets_v rfl) (List.Sublist.refl _) ⟨congrArg _ (addErr_same (by (try simp only [decide_eq_true_eq, decide_eq_false_iff_not, beq_iff_eq, beq_eq_false_iff_ne, bne_iff_ne, bne_eq_false_iff_eq, ne_eq] at *); omega) (by (try simp only [decide_eq_true_eq, decide_eq_false_iff_not, beq_iff_eq, beq_eq_false_iff_ne, bne_iff_ne, bne_eq_false_iff_eq, ne_eq] at *); omega) (by (try simp only [decide_eq_true_eq, decide_eq_false_iff_not, beq_iff_eq, beq_eq_false_iff_ne, bne_iff_ne, bne_eq_false_iff_eq, ne_eq] at *); omega)).symm, .inl ⟨by rw [addErr_same (by (try simp only [decide_eq_true_eq, decide_eq_false_iff_not, beq_iff_eq, beq_eq_false_iff_ne, bne_iff_ne, bne_eq_false_iff_eq, ne_eq] at *); omega) (by (try simp only [decide_eq_true_eq, decide_eq_false_iff_not, beq_iff_eq, beq_eq_false_iff_ne, bne_iff_ne, bne_eq_false_iff_eq, ne_eq] at *); omega) (by (try simp only [decide_eq_true_eq, decide_eq_false_iff_not, beq_iff_eq, beq_eq_false_iff_ne, bne_iff_ne, bne_eq_false_iff_eq, ne_eq] at *); omega)]; decide, rfl⟩⟩
        · refine c_skip ?_
          refine c_cut (σ := RS) [40, 41, 42, 43, 44, 45, 46, 47, 48, 49, 50, 51, 52, 53, 54, 55] (fun s => []) (fun s => (b, blk [s.v, .int .i64 cap, .bool lack] 47) :: (s.G ++ s.D)) (fun s => l.length ≤ s.c ∧ Vec 60 2 s.v (ws ++ [Mark.mk x s.am s.c l]).length (flat cm (ws ++ [Mark.mk x s.am s.c l])) s.G ∧ Byt l (.slice s.am l.length s.c) s.D) ?_ ?_
          · obtain ⟨bv, cpv, spv, hv9, hG9, hzv, hlv2, hxv⟩ := vec_some hV (by (try simp only [decide_eq_true_eq, decide_eq_false_iff_not, beq_iff_eq, beq_eq_false_iff_ne, bne_iff_ne, bne_eq_false_iff_eq, ne_eq] at *); omega)
            rcases hB with ⟨rfl, rfl⟩ | ⟨bd, od, rfl, hbd, hrd⟩
            · refine c_region ?_
              cases hv9
              subst hG9
              obtain rfl := hc0 rfl
              refine l_l rfl rfl rfl ?_
              refine l_x (x_slc0 (el := 60) (n := 2) rfl) rfl rfl ?_
              rintro _ _ ⟨b41, rfl, rfl⟩
              refine l_l rfl rfl rfl ?_
              refine l_l rfl rfl rfl ?_
              refine l_l (light_fa rfl rfl) rfl rfl ?_
              refine l_x (x_load rfl rfl (at_own (by repeat (first | exact .head _ | refine .tail _ ?_ | refine List.mem_append_right _ ?_)) (by rfl))) rfl rfl ?_
              rintro _ _ ⟨rfl, rfl⟩
              refine l_x (x_append (A := []) (G := [(b41, blk [] 60)]) (R := _) (v := .slice (some ⟨b41, 0, none⟩) 0 0) (n := 0) (xs := []) (m := ws.length) (T := 60) (s := 2) (by_ := 32) (ys := flat cm ws) rfl rfl rfl rfl (.row b41 0 0 [] [] rfl rfl (by decide) (Nat.le_refl 0)) (fun w hw => .row _ _ _ _ _ (flat_len cm_len ws) (row_own (by repeat (first | exact .head _ | refine .tail _ ?_ | refine List.mem_append_right _ ?_)) w hw).left) (ones_flat _) (by omega) (by omega)) rfl rfl ?_
              rintro v46 _ ⟨G46, hV46, hn46, rfl⟩
              refine l_l rfl rfl rfl ?_
              refine l_x (x_slc0 (el := 5) (n := 1) rfl) rfl rfl ?_
              rintro _ _ ⟨b48, rfl, rfl⟩
              refine l_l rfl rfl rfl ?_
              refine l_x (x_append0 rfl rfl rfl rfl (Nat.le_refl 0)) rfl rfl ?_
              rintro _ _ ⟨rfl, rfl⟩
              refine l_l (light_struct rfl rfl rfl rfl) rfl rfl ?_
              refine l_x (x_slc rfl rfl rfl rfl rfl rfl) rfl rfl ?_
              rintro _ _ ⟨b52, rfl, rfl⟩
              refine l_x (x_append (A := (b52, blk (cm (Mark.mk x (some ⟨b48, 0, none⟩) 0 [])) 60) :: [(b48, blk [] 5)]) (G := G46) (R := _) (v := v46) (n := 0 + ws.length) (m := 1) (T := 60) (s := 2) (by_ := 32) (ys := cm (Mark.mk x (some ⟨b48, 0, none⟩) 0 [])) rfl rfl rfl rfl hV46 (fun w hw => .row _ _ _ _ _ rfl (row_own (.head _) w hw)) rfl (by omega) (by omega)) rfl rfl ?_
              rintro v53 _ ⟨G53, hV53, hn53, rfl⟩
              refine l_heap (H' := (b, _) :: (G53 ++ [(b48, blk [] 5)])) (fun _ h => St.fl [G53, [_], [(b48, blk [] 5)], [_], [_]] [3, 0, 2] rfl h) ?_
              obtain ⟨a53, c53, rfl⟩ := hV53.slice
              refine l_l rfl rfl rfl ?_
              refine l_l (light_fa rfl rfl) rfl rfl ?_
              refine l_x (by first | exact x_store 0 rfl rfl rfl rfl rfl rfl (by first | rfl | exact Nat.le_of_ble_eq_true rfl | (simp; done)) | exact x_store 1 rfl rfl rfl rfl rfl rfl (by first | rfl | exact Nat.le_of_ble_eq_true rfl | (simp; done)) | exact x_store 2 rfl rfl rfl rfl rfl rfl (by first | rfl | exact Nat.le_of_ble_eq_true rfl | (simp; done)) | exact x_store 3 rfl rfl rfl rfl rfl rfl (by first | rfl | exact Nat.le_of_ble_eq_true rfl | (simp; done))) rfl rfl ?_
              rintro _ _ ⟨rfl, rfl⟩
              refine l_nil ?_
              exact ⟨RS.mk (some ⟨b48, 0, none⟩) 0 _ G53 ([(b48, blk [] 5)]), ⟨Nat.le_refl 0, vec_as hV53 (by simp) (by rw [flat_snoc, List.nil_append]), (.row b48 0 0 [] [] rfl rfl (by decide) (Nat.le_refl 0))⟩, .nil, (by repeat (first | exact Agree.refl _ _ | exact Agree.mix rfl | refine Agree.put rfl ?_ | refine Agree.keep rfl ?_)), fun _ h => h⟩
            · refine c_region ?_
              cases hv9
              subst hG9
              refine l_l rfl rfl rfl ?_
              refine l_x (x_slc0 (el := 60) (n := 2) rfl) rfl rfl ?_
              rintro _ _ ⟨b41, rfl, rfl⟩
              refine l_l rfl rfl rfl ?_
              refine l_l rfl rfl rfl ?_
              refine l_l (light_fa rfl rfl) rfl rfl ?_
              refine l_x (x_load rfl rfl (at_own (by repeat (first | exact .head _ | refine .tail _ ?_ | refine List.mem_append_right _ ?_)) (by rfl))) rfl rfl ?_
              rintro _ _ ⟨rfl, rfl⟩
              refine l_x (x_append (A := []) (G := [(b41, blk [] 60)]) (R := _) (v := .slice (some ⟨b41, 0, none⟩) 0 0) (n := 0) (xs := []) (m := ws.length) (T := 60) (s := 2) (by_ := 32) (ys := flat cm ws) rfl rfl rfl rfl (.row b41 0 0 [] [] rfl rfl (by decide) (Nat.le_refl 0)) (fun w hw => .row _ _ _ _ _ (flat_len cm_len ws) (row_own (by repeat (first | exact .head _ | refine .tail _ ?_ | refine List.mem_append_right _ ?_)) w hw).left) (ones_flat _) (by omega) (by omega)) rfl rfl ?_
              rintro v46 _ ⟨G46, hV46, hn46, rfl⟩
              refine l_l rfl rfl rfl ?_
              refine l_x (x_slc0 (el := 5) (n := 1) rfl) rfl rfl ?_
              rintro _ _ ⟨b48, rfl, rfl⟩
              refine l_l rfl rfl rfl ?_
              refine l_x (x_append (A := []) (G := [(b48, blk [] 5)]) (R := _) (v := .slice (some ⟨b48, 0, none⟩) 0 0) (n := 0) (xs := []) (m := l.length) (T := 5) (s := 1) (by_ := 1) (ys := l.map (.int .u8)) rfl rfl rfl rfl (.row b48 0 0 [] [] rfl rfl (by decide) (Nat.le_refl 0)) (fun w hw => .row _ _ _ _ _ (by simp : (l.map (Value.int .u8)).length = l.length * 1) (row_old hrd hbd w hw)) (ones_int _ _) (by omega) (by omega)) rfl rfl ?_
              rintro v50 _ ⟨G50, hV50, hn50, rfl⟩
              rw [Nat.zero_add, List.nil_append] at hV50
              obtain ⟨a50, c50, rfl, hc50, hB50⟩ := Byt.slice hV50
              refine l_l (light_struct rfl rfl rfl rfl) rfl rfl ?_
              refine l_x (x_slc rfl rfl rfl rfl rfl rfl) rfl rfl ?_
              rintro _ _ ⟨b52, rfl, rfl⟩
              refine l_x (x_append (A := (b52, blk (cm (Mark.mk x a50 c50 l)) 60) :: G50) (G := G46) (R := _) (v := v46) (n := 0 + ws.length) (m := 1) (T := 60) (s := 2) (by_ := 32) (ys := cm (Mark.mk x a50 c50 l)) rfl rfl rfl rfl hV46 (fun w hw => .row _ _ _ _ _ rfl (row_own (.head _) w hw)) rfl (by omega) (by omega)) rfl rfl ?_
              rintro v53 _ ⟨G53, hV53, hn53, rfl⟩
              refine l_heap (H' := (b, _) :: (G53 ++ G50)) (fun _ h => St.fl [G53, [_], G50, [_], [_]] [3, 0, 2] rfl h) ?_
              obtain ⟨a53, c53, rfl⟩ := hV53.slice
              refine l_l rfl rfl rfl ?_
              refine l_l (light_fa rfl rfl) rfl rfl ?_
              refine l_x (by first | exact x_store 0 rfl rfl rfl rfl rfl rfl (by first | rfl | exact Nat.le_of_ble_eq_true rfl | (simp; done)) | exact x_store 1 rfl rfl rfl rfl rfl rfl (by first | rfl | exact Nat.le_of_ble_eq_true rfl | (simp; done)) | exact x_store 2 rfl rfl rfl rfl rfl rfl (by first | rfl | exact Nat.le_of_ble_eq_true rfl | (simp; done)) | exact x_store 3 rfl rfl rfl rfl rfl rfl (by first | rfl | exact Nat.le_of_ble_eq_true rfl | (simp; done))) rfl rfl ?_
              rintro _ _ ⟨rfl, rfl⟩
              refine l_nil ?_
              exact ⟨RS.mk a50 c50 _ G53 (G50), ⟨hc50, vec_as hV53 (by simp) (by rw [flat_snoc, List.nil_append]), hV50⟩, .nil, (by repeat (first | exact Agree.refl _ _ | exact Agree.mix rfl | refine Agree.put rfl ?_ | refine Agree.keep rfl ?_)), fun _ h => h⟩
          · rintro ⟨am, cc, v, G, D⟩ y6 ⟨g1, hV, hVD⟩
            dsimp only at g1 hV hVD ⊢
            refine c_seq ?_
            refine c_seq ?_
            have hok : addErr ws x = 0 := addErr_ok (by (try simp only [decide_eq_true_eq, decide_eq_false_iff_not, beq_iff_eq, beq_eq_false_iff_ne, bne_iff_ne, bne_eq_false_iff_eq, ne_eq] at *); omega) (fun hz' => by (try simp only [decide_eq_true_eq, decide_eq_false_iff_not, beq_iff_eq, beq_eq_false_iff_ne, bne_iff_ne, bne_eq_false_iff_eq, ne_eq] at *); omega) (fun hz' => by (try simp only [decide_eq_true_eq, decide_eq_false_iff_not, beq_iff_eq, beq_eq_false_iff_ne, bne_iff_ne, bne_eq_false_iff_eq, ne_eq] at *); omega)
            obtain ⟨av2, cv2, rfl⟩ := hV.slice
            refine c_region ?_
            refine l_l rfl rfl rfl ?_
            refine l_l rfl rfl rfl ?_
            refine l_l (light_fa rfl rfl) rfl rfl ?_
            refine l_x (x_load rfl rfl (at_own (by repeat (first | exact .head _ | refine .tail _ ?_ | refine List.mem_append_right _ ?_)) (by rfl))) rfl rfl ?_
            rintro _ _ ⟨rfl, rfl⟩
            refine l_l (by first | exact light_len rfl rfl | exact light_lens rfl rfl | rfl) rfl rfl ?_
            refine l_as (v := (.int .i64 ((ws.length : Int) - 1))) rfl rfl rfl (congrArg _ (by rw [List.length_append, List.length_singleton, wrap_i64 (by omega) (by omega)]; omega)) ?_
            refine l_l rfl rfl rfl ?_
            refine l_nil ?_
            refine c_block ?_
            refine c_loop (σ := RT) [8, 9, 62, 63, 64, 65, 66, 67, 68, 69, 70, 71, 72, 73, 74, 75, 76, 77, 78, 79, 80, 81, 82, 83, 84, 85, 86, 87, 88, 89, 90, 91, 92, 93, 94, 95, 96, 97, 98, 99, 100, 101, 102, 103, 104, 105, 106, 107] (fun s => [(8, .int .i64 ((s.A.length : Int) - 1))]) (fun s => (b, blk [s.v, .int .i64 cap, .bool lack] 47) :: (s.G ++ D)) (fun s => RI (thinL (ws ++ [Mark.mk x am cc l])) x s.A s.K ∧ Vec 60 2 s.v (s.A ++ s.K).length (flat cm (s.A ++ s.K)) s.G ∧ (s.A ++ s.K).length ≤ ws.length + 1) (fun s => s.A.length) ⟨ws, [Mark.mk x am cc l], .slice av2 (ws ++ [Mark.mk x am cc l]).length cv2, G⟩ ?_ ?_ ?_ ?_
            · exact ⟨RI.start (rise_snoc hR hx (by (try simp only [decide_eq_true_eq, decide_eq_false_iff_not, beq_iff_eq, beq_eq_false_iff_ne, bne_iff_ne, bne_eq_false_iff_eq, ne_eq] at *); omega) (fun _ => by (try simp only [decide_eq_true_eq, decide_eq_false_iff_not, beq_iff_eq, beq_eq_false_iff_ne, bne_iff_ne, bne_eq_false_iff_eq, ne_eq] at *); omega)), hV, by simp⟩
            · exact .cons rfl .nil
            · exact fun _ h => h
            · rintro ⟨A, K, v, G⟩ y8 ⟨hI, hV, hln⟩
              dsimp only at hI hV hln ⊢
              have hln2 : A.length + K.length ≤ ws.length + 1 := by rw [← List.length_append]; exact hln
              refine c_seq ?_
              refine c_seq ?_
              refine c_region ?_
              refine l_l rfl rfl rfl ?_
              refine l_l rfl rfl rfl ?_
              refine l_nil ?_
              refine c_cond rfl (fun h14 => ?_) (fun h14 => ?_)
              · refine c_skip ?_
                refine c_seq ?_
                refine c_block ?_
                refine c_seq ?_
                have hA : 2 ≤ A.length := by (try simp only [decide_eq_true_eq, decide_eq_false_iff_not, beq_iff_eq, beq_eq_false_iff_ne, bne_iff_ne, bne_eq_false_iff_eq, ne_eq] at *); omega
                obtain ⟨bv, cpv, spv, rfl, rfl, hzv, hlv, hxv⟩ := vec_some hV (by rw [List.length_append]; have := hI.pos; omega)
                refine c_draw _ [4, 5, 9, 10, 11, 12, 13, 14, 15, 16, 17] (.step true 0 (.step true 1 (.step true 2 (.step true 3 (.step true 4 (.step true 5 (.step true 6 (.step true 7 (.step true 8 (.step true 9 (.step true 10 (.step true 11 (.step true 12 (.step true 13 (.step true 14 (.step true 15 (.step true 16 (.step true 17 (.step true 18 (.step true 19 .done)))))))))))))))))))) rfl (by kernel_rfl) (by kernel_rfl) (fun _ h => h) ?_
                refine d_light rfl rfl rfl rfl rfl ?_
                refine d_light rfl rfl rfl rfl rfl ?_
                refine d_light rfl (light_fa rfl rfl) rfl rfl rfl ?_
                refine d_load rfl rfl rfl (s_own (by repeat (first | exact .head _ | refine .tail _ ?_ | refine List.mem_append_right _ ?_)) (by rfl)) rfl rfl ?_
                refine d_light rfl rfl rfl rfl rfl ?_
                refine d_as (v := (.int .i64 (A.length : Nat))) rfl rfl rfl rfl rfl (congrArg _ (by rw [wrap_i64 (by omega) (by omega)]; omega)) ?_
                refine d_light rfl (idx_slice A.length rfl rfl rfl rfl (by rw [List.length_append]; have := hI.pos; omega)) rfl rfl rfl ?_
                refine d_light rfl (light_fa rfl rfl) rfl rfl rfl ?_
                refine d_load rfl rfl rfl (fun w hw => mark_t (srow_own (by repeat (first | exact .head _ | refine .tail _ ?_ | refine List.mem_append_right _ ?_)) w hw).left (by rw [List.length_append]; have := hI.pos; omega)) rfl rfl ?_
                refine d_light rfl rfl rfl rfl rfl ?_
                refine d_light rfl rfl rfl rfl rfl ?_
                refine d_light rfl (light_fa rfl rfl) rfl rfl rfl ?_
                refine d_load rfl rfl rfl (s_own (by repeat (first | exact .head _ | refine .tail _ ?_ | refine List.mem_append_right _ ?_)) (by rfl)) rfl rfl ?_
                refine d_light rfl rfl rfl rfl rfl ?_
                refine d_as (v := (.int .i64 ((A.length - 2 : Nat) : Int))) rfl rfl rfl rfl rfl (congrArg _ (by rw [wrap_i64 (by omega) (by omega)]; omega)) ?_
                refine d_light rfl (idx_slice (A.length - 2) rfl rfl rfl rfl (by rw [List.length_append]; have := hI.pos; omega)) rfl rfl rfl ?_
                refine d_light rfl (light_fa rfl rfl) rfl rfl rfl ?_
                refine d_load rfl rfl rfl (fun w hw => mark_t (srow_own (by repeat (first | exact .head _ | refine .tail _ ?_ | refine List.mem_append_right _ ?_)) w hw).left (by rw [List.length_append]; have := hI.pos; omega)) rfl rfl ?_
                refine d_light rfl rfl rfl rfl rfl ?_
                refine d_light rfl rfl rfl rfl rfl ?_
                refine d_nil ?_
                refine c_seq ?_
                refine c_region ?_
                refine l_l rfl rfl rfl ?_
                refine l_l rfl rfl rfl ?_
                refine l_l rfl rfl rfl ?_
                refine l_l rfl rfl rfl ?_
                refine l_l rfl rfl rfl ?_
                refine l_l (light_fa rfl rfl) rfl rfl ?_
                refine l_x (x_load rfl rfl (at_own (by repeat (first | exact .head _ | refine .tail _ ?_ | refine List.mem_append_right _ ?_)) (by rfl))) rfl rfl ?_
                rintro _ _ ⟨rfl, rfl⟩
                refine l_l rfl rfl rfl ?_
                refine l_as (v := (.int .i64 (A.length : Nat))) rfl rfl rfl (congrArg _ (by rw [wrap_i64 (by omega) (by omega)]; omega)) ?_
                refine l_l (idx_slice A.length rfl rfl rfl rfl (by rw [List.length_append]; have := hI.pos; omega)) rfl rfl ?_
                refine l_l (light_fa rfl rfl) rfl rfl ?_
                refine l_x (x_load rfl rfl (fun w hw => mark_t (row_own (by repeat (first | exact .head _ | refine .tail _ ?_ | refine List.mem_append_right _ ?_)) w hw).left (by rw [List.length_append]; have := hI.pos; omega))) rfl rfl ?_
                rintro _ _ ⟨rfl, rfl⟩
                refine l_l rfl rfl rfl ?_
                refine l_l rfl rfl rfl ?_
                refine l_nil ?_
                refine c_cond rfl (fun h15 => ?_) (fun h15 => ?_)
                · have hdr := hI.drop hA (of_decide_eq_true ((rcond hI hA).symm.trans h15))
                  refine c_region ?_
                  refine l_l rfl rfl rfl ?_
                  refine l_l rfl rfl rfl ?_
                  refine l_l rfl rfl rfl ?_
                  refine l_l (light_fa rfl rfl) rfl rfl ?_
                  refine l_x (x_load rfl rfl (at_own (by repeat (first | exact .head _ | refine .tail _ ?_ | refine List.mem_append_right _ ?_)) (by rfl))) rfl rfl ?_
                  rintro _ _ ⟨rfl, rfl⟩
                  refine l_as (v := (.int .i64 ((A.length - 1 : Nat) : Int))) rfl rfl rfl (congrArg _ (by omega)) ?_
                  refine l_x (x_call call_24 rfl (fun w hw => without_fn _ cpv (A ++ K) (A.length - 1) (by rw [List.length_append]; have := hI.pos; omega) hlv (by omega) w (fun _ => ⟨_, _, rfl, (row_own (by repeat (first | exact .head _ | refine .tail _ ?_ | refine List.mem_append_right _ ?_)) w hw).left⟩))) rfl rfl ?_
                  rintro v105 _ ⟨G105, hV105, rfl⟩
                  rw [hdr.2] at hV105
                  obtain ⟨b105, c105, sp105, rfl, rfl, hz105, hl105, hx105⟩ := vec_some hV105 (by rw [List.length_append]; have := hI.pos; omega)
                  refine l_l rfl rfl rfl ?_
                  refine l_l (light_fa rfl rfl) rfl rfl ?_
                  refine l_x (by first | exact x_store 0 rfl rfl rfl rfl rfl rfl (by first | rfl | exact Nat.le_of_ble_eq_true rfl | (simp; done)) | exact x_store 1 rfl rfl rfl rfl rfl rfl (by first | rfl | exact Nat.le_of_ble_eq_true rfl | (simp; done)) | exact x_store 2 rfl rfl rfl rfl rfl rfl (by first | rfl | exact Nat.le_of_ble_eq_true rfl | (simp; done)) | exact x_store 3 rfl rfl rfl rfl rfl rfl (by first | rfl | exact Nat.le_of_ble_eq_true rfl | (simp; done))) rfl rfl ?_
                  rintro _ _ ⟨rfl, rfl⟩
                  refine l_nil ?_
                  refine c_region ?_
                  refine l_l rfl rfl rfl ?_
                  refine l_l rfl rfl rfl ?_
                  refine l_l rfl rfl rfl ?_
                  refine l_nil ?_
                  exact ⟨⟨A.dropLast, K, _, _⟩, ⟨hdr.1, vec_m60 hz105 hl105 hx105, by dsimp only; simp only [List.length_append, List.length_dropLast]; omega⟩, by dsimp only; rw [List.length_dropLast]; omega, .cons (congrArg _ (down_law hA (by omega))) .nil, (by repeat (first | exact Agree.refl _ _ | exact Agree.mix rfl | refine Agree.put rfl ?_ | refine Agree.keep rfl ?_)), fun _ h => St.fl [[_], [_], [_], D] [1, 0, 3] rfl h⟩
                · refine c_skip ?_
                  refine c_region ?_
                  refine l_l rfl rfl rfl ?_
                  refine l_l rfl rfl rfl ?_
                  refine l_l rfl rfl rfl ?_
                  refine l_nil ?_
                  obtain ⟨m9, hI9, he9⟩ := hI.keep hA (of_decide_eq_false ((rcond hI hA).symm.trans h15))
                  exact ⟨⟨A.dropLast, m9 :: K, _, _⟩, ⟨hI9, by rw [← he9]; exact vec_m60 hzv hlv hxv, by rw [← he9]; exact hln⟩, by dsimp only; rw [List.length_dropLast]; omega, .cons (congrArg _ (down_law hA (by omega))) .nil, (by repeat (first | exact Agree.refl _ _ | exact Agree.mix rfl | refine Agree.put rfl ?_ | refine Agree.keep rfl ?_)), fun _ h => h⟩
              · refine c_exit rfl ?_
                refine c_seq ?_
                refine c_block ?_
                refine c_loop (σ := RU) [108, 109, 110, 111, 112, 113, 114, 115, 116, 117, 118, 119, 120, 121, 122, 123, 124, 125, 126, 127, 128] (fun s => []) (fun s => (b, blk [s.v, .int .i64 cap, .bool s.lk] 47) :: (s.G ++ D)) (fun s => CI cap.toNat (thinL (ws ++ [Mark.mk x am cc l])) lack s.ws s.lk ∧ Vec 60 2 s.v s.ws.length (flat cm s.ws) s.G ∧ s.ws.length ≤ ws.length + 1) (fun s => s.ws.length) ⟨A ++ K, v, G, lack⟩ ?_ ?_ ?_ ?_
                · exact (by have htt := hI.done (by (try simp only [decide_eq_true_eq, decide_eq_false_iff_not, beq_iff_eq, beq_eq_false_iff_ne, bne_iff_ne, bne_eq_false_iff_eq, ne_eq] at *); omega); dsimp only; rw [htt]; exact ⟨.start (by have := hI.pos; rw [List.length_append]; omega), hV, hln⟩)
                · exact .nil
                · exact fun _ h => h
                · rintro ⟨cur, v, G, lk⟩ y13 ⟨hC, hV, hln⟩
                  dsimp only at hC hV hln ⊢
                  refine c_seq ?_
                  refine c_seq ?_
                  obtain ⟨bv, cpv, spv, rfl, rfl, hzv, hlv, hxv⟩ := vec_some hV (by have := hC.pos; omega)
                  refine c_draw _ [5, 6, 7, 8] (.step true 0 (.step true 1 (.step true 2 (.step true 3 (.step true 4 (.step true 5 (.step true 6 (.step true 7 (.step true 8 (.step true 9 .done)))))))))) rfl (by kernel_rfl) (by kernel_rfl) (fun _ h => h) ?_
                  refine d_light rfl rfl rfl rfl rfl ?_
                  refine d_light rfl rfl rfl rfl rfl ?_
                  refine d_light rfl (light_fa rfl rfl) rfl rfl rfl ?_
                  refine d_load rfl rfl rfl (s_own (by repeat (first | exact .head _ | refine .tail _ ?_ | refine List.mem_append_right _ ?_)) (by rfl)) rfl rfl ?_
                  refine d_light rfl (by first | exact light_len rfl rfl | exact light_lens rfl rfl | rfl) rfl rfl rfl ?_
                  refine d_light rfl rfl rfl rfl rfl ?_
                  refine d_light rfl rfl rfl rfl rfl ?_
                  refine d_light rfl (light_fa rfl rfl) rfl rfl rfl ?_
                  refine d_load rfl rfl rfl (s_own (by repeat (first | exact .head _ | refine .tail _ ?_ | refine List.mem_append_right _ ?_)) (by rfl)) rfl rfl ?_
                  refine d_light rfl rfl rfl rfl rfl ?_
                  refine d_nil ?_
                  refine c_cond rfl (fun h16 => ?_) (fun h16 => ?_)
                  · refine c_skip ?_
                    refine c_block ?_
                    refine c_seq ?_
                    refine c_region ?_
                    refine l_l rfl rfl rfl ?_
                    refine l_l rfl rfl rfl ?_
                    refine l_l rfl rfl rfl ?_
                    refine l_l (light_fa rfl rfl) rfl rfl ?_
                    refine l_x (x_load rfl rfl (at_own (by repeat (first | exact .head _ | refine .tail _ ?_ | refine List.mem_append_right _ ?_)) (by rfl))) rfl rfl ?_
                    rintro _ _ ⟨rfl, rfl⟩
                    refine l_x (x_call call_24 rfl (fun w hw => without_fn _ cpv cur 1 (by (try simp only [decide_eq_true_eq, decide_eq_false_iff_not, beq_iff_eq, beq_eq_false_iff_ne, bne_iff_ne, bne_eq_false_iff_eq, ne_eq] at *); omega) hlv (by omega) w (fun _ => ⟨_, _, rfl, (row_own (by repeat (first | exact .head _ | refine .tail _ ?_ | refine List.mem_append_right _ ?_)) w hw).left⟩))) rfl rfl ?_
                    rintro v105 _ ⟨G123, hV105, rfl⟩
                    obtain ⟨b105, c105, sp105, rfl, rfl, hz105, hl105, hx105⟩ := vec_some hV105 (by rw [erase_len (by (try simp only [decide_eq_true_eq, decide_eq_false_iff_not, beq_iff_eq, beq_eq_false_iff_ne, bne_iff_ne, bne_eq_false_iff_eq, ne_eq] at *); omega)]; (try simp only [decide_eq_true_eq, decide_eq_false_iff_not, beq_iff_eq, beq_eq_false_iff_ne, bne_iff_ne, bne_eq_false_iff_eq, ne_eq] at *); omega)
                    refine l_l rfl rfl rfl ?_
                    refine l_l (light_fa rfl rfl) rfl rfl ?_
                    refine l_x (by first | exact x_store 0 rfl rfl rfl rfl rfl rfl (by first | rfl | exact Nat.le_of_ble_eq_true rfl | (simp; done)) | exact x_store 1 rfl rfl rfl rfl rfl rfl (by first | rfl | exact Nat.le_of_ble_eq_true rfl | (simp; done)) | exact x_store 2 rfl rfl rfl rfl rfl rfl (by first | rfl | exact Nat.le_of_ble_eq_true rfl | (simp; done)) | exact x_store 3 rfl rfl rfl rfl rfl rfl (by first | rfl | exact Nat.le_of_ble_eq_true rfl | (simp; done))) rfl rfl ?_
                    rintro _ _ ⟨rfl, rfl⟩
                    refine l_nil ?_
                    refine c_region ?_
                    refine l_l rfl rfl rfl ?_
                    refine l_l rfl rfl rfl ?_
                    refine l_l (light_fa rfl rfl) rfl rfl ?_
                    refine l_x (by first | exact x_store 0 rfl rfl rfl rfl rfl rfl (by first | rfl | exact Nat.le_of_ble_eq_true rfl | (simp; done)) | exact x_store 1 rfl rfl rfl rfl rfl rfl (by first | rfl | exact Nat.le_of_ble_eq_true rfl | (simp; done)) | exact x_store 2 rfl rfl rfl rfl rfl rfl (by first | rfl | exact Nat.le_of_ble_eq_true rfl | (simp; done)) | exact x_store 3 rfl rfl rfl rfl rfl rfl (by first | rfl | exact Nat.le_of_ble_eq_true rfl | (simp; done))) rfl rfl ?_
                    rintro _ _ ⟨rfl, rfl⟩
                    refine l_nil ?_
                    exact ⟨⟨cur.eraseIdx 1, _, _, true⟩, ⟨hC.step (by omega) (by (try simp only [decide_eq_true_eq, decide_eq_false_iff_not, beq_iff_eq, beq_eq_false_iff_ne, bne_iff_ne, bne_eq_false_iff_eq, ne_eq] at *); omega), vec_m60 hz105 hl105 hx105, by dsimp only; rw [erase_len (by (try simp only [decide_eq_true_eq, decide_eq_false_iff_not, beq_iff_eq, beq_eq_false_iff_ne, bne_iff_ne, bne_eq_false_iff_eq, ne_eq] at *); omega)]; omega⟩, by dsimp only; rw [erase_len (by (try simp only [decide_eq_true_eq, decide_eq_false_iff_not, beq_iff_eq, beq_eq_false_iff_ne, bne_iff_ne, bne_eq_false_iff_eq, ne_eq] at *); omega)]; (try simp only [decide_eq_true_eq, decide_eq_false_iff_not, beq_iff_eq, beq_eq_false_iff_ne, bne_iff_ne, bne_eq_false_iff_eq, ne_eq] at *); omega, .nil, (by repeat (first | exact Agree.refl _ _ | exact Agree.mix rfl | refine Agree.put rfl ?_ | refine Agree.keep rfl ?_)), fun _ h => St.fl [[_], [_], [_], D] [1, 0, 3] rfl h⟩
                  · refine c_exit rfl ?_
                    refine c_seq ?_
                    refine c_region ?_
                    refine l_l rfl rfl rfl ?_
                    refine l_nil ?_
                    refine c_ret ?_
                    obtain ⟨hcut, hlk⟩ := hC.done (by (try simp only [decide_eq_true_eq, decide_eq_false_iff_not, beq_iff_eq, beq_eq_false_iff_ne, bne_iff_ne, bne_eq_false_iff_eq, ne_eq] at *); omega)
                    subst hlk
                    exact l_end (fun _ _ => rets_v rfl) (List.Sublist.refl _) ⟨congrArg _ hok.symm, .inr ⟨hok, (Mark.mk x am cc l), [_, _], D, rfl, rfl, g1, rfl, ⟨_, _, rfl, by unfold addM; rw [hcut]; exact vec_m60 hzv hlv hxv⟩, hVD⟩⟩
      · refine l_p rfl rfl ?_
        refine l_p rfl rfl ?_
        refine l_p rfl rfl ?_
        refine l_p rfl rfl ?_
        refine l_p rfl rfl ?_
        refine l_p rfl rfl ?_
        refine l_p rfl rfl ?_
        refine l_p rfl rfl ?_
        refine l_p rfl rfl ?_
        refine l_p rfl rfl ?_
        refine l_p rfl rfl ?_
        refine l_l rfl rfl rfl ?_
        refine l_nil ?_
        refine c_false rfl ?_
        refine c_skip ?_
        refine c_cut (σ := RS) [40, 41, 42, 43, 44, 45, 46, 47, 48, 49, 50, 51, 52, 53, 54, 55] (fun s => []) (fun s => (b, blk [s.v, .int .i64 cap, .bool lack] 47) :: (s.G ++ s.D)) (fun s => l.length ≤ s.c ∧ Vec 60 2 s.v (ws ++ [Mark.mk x s.am s.c l]).length (flat cm (ws ++ [Mark.mk x s.am s.c l])) s.G ∧ Byt l (.slice s.am l.length s.c) s.D) ?_ ?_
        · rcases vec_or hV with ⟨hv9, hn9, hx9, hG9⟩ | ⟨bv, cpv, spv, hv9, hG9, hzv, hlv2, hxv⟩ <;> rcases hB with ⟨rfl, rfl⟩ | ⟨bd, od, rfl, hbd, hrd⟩
          · refine c_region ?_
            obtain rfl := List.eq_nil_of_length_eq_zero hn9
            cases hv9
            subst hG9
            obtain rfl := hc0 rfl
            refine l_l rfl rfl rfl ?_
            refine l_x (x_slc0 (el := 60) (n := 2) rfl) rfl rfl ?_
            rintro _ _ ⟨b41, rfl, rfl⟩
            refine l_l rfl rfl rfl ?_
            refine l_l rfl rfl rfl ?_
            refine l_l (light_fa rfl rfl) rfl rfl ?_
            refine l_x (x_load rfl rfl (at_own (by repeat (first | exact .head _ | refine .tail _ ?_ | refine List.mem_append_right _ ?_)) (by rfl))) rfl rfl ?_
            rintro _ _ ⟨rfl, rfl⟩
            refine l_x (x_append0 rfl rfl rfl rfl (Nat.le_refl 0)) rfl rfl ?_
            rintro _ _ ⟨rfl, rfl⟩
            refine l_l rfl rfl rfl ?_
            refine l_x (x_slc0 (el := 5) (n := 1) rfl) rfl rfl ?_
            rintro _ _ ⟨b48, rfl, rfl⟩
            refine l_l rfl rfl rfl ?_
            refine l_x (x_append0 rfl rfl rfl rfl (Nat.le_refl 0)) rfl rfl ?_
            rintro _ _ ⟨rfl, rfl⟩
            refine l_l (light_struct rfl rfl rfl rfl) rfl rfl ?_
            refine l_x (x_slc rfl rfl rfl rfl rfl rfl) rfl rfl ?_
            rintro _ _ ⟨b52, rfl, rfl⟩
            refine l_x (x_append (A := (b52, blk (cm (Mark.mk x (some ⟨b48, 0, none⟩) 0 [])) 60) :: [(b48, blk [] 5)]) (G := [(b41, blk [] 60)]) (R := _) (v := (.slice (some ⟨b41, 0, none⟩) 0 0)) (n := 0) (m := 1) (T := 60) (s := 2) (by_ := 32) (ys := cm (Mark.mk x (some ⟨b48, 0, none⟩) 0 [])) rfl rfl rfl rfl (.row b41 0 0 [] [] rfl rfl (by decide) (Nat.le_refl 0)) (fun w hw => .row _ _ _ _ _ rfl (row_own (.head _) w hw)) rfl (by omega) (by omega)) rfl rfl ?_
            rintro v53 _ ⟨G53, hV53, hn53, rfl⟩
            refine l_heap (H' := (b, _) :: (G53 ++ [(b48, blk [] 5)])) (fun _ h => St.fl [G53, [_], [(b48, blk [] 5)], [_], []] [3, 0, 2] rfl h) ?_
            obtain ⟨a53, c53, rfl⟩ := hV53.slice
            refine l_l rfl rfl rfl ?_
            refine l_l (light_fa rfl rfl) rfl rfl ?_
            refine l_x (by first | exact x_store 0 rfl rfl rfl rfl rfl rfl (by first | rfl | exact Nat.le_of_ble_eq_true rfl | (simp; done)) | exact x_store 1 rfl rfl rfl rfl rfl rfl (by first | rfl | exact Nat.le_of_ble_eq_true rfl | (simp; done)) | exact x_store 2 rfl rfl rfl rfl rfl rfl (by first | rfl | exact Nat.le_of_ble_eq_true rfl | (simp; done)) | exact x_store 3 rfl rfl rfl rfl rfl rfl (by first | rfl | exact Nat.le_of_ble_eq_true rfl | (simp; done))) rfl rfl ?_
            rintro _ _ ⟨rfl, rfl⟩
            refine l_nil ?_
            exact ⟨RS.mk (some ⟨b48, 0, none⟩) 0 _ G53 ([(b48, blk [] 5)]), ⟨Nat.le_refl 0, vec_as hV53 (by simp) (by simp [flat]), (.row b48 0 0 [] [] rfl rfl (by decide) (Nat.le_refl 0))⟩, .nil, (by repeat (first | exact Agree.refl _ _ | exact Agree.mix rfl | refine Agree.put rfl ?_ | refine Agree.keep rfl ?_)), fun _ h => h⟩
          · refine c_region ?_
            obtain rfl := List.eq_nil_of_length_eq_zero hn9
            cases hv9
            subst hG9
            refine l_l rfl rfl rfl ?_
            refine l_x (x_slc0 (el := 60) (n := 2) rfl) rfl rfl ?_
            rintro _ _ ⟨b41, rfl, rfl⟩
            refine l_l rfl rfl rfl ?_
            refine l_l rfl rfl rfl ?_
            refine l_l (light_fa rfl rfl) rfl rfl ?_
            refine l_x (x_load rfl rfl (at_own (by repeat (first | exact .head _ | refine .tail _ ?_ | refine List.mem_append_right _ ?_)) (by rfl))) rfl rfl ?_
            rintro _ _ ⟨rfl, rfl⟩
            refine l_x (x_append0 rfl rfl rfl rfl (Nat.le_refl 0)) rfl rfl ?_
            rintro _ _ ⟨rfl, rfl⟩
            refine l_l rfl rfl rfl ?_
            refine l_x (x_slc0 (el := 5) (n := 1) rfl) rfl rfl ?_
            rintro _ _ ⟨b48, rfl, rfl⟩
            refine l_l rfl rfl rfl ?_
            refine l_x (x_append (A := []) (G := [(b48, blk [] 5)]) (R := _) (v := .slice (some ⟨b48, 0, none⟩) 0 0) (n := 0) (xs := []) (m := l.length) (T := 5) (s := 1) (by_ := 1) (ys := l.map (.int .u8)) rfl rfl rfl rfl (.row b48 0 0 [] [] rfl rfl (by decide) (Nat.le_refl 0)) (fun w hw => .row _ _ _ _ _ (by simp : (l.map (Value.int .u8)).length = l.length * 1) (row_old hrd hbd w hw)) (ones_int _ _) (by omega) (by omega)) rfl rfl ?_
            rintro v50 _ ⟨G50, hV50, hn50, rfl⟩
            rw [Nat.zero_add, List.nil_append] at hV50
            obtain ⟨a50, c50, rfl, hc50, hB50⟩ := Byt.slice hV50
            refine l_l (light_struct rfl rfl rfl rfl) rfl rfl ?_
            refine l_x (x_slc rfl rfl rfl rfl rfl rfl) rfl rfl ?_
            rintro _ _ ⟨b52, rfl, rfl⟩
            refine l_x (x_append (A := (b52, blk (cm (Mark.mk x a50 c50 l)) 60) :: G50) (G := [(b41, blk [] 60)]) (R := _) (v := (.slice (some ⟨b41, 0, none⟩) 0 0)) (n := 0) (m := 1) (T := 60) (s := 2) (by_ := 32) (ys := cm (Mark.mk x a50 c50 l)) rfl rfl rfl rfl (.row b41 0 0 [] [] rfl rfl (by decide) (Nat.le_refl 0)) (fun w hw => .row _ _ _ _ _ rfl (row_own (.head _) w hw)) rfl (by omega) (by omega)) rfl rfl ?_
            rintro v53 _ ⟨G53, hV53, hn53, rfl⟩
            refine l_heap (H' := (b, _) :: (G53 ++ G50)) (fun _ h => St.fl [G53, [_], G50, [_], []] [3, 0, 2] rfl h) ?_
            obtain ⟨a53, c53, rfl⟩ := hV53.slice
            refine l_l rfl rfl rfl ?_
            refine l_l (light_fa rfl rfl) rfl rfl ?_
            refine l_x (by first | exact x_store 0 rfl rfl rfl rfl rfl rfl (by first | rfl | exact Nat.le_of_ble_eq_true rfl | (simp; done)) | exact x_store 1 rfl rfl rfl rfl rfl rfl (by first | rfl | exact Nat.le_of_ble_eq_true rfl | (simp; done)) | exact x_store 2 rfl rfl rfl rfl rfl rfl (by first | rfl | exact Nat.le_of_ble_eq_true rfl | (simp; done)) | exact x_store 3 rfl rfl rfl rfl rfl rfl (by first | rfl | exact Nat.le_of_ble_eq_true rfl | (simp; done))) rfl rfl ?_
            rintro _ _ ⟨rfl, rfl⟩
            refine l_nil ?_
            exact ⟨RS.mk a50 c50 _ G53 (G50), ⟨hc50, vec_as hV53 (by simp) (by simp [flat]), hV50⟩, .nil, (by repeat (first | exact Agree.refl _ _ | exact Agree.mix rfl | refine Agree.put rfl ?_ | refine Agree.keep rfl ?_)), fun _ h => h⟩
          · refine c_region ?_
            cases hv9
            subst hG9
            obtain rfl := hc0 rfl
            refine l_l rfl rfl rfl ?_
            refine l_x (x_slc0 (el := 60) (n := 2) rfl) rfl rfl ?_
            rintro _ _ ⟨b41, rfl, rfl⟩
            refine l_l rfl rfl rfl ?_
            refine l_l rfl rfl rfl ?_
            refine l_l (light_fa rfl rfl) rfl rfl ?_
            refine l_x (x_load rfl rfl (at_own (by repeat (first | exact .head _ | refine .tail _ ?_ | refine List.mem_append_right _ ?_)) (by rfl))) rfl rfl ?_
            rintro _ _ ⟨rfl, rfl⟩
            refine l_x (x_append (A := []) (G := [(b41, blk [] 60)]) (R := _) (v := .slice (some ⟨b41, 0, none⟩) 0 0) (n := 0) (xs := []) (m := ws.length) (T := 60) (s := 2) (by_ := 32) (ys := flat cm ws) rfl rfl rfl rfl (.row b41 0 0 [] [] rfl rfl (by decide) (Nat.le_refl 0)) (fun w hw => .row _ _ _ _ _ (flat_len cm_len ws) (row_own (by repeat (first | exact .head _ | refine .tail _ ?_ | refine List.mem_append_right _ ?_)) w hw).left) (ones_flat _) (by omega) (by omega)) rfl rfl ?_
            rintro v46 _ ⟨G46, hV46, hn46, rfl⟩
            refine l_l rfl rfl rfl ?_
            refine l_x (x_slc0 (el := 5) (n := 1) rfl) rfl rfl ?_
            rintro _ _ ⟨b48, rfl, rfl⟩
            refine l_l rfl rfl rfl ?_
            refine l_x (x_append0 rfl rfl rfl rfl (Nat.le_refl 0)) rfl rfl ?_
            rintro _ _ ⟨rfl, rfl⟩
            refine l_l (light_struct rfl rfl rfl rfl) rfl rfl ?_
            refine l_x (x_slc rfl rfl rfl rfl rfl rfl) rfl rfl ?_
            rintro _ _ ⟨b52, rfl, rfl⟩
            refine l_x (x_append (A := (b52, blk (cm (Mark.mk x (some ⟨b48, 0, none⟩) 0 [])) 60) :: [(b48, blk [] 5)]) (G := G46) (R := _) (v := v46) (n := 0 + ws.length) (m := 1) (T := 60) (s := 2) (by_ := 32) (ys := cm (Mark.mk x (some ⟨b48, 0, none⟩) 0 [])) rfl rfl rfl rfl hV46 (fun w hw => .row _ _ _ _ _ rfl (row_own (.head _) w hw)) rfl (by omega) (by omega)) rfl rfl ?_
            rintro v53 _ ⟨G53, hV53, hn53, rfl⟩
            refine l_heap (H' := (b, _) :: (G53 ++ [(b48, blk [] 5)])) (fun _ h => St.fl [G53, [_], [(b48, blk [] 5)], [_], [_]] [3, 0, 2] rfl h) ?_
            obtain ⟨a53, c53, rfl⟩ := hV53.slice
            refine l_l rfl rfl rfl ?_
            refine l_l (light_fa rfl rfl) rfl rfl ?_
            refine l_x (by first | exact x_store 0 rfl rfl rfl rfl rfl rfl (by first | rfl | exact Nat.le_of_ble_eq_true rfl | (simp; done)) | exact x_store 1 rfl rfl rfl rfl rfl rfl (by first | rfl | exact Nat.le_of_ble_eq_true rfl | (simp; done)) | exact x_store 2 rfl rfl rfl rfl rfl rfl (by first | rfl | exact Nat.le_of_ble_eq_true rfl | (simp; done)) | exact x_store 3 rfl rfl rfl rfl rfl rfl (by first | rfl | exact Nat.le_of_ble_eq_true rfl | (simp; done))) rfl rfl ?_
            rintro _ _ ⟨rfl, rfl⟩
            refine l_nil ?_
            exact ⟨RS.mk (some ⟨b48, 0, none⟩) 0 _ G53 ([(b48, blk [] 5)]), ⟨Nat.le_refl 0, vec_as hV53 (by simp) (by rw [flat_snoc, List.nil_append]), (.row b48 0 0 [] [] rfl rfl (by decide) (Nat.le_refl 0))⟩, .nil, (by repeat (first | exact Agree.refl _ _ | exact Agree.mix rfl | refine Agree.put rfl ?_ | refine Agree.keep rfl ?_)), fun _ h => h⟩
          · refine c_region ?_
            cases hv9
            subst hG9
            refine l_l rfl rfl rfl ?_
            refine l_x (x_slc0 (el := 60) (n := 2) rfl) rfl rfl ?_
            rintro _ _ ⟨b41, rfl, rfl⟩
            refine l_l rfl rfl rfl ?_
            refine l_l rfl rfl rfl ?_
            refine l_l (light_fa rfl rfl) rfl rfl ?_
            refine l_x (x_load rfl rfl (at_own (by repeat (first | exact .head _ | refine .tail _ ?_ | refine List.mem_append_right _ ?_)) (by rfl))) rfl rfl ?_
            rintro _ _ ⟨rfl, rfl⟩
            refine l_x (x_append (A := []) (G := [(b41, blk [] 60)]) (R := _) (v := .slice (some ⟨b41, 0, none⟩) 0 0) (n := 0) (xs := []) (m := ws.length) (T := 60) (s := 2) (by_ := 32) (ys := flat cm ws) rfl rfl rfl rfl (.row b41 0 0 [] [] rfl rfl (by decide) (Nat.le_refl 0)) (fun w hw => .row _ _ _ _ _ (flat_len cm_len ws) (row_own (by repeat (first | exact .head _ | refine .tail _ ?_ | refine List.mem_append_right _ ?_)) w hw).left) (ones_flat _) (by omega) (by omega)) rfl rfl ?_
            rintro v46 _ ⟨G46, hV46, hn46, rfl⟩
            refine l_l rfl rfl rfl ?_
            refine l_x (x_slc0 (el := 5) (n := 1) rfl) rfl rfl ?_
            rintro _ _ ⟨b48, rfl, rfl⟩
            refine l_l rfl rfl rfl ?_
            refine l_x (x_append (A := []) (G := [(b48, blk [] 5)]) (R := _) (v := .slice (some ⟨b48, 0, none⟩) 0 0) (n := 0) (xs := []) (m := l.length) (T := 5) (s := 1) (by_ := 1) (ys := l.map (.int .u8)) rfl rfl rfl rfl (.row b48 0 0 [] [] rfl rfl (by decide) (Nat.le_refl 0)) (fun w hw => .row _ _ _ _ _ (by simp : (l.map (Value.int .u8)).length = l.length * 1) (row_old hrd hbd w hw)) (ones_int _ _) (by omega) (by omega)) rfl rfl ?_
            rintro v50 _ ⟨G50, hV50, hn50, rfl⟩
            rw [Nat.zero_add, List.nil_append] at hV50
            obtain ⟨a50, c50, rfl, hc50, hB50⟩ := Byt.slice hV50
            refine l_l (light_struct rfl rfl rfl rfl) rfl rfl ?_
            refine l_x (x_slc rfl rfl rfl rfl rfl rfl) rfl rfl ?_
            rintro _ _ ⟨b52, rfl, rfl⟩
            refine l_x (x_append (A := (b52, blk (cm (Mark.mk x a50 c50 l)) 60) :: G50) (G := G46) (R := _) (v := v46) (n := 0 + ws.length) (m := 1) (T := 60) (s := 2) (by_ := 32) (ys := cm (Mark.mk x a50 c50 l)) rfl rfl rfl rfl hV46 (fun w hw => .row _ _ _ _ _ rfl (row_own (.head _) w hw)) rfl (by omega) (by omega)) rfl rfl ?_
            rintro v53 _ ⟨G53, hV53, hn53, rfl⟩
            refine l_heap (H' := (b, _) :: (G53 ++ G50)) (fun _ h => St.fl [G53, [_], G50, [_], [_]] [3, 0, 2] rfl h) ?_
            obtain ⟨a53, c53, rfl⟩ := hV53.slice
            refine l_l rfl rfl rfl ?_
            refine l_l (light_fa rfl rfl) rfl rfl ?_
            refine l_x (by first | exact x_store 0 rfl rfl rfl rfl rfl rfl (by first | rfl | exact Nat.le_of_ble_eq_true rfl | (simp; done)) | exact x_store 1 rfl rfl rfl rfl rfl rfl (by first | rfl | exact Nat.le_of_ble_eq_true rfl | (simp; done)) | exact x_store 2 rfl rfl rfl rfl rfl rfl (by first | rfl | exact Nat.le_of_ble_eq_true rfl | (simp; done)) | exact x_store 3 rfl rfl rfl rfl rfl rfl (by first | rfl | exact Nat.le_of_ble_eq_true rfl | (simp; done))) rfl rfl ?_
            rintro _ _ ⟨rfl, rfl⟩
            refine l_nil ?_
            exact ⟨RS.mk a50 c50 _ G53 (G50), ⟨hc50, vec_as hV53 (by simp) (by rw [flat_snoc, List.nil_append]), hV50⟩, .nil, (by repeat (first | exact Agree.refl _ _ | exact Agree.mix rfl | refine Agree.put rfl ?_ | refine Agree.keep rfl ?_)), fun _ h => h⟩
        · rintro ⟨am, cc, v, G, D⟩ y6 ⟨g1, hV, hVD⟩
          dsimp only at g1 hV hVD ⊢
          refine c_seq ?_
          refine c_seq ?_
          have hok : addErr ws x = 0 := addErr_ok (by (try simp only [decide_eq_true_eq, decide_eq_false_iff_not, beq_iff_eq, beq_eq_false_iff_ne, bne_iff_ne, bne_eq_false_iff_eq, ne_eq] at *); omega) (fun hz' => by (try simp only [decide_eq_true_eq, decide_eq_false_iff_not, beq_iff_eq, beq_eq_false_iff_ne, bne_iff_ne, bne_eq_false_iff_eq, ne_eq] at *); omega) (fun hz' => by (try simp only [decide_eq_true_eq, decide_eq_false_iff_not, beq_iff_eq, beq_eq_false_iff_ne, bne_iff_ne, bne_eq_false_iff_eq, ne_eq] at *); omega)
          obtain ⟨av2, cv2, rfl⟩ := hV.slice
          refine c_region ?_
          refine l_l rfl rfl rfl ?_
          refine l_l rfl rfl rfl ?_
          refine l_l (light_fa rfl rfl) rfl rfl ?_
          refine l_x (x_load rfl rfl (at_own (by repeat (first | exact .head _ | refine .tail _ ?_ | refine List.mem_append_right _ ?_)) (by rfl))) rfl rfl ?_
          rintro _ _ ⟨rfl, rfl⟩
          refine l_l (by first | exact light_len rfl rfl | exact light_lens rfl rfl | rfl) rfl rfl ?_
          refine l_as (v := (.int .i64 ((ws.length : Int) - 1))) rfl rfl rfl (congrArg _ (by rw [List.length_append, List.length_singleton, wrap_i64 (by omega) (by omega)]; omega)) ?_
          refine l_l rfl rfl rfl ?_
          refine l_nil ?_
          refine c_block ?_
          refine c_loop (σ := RT) [8, 9, 62, 63, 64, 65, 66, 67, 68, 69, 70, 71, 72, 73, 74, 75, 76, 77, 78, 79, 80, 81, 82, 83, 84, 85, 86, 87, 88, 89, 90, 91, 92, 93, 94, 95, 96, 97, 98, 99, 100, 101, 102, 103, 104, 105, 106, 107] (fun s => [(8, .int .i64 ((s.A.length : Int) - 1))]) (fun s => (b, blk [s.v, .int .i64 cap, .bool lack] 47) :: (s.G ++ D)) (fun s => RI (thinL (ws ++ [Mark.mk x am cc l])) x s.A s.K ∧ Vec 60 2 s.v (s.A ++ s.K).length (flat cm (s.A ++ s.K)) s.G ∧ (s.A ++ s.K).length ≤ ws.length + 1) (fun s => s.A.length) ⟨ws, [Mark.mk x am cc l], .slice av2 (ws ++ [Mark.mk x am cc l]).length cv2, G⟩ ?_ ?_ ?_ ?_
          · exact ⟨RI.start (rise_snoc hR hx (by (try simp only [decide_eq_true_eq, decide_eq_false_iff_not, beq_iff_eq, beq_eq_false_iff_ne, bne_iff_ne, bne_eq_false_iff_eq, ne_eq] at *); omega) (fun _ => by (try simp only [decide_eq_true_eq, decide_eq_false_iff_not, beq_iff_eq, beq_eq_false_iff_ne, bne_iff_ne, bne_eq_false_iff_eq, ne_eq] at *); omega)), hV, by simp⟩
          · exact .cons rfl .nil
          · exact fun _ h => h
          · rintro ⟨A, K, v, G⟩ y8 ⟨hI, hV, hln⟩
            dsimp only at hI hV hln ⊢
            have hln2 : A.length + K.length ≤ ws.length + 1 := by rw [← List.length_append]; exact hln
            refine c_seq ?_
            refine c_seq ?_
            refine c_region ?_
            refine l_l rfl rfl rfl ?_
            refine l_l rfl rfl rfl ?_
            refine l_nil ?_
            refine c_cond rfl (fun h17 => ?_) (fun h17 => ?_)
            · refine c_skip ?_
              refine c_seq ?_
              refine c_block ?_
              refine c_seq ?_
              have hA : 2 ≤ A.length := by (try simp only [decide_eq_true_eq, decide_eq_false_iff_not, beq_iff_eq, beq_eq_false_iff_ne, bne_iff_ne, bne_eq_false_iff_eq, ne_eq] at *); omega
              obtain ⟨bv, cpv, spv, rfl, rfl, hzv, hlv, hxv⟩ := vec_some hV (by rw [List.length_append]; have := hI.pos; omega)
              refine c_draw _ [4, 5, 9, 10, 11, 12, 13, 14, 15, 16, 17] (.step true 0 (.step true 1 (.step true 2 (.step true 3 (.step true 4 (.step true 5 (.step true 6 (.step true 7 (.step true 8 (.step true 9 (.step true 10 (.step true 11 (.step true 12 (.step true 13 (.step true 14 (.step true 15 (.step true 16 (.step true 17 (.step true 18 (.step true 19 .done)))))))))))))))))))) rfl (by kernel_rfl) (by kernel_rfl) (fun _ h => h) ?_
              refine d_light rfl rfl rfl rfl rfl ?_
              refine d_light rfl rfl rfl rfl rfl ?_
              refine d_light rfl (light_fa rfl rfl) rfl rfl rfl ?_
              refine d_load rfl rfl rfl (s_own (by repeat (first | exact .head _ | refine .tail _ ?_ | refine List.mem_append_right _ ?_)) (by rfl)) rfl rfl ?_
              refine d_light rfl rfl rfl rfl rfl ?_
              refine d_as (v := (.int .i64 (A.length : Nat))) rfl rfl rfl rfl rfl (congrArg _ (by rw [wrap_i64 (by omega) (by omega)]; omega)) ?_
              refine d_light rfl (idx_slice A.length rfl rfl rfl rfl (by rw [List.length_append]; have := hI.pos; omega)) rfl rfl rfl ?_
              refine d_light rfl (light_fa rfl rfl) rfl rfl rfl ?_
              refine d_load rfl rfl rfl (fun w hw => mark_t (srow_own (by repeat (first | exact .head _ | refine .tail _ ?_ | refine List.mem_append_right _ ?_)) w hw).left (by rw [List.length_append]; have := hI.pos; omega)) rfl rfl ?_
              refine d_light rfl rfl rfl rfl rfl ?_
              refine d_light rfl rfl rfl rfl rfl ?_
              refine d_light rfl (light_fa rfl rfl) rfl rfl rfl ?_
              refine d_load rfl rfl rfl (s_own (by repeat (first | exact .head _ | refine .tail _ ?_ | refine List.mem_append_right _ ?_)) (by rfl)) rfl rfl ?_
              refine d_light rfl rfl rfl rfl rfl ?_
              refine d_as (v := (.int .i64 ((A.length - 2 : Nat) : Int))) rfl rfl rfl rfl rfl (congrArg _ (by rw [wrap_i64 (by omega) (by omega)]; omega)) ?_
              refine d_light rfl (idx_slice (A.length - 2) rfl rfl rfl rfl (by rw [List.length_append]; have := hI.pos; omega)) rfl rfl rfl ?_
              refine d_light rfl (light_fa rfl rfl) rfl rfl rfl ?_
              refine d_load rfl rfl rfl (fun w hw => mark_t (srow_own (by repeat (first | exact .head _ | refine .tail _ ?_ | refine List.mem_append_right _ ?_)) w hw).left (by rw [List.length_append]; have := hI.pos; omega)) rfl rfl ?_
              refine d_light rfl rfl rfl rfl rfl ?_
              refine d_light rfl rfl rfl rfl rfl ?_
              refine d_nil ?_
              refine c_seq ?_
              refine c_region ?_
              refine l_l rfl rfl rfl ?_
              refine l_l rfl rfl rfl ?_
              refine l_l rfl rfl rfl ?_
              refine l_l rfl rfl rfl ?_
              refine l_l rfl rfl rfl ?_
              refine l_l (light_fa rfl rfl) rfl rfl ?_
              refine l_x (x_load rfl rfl (at_own (by repeat (first | exact .head _ | refine .tail _ ?_ | refine List.mem_append_right _ ?_)) (by rfl))) rfl rfl ?_
              rintro _ _ ⟨rfl, rfl⟩
              refine l_l rfl rfl rfl ?_
              refine l_as (v := (.int .i64 (A.length : Nat))) rfl rfl rfl (congrArg _ (by rw [wrap_i64 (by omega) (by omega)]; omega)) ?_
              refine l_l (idx_slice A.length rfl rfl rfl rfl (by rw [List.length_append]; have := hI.pos; omega)) rfl rfl ?_
              refine l_l (light_fa rfl rfl) rfl rfl ?_
              refine l_x (x_load rfl rfl (fun w hw => mark_t (row_own (by repeat (first | exact .head _ | refine .tail _ ?_ | refine List.mem_append_right _ ?_)) w hw).left (by rw [List.length_append]; have := hI.pos; omega))) rfl rfl ?_
              rintro _ _ ⟨rfl, rfl⟩
              refine l_l rfl rfl rfl ?_
              refine l_l rfl rfl rfl ?_
              refine l_nil ?_
              refine c_cond rfl (fun h18 => ?_) (fun h18 => ?_)
              · have hdr := hI.drop hA (of_decide_eq_true ((rcond hI hA).symm.trans h18))
                refine c_region ?_
                refine l_l rfl rfl rfl ?_
                refine l_l rfl rfl rfl ?_
                refine l_l rfl rfl rfl ?_
                refine l_l (light_fa rfl rfl) rfl rfl ?_
                refine l_x (x_load rfl rfl (at_own (by repeat (first | exact .head _ | refine .tail _ ?_ | refine List.mem_append_right _ ?_)) (by rfl))) rfl rfl ?_
                rintro _ _ ⟨rfl, rfl⟩
                refine l_as (v := (.int .i64 ((A.length - 1 : Nat) : Int))) rfl rfl rfl (congrArg _ (by omega)) ?_
                refine l_x (x_call call_24 rfl (fun w hw => without_fn _ cpv (A ++ K) (A.length - 1) (by rw [List.length_append]; have := hI.pos; omega) hlv (by omega) w (fun _ => ⟨_, _, rfl, (row_own (by repeat (first | exact .head _ | refine .tail _ ?_ | refine List.mem_append_right _ ?_)) w hw).left⟩))) rfl rfl ?_
                rintro v105 _ ⟨G105, hV105, rfl⟩
                rw [hdr.2] at hV105
                obtain ⟨b105, c105, sp105, rfl, rfl, hz105, hl105, hx105⟩ := vec_some hV105 (by rw [List.length_append]; have := hI.pos; omega)
                refine l_l rfl rfl rfl ?_
                refine l_l (light_fa rfl rfl) rfl rfl ?_
                refine l_x (by first | exact x_store 0 rfl rfl rfl rfl rfl rfl (by first | rfl | exact Nat.le_of_ble_eq_true rfl | (simp; done)) | exact x_store 1 rfl rfl rfl rfl rfl rfl (by first | rfl | exact Nat.le_of_ble_eq_true rfl | (simp; done)) | exact x_store 2 rfl rfl rfl rfl rfl rfl (by first | rfl | exact Nat.le_of_ble_eq_true rfl | (simp; done)) | exact x_store 3 rfl rfl rfl rfl rfl rfl (by first | rfl | exact Nat.le_of_ble_eq_true rfl | (simp; done))) rfl rfl ?_
                rintro _ _ ⟨rfl, rfl⟩
                refine l_nil ?_
                refine c_region ?_
                refine l_l rfl rfl rfl ?_
                refine l_l rfl rfl rfl ?_
                refine l_l rfl rfl rfl ?_
                refine l_nil ?_
                exact ⟨⟨A.dropLast, K, _, _⟩, ⟨hdr.1, vec_m60 hz105 hl105 hx105, by dsimp only; simp only [List.length_append, List.length_dropLast]; omega⟩, by dsimp only; rw [List.length_dropLast]; omega, .cons (congrArg _ (down_law hA (by omega))) .nil, (by repeat (first | exact Agree.refl _ _ | exact Agree.mix rfl | refine Agree.put rfl ?_ | refine Agree.keep rfl ?_)), fun _ h => St.fl [[_], [_], [_], D] [1, 0, 3] rfl h⟩
              · refine c_skip ?_
                refine c_region ?_
                refine l_l rfl rfl rfl ?_
                refine l_l rfl rfl rfl ?_
                refine l_l rfl rfl rfl ?_
                refine l_nil ?_
                obtain ⟨m9, hI9, he9⟩ := hI.keep hA (of_decide_eq_false ((rcond hI hA).symm.trans h18))
                exact ⟨⟨A.dropLast, m9 :: K, _, _⟩, ⟨hI9, by rw [← he9]; exact vec_m60 hzv hlv hxv, by rw [← he9]; exact hln⟩, by dsimp only; rw [List.length_dropLast]; omega, .cons (congrArg _ (down_law hA (by omega))) .nil, (by repeat (first | exact Agree.refl _ _ | exact Agree.mix rfl | refine Agree.put rfl ?_ | refine Agree.keep rfl ?_)), fun _ h => h⟩
            · refine c_exit rfl ?_
              refine c_seq ?_
              refine c_block ?_
              refine c_loop (σ := RU) [108, 109, 110, 111, 112, 113, 114, 115, 116, 117, 118, 119, 120, 121, 122, 123, 124, 125, 126, 127, 128] (fun s => []) (fun s => (b, blk [s.v, .int .i64 cap, .bool s.lk] 47) :: (s.G ++ D)) (fun s => CI cap.toNat (thinL (ws ++ [Mark.mk x am cc l])) lack s.ws s.lk ∧ Vec 60 2 s.v s.ws.length (flat cm s.ws) s.G ∧ s.ws.length ≤ ws.length + 1) (fun s => s.ws.length) ⟨A ++ K, v, G, lack⟩ ?_ ?_ ?_ ?_
              · exact (by have htt := hI.done (by (try simp only [decide_eq_true_eq, decide_eq_false_iff_not, beq_iff_eq, beq_eq_false_iff_ne, bne_iff_ne, bne_eq_false_iff_eq, ne_eq] at *); omega); dsimp only; rw [htt]; exact ⟨.start (by have := hI.pos; rw [List.length_append]; omega), hV, hln⟩)
              · exact .nil
              · exact fun _ h => h
              · rintro ⟨cur, v, G, lk⟩ y13 ⟨hC, hV, hln⟩
                dsimp only at hC hV hln ⊢
                refine c_seq ?_
                refine c_seq ?_
                obtain ⟨bv, cpv, spv, rfl, rfl, hzv, hlv, hxv⟩ := vec_some hV (by have := hC.pos; omega)
                refine c_draw _ [5, 6, 7, 8] (.step true 0 (.step true 1 (.step true 2 (.step true 3 (.step true 4 (.step true 5 (.step true 6 (.step true 7 (.step true 8 (.step true 9 .done)))))))))) rfl (by kernel_rfl) (by kernel_rfl) (fun _ h => h) ?_
                refine d_light rfl rfl rfl rfl rfl ?_
                refine d_light rfl rfl rfl rfl rfl ?_
                refine d_light rfl (light_fa rfl rfl) rfl rfl rfl ?_
                refine d_load rfl rfl rfl (s_own (by repeat (first | exact .head _ | refine .tail _ ?_ | refine List.mem_append_right _ ?_)) (by rfl)) rfl rfl ?_
                refine d_light rfl (by first | exact light_len rfl rfl | exact light_lens rfl rfl | rfl) rfl rfl rfl ?_
                refine d_light rfl rfl rfl rfl rfl ?_
                refine d_light rfl rfl rfl rfl rfl ?_
                refine d_light rfl (light_fa rfl rfl) rfl rfl rfl ?_
                refine d_load rfl rfl rfl (s_own (by repeat (first | exact .head _ | refine .tail _ ?_ | refine List.mem_append_right _ ?_)) (by rfl)) rfl rfl ?_
                refine d_light rfl rfl rfl rfl rfl ?_
                refine d_nil ?_
                refine c_cond rfl (fun h19 => ?_) (fun h19 => ?_)
                · refine c_skip ?_
                  refine c_block ?_
                  refine c_seq ?_
                  refine c_region ?_
                  refine l_l rfl rfl rfl ?_
                  refine l_l rfl rfl rfl ?_
                  refine l_l rfl rfl rfl ?_
                  refine l_l (light_fa rfl rfl) rfl rfl ?_
                  refine l_x (x_load rfl rfl (at_own (by repeat (first | exact .head _ | refine .tail _ ?_ | refine List.mem_append_right _ ?_)) (by rfl))) rfl rfl ?_
                  rintro _ _ ⟨rfl, rfl⟩
                  refine l_x (x_call call_24 rfl (fun w hw => without_fn _ cpv cur 1 (by (try simp only [decide_eq_true_eq, decide_eq_false_iff_not, beq_iff_eq, beq_eq_false_iff_ne, bne_iff_ne, bne_eq_false_iff_eq, ne_eq] at *); omega) hlv (by omega) w (fun _ => ⟨_, _, rfl, (row_own (by repeat (first | exact .head _ | refine .tail _ ?_ | refine List.mem_append_right _ ?_)) w hw).left⟩))) rfl rfl ?_
                  rintro v105 _ ⟨G123, hV105, rfl⟩
                  obtain ⟨b105, c105, sp105, rfl, rfl, hz105, hl105, hx105⟩ := vec_some hV105 (by rw [erase_len (by (try simp only [decide_eq_true_eq, decide_eq_false_iff_not, beq_iff_eq, beq_eq_false_iff_ne, bne_iff_ne, bne_eq_false_iff_eq, ne_eq] at *); omega)]; (try simp only [decide_eq_true_eq, decide_eq_false_iff_not, beq_iff_eq, beq_eq_false_iff_ne, bne_iff_ne, bne_eq_false_iff_eq, ne_eq] at *); omega)
                  refine l_l rfl rfl rfl ?_
                  refine l_l (light_fa rfl rfl) rfl rfl ?_
                  refine l_x (by first | exact x_store 0 rfl rfl rfl rfl rfl rfl (by first | rfl | exact Nat.le_of_ble_eq_true rfl | (simp; done)) | exact x_store 1 rfl rfl rfl rfl rfl rfl (by first | rfl | exact Nat.le_of_ble_eq_true rfl | (simp; done)) | exact x_store 2 rfl rfl rfl rfl rfl rfl (by first | rfl | exact Nat.le_of_ble_eq_true rfl | (simp; done)) | exact x_store 3 rfl rfl rfl rfl rfl rfl (by first | rfl | exact Nat.le_of_ble_eq_true rfl | (simp; done))) rfl rfl ?_
                  rintro _ _ ⟨rfl, rfl⟩
                  refine l_nil ?_
                  refine c_region ?_
                  refine l_l rfl rfl rfl ?_
                  refine l_l rfl rfl rfl ?_
                  refine l_l (light_fa rfl rfl) rfl rfl ?_
                  refine l_x (by first | exact x_store 0 rfl rfl rfl rfl rfl rfl (by first | rfl | exact Nat.le_of_ble_eq_true rfl | (simp; done)) | exact x_store 1 rfl rfl rfl rfl rfl rfl (by first | rfl | exact Nat.le_of_ble_eq_true rfl | (simp; done)) | exact x_store 2 rfl rfl rfl rfl rfl rfl (by first | rfl | exact Nat.le_of_ble_eq_true rfl | (simp; done)) | exact x_store 3 rfl rfl rfl rfl rfl rfl (by first | rfl | exact Nat.le_of_ble_eq_true rfl | (simp; done))) rfl rfl ?_
                  rintro _ _ ⟨rfl, rfl⟩
                  refine l_nil ?_
                  exact ⟨⟨cur.eraseIdx 1, _, _, true⟩, ⟨hC.step (by omega) (by (try simp only [decide_eq_true_eq, decide_eq_false_iff_not, beq_iff_eq, beq_eq_false_iff_ne, bne_iff_ne, bne_eq_false_iff_eq, ne_eq] at *); omega), vec_m60 hz105 hl105 hx105, by dsimp only; rw [erase_len (by (try simp only [decide_eq_true_eq, decide_eq_false_iff_not, beq_iff_eq, beq_eq_false_iff_ne, bne_iff_ne, bne_eq_false_iff_eq, ne_eq] at *); omega)]; omega⟩, by dsimp only; rw [erase_len (by (try simp only [decide_eq_true_eq, decide_eq_false_iff_not, beq_iff_eq, beq_eq_false_iff_ne, bne_iff_ne, bne_eq_false_iff_eq, ne_eq] at *); omega)]; (try simp only [decide_eq_true_eq, decide_eq_false_iff_not, beq_iff_eq, beq_eq_false_iff_ne, bne_iff_ne, bne_eq_false_iff_eq, ne_eq] at *); omega, .nil, (by repeat (first | exact Agree.refl _ _ | exact Agree.mix rfl | refine Agree.put rfl ?_ | refine Agree.keep rfl ?_)), fun _ h => St.fl [[_], [_], [_], D] [1, 0, 3] rfl h⟩
                · refine c_exit rfl ?_
                  refine c_seq ?_
                  refine c_region ?_
                  refine l_l rfl rfl rfl ?_
                  refine l_nil ?_
                  refine c_ret ?_
                  obtain ⟨hcut, hlk⟩ := hC.done (by (try simp only [decide_eq_true_eq, decide_eq_false_iff_not, beq_iff_eq, beq_eq_false_iff_ne, bne_iff_ne, bne_eq_false_iff_eq, ne_eq] at *); omega)
                  subst hlk
                  exact l_end (fun _ _ => rets_v rfl) (List.Sublist.refl _) ⟨congrArg _ hok.symm, .inr ⟨hok, (Mark.mk x am cc l), [_, _], D, rfl, rfl, g1, rfl, ⟨_, _, rfl, by unfold addM; rw [hcut]; exact vec_m60 hzv hlv hxv⟩, hVD⟩⟩

end Go.Proofs.Ytkifhldkhemdlaa
