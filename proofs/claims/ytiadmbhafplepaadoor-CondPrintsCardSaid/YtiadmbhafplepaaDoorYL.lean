/- The document: what is printed. -/
import Derived.Test.YtiadmbhafplepaaDoorYC
import Derived.Test.YtiadmbhafplepaaDoorYF
import Derived.Test.YtiadmbhafplepaaDoorYI
import Derived.Test.YtiadmbhafplepaaDoorYJ
import Derived.Test.YtiadmbhafplepaaDoorYK
namespace Go.Proofs.YtiadmbhafplepaaDoor
open Go Go.VV Go.Proofs Go.RowKit
set_option linter.unusedSimpArgs false
set_option linter.unusedVariables false
set_option maxRecDepth 100000
set_option maxHeartbeats 4000000 in
theorem rprint_fn (l : List Cd) (a : Option Addr) (cp : Nat) (hll : l.length ≤ 100000) (w : World) (hE : Els w cCd a l) : Does Tryd.prog 12 [.slice a l.length cp] w [] (fun v H => H = H ∧ v = .tuple #[.string (bs (printT l).1), .int .i64 (printT l).2]) := by
 refine does_of Tryd.func12 rfl rfl rfl (St.refl w) ?_
 refine c_seq ?_
 refine c_region ?_
 refine RL ?_
 refine RL ?_
 refine l_nil ?_
 refine c_seq ?_
 refine c_region ?_
 refine RL ?_
 refine l_nil ?_
 refine c_seq ?_
 refine c_seq ?_
 refine c_region ?_
 refine RL ?_
 refine l_l l_n rfl rfl ?_
 refine RL ?_
 refine l_nil ?_
 refine c_block ?_
 refine c_loop (σ := Nat × List Tx × Value × Heap) [2, 3, 4, 5, 6, 7, 8, 9, 10, 11, 12, 13, 16, 17, 18, 19, 20, 21, 22, 23, 24, 25, 26, 27, 28, 29, 30, 31, 32, 33, 34, 35, 36, 37, 38, 39, 40, 41, 42, 43, 44, 45, 46, 47, 48, 49, 50, 51, 52, 53, 54, 55, 56, 57, 58, 59, 60, 61, 62, 63, 64, 65, 66, 67, 68, 69, 70, 71, 72, 73, 74, 75, 76, 77, 78, 79, 80, 81, 82, 83, 84, 85, 86, 87, 88, 89, 90, 91, 92, 93, 94, 95, 96, 97, 98, 99, 100, 101, 102, 103, 104, 105, 106, 107, 108, 109, 110, 111, 112, 113, 114, 115, 116, 117, 118, 119, 120, 121, 122, 123, 124, 125, 126, 127, 128, 129, 130, 131, 132, 133, 134, 135, 136, 137, 138, 139, 140, 141, 142, 143, 144, 145, 146, 147, 148, 149, 150, 151, 152, 153, 154, 155, 156, 157, 158, 159, 160, 161, 162, 163, 164, 165, 166, 167, 168, 169, 170, 171, 172, 173, 174, 175, 176, 177, 178, 179, 180, 181] (fun q => [(4, q.2.2.1), (16, .int .i64 q.1)]) (fun q => q.2.2.2 ++ []) (fun q => q.1 ≤ l.length ∧ laysT l [] = laysT (l.drop q.1) q.2.1 ∧ q.2.1.length ≤ q.1 ∧ (∀ x ∈ q.2.1, x.length ≤ 4000) ∧ Vec 9 1 q.2.2.1 q.2.1.length (q.2.1.map strV) q.2.2.2) (fun q => l.length - q.1) (0, [], .slice none 0 0, []) ?_ ?_ ?_ ?_
 ·exact ⟨Nat.zero_le _, rfl, Nat.le_refl _, fun _ h => (by cases h), .nil⟩
 ·exact .cons rfl (.cons rfl .nil)
 ·exact fun _ h => h
 ·rintro ⟨i, xs, vi, Gi⟩ y3 ⟨hi, hL9, hxi, hx4, hVi⟩
  dsimp only at hi hL9 hxi hx4 hVi ⊢
  obtain ⟨ai, ci, rfl⟩ := hVi.slice
  refine c_seq ?_
  refine c_region ?_
  refine RL ?_
  refine l_nil ?_
  refine c_seq ?_
  refine c_cond rfl (fun h1 => ?_) (fun h1 => ?_)
  ·have h1n := r_f h1
   refine c_skip ?_
   refine c_seq ?_
   refine c_block ?_
   refine c_seq ?_
   obtain ⟨bx, ox, rfl, hrx⟩ := hE.row (i := i) o_m
   obtain ⟨⟨op, n⟩, hc9⟩ : ∃ c, l[i]? = some c := ⟨_, List.getElem?_eq_getElem o_m⟩
   have hd9 := drop_get hc9
   refine c_region ?_
   refine RL ?_
   refine RL ?_
   refine l_nil ?_
   refine c_seq ?_
   refine c_draw _ [5, 6, 7, 8, 9, 10] (.step true 0 (.step true 1 (.step true 2 (.step true 3 (.step true 4 (.step true 5 (.step true 6 (.step true 7 (.step true 8 (.step true 9 (.step true 10 (.step true 11 .done)))))))))))) rfl (by kernel_rfl) (by kernel_rfl) (fun _ h => h) ?_
   refine RD ?_
   refine RD ?_
   refine d_light rfl (idx_slice (s := 2) i rfl rfl rfl rfl o_m) rfl rfl rfl ?_
   refine RDa ?_
   refine d_load rfl rfl rfl (fun w hw => by have h9 := (srow_old hrx (by simp) w hw).at cCd_len hc9 0 rfl; simpa using h9) rfl rfl ?_
   refine RD ?_
   refine RD ?_
   refine d_light rfl (idx_slice (s := 2) i rfl rfl rfl rfl o_m) rfl rfl rfl ?_
   refine RDa ?_
   refine d_load rfl rfl rfl (fun w hw => by have h9 := (srow_old hrx (by simp) w hw).at cCd_len hc9 1 rfl; simpa using h9) rfl rfl ?_
   refine RD ?_
   refine RD ?_
   refine d_nil ?_
   refine c_seq ?_
   refine c_region ?_
   refine RL ?_
   refine l_l l_n rfl rfl ?_
   refine RL ?_
   refine l_nil ?_
   refine c_cut (σ := List Tx × Tx × Nat × Value × Heap) [2, 3, 4, 9, 10, 11, 12, 31, 32, 33, 34, 35, 36, 37, 38, 39, 40, 41, 42, 43, 44, 45, 46, 47, 48, 49, 50, 51, 52, 53, 54, 55, 56, 57, 58, 59, 60, 61, 62, 63, 64, 65, 66, 67, 68, 69, 70, 71, 72, 73, 74, 75, 76, 77, 78, 79, 80, 81, 82, 83, 84, 85, 86, 87, 88, 89, 90, 91, 92, 93, 94, 95, 96, 97, 98, 99, 100, 101, 102, 103, 104, 105, 106, 107, 108, 109, 110, 111, 112, 113, 114, 115, 116, 117, 118, 119, 120, 121, 122, 123, 124, 125, 126, 127, 128, 129, 130, 131, 132, 133, 134, 135, 136, 137, 138, 139, 140, 141, 142, 143, 144, 145, 146, 147, 148, 149, 150, 151, 152, 153, 154, 155, 156, 157, 158, 159, 160, 161, 162, 163, 164, 165, 166, 167, 168, 169, 170, 171] (fun q => [(4, q.2.2.2.1)]) (fun q => q.2.2.2.2 ++ []) (fun q => saidT ⟨op, n⟩ xs = some (q.2.1, q.2.2.1) ∧ q.1 = xs.take (xs.length - q.2.2.1) ∧ Vec 9 1 q.2.2.2.1 (q.1.length + 1) ((q.1 ++ [q.2.1]).map strV) q.2.2.2.2) ?_ ?_
   ·refine c_block ?_
    refine c_seq ?_
    rcases said_cases op n xs with ⟨rfl, hn1, hn2, he⟩ | ⟨rfl, hn1, hn2, he⟩ | ⟨rfl, rfl, hk, he⟩ | ⟨ho, rfl, hk, he⟩ | ⟨ho, rfl, hk, he⟩ | ⟨he, ⟨rfl, hn⟩ | ⟨rfl, hn, hn2⟩ | ⟨rfl, hn⟩ | ⟨rfl, hn, hn2⟩ | ⟨rfl, hn⟩ | ⟨rfl, rfl, hk⟩ | ⟨ho, hn⟩ | ⟨ho, rfl, hk⟩ | ⟨ho, hn⟩ | ⟨ho, rfl, hk⟩ | ho | ho⟩
    ·refine c_region ?_
     refine RL ?_
     refine l_sure true rfl rfl rfl (decide_eq_true o_m) ?_
     refine RL ?_
     refine RL ?_
     refine l_sure true rfl rfl rfl (decide_eq_true o_m) ?_
     iterate 3 refine RL ?_
     refine l_sure true rfl rfl rfl (decide_eq_true o_m) ?_
     refine RL ?_
     refine RL ?_
     refine l_nil ?_
     refine c_true rfl ?_
     refine c_region ?_
     refine RL ?_
     refine RL ?_
     obtain ⟨k, rfl⟩ : ∃ k : Nat, n = k := ⟨n.toNat, by omega⟩
     rw [Int.toNat_natCast] at he
     refine l_x (x_call call_19 rfl (fun w hw => digits_fn k o_m w)) rfl rfl ?_
     rintro _ _ ⟨G44, ⟨_, rfl⟩, rfl⟩
     refine l_heap (fun w h => h.sub (List.sublist_append_right _ _)) ?_
     refine l_x (x_slc (z := [.string (bs [])]) (l := [.string (bs (decT k))]) (ps := [(0, .string (bs (decT k)))]) rfl rfl rfl rfl rfl rfl) rfl rfl ?_
     rintro _ _ ⟨b45, rfl, rfl⟩
     refine l_x (x_appendE (A := [(b45, _)]) (G := Gi ++ []) (v := .slice ai xs.length ci) (n := xs.length) (xs := xs.map strV) (m := 1) (T := 9) (s := 1) (by_ := 16) (ys := [.string (bs (decT k))]) rfl rfl rfl rfl (by rw [List.append_nil]; exact hVi) (fun w hw => .row _ _ _ _ _ rfl (row_own (b := b45) (.head _) w hw)) rfl o_m o_m) rfl rfl ?_
     rintro v46 _ ⟨G46, hV46, _, rfl⟩
     obtain ⟨a46, c46, rfl⟩ := hV46.slice
     refine RL ?_
     refine l_nil ?_
     exact ⟨(xs, decT k, 0, _, G46), ⟨he, (by rw [Nat.sub_zero, List.take_length]), hV46.as (congrArg (· + 1) rfl) (by rw [List.map_append]; rfl)⟩, .cons rfl .nil, a_g, fun _ h => h.sub ((List.Sublist.refl _).append (List.nil_sublist _))⟩
    ·refine c_region ?_
     refine RL ?_
     refine l_sure false rfl rfl rfl (decide_eq_false o_m) ?_
     refine RL ?_
     refine RLp ?_
     refine RLp ?_
     refine RL ?_
     refine RL ?_
     refine RLp ?_
     refine RLp ?_
     refine RL ?_
     refine RL ?_
     refine l_nil ?_
     refine c_false rfl ?_
     refine c_seq ?_
     refine c_region ?_
     refine RL ?_
     refine l_sure true rfl rfl rfl (decide_eq_true o_m) ?_
     refine RL ?_
     refine RL ?_
     refine l_sure true rfl rfl rfl (decide_eq_true o_m) ?_
     iterate 3 refine RL ?_
     refine l_sure true rfl rfl rfl (decide_eq_true o_m) ?_
     refine RL ?_
     refine RL ?_
     refine l_nil ?_
     refine c_true rfl ?_
     refine c_seq ?_
     refine c_region ?_
     refine l_x (x_call call_20 rfl (fun w hw => rnames_fn w)) rfl rfl ?_
     rintro _ _ ⟨G58, ⟨b58, rfl, rfl⟩, rfl⟩
     refine RL ?_
     refine l_nil ?_
     refine c_region ?_
     iterate 3 refine RL ?_
     refine l_l (idx_slice1 n.toNat rfl rfl rfl o_m o_m) rfl rfl ?_
     refine l_x (x_load rfl rfl (at_own (v := .string (bs (nms.getD n.toNat []))) m_m (by rw [Nat.zero_add]; exact strV_at (by show n.toNat < 18; omega)))) rfl rfl ?_
     rintro _ _ ⟨rfl, rfl⟩
     refine l_x (x_slc (z := [.string (bs [])]) (l := [.string (bs (nms.getD n.toNat []))]) (ps := [(0, .string (bs (nms.getD n.toNat [])))]) rfl rfl rfl rfl rfl rfl) rfl rfl ?_
     rintro _ _ ⟨b64, rfl, rfl⟩
     refine l_x (x_appendE (A := [(b64, _), (b58, _)]) (G := Gi ++ []) (v := .slice ai xs.length ci) (n := xs.length) (xs := xs.map strV) (m := 1) (T := 9) (s := 1) (by_ := 16) (ys := [.string (bs (nms.getD n.toNat []))]) rfl rfl rfl rfl (by rw [List.append_nil]; exact hVi) (fun w hw => .row _ _ _ _ _ rfl (row_own (b := b64) (.head _) w hw)) rfl o_m o_m) rfl rfl ?_
     rintro v65 _ ⟨G65, hV65, _, rfl⟩
     obtain ⟨a65, c65, rfl⟩ := hV65.slice
     refine RL ?_
     refine l_nil ?_
     exact ⟨(xs, nms.getD n.toNat [], 0, _, G65), ⟨he, (by rw [Nat.sub_zero, List.take_length]), hV65.as (congrArg (· + 1) rfl) (by rw [List.map_append]; rfl)⟩, .cons rfl .nil, a_g, fun _ h => h.sub ((List.Sublist.refl _).append (List.nil_sublist _))⟩
    ·refine c_region ?_
     refine RL ?_
     refine l_sure false rfl rfl rfl (decide_eq_false o_m) ?_
     refine RL ?_
     refine RLp ?_
     refine RLp ?_
     refine RL ?_
     refine RL ?_
     refine RLp ?_
     refine RLp ?_
     refine RL ?_
     refine RL ?_
     refine l_nil ?_
     refine c_false rfl ?_
     refine c_seq ?_
     refine c_region ?_
     refine RL ?_
     refine l_sure false rfl rfl rfl (decide_eq_false o_m) ?_
     refine RL ?_
     refine RLp ?_
     refine RLp ?_
     refine RL ?_
     refine RL ?_
     refine RLp ?_
     refine RLp ?_
     refine RL ?_
     refine RL ?_
     refine l_nil ?_
     refine c_false rfl ?_
     refine c_seq ?_
     refine c_region ?_
     refine RL ?_
     refine l_sure true rfl rfl rfl (decide_eq_true o_m) ?_
     refine RL ?_
     refine RL ?_
     refine l_sure true rfl rfl rfl (decide_eq_true o_m) ?_
     iterate 3 refine RL ?_
     refine l_sure true rfl rfl rfl (decide_eq_true o_m) ?_
     refine RL ?_
     refine RL ?_
     refine l_nil ?_
     refine c_true rfl ?_
     rcases vec_cases hVi with ⟨rfl, rfl, rfl, rfl⟩ | ⟨b, sp, rfl, rfl, hcp, hcm, hcl⟩
     ·exact absurd hk (by simp)
     have hl1 := getD_short hx4 (xs.length - 1)
     have hl2 := getD_short hx4 (xs.length - 2)
     simp only [List.cons_append, List.nil_append]
     refine c_draw _ [] (.step true 1 (.step true 2 (.step true 3 (.step true 4 (.step true 6 (.step true 7 (.step true 8 (.step true 9 (.fork 0 (.fork 5 (.step false 10 (.step true 11 (.step true 12 (.step false 13 (.step false 14 (.step true 15 .done)))))) (.fork 10 (.step true 11 (.step true 12 (.fork 5 (.step false 13 (.step false 14 (.step true 15 .done))) (.fork 13 (.step false 5 (.step false 14 (.step true 15 .done))) .stop)))) .stop)) (.fork 10 (.step true 11 (.step true 12 (.fork 0 (.fork 5 (.step false 13 (.step false 14 (.step true 15 .done))) (.fork 13 (.step false 5 (.step false 14 (.step true 15 .done))) .stop)) (.fork 13 (.step false 0 (.step false 5 (.step false 14 (.step true 15 .done)))) .stop)))) .stop)))))))))) rfl (by kernel_rfl) (by kernel_rfl) (fun _ h => h) ?_
     refine RD ?_
     refine RD ?_
     refine d_as (v := (.int .i64 ((xs.length - 1 : Nat) : Int))) rfl rfl rfl rfl rfl ((as_i64 o_m o_m).trans (congrArg _ o_m)) ?_
     refine d_as (v := (.slice (some ⟨b, 0, none⟩) (xs.length - 1) ci)) rfl (cut_slice1 0 (xs.length - 1) rfl rfl rfl rfl rfl rfl (Nat.zero_le _) o_m) rfl rfl rfl (by rw [cut1_0, Nat.sub_zero, Nat.sub_zero]) ?_
     refine RD ?_
     refine RD ?_
     refine d_as (v := (.int .i64 ((xs.length - 1 : Nat) : Int))) rfl rfl rfl rfl rfl ((as_i64 o_m o_m).trans (congrArg _ o_m)) ?_
     refine d_light rfl (idx_slice1 (xs.length - 1) rfl rfl rfl o_m o_m) rfl rfl rfl ?_
     refine d_fork ?_ ?_
     ·refine d_x rfl (x_slc0 rfl) rfl rfl n_h ?_
      rintro _ _ ⟨b77, rfl, rfl⟩
      refine d_fork ?_ ?_
      ·refine d_x rfl (x_appendN (T := 9) (by_ := 16) (b := b77) (m := xs.length - 1) (c2 := ci) (a2 := some ⟨b, 0, none⟩) (ys := (xs.take (xs.length - 1)).map strV) (A := []) (R := [(b, _)]) rfl rfl rfl rfl (fun w hw => .row _ _ _ _ _ (by rw [List.length_map, List.length_take]; omega) (stack_row (T := 9) (xs := xs) (sp := sp) o_m m_m hw)) (ones_strV _) o_m o_m) rfl rfl n_h ?_
       rintro _ _ ⟨b82, c82, sp82, rfl, hc82, hm82, hle82, rfl⟩
       refine d_x rfl (x_load rfl rfl (fun w hw => stack_at (T := 9) (xs := xs) (sp := sp) (j := xs.length - 1) o_m m_m hw)) rfl rfl n_h ?_
       rintro _ _ ⟨rfl, rfl⟩
       refine d_light rfl (light_cat rfl rfl (by (try simp only [List.length_append, List.length_cons, List.length_nil]); omega)) rfl rfl rfl ?_
       refine d_light rfl (light_cat rfl rfl (by (try simp only [List.length_append, List.length_cons, List.length_nil]); omega)) rfl rfl rfl ?_
       refine d_x rfl (x_slc (z := [.string (bs [])]) (l := [.string (bs ([91] ++ xs.getD (xs.length - 1) [] ++ [93]))]) (ps := [(0, .string (bs ([91] ++ xs.getD (xs.length - 1) [] ++ [93])))]) rfl rfl rfl rfl rfl rfl) rfl rfl n_h ?_
       rintro _ _ ⟨b90, rfl, rfl⟩
       refine d_x rfl (x_append (A := [(b90, _)]) (R := [(b, _)]) (G := [(b82, _)]) (v := .slice (some ⟨b82, 0, none⟩) (xs.length - 1) c82) (n := xs.length - 1) (xs := (xs.take (xs.length - 1)).map strV) (m := 1) (T := 9) (s := 1) (by_ := 16) (ys := [.string (bs ([91] ++ xs.getD (xs.length - 1) [] ++ [93]))]) rfl rfl rfl rfl (Vec.row b82 (xs.length - 1) c82 _ sp82 (by rw [List.length_map, List.length_take]; omega) (by rw [Nat.mul_one]; exact hc82) hm82 hle82) (fun w hw => .row _ _ _ _ _ rfl (row_own (b := b90) m_m w hw)) rfl o_m o_m) rfl rfl n_h ?_
       rintro v91 _ ⟨G91, hV91, _, rfl⟩
       obtain ⟨a91, c91, rfl⟩ := hV91.slice
       refine RD ?_
       refine d_nil ?_
       exact ⟨(xs.take (xs.length - 1), [91] ++ xs.getD (xs.length - 1) [] ++ [93], 1, _, G91), ⟨he, rfl, hV91.as (congrArg (· + 1) (by rw [List.length_take]; omega)) (by rw [List.map_append]; rfl)⟩, .cons rfl .nil, a_g, fun _ h => h.sub ((List.Sublist.refl _).append (List.nil_sublist _))⟩
      refine d_fork ?_ ?_
      ·refine d_x rfl (x_load rfl rfl (fun w hw => stack_at (T := 9) (xs := xs) (sp := sp) (j := xs.length - 1) o_m m_m hw)) rfl rfl n_h ?_
       rintro _ _ ⟨rfl, rfl⟩
       refine d_light rfl (light_cat rfl rfl (by (try simp only [List.length_append, List.length_cons, List.length_nil]); omega)) rfl rfl rfl ?_
       refine d_light rfl (light_cat rfl rfl (by (try simp only [List.length_append, List.length_cons, List.length_nil]); omega)) rfl rfl rfl ?_
       refine d_fork ?_ ?_
       ·refine d_x rfl (x_appendN (T := 9) (by_ := 16) (b := b77) (m := xs.length - 1) (c2 := ci) (a2 := some ⟨b, 0, none⟩) (ys := (xs.take (xs.length - 1)).map strV) (A := []) (R := [(b, _)]) rfl rfl rfl rfl (fun w hw => .row _ _ _ _ _ (by rw [List.length_map, List.length_take]; omega) (stack_row (T := 9) (xs := xs) (sp := sp) o_m m_m hw)) (ones_strV _) o_m o_m) rfl rfl n_h ?_
        rintro _ _ ⟨b82, c82, sp82, rfl, hc82, hm82, hle82, rfl⟩
        refine d_x rfl (x_slc (z := [.string (bs [])]) (l := [.string (bs ([91] ++ xs.getD (xs.length - 1) [] ++ [93]))]) (ps := [(0, .string (bs ([91] ++ xs.getD (xs.length - 1) [] ++ [93])))]) rfl rfl rfl rfl rfl rfl) rfl rfl n_h ?_
        rintro _ _ ⟨b90, rfl, rfl⟩
        refine d_x rfl (x_append (A := [(b90, _)]) (R := [(b, _)]) (G := [(b82, _)]) (v := .slice (some ⟨b82, 0, none⟩) (xs.length - 1) c82) (n := xs.length - 1) (xs := (xs.take (xs.length - 1)).map strV) (m := 1) (T := 9) (s := 1) (by_ := 16) (ys := [.string (bs ([91] ++ xs.getD (xs.length - 1) [] ++ [93]))]) rfl rfl rfl rfl (Vec.row b82 (xs.length - 1) c82 _ sp82 (by rw [List.length_map, List.length_take]; omega) (by rw [Nat.mul_one]; exact hc82) hm82 hle82) (fun w hw => .row _ _ _ _ _ rfl (row_own (b := b90) m_m w hw)) rfl o_m o_m) rfl rfl n_h ?_
        rintro v91 _ ⟨G91, hV91, _, rfl⟩
        obtain ⟨a91, c91, rfl⟩ := hV91.slice
        refine RD ?_
        refine d_nil ?_
        exact ⟨(xs.take (xs.length - 1), [91] ++ xs.getD (xs.length - 1) [] ++ [93], 1, _, G91), ⟨he, rfl, hV91.as (congrArg (· + 1) (by rw [List.length_take]; omega)) (by rw [List.map_append]; rfl)⟩, .cons rfl .nil, a_g, fun _ h => h.sub ((List.Sublist.refl _).append (List.nil_sublist _))⟩
       refine d_fork ?_ ?_
       ·refine d_x rfl (x_slc (z := [.string (bs [])]) (l := [.string (bs ([91] ++ xs.getD (xs.length - 1) [] ++ [93]))]) (ps := [(0, .string (bs ([91] ++ xs.getD (xs.length - 1) [] ++ [93])))]) rfl rfl rfl rfl rfl rfl) rfl rfl n_h ?_
        rintro _ _ ⟨b90, rfl, rfl⟩
        refine d_x rfl (x_appendN (T := 9) (by_ := 16) (b := b77) (m := xs.length - 1) (c2 := ci) (a2 := some ⟨b, 0, none⟩) (ys := (xs.take (xs.length - 1)).map strV) (A := [(b90, _)]) (R := [(b, _)]) rfl rfl rfl rfl (fun w hw => .row _ _ _ _ _ (by rw [List.length_map, List.length_take]; omega) (stack_row (T := 9) (xs := xs) (sp := sp) o_m m_m hw)) (ones_strV _) o_m o_m) rfl rfl n_h ?_
        rintro _ _ ⟨b82, c82, sp82, rfl, hc82, hm82, hle82, rfl⟩
        refine d_x rfl (x_append (A := []) (R := [(b90, _), (b, _)]) (G := [(b82, _)]) (v := .slice (some ⟨b82, 0, none⟩) (xs.length - 1) c82) (n := xs.length - 1) (xs := (xs.take (xs.length - 1)).map strV) (m := 1) (T := 9) (s := 1) (by_ := 16) (ys := [.string (bs ([91] ++ xs.getD (xs.length - 1) [] ++ [93]))]) rfl rfl rfl rfl (Vec.row b82 (xs.length - 1) c82 _ sp82 (by rw [List.length_map, List.length_take]; omega) (by rw [Nat.mul_one]; exact hc82) hm82 hle82) (fun w hw => .row _ _ _ _ _ rfl (row_own (b := b90) m_m w hw)) rfl o_m o_m) rfl rfl n_h ?_
        rintro v91 _ ⟨G91, hV91, _, rfl⟩
        obtain ⟨a91, c91, rfl⟩ := hV91.slice
        refine RD ?_
        refine d_nil ?_
        exact ⟨(xs.take (xs.length - 1), [91] ++ xs.getD (xs.length - 1) [] ++ [93], 1, _, G91), ⟨he, rfl, hV91.as (congrArg (· + 1) (by rw [List.length_take]; omega)) (by rw [List.map_append]; rfl)⟩, .cons rfl .nil, a_g, fun _ h => h.sub ((List.Sublist.refl _).append (List.nil_sublist _))⟩
       exact d_stop
      exact d_stop
     refine d_fork ?_ ?_
     ·refine d_x rfl (x_load rfl rfl (fun w hw => stack_at (T := 9) (xs := xs) (sp := sp) (j := xs.length - 1) o_m m_m hw)) rfl rfl n_h ?_
      rintro _ _ ⟨rfl, rfl⟩
      refine d_light rfl (light_cat rfl rfl (by (try simp only [List.length_append, List.length_cons, List.length_nil]); omega)) rfl rfl rfl ?_
      refine d_light rfl (light_cat rfl rfl (by (try simp only [List.length_append, List.length_cons, List.length_nil]); omega)) rfl rfl rfl ?_
      refine d_fork ?_ ?_
      ·refine d_x rfl (x_slc0 rfl) rfl rfl n_h ?_
       rintro _ _ ⟨b77, rfl, rfl⟩
       refine d_fork ?_ ?_
       ·refine d_x rfl (x_appendN (T := 9) (by_ := 16) (b := b77) (m := xs.length - 1) (c2 := ci) (a2 := some ⟨b, 0, none⟩) (ys := (xs.take (xs.length - 1)).map strV) (A := []) (R := [(b, _)]) rfl rfl rfl rfl (fun w hw => .row _ _ _ _ _ (by rw [List.length_map, List.length_take]; omega) (stack_row (T := 9) (xs := xs) (sp := sp) o_m m_m hw)) (ones_strV _) o_m o_m) rfl rfl n_h ?_
        rintro _ _ ⟨b82, c82, sp82, rfl, hc82, hm82, hle82, rfl⟩
        refine d_x rfl (x_slc (z := [.string (bs [])]) (l := [.string (bs ([91] ++ xs.getD (xs.length - 1) [] ++ [93]))]) (ps := [(0, .string (bs ([91] ++ xs.getD (xs.length - 1) [] ++ [93])))]) rfl rfl rfl rfl rfl rfl) rfl rfl n_h ?_
        rintro _ _ ⟨b90, rfl, rfl⟩
        refine d_x rfl (x_append (A := [(b90, _)]) (R := [(b, _)]) (G := [(b82, _)]) (v := .slice (some ⟨b82, 0, none⟩) (xs.length - 1) c82) (n := xs.length - 1) (xs := (xs.take (xs.length - 1)).map strV) (m := 1) (T := 9) (s := 1) (by_ := 16) (ys := [.string (bs ([91] ++ xs.getD (xs.length - 1) [] ++ [93]))]) rfl rfl rfl rfl (Vec.row b82 (xs.length - 1) c82 _ sp82 (by rw [List.length_map, List.length_take]; omega) (by rw [Nat.mul_one]; exact hc82) hm82 hle82) (fun w hw => .row _ _ _ _ _ rfl (row_own (b := b90) m_m w hw)) rfl o_m o_m) rfl rfl n_h ?_
        rintro v91 _ ⟨G91, hV91, _, rfl⟩
        obtain ⟨a91, c91, rfl⟩ := hV91.slice
        refine RD ?_
        refine d_nil ?_
        exact ⟨(xs.take (xs.length - 1), [91] ++ xs.getD (xs.length - 1) [] ++ [93], 1, _, G91), ⟨he, rfl, hV91.as (congrArg (· + 1) (by rw [List.length_take]; omega)) (by rw [List.map_append]; rfl)⟩, .cons rfl .nil, a_g, fun _ h => h.sub ((List.Sublist.refl _).append (List.nil_sublist _))⟩
       refine d_fork ?_ ?_
       ·refine d_x rfl (x_slc (z := [.string (bs [])]) (l := [.string (bs ([91] ++ xs.getD (xs.length - 1) [] ++ [93]))]) (ps := [(0, .string (bs ([91] ++ xs.getD (xs.length - 1) [] ++ [93])))]) rfl rfl rfl rfl rfl rfl) rfl rfl n_h ?_
        rintro _ _ ⟨b90, rfl, rfl⟩
        refine d_x rfl (x_appendN (T := 9) (by_ := 16) (b := b77) (m := xs.length - 1) (c2 := ci) (a2 := some ⟨b, 0, none⟩) (ys := (xs.take (xs.length - 1)).map strV) (A := [(b90, _)]) (R := [(b, _)]) rfl rfl rfl rfl (fun w hw => .row _ _ _ _ _ (by rw [List.length_map, List.length_take]; omega) (stack_row (T := 9) (xs := xs) (sp := sp) o_m m_m hw)) (ones_strV _) o_m o_m) rfl rfl n_h ?_
        rintro _ _ ⟨b82, c82, sp82, rfl, hc82, hm82, hle82, rfl⟩
        refine d_x rfl (x_append (A := []) (R := [(b90, _), (b, _)]) (G := [(b82, _)]) (v := .slice (some ⟨b82, 0, none⟩) (xs.length - 1) c82) (n := xs.length - 1) (xs := (xs.take (xs.length - 1)).map strV) (m := 1) (T := 9) (s := 1) (by_ := 16) (ys := [.string (bs ([91] ++ xs.getD (xs.length - 1) [] ++ [93]))]) rfl rfl rfl rfl (Vec.row b82 (xs.length - 1) c82 _ sp82 (by rw [List.length_map, List.length_take]; omega) (by rw [Nat.mul_one]; exact hc82) hm82 hle82) (fun w hw => .row _ _ _ _ _ rfl (row_own (b := b90) m_m w hw)) rfl o_m o_m) rfl rfl n_h ?_
        rintro v91 _ ⟨G91, hV91, _, rfl⟩
        obtain ⟨a91, c91, rfl⟩ := hV91.slice
        refine RD ?_
        refine d_nil ?_
        exact ⟨(xs.take (xs.length - 1), [91] ++ xs.getD (xs.length - 1) [] ++ [93], 1, _, G91), ⟨he, rfl, hV91.as (congrArg (· + 1) (by rw [List.length_take]; omega)) (by rw [List.map_append]; rfl)⟩, .cons rfl .nil, a_g, fun _ h => h.sub ((List.Sublist.refl _).append (List.nil_sublist _))⟩
       exact d_stop
      refine d_fork ?_ ?_
      ·refine d_x rfl (x_slc (z := [.string (bs [])]) (l := [.string (bs ([91] ++ xs.getD (xs.length - 1) [] ++ [93]))]) (ps := [(0, .string (bs ([91] ++ xs.getD (xs.length - 1) [] ++ [93])))]) rfl rfl rfl rfl rfl rfl) rfl rfl n_h ?_
       rintro _ _ ⟨b90, rfl, rfl⟩
       refine d_x rfl (x_slc0 rfl) rfl rfl n_h ?_
       rintro _ _ ⟨b77, rfl, rfl⟩
       refine d_x rfl (x_appendN (T := 9) (by_ := 16) (b := b77) (m := xs.length - 1) (c2 := ci) (a2 := some ⟨b, 0, none⟩) (ys := (xs.take (xs.length - 1)).map strV) (A := []) (R := [(b90, _), (b, _)]) rfl rfl rfl rfl (fun w hw => .row _ _ _ _ _ (by rw [List.length_map, List.length_take]; omega) (stack_row (T := 9) (xs := xs) (sp := sp) o_m m_m hw)) (ones_strV _) o_m o_m) rfl rfl n_h ?_
       rintro _ _ ⟨b82, c82, sp82, rfl, hc82, hm82, hle82, rfl⟩
       refine d_x rfl (x_append (A := []) (R := [(b90, _), (b, _)]) (G := [(b82, _)]) (v := .slice (some ⟨b82, 0, none⟩) (xs.length - 1) c82) (n := xs.length - 1) (xs := (xs.take (xs.length - 1)).map strV) (m := 1) (T := 9) (s := 1) (by_ := 16) (ys := [.string (bs ([91] ++ xs.getD (xs.length - 1) [] ++ [93]))]) rfl rfl rfl rfl (Vec.row b82 (xs.length - 1) c82 _ sp82 (by rw [List.length_map, List.length_take]; omega) (by rw [Nat.mul_one]; exact hc82) hm82 hle82) (fun w hw => .row _ _ _ _ _ rfl (row_own (b := b90) m_m w hw)) rfl o_m o_m) rfl rfl n_h ?_
       rintro v91 _ ⟨G91, hV91, _, rfl⟩
       obtain ⟨a91, c91, rfl⟩ := hV91.slice
       refine RD ?_
       refine d_nil ?_
       exact ⟨(xs.take (xs.length - 1), [91] ++ xs.getD (xs.length - 1) [] ++ [93], 1, _, G91), ⟨he, rfl, hV91.as (congrArg (· + 1) (by rw [List.length_take]; omega)) (by rw [List.map_append]; rfl)⟩, .cons rfl .nil, a_g, fun _ h => h.sub ((List.Sublist.refl _).append (List.nil_sublist _))⟩
      exact d_stop
     exact d_stop
    ·refine c_region ?_
     refine RL ?_
     refine l_sure false rfl rfl rfl (decide_eq_false o_m) ?_
     refine RL ?_
     refine RLp ?_
     refine RLp ?_
     refine RL ?_
     refine RL ?_
     refine RLp ?_
     refine RLp ?_
     refine RL ?_
     refine RL ?_
     refine l_nil ?_
     refine c_false rfl ?_
     refine c_seq ?_
     refine c_region ?_
     refine RL ?_
     refine l_sure false rfl rfl rfl (decide_eq_false o_m) ?_
     refine RL ?_
     refine RLp ?_
     refine RLp ?_
     refine RL ?_
     refine RL ?_
     refine RLp ?_
     refine RLp ?_
     refine RL ?_
     refine RL ?_
     refine l_nil ?_
     refine c_false rfl ?_
     refine c_seq ?_
     refine c_region ?_
     refine RL ?_
     refine l_sure false rfl rfl rfl (decide_eq_false o_m) ?_
     refine RL ?_
     refine RLp ?_
     refine RLp ?_
     refine RL ?_
     refine RL ?_
     refine RLp ?_
     refine RLp ?_
     refine RL ?_
     refine RL ?_
     refine l_nil ?_
     refine c_false rfl ?_
     refine c_seq ?_
     refine c_region ?_
     refine RL ?_
     refine l_sure true rfl rfl rfl (decide_eq_true o_m) ?_
     refine RL ?_
     refine RL ?_
     refine l_sure true rfl rfl rfl (decide_eq_true o_m) ?_
     iterate 3 refine RL ?_
     refine l_sure true rfl rfl rfl (decide_eq_true o_m) ?_
     iterate 3 refine RL ?_
     refine l_sure true rfl rfl rfl (decide_eq_true o_m) ?_
     refine RL ?_
     refine RL ?_
     refine l_nil ?_
     refine c_true rfl ?_
     refine c_seq ?_
     refine c_region ?_
     refine RL ?_
     refine l_nil ?_
     rcases vec_cases hVi with ⟨rfl, rfl, rfl, rfl⟩ | ⟨b, sp, rfl, rfl, hcp, hcm, hcl⟩
     ·exact absurd hk (by simp)
     have hl1 := getD_short hx4 (xs.length - 1)
     have hl2 := getD_short hx4 (xs.length - 2)
     simp only [List.cons_append, List.nil_append]
     rcases (show op = 4 ∨ op = 5 ∨ op = 6 by omega) with rfl | rfl | rfl
     ·refine c_draw _ [] (.step true 1 (.step true 2 (.step true 3 (.step true 4 (.step true 6 (.step true 7 (.step true 8 (.step true 9 (.step true 10 (.step true 11 (.step true 12 (.step true 13 (.step true 14 (.step true 15 (.fork 0 (.fork 5 (.step false 16 (.step true 17 (.step false 18 (.step false 19 (.step true 20 .done))))) (.fork 16 (.step true 17 (.fork 5 (.step false 18 (.step false 19 (.step true 20 .done))) (.fork 18 (.step false 5 (.step false 19 (.step true 20 .done))) .stop))) .stop)) (.fork 16 (.step true 17 (.fork 0 (.fork 5 (.step false 18 (.step false 19 (.step true 20 .done))) (.fork 18 (.step false 5 (.step false 19 (.step true 20 .done))) .stop)) (.fork 18 (.step false 0 (.step false 5 (.step false 19 (.step true 20 .done)))) .stop))) .stop)))))))))))))))) rfl (by kernel_rfl) (by kernel_rfl) (fun _ h => h) ?_
      refine RD ?_
      refine RD ?_
      refine d_as (v := (.int .i64 ((xs.length - 1 : Nat) : Int))) rfl rfl rfl rfl rfl ((as_i64 o_m o_m).trans (congrArg _ o_m)) ?_
      refine d_as (v := (.slice (some ⟨b, 0, none⟩) (xs.length - 1) ci)) rfl (cut_slice1 0 (xs.length - 1) rfl rfl rfl rfl rfl rfl (Nat.zero_le _) o_m) rfl rfl rfl (by rw [cut1_0, Nat.sub_zero, Nat.sub_zero]) ?_
      refine RD ?_
      refine RD ?_
      refine d_as (v := (.int .i64 0)) rfl rfl rfl rfl rfl rfl ?_
      refine RD ?_
      refine d_as (v := (.int .i64 1)) rfl rfl rfl rfl rfl rfl ?_
      refine d_as (v := (.string (bs [preC 0]))) rfl (by first | exact light_cutS (a := [45, 33, 126]) 0 1 rfl rfl rfl rfl rfl rfl (by decide) (by decide) | exact light_cutS (a := [45, 33, 126]) 1 2 rfl rfl rfl rfl rfl rfl (by decide) (by decide) | exact light_cutS (a := [45, 33, 126]) 2 3 rfl rfl rfl rfl rfl rfl (by decide) (by decide)) rfl rfl rfl rfl ?_
      refine RD ?_
      refine RD ?_
      refine d_as (v := (.int .i64 ((xs.length - 1 : Nat) : Int))) rfl rfl rfl rfl rfl ((as_i64 o_m o_m).trans (congrArg _ o_m)) ?_
      refine d_light rfl (idx_slice1 (xs.length - 1) rfl rfl rfl o_m o_m) rfl rfl rfl ?_
      refine d_fork ?_ ?_
      ·refine d_x rfl (x_slc0 rfl) rfl rfl n_h ?_
       rintro _ _ ⟨b107, rfl, rfl⟩
       refine d_fork ?_ ?_
       ·refine d_x rfl (x_appendN (T := 9) (by_ := 16) (b := b107) (m := xs.length - 1) (c2 := ci) (a2 := some ⟨b, 0, none⟩) (ys := (xs.take (xs.length - 1)).map strV) (A := []) (R := [(b, _)]) rfl rfl rfl rfl (fun w hw => .row _ _ _ _ _ (by rw [List.length_map, List.length_take]; omega) (stack_row (T := 9) (xs := xs) (sp := sp) o_m m_m hw)) (ones_strV _) o_m o_m) rfl rfl n_h ?_
        rintro _ _ ⟨b112, c112, sp112, rfl, hc112, hm112, hle112, rfl⟩
        refine d_x rfl (x_load rfl rfl (fun w hw => stack_at (T := 9) (xs := xs) (sp := sp) (j := xs.length - 1) o_m m_m hw)) rfl rfl n_h ?_
        rintro _ _ ⟨rfl, rfl⟩
        refine d_light rfl (light_cat rfl rfl (by (try simp only [List.length_append, List.length_cons, List.length_nil]); omega)) rfl rfl rfl ?_
        refine d_x rfl (x_slc (z := [.string (bs [])]) (l := [.string (bs ([preC 0] ++ xs.getD (xs.length - 1) []))]) (ps := [(0, .string (bs ([preC 0] ++ xs.getD (xs.length - 1) [])))]) rfl rfl rfl rfl rfl rfl) rfl rfl n_h ?_
        rintro _ _ ⟨b125, rfl, rfl⟩
        refine d_x rfl (x_append (A := [(b125, _)]) (R := [(b, _)]) (G := [(b112, _)]) (v := .slice (some ⟨b112, 0, none⟩) (xs.length - 1) c112) (n := xs.length - 1) (xs := (xs.take (xs.length - 1)).map strV) (m := 1) (T := 9) (s := 1) (by_ := 16) (ys := [.string (bs ([preC 0] ++ xs.getD (xs.length - 1) []))]) rfl rfl rfl rfl (Vec.row b112 (xs.length - 1) c112 _ sp112 (by rw [List.length_map, List.length_take]; omega) (by rw [Nat.mul_one]; exact hc112) hm112 hle112) (fun w hw => .row _ _ _ _ _ rfl (row_own (b := b125) m_m w hw)) rfl o_m o_m) rfl rfl n_h ?_
        rintro v126 _ ⟨G126, hV126, _, rfl⟩
        obtain ⟨a126, c126, rfl⟩ := hV126.slice
        refine RD ?_
        refine d_nil ?_
        exact ⟨(xs.take (xs.length - 1), [preC 0] ++ xs.getD (xs.length - 1) [], 1, _, G126), ⟨he, rfl, hV126.as (congrArg (· + 1) (by rw [List.length_take]; omega)) (by rw [List.map_append]; rfl)⟩, .cons rfl .nil, a_g, fun _ h => h.sub ((List.Sublist.refl _).append (List.nil_sublist _))⟩
       refine d_fork ?_ ?_
       ·refine d_x rfl (x_load rfl rfl (fun w hw => stack_at (T := 9) (xs := xs) (sp := sp) (j := xs.length - 1) o_m m_m hw)) rfl rfl n_h ?_
        rintro _ _ ⟨rfl, rfl⟩
        refine d_light rfl (light_cat rfl rfl (by (try simp only [List.length_append, List.length_cons, List.length_nil]); omega)) rfl rfl rfl ?_
        refine d_fork ?_ ?_
        ·refine d_x rfl (x_appendN (T := 9) (by_ := 16) (b := b107) (m := xs.length - 1) (c2 := ci) (a2 := some ⟨b, 0, none⟩) (ys := (xs.take (xs.length - 1)).map strV) (A := []) (R := [(b, _)]) rfl rfl rfl rfl (fun w hw => .row _ _ _ _ _ (by rw [List.length_map, List.length_take]; omega) (stack_row (T := 9) (xs := xs) (sp := sp) o_m m_m hw)) (ones_strV _) o_m o_m) rfl rfl n_h ?_
         rintro _ _ ⟨b112, c112, sp112, rfl, hc112, hm112, hle112, rfl⟩
         refine d_x rfl (x_slc (z := [.string (bs [])]) (l := [.string (bs ([preC 0] ++ xs.getD (xs.length - 1) []))]) (ps := [(0, .string (bs ([preC 0] ++ xs.getD (xs.length - 1) [])))]) rfl rfl rfl rfl rfl rfl) rfl rfl n_h ?_
         rintro _ _ ⟨b125, rfl, rfl⟩
         refine d_x rfl (x_append (A := [(b125, _)]) (R := [(b, _)]) (G := [(b112, _)]) (v := .slice (some ⟨b112, 0, none⟩) (xs.length - 1) c112) (n := xs.length - 1) (xs := (xs.take (xs.length - 1)).map strV) (m := 1) (T := 9) (s := 1) (by_ := 16) (ys := [.string (bs ([preC 0] ++ xs.getD (xs.length - 1) []))]) rfl rfl rfl rfl (Vec.row b112 (xs.length - 1) c112 _ sp112 (by rw [List.length_map, List.length_take]; omega) (by rw [Nat.mul_one]; exact hc112) hm112 hle112) (fun w hw => .row _ _ _ _ _ rfl (row_own (b := b125) m_m w hw)) rfl o_m o_m) rfl rfl n_h ?_
         rintro v126 _ ⟨G126, hV126, _, rfl⟩
         obtain ⟨a126, c126, rfl⟩ := hV126.slice
         refine RD ?_
         refine d_nil ?_
         exact ⟨(xs.take (xs.length - 1), [preC 0] ++ xs.getD (xs.length - 1) [], 1, _, G126), ⟨he, rfl, hV126.as (congrArg (· + 1) (by rw [List.length_take]; omega)) (by rw [List.map_append]; rfl)⟩, .cons rfl .nil, a_g, fun _ h => h.sub ((List.Sublist.refl _).append (List.nil_sublist _))⟩
        refine d_fork ?_ ?_
        ·refine d_x rfl (x_slc (z := [.string (bs [])]) (l := [.string (bs ([preC 0] ++ xs.getD (xs.length - 1) []))]) (ps := [(0, .string (bs ([preC 0] ++ xs.getD (xs.length - 1) [])))]) rfl rfl rfl rfl rfl rfl) rfl rfl n_h ?_
         rintro _ _ ⟨b125, rfl, rfl⟩
         refine d_x rfl (x_appendN (T := 9) (by_ := 16) (b := b107) (m := xs.length - 1) (c2 := ci) (a2 := some ⟨b, 0, none⟩) (ys := (xs.take (xs.length - 1)).map strV) (A := [(b125, _)]) (R := [(b, _)]) rfl rfl rfl rfl (fun w hw => .row _ _ _ _ _ (by rw [List.length_map, List.length_take]; omega) (stack_row (T := 9) (xs := xs) (sp := sp) o_m m_m hw)) (ones_strV _) o_m o_m) rfl rfl n_h ?_
         rintro _ _ ⟨b112, c112, sp112, rfl, hc112, hm112, hle112, rfl⟩
         refine d_x rfl (x_append (A := []) (R := [(b125, _), (b, _)]) (G := [(b112, _)]) (v := .slice (some ⟨b112, 0, none⟩) (xs.length - 1) c112) (n := xs.length - 1) (xs := (xs.take (xs.length - 1)).map strV) (m := 1) (T := 9) (s := 1) (by_ := 16) (ys := [.string (bs ([preC 0] ++ xs.getD (xs.length - 1) []))]) rfl rfl rfl rfl (Vec.row b112 (xs.length - 1) c112 _ sp112 (by rw [List.length_map, List.length_take]; omega) (by rw [Nat.mul_one]; exact hc112) hm112 hle112) (fun w hw => .row _ _ _ _ _ rfl (row_own (b := b125) m_m w hw)) rfl o_m o_m) rfl rfl n_h ?_
         rintro v126 _ ⟨G126, hV126, _, rfl⟩
         obtain ⟨a126, c126, rfl⟩ := hV126.slice
         refine RD ?_
         refine d_nil ?_
         exact ⟨(xs.take (xs.length - 1), [preC 0] ++ xs.getD (xs.length - 1) [], 1, _, G126), ⟨he, rfl, hV126.as (congrArg (· + 1) (by rw [List.length_take]; omega)) (by rw [List.map_append]; rfl)⟩, .cons rfl .nil, a_g, fun _ h => h.sub ((List.Sublist.refl _).append (List.nil_sublist _))⟩
        exact d_stop
       exact d_stop
      refine d_fork ?_ ?_
      ·refine d_x rfl (x_load rfl rfl (fun w hw => stack_at (T := 9) (xs := xs) (sp := sp) (j := xs.length - 1) o_m m_m hw)) rfl rfl n_h ?_
       rintro _ _ ⟨rfl, rfl⟩
       refine d_light rfl (light_cat rfl rfl (by (try simp only [List.length_append, List.length_cons, List.length_nil]); omega)) rfl rfl rfl ?_
       refine d_fork ?_ ?_
       ·refine d_x rfl (x_slc0 rfl) rfl rfl n_h ?_
        rintro _ _ ⟨b107, rfl, rfl⟩
        refine d_fork ?_ ?_
        ·refine d_x rfl (x_appendN (T := 9) (by_ := 16) (b := b107) (m := xs.length - 1) (c2 := ci) (a2 := some ⟨b, 0, none⟩) (ys := (xs.take (xs.length - 1)).map strV) (A := []) (R := [(b, _)]) rfl rfl rfl rfl (fun w hw => .row _ _ _ _ _ (by rw [List.length_map, List.length_take]; omega) (stack_row (T := 9) (xs := xs) (sp := sp) o_m m_m hw)) (ones_strV _) o_m o_m) rfl rfl n_h ?_
         rintro _ _ ⟨b112, c112, sp112, rfl, hc112, hm112, hle112, rfl⟩
         refine d_x rfl (x_slc (z := [.string (bs [])]) (l := [.string (bs ([preC 0] ++ xs.getD (xs.length - 1) []))]) (ps := [(0, .string (bs ([preC 0] ++ xs.getD (xs.length - 1) [])))]) rfl rfl rfl rfl rfl rfl) rfl rfl n_h ?_
         rintro _ _ ⟨b125, rfl, rfl⟩
         refine d_x rfl (x_append (A := [(b125, _)]) (R := [(b, _)]) (G := [(b112, _)]) (v := .slice (some ⟨b112, 0, none⟩) (xs.length - 1) c112) (n := xs.length - 1) (xs := (xs.take (xs.length - 1)).map strV) (m := 1) (T := 9) (s := 1) (by_ := 16) (ys := [.string (bs ([preC 0] ++ xs.getD (xs.length - 1) []))]) rfl rfl rfl rfl (Vec.row b112 (xs.length - 1) c112 _ sp112 (by rw [List.length_map, List.length_take]; omega) (by rw [Nat.mul_one]; exact hc112) hm112 hle112) (fun w hw => .row _ _ _ _ _ rfl (row_own (b := b125) m_m w hw)) rfl o_m o_m) rfl rfl n_h ?_
         rintro v126 _ ⟨G126, hV126, _, rfl⟩
         obtain ⟨a126, c126, rfl⟩ := hV126.slice
         refine RD ?_
         refine d_nil ?_
         exact ⟨(xs.take (xs.length - 1), [preC 0] ++ xs.getD (xs.length - 1) [], 1, _, G126), ⟨he, rfl, hV126.as (congrArg (· + 1) (by rw [List.length_take]; omega)) (by rw [List.map_append]; rfl)⟩, .cons rfl .nil, a_g, fun _ h => h.sub ((List.Sublist.refl _).append (List.nil_sublist _))⟩
        refine d_fork ?_ ?_
        ·refine d_x rfl (x_slc (z := [.string (bs [])]) (l := [.string (bs ([preC 0] ++ xs.getD (xs.length - 1) []))]) (ps := [(0, .string (bs ([preC 0] ++ xs.getD (xs.length - 1) [])))]) rfl rfl rfl rfl rfl rfl) rfl rfl n_h ?_
         rintro _ _ ⟨b125, rfl, rfl⟩
         refine d_x rfl (x_appendN (T := 9) (by_ := 16) (b := b107) (m := xs.length - 1) (c2 := ci) (a2 := some ⟨b, 0, none⟩) (ys := (xs.take (xs.length - 1)).map strV) (A := [(b125, _)]) (R := [(b, _)]) rfl rfl rfl rfl (fun w hw => .row _ _ _ _ _ (by rw [List.length_map, List.length_take]; omega) (stack_row (T := 9) (xs := xs) (sp := sp) o_m m_m hw)) (ones_strV _) o_m o_m) rfl rfl n_h ?_
         rintro _ _ ⟨b112, c112, sp112, rfl, hc112, hm112, hle112, rfl⟩
         refine d_x rfl (x_append (A := []) (R := [(b125, _), (b, _)]) (G := [(b112, _)]) (v := .slice (some ⟨b112, 0, none⟩) (xs.length - 1) c112) (n := xs.length - 1) (xs := (xs.take (xs.length - 1)).map strV) (m := 1) (T := 9) (s := 1) (by_ := 16) (ys := [.string (bs ([preC 0] ++ xs.getD (xs.length - 1) []))]) rfl rfl rfl rfl (Vec.row b112 (xs.length - 1) c112 _ sp112 (by rw [List.length_map, List.length_take]; omega) (by rw [Nat.mul_one]; exact hc112) hm112 hle112) (fun w hw => .row _ _ _ _ _ rfl (row_own (b := b125) m_m w hw)) rfl o_m o_m) rfl rfl n_h ?_
         rintro v126 _ ⟨G126, hV126, _, rfl⟩
         obtain ⟨a126, c126, rfl⟩ := hV126.slice
         refine RD ?_
         refine d_nil ?_
         exact ⟨(xs.take (xs.length - 1), [preC 0] ++ xs.getD (xs.length - 1) [], 1, _, G126), ⟨he, rfl, hV126.as (congrArg (· + 1) (by rw [List.length_take]; omega)) (by rw [List.map_append]; rfl)⟩, .cons rfl .nil, a_g, fun _ h => h.sub ((List.Sublist.refl _).append (List.nil_sublist _))⟩
        exact d_stop
       refine d_fork ?_ ?_
       ·refine d_x rfl (x_slc (z := [.string (bs [])]) (l := [.string (bs ([preC 0] ++ xs.getD (xs.length - 1) []))]) (ps := [(0, .string (bs ([preC 0] ++ xs.getD (xs.length - 1) [])))]) rfl rfl rfl rfl rfl rfl) rfl rfl n_h ?_
        rintro _ _ ⟨b125, rfl, rfl⟩
        refine d_x rfl (x_slc0 rfl) rfl rfl n_h ?_
        rintro _ _ ⟨b107, rfl, rfl⟩
        refine d_x rfl (x_appendN (T := 9) (by_ := 16) (b := b107) (m := xs.length - 1) (c2 := ci) (a2 := some ⟨b, 0, none⟩) (ys := (xs.take (xs.length - 1)).map strV) (A := []) (R := [(b125, _), (b, _)]) rfl rfl rfl rfl (fun w hw => .row _ _ _ _ _ (by rw [List.length_map, List.length_take]; omega) (stack_row (T := 9) (xs := xs) (sp := sp) o_m m_m hw)) (ones_strV _) o_m o_m) rfl rfl n_h ?_
        rintro _ _ ⟨b112, c112, sp112, rfl, hc112, hm112, hle112, rfl⟩
        refine d_x rfl (x_append (A := []) (R := [(b125, _), (b, _)]) (G := [(b112, _)]) (v := .slice (some ⟨b112, 0, none⟩) (xs.length - 1) c112) (n := xs.length - 1) (xs := (xs.take (xs.length - 1)).map strV) (m := 1) (T := 9) (s := 1) (by_ := 16) (ys := [.string (bs ([preC 0] ++ xs.getD (xs.length - 1) []))]) rfl rfl rfl rfl (Vec.row b112 (xs.length - 1) c112 _ sp112 (by rw [List.length_map, List.length_take]; omega) (by rw [Nat.mul_one]; exact hc112) hm112 hle112) (fun w hw => .row _ _ _ _ _ rfl (row_own (b := b125) m_m w hw)) rfl o_m o_m) rfl rfl n_h ?_
        rintro v126 _ ⟨G126, hV126, _, rfl⟩
        obtain ⟨a126, c126, rfl⟩ := hV126.slice
        refine RD ?_
        refine d_nil ?_
        exact ⟨(xs.take (xs.length - 1), [preC 0] ++ xs.getD (xs.length - 1) [], 1, _, G126), ⟨he, rfl, hV126.as (congrArg (· + 1) (by rw [List.length_take]; omega)) (by rw [List.map_append]; rfl)⟩, .cons rfl .nil, a_g, fun _ h => h.sub ((List.Sublist.refl _).append (List.nil_sublist _))⟩
       exact d_stop
      exact d_stop
     ·refine c_draw _ [] (.step true 1 (.step true 2 (.step true 3 (.step true 4 (.step true 6 (.step true 7 (.step true 8 (.step true 9 (.step true 10 (.step true 11 (.step true 12 (.step true 13 (.step true 14 (.step true 15 (.fork 0 (.fork 5 (.step false 16 (.step true 17 (.step false 18 (.step false 19 (.step true 20 .done))))) (.fork 16 (.step true 17 (.fork 5 (.step false 18 (.step false 19 (.step true 20 .done))) (.fork 18 (.step false 5 (.step false 19 (.step true 20 .done))) .stop))) .stop)) (.fork 16 (.step true 17 (.fork 0 (.fork 5 (.step false 18 (.step false 19 (.step true 20 .done))) (.fork 18 (.step false 5 (.step false 19 (.step true 20 .done))) .stop)) (.fork 18 (.step false 0 (.step false 5 (.step false 19 (.step true 20 .done)))) .stop))) .stop)))))))))))))))) rfl (by kernel_rfl) (by kernel_rfl) (fun _ h => h) ?_
      refine RD ?_
      refine RD ?_
      refine d_as (v := (.int .i64 ((xs.length - 1 : Nat) : Int))) rfl rfl rfl rfl rfl ((as_i64 o_m o_m).trans (congrArg _ o_m)) ?_
      refine d_as (v := (.slice (some ⟨b, 0, none⟩) (xs.length - 1) ci)) rfl (cut_slice1 0 (xs.length - 1) rfl rfl rfl rfl rfl rfl (Nat.zero_le _) o_m) rfl rfl rfl (by rw [cut1_0, Nat.sub_zero, Nat.sub_zero]) ?_
      refine RD ?_
      refine RD ?_
      refine d_as (v := (.int .i64 1)) rfl rfl rfl rfl rfl rfl ?_
      refine RD ?_
      refine d_as (v := (.int .i64 2)) rfl rfl rfl rfl rfl rfl ?_
      refine d_as (v := (.string (bs [preC 1]))) rfl (by first | exact light_cutS (a := [45, 33, 126]) 0 1 rfl rfl rfl rfl rfl rfl (by decide) (by decide) | exact light_cutS (a := [45, 33, 126]) 1 2 rfl rfl rfl rfl rfl rfl (by decide) (by decide) | exact light_cutS (a := [45, 33, 126]) 2 3 rfl rfl rfl rfl rfl rfl (by decide) (by decide)) rfl rfl rfl rfl ?_
      refine RD ?_
      refine RD ?_
      refine d_as (v := (.int .i64 ((xs.length - 1 : Nat) : Int))) rfl rfl rfl rfl rfl ((as_i64 o_m o_m).trans (congrArg _ o_m)) ?_
      refine d_light rfl (idx_slice1 (xs.length - 1) rfl rfl rfl o_m o_m) rfl rfl rfl ?_
      refine d_fork ?_ ?_
      ·refine d_x rfl (x_slc0 rfl) rfl rfl n_h ?_
       rintro _ _ ⟨b107, rfl, rfl⟩
       refine d_fork ?_ ?_
       ·refine d_x rfl (x_appendN (T := 9) (by_ := 16) (b := b107) (m := xs.length - 1) (c2 := ci) (a2 := some ⟨b, 0, none⟩) (ys := (xs.take (xs.length - 1)).map strV) (A := []) (R := [(b, _)]) rfl rfl rfl rfl (fun w hw => .row _ _ _ _ _ (by rw [List.length_map, List.length_take]; omega) (stack_row (T := 9) (xs := xs) (sp := sp) o_m m_m hw)) (ones_strV _) o_m o_m) rfl rfl n_h ?_
        rintro _ _ ⟨b112, c112, sp112, rfl, hc112, hm112, hle112, rfl⟩
        refine d_x rfl (x_load rfl rfl (fun w hw => stack_at (T := 9) (xs := xs) (sp := sp) (j := xs.length - 1) o_m m_m hw)) rfl rfl n_h ?_
        rintro _ _ ⟨rfl, rfl⟩
        refine d_light rfl (light_cat rfl rfl (by (try simp only [List.length_append, List.length_cons, List.length_nil]); omega)) rfl rfl rfl ?_
        refine d_x rfl (x_slc (z := [.string (bs [])]) (l := [.string (bs ([preC 1] ++ xs.getD (xs.length - 1) []))]) (ps := [(0, .string (bs ([preC 1] ++ xs.getD (xs.length - 1) [])))]) rfl rfl rfl rfl rfl rfl) rfl rfl n_h ?_
        rintro _ _ ⟨b125, rfl, rfl⟩
        refine d_x rfl (x_append (A := [(b125, _)]) (R := [(b, _)]) (G := [(b112, _)]) (v := .slice (some ⟨b112, 0, none⟩) (xs.length - 1) c112) (n := xs.length - 1) (xs := (xs.take (xs.length - 1)).map strV) (m := 1) (T := 9) (s := 1) (by_ := 16) (ys := [.string (bs ([preC 1] ++ xs.getD (xs.length - 1) []))]) rfl rfl rfl rfl (Vec.row b112 (xs.length - 1) c112 _ sp112 (by rw [List.length_map, List.length_take]; omega) (by rw [Nat.mul_one]; exact hc112) hm112 hle112) (fun w hw => .row _ _ _ _ _ rfl (row_own (b := b125) m_m w hw)) rfl o_m o_m) rfl rfl n_h ?_
        rintro v126 _ ⟨G126, hV126, _, rfl⟩
        obtain ⟨a126, c126, rfl⟩ := hV126.slice
        refine RD ?_
        refine d_nil ?_
        exact ⟨(xs.take (xs.length - 1), [preC 1] ++ xs.getD (xs.length - 1) [], 1, _, G126), ⟨he, rfl, hV126.as (congrArg (· + 1) (by rw [List.length_take]; omega)) (by rw [List.map_append]; rfl)⟩, .cons rfl .nil, a_g, fun _ h => h.sub ((List.Sublist.refl _).append (List.nil_sublist _))⟩
       refine d_fork ?_ ?_
       ·refine d_x rfl (x_load rfl rfl (fun w hw => stack_at (T := 9) (xs := xs) (sp := sp) (j := xs.length - 1) o_m m_m hw)) rfl rfl n_h ?_
        rintro _ _ ⟨rfl, rfl⟩
        refine d_light rfl (light_cat rfl rfl (by (try simp only [List.length_append, List.length_cons, List.length_nil]); omega)) rfl rfl rfl ?_
        refine d_fork ?_ ?_
        ·refine d_x rfl (x_appendN (T := 9) (by_ := 16) (b := b107) (m := xs.length - 1) (c2 := ci) (a2 := some ⟨b, 0, none⟩) (ys := (xs.take (xs.length - 1)).map strV) (A := []) (R := [(b, _)]) rfl rfl rfl rfl (fun w hw => .row _ _ _ _ _ (by rw [List.length_map, List.length_take]; omega) (stack_row (T := 9) (xs := xs) (sp := sp) o_m m_m hw)) (ones_strV _) o_m o_m) rfl rfl n_h ?_
         rintro _ _ ⟨b112, c112, sp112, rfl, hc112, hm112, hle112, rfl⟩
         refine d_x rfl (x_slc (z := [.string (bs [])]) (l := [.string (bs ([preC 1] ++ xs.getD (xs.length - 1) []))]) (ps := [(0, .string (bs ([preC 1] ++ xs.getD (xs.length - 1) [])))]) rfl rfl rfl rfl rfl rfl) rfl rfl n_h ?_
         rintro _ _ ⟨b125, rfl, rfl⟩
         refine d_x rfl (x_append (A := [(b125, _)]) (R := [(b, _)]) (G := [(b112, _)]) (v := .slice (some ⟨b112, 0, none⟩) (xs.length - 1) c112) (n := xs.length - 1) (xs := (xs.take (xs.length - 1)).map strV) (m := 1) (T := 9) (s := 1) (by_ := 16) (ys := [.string (bs ([preC 1] ++ xs.getD (xs.length - 1) []))]) rfl rfl rfl rfl (Vec.row b112 (xs.length - 1) c112 _ sp112 (by rw [List.length_map, List.length_take]; omega) (by rw [Nat.mul_one]; exact hc112) hm112 hle112) (fun w hw => .row _ _ _ _ _ rfl (row_own (b := b125) m_m w hw)) rfl o_m o_m) rfl rfl n_h ?_
         rintro v126 _ ⟨G126, hV126, _, rfl⟩
         obtain ⟨a126, c126, rfl⟩ := hV126.slice
         refine RD ?_
         refine d_nil ?_
         exact ⟨(xs.take (xs.length - 1), [preC 1] ++ xs.getD (xs.length - 1) [], 1, _, G126), ⟨he, rfl, hV126.as (congrArg (· + 1) (by rw [List.length_take]; omega)) (by rw [List.map_append]; rfl)⟩, .cons rfl .nil, a_g, fun _ h => h.sub ((List.Sublist.refl _).append (List.nil_sublist _))⟩
        refine d_fork ?_ ?_
        ·refine d_x rfl (x_slc (z := [.string (bs [])]) (l := [.string (bs ([preC 1] ++ xs.getD (xs.length - 1) []))]) (ps := [(0, .string (bs ([preC 1] ++ xs.getD (xs.length - 1) [])))]) rfl rfl rfl rfl rfl rfl) rfl rfl n_h ?_
         rintro _ _ ⟨b125, rfl, rfl⟩
         refine d_x rfl (x_appendN (T := 9) (by_ := 16) (b := b107) (m := xs.length - 1) (c2 := ci) (a2 := some ⟨b, 0, none⟩) (ys := (xs.take (xs.length - 1)).map strV) (A := [(b125, _)]) (R := [(b, _)]) rfl rfl rfl rfl (fun w hw => .row _ _ _ _ _ (by rw [List.length_map, List.length_take]; omega) (stack_row (T := 9) (xs := xs) (sp := sp) o_m m_m hw)) (ones_strV _) o_m o_m) rfl rfl n_h ?_
         rintro _ _ ⟨b112, c112, sp112, rfl, hc112, hm112, hle112, rfl⟩
         refine d_x rfl (x_append (A := []) (R := [(b125, _), (b, _)]) (G := [(b112, _)]) (v := .slice (some ⟨b112, 0, none⟩) (xs.length - 1) c112) (n := xs.length - 1) (xs := (xs.take (xs.length - 1)).map strV) (m := 1) (T := 9) (s := 1) (by_ := 16) (ys := [.string (bs ([preC 1] ++ xs.getD (xs.length - 1) []))]) rfl rfl rfl rfl (Vec.row b112 (xs.length - 1) c112 _ sp112 (by rw [List.length_map, List.length_take]; omega) (by rw [Nat.mul_one]; exact hc112) hm112 hle112) (fun w hw => .row _ _ _ _ _ rfl (row_own (b := b125) m_m w hw)) rfl o_m o_m) rfl rfl n_h ?_
         rintro v126 _ ⟨G126, hV126, _, rfl⟩
         obtain ⟨a126, c126, rfl⟩ := hV126.slice
         refine RD ?_
         refine d_nil ?_
         exact ⟨(xs.take (xs.length - 1), [preC 1] ++ xs.getD (xs.length - 1) [], 1, _, G126), ⟨he, rfl, hV126.as (congrArg (· + 1) (by rw [List.length_take]; omega)) (by rw [List.map_append]; rfl)⟩, .cons rfl .nil, a_g, fun _ h => h.sub ((List.Sublist.refl _).append (List.nil_sublist _))⟩
        exact d_stop
       exact d_stop
      refine d_fork ?_ ?_
      ·refine d_x rfl (x_load rfl rfl (fun w hw => stack_at (T := 9) (xs := xs) (sp := sp) (j := xs.length - 1) o_m m_m hw)) rfl rfl n_h ?_
       rintro _ _ ⟨rfl, rfl⟩
       refine d_light rfl (light_cat rfl rfl (by (try simp only [List.length_append, List.length_cons, List.length_nil]); omega)) rfl rfl rfl ?_
       refine d_fork ?_ ?_
       ·refine d_x rfl (x_slc0 rfl) rfl rfl n_h ?_
        rintro _ _ ⟨b107, rfl, rfl⟩
        refine d_fork ?_ ?_
        ·refine d_x rfl (x_appendN (T := 9) (by_ := 16) (b := b107) (m := xs.length - 1) (c2 := ci) (a2 := some ⟨b, 0, none⟩) (ys := (xs.take (xs.length - 1)).map strV) (A := []) (R := [(b, _)]) rfl rfl rfl rfl (fun w hw => .row _ _ _ _ _ (by rw [List.length_map, List.length_take]; omega) (stack_row (T := 9) (xs := xs) (sp := sp) o_m m_m hw)) (ones_strV _) o_m o_m) rfl rfl n_h ?_
         rintro _ _ ⟨b112, c112, sp112, rfl, hc112, hm112, hle112, rfl⟩
         refine d_x rfl (x_slc (z := [.string (bs [])]) (l := [.string (bs ([preC 1] ++ xs.getD (xs.length - 1) []))]) (ps := [(0, .string (bs ([preC 1] ++ xs.getD (xs.length - 1) [])))]) rfl rfl rfl rfl rfl rfl) rfl rfl n_h ?_
         rintro _ _ ⟨b125, rfl, rfl⟩
         refine d_x rfl (x_append (A := [(b125, _)]) (R := [(b, _)]) (G := [(b112, _)]) (v := .slice (some ⟨b112, 0, none⟩) (xs.length - 1) c112) (n := xs.length - 1) (xs := (xs.take (xs.length - 1)).map strV) (m := 1) (T := 9) (s := 1) (by_ := 16) (ys := [.string (bs ([preC 1] ++ xs.getD (xs.length - 1) []))]) rfl rfl rfl rfl (Vec.row b112 (xs.length - 1) c112 _ sp112 (by rw [List.length_map, List.length_take]; omega) (by rw [Nat.mul_one]; exact hc112) hm112 hle112) (fun w hw => .row _ _ _ _ _ rfl (row_own (b := b125) m_m w hw)) rfl o_m o_m) rfl rfl n_h ?_
         rintro v126 _ ⟨G126, hV126, _, rfl⟩
         obtain ⟨a126, c126, rfl⟩ := hV126.slice
         refine RD ?_
         refine d_nil ?_
         exact ⟨(xs.take (xs.length - 1), [preC 1] ++ xs.getD (xs.length - 1) [], 1, _, G126), ⟨he, rfl, hV126.as (congrArg (· + 1) (by rw [List.length_take]; omega)) (by rw [List.map_append]; rfl)⟩, .cons rfl .nil, a_g, fun _ h => h.sub ((List.Sublist.refl _).append (List.nil_sublist _))⟩
        refine d_fork ?_ ?_
        ·refine d_x rfl (x_slc (z := [.string (bs [])]) (l := [.string (bs ([preC 1] ++ xs.getD (xs.length - 1) []))]) (ps := [(0, .string (bs ([preC 1] ++ xs.getD (xs.length - 1) [])))]) rfl rfl rfl rfl rfl rfl) rfl rfl n_h ?_
         rintro _ _ ⟨b125, rfl, rfl⟩
         refine d_x rfl (x_appendN (T := 9) (by_ := 16) (b := b107) (m := xs.length - 1) (c2 := ci) (a2 := some ⟨b, 0, none⟩) (ys := (xs.take (xs.length - 1)).map strV) (A := [(b125, _)]) (R := [(b, _)]) rfl rfl rfl rfl (fun w hw => .row _ _ _ _ _ (by rw [List.length_map, List.length_take]; omega) (stack_row (T := 9) (xs := xs) (sp := sp) o_m m_m hw)) (ones_strV _) o_m o_m) rfl rfl n_h ?_
         rintro _ _ ⟨b112, c112, sp112, rfl, hc112, hm112, hle112, rfl⟩
         refine d_x rfl (x_append (A := []) (R := [(b125, _), (b, _)]) (G := [(b112, _)]) (v := .slice (some ⟨b112, 0, none⟩) (xs.length - 1) c112) (n := xs.length - 1) (xs := (xs.take (xs.length - 1)).map strV) (m := 1) (T := 9) (s := 1) (by_ := 16) (ys := [.string (bs ([preC 1] ++ xs.getD (xs.length - 1) []))]) rfl rfl rfl rfl (Vec.row b112 (xs.length - 1) c112 _ sp112 (by rw [List.length_map, List.length_take]; omega) (by rw [Nat.mul_one]; exact hc112) hm112 hle112) (fun w hw => .row _ _ _ _ _ rfl (row_own (b := b125) m_m w hw)) rfl o_m o_m) rfl rfl n_h ?_
         rintro v126 _ ⟨G126, hV126, _, rfl⟩
         obtain ⟨a126, c126, rfl⟩ := hV126.slice
         refine RD ?_
         refine d_nil ?_
         exact ⟨(xs.take (xs.length - 1), [preC 1] ++ xs.getD (xs.length - 1) [], 1, _, G126), ⟨he, rfl, hV126.as (congrArg (· + 1) (by rw [List.length_take]; omega)) (by rw [List.map_append]; rfl)⟩, .cons rfl .nil, a_g, fun _ h => h.sub ((List.Sublist.refl _).append (List.nil_sublist _))⟩
        exact d_stop
       refine d_fork ?_ ?_
       ·refine d_x rfl (x_slc (z := [.string (bs [])]) (l := [.string (bs ([preC 1] ++ xs.getD (xs.length - 1) []))]) (ps := [(0, .string (bs ([preC 1] ++ xs.getD (xs.length - 1) [])))]) rfl rfl rfl rfl rfl rfl) rfl rfl n_h ?_
        rintro _ _ ⟨b125, rfl, rfl⟩
        refine d_x rfl (x_slc0 rfl) rfl rfl n_h ?_
        rintro _ _ ⟨b107, rfl, rfl⟩
        refine d_x rfl (x_appendN (T := 9) (by_ := 16) (b := b107) (m := xs.length - 1) (c2 := ci) (a2 := some ⟨b, 0, none⟩) (ys := (xs.take (xs.length - 1)).map strV) (A := []) (R := [(b125, _), (b, _)]) rfl rfl rfl rfl (fun w hw => .row _ _ _ _ _ (by rw [List.length_map, List.length_take]; omega) (stack_row (T := 9) (xs := xs) (sp := sp) o_m m_m hw)) (ones_strV _) o_m o_m) rfl rfl n_h ?_
        rintro _ _ ⟨b112, c112, sp112, rfl, hc112, hm112, hle112, rfl⟩
        refine d_x rfl (x_append (A := []) (R := [(b125, _), (b, _)]) (G := [(b112, _)]) (v := .slice (some ⟨b112, 0, none⟩) (xs.length - 1) c112) (n := xs.length - 1) (xs := (xs.take (xs.length - 1)).map strV) (m := 1) (T := 9) (s := 1) (by_ := 16) (ys := [.string (bs ([preC 1] ++ xs.getD (xs.length - 1) []))]) rfl rfl rfl rfl (Vec.row b112 (xs.length - 1) c112 _ sp112 (by rw [List.length_map, List.length_take]; omega) (by rw [Nat.mul_one]; exact hc112) hm112 hle112) (fun w hw => .row _ _ _ _ _ rfl (row_own (b := b125) m_m w hw)) rfl o_m o_m) rfl rfl n_h ?_
        rintro v126 _ ⟨G126, hV126, _, rfl⟩
        obtain ⟨a126, c126, rfl⟩ := hV126.slice
        refine RD ?_
        refine d_nil ?_
        exact ⟨(xs.take (xs.length - 1), [preC 1] ++ xs.getD (xs.length - 1) [], 1, _, G126), ⟨he, rfl, hV126.as (congrArg (· + 1) (by rw [List.length_take]; omega)) (by rw [List.map_append]; rfl)⟩, .cons rfl .nil, a_g, fun _ h => h.sub ((List.Sublist.refl _).append (List.nil_sublist _))⟩
       exact d_stop
      exact d_stop
     ·refine c_draw _ [] (.step true 1 (.step true 2 (.step true 3 (.step true 4 (.step true 6 (.step true 7 (.step true 8 (.step true 9 (.step true 10 (.step true 11 (.step true 12 (.step true 13 (.step true 14 (.step true 15 (.fork 0 (.fork 5 (.step false 16 (.step true 17 (.step false 18 (.step false 19 (.step true 20 .done))))) (.fork 16 (.step true 17 (.fork 5 (.step false 18 (.step false 19 (.step true 20 .done))) (.fork 18 (.step false 5 (.step false 19 (.step true 20 .done))) .stop))) .stop)) (.fork 16 (.step true 17 (.fork 0 (.fork 5 (.step false 18 (.step false 19 (.step true 20 .done))) (.fork 18 (.step false 5 (.step false 19 (.step true 20 .done))) .stop)) (.fork 18 (.step false 0 (.step false 5 (.step false 19 (.step true 20 .done)))) .stop))) .stop)))))))))))))))) rfl (by kernel_rfl) (by kernel_rfl) (fun _ h => h) ?_
      refine RD ?_
      refine RD ?_
      refine d_as (v := (.int .i64 ((xs.length - 1 : Nat) : Int))) rfl rfl rfl rfl rfl ((as_i64 o_m o_m).trans (congrArg _ o_m)) ?_
      refine d_as (v := (.slice (some ⟨b, 0, none⟩) (xs.length - 1) ci)) rfl (cut_slice1 0 (xs.length - 1) rfl rfl rfl rfl rfl rfl (Nat.zero_le _) o_m) rfl rfl rfl (by rw [cut1_0, Nat.sub_zero, Nat.sub_zero]) ?_
      refine RD ?_
      refine RD ?_
      refine d_as (v := (.int .i64 2)) rfl rfl rfl rfl rfl rfl ?_
      refine RD ?_
      refine d_as (v := (.int .i64 3)) rfl rfl rfl rfl rfl rfl ?_
      refine d_as (v := (.string (bs [preC 2]))) rfl (by first | exact light_cutS (a := [45, 33, 126]) 0 1 rfl rfl rfl rfl rfl rfl (by decide) (by decide) | exact light_cutS (a := [45, 33, 126]) 1 2 rfl rfl rfl rfl rfl rfl (by decide) (by decide) | exact light_cutS (a := [45, 33, 126]) 2 3 rfl rfl rfl rfl rfl rfl (by decide) (by decide)) rfl rfl rfl rfl ?_
      refine RD ?_
      refine RD ?_
      refine d_as (v := (.int .i64 ((xs.length - 1 : Nat) : Int))) rfl rfl rfl rfl rfl ((as_i64 o_m o_m).trans (congrArg _ o_m)) ?_
      refine d_light rfl (idx_slice1 (xs.length - 1) rfl rfl rfl o_m o_m) rfl rfl rfl ?_
      refine d_fork ?_ ?_
      ·refine d_x rfl (x_slc0 rfl) rfl rfl n_h ?_
       rintro _ _ ⟨b107, rfl, rfl⟩
       refine d_fork ?_ ?_
       ·refine d_x rfl (x_appendN (T := 9) (by_ := 16) (b := b107) (m := xs.length - 1) (c2 := ci) (a2 := some ⟨b, 0, none⟩) (ys := (xs.take (xs.length - 1)).map strV) (A := []) (R := [(b, _)]) rfl rfl rfl rfl (fun w hw => .row _ _ _ _ _ (by rw [List.length_map, List.length_take]; omega) (stack_row (T := 9) (xs := xs) (sp := sp) o_m m_m hw)) (ones_strV _) o_m o_m) rfl rfl n_h ?_
        rintro _ _ ⟨b112, c112, sp112, rfl, hc112, hm112, hle112, rfl⟩
        refine d_x rfl (x_load rfl rfl (fun w hw => stack_at (T := 9) (xs := xs) (sp := sp) (j := xs.length - 1) o_m m_m hw)) rfl rfl n_h ?_
        rintro _ _ ⟨rfl, rfl⟩
        refine d_light rfl (light_cat rfl rfl (by (try simp only [List.length_append, List.length_cons, List.length_nil]); omega)) rfl rfl rfl ?_
        refine d_x rfl (x_slc (z := [.string (bs [])]) (l := [.string (bs ([preC 2] ++ xs.getD (xs.length - 1) []))]) (ps := [(0, .string (bs ([preC 2] ++ xs.getD (xs.length - 1) [])))]) rfl rfl rfl rfl rfl rfl) rfl rfl n_h ?_
        rintro _ _ ⟨b125, rfl, rfl⟩
        refine d_x rfl (x_append (A := [(b125, _)]) (R := [(b, _)]) (G := [(b112, _)]) (v := .slice (some ⟨b112, 0, none⟩) (xs.length - 1) c112) (n := xs.length - 1) (xs := (xs.take (xs.length - 1)).map strV) (m := 1) (T := 9) (s := 1) (by_ := 16) (ys := [.string (bs ([preC 2] ++ xs.getD (xs.length - 1) []))]) rfl rfl rfl rfl (Vec.row b112 (xs.length - 1) c112 _ sp112 (by rw [List.length_map, List.length_take]; omega) (by rw [Nat.mul_one]; exact hc112) hm112 hle112) (fun w hw => .row _ _ _ _ _ rfl (row_own (b := b125) m_m w hw)) rfl o_m o_m) rfl rfl n_h ?_
        rintro v126 _ ⟨G126, hV126, _, rfl⟩
        obtain ⟨a126, c126, rfl⟩ := hV126.slice
        refine RD ?_
        refine d_nil ?_
        exact ⟨(xs.take (xs.length - 1), [preC 2] ++ xs.getD (xs.length - 1) [], 1, _, G126), ⟨he, rfl, hV126.as (congrArg (· + 1) (by rw [List.length_take]; omega)) (by rw [List.map_append]; rfl)⟩, .cons rfl .nil, a_g, fun _ h => h.sub ((List.Sublist.refl _).append (List.nil_sublist _))⟩
       refine d_fork ?_ ?_
       ·refine d_x rfl (x_load rfl rfl (fun w hw => stack_at (T := 9) (xs := xs) (sp := sp) (j := xs.length - 1) o_m m_m hw)) rfl rfl n_h ?_
        rintro _ _ ⟨rfl, rfl⟩
        refine d_light rfl (light_cat rfl rfl (by (try simp only [List.length_append, List.length_cons, List.length_nil]); omega)) rfl rfl rfl ?_
        refine d_fork ?_ ?_
        ·refine d_x rfl (x_appendN (T := 9) (by_ := 16) (b := b107) (m := xs.length - 1) (c2 := ci) (a2 := some ⟨b, 0, none⟩) (ys := (xs.take (xs.length - 1)).map strV) (A := []) (R := [(b, _)]) rfl rfl rfl rfl (fun w hw => .row _ _ _ _ _ (by rw [List.length_map, List.length_take]; omega) (stack_row (T := 9) (xs := xs) (sp := sp) o_m m_m hw)) (ones_strV _) o_m o_m) rfl rfl n_h ?_
         rintro _ _ ⟨b112, c112, sp112, rfl, hc112, hm112, hle112, rfl⟩
         refine d_x rfl (x_slc (z := [.string (bs [])]) (l := [.string (bs ([preC 2] ++ xs.getD (xs.length - 1) []))]) (ps := [(0, .string (bs ([preC 2] ++ xs.getD (xs.length - 1) [])))]) rfl rfl rfl rfl rfl rfl) rfl rfl n_h ?_
         rintro _ _ ⟨b125, rfl, rfl⟩
         refine d_x rfl (x_append (A := [(b125, _)]) (R := [(b, _)]) (G := [(b112, _)]) (v := .slice (some ⟨b112, 0, none⟩) (xs.length - 1) c112) (n := xs.length - 1) (xs := (xs.take (xs.length - 1)).map strV) (m := 1) (T := 9) (s := 1) (by_ := 16) (ys := [.string (bs ([preC 2] ++ xs.getD (xs.length - 1) []))]) rfl rfl rfl rfl (Vec.row b112 (xs.length - 1) c112 _ sp112 (by rw [List.length_map, List.length_take]; omega) (by rw [Nat.mul_one]; exact hc112) hm112 hle112) (fun w hw => .row _ _ _ _ _ rfl (row_own (b := b125) m_m w hw)) rfl o_m o_m) rfl rfl n_h ?_
         rintro v126 _ ⟨G126, hV126, _, rfl⟩
         obtain ⟨a126, c126, rfl⟩ := hV126.slice
         refine RD ?_
         refine d_nil ?_
         exact ⟨(xs.take (xs.length - 1), [preC 2] ++ xs.getD (xs.length - 1) [], 1, _, G126), ⟨he, rfl, hV126.as (congrArg (· + 1) (by rw [List.length_take]; omega)) (by rw [List.map_append]; rfl)⟩, .cons rfl .nil, a_g, fun _ h => h.sub ((List.Sublist.refl _).append (List.nil_sublist _))⟩
        refine d_fork ?_ ?_
        ·refine d_x rfl (x_slc (z := [.string (bs [])]) (l := [.string (bs ([preC 2] ++ xs.getD (xs.length - 1) []))]) (ps := [(0, .string (bs ([preC 2] ++ xs.getD (xs.length - 1) [])))]) rfl rfl rfl rfl rfl rfl) rfl rfl n_h ?_
         rintro _ _ ⟨b125, rfl, rfl⟩
         refine d_x rfl (x_appendN (T := 9) (by_ := 16) (b := b107) (m := xs.length - 1) (c2 := ci) (a2 := some ⟨b, 0, none⟩) (ys := (xs.take (xs.length - 1)).map strV) (A := [(b125, _)]) (R := [(b, _)]) rfl rfl rfl rfl (fun w hw => .row _ _ _ _ _ (by rw [List.length_map, List.length_take]; omega) (stack_row (T := 9) (xs := xs) (sp := sp) o_m m_m hw)) (ones_strV _) o_m o_m) rfl rfl n_h ?_
         rintro _ _ ⟨b112, c112, sp112, rfl, hc112, hm112, hle112, rfl⟩
         refine d_x rfl (x_append (A := []) (R := [(b125, _), (b, _)]) (G := [(b112, _)]) (v := .slice (some ⟨b112, 0, none⟩) (xs.length - 1) c112) (n := xs.length - 1) (xs := (xs.take (xs.length - 1)).map strV) (m := 1) (T := 9) (s := 1) (by_ := 16) (ys := [.string (bs ([preC 2] ++ xs.getD (xs.length - 1) []))]) rfl rfl rfl rfl (Vec.row b112 (xs.length - 1) c112 _ sp112 (by rw [List.length_map, List.length_take]; omega) (by rw [Nat.mul_one]; exact hc112) hm112 hle112) (fun w hw => .row _ _ _ _ _ rfl (row_own (b := b125) m_m w hw)) rfl o_m o_m) rfl rfl n_h ?_
         rintro v126 _ ⟨G126, hV126, _, rfl⟩
         obtain ⟨a126, c126, rfl⟩ := hV126.slice
         refine RD ?_
         refine d_nil ?_
         exact ⟨(xs.take (xs.length - 1), [preC 2] ++ xs.getD (xs.length - 1) [], 1, _, G126), ⟨he, rfl, hV126.as (congrArg (· + 1) (by rw [List.length_take]; omega)) (by rw [List.map_append]; rfl)⟩, .cons rfl .nil, a_g, fun _ h => h.sub ((List.Sublist.refl _).append (List.nil_sublist _))⟩
        exact d_stop
       exact d_stop
      refine d_fork ?_ ?_
      ·refine d_x rfl (x_load rfl rfl (fun w hw => stack_at (T := 9) (xs := xs) (sp := sp) (j := xs.length - 1) o_m m_m hw)) rfl rfl n_h ?_
       rintro _ _ ⟨rfl, rfl⟩
       refine d_light rfl (light_cat rfl rfl (by (try simp only [List.length_append, List.length_cons, List.length_nil]); omega)) rfl rfl rfl ?_
       refine d_fork ?_ ?_
       ·refine d_x rfl (x_slc0 rfl) rfl rfl n_h ?_
        rintro _ _ ⟨b107, rfl, rfl⟩
        refine d_fork ?_ ?_
        ·refine d_x rfl (x_appendN (T := 9) (by_ := 16) (b := b107) (m := xs.length - 1) (c2 := ci) (a2 := some ⟨b, 0, none⟩) (ys := (xs.take (xs.length - 1)).map strV) (A := []) (R := [(b, _)]) rfl rfl rfl rfl (fun w hw => .row _ _ _ _ _ (by rw [List.length_map, List.length_take]; omega) (stack_row (T := 9) (xs := xs) (sp := sp) o_m m_m hw)) (ones_strV _) o_m o_m) rfl rfl n_h ?_
         rintro _ _ ⟨b112, c112, sp112, rfl, hc112, hm112, hle112, rfl⟩
         refine d_x rfl (x_slc (z := [.string (bs [])]) (l := [.string (bs ([preC 2] ++ xs.getD (xs.length - 1) []))]) (ps := [(0, .string (bs ([preC 2] ++ xs.getD (xs.length - 1) [])))]) rfl rfl rfl rfl rfl rfl) rfl rfl n_h ?_
         rintro _ _ ⟨b125, rfl, rfl⟩
         refine d_x rfl (x_append (A := [(b125, _)]) (R := [(b, _)]) (G := [(b112, _)]) (v := .slice (some ⟨b112, 0, none⟩) (xs.length - 1) c112) (n := xs.length - 1) (xs := (xs.take (xs.length - 1)).map strV) (m := 1) (T := 9) (s := 1) (by_ := 16) (ys := [.string (bs ([preC 2] ++ xs.getD (xs.length - 1) []))]) rfl rfl rfl rfl (Vec.row b112 (xs.length - 1) c112 _ sp112 (by rw [List.length_map, List.length_take]; omega) (by rw [Nat.mul_one]; exact hc112) hm112 hle112) (fun w hw => .row _ _ _ _ _ rfl (row_own (b := b125) m_m w hw)) rfl o_m o_m) rfl rfl n_h ?_
         rintro v126 _ ⟨G126, hV126, _, rfl⟩
         obtain ⟨a126, c126, rfl⟩ := hV126.slice
         refine RD ?_
         refine d_nil ?_
         exact ⟨(xs.take (xs.length - 1), [preC 2] ++ xs.getD (xs.length - 1) [], 1, _, G126), ⟨he, rfl, hV126.as (congrArg (· + 1) (by rw [List.length_take]; omega)) (by rw [List.map_append]; rfl)⟩, .cons rfl .nil, a_g, fun _ h => h.sub ((List.Sublist.refl _).append (List.nil_sublist _))⟩
        refine d_fork ?_ ?_
        ·refine d_x rfl (x_slc (z := [.string (bs [])]) (l := [.string (bs ([preC 2] ++ xs.getD (xs.length - 1) []))]) (ps := [(0, .string (bs ([preC 2] ++ xs.getD (xs.length - 1) [])))]) rfl rfl rfl rfl rfl rfl) rfl rfl n_h ?_
         rintro _ _ ⟨b125, rfl, rfl⟩
         refine d_x rfl (x_appendN (T := 9) (by_ := 16) (b := b107) (m := xs.length - 1) (c2 := ci) (a2 := some ⟨b, 0, none⟩) (ys := (xs.take (xs.length - 1)).map strV) (A := [(b125, _)]) (R := [(b, _)]) rfl rfl rfl rfl (fun w hw => .row _ _ _ _ _ (by rw [List.length_map, List.length_take]; omega) (stack_row (T := 9) (xs := xs) (sp := sp) o_m m_m hw)) (ones_strV _) o_m o_m) rfl rfl n_h ?_
         rintro _ _ ⟨b112, c112, sp112, rfl, hc112, hm112, hle112, rfl⟩
         refine d_x rfl (x_append (A := []) (R := [(b125, _), (b, _)]) (G := [(b112, _)]) (v := .slice (some ⟨b112, 0, none⟩) (xs.length - 1) c112) (n := xs.length - 1) (xs := (xs.take (xs.length - 1)).map strV) (m := 1) (T := 9) (s := 1) (by_ := 16) (ys := [.string (bs ([preC 2] ++ xs.getD (xs.length - 1) []))]) rfl rfl rfl rfl (Vec.row b112 (xs.length - 1) c112 _ sp112 (by rw [List.length_map, List.length_take]; omega) (by rw [Nat.mul_one]; exact hc112) hm112 hle112) (fun w hw => .row _ _ _ _ _ rfl (row_own (b := b125) m_m w hw)) rfl o_m o_m) rfl rfl n_h ?_
         rintro v126 _ ⟨G126, hV126, _, rfl⟩
         obtain ⟨a126, c126, rfl⟩ := hV126.slice
         refine RD ?_
         refine d_nil ?_
         exact ⟨(xs.take (xs.length - 1), [preC 2] ++ xs.getD (xs.length - 1) [], 1, _, G126), ⟨he, rfl, hV126.as (congrArg (· + 1) (by rw [List.length_take]; omega)) (by rw [List.map_append]; rfl)⟩, .cons rfl .nil, a_g, fun _ h => h.sub ((List.Sublist.refl _).append (List.nil_sublist _))⟩
        exact d_stop
       refine d_fork ?_ ?_
       ·refine d_x rfl (x_slc (z := [.string (bs [])]) (l := [.string (bs ([preC 2] ++ xs.getD (xs.length - 1) []))]) (ps := [(0, .string (bs ([preC 2] ++ xs.getD (xs.length - 1) [])))]) rfl rfl rfl rfl rfl rfl) rfl rfl n_h ?_
        rintro _ _ ⟨b125, rfl, rfl⟩
        refine d_x rfl (x_slc0 rfl) rfl rfl n_h ?_
        rintro _ _ ⟨b107, rfl, rfl⟩
        refine d_x rfl (x_appendN (T := 9) (by_ := 16) (b := b107) (m := xs.length - 1) (c2 := ci) (a2 := some ⟨b, 0, none⟩) (ys := (xs.take (xs.length - 1)).map strV) (A := []) (R := [(b125, _), (b, _)]) rfl rfl rfl rfl (fun w hw => .row _ _ _ _ _ (by rw [List.length_map, List.length_take]; omega) (stack_row (T := 9) (xs := xs) (sp := sp) o_m m_m hw)) (ones_strV _) o_m o_m) rfl rfl n_h ?_
        rintro _ _ ⟨b112, c112, sp112, rfl, hc112, hm112, hle112, rfl⟩
        refine d_x rfl (x_append (A := []) (R := [(b125, _), (b, _)]) (G := [(b112, _)]) (v := .slice (some ⟨b112, 0, none⟩) (xs.length - 1) c112) (n := xs.length - 1) (xs := (xs.take (xs.length - 1)).map strV) (m := 1) (T := 9) (s := 1) (by_ := 16) (ys := [.string (bs ([preC 2] ++ xs.getD (xs.length - 1) []))]) rfl rfl rfl rfl (Vec.row b112 (xs.length - 1) c112 _ sp112 (by rw [List.length_map, List.length_take]; omega) (by rw [Nat.mul_one]; exact hc112) hm112 hle112) (fun w hw => .row _ _ _ _ _ rfl (row_own (b := b125) m_m w hw)) rfl o_m o_m) rfl rfl n_h ?_
        rintro v126 _ ⟨G126, hV126, _, rfl⟩
        obtain ⟨a126, c126, rfl⟩ := hV126.slice
        refine RD ?_
        refine d_nil ?_
        exact ⟨(xs.take (xs.length - 1), [preC 2] ++ xs.getD (xs.length - 1) [], 1, _, G126), ⟨he, rfl, hV126.as (congrArg (· + 1) (by rw [List.length_take]; omega)) (by rw [List.map_append]; rfl)⟩, .cons rfl .nil, a_g, fun _ h => h.sub ((List.Sublist.refl _).append (List.nil_sublist _))⟩
       exact d_stop
      exact d_stop
    ·refine c_region ?_
     refine RL ?_
     refine l_sure false rfl rfl rfl (decide_eq_false o_m) ?_
     refine RL ?_
     refine RLp ?_
     refine RLp ?_
     refine RL ?_
     refine RL ?_
     refine RLp ?_
     refine RLp ?_
     refine RL ?_
     refine RL ?_
     refine l_nil ?_
     refine c_false rfl ?_
     refine c_seq ?_
     refine c_region ?_
     refine RL ?_
     refine l_sure false rfl rfl rfl (decide_eq_false o_m) ?_
     refine RL ?_
     refine RLp ?_
     refine RLp ?_
     refine RL ?_
     refine RL ?_
     refine RLp ?_
     refine RLp ?_
     refine RL ?_
     refine RL ?_
     refine l_nil ?_
     refine c_false rfl ?_
     refine c_seq ?_
     refine c_region ?_
     refine RL ?_
     refine l_sure false rfl rfl rfl (decide_eq_false o_m) ?_
     refine RL ?_
     refine RLp ?_
     refine RLp ?_
     refine RL ?_
     refine RL ?_
     refine RLp ?_
     refine RLp ?_
     refine RL ?_
     refine RL ?_
     refine l_nil ?_
     refine c_false rfl ?_
     refine c_seq ?_
     refine c_region ?_
     refine RL ?_
     refine l_sure true rfl rfl rfl (decide_eq_true o_m) ?_
     refine RL ?_
     refine RL ?_
     refine l_sure false rfl rfl rfl (decide_eq_false o_m) ?_
     refine RL ?_
     refine RL ?_
     refine RLp ?_
     refine RLp ?_
     refine RL ?_
     refine RL ?_
     refine RLp ?_
     refine RLp ?_
     refine RL ?_
     refine RL ?_
     refine l_nil ?_
     refine c_false rfl ?_
     refine c_seq ?_
     refine c_region ?_
     refine RL ?_
     refine l_sure true rfl rfl rfl (decide_eq_true o_m) ?_
     refine RL ?_
     refine RL ?_
     refine l_sure true rfl rfl rfl (decide_eq_true o_m) ?_
     iterate 3 refine RL ?_
     refine l_sure true rfl rfl rfl (decide_eq_true o_m) ?_
     iterate 3 refine RL ?_
     refine l_sure true rfl rfl rfl (decide_eq_true o_m) ?_
     refine RL ?_
     refine RL ?_
     refine l_nil ?_
     refine c_true rfl ?_
     refine c_seq ?_
     refine c_region ?_
     refine RL ?_
     refine l_x (x_call call_21 rfl (fun w hw => sign_fn op ho w)) rfl rfl ?_
     rintro _ _ ⟨G144, ⟨_, m144, rfl⟩, rfl⟩
     refine l_heap (fun w h => h.sub (List.sublist_append_right _ _)) ?_
     iterate 5 refine RL ?_
     refine l_nil ?_
     rcases vec_cases hVi with ⟨rfl, rfl, rfl, rfl⟩ | ⟨b, sp, rfl, rfl, hcp, hcm, hcl⟩
     ·exact absurd hk (by simp)
     have hl1 := getD_short hx4 (xs.length - 1)
     have hl2 := getD_short hx4 (xs.length - 2)
     simp only [List.cons_append, List.nil_append]
     have hl3 := word_short op
     refine c_draw _ [] (.step true 1 (.step true 2 (.step true 3 (.step true 4 (.step true 6 (.step true 7 (.step true 8 (.step true 9 (.step true 13 (.step true 16 (.step true 17 (.step true 18 (.step true 19 (.fork 0 (.fork 5 (.fork 10 (.step true 11 (.step true 12 (.step true 14 (.step true 15 (.step false 20 (.step true 21 (.step true 22 (.step false 23 (.step false 24 (.step true 25 .done)))))))))) (.fork 20 (.step false 10 (.step true 11 (.step true 12 (.step true 14 (.step true 15 (.step true 21 (.step true 22 (.step false 23 (.step false 24 (.step true 25 .done)))))))))) .stop)) (.fork 10 (.step true 11 (.step true 12 (.step true 14 (.step true 15 (.fork 5 (.step false 20 (.step true 21 (.step true 22 (.step false 23 (.step false 24 (.step true 25 .done)))))) (.fork 20 (.step true 21 (.step true 22 (.fork 5 (.step false 23 (.step false 24 (.step true 25 .done))) (.fork 23 (.step false 5 (.step false 24 (.step true 25 .done))) .stop)))) .stop)))))) (.fork 20 (.fork 5 (.step false 10 (.step true 11 (.step true 12 (.step true 14 (.step true 15 (.step true 21 (.step true 22 (.step false 23 (.step false 24 (.step true 25 .done)))))))))) (.fork 10 (.step true 11 (.step true 12 (.step true 14 (.step true 15 (.step true 21 (.step true 22 (.fork 5 (.step false 23 (.step false 24 (.step true 25 .done))) (.fork 23 (.step false 5 (.step false 24 (.step true 25 .done))) .stop)))))))) .stop)) .stop))) (.fork 10 (.step true 11 (.step true 12 (.step true 14 (.step true 15 (.fork 0 (.fork 5 (.step false 20 (.step true 21 (.step true 22 (.step false 23 (.step false 24 (.step true 25 .done)))))) (.fork 20 (.step true 21 (.step true 22 (.fork 5 (.step false 23 (.step false 24 (.step true 25 .done))) (.fork 23 (.step false 5 (.step false 24 (.step true 25 .done))) .stop)))) .stop)) (.fork 20 (.step true 21 (.step true 22 (.fork 0 (.fork 5 (.step false 23 (.step false 24 (.step true 25 .done))) (.fork 23 (.step false 5 (.step false 24 (.step true 25 .done))) .stop)) (.fork 23 (.step false 0 (.step false 5 (.step false 24 (.step true 25 .done)))) .stop)))) .stop)))))) (.fork 20 (.fork 0 (.fork 5 (.step false 10 (.step true 11 (.step true 12 (.step true 14 (.step true 15 (.step true 21 (.step true 22 (.step false 23 (.step false 24 (.step true 25 .done)))))))))) (.fork 10 (.step true 11 (.step true 12 (.step true 14 (.step true 15 (.step true 21 (.step true 22 (.fork 5 (.step false 23 (.step false 24 (.step true 25 .done))) (.fork 23 (.step false 5 (.step false 24 (.step true 25 .done))) .stop)))))))) .stop)) (.fork 10 (.step true 11 (.step true 12 (.step true 14 (.step true 15 (.step true 21 (.step true 22 (.fork 0 (.fork 5 (.step false 23 (.step false 24 (.step true 25 .done))) (.fork 23 (.step false 5 (.step false 24 (.step true 25 .done))) .stop)) (.fork 23 (.step false 0 (.step false 5 (.step false 24 (.step true 25 .done)))) .stop)))))))) .stop)) .stop)))))))))))))))) rfl (by kernel_rfl) (by kernel_rfl) (fun _ h => h) ?_
     refine RD ?_
     refine RD ?_
     refine d_as (v := (.int .i64 ((xs.length - 2 : Nat) : Int))) rfl rfl rfl rfl rfl ((as_i64 o_m o_m).trans (congrArg _ o_m)) ?_
     refine d_as (v := (.slice (some ⟨b, 0, none⟩) (xs.length - 2) ci)) rfl (cut_slice1 0 (xs.length - 2) rfl rfl rfl rfl rfl rfl (Nat.zero_le _) o_m) rfl rfl rfl (by rw [cut1_0, Nat.sub_zero, Nat.sub_zero]) ?_
     refine RD ?_
     refine RD ?_
     refine d_as (v := (.int .i64 ((xs.length - 2 : Nat) : Int))) rfl rfl rfl rfl rfl ((as_i64 o_m o_m).trans (congrArg _ o_m)) ?_
     refine d_light rfl (idx_slice1 (xs.length - 2) rfl rfl rfl o_m o_m) rfl rfl rfl ?_
     iterate 3 refine RD ?_
     refine d_as (v := (.int .i64 ((xs.length - 1 : Nat) : Int))) rfl rfl rfl rfl rfl ((as_i64 o_m o_m).trans (congrArg _ o_m)) ?_
     refine d_light rfl (idx_slice1 (xs.length - 1) rfl rfl rfl o_m o_m) rfl rfl rfl ?_
     refine d_fork ?_ ?_
     ·refine d_x rfl (x_slc0 rfl) rfl rfl n_h ?_
      rintro _ _ ⟨b147, rfl, rfl⟩
      refine d_fork ?_ ?_
      ·refine d_x rfl (x_appendN (T := 9) (by_ := 16) (b := b147) (m := xs.length - 2) (c2 := ci) (a2 := some ⟨b, 0, none⟩) (ys := (xs.take (xs.length - 2)).map strV) (A := []) (R := [(b, _)]) rfl rfl rfl rfl (fun w hw => .row _ _ _ _ _ (by rw [List.length_map, List.length_take]; omega) (stack_row (T := 9) (xs := xs) (sp := sp) o_m m_m hw)) (ones_strV _) o_m o_m) rfl rfl n_h ?_
       rintro _ _ ⟨b152, c152, sp152, rfl, hc152, hm152, hle152, rfl⟩
       refine d_fork ?_ ?_
       ·refine d_x rfl (x_load rfl rfl (fun w hw => stack_at (T := 9) (xs := xs) (sp := sp) (j := xs.length - 2) o_m m_m hw)) rfl rfl n_h ?_
        rintro _ _ ⟨rfl, rfl⟩
        refine d_light rfl (light_cat rfl rfl (by (try simp only [List.length_append, List.length_cons, List.length_nil]); omega)) rfl rfl rfl ?_
        refine d_light rfl (light_cat rfl rfl (by (try simp only [List.length_append, List.length_cons, List.length_nil]); omega)) rfl rfl rfl ?_
        refine d_light rfl (light_cat rfl rfl (by (try simp only [List.length_append, List.length_cons, List.length_nil]); omega)) rfl rfl rfl ?_
        refine d_light rfl (light_cat rfl rfl (by (try simp only [List.length_append, List.length_cons, List.length_nil]); omega)) rfl rfl rfl ?_
        refine d_x rfl (x_load rfl rfl (fun w hw => stack_at (T := 9) (xs := xs) (sp := sp) (j := xs.length - 1) o_m m_m hw)) rfl rfl n_h ?_
        rintro _ _ ⟨rfl, rfl⟩
        refine d_light rfl (light_cat rfl rfl (by (try simp only [List.length_append, List.length_cons, List.length_nil]); omega)) rfl rfl rfl ?_
        refine d_light rfl (light_cat rfl rfl (by (try simp only [List.length_append, List.length_cons, List.length_nil]); omega)) rfl rfl rfl ?_
        refine d_x rfl (x_slc (z := [.string (bs [])]) (l := [.string (bs ([40] ++ xs.getD (xs.length - 2) [] ++ [32] ++ wordT op ++ [32] ++ xs.getD (xs.length - 1) [] ++ [41]))]) (ps := [(0, .string (bs ([40] ++ xs.getD (xs.length - 2) [] ++ [32] ++ wordT op ++ [32] ++ xs.getD (xs.length - 1) [] ++ [41])))]) rfl rfl rfl rfl rfl rfl) rfl rfl n_h ?_
        rintro _ _ ⟨b170, rfl, rfl⟩
        refine d_x rfl (x_append (A := [(b170, _)]) (R := [(b, _)]) (G := [(b152, _)]) (v := .slice (some ⟨b152, 0, none⟩) (xs.length - 2) c152) (n := xs.length - 2) (xs := (xs.take (xs.length - 2)).map strV) (m := 1) (T := 9) (s := 1) (by_ := 16) (ys := [.string (bs ([40] ++ xs.getD (xs.length - 2) [] ++ [32] ++ wordT op ++ [32] ++ xs.getD (xs.length - 1) [] ++ [41]))]) rfl rfl rfl rfl (Vec.row b152 (xs.length - 2) c152 _ sp152 (by rw [List.length_map, List.length_take]; omega) (by rw [Nat.mul_one]; exact hc152) hm152 hle152) (fun w hw => .row _ _ _ _ _ rfl (row_own (b := b170) m_m w hw)) rfl o_m o_m) rfl rfl n_h ?_
        rintro v171 _ ⟨G171, hV171, _, rfl⟩
        obtain ⟨a171, c171, rfl⟩ := hV171.slice
        refine RD ?_
        refine d_nil ?_
        exact ⟨(xs.take (xs.length - 2), [40] ++ xs.getD (xs.length - 2) [] ++ [32] ++ wordT op ++ [32] ++ xs.getD (xs.length - 1) [] ++ [41], 2, _, G171), ⟨he, rfl, hV171.as (congrArg (· + 1) (by rw [List.length_take]; omega)) (by rw [List.map_append]; rfl)⟩, .cons rfl .nil, a_g, fun _ h => h.sub ((List.Sublist.refl _).append (List.nil_sublist _))⟩
       refine d_fork ?_ ?_
       ·refine d_x rfl (x_load rfl rfl (fun w hw => stack_at (T := 9) (xs := xs) (sp := sp) (j := xs.length - 1) o_m m_m hw)) rfl rfl n_h ?_
        rintro _ _ ⟨rfl, rfl⟩
        refine d_x rfl (x_load rfl rfl (fun w hw => stack_at (T := 9) (xs := xs) (sp := sp) (j := xs.length - 2) o_m m_m hw)) rfl rfl n_h ?_
        rintro _ _ ⟨rfl, rfl⟩
        refine d_light rfl (light_cat rfl rfl (by (try simp only [List.length_append, List.length_cons, List.length_nil]); omega)) rfl rfl rfl ?_
        refine d_light rfl (light_cat rfl rfl (by (try simp only [List.length_append, List.length_cons, List.length_nil]); omega)) rfl rfl rfl ?_
        refine d_light rfl (light_cat rfl rfl (by (try simp only [List.length_append, List.length_cons, List.length_nil]); omega)) rfl rfl rfl ?_
        refine d_light rfl (light_cat rfl rfl (by (try simp only [List.length_append, List.length_cons, List.length_nil]); omega)) rfl rfl rfl ?_
        refine d_light rfl (light_cat rfl rfl (by (try simp only [List.length_append, List.length_cons, List.length_nil]); omega)) rfl rfl rfl ?_
        refine d_light rfl (light_cat rfl rfl (by (try simp only [List.length_append, List.length_cons, List.length_nil]); omega)) rfl rfl rfl ?_
        refine d_x rfl (x_slc (z := [.string (bs [])]) (l := [.string (bs ([40] ++ xs.getD (xs.length - 2) [] ++ [32] ++ wordT op ++ [32] ++ xs.getD (xs.length - 1) [] ++ [41]))]) (ps := [(0, .string (bs ([40] ++ xs.getD (xs.length - 2) [] ++ [32] ++ wordT op ++ [32] ++ xs.getD (xs.length - 1) [] ++ [41])))]) rfl rfl rfl rfl rfl rfl) rfl rfl n_h ?_
        rintro _ _ ⟨b170, rfl, rfl⟩
        refine d_x rfl (x_append (A := [(b170, _)]) (R := [(b, _)]) (G := [(b152, _)]) (v := .slice (some ⟨b152, 0, none⟩) (xs.length - 2) c152) (n := xs.length - 2) (xs := (xs.take (xs.length - 2)).map strV) (m := 1) (T := 9) (s := 1) (by_ := 16) (ys := [.string (bs ([40] ++ xs.getD (xs.length - 2) [] ++ [32] ++ wordT op ++ [32] ++ xs.getD (xs.length - 1) [] ++ [41]))]) rfl rfl rfl rfl (Vec.row b152 (xs.length - 2) c152 _ sp152 (by rw [List.length_map, List.length_take]; omega) (by rw [Nat.mul_one]; exact hc152) hm152 hle152) (fun w hw => .row _ _ _ _ _ rfl (row_own (b := b170) m_m w hw)) rfl o_m o_m) rfl rfl n_h ?_
        rintro v171 _ ⟨G171, hV171, _, rfl⟩
        obtain ⟨a171, c171, rfl⟩ := hV171.slice
        refine RD ?_
        refine d_nil ?_
        exact ⟨(xs.take (xs.length - 2), [40] ++ xs.getD (xs.length - 2) [] ++ [32] ++ wordT op ++ [32] ++ xs.getD (xs.length - 1) [] ++ [41], 2, _, G171), ⟨he, rfl, hV171.as (congrArg (· + 1) (by rw [List.length_take]; omega)) (by rw [List.map_append]; rfl)⟩, .cons rfl .nil, a_g, fun _ h => h.sub ((List.Sublist.refl _).append (List.nil_sublist _))⟩
       exact d_stop
      refine d_fork ?_ ?_
      ·refine d_x rfl (x_load rfl rfl (fun w hw => stack_at (T := 9) (xs := xs) (sp := sp) (j := xs.length - 2) o_m m_m hw)) rfl rfl n_h ?_
       rintro _ _ ⟨rfl, rfl⟩
       refine d_light rfl (light_cat rfl rfl (by (try simp only [List.length_append, List.length_cons, List.length_nil]); omega)) rfl rfl rfl ?_
       refine d_light rfl (light_cat rfl rfl (by (try simp only [List.length_append, List.length_cons, List.length_nil]); omega)) rfl rfl rfl ?_
       refine d_light rfl (light_cat rfl rfl (by (try simp only [List.length_append, List.length_cons, List.length_nil]); omega)) rfl rfl rfl ?_
       refine d_light rfl (light_cat rfl rfl (by (try simp only [List.length_append, List.length_cons, List.length_nil]); omega)) rfl rfl rfl ?_
       refine d_fork ?_ ?_
       ·refine d_x rfl (x_appendN (T := 9) (by_ := 16) (b := b147) (m := xs.length - 2) (c2 := ci) (a2 := some ⟨b, 0, none⟩) (ys := (xs.take (xs.length - 2)).map strV) (A := []) (R := [(b, _)]) rfl rfl rfl rfl (fun w hw => .row _ _ _ _ _ (by rw [List.length_map, List.length_take]; omega) (stack_row (T := 9) (xs := xs) (sp := sp) o_m m_m hw)) (ones_strV _) o_m o_m) rfl rfl n_h ?_
        rintro _ _ ⟨b152, c152, sp152, rfl, hc152, hm152, hle152, rfl⟩
        refine d_x rfl (x_load rfl rfl (fun w hw => stack_at (T := 9) (xs := xs) (sp := sp) (j := xs.length - 1) o_m m_m hw)) rfl rfl n_h ?_
        rintro _ _ ⟨rfl, rfl⟩
        refine d_light rfl (light_cat rfl rfl (by (try simp only [List.length_append, List.length_cons, List.length_nil]); omega)) rfl rfl rfl ?_
        refine d_light rfl (light_cat rfl rfl (by (try simp only [List.length_append, List.length_cons, List.length_nil]); omega)) rfl rfl rfl ?_
        refine d_x rfl (x_slc (z := [.string (bs [])]) (l := [.string (bs ([40] ++ xs.getD (xs.length - 2) [] ++ [32] ++ wordT op ++ [32] ++ xs.getD (xs.length - 1) [] ++ [41]))]) (ps := [(0, .string (bs ([40] ++ xs.getD (xs.length - 2) [] ++ [32] ++ wordT op ++ [32] ++ xs.getD (xs.length - 1) [] ++ [41])))]) rfl rfl rfl rfl rfl rfl) rfl rfl n_h ?_
        rintro _ _ ⟨b170, rfl, rfl⟩
        refine d_x rfl (x_append (A := [(b170, _)]) (R := [(b, _)]) (G := [(b152, _)]) (v := .slice (some ⟨b152, 0, none⟩) (xs.length - 2) c152) (n := xs.length - 2) (xs := (xs.take (xs.length - 2)).map strV) (m := 1) (T := 9) (s := 1) (by_ := 16) (ys := [.string (bs ([40] ++ xs.getD (xs.length - 2) [] ++ [32] ++ wordT op ++ [32] ++ xs.getD (xs.length - 1) [] ++ [41]))]) rfl rfl rfl rfl (Vec.row b152 (xs.length - 2) c152 _ sp152 (by rw [List.length_map, List.length_take]; omega) (by rw [Nat.mul_one]; exact hc152) hm152 hle152) (fun w hw => .row _ _ _ _ _ rfl (row_own (b := b170) m_m w hw)) rfl o_m o_m) rfl rfl n_h ?_
        rintro v171 _ ⟨G171, hV171, _, rfl⟩
        obtain ⟨a171, c171, rfl⟩ := hV171.slice
        refine RD ?_
        refine d_nil ?_
        exact ⟨(xs.take (xs.length - 2), [40] ++ xs.getD (xs.length - 2) [] ++ [32] ++ wordT op ++ [32] ++ xs.getD (xs.length - 1) [] ++ [41], 2, _, G171), ⟨he, rfl, hV171.as (congrArg (· + 1) (by rw [List.length_take]; omega)) (by rw [List.map_append]; rfl)⟩, .cons rfl .nil, a_g, fun _ h => h.sub ((List.Sublist.refl _).append (List.nil_sublist _))⟩
       refine d_fork ?_ ?_
       ·refine d_x rfl (x_load rfl rfl (fun w hw => stack_at (T := 9) (xs := xs) (sp := sp) (j := xs.length - 1) o_m m_m hw)) rfl rfl n_h ?_
        rintro _ _ ⟨rfl, rfl⟩
        refine d_light rfl (light_cat rfl rfl (by (try simp only [List.length_append, List.length_cons, List.length_nil]); omega)) rfl rfl rfl ?_
        refine d_light rfl (light_cat rfl rfl (by (try simp only [List.length_append, List.length_cons, List.length_nil]); omega)) rfl rfl rfl ?_
        refine d_fork ?_ ?_
        ·refine d_x rfl (x_appendN (T := 9) (by_ := 16) (b := b147) (m := xs.length - 2) (c2 := ci) (a2 := some ⟨b, 0, none⟩) (ys := (xs.take (xs.length - 2)).map strV) (A := []) (R := [(b, _)]) rfl rfl rfl rfl (fun w hw => .row _ _ _ _ _ (by rw [List.length_map, List.length_take]; omega) (stack_row (T := 9) (xs := xs) (sp := sp) o_m m_m hw)) (ones_strV _) o_m o_m) rfl rfl n_h ?_
         rintro _ _ ⟨b152, c152, sp152, rfl, hc152, hm152, hle152, rfl⟩
         refine d_x rfl (x_slc (z := [.string (bs [])]) (l := [.string (bs ([40] ++ xs.getD (xs.length - 2) [] ++ [32] ++ wordT op ++ [32] ++ xs.getD (xs.length - 1) [] ++ [41]))]) (ps := [(0, .string (bs ([40] ++ xs.getD (xs.length - 2) [] ++ [32] ++ wordT op ++ [32] ++ xs.getD (xs.length - 1) [] ++ [41])))]) rfl rfl rfl rfl rfl rfl) rfl rfl n_h ?_
         rintro _ _ ⟨b170, rfl, rfl⟩
         refine d_x rfl (x_append (A := [(b170, _)]) (R := [(b, _)]) (G := [(b152, _)]) (v := .slice (some ⟨b152, 0, none⟩) (xs.length - 2) c152) (n := xs.length - 2) (xs := (xs.take (xs.length - 2)).map strV) (m := 1) (T := 9) (s := 1) (by_ := 16) (ys := [.string (bs ([40] ++ xs.getD (xs.length - 2) [] ++ [32] ++ wordT op ++ [32] ++ xs.getD (xs.length - 1) [] ++ [41]))]) rfl rfl rfl rfl (Vec.row b152 (xs.length - 2) c152 _ sp152 (by rw [List.length_map, List.length_take]; omega) (by rw [Nat.mul_one]; exact hc152) hm152 hle152) (fun w hw => .row _ _ _ _ _ rfl (row_own (b := b170) m_m w hw)) rfl o_m o_m) rfl rfl n_h ?_
         rintro v171 _ ⟨G171, hV171, _, rfl⟩
         obtain ⟨a171, c171, rfl⟩ := hV171.slice
         refine RD ?_
         refine d_nil ?_
         exact ⟨(xs.take (xs.length - 2), [40] ++ xs.getD (xs.length - 2) [] ++ [32] ++ wordT op ++ [32] ++ xs.getD (xs.length - 1) [] ++ [41], 2, _, G171), ⟨he, rfl, hV171.as (congrArg (· + 1) (by rw [List.length_take]; omega)) (by rw [List.map_append]; rfl)⟩, .cons rfl .nil, a_g, fun _ h => h.sub ((List.Sublist.refl _).append (List.nil_sublist _))⟩
        refine d_fork ?_ ?_
        ·refine d_x rfl (x_slc (z := [.string (bs [])]) (l := [.string (bs ([40] ++ xs.getD (xs.length - 2) [] ++ [32] ++ wordT op ++ [32] ++ xs.getD (xs.length - 1) [] ++ [41]))]) (ps := [(0, .string (bs ([40] ++ xs.getD (xs.length - 2) [] ++ [32] ++ wordT op ++ [32] ++ xs.getD (xs.length - 1) [] ++ [41])))]) rfl rfl rfl rfl rfl rfl) rfl rfl n_h ?_
         rintro _ _ ⟨b170, rfl, rfl⟩
         refine d_x rfl (x_appendN (T := 9) (by_ := 16) (b := b147) (m := xs.length - 2) (c2 := ci) (a2 := some ⟨b, 0, none⟩) (ys := (xs.take (xs.length - 2)).map strV) (A := [(b170, _)]) (R := [(b, _)]) rfl rfl rfl rfl (fun w hw => .row _ _ _ _ _ (by rw [List.length_map, List.length_take]; omega) (stack_row (T := 9) (xs := xs) (sp := sp) o_m m_m hw)) (ones_strV _) o_m o_m) rfl rfl n_h ?_
         rintro _ _ ⟨b152, c152, sp152, rfl, hc152, hm152, hle152, rfl⟩
         refine d_x rfl (x_append (A := []) (R := [(b170, _), (b, _)]) (G := [(b152, _)]) (v := .slice (some ⟨b152, 0, none⟩) (xs.length - 2) c152) (n := xs.length - 2) (xs := (xs.take (xs.length - 2)).map strV) (m := 1) (T := 9) (s := 1) (by_ := 16) (ys := [.string (bs ([40] ++ xs.getD (xs.length - 2) [] ++ [32] ++ wordT op ++ [32] ++ xs.getD (xs.length - 1) [] ++ [41]))]) rfl rfl rfl rfl (Vec.row b152 (xs.length - 2) c152 _ sp152 (by rw [List.length_map, List.length_take]; omega) (by rw [Nat.mul_one]; exact hc152) hm152 hle152) (fun w hw => .row _ _ _ _ _ rfl (row_own (b := b170) m_m w hw)) rfl o_m o_m) rfl rfl n_h ?_
         rintro v171 _ ⟨G171, hV171, _, rfl⟩
         obtain ⟨a171, c171, rfl⟩ := hV171.slice
         refine RD ?_
         refine d_nil ?_
         exact ⟨(xs.take (xs.length - 2), [40] ++ xs.getD (xs.length - 2) [] ++ [32] ++ wordT op ++ [32] ++ xs.getD (xs.length - 1) [] ++ [41], 2, _, G171), ⟨he, rfl, hV171.as (congrArg (· + 1) (by rw [List.length_take]; omega)) (by rw [List.map_append]; rfl)⟩, .cons rfl .nil, a_g, fun _ h => h.sub ((List.Sublist.refl _).append (List.nil_sublist _))⟩
        exact d_stop
       exact d_stop
      refine d_fork ?_ ?_
      ·refine d_x rfl (x_load rfl rfl (fun w hw => stack_at (T := 9) (xs := xs) (sp := sp) (j := xs.length - 1) o_m m_m hw)) rfl rfl n_h ?_
       rintro _ _ ⟨rfl, rfl⟩
       refine d_fork ?_ ?_
       ·refine d_x rfl (x_appendN (T := 9) (by_ := 16) (b := b147) (m := xs.length - 2) (c2 := ci) (a2 := some ⟨b, 0, none⟩) (ys := (xs.take (xs.length - 2)).map strV) (A := []) (R := [(b, _)]) rfl rfl rfl rfl (fun w hw => .row _ _ _ _ _ (by rw [List.length_map, List.length_take]; omega) (stack_row (T := 9) (xs := xs) (sp := sp) o_m m_m hw)) (ones_strV _) o_m o_m) rfl rfl n_h ?_
        rintro _ _ ⟨b152, c152, sp152, rfl, hc152, hm152, hle152, rfl⟩
        refine d_x rfl (x_load rfl rfl (fun w hw => stack_at (T := 9) (xs := xs) (sp := sp) (j := xs.length - 2) o_m m_m hw)) rfl rfl n_h ?_
        rintro _ _ ⟨rfl, rfl⟩
        refine d_light rfl (light_cat rfl rfl (by (try simp only [List.length_append, List.length_cons, List.length_nil]); omega)) rfl rfl rfl ?_
        refine d_light rfl (light_cat rfl rfl (by (try simp only [List.length_append, List.length_cons, List.length_nil]); omega)) rfl rfl rfl ?_
        refine d_light rfl (light_cat rfl rfl (by (try simp only [List.length_append, List.length_cons, List.length_nil]); omega)) rfl rfl rfl ?_
        refine d_light rfl (light_cat rfl rfl (by (try simp only [List.length_append, List.length_cons, List.length_nil]); omega)) rfl rfl rfl ?_
        refine d_light rfl (light_cat rfl rfl (by (try simp only [List.length_append, List.length_cons, List.length_nil]); omega)) rfl rfl rfl ?_
        refine d_light rfl (light_cat rfl rfl (by (try simp only [List.length_append, List.length_cons, List.length_nil]); omega)) rfl rfl rfl ?_
        refine d_x rfl (x_slc (z := [.string (bs [])]) (l := [.string (bs ([40] ++ xs.getD (xs.length - 2) [] ++ [32] ++ wordT op ++ [32] ++ xs.getD (xs.length - 1) [] ++ [41]))]) (ps := [(0, .string (bs ([40] ++ xs.getD (xs.length - 2) [] ++ [32] ++ wordT op ++ [32] ++ xs.getD (xs.length - 1) [] ++ [41])))]) rfl rfl rfl rfl rfl rfl) rfl rfl n_h ?_
        rintro _ _ ⟨b170, rfl, rfl⟩
        refine d_x rfl (x_append (A := [(b170, _)]) (R := [(b, _)]) (G := [(b152, _)]) (v := .slice (some ⟨b152, 0, none⟩) (xs.length - 2) c152) (n := xs.length - 2) (xs := (xs.take (xs.length - 2)).map strV) (m := 1) (T := 9) (s := 1) (by_ := 16) (ys := [.string (bs ([40] ++ xs.getD (xs.length - 2) [] ++ [32] ++ wordT op ++ [32] ++ xs.getD (xs.length - 1) [] ++ [41]))]) rfl rfl rfl rfl (Vec.row b152 (xs.length - 2) c152 _ sp152 (by rw [List.length_map, List.length_take]; omega) (by rw [Nat.mul_one]; exact hc152) hm152 hle152) (fun w hw => .row _ _ _ _ _ rfl (row_own (b := b170) m_m w hw)) rfl o_m o_m) rfl rfl n_h ?_
        rintro v171 _ ⟨G171, hV171, _, rfl⟩
        obtain ⟨a171, c171, rfl⟩ := hV171.slice
        refine RD ?_
        refine d_nil ?_
        exact ⟨(xs.take (xs.length - 2), [40] ++ xs.getD (xs.length - 2) [] ++ [32] ++ wordT op ++ [32] ++ xs.getD (xs.length - 1) [] ++ [41], 2, _, G171), ⟨he, rfl, hV171.as (congrArg (· + 1) (by rw [List.length_take]; omega)) (by rw [List.map_append]; rfl)⟩, .cons rfl .nil, a_g, fun _ h => h.sub ((List.Sublist.refl _).append (List.nil_sublist _))⟩
       refine d_fork ?_ ?_
       ·refine d_x rfl (x_load rfl rfl (fun w hw => stack_at (T := 9) (xs := xs) (sp := sp) (j := xs.length - 2) o_m m_m hw)) rfl rfl n_h ?_
        rintro _ _ ⟨rfl, rfl⟩
        refine d_light rfl (light_cat rfl rfl (by (try simp only [List.length_append, List.length_cons, List.length_nil]); omega)) rfl rfl rfl ?_
        refine d_light rfl (light_cat rfl rfl (by (try simp only [List.length_append, List.length_cons, List.length_nil]); omega)) rfl rfl rfl ?_
        refine d_light rfl (light_cat rfl rfl (by (try simp only [List.length_append, List.length_cons, List.length_nil]); omega)) rfl rfl rfl ?_
        refine d_light rfl (light_cat rfl rfl (by (try simp only [List.length_append, List.length_cons, List.length_nil]); omega)) rfl rfl rfl ?_
        refine d_light rfl (light_cat rfl rfl (by (try simp only [List.length_append, List.length_cons, List.length_nil]); omega)) rfl rfl rfl ?_
        refine d_light rfl (light_cat rfl rfl (by (try simp only [List.length_append, List.length_cons, List.length_nil]); omega)) rfl rfl rfl ?_
        refine d_fork ?_ ?_
        ·refine d_x rfl (x_appendN (T := 9) (by_ := 16) (b := b147) (m := xs.length - 2) (c2 := ci) (a2 := some ⟨b, 0, none⟩) (ys := (xs.take (xs.length - 2)).map strV) (A := []) (R := [(b, _)]) rfl rfl rfl rfl (fun w hw => .row _ _ _ _ _ (by rw [List.length_map, List.length_take]; omega) (stack_row (T := 9) (xs := xs) (sp := sp) o_m m_m hw)) (ones_strV _) o_m o_m) rfl rfl n_h ?_
         rintro _ _ ⟨b152, c152, sp152, rfl, hc152, hm152, hle152, rfl⟩
         refine d_x rfl (x_slc (z := [.string (bs [])]) (l := [.string (bs ([40] ++ xs.getD (xs.length - 2) [] ++ [32] ++ wordT op ++ [32] ++ xs.getD (xs.length - 1) [] ++ [41]))]) (ps := [(0, .string (bs ([40] ++ xs.getD (xs.length - 2) [] ++ [32] ++ wordT op ++ [32] ++ xs.getD (xs.length - 1) [] ++ [41])))]) rfl rfl rfl rfl rfl rfl) rfl rfl n_h ?_
         rintro _ _ ⟨b170, rfl, rfl⟩
         refine d_x rfl (x_append (A := [(b170, _)]) (R := [(b, _)]) (G := [(b152, _)]) (v := .slice (some ⟨b152, 0, none⟩) (xs.length - 2) c152) (n := xs.length - 2) (xs := (xs.take (xs.length - 2)).map strV) (m := 1) (T := 9) (s := 1) (by_ := 16) (ys := [.string (bs ([40] ++ xs.getD (xs.length - 2) [] ++ [32] ++ wordT op ++ [32] ++ xs.getD (xs.length - 1) [] ++ [41]))]) rfl rfl rfl rfl (Vec.row b152 (xs.length - 2) c152 _ sp152 (by rw [List.length_map, List.length_take]; omega) (by rw [Nat.mul_one]; exact hc152) hm152 hle152) (fun w hw => .row _ _ _ _ _ rfl (row_own (b := b170) m_m w hw)) rfl o_m o_m) rfl rfl n_h ?_
         rintro v171 _ ⟨G171, hV171, _, rfl⟩
         obtain ⟨a171, c171, rfl⟩ := hV171.slice
         refine RD ?_
         refine d_nil ?_
         exact ⟨(xs.take (xs.length - 2), [40] ++ xs.getD (xs.length - 2) [] ++ [32] ++ wordT op ++ [32] ++ xs.getD (xs.length - 1) [] ++ [41], 2, _, G171), ⟨he, rfl, hV171.as (congrArg (· + 1) (by rw [List.length_take]; omega)) (by rw [List.map_append]; rfl)⟩, .cons rfl .nil, a_g, fun _ h => h.sub ((List.Sublist.refl _).append (List.nil_sublist _))⟩
        refine d_fork ?_ ?_
        ·refine d_x rfl (x_slc (z := [.string (bs [])]) (l := [.string (bs ([40] ++ xs.getD (xs.length - 2) [] ++ [32] ++ wordT op ++ [32] ++ xs.getD (xs.length - 1) [] ++ [41]))]) (ps := [(0, .string (bs ([40] ++ xs.getD (xs.length - 2) [] ++ [32] ++ wordT op ++ [32] ++ xs.getD (xs.length - 1) [] ++ [41])))]) rfl rfl rfl rfl rfl rfl) rfl rfl n_h ?_
         rintro _ _ ⟨b170, rfl, rfl⟩
         refine d_x rfl (x_appendN (T := 9) (by_ := 16) (b := b147) (m := xs.length - 2) (c2 := ci) (a2 := some ⟨b, 0, none⟩) (ys := (xs.take (xs.length - 2)).map strV) (A := [(b170, _)]) (R := [(b, _)]) rfl rfl rfl rfl (fun w hw => .row _ _ _ _ _ (by rw [List.length_map, List.length_take]; omega) (stack_row (T := 9) (xs := xs) (sp := sp) o_m m_m hw)) (ones_strV _) o_m o_m) rfl rfl n_h ?_
         rintro _ _ ⟨b152, c152, sp152, rfl, hc152, hm152, hle152, rfl⟩
         refine d_x rfl (x_append (A := []) (R := [(b170, _), (b, _)]) (G := [(b152, _)]) (v := .slice (some ⟨b152, 0, none⟩) (xs.length - 2) c152) (n := xs.length - 2) (xs := (xs.take (xs.length - 2)).map strV) (m := 1) (T := 9) (s := 1) (by_ := 16) (ys := [.string (bs ([40] ++ xs.getD (xs.length - 2) [] ++ [32] ++ wordT op ++ [32] ++ xs.getD (xs.length - 1) [] ++ [41]))]) rfl rfl rfl rfl (Vec.row b152 (xs.length - 2) c152 _ sp152 (by rw [List.length_map, List.length_take]; omega) (by rw [Nat.mul_one]; exact hc152) hm152 hle152) (fun w hw => .row _ _ _ _ _ rfl (row_own (b := b170) m_m w hw)) rfl o_m o_m) rfl rfl n_h ?_
         rintro v171 _ ⟨G171, hV171, _, rfl⟩
         obtain ⟨a171, c171, rfl⟩ := hV171.slice
         refine RD ?_
         refine d_nil ?_
         exact ⟨(xs.take (xs.length - 2), [40] ++ xs.getD (xs.length - 2) [] ++ [32] ++ wordT op ++ [32] ++ xs.getD (xs.length - 1) [] ++ [41], 2, _, G171), ⟨he, rfl, hV171.as (congrArg (· + 1) (by rw [List.length_take]; omega)) (by rw [List.map_append]; rfl)⟩, .cons rfl .nil, a_g, fun _ h => h.sub ((List.Sublist.refl _).append (List.nil_sublist _))⟩
        exact d_stop
       exact d_stop
      exact d_stop
     refine d_fork ?_ ?_
     ·refine d_x rfl (x_load rfl rfl (fun w hw => stack_at (T := 9) (xs := xs) (sp := sp) (j := xs.length - 2) o_m m_m hw)) rfl rfl n_h ?_
      rintro _ _ ⟨rfl, rfl⟩
      refine d_light rfl (light_cat rfl rfl (by (try simp only [List.length_append, List.length_cons, List.length_nil]); omega)) rfl rfl rfl ?_
      refine d_light rfl (light_cat rfl rfl (by (try simp only [List.length_append, List.length_cons, List.length_nil]); omega)) rfl rfl rfl ?_
      refine d_light rfl (light_cat rfl rfl (by (try simp only [List.length_append, List.length_cons, List.length_nil]); omega)) rfl rfl rfl ?_
      refine d_light rfl (light_cat rfl rfl (by (try simp only [List.length_append, List.length_cons, List.length_nil]); omega)) rfl rfl rfl ?_
      refine d_fork ?_ ?_
      ·refine d_x rfl (x_slc0 rfl) rfl rfl n_h ?_
       rintro _ _ ⟨b147, rfl, rfl⟩
       refine d_fork ?_ ?_
       ·refine d_x rfl (x_appendN (T := 9) (by_ := 16) (b := b147) (m := xs.length - 2) (c2 := ci) (a2 := some ⟨b, 0, none⟩) (ys := (xs.take (xs.length - 2)).map strV) (A := []) (R := [(b, _)]) rfl rfl rfl rfl (fun w hw => .row _ _ _ _ _ (by rw [List.length_map, List.length_take]; omega) (stack_row (T := 9) (xs := xs) (sp := sp) o_m m_m hw)) (ones_strV _) o_m o_m) rfl rfl n_h ?_
        rintro _ _ ⟨b152, c152, sp152, rfl, hc152, hm152, hle152, rfl⟩
        refine d_x rfl (x_load rfl rfl (fun w hw => stack_at (T := 9) (xs := xs) (sp := sp) (j := xs.length - 1) o_m m_m hw)) rfl rfl n_h ?_
        rintro _ _ ⟨rfl, rfl⟩
        refine d_light rfl (light_cat rfl rfl (by (try simp only [List.length_append, List.length_cons, List.length_nil]); omega)) rfl rfl rfl ?_
        refine d_light rfl (light_cat rfl rfl (by (try simp only [List.length_append, List.length_cons, List.length_nil]); omega)) rfl rfl rfl ?_
        refine d_x rfl (x_slc (z := [.string (bs [])]) (l := [.string (bs ([40] ++ xs.getD (xs.length - 2) [] ++ [32] ++ wordT op ++ [32] ++ xs.getD (xs.length - 1) [] ++ [41]))]) (ps := [(0, .string (bs ([40] ++ xs.getD (xs.length - 2) [] ++ [32] ++ wordT op ++ [32] ++ xs.getD (xs.length - 1) [] ++ [41])))]) rfl rfl rfl rfl rfl rfl) rfl rfl n_h ?_
        rintro _ _ ⟨b170, rfl, rfl⟩
        refine d_x rfl (x_append (A := [(b170, _)]) (R := [(b, _)]) (G := [(b152, _)]) (v := .slice (some ⟨b152, 0, none⟩) (xs.length - 2) c152) (n := xs.length - 2) (xs := (xs.take (xs.length - 2)).map strV) (m := 1) (T := 9) (s := 1) (by_ := 16) (ys := [.string (bs ([40] ++ xs.getD (xs.length - 2) [] ++ [32] ++ wordT op ++ [32] ++ xs.getD (xs.length - 1) [] ++ [41]))]) rfl rfl rfl rfl (Vec.row b152 (xs.length - 2) c152 _ sp152 (by rw [List.length_map, List.length_take]; omega) (by rw [Nat.mul_one]; exact hc152) hm152 hle152) (fun w hw => .row _ _ _ _ _ rfl (row_own (b := b170) m_m w hw)) rfl o_m o_m) rfl rfl n_h ?_
        rintro v171 _ ⟨G171, hV171, _, rfl⟩
        obtain ⟨a171, c171, rfl⟩ := hV171.slice
        refine RD ?_
        refine d_nil ?_
        exact ⟨(xs.take (xs.length - 2), [40] ++ xs.getD (xs.length - 2) [] ++ [32] ++ wordT op ++ [32] ++ xs.getD (xs.length - 1) [] ++ [41], 2, _, G171), ⟨he, rfl, hV171.as (congrArg (· + 1) (by rw [List.length_take]; omega)) (by rw [List.map_append]; rfl)⟩, .cons rfl .nil, a_g, fun _ h => h.sub ((List.Sublist.refl _).append (List.nil_sublist _))⟩
       refine d_fork ?_ ?_
       ·refine d_x rfl (x_load rfl rfl (fun w hw => stack_at (T := 9) (xs := xs) (sp := sp) (j := xs.length - 1) o_m m_m hw)) rfl rfl n_h ?_
        rintro _ _ ⟨rfl, rfl⟩
        refine d_light rfl (light_cat rfl rfl (by (try simp only [List.length_append, List.length_cons, List.length_nil]); omega)) rfl rfl rfl ?_
        refine d_light rfl (light_cat rfl rfl (by (try simp only [List.length_append, List.length_cons, List.length_nil]); omega)) rfl rfl rfl ?_
        refine d_fork ?_ ?_
        ·refine d_x rfl (x_appendN (T := 9) (by_ := 16) (b := b147) (m := xs.length - 2) (c2 := ci) (a2 := some ⟨b, 0, none⟩) (ys := (xs.take (xs.length - 2)).map strV) (A := []) (R := [(b, _)]) rfl rfl rfl rfl (fun w hw => .row _ _ _ _ _ (by rw [List.length_map, List.length_take]; omega) (stack_row (T := 9) (xs := xs) (sp := sp) o_m m_m hw)) (ones_strV _) o_m o_m) rfl rfl n_h ?_
         rintro _ _ ⟨b152, c152, sp152, rfl, hc152, hm152, hle152, rfl⟩
         refine d_x rfl (x_slc (z := [.string (bs [])]) (l := [.string (bs ([40] ++ xs.getD (xs.length - 2) [] ++ [32] ++ wordT op ++ [32] ++ xs.getD (xs.length - 1) [] ++ [41]))]) (ps := [(0, .string (bs ([40] ++ xs.getD (xs.length - 2) [] ++ [32] ++ wordT op ++ [32] ++ xs.getD (xs.length - 1) [] ++ [41])))]) rfl rfl rfl rfl rfl rfl) rfl rfl n_h ?_
         rintro _ _ ⟨b170, rfl, rfl⟩
         refine d_x rfl (x_append (A := [(b170, _)]) (R := [(b, _)]) (G := [(b152, _)]) (v := .slice (some ⟨b152, 0, none⟩) (xs.length - 2) c152) (n := xs.length - 2) (xs := (xs.take (xs.length - 2)).map strV) (m := 1) (T := 9) (s := 1) (by_ := 16) (ys := [.string (bs ([40] ++ xs.getD (xs.length - 2) [] ++ [32] ++ wordT op ++ [32] ++ xs.getD (xs.length - 1) [] ++ [41]))]) rfl rfl rfl rfl (Vec.row b152 (xs.length - 2) c152 _ sp152 (by rw [List.length_map, List.length_take]; omega) (by rw [Nat.mul_one]; exact hc152) hm152 hle152) (fun w hw => .row _ _ _ _ _ rfl (row_own (b := b170) m_m w hw)) rfl o_m o_m) rfl rfl n_h ?_
         rintro v171 _ ⟨G171, hV171, _, rfl⟩
         obtain ⟨a171, c171, rfl⟩ := hV171.slice
         refine RD ?_
         refine d_nil ?_
         exact ⟨(xs.take (xs.length - 2), [40] ++ xs.getD (xs.length - 2) [] ++ [32] ++ wordT op ++ [32] ++ xs.getD (xs.length - 1) [] ++ [41], 2, _, G171), ⟨he, rfl, hV171.as (congrArg (· + 1) (by rw [List.length_take]; omega)) (by rw [List.map_append]; rfl)⟩, .cons rfl .nil, a_g, fun _ h => h.sub ((List.Sublist.refl _).append (List.nil_sublist _))⟩
        refine d_fork ?_ ?_
        ·refine d_x rfl (x_slc (z := [.string (bs [])]) (l := [.string (bs ([40] ++ xs.getD (xs.length - 2) [] ++ [32] ++ wordT op ++ [32] ++ xs.getD (xs.length - 1) [] ++ [41]))]) (ps := [(0, .string (bs ([40] ++ xs.getD (xs.length - 2) [] ++ [32] ++ wordT op ++ [32] ++ xs.getD (xs.length - 1) [] ++ [41])))]) rfl rfl rfl rfl rfl rfl) rfl rfl n_h ?_
         rintro _ _ ⟨b170, rfl, rfl⟩
         refine d_x rfl (x_appendN (T := 9) (by_ := 16) (b := b147) (m := xs.length - 2) (c2 := ci) (a2 := some ⟨b, 0, none⟩) (ys := (xs.take (xs.length - 2)).map strV) (A := [(b170, _)]) (R := [(b, _)]) rfl rfl rfl rfl (fun w hw => .row _ _ _ _ _ (by rw [List.length_map, List.length_take]; omega) (stack_row (T := 9) (xs := xs) (sp := sp) o_m m_m hw)) (ones_strV _) o_m o_m) rfl rfl n_h ?_
         rintro _ _ ⟨b152, c152, sp152, rfl, hc152, hm152, hle152, rfl⟩
         refine d_x rfl (x_append (A := []) (R := [(b170, _), (b, _)]) (G := [(b152, _)]) (v := .slice (some ⟨b152, 0, none⟩) (xs.length - 2) c152) (n := xs.length - 2) (xs := (xs.take (xs.length - 2)).map strV) (m := 1) (T := 9) (s := 1) (by_ := 16) (ys := [.string (bs ([40] ++ xs.getD (xs.length - 2) [] ++ [32] ++ wordT op ++ [32] ++ xs.getD (xs.length - 1) [] ++ [41]))]) rfl rfl rfl rfl (Vec.row b152 (xs.length - 2) c152 _ sp152 (by rw [List.length_map, List.length_take]; omega) (by rw [Nat.mul_one]; exact hc152) hm152 hle152) (fun w hw => .row _ _ _ _ _ rfl (row_own (b := b170) m_m w hw)) rfl o_m o_m) rfl rfl n_h ?_
         rintro v171 _ ⟨G171, hV171, _, rfl⟩
         obtain ⟨a171, c171, rfl⟩ := hV171.slice
         refine RD ?_
         refine d_nil ?_
         exact ⟨(xs.take (xs.length - 2), [40] ++ xs.getD (xs.length - 2) [] ++ [32] ++ wordT op ++ [32] ++ xs.getD (xs.length - 1) [] ++ [41], 2, _, G171), ⟨he, rfl, hV171.as (congrArg (· + 1) (by rw [List.length_take]; omega)) (by rw [List.map_append]; rfl)⟩, .cons rfl .nil, a_g, fun _ h => h.sub ((List.Sublist.refl _).append (List.nil_sublist _))⟩
        exact d_stop
       exact d_stop
      refine d_fork ?_ ?_
      ·refine d_x rfl (x_load rfl rfl (fun w hw => stack_at (T := 9) (xs := xs) (sp := sp) (j := xs.length - 1) o_m m_m hw)) rfl rfl n_h ?_
       rintro _ _ ⟨rfl, rfl⟩
       refine d_light rfl (light_cat rfl rfl (by (try simp only [List.length_append, List.length_cons, List.length_nil]); omega)) rfl rfl rfl ?_
       refine d_light rfl (light_cat rfl rfl (by (try simp only [List.length_append, List.length_cons, List.length_nil]); omega)) rfl rfl rfl ?_
       refine d_fork ?_ ?_
       ·refine d_x rfl (x_slc0 rfl) rfl rfl n_h ?_
        rintro _ _ ⟨b147, rfl, rfl⟩
        refine d_fork ?_ ?_
        ·refine d_x rfl (x_appendN (T := 9) (by_ := 16) (b := b147) (m := xs.length - 2) (c2 := ci) (a2 := some ⟨b, 0, none⟩) (ys := (xs.take (xs.length - 2)).map strV) (A := []) (R := [(b, _)]) rfl rfl rfl rfl (fun w hw => .row _ _ _ _ _ (by rw [List.length_map, List.length_take]; omega) (stack_row (T := 9) (xs := xs) (sp := sp) o_m m_m hw)) (ones_strV _) o_m o_m) rfl rfl n_h ?_
         rintro _ _ ⟨b152, c152, sp152, rfl, hc152, hm152, hle152, rfl⟩
         refine d_x rfl (x_slc (z := [.string (bs [])]) (l := [.string (bs ([40] ++ xs.getD (xs.length - 2) [] ++ [32] ++ wordT op ++ [32] ++ xs.getD (xs.length - 1) [] ++ [41]))]) (ps := [(0, .string (bs ([40] ++ xs.getD (xs.length - 2) [] ++ [32] ++ wordT op ++ [32] ++ xs.getD (xs.length - 1) [] ++ [41])))]) rfl rfl rfl rfl rfl rfl) rfl rfl n_h ?_
         rintro _ _ ⟨b170, rfl, rfl⟩
         refine d_x rfl (x_append (A := [(b170, _)]) (R := [(b, _)]) (G := [(b152, _)]) (v := .slice (some ⟨b152, 0, none⟩) (xs.length - 2) c152) (n := xs.length - 2) (xs := (xs.take (xs.length - 2)).map strV) (m := 1) (T := 9) (s := 1) (by_ := 16) (ys := [.string (bs ([40] ++ xs.getD (xs.length - 2) [] ++ [32] ++ wordT op ++ [32] ++ xs.getD (xs.length - 1) [] ++ [41]))]) rfl rfl rfl rfl (Vec.row b152 (xs.length - 2) c152 _ sp152 (by rw [List.length_map, List.length_take]; omega) (by rw [Nat.mul_one]; exact hc152) hm152 hle152) (fun w hw => .row _ _ _ _ _ rfl (row_own (b := b170) m_m w hw)) rfl o_m o_m) rfl rfl n_h ?_
         rintro v171 _ ⟨G171, hV171, _, rfl⟩
         obtain ⟨a171, c171, rfl⟩ := hV171.slice
         refine RD ?_
         refine d_nil ?_
         exact ⟨(xs.take (xs.length - 2), [40] ++ xs.getD (xs.length - 2) [] ++ [32] ++ wordT op ++ [32] ++ xs.getD (xs.length - 1) [] ++ [41], 2, _, G171), ⟨he, rfl, hV171.as (congrArg (· + 1) (by rw [List.length_take]; omega)) (by rw [List.map_append]; rfl)⟩, .cons rfl .nil, a_g, fun _ h => h.sub ((List.Sublist.refl _).append (List.nil_sublist _))⟩
        refine d_fork ?_ ?_
        ·refine d_x rfl (x_slc (z := [.string (bs [])]) (l := [.string (bs ([40] ++ xs.getD (xs.length - 2) [] ++ [32] ++ wordT op ++ [32] ++ xs.getD (xs.length - 1) [] ++ [41]))]) (ps := [(0, .string (bs ([40] ++ xs.getD (xs.length - 2) [] ++ [32] ++ wordT op ++ [32] ++ xs.getD (xs.length - 1) [] ++ [41])))]) rfl rfl rfl rfl rfl rfl) rfl rfl n_h ?_
         rintro _ _ ⟨b170, rfl, rfl⟩
         refine d_x rfl (x_appendN (T := 9) (by_ := 16) (b := b147) (m := xs.length - 2) (c2 := ci) (a2 := some ⟨b, 0, none⟩) (ys := (xs.take (xs.length - 2)).map strV) (A := [(b170, _)]) (R := [(b, _)]) rfl rfl rfl rfl (fun w hw => .row _ _ _ _ _ (by rw [List.length_map, List.length_take]; omega) (stack_row (T := 9) (xs := xs) (sp := sp) o_m m_m hw)) (ones_strV _) o_m o_m) rfl rfl n_h ?_
         rintro _ _ ⟨b152, c152, sp152, rfl, hc152, hm152, hle152, rfl⟩
         refine d_x rfl (x_append (A := []) (R := [(b170, _), (b, _)]) (G := [(b152, _)]) (v := .slice (some ⟨b152, 0, none⟩) (xs.length - 2) c152) (n := xs.length - 2) (xs := (xs.take (xs.length - 2)).map strV) (m := 1) (T := 9) (s := 1) (by_ := 16) (ys := [.string (bs ([40] ++ xs.getD (xs.length - 2) [] ++ [32] ++ wordT op ++ [32] ++ xs.getD (xs.length - 1) [] ++ [41]))]) rfl rfl rfl rfl (Vec.row b152 (xs.length - 2) c152 _ sp152 (by rw [List.length_map, List.length_take]; omega) (by rw [Nat.mul_one]; exact hc152) hm152 hle152) (fun w hw => .row _ _ _ _ _ rfl (row_own (b := b170) m_m w hw)) rfl o_m o_m) rfl rfl n_h ?_
         rintro v171 _ ⟨G171, hV171, _, rfl⟩
         obtain ⟨a171, c171, rfl⟩ := hV171.slice
         refine RD ?_
         refine d_nil ?_
         exact ⟨(xs.take (xs.length - 2), [40] ++ xs.getD (xs.length - 2) [] ++ [32] ++ wordT op ++ [32] ++ xs.getD (xs.length - 1) [] ++ [41], 2, _, G171), ⟨he, rfl, hV171.as (congrArg (· + 1) (by rw [List.length_take]; omega)) (by rw [List.map_append]; rfl)⟩, .cons rfl .nil, a_g, fun _ h => h.sub ((List.Sublist.refl _).append (List.nil_sublist _))⟩
        exact d_stop
       refine d_fork ?_ ?_
       ·refine d_x rfl (x_slc (z := [.string (bs [])]) (l := [.string (bs ([40] ++ xs.getD (xs.length - 2) [] ++ [32] ++ wordT op ++ [32] ++ xs.getD (xs.length - 1) [] ++ [41]))]) (ps := [(0, .string (bs ([40] ++ xs.getD (xs.length - 2) [] ++ [32] ++ wordT op ++ [32] ++ xs.getD (xs.length - 1) [] ++ [41])))]) rfl rfl rfl rfl rfl rfl) rfl rfl n_h ?_
        rintro _ _ ⟨b170, rfl, rfl⟩
        refine d_x rfl (x_slc0 rfl) rfl rfl n_h ?_
        rintro _ _ ⟨b147, rfl, rfl⟩
        refine d_x rfl (x_appendN (T := 9) (by_ := 16) (b := b147) (m := xs.length - 2) (c2 := ci) (a2 := some ⟨b, 0, none⟩) (ys := (xs.take (xs.length - 2)).map strV) (A := []) (R := [(b170, _), (b, _)]) rfl rfl rfl rfl (fun w hw => .row _ _ _ _ _ (by rw [List.length_map, List.length_take]; omega) (stack_row (T := 9) (xs := xs) (sp := sp) o_m m_m hw)) (ones_strV _) o_m o_m) rfl rfl n_h ?_
        rintro _ _ ⟨b152, c152, sp152, rfl, hc152, hm152, hle152, rfl⟩
        refine d_x rfl (x_append (A := []) (R := [(b170, _), (b, _)]) (G := [(b152, _)]) (v := .slice (some ⟨b152, 0, none⟩) (xs.length - 2) c152) (n := xs.length - 2) (xs := (xs.take (xs.length - 2)).map strV) (m := 1) (T := 9) (s := 1) (by_ := 16) (ys := [.string (bs ([40] ++ xs.getD (xs.length - 2) [] ++ [32] ++ wordT op ++ [32] ++ xs.getD (xs.length - 1) [] ++ [41]))]) rfl rfl rfl rfl (Vec.row b152 (xs.length - 2) c152 _ sp152 (by rw [List.length_map, List.length_take]; omega) (by rw [Nat.mul_one]; exact hc152) hm152 hle152) (fun w hw => .row _ _ _ _ _ rfl (row_own (b := b170) m_m w hw)) rfl o_m o_m) rfl rfl n_h ?_
        rintro v171 _ ⟨G171, hV171, _, rfl⟩
        obtain ⟨a171, c171, rfl⟩ := hV171.slice
        refine RD ?_
        refine d_nil ?_
        exact ⟨(xs.take (xs.length - 2), [40] ++ xs.getD (xs.length - 2) [] ++ [32] ++ wordT op ++ [32] ++ xs.getD (xs.length - 1) [] ++ [41], 2, _, G171), ⟨he, rfl, hV171.as (congrArg (· + 1) (by rw [List.length_take]; omega)) (by rw [List.map_append]; rfl)⟩, .cons rfl .nil, a_g, fun _ h => h.sub ((List.Sublist.refl _).append (List.nil_sublist _))⟩
       exact d_stop
      exact d_stop
     refine d_fork ?_ ?_
     ·refine d_x rfl (x_load rfl rfl (fun w hw => stack_at (T := 9) (xs := xs) (sp := sp) (j := xs.length - 1) o_m m_m hw)) rfl rfl n_h ?_
      rintro _ _ ⟨rfl, rfl⟩
      refine d_fork ?_ ?_
      ·refine d_x rfl (x_slc0 rfl) rfl rfl n_h ?_
       rintro _ _ ⟨b147, rfl, rfl⟩
       refine d_fork ?_ ?_
       ·refine d_x rfl (x_appendN (T := 9) (by_ := 16) (b := b147) (m := xs.length - 2) (c2 := ci) (a2 := some ⟨b, 0, none⟩) (ys := (xs.take (xs.length - 2)).map strV) (A := []) (R := [(b, _)]) rfl rfl rfl rfl (fun w hw => .row _ _ _ _ _ (by rw [List.length_map, List.length_take]; omega) (stack_row (T := 9) (xs := xs) (sp := sp) o_m m_m hw)) (ones_strV _) o_m o_m) rfl rfl n_h ?_
        rintro _ _ ⟨b152, c152, sp152, rfl, hc152, hm152, hle152, rfl⟩
        refine d_x rfl (x_load rfl rfl (fun w hw => stack_at (T := 9) (xs := xs) (sp := sp) (j := xs.length - 2) o_m m_m hw)) rfl rfl n_h ?_
        rintro _ _ ⟨rfl, rfl⟩
        refine d_light rfl (light_cat rfl rfl (by (try simp only [List.length_append, List.length_cons, List.length_nil]); omega)) rfl rfl rfl ?_
        refine d_light rfl (light_cat rfl rfl (by (try simp only [List.length_append, List.length_cons, List.length_nil]); omega)) rfl rfl rfl ?_
        refine d_light rfl (light_cat rfl rfl (by (try simp only [List.length_append, List.length_cons, List.length_nil]); omega)) rfl rfl rfl ?_
        refine d_light rfl (light_cat rfl rfl (by (try simp only [List.length_append, List.length_cons, List.length_nil]); omega)) rfl rfl rfl ?_
        refine d_light rfl (light_cat rfl rfl (by (try simp only [List.length_append, List.length_cons, List.length_nil]); omega)) rfl rfl rfl ?_
        refine d_light rfl (light_cat rfl rfl (by (try simp only [List.length_append, List.length_cons, List.length_nil]); omega)) rfl rfl rfl ?_
        refine d_x rfl (x_slc (z := [.string (bs [])]) (l := [.string (bs ([40] ++ xs.getD (xs.length - 2) [] ++ [32] ++ wordT op ++ [32] ++ xs.getD (xs.length - 1) [] ++ [41]))]) (ps := [(0, .string (bs ([40] ++ xs.getD (xs.length - 2) [] ++ [32] ++ wordT op ++ [32] ++ xs.getD (xs.length - 1) [] ++ [41])))]) rfl rfl rfl rfl rfl rfl) rfl rfl n_h ?_
        rintro _ _ ⟨b170, rfl, rfl⟩
        refine d_x rfl (x_append (A := [(b170, _)]) (R := [(b, _)]) (G := [(b152, _)]) (v := .slice (some ⟨b152, 0, none⟩) (xs.length - 2) c152) (n := xs.length - 2) (xs := (xs.take (xs.length - 2)).map strV) (m := 1) (T := 9) (s := 1) (by_ := 16) (ys := [.string (bs ([40] ++ xs.getD (xs.length - 2) [] ++ [32] ++ wordT op ++ [32] ++ xs.getD (xs.length - 1) [] ++ [41]))]) rfl rfl rfl rfl (Vec.row b152 (xs.length - 2) c152 _ sp152 (by rw [List.length_map, List.length_take]; omega) (by rw [Nat.mul_one]; exact hc152) hm152 hle152) (fun w hw => .row _ _ _ _ _ rfl (row_own (b := b170) m_m w hw)) rfl o_m o_m) rfl rfl n_h ?_
        rintro v171 _ ⟨G171, hV171, _, rfl⟩
        obtain ⟨a171, c171, rfl⟩ := hV171.slice
        refine RD ?_
        refine d_nil ?_
        exact ⟨(xs.take (xs.length - 2), [40] ++ xs.getD (xs.length - 2) [] ++ [32] ++ wordT op ++ [32] ++ xs.getD (xs.length - 1) [] ++ [41], 2, _, G171), ⟨he, rfl, hV171.as (congrArg (· + 1) (by rw [List.length_take]; omega)) (by rw [List.map_append]; rfl)⟩, .cons rfl .nil, a_g, fun _ h => h.sub ((List.Sublist.refl _).append (List.nil_sublist _))⟩
       refine d_fork ?_ ?_
       ·refine d_x rfl (x_load rfl rfl (fun w hw => stack_at (T := 9) (xs := xs) (sp := sp) (j := xs.length - 2) o_m m_m hw)) rfl rfl n_h ?_
        rintro _ _ ⟨rfl, rfl⟩
        refine d_light rfl (light_cat rfl rfl (by (try simp only [List.length_append, List.length_cons, List.length_nil]); omega)) rfl rfl rfl ?_
        refine d_light rfl (light_cat rfl rfl (by (try simp only [List.length_append, List.length_cons, List.length_nil]); omega)) rfl rfl rfl ?_
        refine d_light rfl (light_cat rfl rfl (by (try simp only [List.length_append, List.length_cons, List.length_nil]); omega)) rfl rfl rfl ?_
        refine d_light rfl (light_cat rfl rfl (by (try simp only [List.length_append, List.length_cons, List.length_nil]); omega)) rfl rfl rfl ?_
        refine d_light rfl (light_cat rfl rfl (by (try simp only [List.length_append, List.length_cons, List.length_nil]); omega)) rfl rfl rfl ?_
        refine d_light rfl (light_cat rfl rfl (by (try simp only [List.length_append, List.length_cons, List.length_nil]); omega)) rfl rfl rfl ?_
        refine d_fork ?_ ?_
        ·refine d_x rfl (x_appendN (T := 9) (by_ := 16) (b := b147) (m := xs.length - 2) (c2 := ci) (a2 := some ⟨b, 0, none⟩) (ys := (xs.take (xs.length - 2)).map strV) (A := []) (R := [(b, _)]) rfl rfl rfl rfl (fun w hw => .row _ _ _ _ _ (by rw [List.length_map, List.length_take]; omega) (stack_row (T := 9) (xs := xs) (sp := sp) o_m m_m hw)) (ones_strV _) o_m o_m) rfl rfl n_h ?_
         rintro _ _ ⟨b152, c152, sp152, rfl, hc152, hm152, hle152, rfl⟩
         refine d_x rfl (x_slc (z := [.string (bs [])]) (l := [.string (bs ([40] ++ xs.getD (xs.length - 2) [] ++ [32] ++ wordT op ++ [32] ++ xs.getD (xs.length - 1) [] ++ [41]))]) (ps := [(0, .string (bs ([40] ++ xs.getD (xs.length - 2) [] ++ [32] ++ wordT op ++ [32] ++ xs.getD (xs.length - 1) [] ++ [41])))]) rfl rfl rfl rfl rfl rfl) rfl rfl n_h ?_
         rintro _ _ ⟨b170, rfl, rfl⟩
         refine d_x rfl (x_append (A := [(b170, _)]) (R := [(b, _)]) (G := [(b152, _)]) (v := .slice (some ⟨b152, 0, none⟩) (xs.length - 2) c152) (n := xs.length - 2) (xs := (xs.take (xs.length - 2)).map strV) (m := 1) (T := 9) (s := 1) (by_ := 16) (ys := [.string (bs ([40] ++ xs.getD (xs.length - 2) [] ++ [32] ++ wordT op ++ [32] ++ xs.getD (xs.length - 1) [] ++ [41]))]) rfl rfl rfl rfl (Vec.row b152 (xs.length - 2) c152 _ sp152 (by rw [List.length_map, List.length_take]; omega) (by rw [Nat.mul_one]; exact hc152) hm152 hle152) (fun w hw => .row _ _ _ _ _ rfl (row_own (b := b170) m_m w hw)) rfl o_m o_m) rfl rfl n_h ?_
         rintro v171 _ ⟨G171, hV171, _, rfl⟩
         obtain ⟨a171, c171, rfl⟩ := hV171.slice
         refine RD ?_
         refine d_nil ?_
         exact ⟨(xs.take (xs.length - 2), [40] ++ xs.getD (xs.length - 2) [] ++ [32] ++ wordT op ++ [32] ++ xs.getD (xs.length - 1) [] ++ [41], 2, _, G171), ⟨he, rfl, hV171.as (congrArg (· + 1) (by rw [List.length_take]; omega)) (by rw [List.map_append]; rfl)⟩, .cons rfl .nil, a_g, fun _ h => h.sub ((List.Sublist.refl _).append (List.nil_sublist _))⟩
        refine d_fork ?_ ?_
        ·refine d_x rfl (x_slc (z := [.string (bs [])]) (l := [.string (bs ([40] ++ xs.getD (xs.length - 2) [] ++ [32] ++ wordT op ++ [32] ++ xs.getD (xs.length - 1) [] ++ [41]))]) (ps := [(0, .string (bs ([40] ++ xs.getD (xs.length - 2) [] ++ [32] ++ wordT op ++ [32] ++ xs.getD (xs.length - 1) [] ++ [41])))]) rfl rfl rfl rfl rfl rfl) rfl rfl n_h ?_
         rintro _ _ ⟨b170, rfl, rfl⟩
         refine d_x rfl (x_appendN (T := 9) (by_ := 16) (b := b147) (m := xs.length - 2) (c2 := ci) (a2 := some ⟨b, 0, none⟩) (ys := (xs.take (xs.length - 2)).map strV) (A := [(b170, _)]) (R := [(b, _)]) rfl rfl rfl rfl (fun w hw => .row _ _ _ _ _ (by rw [List.length_map, List.length_take]; omega) (stack_row (T := 9) (xs := xs) (sp := sp) o_m m_m hw)) (ones_strV _) o_m o_m) rfl rfl n_h ?_
         rintro _ _ ⟨b152, c152, sp152, rfl, hc152, hm152, hle152, rfl⟩
         refine d_x rfl (x_append (A := []) (R := [(b170, _), (b, _)]) (G := [(b152, _)]) (v := .slice (some ⟨b152, 0, none⟩) (xs.length - 2) c152) (n := xs.length - 2) (xs := (xs.take (xs.length - 2)).map strV) (m := 1) (T := 9) (s := 1) (by_ := 16) (ys := [.string (bs ([40] ++ xs.getD (xs.length - 2) [] ++ [32] ++ wordT op ++ [32] ++ xs.getD (xs.length - 1) [] ++ [41]))]) rfl rfl rfl rfl (Vec.row b152 (xs.length - 2) c152 _ sp152 (by rw [List.length_map, List.length_take]; omega) (by rw [Nat.mul_one]; exact hc152) hm152 hle152) (fun w hw => .row _ _ _ _ _ rfl (row_own (b := b170) m_m w hw)) rfl o_m o_m) rfl rfl n_h ?_
         rintro v171 _ ⟨G171, hV171, _, rfl⟩
         obtain ⟨a171, c171, rfl⟩ := hV171.slice
         refine RD ?_
         refine d_nil ?_
         exact ⟨(xs.take (xs.length - 2), [40] ++ xs.getD (xs.length - 2) [] ++ [32] ++ wordT op ++ [32] ++ xs.getD (xs.length - 1) [] ++ [41], 2, _, G171), ⟨he, rfl, hV171.as (congrArg (· + 1) (by rw [List.length_take]; omega)) (by rw [List.map_append]; rfl)⟩, .cons rfl .nil, a_g, fun _ h => h.sub ((List.Sublist.refl _).append (List.nil_sublist _))⟩
        exact d_stop
       exact d_stop
      refine d_fork ?_ ?_
      ·refine d_x rfl (x_load rfl rfl (fun w hw => stack_at (T := 9) (xs := xs) (sp := sp) (j := xs.length - 2) o_m m_m hw)) rfl rfl n_h ?_
       rintro _ _ ⟨rfl, rfl⟩
       refine d_light rfl (light_cat rfl rfl (by (try simp only [List.length_append, List.length_cons, List.length_nil]); omega)) rfl rfl rfl ?_
       refine d_light rfl (light_cat rfl rfl (by (try simp only [List.length_append, List.length_cons, List.length_nil]); omega)) rfl rfl rfl ?_
       refine d_light rfl (light_cat rfl rfl (by (try simp only [List.length_append, List.length_cons, List.length_nil]); omega)) rfl rfl rfl ?_
       refine d_light rfl (light_cat rfl rfl (by (try simp only [List.length_append, List.length_cons, List.length_nil]); omega)) rfl rfl rfl ?_
       refine d_light rfl (light_cat rfl rfl (by (try simp only [List.length_append, List.length_cons, List.length_nil]); omega)) rfl rfl rfl ?_
       refine d_light rfl (light_cat rfl rfl (by (try simp only [List.length_append, List.length_cons, List.length_nil]); omega)) rfl rfl rfl ?_
       refine d_fork ?_ ?_
       ·refine d_x rfl (x_slc0 rfl) rfl rfl n_h ?_
        rintro _ _ ⟨b147, rfl, rfl⟩
        refine d_fork ?_ ?_
        ·refine d_x rfl (x_appendN (T := 9) (by_ := 16) (b := b147) (m := xs.length - 2) (c2 := ci) (a2 := some ⟨b, 0, none⟩) (ys := (xs.take (xs.length - 2)).map strV) (A := []) (R := [(b, _)]) rfl rfl rfl rfl (fun w hw => .row _ _ _ _ _ (by rw [List.length_map, List.length_take]; omega) (stack_row (T := 9) (xs := xs) (sp := sp) o_m m_m hw)) (ones_strV _) o_m o_m) rfl rfl n_h ?_
         rintro _ _ ⟨b152, c152, sp152, rfl, hc152, hm152, hle152, rfl⟩
         refine d_x rfl (x_slc (z := [.string (bs [])]) (l := [.string (bs ([40] ++ xs.getD (xs.length - 2) [] ++ [32] ++ wordT op ++ [32] ++ xs.getD (xs.length - 1) [] ++ [41]))]) (ps := [(0, .string (bs ([40] ++ xs.getD (xs.length - 2) [] ++ [32] ++ wordT op ++ [32] ++ xs.getD (xs.length - 1) [] ++ [41])))]) rfl rfl rfl rfl rfl rfl) rfl rfl n_h ?_
         rintro _ _ ⟨b170, rfl, rfl⟩
         refine d_x rfl (x_append (A := [(b170, _)]) (R := [(b, _)]) (G := [(b152, _)]) (v := .slice (some ⟨b152, 0, none⟩) (xs.length - 2) c152) (n := xs.length - 2) (xs := (xs.take (xs.length - 2)).map strV) (m := 1) (T := 9) (s := 1) (by_ := 16) (ys := [.string (bs ([40] ++ xs.getD (xs.length - 2) [] ++ [32] ++ wordT op ++ [32] ++ xs.getD (xs.length - 1) [] ++ [41]))]) rfl rfl rfl rfl (Vec.row b152 (xs.length - 2) c152 _ sp152 (by rw [List.length_map, List.length_take]; omega) (by rw [Nat.mul_one]; exact hc152) hm152 hle152) (fun w hw => .row _ _ _ _ _ rfl (row_own (b := b170) m_m w hw)) rfl o_m o_m) rfl rfl n_h ?_
         rintro v171 _ ⟨G171, hV171, _, rfl⟩
         obtain ⟨a171, c171, rfl⟩ := hV171.slice
         refine RD ?_
         refine d_nil ?_
         exact ⟨(xs.take (xs.length - 2), [40] ++ xs.getD (xs.length - 2) [] ++ [32] ++ wordT op ++ [32] ++ xs.getD (xs.length - 1) [] ++ [41], 2, _, G171), ⟨he, rfl, hV171.as (congrArg (· + 1) (by rw [List.length_take]; omega)) (by rw [List.map_append]; rfl)⟩, .cons rfl .nil, a_g, fun _ h => h.sub ((List.Sublist.refl _).append (List.nil_sublist _))⟩
        refine d_fork ?_ ?_
        ·refine d_x rfl (x_slc (z := [.string (bs [])]) (l := [.string (bs ([40] ++ xs.getD (xs.length - 2) [] ++ [32] ++ wordT op ++ [32] ++ xs.getD (xs.length - 1) [] ++ [41]))]) (ps := [(0, .string (bs ([40] ++ xs.getD (xs.length - 2) [] ++ [32] ++ wordT op ++ [32] ++ xs.getD (xs.length - 1) [] ++ [41])))]) rfl rfl rfl rfl rfl rfl) rfl rfl n_h ?_
         rintro _ _ ⟨b170, rfl, rfl⟩
         refine d_x rfl (x_appendN (T := 9) (by_ := 16) (b := b147) (m := xs.length - 2) (c2 := ci) (a2 := some ⟨b, 0, none⟩) (ys := (xs.take (xs.length - 2)).map strV) (A := [(b170, _)]) (R := [(b, _)]) rfl rfl rfl rfl (fun w hw => .row _ _ _ _ _ (by rw [List.length_map, List.length_take]; omega) (stack_row (T := 9) (xs := xs) (sp := sp) o_m m_m hw)) (ones_strV _) o_m o_m) rfl rfl n_h ?_
         rintro _ _ ⟨b152, c152, sp152, rfl, hc152, hm152, hle152, rfl⟩
         refine d_x rfl (x_append (A := []) (R := [(b170, _), (b, _)]) (G := [(b152, _)]) (v := .slice (some ⟨b152, 0, none⟩) (xs.length - 2) c152) (n := xs.length - 2) (xs := (xs.take (xs.length - 2)).map strV) (m := 1) (T := 9) (s := 1) (by_ := 16) (ys := [.string (bs ([40] ++ xs.getD (xs.length - 2) [] ++ [32] ++ wordT op ++ [32] ++ xs.getD (xs.length - 1) [] ++ [41]))]) rfl rfl rfl rfl (Vec.row b152 (xs.length - 2) c152 _ sp152 (by rw [List.length_map, List.length_take]; omega) (by rw [Nat.mul_one]; exact hc152) hm152 hle152) (fun w hw => .row _ _ _ _ _ rfl (row_own (b := b170) m_m w hw)) rfl o_m o_m) rfl rfl n_h ?_
         rintro v171 _ ⟨G171, hV171, _, rfl⟩
         obtain ⟨a171, c171, rfl⟩ := hV171.slice
         refine RD ?_
         refine d_nil ?_
         exact ⟨(xs.take (xs.length - 2), [40] ++ xs.getD (xs.length - 2) [] ++ [32] ++ wordT op ++ [32] ++ xs.getD (xs.length - 1) [] ++ [41], 2, _, G171), ⟨he, rfl, hV171.as (congrArg (· + 1) (by rw [List.length_take]; omega)) (by rw [List.map_append]; rfl)⟩, .cons rfl .nil, a_g, fun _ h => h.sub ((List.Sublist.refl _).append (List.nil_sublist _))⟩
        exact d_stop
       refine d_fork ?_ ?_
       ·refine d_x rfl (x_slc (z := [.string (bs [])]) (l := [.string (bs ([40] ++ xs.getD (xs.length - 2) [] ++ [32] ++ wordT op ++ [32] ++ xs.getD (xs.length - 1) [] ++ [41]))]) (ps := [(0, .string (bs ([40] ++ xs.getD (xs.length - 2) [] ++ [32] ++ wordT op ++ [32] ++ xs.getD (xs.length - 1) [] ++ [41])))]) rfl rfl rfl rfl rfl rfl) rfl rfl n_h ?_
        rintro _ _ ⟨b170, rfl, rfl⟩
        refine d_x rfl (x_slc0 rfl) rfl rfl n_h ?_
        rintro _ _ ⟨b147, rfl, rfl⟩
        refine d_x rfl (x_appendN (T := 9) (by_ := 16) (b := b147) (m := xs.length - 2) (c2 := ci) (a2 := some ⟨b, 0, none⟩) (ys := (xs.take (xs.length - 2)).map strV) (A := []) (R := [(b170, _), (b, _)]) rfl rfl rfl rfl (fun w hw => .row _ _ _ _ _ (by rw [List.length_map, List.length_take]; omega) (stack_row (T := 9) (xs := xs) (sp := sp) o_m m_m hw)) (ones_strV _) o_m o_m) rfl rfl n_h ?_
        rintro _ _ ⟨b152, c152, sp152, rfl, hc152, hm152, hle152, rfl⟩
        refine d_x rfl (x_append (A := []) (R := [(b170, _), (b, _)]) (G := [(b152, _)]) (v := .slice (some ⟨b152, 0, none⟩) (xs.length - 2) c152) (n := xs.length - 2) (xs := (xs.take (xs.length - 2)).map strV) (m := 1) (T := 9) (s := 1) (by_ := 16) (ys := [.string (bs ([40] ++ xs.getD (xs.length - 2) [] ++ [32] ++ wordT op ++ [32] ++ xs.getD (xs.length - 1) [] ++ [41]))]) rfl rfl rfl rfl (Vec.row b152 (xs.length - 2) c152 _ sp152 (by rw [List.length_map, List.length_take]; omega) (by rw [Nat.mul_one]; exact hc152) hm152 hle152) (fun w hw => .row _ _ _ _ _ rfl (row_own (b := b170) m_m w hw)) rfl o_m o_m) rfl rfl n_h ?_
        rintro v171 _ ⟨G171, hV171, _, rfl⟩
        obtain ⟨a171, c171, rfl⟩ := hV171.slice
        refine RD ?_
        refine d_nil ?_
        exact ⟨(xs.take (xs.length - 2), [40] ++ xs.getD (xs.length - 2) [] ++ [32] ++ wordT op ++ [32] ++ xs.getD (xs.length - 1) [] ++ [41], 2, _, G171), ⟨he, rfl, hV171.as (congrArg (· + 1) (by rw [List.length_take]; omega)) (by rw [List.map_append]; rfl)⟩, .cons rfl .nil, a_g, fun _ h => h.sub ((List.Sublist.refl _).append (List.nil_sublist _))⟩
       exact d_stop
      exact d_stop
     exact d_stop
    ·refine c_region ?_
     refine RL ?_
     refine l_sure true rfl rfl rfl (decide_eq_true o_m) ?_
     refine RL ?_
     refine RL ?_
     refine l_sure false rfl rfl rfl (decide_eq_false o_m) ?_
     refine RL ?_
     refine RL ?_
     refine RLp ?_
     refine RLp ?_
     refine RL ?_
     refine RL ?_
     refine l_nil ?_
     refine c_false rfl ?_
     refine c_seq ?_
     refine c_region ?_
     refine RL ?_
     refine l_sure false rfl rfl rfl (decide_eq_false o_m) ?_
     refine RL ?_
     refine RLp ?_
     refine RLp ?_
     refine RL ?_
     refine RL ?_
     refine RLp ?_
     refine RLp ?_
     refine RL ?_
     refine RL ?_
     refine l_nil ?_
     refine c_false rfl ?_
     refine c_seq ?_
     refine c_region ?_
     refine RL ?_
     refine l_sure false rfl rfl rfl (decide_eq_false o_m) ?_
     refine RL ?_
     refine RLp ?_
     refine RLp ?_
     refine RL ?_
     refine RL ?_
     refine RLp ?_
     refine RLp ?_
     refine RL ?_
     refine RL ?_
     refine l_nil ?_
     refine c_false rfl ?_
     refine c_seq ?_
     refine c_region ?_
     refine RL ?_
     refine l_sure false rfl rfl rfl (decide_eq_false o_m) ?_
     refine RL ?_
     refine RLp ?_
     refine RLp ?_
     refine RL ?_
     refine RL ?_
     refine RLp ?_
     refine RLp ?_
     refine RL ?_
     refine RL ?_
     refine RLp ?_
     refine RLp ?_
     refine RL ?_
     refine RL ?_
     refine l_nil ?_
     refine c_false rfl ?_
     refine c_seq ?_
     refine c_region ?_
     refine RL ?_
     refine l_sure false rfl rfl rfl (decide_eq_false o_m) ?_
     refine RL ?_
     refine RLp ?_
     refine RLp ?_
     refine RL ?_
     refine RL ?_
     refine RLp ?_
     refine RLp ?_
     refine RL ?_
     refine RL ?_
     refine RLp ?_
     refine RLp ?_
     refine RL ?_
     refine RL ?_
     refine l_nil ?_
     refine c_false rfl ?_
     refine c_seq ?_
     refine c_region ?_
     refine RL ?_
     refine RL ?_
     refine l_nil ?_
     refine c_ret ?_
     rw [print_none (by rw [hL9, hd9, lays_none he])]
     exact l_end (fun _ _ => rets_two rfl rfl) (List.nil_sublist _) ⟨by trivial, rfl⟩
    ·refine c_region ?_
     refine RL ?_
     refine l_sure true rfl rfl rfl (decide_eq_true o_m) ?_
     refine RL ?_
     refine RL ?_
     refine l_sure true rfl rfl rfl (decide_eq_true o_m) ?_
     iterate 3 refine RL ?_
     refine l_sure false rfl rfl rfl (decide_eq_false o_m) ?_
     refine RL ?_
     refine RL ?_
     refine l_nil ?_
     refine c_false rfl ?_
     refine c_seq ?_
     refine c_region ?_
     refine RL ?_
     refine l_sure false rfl rfl rfl (decide_eq_false o_m) ?_
     refine RL ?_
     refine RLp ?_
     refine RLp ?_
     refine RL ?_
     refine RL ?_
     refine RLp ?_
     refine RLp ?_
     refine RL ?_
     refine RL ?_
     refine l_nil ?_
     refine c_false rfl ?_
     refine c_seq ?_
     refine c_region ?_
     refine RL ?_
     refine l_sure false rfl rfl rfl (decide_eq_false o_m) ?_
     refine RL ?_
     refine RLp ?_
     refine RLp ?_
     refine RL ?_
     refine RL ?_
     refine RLp ?_
     refine RLp ?_
     refine RL ?_
     refine RL ?_
     refine l_nil ?_
     refine c_false rfl ?_
     refine c_seq ?_
     refine c_region ?_
     refine RL ?_
     refine l_sure false rfl rfl rfl (decide_eq_false o_m) ?_
     refine RL ?_
     refine RLp ?_
     refine RLp ?_
     refine RL ?_
     refine RL ?_
     refine RLp ?_
     refine RLp ?_
     refine RL ?_
     refine RL ?_
     refine RLp ?_
     refine RLp ?_
     refine RL ?_
     refine RL ?_
     refine l_nil ?_
     refine c_false rfl ?_
     refine c_seq ?_
     refine c_region ?_
     refine RL ?_
     refine l_sure false rfl rfl rfl (decide_eq_false o_m) ?_
     refine RL ?_
     refine RLp ?_
     refine RLp ?_
     refine RL ?_
     refine RL ?_
     refine RLp ?_
     refine RLp ?_
     refine RL ?_
     refine RL ?_
     refine RLp ?_
     refine RLp ?_
     refine RL ?_
     refine RL ?_
     refine l_nil ?_
     refine c_false rfl ?_
     refine c_seq ?_
     refine c_region ?_
     refine RL ?_
     refine RL ?_
     refine l_nil ?_
     refine c_ret ?_
     rw [print_none (by rw [hL9, hd9, lays_none he])]
     exact l_end (fun _ _ => rets_two rfl rfl) (List.nil_sublist _) ⟨by trivial, rfl⟩
    ·refine c_region ?_
     refine RL ?_
     refine l_sure false rfl rfl rfl (decide_eq_false o_m) ?_
     refine RL ?_
     refine RLp ?_
     refine RLp ?_
     refine RL ?_
     refine RL ?_
     refine RLp ?_
     refine RLp ?_
     refine RL ?_
     refine RL ?_
     refine l_nil ?_
     refine c_false rfl ?_
     refine c_seq ?_
     refine c_region ?_
     refine RL ?_
     refine l_sure true rfl rfl rfl (decide_eq_true o_m) ?_
     refine RL ?_
     refine RL ?_
     refine l_sure false rfl rfl rfl (decide_eq_false o_m) ?_
     refine RL ?_
     refine RL ?_
     refine RLp ?_
     refine RLp ?_
     refine RL ?_
     refine RL ?_
     refine l_nil ?_
     refine c_false rfl ?_
     refine c_seq ?_
     refine c_region ?_
     refine RL ?_
     refine l_sure false rfl rfl rfl (decide_eq_false o_m) ?_
     refine RL ?_
     refine RLp ?_
     refine RLp ?_
     refine RL ?_
     refine RL ?_
     refine RLp ?_
     refine RLp ?_
     refine RL ?_
     refine RL ?_
     refine l_nil ?_
     refine c_false rfl ?_
     refine c_seq ?_
     refine c_region ?_
     refine RL ?_
     refine l_sure false rfl rfl rfl (decide_eq_false o_m) ?_
     refine RL ?_
     refine RLp ?_
     refine RLp ?_
     refine RL ?_
     refine RL ?_
     refine RLp ?_
     refine RLp ?_
     refine RL ?_
     refine RL ?_
     refine RLp ?_
     refine RLp ?_
     refine RL ?_
     refine RL ?_
     refine l_nil ?_
     refine c_false rfl ?_
     refine c_seq ?_
     refine c_region ?_
     refine RL ?_
     refine l_sure false rfl rfl rfl (decide_eq_false o_m) ?_
     refine RL ?_
     refine RLp ?_
     refine RLp ?_
     refine RL ?_
     refine RL ?_
     refine RLp ?_
     refine RLp ?_
     refine RL ?_
     refine RL ?_
     refine RLp ?_
     refine RLp ?_
     refine RL ?_
     refine RL ?_
     refine l_nil ?_
     refine c_false rfl ?_
     refine c_seq ?_
     refine c_region ?_
     refine RL ?_
     refine RL ?_
     refine l_nil ?_
     refine c_ret ?_
     rw [print_none (by rw [hL9, hd9, lays_none he])]
     exact l_end (fun _ _ => rets_two rfl rfl) (List.nil_sublist _) ⟨by trivial, rfl⟩
    ·refine c_region ?_
     refine RL ?_
     refine l_sure false rfl rfl rfl (decide_eq_false o_m) ?_
     refine RL ?_
     refine RLp ?_
     refine RLp ?_
     refine RL ?_
     refine RL ?_
     refine RLp ?_
     refine RLp ?_
     refine RL ?_
     refine RL ?_
     refine l_nil ?_
     refine c_false rfl ?_
     refine c_seq ?_
     refine c_region ?_
     refine RL ?_
     refine l_sure true rfl rfl rfl (decide_eq_true o_m) ?_
     refine RL ?_
     refine RL ?_
     refine l_sure true rfl rfl rfl (decide_eq_true o_m) ?_
     iterate 3 refine RL ?_
     refine l_sure false rfl rfl rfl (decide_eq_false o_m) ?_
     refine RL ?_
     refine RL ?_
     refine l_nil ?_
     refine c_false rfl ?_
     refine c_seq ?_
     refine c_region ?_
     refine RL ?_
     refine l_sure false rfl rfl rfl (decide_eq_false o_m) ?_
     refine RL ?_
     refine RLp ?_
     refine RLp ?_
     refine RL ?_
     refine RL ?_
     refine RLp ?_
     refine RLp ?_
     refine RL ?_
     refine RL ?_
     refine l_nil ?_
     refine c_false rfl ?_
     refine c_seq ?_
     refine c_region ?_
     refine RL ?_
     refine l_sure false rfl rfl rfl (decide_eq_false o_m) ?_
     refine RL ?_
     refine RLp ?_
     refine RLp ?_
     refine RL ?_
     refine RL ?_
     refine RLp ?_
     refine RLp ?_
     refine RL ?_
     refine RL ?_
     refine RLp ?_
     refine RLp ?_
     refine RL ?_
     refine RL ?_
     refine l_nil ?_
     refine c_false rfl ?_
     refine c_seq ?_
     refine c_region ?_
     refine RL ?_
     refine l_sure false rfl rfl rfl (decide_eq_false o_m) ?_
     refine RL ?_
     refine RLp ?_
     refine RLp ?_
     refine RL ?_
     refine RL ?_
     refine RLp ?_
     refine RLp ?_
     refine RL ?_
     refine RL ?_
     refine RLp ?_
     refine RLp ?_
     refine RL ?_
     refine RL ?_
     refine l_nil ?_
     refine c_false rfl ?_
     refine c_seq ?_
     refine c_region ?_
     refine RL ?_
     refine RL ?_
     refine l_nil ?_
     refine c_ret ?_
     rw [print_none (by rw [hL9, hd9, lays_none he])]
     exact l_end (fun _ _ => rets_two rfl rfl) (List.nil_sublist _) ⟨by trivial, rfl⟩
    ·refine c_region ?_
     refine RL ?_
     refine l_sure false rfl rfl rfl (decide_eq_false o_m) ?_
     refine RL ?_
     refine RLp ?_
     refine RLp ?_
     refine RL ?_
     refine RL ?_
     refine RLp ?_
     refine RLp ?_
     refine RL ?_
     refine RL ?_
     refine l_nil ?_
     refine c_false rfl ?_
     refine c_seq ?_
     refine c_region ?_
     refine RL ?_
     refine l_sure false rfl rfl rfl (decide_eq_false o_m) ?_
     refine RL ?_
     refine RLp ?_
     refine RLp ?_
     refine RL ?_
     refine RL ?_
     refine RLp ?_
     refine RLp ?_
     refine RL ?_
     refine RL ?_
     refine l_nil ?_
     refine c_false rfl ?_
     refine c_seq ?_
     refine c_region ?_
     refine RL ?_
     refine l_sure true rfl rfl rfl (decide_eq_true o_m) ?_
     refine RL ?_
     refine RL ?_
     refine l_sure false rfl rfl rfl (decide_eq_false o_m) ?_
     refine RL ?_
     refine RL ?_
     refine RLp ?_
     refine RLp ?_
     refine RL ?_
     refine RL ?_
     refine l_nil ?_
     refine c_false rfl ?_
     refine c_seq ?_
     refine c_region ?_
     refine RL ?_
     refine l_sure false rfl rfl rfl (decide_eq_false o_m) ?_
     refine RL ?_
     refine RLp ?_
     refine RLp ?_
     refine RL ?_
     refine RL ?_
     refine RLp ?_
     refine RLp ?_
     refine RL ?_
     refine RL ?_
     refine RLp ?_
     refine RLp ?_
     refine RL ?_
     refine RL ?_
     refine l_nil ?_
     refine c_false rfl ?_
     refine c_seq ?_
     refine c_region ?_
     refine RL ?_
     refine l_sure false rfl rfl rfl (decide_eq_false o_m) ?_
     refine RL ?_
     refine RLp ?_
     refine RLp ?_
     refine RL ?_
     refine RL ?_
     refine RLp ?_
     refine RLp ?_
     refine RL ?_
     refine RL ?_
     refine RLp ?_
     refine RLp ?_
     refine RL ?_
     refine RL ?_
     refine l_nil ?_
     refine c_false rfl ?_
     refine c_seq ?_
     refine c_region ?_
     refine RL ?_
     refine RL ?_
     refine l_nil ?_
     refine c_ret ?_
     rw [print_none (by rw [hL9, hd9, lays_none he])]
     exact l_end (fun _ _ => rets_two rfl rfl) (List.nil_sublist _) ⟨by trivial, rfl⟩
    ·refine c_region ?_
     refine RL ?_
     refine l_sure false rfl rfl rfl (decide_eq_false o_m) ?_
     refine RL ?_
     refine RLp ?_
     refine RLp ?_
     refine RL ?_
     refine RL ?_
     refine RLp ?_
     refine RLp ?_
     refine RL ?_
     refine RL ?_
     refine l_nil ?_
     refine c_false rfl ?_
     refine c_seq ?_
     refine c_region ?_
     refine RL ?_
     refine l_sure false rfl rfl rfl (decide_eq_false o_m) ?_
     refine RL ?_
     refine RLp ?_
     refine RLp ?_
     refine RL ?_
     refine RL ?_
     refine RLp ?_
     refine RLp ?_
     refine RL ?_
     refine RL ?_
     refine l_nil ?_
     refine c_false rfl ?_
     refine c_seq ?_
     refine c_region ?_
     refine RL ?_
     refine l_sure true rfl rfl rfl (decide_eq_true o_m) ?_
     refine RL ?_
     refine RL ?_
     refine l_sure true rfl rfl rfl (decide_eq_true o_m) ?_
     iterate 3 refine RL ?_
     refine l_sure false rfl rfl rfl (decide_eq_false o_m) ?_
     refine RL ?_
     refine RL ?_
     refine l_nil ?_
     refine c_false rfl ?_
     refine c_seq ?_
     refine c_region ?_
     refine RL ?_
     refine l_sure false rfl rfl rfl (decide_eq_false o_m) ?_
     refine RL ?_
     refine RLp ?_
     refine RLp ?_
     refine RL ?_
     refine RL ?_
     refine RLp ?_
     refine RLp ?_
     refine RL ?_
     refine RL ?_
     refine RLp ?_
     refine RLp ?_
     refine RL ?_
     refine RL ?_
     refine l_nil ?_
     refine c_false rfl ?_
     refine c_seq ?_
     refine c_region ?_
     refine RL ?_
     refine l_sure false rfl rfl rfl (decide_eq_false o_m) ?_
     refine RL ?_
     refine RLp ?_
     refine RLp ?_
     refine RL ?_
     refine RL ?_
     refine RLp ?_
     refine RLp ?_
     refine RL ?_
     refine RL ?_
     refine RLp ?_
     refine RLp ?_
     refine RL ?_
     refine RL ?_
     refine l_nil ?_
     refine c_false rfl ?_
     refine c_seq ?_
     refine c_region ?_
     refine RL ?_
     refine RL ?_
     refine l_nil ?_
     refine c_ret ?_
     rw [print_none (by rw [hL9, hd9, lays_none he])]
     exact l_end (fun _ _ => rets_two rfl rfl) (List.nil_sublist _) ⟨by trivial, rfl⟩
    ·refine c_region ?_
     refine RL ?_
     refine l_sure false rfl rfl rfl (decide_eq_false o_m) ?_
     refine RL ?_
     refine RLp ?_
     refine RLp ?_
     refine RL ?_
     refine RL ?_
     refine RLp ?_
     refine RLp ?_
     refine RL ?_
     refine RL ?_
     refine l_nil ?_
     refine c_false rfl ?_
     refine c_seq ?_
     refine c_region ?_
     refine RL ?_
     refine l_sure false rfl rfl rfl (decide_eq_false o_m) ?_
     refine RL ?_
     refine RLp ?_
     refine RLp ?_
     refine RL ?_
     refine RL ?_
     refine RLp ?_
     refine RLp ?_
     refine RL ?_
     refine RL ?_
     refine l_nil ?_
     refine c_false rfl ?_
     refine c_seq ?_
     refine c_region ?_
     refine RL ?_
     refine l_sure false rfl rfl rfl (decide_eq_false o_m) ?_
     refine RL ?_
     refine RLp ?_
     refine RLp ?_
     refine RL ?_
     refine RL ?_
     refine RLp ?_
     refine RLp ?_
     refine RL ?_
     refine RL ?_
     refine l_nil ?_
     refine c_false rfl ?_
     refine c_seq ?_
     refine c_region ?_
     refine RL ?_
     refine l_sure true rfl rfl rfl (decide_eq_true o_m) ?_
     refine RL ?_
     refine RL ?_
     refine l_sure true rfl rfl rfl (decide_eq_true o_m) ?_
     iterate 3 refine RL ?_
     refine l_sure false rfl rfl rfl (decide_eq_false o_m) ?_
     refine RL ?_
     refine RL ?_
     refine RLp ?_
     refine RLp ?_
     refine RL ?_
     refine RL ?_
     refine l_nil ?_
     refine c_false rfl ?_
     refine c_seq ?_
     refine c_region ?_
     refine RL ?_
     refine l_sure false rfl rfl rfl (decide_eq_false o_m) ?_
     refine RL ?_
     refine RLp ?_
     refine RLp ?_
     refine RL ?_
     refine RL ?_
     refine RLp ?_
     refine RLp ?_
     refine RL ?_
     refine RL ?_
     refine RLp ?_
     refine RLp ?_
     refine RL ?_
     refine RL ?_
     refine l_nil ?_
     refine c_false rfl ?_
     refine c_seq ?_
     refine c_region ?_
     refine RL ?_
     refine RL ?_
     refine l_nil ?_
     refine c_ret ?_
     rw [print_none (by rw [hL9, hd9, lays_none he])]
     exact l_end (fun _ _ => rets_two rfl rfl) (List.nil_sublist _) ⟨by trivial, rfl⟩
    ·refine c_region ?_
     refine RL ?_
     refine l_sure false rfl rfl rfl (decide_eq_false o_m) ?_
     refine RL ?_
     refine RLp ?_
     refine RLp ?_
     refine RL ?_
     refine RL ?_
     refine RLp ?_
     refine RLp ?_
     refine RL ?_
     refine RL ?_
     refine l_nil ?_
     refine c_false rfl ?_
     refine c_seq ?_
     refine c_region ?_
     refine RL ?_
     refine l_sure false rfl rfl rfl (decide_eq_false o_m) ?_
     refine RL ?_
     refine RLp ?_
     refine RLp ?_
     refine RL ?_
     refine RL ?_
     refine RLp ?_
     refine RLp ?_
     refine RL ?_
     refine RL ?_
     refine l_nil ?_
     refine c_false rfl ?_
     refine c_seq ?_
     refine c_region ?_
     refine RL ?_
     refine l_sure false rfl rfl rfl (decide_eq_false o_m) ?_
     refine RL ?_
     refine RLp ?_
     refine RLp ?_
     refine RL ?_
     refine RL ?_
     refine RLp ?_
     refine RLp ?_
     refine RL ?_
     refine RL ?_
     refine l_nil ?_
     refine c_false rfl ?_
     refine c_seq ?_
     refine c_region ?_
     refine RL ?_
     refine l_sure true rfl rfl rfl (decide_eq_true o_m) ?_
     refine RL ?_
     refine RL ?_
     refine l_sure true rfl rfl rfl (decide_eq_true o_m) ?_
     iterate 3 refine RL ?_
     refine l_sure true rfl rfl rfl (decide_eq_true o_m) ?_
     iterate 3 refine RL ?_
     refine l_sure false rfl rfl rfl (decide_eq_false o_m) ?_
     refine RL ?_
     refine RL ?_
     refine l_nil ?_
     refine c_false rfl ?_
     refine c_seq ?_
     refine c_region ?_
     refine RL ?_
     refine l_sure false rfl rfl rfl (decide_eq_false o_m) ?_
     refine RL ?_
     refine RLp ?_
     refine RLp ?_
     refine RL ?_
     refine RL ?_
     refine RLp ?_
     refine RLp ?_
     refine RL ?_
     refine RL ?_
     refine RLp ?_
     refine RLp ?_
     refine RL ?_
     refine RL ?_
     refine l_nil ?_
     refine c_false rfl ?_
     refine c_seq ?_
     refine c_region ?_
     refine RL ?_
     refine RL ?_
     refine l_nil ?_
     refine c_ret ?_
     rw [print_none (by rw [hL9, hd9, lays_none he])]
     exact l_end (fun _ _ => rets_two rfl rfl) (List.nil_sublist _) ⟨by trivial, rfl⟩
    ·refine c_region ?_
     refine RL ?_
     refine l_sure false rfl rfl rfl (decide_eq_false o_m) ?_
     refine RL ?_
     refine RLp ?_
     refine RLp ?_
     refine RL ?_
     refine RL ?_
     refine RLp ?_
     refine RLp ?_
     refine RL ?_
     refine RL ?_
     refine l_nil ?_
     refine c_false rfl ?_
     refine c_seq ?_
     refine c_region ?_
     refine RL ?_
     refine l_sure false rfl rfl rfl (decide_eq_false o_m) ?_
     refine RL ?_
     refine RLp ?_
     refine RLp ?_
     refine RL ?_
     refine RL ?_
     refine RLp ?_
     refine RLp ?_
     refine RL ?_
     refine RL ?_
     refine l_nil ?_
     refine c_false rfl ?_
     refine c_seq ?_
     refine c_region ?_
     refine RL ?_
     refine l_sure false rfl rfl rfl (decide_eq_false o_m) ?_
     refine RL ?_
     refine RLp ?_
     refine RLp ?_
     refine RL ?_
     refine RL ?_
     refine RLp ?_
     refine RLp ?_
     refine RL ?_
     refine RL ?_
     refine l_nil ?_
     refine c_false rfl ?_
     refine c_seq ?_
     refine c_region ?_
     refine RL ?_
     refine l_sure true rfl rfl rfl (decide_eq_true o_m) ?_
     refine RL ?_
     refine RL ?_
     refine l_sure false rfl rfl rfl (decide_eq_false o_m) ?_
     refine RL ?_
     refine RL ?_
     refine RLp ?_
     refine RLp ?_
     refine RL ?_
     refine RL ?_
     refine RLp ?_
     refine RLp ?_
     refine RL ?_
     refine RL ?_
     refine l_nil ?_
     refine c_false rfl ?_
     refine c_seq ?_
     refine c_region ?_
     refine RL ?_
     refine l_sure true rfl rfl rfl (decide_eq_true o_m) ?_
     refine RL ?_
     refine RL ?_
     refine l_sure true rfl rfl rfl (decide_eq_true o_m) ?_
     iterate 3 refine RL ?_
     refine l_sure false rfl rfl rfl (decide_eq_false o_m) ?_
     refine RL ?_
     refine RL ?_
     refine RLp ?_
     refine RLp ?_
     refine RL ?_
     refine RL ?_
     refine l_nil ?_
     refine c_false rfl ?_
     refine c_seq ?_
     refine c_region ?_
     refine RL ?_
     refine RL ?_
     refine l_nil ?_
     refine c_ret ?_
     rw [print_none (by rw [hL9, hd9, lays_none he])]
     exact l_end (fun _ _ => rets_two rfl rfl) (List.nil_sublist _) ⟨by trivial, rfl⟩
    ·refine c_region ?_
     refine RL ?_
     refine l_sure false rfl rfl rfl (decide_eq_false o_m) ?_
     refine RL ?_
     refine RLp ?_
     refine RLp ?_
     refine RL ?_
     refine RL ?_
     refine RLp ?_
     refine RLp ?_
     refine RL ?_
     refine RL ?_
     refine l_nil ?_
     refine c_false rfl ?_
     refine c_seq ?_
     refine c_region ?_
     refine RL ?_
     refine l_sure false rfl rfl rfl (decide_eq_false o_m) ?_
     refine RL ?_
     refine RLp ?_
     refine RLp ?_
     refine RL ?_
     refine RL ?_
     refine RLp ?_
     refine RLp ?_
     refine RL ?_
     refine RL ?_
     refine l_nil ?_
     refine c_false rfl ?_
     refine c_seq ?_
     refine c_region ?_
     refine RL ?_
     refine l_sure false rfl rfl rfl (decide_eq_false o_m) ?_
     refine RL ?_
     refine RLp ?_
     refine RLp ?_
     refine RL ?_
     refine RL ?_
     refine RLp ?_
     refine RLp ?_
     refine RL ?_
     refine RL ?_
     refine l_nil ?_
     refine c_false rfl ?_
     refine c_seq ?_
     refine c_region ?_
     refine RL ?_
     refine l_sure true rfl rfl rfl (decide_eq_true o_m) ?_
     refine RL ?_
     refine RL ?_
     refine l_sure false rfl rfl rfl (decide_eq_false o_m) ?_
     refine RL ?_
     refine RL ?_
     refine RLp ?_
     refine RLp ?_
     refine RL ?_
     refine RL ?_
     refine RLp ?_
     refine RLp ?_
     refine RL ?_
     refine RL ?_
     refine l_nil ?_
     refine c_false rfl ?_
     refine c_seq ?_
     refine c_region ?_
     refine RL ?_
     refine l_sure true rfl rfl rfl (decide_eq_true o_m) ?_
     refine RL ?_
     refine RL ?_
     refine l_sure true rfl rfl rfl (decide_eq_true o_m) ?_
     iterate 3 refine RL ?_
     refine l_sure true rfl rfl rfl (decide_eq_true o_m) ?_
     iterate 3 refine RL ?_
     refine l_sure false rfl rfl rfl (decide_eq_false o_m) ?_
     refine RL ?_
     refine RL ?_
     refine l_nil ?_
     refine c_false rfl ?_
     refine c_seq ?_
     refine c_region ?_
     refine RL ?_
     refine RL ?_
     refine l_nil ?_
     refine c_ret ?_
     rw [print_none (by rw [hL9, hd9, lays_none he])]
     exact l_end (fun _ _ => rets_two rfl rfl) (List.nil_sublist _) ⟨by trivial, rfl⟩
    ·refine c_region ?_
     refine RL ?_
     refine l_sure false rfl rfl rfl (decide_eq_false o_m) ?_
     refine RL ?_
     refine RLp ?_
     refine RLp ?_
     refine RL ?_
     refine RL ?_
     refine RLp ?_
     refine RLp ?_
     refine RL ?_
     refine RL ?_
     refine l_nil ?_
     refine c_false rfl ?_
     refine c_seq ?_
     refine c_region ?_
     refine RL ?_
     refine l_sure false rfl rfl rfl (decide_eq_false o_m) ?_
     refine RL ?_
     refine RLp ?_
     refine RLp ?_
     refine RL ?_
     refine RL ?_
     refine RLp ?_
     refine RLp ?_
     refine RL ?_
     refine RL ?_
     refine l_nil ?_
     refine c_false rfl ?_
     refine c_seq ?_
     refine c_region ?_
     refine RL ?_
     refine l_sure false rfl rfl rfl (decide_eq_false o_m) ?_
     refine RL ?_
     refine RLp ?_
     refine RLp ?_
     refine RL ?_
     refine RL ?_
     refine RLp ?_
     refine RLp ?_
     refine RL ?_
     refine RL ?_
     refine l_nil ?_
     refine c_false rfl ?_
     refine c_seq ?_
     refine c_region ?_
     refine RL ?_
     refine l_sure false rfl rfl rfl (decide_eq_false o_m) ?_
     refine RL ?_
     refine RLp ?_
     refine RLp ?_
     refine RL ?_
     refine RL ?_
     refine RLp ?_
     refine RLp ?_
     refine RL ?_
     refine RL ?_
     refine RLp ?_
     refine RLp ?_
     refine RL ?_
     refine RL ?_
     refine l_nil ?_
     refine c_false rfl ?_
     refine c_seq ?_
     refine c_region ?_
     refine RL ?_
     refine l_sure false rfl rfl rfl (decide_eq_false o_m) ?_
     refine RL ?_
     refine RLp ?_
     refine RLp ?_
     refine RL ?_
     refine RL ?_
     refine RLp ?_
     refine RLp ?_
     refine RL ?_
     refine RL ?_
     refine RLp ?_
     refine RLp ?_
     refine RL ?_
     refine RL ?_
     refine l_nil ?_
     refine c_false rfl ?_
     refine c_seq ?_
     refine c_region ?_
     refine RL ?_
     refine RL ?_
     refine l_nil ?_
     refine c_ret ?_
     rw [print_none (by rw [hL9, hd9, lays_none he])]
     exact l_end (fun _ _ => rets_two rfl rfl) (List.nil_sublist _) ⟨by trivial, rfl⟩
    ·refine c_region ?_
     refine RL ?_
     refine l_sure false rfl rfl rfl (decide_eq_false o_m) ?_
     refine RL ?_
     refine RLp ?_
     refine RLp ?_
     refine RL ?_
     refine RL ?_
     refine RLp ?_
     refine RLp ?_
     refine RL ?_
     refine RL ?_
     refine l_nil ?_
     refine c_false rfl ?_
     refine c_seq ?_
     refine c_region ?_
     refine RL ?_
     refine l_sure false rfl rfl rfl (decide_eq_false o_m) ?_
     refine RL ?_
     refine RLp ?_
     refine RLp ?_
     refine RL ?_
     refine RL ?_
     refine RLp ?_
     refine RLp ?_
     refine RL ?_
     refine RL ?_
     refine l_nil ?_
     refine c_false rfl ?_
     refine c_seq ?_
     refine c_region ?_
     refine RL ?_
     refine l_sure false rfl rfl rfl (decide_eq_false o_m) ?_
     refine RL ?_
     refine RLp ?_
     refine RLp ?_
     refine RL ?_
     refine RL ?_
     refine RLp ?_
     refine RLp ?_
     refine RL ?_
     refine RL ?_
     refine l_nil ?_
     refine c_false rfl ?_
     refine c_seq ?_
     refine c_region ?_
     refine RL ?_
     refine l_sure true rfl rfl rfl (decide_eq_true o_m) ?_
     refine RL ?_
     refine RL ?_
     refine l_sure false rfl rfl rfl (decide_eq_false o_m) ?_
     refine RL ?_
     refine RL ?_
     refine RLp ?_
     refine RLp ?_
     refine RL ?_
     refine RL ?_
     refine RLp ?_
     refine RLp ?_
     refine RL ?_
     refine RL ?_
     refine l_nil ?_
     refine c_false rfl ?_
     refine c_seq ?_
     refine c_region ?_
     refine RL ?_
     refine l_sure true rfl rfl rfl (decide_eq_true o_m) ?_
     refine RL ?_
     refine RL ?_
     refine l_sure false rfl rfl rfl (decide_eq_false o_m) ?_
     refine RL ?_
     refine RL ?_
     refine RLp ?_
     refine RLp ?_
     refine RL ?_
     refine RL ?_
     refine RLp ?_
     refine RLp ?_
     refine RL ?_
     refine RL ?_
     refine l_nil ?_
     refine c_false rfl ?_
     refine c_seq ?_
     refine c_region ?_
     refine RL ?_
     refine RL ?_
     refine l_nil ?_
     refine c_ret ?_
     rw [print_none (by rw [hL9, hd9, lays_none he])]
     exact l_end (fun _ _ => rets_two rfl rfl) (List.nil_sublist _) ⟨by trivial, rfl⟩
   ·rintro ⟨ys, x, kk, v4, G4⟩ y8 ⟨he9, hy9, hV4⟩
    dsimp only at he9 hy9 hV4 ⊢
    have hyl : ys.length ≤ xs.length := by rw [hy9, List.length_take]; omega
    obtain ⟨b4, cap4, sp4, rfl, rfl, -⟩ := hV4.full o_m
    simp only [List.cons_append, List.nil_append]
    refine c_seq ?_
    refine c_region ?_
    refine RL ?_
    refine RL ?_
    refine l_l l_n rfl rfl ?_
    refine l_as (v := (.int .i64 (ys.length : Int))) rfl rfl rfl ((as_i64 o_m o_m).trans (congrArg _ o_m)) ?_
    refine l_l (idx_slice1 ys.length rfl rfl rfl rfl o_m) rfl rfl ?_
    refine l_x (x_load rfl rfl (at_own (b := b4) (l := (ys ++ [x]).map strV ++ sp4) (v := .string (bs x)) m_m (by rw [Nat.zero_add, List.map_append, List.append_assoc, List.getElem?_append_right (by rw [List.length_map]; omega), List.length_map, Nat.sub_self]; rfl))) rfl rfl ?_
    rintro _ _ ⟨rfl, rfl⟩
    refine RL ?_
    refine l_nil ?_
    refine c_seq ?_
    refine c_region ?_
    refine RL ?_
    refine l_l (light_lenstr rfl rfl) rfl rfl ?_
    refine RL ?_
    refine l_nil ?_
    refine c_cond rfl (fun h2 => ?_) (fun h2 => ?_)
    ·have h2n := r_f h2
     refine c_seq ?_
     refine c_region ?_
     refine RL ?_
     refine RL ?_
     refine l_nil ?_
     refine c_ret ?_
     rw [print_none (by rw [hL9, hd9, lays_long he9 o_m])]
     exact l_end (fun _ _ => rets_two rfl rfl) (List.nil_sublist _) ⟨by trivial, rfl⟩
    ·have h2n := r_f h2
     refine c_skip ?_
     refine c_region ?_
     refine l_as (v := (.int .i64 ((i + 1 : Nat) : Int))) rfl rfl rfl (congrArg _ (succ_law o_m)) ?_
     refine RL ?_
     refine l_nil ?_
     exact ⟨(i + 1, xs.take (xs.length - kk) ++ [x], .slice (some ⟨b4, 0, none⟩) (ys.length + 1) cap4, [(b4, blk ((ys ++ [x]).map strV ++ sp4) 9)]), ⟨by omega, by rw [hL9, hd9, lays_step he9 o_m], by show (xs.take (xs.length - kk) ++ [x]).length ≤ i + 1; rw [← hy9, List.length_append, List.length_singleton]; omega, fun y hy => by rcases List.mem_append.1 hy with hy | hy; exact hx4 y (List.mem_of_mem_take hy); rw [List.mem_singleton.1 hy]; omega, by rw [← hy9]; exact hV4.as (by rw [List.length_append, List.length_singleton]) rfl⟩, by show l.length - (i + 1) < l.length - i; omega, .cons rfl (.cons rfl .nil), a_g, fun _ h => h⟩
  ·have h1n := r_f h1
   refine c_exit rfl ?_
   refine c_seq ?_
   refine c_seq ?_
   have hP9 : laysT l [] = some xs := by rw [hL9, List.drop_eq_nil_of_le o_m]; rfl
   refine c_region ?_
   refine RL ?_
   refine l_l l_n rfl rfl ?_
   refine RL ?_
   refine l_nil ?_
   refine c_cond rfl (fun h3 => ?_) (fun h3 => ?_)
   ·have h3n := r_f h3
    refine c_seq ?_
    refine c_region ?_
    refine RL ?_
    refine RL ?_
    refine l_nil ?_
    refine c_ret ?_
    rw [print_many hP9 o_m]
    exact l_end (fun _ _ => rets_two rfl rfl) (List.nil_sublist _) ⟨by trivial, rfl⟩
   ·have h3n := r_f h3
    refine c_skip ?_
    refine c_seq ?_
    obtain ⟨x, rfl⟩ := one_of (xs := xs) o_m
    obtain ⟨b, cap, sp, he9, rfl, -⟩ := hVi.full (by simp)
    cases he9
    refine c_region ?_
    refine RL ?_
    refine l_l (idx_slice1 0 rfl rfl rfl rfl (by simp)) rfl rfl ?_
    refine l_x (x_load rfl rfl (at_own (v := .string (bs x)) m_m (by rfl))) rfl rfl ?_
    rintro _ _ ⟨rfl, rfl⟩
    refine RL ?_
    refine RL ?_
    refine l_nil ?_
    refine c_ret ?_
    rw [print_one hP9]
    exact l_end (fun _ _ => rets_two rfl rfl) (List.nil_sublist _) ⟨by trivial, rfl⟩

end Go.Proofs.YtiadmbhafplepaaDoor
