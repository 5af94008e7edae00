/- Names are found, and laid in their order. -/
import Derived.Test.YtmafgccagaihbaaNamesC
import Derived.Test.YtmafgccagaihbaaCalls
namespace Go.Proofs.Ytmafgccagaihbaa
open Go Go.VV Go.Proofs
set_option linter.unusedSimpArgs false
set_option linter.unusedVariables false
set_option maxRecDepth 100000
theorem nfind_fn (b : Nat) (a : Option Addr) (c : Nat) (P : List Nm) (hs : Srt P) (hok : ∀ y ∈ P, AtOk y) (hlen : P.length < 1000000) (x : Nm) (hx : AtOk x) (w : World) (h0 : w.cell? ⟨b, 0, none⟩ = some (.slice a P.length c)) (hE : Els w cN a P) :
    Does Try.prog 29 [.pointer (some ⟨b, 0, none⟩), .agg (cN x).toArray] w [] (fun v H => H = [] ∧ v = .tuple #[.int .i64 (cnt P (key x)), .bool (fnd P (key x))]) := by
  refine does_of Try.func29 rfl rfl rfl (St.refl w) ?_
  refine c_seq ?_
  refine c_region ?_
  refine l_x (x_box rfl rfl) rfl rfl ?_
  rintro _ _ ⟨b3, rfl, rfl⟩
  refine l_l rfl rfl rfl ?_
  refine l_l rfl rfl rfl ?_
  refine l_nil ?_
  refine c_seq ?_
  refine c_draw _ [4] (.step true 0 (.step true 1 (.step true 2 (.step true 3 (.step true 4 (.step false 5 (.step true 6 (.step true 7 (.step true 8 (.step true 9 .done)))))))))) rfl (by kernel_rfl) (by kernel_rfl) (fun _ h => h) ?_
  refine d_light rfl rfl rfl rfl rfl ?_
  refine d_light rfl rfl rfl rfl rfl ?_
  refine d_light rfl (light_fa rfl rfl) rfl rfl rfl ?_
  refine d_load rfl rfl rfl (s_old h0 (by simp)) rfl rfl ?_
  refine d_loadA rfl rfl rfl rfl (by first | exact srow_own (by repeat (first | exact .head _ | refine .tail _ ?_ | refine List.mem_append_right _ ?_)) | exact srow_own_at (by repeat (first | exact .head _ | refine .tail _ ?_ | refine List.mem_append_right _ ?_)) _ 3 rfl) rfl rfl ?_
  refine d_x rfl (x_val call_34 rfl (fun w hw => search_fn a c P hs hok hlen x hx w (hE.later0 hw))) rfl rfl (by intro h; cases h) ?_
  rintro _ _ ⟨rfl, rfl⟩
  refine d_light rfl rfl rfl rfl rfl ?_
  refine d_light rfl rfl rfl rfl rfl ?_
  refine d_light rfl rfl rfl rfl rfl ?_
  refine d_light rfl rfl rfl rfl rfl ?_
  refine d_nil ?_
  refine c_ret ?_
  exact l_end0 (fun _ _ => rets_v2 rfl rfl) ⟨rfl, rfl⟩

theorem insert_fn (P : List Nm) (k : Nat) (x : Nm) (v : Value) (G : Heap) (hV : Vec 86 3 v P.length (flat cN P) G) (hk : k ≤ P.length) (hlen : P.length ≤ 1000) (bx : Nat) (w : World) (hx : w.heap[bx]? = some (blk (cN x) 86)) (hbx : bx ∉ G.map (·.1)) (hst : St w (G.map (·.1)) G w) :
    Does Try.prog 30 [v, .int .i64 k, .slice (some ⟨bx, 0, none⟩) 1 1] w (G.map (·.1)) (fun u H => Vec 86 3 u (P.length + 1) (flat cN (P.take k ++ x :: P.drop k)) H) := by
  refine does_of Try.func30 rfl rfl rfl hst ?_
  refine c_seq ?_
  rcases hV.alt with ⟨rfl, hn, hf, rfl⟩ | ⟨bq, cap, sp, rfl, rfl, hz, hl, hm⟩
  · refine c_region ?_
    refine l_l rfl rfl rfl ?_
    refine l_nil ?_
    refine c_seq ?_
    obtain rfl := List.eq_nil_of_length_eq_zero hn
    obtain rfl : k = 0 := by simpa using hk
    refine c_region ?_
    refine l_l rfl rfl rfl ?_
    refine l_l rfl rfl rfl ?_
    refine l_l rfl rfl rfl ?_
    refine l_nil ?_
    refine c_seq ?_
    refine c_region ?_
    refine l_l rfl rfl rfl ?_
    refine l_l (by first | exact light_len rfl rfl | exact light_lens rfl rfl | rfl) rfl rfl ?_
    refine l_l rfl rfl rfl ?_
    refine l_nil ?_
    refine c_seq ?_
    refine c_seq ?_
    refine c_region ?_
    refine l_l rfl rfl rfl ?_
    refine l_sure false rfl rfl rfl rfl ?_
    refine l_nil ?_
    refine c_false rfl ?_
    refine c_skip ?_
    refine c_seq ?_
    refine c_region ?_
    refine l_l rfl rfl rfl ?_
    refine l_l (by first | exact light_len rfl rfl | exact light_lens rfl rfl | rfl) rfl rfl ?_
    refine l_l rfl rfl rfl ?_
    refine l_nil ?_
    refine c_seq ?_
    refine c_seq ?_
    refine c_region ?_
    refine l_l rfl rfl rfl ?_
    refine l_l rfl rfl rfl ?_
    refine l_sure true rfl rfl rfl rfl ?_
    refine l_nil ?_
    refine c_true rfl ?_
    refine c_seq ?_
    refine c_region ?_
    refine l_l rfl rfl rfl ?_
    refine l_l rfl rfl rfl ?_
    refine l_x (x_appendE (A := []) (G := []) (v := .slice none 0 0) (n := 0) (xs := []) (m := 1) (T := 86) (s := 3) (by_ := 32) (ys := cN x) rfl rfl rfl rfl .nil (fun w hw => .row _ _ _ _ _ rfl (row_old (Row.all hx) hbx w hw)) rfl (by omega) (by omega)) rfl rfl ?_
    rintro v25 _ ⟨G25, hV25, hn25, rfl⟩
    refine l_as' (v := v25) rfl rfl rfl ?_
    refine l_nil ?_
    refine c_ret ?_
    exact l_end (fun _ _ => rets_one rfl) (List.sublist_append_left _ _) (hV25.as rfl rfl)
  · refine c_region ?_
    refine l_l rfl rfl rfl ?_
    refine l_nil ?_
    refine c_seq ?_
    have hV9 : Vec 86 3 (.slice (some ⟨bq, 0, none⟩) P.length cap) P.length (flat cN P) [(bq, blk (flat cN P ++ sp) 86)] := hV
    refine c_region ?_
    refine l_l rfl rfl rfl ?_
    refine l_l rfl rfl rfl ?_
    refine l_l (cut_slice (s := 3) k P.length rfl rfl rfl rfl rfl rfl (by omega) (by omega)) rfl rfl ?_
    refine l_nil ?_
    refine c_seq ?_
    refine c_region ?_
    refine l_l rfl rfl rfl ?_
    refine l_l (by first | exact light_len rfl rfl | exact light_lens rfl rfl | rfl) rfl rfl ?_
    refine l_l rfl rfl rfl ?_
    refine l_nil ?_
    refine c_seq ?_
    refine c_seq ?_
    refine c_region ?_
    refine l_l rfl rfl rfl ?_
    refine l_sure false rfl rfl rfl rfl ?_
    refine l_nil ?_
    refine c_false rfl ?_
    refine c_skip ?_
    refine c_seq ?_
    refine c_region ?_
    refine l_l rfl rfl rfl ?_
    refine l_l (by first | exact light_len rfl rfl | exact light_lens rfl rfl | rfl) rfl rfl ?_
    refine l_l rfl rfl rfl ?_
    refine l_nil ?_
    refine c_seq ?_
    refine c_seq ?_
    refine c_region ?_
    refine l_l rfl rfl rfl ?_
    refine l_l rfl rfl rfl ?_
    refine l_l rfl rfl rfl ?_
    refine l_nil ?_
    refine c_cond rfl (fun h1 => ?_) (fun h1 => ?_)
    · refine c_seq ?_
      refine c_region ?_
      refine l_l rfl rfl rfl ?_
      refine l_l rfl rfl rfl ?_
      refine l_x (x_appendE (A := []) (G := [(bq, blk (flat cN P ++ sp) 86)]) (v := .slice (some ⟨bq, 0, none⟩) P.length cap) (n := P.length) (xs := flat cN P) (m := 1) (T := 86) (s := 3) (by_ := 32) (ys := cN x) rfl rfl rfl rfl hV9 (fun w hw => .row _ _ _ _ _ rfl (row_old (Row.all hx) hbx w hw)) rfl (by omega) (by omega)) rfl rfl ?_
      rintro v25 _ ⟨G25, hV25, hn25, rfl⟩
      refine l_as' (v := v25) rfl rfl rfl ?_
      refine l_nil ?_
      refine c_ret ?_
      exact l_end (fun _ _ => rets_one rfl) (List.sublist_append_left _ _) (hV25.as rfl (by rw [List.take_of_length_le (by (try simp only [decide_eq_true_eq, decide_eq_false_iff_not, beq_iff_eq, beq_eq_false_iff_ne, bne_iff_ne, bne_eq_false_iff_eq, ne_eq] at *); omega), List.drop_of_length_le (by (try simp only [decide_eq_true_eq, decide_eq_false_iff_not, beq_iff_eq, beq_eq_false_iff_ne, bne_iff_ne, bne_eq_false_iff_eq, ne_eq] at *); omega), flat_append]; simp [flat]))
    · refine c_skip ?_
      refine c_seq ?_
      refine c_seq ?_
      have hkn : k < P.length := by (try simp only [decide_eq_true_eq, decide_eq_false_iff_not, beq_iff_eq, beq_eq_false_iff_ne, bne_iff_ne, bne_eq_false_iff_eq, ne_eq] at *); omega
      refine c_region ?_
      refine l_l rfl rfl rfl ?_
      refine l_l rfl rfl rfl ?_
      refine l_as (v := (.int .i64 ((P.length + 1 : Nat) : Int))) rfl rfl rfl (congrArg _ (by rw [wrap_i64 (by omega) (by omega)]; omega)) ?_
      refine l_l rfl rfl rfl ?_
      refine l_l (light_cap rfl rfl) rfl rfl ?_
      refine l_l rfl rfl rfl ?_
      refine l_nil ?_
      refine c_cond rfl (fun h2 => ?_) (fun h2 => ?_)
      · refine c_seq ?_
        have hgr : cap < P.length + 1 := by (try simp only [decide_eq_true_eq, decide_eq_false_iff_not, beq_iff_eq, beq_eq_false_iff_ne, bne_iff_ne, bne_eq_false_iff_eq, ne_eq] at *); omega
        refine c_region ?_
        refine l_l rfl rfl rfl ?_
        refine l_l rfl rfl rfl ?_
        refine l_l (cut_pre k rfl rfl rfl rfl (by omega)) rfl rfl ?_
        refine l_l rfl rfl rfl ?_
        refine l_l rfl rfl rfl ?_
        refine l_as (v := (.int .i64 ((P.length + 1 : Nat) : Int))) rfl rfl rfl (congrArg _ (by rw [wrap_i64 (by omega) (by omega)]; omega)) ?_
        refine l_l rfl rfl rfl ?_
        refine l_as (v := (.int .i64 ((P.length + 1 - k : Nat) : Int))) rfl rfl rfl (congrArg _ (by rw [wrap_i64 (by omega) (by omega)]; omega)) ?_
        refine l_x (x_appendM (olds := flat cN (P.take k)) (k := k) (n := P.length + 1 - k) (T := 86) (s := 3) (by_ := 32) rfl rfl rfl rfl rfl (fun w hw => (row_own (.head _) w hw).left.takeE k) (take_len (by omega)) (by omega) (by omega) (by omega) (by decide)) rfl rfl ?_
        rintro _ _ ⟨b9, c9, s9, rfl, rfl, hz9, hl9, hm9⟩
        have e9 : k + (P.length + 1 - k) = P.length + 1 := by omega
        rw [e9] at hl9 ⊢
        refine l_l rfl rfl rfl ?_
        refine l_nil ?_
        refine c_seq ?_
        refine c_region ?_
        refine l_l rfl rfl rfl ?_
        refine l_l rfl rfl rfl ?_
        refine l_as (v := (.slice (some ⟨b9, k * 3, none⟩) ((P.length + 1) - k) (c9 - k))) (cut_slice (s := 3) k (P.length + 1) rfl rfl rfl rfl rfl rfl (by omega) (by omega)) rfl rfl (by rw [cutAt, if_neg (by omega), Nat.zero_add]) ?_
        refine l_l rfl rfl rfl ?_
        refine l_x (x_copyE (ys := cN x) 0 rfl rfl rfl rfl rfl (by rw [Nat.min_eq_left (by omega)]; rfl) (fun w hw => (row_old (Row.all hx) hbx w hw)) rfl (by rw [hz9, cN_len]; omega)) rfl rfl ?_
        rintro _ _ ⟨rfl, rfl⟩
        simp only [List.set_cons_zero]
        refine l_nil ?_
        refine c_seq ?_
        refine c_draw _ [] (.step true 0 (.step true 1 (.step true 2 (.step true 3 (.step true 4 (.step true 5 (.step true 6 (.step true 7 (.step false 8 .done))))))))) rfl (by kernel_rfl) (by kernel_rfl) (fun _ h => h) ?_
        refine d_light rfl rfl rfl rfl rfl ?_
        refine d_light rfl rfl rfl rfl rfl ?_
        refine d_light rfl rfl rfl rfl rfl ?_
        refine d_as (v := (.int .i64 ((k + 1 : Nat) : Int))) rfl rfl rfl rfl rfl (congrArg _ (by rw [wrap_i64 (by omega) (by omega)]; omega)) ?_
        refine d_as (v := (.slice (some ⟨b9, (k + 1) * 3, none⟩) ((P.length + 1) - (k + 1)) (c9 - (k + 1)))) rfl (cut_slice (s := 3) (k + 1) (P.length + 1) rfl rfl rfl rfl rfl rfl (by omega) (by omega)) rfl rfl rfl (by rw [cutAt, if_neg (by omega), Nat.zero_add]) ?_
        refine d_light rfl rfl rfl rfl rfl ?_
        refine d_light rfl rfl rfl rfl rfl ?_
        refine d_as (v := (.slice (some ⟨bq, k * 3, none⟩) (P.length - k) (cap - k))) rfl (cut_slice (s := 3) k P.length rfl rfl rfl rfl rfl rfl (by omega) (by omega)) rfl rfl rfl (by rw [cutAt, if_neg (by omega), Nat.zero_add]) ?_
        refine d_x rfl (x_copyE (ys := flat cN (P.drop k)) 0 rfl rfl rfl rfl rfl (by rw [drop_len]; congr 1; omega) (fun w hw => row_drop_at (cap := cap) (row_own (.tail _ (.head _)) w hw) (by omega) (by omega)) (ones_flat_of ones_N _) (by rw [putL_len3 hz9 (by rw [cN_len]; omega), drop_len]; omega)) rfl rfl (by intro h; cases h) ?_
        rintro _ _ ⟨rfl, rfl⟩
        simp only [List.set_cons_zero]
        refine d_nil ?_
        refine c_seq ?_
        refine c_region ?_
        refine l_l rfl rfl rfl ?_
        refine l_l rfl rfl rfl ?_
        refine l_nil ?_
        refine c_ret ?_
        obtain ⟨S, hS⟩ := ins_new (x := x) (by omega : k < P.length) hz9 hl9
        exact l_end (fun _ _ => rets_v rfl) (.cons_cons _ (List.nil_sublist _)) (vec_ins hk hS (putL_len3 (putL_len3 hz9 (by rw [cN_len]; omega)) (by rw [drop_len]; omega)) hl9 hm9)
      · refine c_skip ?_
        refine c_seq ?_
        have hro : P.length + 1 ≤ cap := by (try simp only [decide_eq_true_eq, decide_eq_false_iff_not, beq_iff_eq, beq_eq_false_iff_ne, bne_iff_ne, bne_eq_false_iff_eq, ne_eq] at *); omega
        refine c_region ?_
        refine l_l rfl rfl rfl ?_
        refine l_l rfl rfl rfl ?_
        refine l_l rfl rfl rfl ?_
        refine l_as (v := (.int .i64 ((P.length + 1 : Nat) : Int))) rfl rfl rfl (congrArg _ (by rw [wrap_i64 (by omega) (by omega)]; omega)) ?_
        refine l_l (cut_pre (P.length + 1) rfl rfl rfl rfl (by omega)) rfl rfl ?_
        refine l_l rfl rfl rfl ?_
        refine l_nil ?_
        refine c_seq ?_
        refine c_seq ?_
        refine c_region ?_
        refine l_l rfl rfl rfl ?_
        refine l_l rfl rfl rfl ?_
        refine l_l rfl rfl rfl ?_
        refine l_l rfl rfl rfl ?_
        refine l_as (v := (.int .i64 ((k + 1 : Nat) : Int))) rfl rfl rfl (congrArg _ (by rw [wrap_i64 (by omega) (by omega)]; omega)) ?_
        refine l_as (v := (.slice (some ⟨bq, (k + 1) * 3, none⟩) ((P.length + 1) - (k + 1)) (cap - (k + 1)))) (cut_slice (s := 3) (k + 1) (P.length + 1) rfl rfl rfl rfl rfl rfl (by omega) (by omega)) rfl rfl (by rw [cutAt, if_neg (by omega), Nat.zero_add]) ?_
        refine l_x (x_ovl (lA := cN x) (TA := 86) (lB := flat cN P ++ sp) (TB := 86) (tS := 46) (tR := 4) Try.func37 (by kernel_rfl) (by kernel_rfl) (by kernel_rfl) (by kernel_rfl) rfl rfl (fun h => hbx (by simp [h])) (fun w hw => hw.old hx hbx) (fun w hw => hw.holds _ (.head _)) (by rw [hz]; omega)) rfl rfl ?_
        rintro _ _ ⟨rfl, rfl⟩
        refine l_l rfl rfl rfl ?_
        refine l_nil ?_
        refine c_true rfl ?_
        refine c_seq ?_
        refine c_draw _ [] (.step true 0 (.step true 1 (.step true 2 (.step true 3 (.step true 4 (.step true 5 (.step true 6 (.step true 7 (.step false 8 .done))))))))) rfl (by kernel_rfl) (by kernel_rfl) (fun _ h => h) ?_
        refine d_light rfl rfl rfl rfl rfl ?_
        refine d_light rfl rfl rfl rfl rfl ?_
        refine d_light rfl rfl rfl rfl rfl ?_
        refine d_as (v := (.int .i64 ((k + 1 : Nat) : Int))) rfl rfl rfl rfl rfl (congrArg _ (by rw [wrap_i64 (by omega) (by omega)]; omega)) ?_
        refine d_as (v := (.slice (some ⟨bq, (k + 1) * 3, none⟩) ((P.length + 1) - (k + 1)) (cap - (k + 1)))) rfl (cut_slice (s := 3) (k + 1) (P.length + 1) rfl rfl rfl rfl rfl rfl (by omega) (by omega)) rfl rfl rfl (by rw [cutAt, if_neg (by omega), Nat.zero_add]) ?_
        refine d_light rfl rfl rfl rfl rfl ?_
        refine d_light rfl rfl rfl rfl rfl ?_
        refine d_as (v := (.slice (some ⟨bq, k * 3, none⟩) ((P.length + 1) - k) (cap - k))) rfl (cut_slice (s := 3) k (P.length + 1) rfl rfl rfl rfl rfl rfl (by omega) (by omega)) rfl rfl rfl (by rw [cutAt, if_neg (by omega), Nat.zero_add]) ?_
        refine d_x rfl (x_copyE (ys := flat cN (P.drop k)) 0 rfl rfl rfl rfl rfl (by rw [drop_len]; congr 1; omega) (fun w hw => row_drop_at (cap := cap) (row_own (.head _) w hw) (by omega) (by omega)) (ones_flat_of ones_N _) (by rw [hz, drop_len]; omega)) rfl rfl (by intro h; cases h) ?_
        rintro _ _ ⟨rfl, rfl⟩
        simp only [List.set_cons_zero]
        refine d_nil ?_
        refine c_seq ?_
        refine c_region ?_
        refine l_l rfl rfl rfl ?_
        refine l_l rfl rfl rfl ?_
        refine l_as (v := (.slice (some ⟨bq, k * 3, none⟩) ((P.length + 1) - k) (cap - k))) (cut_slice (s := 3) k (P.length + 1) rfl rfl rfl rfl rfl rfl (by omega) (by omega)) rfl rfl (by rw [cutAt, if_neg (by omega), Nat.zero_add]) ?_
        refine l_l rfl rfl rfl ?_
        refine l_x (x_copyE (ys := cN x) 0 rfl rfl rfl rfl rfl (by rw [Nat.min_eq_left (by omega)]; rfl) (fun w hw => (row_old (Row.all hx) hbx w hw)) rfl (by rw [putL_len3 hz (by rw [drop_len]; omega), cN_len]; omega)) rfl rfl ?_
        rintro _ _ ⟨rfl, rfl⟩
        simp only [List.set_cons_zero]
        refine l_nil ?_
        refine c_seq ?_
        refine c_region ?_
        refine l_l rfl rfl rfl ?_
        refine l_l rfl rfl rfl ?_
        refine l_nil ?_
        refine c_ret ?_
        obtain ⟨S, hS⟩ := ins_old (x := x) (by omega : k < P.length) hz (by omega : P.length + 1 ≤ cap)
        exact l_end (fun _ _ => rets_v rfl) (.cons_cons _ (List.nil_sublist _)) (vec_ins hk hS (putL_len3 (putL_len3 hz (by rw [drop_len]; omega)) (by rw [cN_len]; omega)) (by omega) hm)

end Go.Proofs.Ytmafgccagaihbaa
