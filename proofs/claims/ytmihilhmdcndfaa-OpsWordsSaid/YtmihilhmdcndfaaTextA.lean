/- Digits, and the words of orders that have nothing more. -/
import Derived.Test.YtmihilhmdcndfaaWords
import Derived.Test.YtmihilhmdcndfaaCalls
namespace Go.Proofs.Ytmihilhmdcndfaa
open Go Go.VV Go.Proofs
set_option linter.unusedSimpArgs false
set_option linter.unusedVariables false
set_option maxRecDepth 100000
theorem hex_fn (n : Int) (h0 : 0 ≤ n) (hn : n < 65536) (many : Nat) (hm : 1 ≤ many) (hm4 : many ≤ 4) (w : World) :
    Does Try.prog 20 [.int .u16 n, .int .i64 many] w [] (fun v H => H = [] ∧ v = .string (bs (hexL n.toNat many))) := by
  refine does_of Try.func20 rfl rfl rfl (St.refl w) ?_
  refine c_seq ?_
  refine c_region ?_
  refine l_l rfl rfl rfl ?_
  refine l_nil ?_
  refine c_seq ?_
  refine c_region ?_
  refine l_l rfl rfl rfl ?_
  refine l_nil ?_
  refine c_seq ?_
  refine c_seq ?_
  refine c_region ?_
  refine l_l rfl rfl rfl ?_
  refine l_as (v := (.int .i64 ((many : Int) - 1))) rfl rfl rfl (congrArg _ (wrap_i64 (by omega) (by omega))) ?_
  refine l_l rfl rfl rfl ?_
  refine l_nil ?_
  refine c_block ?_
  refine c_loop (σ := Nat × Value × Heap) [5, 6, 9, 10, 11, 12, 13, 14, 15, 16, 17, 18, 19, 20, 21] (fun s => [(5, s.2.1), (6, .int .i64 ((many : Int) - 1 - s.1))]) (fun s => s.2.2 ++ []) (fun s => s.1 ≤ many ∧ Vec 5 1 s.2.1 s.1 (((hexL n.toNat many).take s.1).map (fun c : UInt8 => Value.int .u8 c.toNat)) s.2.2) (fun s => many - s.1) (0, .slice none 0 0, []) ?_ ?_ ?_ ?_
  · exact ⟨Nat.zero_le _, .nil⟩
  · exact .cons rfl (.cons (show Value.int .i64 ((many : Int) - 1) = Value.int .i64 ((many : Int) - 1 - ((0 : Nat) : Int)) from congrArg _ (by omega)) .nil)
  · exact fun _ h => h
  · rintro ⟨j, v, G⟩ y3 ⟨hj, hV⟩
    dsimp only at hj hV ⊢
    obtain ⟨a5, c5, rfl⟩ := hV.slice
    refine c_seq ?_
    refine c_seq ?_
    refine c_region ?_
    refine l_l rfl rfl rfl ?_
    refine l_l rfl rfl rfl ?_
    refine l_nil ?_
    refine c_cond rfl (fun h1 => ?_) (fun h1 => ?_)
    · refine c_skip ?_
      refine c_seq ?_
      refine c_block ?_
      refine c_heap (L' := G) (fun _ h => h.as (by simp)) ?_
      refine c_region ?_
      refine l_l rfl rfl rfl ?_
      refine l_l rfl rfl rfl ?_
      refine l_l rfl rfl rfl ?_
      refine l_as (v := (.int .i64 (4 * ((many - 1 - j : Nat) : Int)))) rfl rfl rfl (congrArg _ (by rw [wrap_i64 (by (try simp only [decide_eq_true_eq, decide_eq_false_iff_not, beq_iff_eq, beq_eq_false_iff_ne, bne_iff_ne, bne_eq_false_iff_eq, ne_eq] at *); omega) (by (try simp only [decide_eq_true_eq, decide_eq_false_iff_not, beq_iff_eq, beq_eq_false_iff_ne, bne_iff_ne, bne_eq_false_iff_eq, ne_eq] at *); omega)]; (try simp only [decide_eq_true_eq, decide_eq_false_iff_not, beq_iff_eq, beq_eq_false_iff_ne, bne_iff_ne, bne_eq_false_iff_eq, ne_eq] at *); omega)) ?_
      refine l_l (shr_pos rfl rfl (by omega)) rfl rfl ?_
      refine l_as (v := (.int .u16 (((n.toNat / 16 ^ (many - 1 - j) % 16) : Nat) : Int))) rfl rfl rfl (congrArg _ (hex_law h0 hn (by omega))) ?_
      refine l_l (light_idxstr (n.toNat / 16 ^ (many - 1 - j) % 16) rfl rfl rfl rfl (dig_get (Nat.mod_lt _ (by decide)))) rfl rfl ?_
      refine l_x (x_slc rfl rfl rfl rfl rfl rfl) rfl rfl ?_
      rintro _ _ ⟨b20, rfl, rfl⟩
      refine l_x (x_appendE (A := [(b20, _)]) (G := G) (v := (.slice a5 j c5)) (n := j) (xs := (((hexL n.toNat many).take j).map (fun c : UInt8 => Value.int .u8 c.toNat))) (m := 1) (T := 5) (s := 1) (by_ := 1) (ys := [.int .u8 (dig (n.toNat / 16 ^ (many - 1 - j) % 16)).toNat]) rfl rfl rfl rfl hV (fun w hw => .row _ _ _ _ _ rfl (row_own (.head _) w hw)) rfl (by omega) (by omega)) rfl rfl ?_
      rintro v21 _ ⟨G21, hV21, hn21, rfl⟩
      have hV9 : Vec 5 1 v21 (j + 1) (((hexL n.toNat many).take (j + 1)).map (fun c : UInt8 => Value.int .u8 c.toNat)) G21 := hV21.as rfl (by rw [get_part (hexL_get (show j < many by (try simp only [decide_eq_true_eq, decide_eq_false_iff_not, beq_iff_eq, beq_eq_false_iff_ne, bne_iff_ne, bne_eq_false_iff_eq, ne_eq] at *); omega)), List.map_append]; rfl)
      obtain ⟨a9, c9, rfl⟩ := hV9.slice
      refine l_l rfl rfl rfl ?_
      refine l_nil ?_
      refine c_region ?_
      refine l_l rfl rfl rfl ?_
      refine l_as (v := (.int .i64 ((many : Int) - 1 - ((j + 1 : Nat) : Int)))) rfl rfl rfl (congrArg _ (by rw [wrap_i64 (by omega) (by omega)]; omega)) ?_
      refine l_l rfl rfl rfl ?_
      refine l_nil ?_
      exact ⟨(j + 1, _, G21), ⟨by (try simp only [decide_eq_true_eq, decide_eq_false_iff_not, beq_iff_eq, beq_eq_false_iff_ne, bne_iff_ne, bne_eq_false_iff_eq, ne_eq] at *); omega, hV9⟩, by (try simp only [decide_eq_true_eq, decide_eq_false_iff_not, beq_iff_eq, beq_eq_false_iff_ne, bne_iff_ne, bne_eq_false_iff_eq, ne_eq] at *); omega, .cons rfl (.cons rfl .nil), (by repeat (first | exact Agree.refl _ _ | exact Agree.mix rfl | refine Agree.put rfl ?_ | refine Agree.keep rfl ?_)), fun _ h => h.sub ((List.Sublist.refl _).append (List.nil_sublist _))⟩
    · refine c_exit rfl ?_
      refine c_seq ?_
      obtain rfl : many = j := by (try simp only [decide_eq_true_eq, decide_eq_false_iff_not, beq_iff_eq, beq_eq_false_iff_ne, bne_iff_ne, bne_eq_false_iff_eq, ne_eq] at *); omega
      rw [List.take_of_length_le (by rw [hexL_len]; omega)] at hV
      obtain ⟨b6, c6, s6, e6, rfl, _, _, _⟩ := hV.full (by omega)
      cases e6
      refine c_region ?_
      refine l_l rfl rfl rfl ?_
      refine l_x (x_str (l := (hexL n.toNat many)) rfl rfl rfl (hexL_len _ _) (fun w hw => (row_own (.head _) w hw).left)) rfl rfl ?_
      rintro _ _ ⟨rfl, rfl⟩
      refine l_l rfl rfl rfl ?_
      refine l_nil ?_
      refine c_ret ?_
      exact l_end0 (fun _ _ => rets_v rfl) ⟨rfl, rfl⟩

theorem when_fn (word more : List UInt8) (cond : Int) (hw1 : word.length ≤ 100) (hm1 : more.length ≤ 100) (w : World) :
    Does Try.prog 25 [.string (bs word), .int .i64 cond, .string (bs more)] w [] (fun v H => H = [] ∧ v = .string (bs (whenL word cond more))) := by
  have q1 := cond_len cond
  refine does_of Try.func25 rfl rfl rfl (St.refl w) ?_
  refine c_seq ?_
  refine c_region ?_
  refine l_l rfl rfl rfl ?_
  refine l_nil ?_
  refine c_seq ?_
  refine c_seq ?_
  refine c_region ?_
  refine l_l rfl rfl rfl ?_
  refine l_l rfl rfl rfl ?_
  refine l_nil ?_
  refine c_cond rfl (fun h1 => ?_) (fun h1 => ?_)
  · refine c_seq ?_
    refine c_region ?_
    refine l_l rfl rfl rfl ?_
    refine l_l rfl rfl rfl ?_
    refine l_x (x_slc (z := [.string (bs [])]) (l := [.string (bs [110, 122]), .string (bs [122]), .string (bs [110, 99]), .string (bs [99])]) (ps := [(0, .string (bs [110, 122])), (1, .string (bs [122])), (2, .string (bs [110, 99])), (3, .string (bs [99]))]) rfl rfl rfl rfl (by kernel_rfl) (by kernel_rfl)) rfl rfl ?_
    rintro _ _ ⟨b11, rfl, rfl⟩
    refine l_x (x_val call_24 rfl (fun w hw => pick_fn cond condW _ _ (by decide) w (fun _ => ⟨_, 0, rfl, row_own (by repeat (first | exact .head _ | refine .tail _ ?_ | refine List.mem_append_right _ ?_)) w hw⟩))) rfl rfl ?_
    rintro _ _ ⟨rfl, rfl⟩
    refine l_l (light_cat rfl rfl (by (try simp only [List.length_append, List.length_cons, List.length_nil]); omega)) rfl rfl ?_
    refine l_l (light_cat rfl rfl (by (try simp only [List.length_append, List.length_cons, List.length_nil]); omega)) rfl rfl ?_
    refine l_l rfl rfl rfl ?_
    refine l_nil ?_
    refine c_seq ?_
    refine c_region ?_
    refine l_l rfl rfl rfl ?_
    refine l_l (light_nestr rfl rfl) rfl rfl ?_
    refine l_nil ?_
    refine c_cond rfl (fun h2 => ?_) (fun h2 => ?_)
    · refine c_region ?_
      refine l_l rfl rfl rfl ?_
      refine l_l (light_cat rfl rfl (by (try simp only [List.length_append, List.length_cons, List.length_nil]); omega)) rfl rfl ?_
      refine l_l rfl rfl rfl ?_
      refine l_nil ?_
      refine c_seq ?_
      refine c_seq ?_
      refine c_region ?_
      refine l_l rfl rfl rfl ?_
      refine l_l (light_nestr rfl rfl) rfl rfl ?_
      refine l_nil ?_
      refine c_cond rfl (fun h3 => ?_) (fun h3 => ?_)
      · refine c_region ?_
        refine l_l rfl rfl rfl ?_
        refine l_l rfl rfl rfl ?_
        refine l_l (light_cat rfl rfl (by (try simp only [List.length_append, List.length_cons, List.length_nil]); omega)) rfl rfl ?_
        refine l_l (light_cat rfl rfl (by (try simp only [List.length_append, List.length_cons, List.length_nil]); omega)) rfl rfl ?_
        refine l_l rfl rfl rfl ?_
        refine l_nil ?_
        refine c_seq ?_
        refine c_region ?_
        refine l_l rfl rfl rfl ?_
        refine l_l rfl rfl rfl ?_
        refine l_nil ?_
        refine c_ret ?_
        exact l_end0 (fun _ _ => rets_v rfl) ⟨rfl, congrArg (fun l => Value.string (bs l)) (by unfold whenL; simp_all)⟩
      · refine c_skip ?_
        refine c_seq ?_
        refine c_region ?_
        refine l_l rfl rfl rfl ?_
        refine l_l rfl rfl rfl ?_
        refine l_nil ?_
        refine c_ret ?_
        exact l_end0 (fun _ _ => rets_v rfl) ⟨rfl, congrArg (fun l => Value.string (bs l)) (by unfold whenL; simp_all)⟩
    · refine c_skip ?_
      refine c_seq ?_
      refine c_seq ?_
      refine c_region ?_
      refine l_l rfl rfl rfl ?_
      refine l_l (light_nestr rfl rfl) rfl rfl ?_
      refine l_nil ?_
      refine c_cond rfl (fun h4 => ?_) (fun h4 => ?_)
      · refine c_region ?_
        refine l_l rfl rfl rfl ?_
        refine l_l rfl rfl rfl ?_
        refine l_l (light_cat rfl rfl (by (try simp only [List.length_append, List.length_cons, List.length_nil]); omega)) rfl rfl ?_
        refine l_l (light_cat rfl rfl (by (try simp only [List.length_append, List.length_cons, List.length_nil]); omega)) rfl rfl ?_
        refine l_l rfl rfl rfl ?_
        refine l_nil ?_
        refine c_seq ?_
        refine c_region ?_
        refine l_l rfl rfl rfl ?_
        refine l_l rfl rfl rfl ?_
        refine l_nil ?_
        refine c_ret ?_
        exact l_end0 (fun _ _ => rets_v rfl) ⟨rfl, congrArg (fun l => Value.string (bs l)) (by unfold whenL; simp_all)⟩
      · refine c_skip ?_
        refine c_seq ?_
        refine c_region ?_
        refine l_l rfl rfl rfl ?_
        refine l_l rfl rfl rfl ?_
        refine l_nil ?_
        refine c_ret ?_
        exact l_end0 (fun _ _ => rets_v rfl) ⟨rfl, congrArg (fun l => Value.string (bs l)) (by unfold whenL; simp_all)⟩
  · refine c_skip ?_
    refine c_seq ?_
    refine c_seq ?_
    refine c_region ?_
    refine l_l rfl rfl rfl ?_
    refine l_l (light_nestr rfl rfl) rfl rfl ?_
    refine l_nil ?_
    refine c_cond rfl (fun h5 => ?_) (fun h5 => ?_)
    · refine c_region ?_
      refine l_l rfl rfl rfl ?_
      refine l_l rfl rfl rfl ?_
      refine l_l (light_cat rfl rfl (by (try simp only [List.length_append, List.length_cons, List.length_nil]); omega)) rfl rfl ?_
      refine l_l (light_cat rfl rfl (by (try simp only [List.length_append, List.length_cons, List.length_nil]); omega)) rfl rfl ?_
      refine l_l rfl rfl rfl ?_
      refine l_nil ?_
      refine c_seq ?_
      refine c_region ?_
      refine l_l rfl rfl rfl ?_
      refine l_l rfl rfl rfl ?_
      refine l_nil ?_
      refine c_ret ?_
      exact l_end0 (fun _ _ => rets_v rfl) ⟨rfl, congrArg (fun l => Value.string (bs l)) (by unfold whenL; simp_all)⟩
    · refine c_skip ?_
      refine c_seq ?_
      refine c_region ?_
      refine l_l rfl rfl rfl ?_
      refine l_l rfl rfl rfl ?_
      refine l_nil ?_
      refine c_ret ?_
      exact l_end0 (fun _ _ => rets_v rfl) ⟨rfl, congrArg (fun l => Value.string (bs l)) (by unfold whenL; simp_all)⟩

theorem alone_fn (k : Int) (w : World) :
    Does Try.prog 43 [.int .i64 k] w [] (fun v H => H = [] ∧ v = .string (bs (aloneL k))) := by
  refine does_of Try.func43 rfl rfl rfl (St.refl w) ?_
  refine c_seq ?_
  refine c_region ?_
  refine l_l rfl rfl rfl ?_
  refine l_nil ?_
  refine c_seq ?_
  refine c_seq ?_
  refine c_region ?_
  refine l_l rfl rfl rfl ?_
  refine l_nil ?_
  refine c_block ?_
  refine c_seq ?_
  refine c_region ?_
  refine l_l rfl rfl rfl ?_
  refine l_l rfl rfl rfl ?_
  refine l_nil ?_
  refine c_cond rfl (fun h1 => ?_) (fun h1 => ?_)
  · refine c_seq ?_
    refine c_region ?_
    refine l_l rfl rfl rfl ?_
    refine l_nil ?_
    refine c_ret ?_
    exact l_end0 (fun _ _ => rets_v rfl) ⟨rfl, congrArg (fun l => Value.string (bs l)) (by first | (simp_all [aloneL]; done) | (simp [aloneL, *]; done))⟩
  · refine c_seq ?_
    refine c_region ?_
    refine l_l rfl rfl rfl ?_
    refine l_l rfl rfl rfl ?_
    refine l_nil ?_
    refine c_cond rfl (fun h2 => ?_) (fun h2 => ?_)
    · refine c_seq ?_
      refine c_region ?_
      refine l_l rfl rfl rfl ?_
      refine l_nil ?_
      refine c_ret ?_
      exact l_end0 (fun _ _ => rets_v rfl) ⟨rfl, congrArg (fun l => Value.string (bs l)) (by first | (simp_all [aloneL]; done) | (simp [aloneL, *]; done))⟩
    · refine c_seq ?_
      refine c_region ?_
      refine l_l rfl rfl rfl ?_
      refine l_l rfl rfl rfl ?_
      refine l_nil ?_
      refine c_cond rfl (fun h3 => ?_) (fun h3 => ?_)
      · refine c_seq ?_
        refine c_region ?_
        refine l_l rfl rfl rfl ?_
        refine l_nil ?_
        refine c_ret ?_
        exact l_end0 (fun _ _ => rets_v rfl) ⟨rfl, congrArg (fun l => Value.string (bs l)) (by first | (simp_all [aloneL]; done) | (simp [aloneL, *]; done))⟩
      · refine c_seq ?_
        refine c_region ?_
        refine l_l rfl rfl rfl ?_
        refine l_l rfl rfl rfl ?_
        refine l_nil ?_
        refine c_cond rfl (fun h4 => ?_) (fun h4 => ?_)
        · refine c_seq ?_
          refine c_region ?_
          refine l_l rfl rfl rfl ?_
          refine l_nil ?_
          refine c_ret ?_
          exact l_end0 (fun _ _ => rets_v rfl) ⟨rfl, congrArg (fun l => Value.string (bs l)) (by first | (simp_all [aloneL]; done) | (simp [aloneL, *]; done))⟩
        · refine c_seq ?_
          refine c_region ?_
          refine l_l rfl rfl rfl ?_
          refine l_l rfl rfl rfl ?_
          refine l_nil ?_
          refine c_cond rfl (fun h5 => ?_) (fun h5 => ?_)
          · refine c_seq ?_
            refine c_region ?_
            refine l_l rfl rfl rfl ?_
            refine l_nil ?_
            refine c_ret ?_
            exact l_end0 (fun _ _ => rets_v rfl) ⟨rfl, congrArg (fun l => Value.string (bs l)) (by first | (simp_all [aloneL]; done) | (simp [aloneL, *]; done))⟩
          · refine c_seq ?_
            refine c_seq ?_
            refine c_region ?_
            refine l_l rfl rfl rfl ?_
            refine l_l rfl rfl rfl ?_
            refine l_nil ?_
            refine c_cond rfl (fun h6 => ?_) (fun h6 => ?_)
            · refine c_skip ?_
              refine c_sure true rfl h6 ?_
              refine c_seq ?_
              refine c_region ?_
              refine l_l rfl rfl rfl ?_
              refine l_as (v := (.int .i64 (k - 19))) rfl rfl rfl (congrArg _ (wrap_i64 (by (try simp only [decide_eq_true_eq, decide_eq_false_iff_not, beq_iff_eq, beq_eq_false_iff_ne, bne_iff_ne, bne_eq_false_iff_eq, ne_eq] at *); omega) (by (try simp only [decide_eq_true_eq, decide_eq_false_iff_not, beq_iff_eq, beq_eq_false_iff_ne, bne_iff_ne, bne_eq_false_iff_eq, ne_eq] at *); omega))) ?_
              refine l_x (x_slc (z := [.string (bs [])]) (l := [.string (bs [100, 97, 97]), .string (bs [99, 112, 108]), .string (bs [115, 99, 102]), .string (bs [99, 99, 102])]) (ps := [(0, .string (bs [100, 97, 97])), (1, .string (bs [99, 112, 108])), (2, .string (bs [115, 99, 102])), (3, .string (bs [99, 99, 102]))]) rfl rfl rfl rfl (by kernel_rfl) (by kernel_rfl)) rfl rfl ?_
              rintro _ _ ⟨b21, rfl, rfl⟩
              refine l_x (x_val call_24 rfl (fun w hw => pick_fn (k - 19) flagW _ _ (by decide) w (fun _ => ⟨_, 0, rfl, row_own (by repeat (first | exact .head _ | refine .tail _ ?_ | refine List.mem_append_right _ ?_)) w hw⟩))) rfl rfl ?_
              rintro _ _ ⟨rfl, rfl⟩
              refine l_l rfl rfl rfl ?_
              refine l_nil ?_
              refine c_ret ?_
              exact l_end0 (fun _ _ => rets_v rfl) ⟨rfl, congrArg (fun l => Value.string (bs l)) (by first | (simp_all [aloneL]; done) | (simp [aloneL, *]; done))⟩
            · refine c_seq ?_
              refine c_region ?_
              refine l_l rfl rfl rfl ?_
              refine l_l rfl rfl rfl ?_
              refine l_nil ?_
              refine c_cond rfl (fun h7 => ?_) (fun h7 => ?_)
              · refine c_skip ?_
                refine c_sure true rfl h7 ?_
                refine c_seq ?_
                refine c_region ?_
                refine l_l rfl rfl rfl ?_
                refine l_as (v := (.int .i64 (k - 19))) rfl rfl rfl (congrArg _ (wrap_i64 (by (try simp only [decide_eq_true_eq, decide_eq_false_iff_not, beq_iff_eq, beq_eq_false_iff_ne, bne_iff_ne, bne_eq_false_iff_eq, ne_eq] at *); omega) (by (try simp only [decide_eq_true_eq, decide_eq_false_iff_not, beq_iff_eq, beq_eq_false_iff_ne, bne_iff_ne, bne_eq_false_iff_eq, ne_eq] at *); omega))) ?_
                refine l_x (x_slc (z := [.string (bs [])]) (l := [.string (bs [100, 97, 97]), .string (bs [99, 112, 108]), .string (bs [115, 99, 102]), .string (bs [99, 99, 102])]) (ps := [(0, .string (bs [100, 97, 97])), (1, .string (bs [99, 112, 108])), (2, .string (bs [115, 99, 102])), (3, .string (bs [99, 99, 102]))]) rfl rfl rfl rfl (by kernel_rfl) (by kernel_rfl)) rfl rfl ?_
                rintro _ _ ⟨b21, rfl, rfl⟩
                refine l_x (x_val call_24 rfl (fun w hw => pick_fn (k - 19) flagW _ _ (by decide) w (fun _ => ⟨_, 0, rfl, row_own (by repeat (first | exact .head _ | refine .tail _ ?_ | refine List.mem_append_right _ ?_)) w hw⟩))) rfl rfl ?_
                rintro _ _ ⟨rfl, rfl⟩
                refine l_l rfl rfl rfl ?_
                refine l_nil ?_
                refine c_ret ?_
                exact l_end0 (fun _ _ => rets_v rfl) ⟨rfl, congrArg (fun l => Value.string (bs l)) (by first | (simp_all [aloneL]; done) | (simp [aloneL, *]; done))⟩
              · refine c_seq ?_
                refine c_region ?_
                refine l_l rfl rfl rfl ?_
                refine l_l rfl rfl rfl ?_
                refine l_nil ?_
                refine c_cond rfl (fun h8 => ?_) (fun h8 => ?_)
                · refine c_skip ?_
                  refine c_sure true rfl h8 ?_
                  refine c_seq ?_
                  refine c_region ?_
                  refine l_l rfl rfl rfl ?_
                  refine l_as (v := (.int .i64 (k - 19))) rfl rfl rfl (congrArg _ (wrap_i64 (by (try simp only [decide_eq_true_eq, decide_eq_false_iff_not, beq_iff_eq, beq_eq_false_iff_ne, bne_iff_ne, bne_eq_false_iff_eq, ne_eq] at *); omega) (by (try simp only [decide_eq_true_eq, decide_eq_false_iff_not, beq_iff_eq, beq_eq_false_iff_ne, bne_iff_ne, bne_eq_false_iff_eq, ne_eq] at *); omega))) ?_
                  refine l_x (x_slc (z := [.string (bs [])]) (l := [.string (bs [100, 97, 97]), .string (bs [99, 112, 108]), .string (bs [115, 99, 102]), .string (bs [99, 99, 102])]) (ps := [(0, .string (bs [100, 97, 97])), (1, .string (bs [99, 112, 108])), (2, .string (bs [115, 99, 102])), (3, .string (bs [99, 99, 102]))]) rfl rfl rfl rfl (by kernel_rfl) (by kernel_rfl)) rfl rfl ?_
                  rintro _ _ ⟨b21, rfl, rfl⟩
                  refine l_x (x_val call_24 rfl (fun w hw => pick_fn (k - 19) flagW _ _ (by decide) w (fun _ => ⟨_, 0, rfl, row_own (by repeat (first | exact .head _ | refine .tail _ ?_ | refine List.mem_append_right _ ?_)) w hw⟩))) rfl rfl ?_
                  rintro _ _ ⟨rfl, rfl⟩
                  refine l_l rfl rfl rfl ?_
                  refine l_nil ?_
                  refine c_ret ?_
                  exact l_end0 (fun _ _ => rets_v rfl) ⟨rfl, congrArg (fun l => Value.string (bs l)) (by first | (simp_all [aloneL]; done) | (simp [aloneL, *]; done))⟩
                · refine c_region ?_
                  refine l_l rfl rfl rfl ?_
                  refine l_l rfl rfl rfl ?_
                  refine l_nil ?_
                  refine c_cond rfl (fun h9 => ?_) (fun h9 => ?_)
                  · refine c_seq ?_
                    refine c_region ?_
                    refine l_l rfl rfl rfl ?_
                    refine l_as (v := (.int .i64 (k - 19))) rfl rfl rfl (congrArg _ (wrap_i64 (by (try simp only [decide_eq_true_eq, decide_eq_false_iff_not, beq_iff_eq, beq_eq_false_iff_ne, bne_iff_ne, bne_eq_false_iff_eq, ne_eq] at *); omega) (by (try simp only [decide_eq_true_eq, decide_eq_false_iff_not, beq_iff_eq, beq_eq_false_iff_ne, bne_iff_ne, bne_eq_false_iff_eq, ne_eq] at *); omega))) ?_
                    refine l_x (x_slc (z := [.string (bs [])]) (l := [.string (bs [100, 97, 97]), .string (bs [99, 112, 108]), .string (bs [115, 99, 102]), .string (bs [99, 99, 102])]) (ps := [(0, .string (bs [100, 97, 97])), (1, .string (bs [99, 112, 108])), (2, .string (bs [115, 99, 102])), (3, .string (bs [99, 99, 102]))]) rfl rfl rfl rfl (by kernel_rfl) (by kernel_rfl)) rfl rfl ?_
                    rintro _ _ ⟨b21, rfl, rfl⟩
                    refine l_x (x_val call_24 rfl (fun w hw => pick_fn (k - 19) flagW _ _ (by decide) w (fun _ => ⟨_, 0, rfl, row_own (by repeat (first | exact .head _ | refine .tail _ ?_ | refine List.mem_append_right _ ?_)) w hw⟩))) rfl rfl ?_
                    rintro _ _ ⟨rfl, rfl⟩
                    refine l_l rfl rfl rfl ?_
                    refine l_nil ?_
                    refine c_ret ?_
                    exact l_end0 (fun _ _ => rets_v rfl) ⟨rfl, congrArg (fun l => Value.string (bs l)) (by first | (simp_all [aloneL]; done) | (simp [aloneL, *]; done))⟩
                  · refine c_seq ?_
                    refine c_region ?_
                    refine l_l rfl rfl rfl ?_
                    refine l_l rfl rfl rfl ?_
                    refine l_nil ?_
                    refine c_cond rfl (fun h10 => ?_) (fun h10 => ?_)
                    · refine c_seq ?_
                      refine c_region ?_
                      refine l_l rfl rfl rfl ?_
                      refine l_nil ?_
                      refine c_ret ?_
                      exact l_end0 (fun _ _ => rets_v rfl) ⟨rfl, congrArg (fun l => Value.string (bs l)) (by first | (simp_all [aloneL]; done) | (simp [aloneL, *]; done))⟩
                    · refine c_seq ?_
                      refine c_region ?_
                      refine l_l rfl rfl rfl ?_
                      refine l_l rfl rfl rfl ?_
                      refine l_nil ?_
                      refine c_cond rfl (fun h11 => ?_) (fun h11 => ?_)
                      · refine c_seq ?_
                        refine c_region ?_
                        refine l_l rfl rfl rfl ?_
                        refine l_nil ?_
                        refine c_ret ?_
                        exact l_end0 (fun _ _ => rets_v rfl) ⟨rfl, congrArg (fun l => Value.string (bs l)) (by first | (simp_all [aloneL]; done) | (simp [aloneL, *]; done))⟩
                      · refine c_seq ?_
                        refine c_region ?_
                        refine l_l rfl rfl rfl ?_
                        refine l_l rfl rfl rfl ?_
                        refine l_nil ?_
                        refine c_cond rfl (fun h12 => ?_) (fun h12 => ?_)
                        · refine c_seq ?_
                          refine c_region ?_
                          refine l_l rfl rfl rfl ?_
                          refine l_nil ?_
                          refine c_ret ?_
                          exact l_end0 (fun _ _ => rets_v rfl) ⟨rfl, congrArg (fun l => Value.string (bs l)) (by first | (simp_all [aloneL]; done) | (simp [aloneL, *]; done))⟩
                        · refine c_seq ?_
                          refine c_region ?_
                          refine l_l rfl rfl rfl ?_
                          refine l_l rfl rfl rfl ?_
                          refine l_nil ?_
                          refine c_cond rfl (fun h13 => ?_) (fun h13 => ?_)
                          · refine c_seq ?_
                            refine c_region ?_
                            refine l_l rfl rfl rfl ?_
                            refine l_nil ?_
                            refine c_ret ?_
                            exact l_end0 (fun _ _ => rets_v rfl) ⟨rfl, congrArg (fun l => Value.string (bs l)) (by first | (simp_all [aloneL]; done) | (simp [aloneL, *]; done))⟩
                          · refine c_seq ?_
                            refine c_region ?_
                            refine l_l rfl rfl rfl ?_
                            refine l_l rfl rfl rfl ?_
                            refine l_nil ?_
                            refine c_cond rfl (fun h14 => ?_) (fun h14 => ?_)
                            · refine c_seq ?_
                              refine c_region ?_
                              refine l_l rfl rfl rfl ?_
                              refine l_nil ?_
                              refine c_ret ?_
                              exact l_end0 (fun _ _ => rets_v rfl) ⟨rfl, congrArg (fun l => Value.string (bs l)) (by first | (simp_all [aloneL]; done) | (simp [aloneL, *]; done))⟩
                            · refine c_skip ?_
                              refine c_seq ?_
                              refine c_region ?_
                              refine l_l rfl rfl rfl ?_
                              refine l_nil ?_
                              refine c_ret ?_
                              exact l_end0 (fun _ _ => rets_v rfl) ⟨rfl, congrArg (fun l => Value.string (bs l)) (by first | (simp_all [aloneL]; done) | (simp [aloneL, *]; done))⟩

end Go.Proofs.Ytmihilhmdcndfaa
