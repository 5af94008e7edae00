/- A line of bytes: a machine goes through it. -/
import Derived.Test.YtldehodcfajpjaaGreatQcE
import Derived.Test.YtldehodcfajpjaaGreatQcK
import Derived.Test.YtldehodcfajpjaaGreatQcL
set_option linter.unusedSimpArgs false
set_option linter.unusedVariables false
set_option maxRecDepth 100000
namespace Go.Proofs.YtldehodcfajpjaaGreat
open Go Go.VV Go.Proofs Go.RowKit
theorem numberL_fn (r : Bool) (lb pb o n : Nat) (hn : n ≤ 8) (va : Value) (bs : List Int) (Gl : Heap) (hV : LineB 5 r va bs Gl) (L : List Value) (hS : LineOk r n (L, bs)) (T : Nat) (hf : Fit (.long n) L o) (ms : List Nat) (w : World) (hst : St w ms ((pb, blk L T) :: (lb, blk [va, .bool r] 169) :: Gl) w) : Does Tryz.prog 141 [.pointer (some ⟨lb, 0, none⟩), .pointer (some ⟨pb, o, none⟩), .int .i64 n] w ms (fun v H => v = .tuple #[] ∧ ∃ va' Gl', LineB 5 r va' (pass1 r (.long n) (L, bs) o).2 Gl' ∧ H = (pb, blk (pass1 r (.long n) (L, bs) o).1 T) :: (lb, blk [va', .bool r] 169) :: Gl') := by
 have hby := hS.byts
 have hen := hS.en
 have hsz := hS.sz
 dsimp only at hby hen hsz
 have hx9 : L[o]? = some (.int .u64 (FK.at L o)) := hf.at.1
 have hk9 : 0 ≤ (FK.at L o) ∧ (FK.at L o) < 18446744073709551616 := hf.at.2
 have ho9 := hf.lt
 refine does_of Tryz.func141 rfl rfl rfl hst ?_
 refine ZCc ?_
 rcases r with _ | _
 ·refine ZBj ?_
  refine ZEB ?_
  refine ZCc ?_
  replace hV := hV.write
  refine ZCB ?_
  refine c_block ?_
  refine c_loop (σ := Nat × Value × Heap) [6, 14, 15, 16, 17, 18, 19, 20, 21, 22, 23, 24, 25, 26, 27, 28, 29, 30, 31, 32, 33] (fun s => [(14, .int .i64 s.1)]) (fun s => (pb, blk L T) :: (lb, blk [s.2.1, .bool false] 169) :: (s.2.2 ++ [])) (fun s => s.1 ≤ n ∧ Vec 5 1 s.2.1 (bs ++ dgts s.1 (FK.at L o)).length ((bs ++ dgts s.1 (FK.at L o)).map (.int .u8)) s.2.2) (fun s => n - s.1) (0, va, Gl) ?_ ?_ ?_ ?_
  ·exact ⟨Nat.zero_le _, by rw [show dgts 0 (FK.at L o) = [] from rfl, List.append_nil]; exact hV⟩
  ·exact .cons rfl .nil
  ·exact fun _ h => by rw [List.append_nil]; exact h
  ·rintro ⟨i, v0, G0⟩ y2 ⟨hi, hV0⟩
   dsimp only at hi hV0 ⊢
   obtain ⟨a6, c0, rfl⟩ := hV0.slice
   refine ZCI ?_
   refine KC (fun q0 q0n => ?_) (fun q0 q0n => ?_)
   ·refine ZCQ ?_
    refine ZAS ?_
    refine c_draw [(pb, blk L T), (lb, blk [(.slice a6 (bs ++ dgts i (FK.at L o)).length c0), .bool false] 169)] [5, 6, 7, 8, 9, 10, 11, 12] (.step true 0 (.step true 1 (.step true 2 (.step true 3 (.step true 4 (.step true 5 (.step true 6 (.step true 7 (.step true 8 (.step true 9 (.step true 10 (.step true 11 (.step false 12 (.step false 13 (.step true 14 (.step true 15 (.step false 16 .done))))))))))))))))) rfl y_g y_g (fun x hx => y_n) ?_
    refine D_4 ?_
    refine DL rfl rfl rfl (s_own (v := (.slice a6 (bs ++ dgts i (FK.at L o)).length c0)) m_m rfl) rfl ?_
    refine D_2 ?_
    refine DL rfl rfl rfl (s_own (v := .int .u64 (FK.at L o)) m_m hx9) rfl ?_
    refine RD ?_
    refine DW (v := (.int .i64 ((8 * i : Nat) : Int))) rfl (l_mul rfl rfl) rfl ((as_i64 o_m o_m).trans (congrArg _ o_m)) ?_
    refine DY rfl (shr_pos rfl rfl o_m) rfl ?_
    refine DW (v := (.int .u8 (dgt (FK.at L o) i))) rfl (l_conv rfl rfl rfl) rfl (congrArg _ (shr_at o_m rfl)) ?_
    refine DX rfl (x_slc (z := [.int .u8 0]) (l := [.int .u8 (dgt (FK.at L o) i)]) (ps := [(0, .int .u8 (dgt (FK.at L o) i))]) rfl rfl rfl rfl rfl rfl) rfl y_eC ?_
    refine ZC8 fun b0 => ?_
    refine DX rfl (x_append (A := [(b0, _), (pb, _), (lb, _)]) (G := G0) (R := []) (v := (.slice a6 (bs ++ dgts i (FK.at L o)).length c0)) (n := (bs ++ dgts i (FK.at L o)).length) (xs := (bs ++ dgts i (FK.at L o)).map (.int .u8)) (m := 1) (T := 5) (s := 1) (by_ := 1) (ys := [.int .u8 (dgt (FK.at L o) i)]) rfl rfl rfl rfl hV0 (fun w hw => .row _ _ _ _ _ rfl (row_own (b := b0) (.head _) w hw)) rfl (by rw [List.length_append, dgts_len]; omega) (by rw [List.length_append, dgts_len]; omega)) rfl n_h ?_
    rintro v1 _ ⟨G1, hV1, _, rfl⟩
    obtain ⟨b1, cp9, sp0, rfl, rfl, hc0, hle9, hm9⟩ := hV1.full o_m
    refine ZAC ?_
    refine D_2 ?_
    refine DZ rfl (x_storeTo (l' := [(.slice (some ⟨b1, 0, none⟩) ((bs ++ dgts i (FK.at L o)).length + 1) cp9), .bool false]) 3 rfl rfl rfl rfl rfl rfl (Nat.le_of_ble_eq_true rfl) rfl) rfl n_h ?_
    refine ZAC ?_
    refine ZEb ?_
    refine ZC2 ?_
    exact ⟨(i + 1, _, [(b1, _)]), ⟨y_D, hV1.as (by simp only [dgts_succ, List.length_append, List.length_singleton]; omega) (by simp only [dgts_succ, List.map_append, List.map_cons, List.map_nil, List.append_assoc])⟩, y_D, .cons rfl .nil, a_g, fun _ h => (h.sub (.cons_cons _ (.cons _ (List.Sublist.refl _)))).perm (List.perm_append_comm (l₁ := [(b1, _)]) (l₂ := [_, _]))⟩
   ·refine ZBa ?_
    refine c_ret ?_
    obtain rfl : i = n := by omega
    exact EN (by rw [List.append_nil]; exact List.Sublist.refl _) ⟨rfl, _, G0, hV0, rfl⟩
 ·refine ZBj ?_
  refine ZDh ?_
  refine ZA0 ?_
  obtain ⟨cb, off, c, all, rfl, hle, rfl, hall⟩ := hV.read
  replace hen := hen rfl
  refine ZAo ?_
  refine RZ (x_storeTo (l' := (putL L o [.int .u64 (val bs 0)])) 0 rfl rfl rfl rfl rfl rfl ho9 rfl) rfl ?_
  refine ZBb ?_
  refine ZBV ?_
  refine c_loop (σ := Nat) [7, 37, 38, 39, 40, 41, 42, 43, 44, 45, 46, 47, 48, 49, 50, 51, 52, 53, 54, 55, 56] (fun i => [(37, .int .i64 i)]) (fun i => [(pb, blk (putL L o [.int .u64 (val bs i)]) T), (lb, blk [(.slice (some ⟨cb, off, none⟩) bs.length c), .bool true] 169), (cb, blk all 5)]) (fun i => i ≤ n) (fun i => n - i) 0 ?_ ?_ ?_ ?_
  ·exact Nat.zero_le _
  ·exact .cons rfl .nil
  ·exact fun _ h => h
  ·rintro i y8 hi
   refine ZCI ?_
   refine KC (fun q0 q0n => ?_) (fun q0 q0n => ?_)
   ·refine ZCQ ?_
    refine ZAS ?_
    refine c_draw [(pb, blk (putL L o [.int .u64 (val bs i)]) T), (lb, blk [(.slice (some ⟨cb, off, none⟩) bs.length c), .bool true] 169), (cb, blk all 5)] [3, 4, 5, 6, 7, 8, 9, 10, 11, 12, 13] (.step true 0 (.step true 1 (.step true 2 (.step true 3 (.step true 4 (.step true 5 (.step true 6 (.step true 7 (.step true 8 (.step true 9 (.step true 10 (.step true 11 (.step true 12 (.step true 13 (.step true 14 (.step true 15 (.step false 16 .done))))))))))))))))) rfl y_g y_g (fun _ h => h) ?_
    refine D_2 ?_
    refine DL rfl rfl rfl (s_own (v := .int .u64 (val bs i)) m_m (by rw [putL_get ho9, if_pos rfl])) rfl ?_
    refine D_3 ?_
    refine DL rfl rfl rfl (s_own (v := (.slice (some ⟨cb, off, none⟩) bs.length c)) m_m rfl) rfl ?_
    refine RD ?_
    refine DY rfl (idx_slice1 i rfl rfl rfl rfl o_m) rfl ?_
    refine DL rfl rfl rfl (s_own (v := .int .u8 (bs.getD i 0)) m_m (hall i _ (map_at o_m))) rfl ?_
    refine DW (v := (.int .u64 (bs.getD i 0))) rfl (l_conv rfl rfl rfl) rfl (as_u64 (hby.get i).1 (by have := (hby.get i).2; omega)) ?_
    refine RD ?_
    refine DW (v := (.int .i64 ((8 * i : Nat) : Int))) rfl (l_mul rfl rfl) rfl ((as_i64 o_m o_m).trans (congrArg _ o_m)) ?_
    refine DY rfl (shl_pos rfl rfl o_m) rfl ?_
    refine DW (v := (.int .u64 (val bs (i + 1)))) rfl (l_or rfl rfl) rfl (congrArg _ (bor_at o_m rfl (val_ok hby i) (hby.get i))) ?_
    refine RD ?_
    refine DZ rfl (x_storeTo (l' := (putL L o [.int .u64 (val bs (i + 1))])) 0 rfl rfl rfl rfl rfl rfl (by rw [putL_len1 ho9]; exact ho9) (putL_again ho9)) rfl n_h ?_
    refine ZAC ?_
    refine ZEb ?_
    refine ZC2 ?_
    exact ⟨i + 1, y_D, y_D, .cons rfl .nil, a_g, fun _ h => h⟩
   ·refine ZBa ?_
    refine ZAP ?_
    refine L_6 ?_
    refine RY (cut_slice1 n bs.length rfl rfl rfl rfl rfl rfl o_m o_m) rfl ?_
    refine L_2 ?_
    refine RZ (x_storeTo (l' := [.slice (some ⟨cb, cut1 off n c, none⟩) (bs.length - n) (c - n), .bool true]) 1 rfl rfl rfl rfl rfl rfl (Nat.le_of_ble_eq_true rfl) rfl) rfl ?_
    refine ZBb ?_
    obtain rfl : i = n := by omega
    exact EN (List.Sublist.refl _) ⟨rfl, _, _, LineB.cut hle hen hall, rfl⟩
theorem number1L_fn (r : Bool) (lb xb n : Nat) (hn : n ≤ 8) (va : Value) (x : Int) (hx : 0 ≤ x ∧ x < 18446744073709551616) (bs : List Int) (Gl : Heap) (hV : LineB 5 r va bs Gl) (hS : ∀ L : List Value, LineOk r n (L, bs)) (ms : List Nat) (w : World) (hst : St w ms ((xb, blk [.int .u64 x] 47) :: (lb, blk [va, .bool r] 169) :: Gl) w) : Does Tryz.prog 141 [.pointer (some ⟨lb, 0, none⟩), .pointer (some ⟨xb, 0, none⟩), .int .i64 n] w ms (fun v H => v = .tuple #[] ∧ ∃ va' Gl', LineB 5 r va' (goes r n x bs).2 Gl' ∧ H = (xb, blk [.int .u64 (goes r n x bs).1] 47) :: (lb, blk [va', .bool r] 169) :: Gl') :=
 (numberL_fn r lb xb 0 n hn va bs Gl hV [.int .u64 x] (hS _) 47 ⟨x, rfl, hx⟩ ms w hst).mono fun v H ⟨h1, va', Gl', h2, h3⟩ => ⟨h1, va', Gl', by cases r <;> exact h2, by rw [h3]; cases r <;> rfl⟩
theorem bytesL_fn (r : Bool) (lb pb : Nat) (va : Value) (Gl : Heap) (S : Ps) (hV : LineB 5 r va S.2 Gl) (os : List Nat) (hol : os.length ≤ 1000000) (hS : LineOk r (os.length * 1) S) (T : Nat) (hf : ∀ o ∈ os, Fit .byte S.1 o) (pa : Option Addr) (pc : Nat) (ms : List Nat) (w : World) (hst : St w ms ((lb, blk [va, .bool r] 169) :: (Gl ++ [(pb, blk S.1 T)])) w) (hE : Els w (cPtr pb) pa os) (hpn : ∀ p, pa = some p → p.block ∉ ms) : Does Tryz.prog 138 [.pointer (some ⟨lb, 0, none⟩), .slice pa os.length pc] w ms (fun v H => v = .tuple #[] ∧ ∃ va' Gl', LineB 5 r va' (passes r .byte os S).2 Gl' ∧ H = (lb, blk [va', .bool r] 169) :: (Gl' ++ [(pb, blk (passes r .byte os S).1 T)])) := by
 refine does_of Tryz.func138 rfl rfl rfl hst ?_
 refine ZAV ?_
 refine ZCU ?_
 refine ZBO ?_
 refine c_loop (σ := Nat × Value × Heap) [5, 6, 9, 10, 11, 12, 13, 14, 15, 16, 17, 18, 19, 20, 21, 22, 23] (fun s => [(9, .int .i64 s.1)]) (fun s => (lb, blk [s.2.1, .bool r] 169) :: (s.2.2 ++ [(pb, blk (passes r .byte (os.take s.1) S).1 T)])) (fun s => s.1 ≤ os.length ∧ LineB 5 r s.2.1 (passes r .byte (os.take s.1) S).2 s.2.2) (fun s => os.length - s.1) (0, va, Gl) ?_ ?_ ?_ ?_
 ·exact ⟨Nat.zero_le _, hV⟩
 ·exact .cons rfl .nil
 ·exact fun _ h => h
 ·rintro ⟨i, v0, G0⟩ y1 ⟨hi, hV0⟩
  dsimp only at hi hV0 ⊢
  refine ZCI ?_
  refine KC (fun q0 q0n => ?_) (fun q0 q0n => ?_)
  ·refine ZDp ?_
   obtain ⟨oi, hoi⟩ : ∃ o, os[i]? = some o := ⟨_, List.getElem?_eq_getElem o_m⟩
   obtain ⟨bp, op, rfl, hrow⟩ := hE.row (i := i) o_m
   obtain ⟨Z, hZ⟩ : ∃ Z, Z = (passes r .byte (os.take i) S) := ⟨_, rfl⟩
   have hfz : Fit .byte Z.1 oi := hZ ▸ passes_fit_at trivial hS.byts hf hoi
   have hSz : LineOk r 1 Z := hZ ▸ hS.at (k := .byte) o_m
   rw [← hZ] at hV0 ⊢
   have hv9 : Z.1[oi]? = some (.int .u8 (FK.at Z.1 oi)) := hfz.at.1
   have hx9 : 0 ≤ (FK.at Z.1 oi) ∧ (FK.at Z.1 oi) < 256 := hfz.at.2
   have hx8 : 0 ≤ (FK.at Z.1 oi) ∧ (FK.at Z.1 oi) < 18446744073709551616 := ⟨hx9.1, by have := hx9.2; omega⟩
   have hy9 := goes_lt (r := r) (n := 1) (x := (FK.at Z.1 oi)) (bs := Z.2) hx9 hSz.byts
   refine ZEg ?_
   refine ZEC ?_
   refine RZ (x_load rfl rfl (at_own (v := .int .u8 (FK.at Z.1 oi)) m_m hv9)) rfl ?_
   refine RW (v := (.int .u64 (FK.at Z.1 oi))) (l_conv rfl rfl rfl) rfl (as_u64 hx8.1 hx8.2) ?_
   refine ZBq fun b0 => ?_
   refine RZ (x_storeTo (l' := [.int .u64 (FK.at Z.1 oi)]) 0 rfl rfl rfl rfl rfl rfl (Nat.le_of_ble_eq_true rfl) rfl) rfl ?_
   refine ZBb ?_
   refine ZAV ?_
   refine ZAi fun va0 G1 hV1 => ?_
   refine ZBv ?_
   refine ZAo ?_
   refine RW (v := (.int .u8 (goes r 1 (FK.at Z.1 oi) Z.2).1)) (l_conv rfl rfl rfl) rfl (as_u8 hy9.1 hy9.2) ?_
   refine Rl ?_
   refine RZ (x_storeTo (l' := (pass1 r .byte Z oi).1) 0 rfl rfl rfl rfl rfl rfl hfz.lt (congrArg Prod.fst (pass1_goes hfz r)).symm) rfl ?_
   refine ZBb ?_
   refine ZAP ?_
   exact ZBF
  ·refine ZBa ?_
   obtain rfl : i = os.length := by omega
   exact EN (List.Sublist.refl _) ⟨rfl, _, G0, y_cp, y_eF⟩
theorem wordsL_fn (r : Bool) (lb pb : Nat) (va : Value) (Gl : Heap) (S : Ps) (hV : LineB 5 r va S.2 Gl) (os : List Nat) (hol : os.length ≤ 1000000) (hS : LineOk r (os.length * 2) S) (T : Nat) (hf : ∀ o ∈ os, Fit .word S.1 o) (pa : Option Addr) (pc : Nat) (ms : List Nat) (w : World) (hst : St w ms ((lb, blk [va, .bool r] 169) :: (Gl ++ [(pb, blk S.1 T)])) w) (hE : Els w (cPtr pb) pa os) (hpn : ∀ p, pa = some p → p.block ∉ ms) : Does Tryz.prog 139 [.pointer (some ⟨lb, 0, none⟩), .slice pa os.length pc] w ms (fun v H => v = .tuple #[] ∧ ∃ va' Gl', LineB 5 r va' (passes r .word os S).2 Gl' ∧ H = (lb, blk [va', .bool r] 169) :: (Gl' ++ [(pb, blk (passes r .word os S).1 T)])) := by
 refine does_of Tryz.func139 rfl rfl rfl hst ?_
 refine ZAV ?_
 refine ZCU ?_
 refine ZBO ?_
 refine c_loop (σ := Nat × Value × Heap) [5, 6, 9, 10, 11, 12, 13, 14, 15, 16, 17, 18, 19, 20, 21, 22, 23] (fun s => [(9, .int .i64 s.1)]) (fun s => (lb, blk [s.2.1, .bool r] 169) :: (s.2.2 ++ [(pb, blk (passes r .word (os.take s.1) S).1 T)])) (fun s => s.1 ≤ os.length ∧ LineB 5 r s.2.1 (passes r .word (os.take s.1) S).2 s.2.2) (fun s => os.length - s.1) (0, va, Gl) ?_ ?_ ?_ ?_
 ·exact ⟨Nat.zero_le _, hV⟩
 ·exact .cons rfl .nil
 ·exact fun _ h => h
 ·rintro ⟨i, v0, G0⟩ y1 ⟨hi, hV0⟩
  dsimp only at hi hV0 ⊢
  refine ZCI ?_
  refine KC (fun q0 q0n => ?_) (fun q0 q0n => ?_)
  ·refine ZDp ?_
   obtain ⟨oi, hoi⟩ : ∃ o, os[i]? = some o := ⟨_, List.getElem?_eq_getElem o_m⟩
   obtain ⟨bp, op, rfl, hrow⟩ := hE.row (i := i) o_m
   obtain ⟨Z, hZ⟩ : ∃ Z, Z = (passes r .word (os.take i) S) := ⟨_, rfl⟩
   have hfz : Fit .word Z.1 oi := hZ ▸ passes_fit_at trivial hS.byts hf hoi
   have hSz : LineOk r 2 Z := hZ ▸ hS.at (k := .word) o_m
   rw [← hZ] at hV0 ⊢
   have hv9 : Z.1[oi]? = some (.int .u16 (FK.at Z.1 oi)) := hfz.at.1
   have hx9 : 0 ≤ (FK.at Z.1 oi) ∧ (FK.at Z.1 oi) < 65536 := hfz.at.2
   have hx8 : 0 ≤ (FK.at Z.1 oi) ∧ (FK.at Z.1 oi) < 18446744073709551616 := ⟨hx9.1, by have := hx9.2; omega⟩
   have hy9 := goes_lt (r := r) (n := 2) (x := (FK.at Z.1 oi)) (bs := Z.2) hx9 hSz.byts
   refine ZEg ?_
   refine ZEC ?_
   refine RZ (x_load rfl rfl (at_own (v := .int .u16 (FK.at Z.1 oi)) m_m hv9)) rfl ?_
   refine RW (v := (.int .u64 (FK.at Z.1 oi))) (l_conv rfl rfl rfl) rfl (as_u64 hx8.1 hx8.2) ?_
   refine ZBq fun b0 => ?_
   refine RZ (x_storeTo (l' := [.int .u64 (FK.at Z.1 oi)]) 0 rfl rfl rfl rfl rfl rfl (Nat.le_of_ble_eq_true rfl) rfl) rfl ?_
   refine ZBb ?_
   refine ZAV ?_
   refine RX (x_callF (A := (b0, blk [.int .u64 (FK.at Z.1 oi)] 47) :: (lb, blk [v0, .bool r] 169) :: G0) (G := [(pb, blk Z.1 T)]) (R := fun v H => v = .tuple #[] ∧ ∃ va' Gl', LineB 5 r va' (goes r 2 (FK.at Z.1 oi) Z.2).2 Gl' ∧ H = (b0, blk [.int .u64 (goes r 2 (FK.at Z.1 oi) Z.2).1] 47) :: (lb, blk [va', .bool r] 169) :: Gl') (((b0, blk [.int .u64 (FK.at Z.1 oi)] 47) :: (lb, blk [v0, .bool r] 169) :: G0).map (·.1)) call_141 rfl (fun _ hb => mem_fst hb) (fun w hw => number1L_fn r lb b0 2 y_c v0 (FK.at Z.1 oi) hx8 Z.2 G0 hV0 (fun L => ⟨hSz.byts, hSz.en, hSz.sz⟩) _ w (St.lentV hw))) rfl ?_
   rintro _ _ ⟨_, ⟨rfl, va0, G1, hV1, rfl⟩, rfl⟩
   refine ZBv ?_
   refine ZAo ?_
   refine RW (v := (.int .u16 (goes r 2 (FK.at Z.1 oi) Z.2).1)) (l_conv rfl rfl rfl) rfl (as_u16 hy9.1 hy9.2) ?_
   refine Rl ?_
   refine RZ (x_storeTo (l' := (pass1 r .word Z oi).1) 0 rfl rfl rfl rfl rfl rfl hfz.lt (congrArg Prod.fst (pass1_goes hfz r)).symm) rfl ?_
   refine ZBb ?_
   refine ZAP ?_
   exact ZBF
  ·refine ZBa ?_
   obtain rfl : i = os.length := by omega
   exact EN (List.Sublist.refl _) ⟨rfl, _, G0, y_cp, y_eF⟩
theorem boolsL_fn (r : Bool) (lb pb : Nat) (va : Value) (Gl : Heap) (S : Ps) (hV : LineB 5 r va S.2 Gl) (os : List Nat) (hol : os.length ≤ 1000000) (hS : LineOk r (os.length * 1) S) (T : Nat) (hf : ∀ o ∈ os, Fit .bool S.1 o) (pa : Option Addr) (pc : Nat) (ms : List Nat) (w : World) (hst : St w ms ((lb, blk [va, .bool r] 169) :: (Gl ++ [(pb, blk S.1 T)])) w) (hE : Els w (cPtr pb) pa os) (hpn : ∀ p, pa = some p → p.block ∉ ms) : Does Tryz.prog 140 [.pointer (some ⟨lb, 0, none⟩), .slice pa os.length pc] w ms (fun v H => v = .tuple #[] ∧ ∃ va' Gl', LineB 5 r va' (passes r .bool os S).2 Gl' ∧ H = (lb, blk [va', .bool r] 169) :: (Gl' ++ [(pb, blk (passes r .bool os S).1 T)])) := by
 refine does_of Tryz.func140 rfl rfl rfl hst ?_
 refine ZAV ?_
 refine ZCU ?_
 refine ZBO ?_
 refine c_loop (σ := Nat × Value × Heap) [5, 6, 9, 10, 11, 12, 13, 14, 15, 16, 17, 18, 19, 20, 21, 22] (fun s => [(9, .int .i64 s.1)]) (fun s => (lb, blk [s.2.1, .bool r] 169) :: (s.2.2 ++ [(pb, blk (passes r .bool (os.take s.1) S).1 T)])) (fun s => s.1 ≤ os.length ∧ LineB 5 r s.2.1 (passes r .bool (os.take s.1) S).2 s.2.2) (fun s => os.length - s.1) (0, va, Gl) ?_ ?_ ?_ ?_
 ·exact ⟨Nat.zero_le _, hV⟩
 ·exact .cons rfl .nil
 ·exact fun _ h => h
 ·rintro ⟨i, v0, G0⟩ y1 ⟨hi, hV0⟩
  dsimp only at hi hV0 ⊢
  refine ZCI ?_
  refine KC (fun q0 q0n => ?_) (fun q0 q0n => ?_)
  ·refine ZDp ?_
   obtain ⟨oi, hoi⟩ : ∃ o, os[i]? = some o := ⟨_, List.getElem?_eq_getElem o_m⟩
   obtain ⟨bp, op, rfl, hrow⟩ := hE.row (i := i) o_m
   obtain ⟨Z, hZ⟩ : ∃ Z, Z = (passes r .bool (os.take i) S) := ⟨_, rfl⟩
   have hfz : Fit .bool Z.1 oi := hZ ▸ passes_fit_at trivial hS.byts hf hoi
   have hSz : LineOk r 1 Z := hZ ▸ hS.at (k := .bool) o_m
   rw [← hZ] at hV0 ⊢
   have hv9 : Z.1[oi]? = some (.bool ((FK.at Z.1 oi) == 1)) := hfz.at.1
   have hx9 : (FK.at Z.1 oi) = 0 ∨ (FK.at Z.1 oi) = 1 := hfz.at.2
   have hx8 : 0 ≤ (FK.at Z.1 oi) ∧ (FK.at Z.1 oi) < 18446744073709551616 := by rcases hx9 with h | h <;> rw [h] <;> decide
   refine ZEg ?_
   refine ZAB ?_
   refine ZAA ?_
   refine ZBq fun b0 => ?_
   refine ZAb ?_
   refine ZCd ?_
   refine RZ (x_load rfl rfl (at_own (v := .bool ((FK.at Z.1 oi) == 1)) m_m hv9)) rfl ?_
   refine ZAb ?_
   refine KC (fun q1 q1n => ?_) (fun q1 q1n => ?_)
   ·refine ZAP ?_
    refine RZ (x_storeTo (l' := [.int .u64 1]) 0 rfl rfl rfl rfl rfl rfl (Nat.le_of_ble_eq_true rfl) rfl) rfl ?_
    refine ZBb ?_
    refine ZA0 ?_
    have e8 : (FK.at Z.1 oi) = 1 := by simpa using q1
    refine c_heap (L' := (b0, blk [.int .u64 (FK.at Z.1 oi)] 47) :: (lb, blk [v0, .bool r] 169) :: (G0 ++ [(pb, blk Z.1 T)])) (fun _ h => h.as (by rw [e8])) ?_
    refine ZAZ ?_
    refine ZAi fun va0 G1 hV1 => ?_
    refine ZBv ?_
    refine ZBj ?_
    refine RZ (x_storeTo (l' := (pass1 r .bool Z oi).1) 0 rfl rfl rfl rfl rfl rfl hfz.lt (congrArg Prod.fst (pass1_goes hfz r)).symm) rfl ?_
    refine ZBb ?_
    refine ZAP ?_
    exact ZBF
   ·refine ZAx ?_
    refine ZA0 ?_
    have e8 : (FK.at Z.1 oi) = 0 := by rcases hx9 with h9 | h9; exact h9; rw [h9] at q1; cases q1
    refine c_heap (L' := (b0, blk [.int .u64 (FK.at Z.1 oi)] 47) :: (lb, blk [v0, .bool r] 169) :: (G0 ++ [(pb, blk Z.1 T)])) (fun _ h => h.as (by rw [e8])) ?_
    refine ZAZ ?_
    refine ZAi fun va0 G1 hV1 => ?_
    refine ZBv ?_
    refine ZBj ?_
    refine RZ (x_storeTo (l' := (pass1 r .bool Z oi).1) 0 rfl rfl rfl rfl rfl rfl hfz.lt (congrArg Prod.fst (pass1_goes hfz r)).symm) rfl ?_
    refine ZBb ?_
    refine ZAP ?_
    exact ZBF
  ·refine ZBa ?_
   obtain rfl : i = os.length := by omega
   exact EN (List.Sublist.refl _) ⟨rfl, _, G0, y_cp, y_eF⟩
theorem intsL_fn (r : Bool) (lb pb : Nat) (mn : Nat) (hmn : mn ≤ 4) (hmn8 : mn ≤ 8) (va : Value) (Gl : Heap) (S : Ps) (hV : LineB 5 r va S.2 Gl) (os : List Nat) (hol : os.length ≤ 1000000) (hS : LineOk r (os.length * mn) S) (T : Nat) (hf : ∀ o ∈ os, Fit (.int mn) S.1 o) (pa : Option Addr) (pc : Nat) (ms : List Nat) (w : World) (hst : St w ms ((lb, blk [va, .bool r] 169) :: (Gl ++ [(pb, blk S.1 T)])) w) (hE : Els w (cPtr pb) pa os) (hpn : ∀ p, pa = some p → p.block ∉ ms) : Does Tryz.prog 142 [.pointer (some ⟨lb, 0, none⟩), .int .i64 mn, .slice pa os.length pc] w ms (fun v H => v = .tuple #[] ∧ ∃ va' Gl', LineB 5 r va' (passes r (.int mn) os S).2 Gl' ∧ H = (lb, blk [va', .bool r] 169) :: (Gl' ++ [(pb, blk (passes r (.int mn) os S).1 T)])) := by
 refine does_of Tryz.func142 rfl rfl rfl hst ?_
 refine ZAV ?_
 refine ZCU ?_
 refine ZBO ?_
 refine c_loop (σ := Nat × Value × Heap) [7, 8, 11, 12, 13, 14, 15, 16, 17, 18, 19, 20, 21, 22, 23, 24, 25, 26] (fun s => [(11, .int .i64 s.1)]) (fun s => (lb, blk [s.2.1, .bool r] 169) :: (s.2.2 ++ [(pb, blk (passes r (.int mn) (os.take s.1) S).1 T)])) (fun s => s.1 ≤ os.length ∧ LineB 5 r s.2.1 (passes r (.int mn) (os.take s.1) S).2 s.2.2) (fun s => os.length - s.1) (0, va, Gl) ?_ ?_ ?_ ?_
 ·exact ⟨Nat.zero_le _, hV⟩
 ·exact .cons rfl .nil
 ·exact fun _ h => h
 ·rintro ⟨i, v0, G0⟩ y1 ⟨hi, hV0⟩
  dsimp only at hi hV0 ⊢
  refine ZCI ?_
  refine KC (fun q0 q0n => ?_) (fun q0 q0n => ?_)
  ·refine ZDp ?_
   obtain ⟨oi, hoi⟩ : ∃ o, os[i]? = some o := ⟨_, List.getElem?_eq_getElem o_m⟩
   obtain ⟨bp, op, rfl, hrow⟩ := hE.row (i := i) o_m
   obtain ⟨Z, hZ⟩ : ∃ Z, Z = (passes r (.int mn) (os.take i) S) := ⟨_, rfl⟩
   have hfz : Fit (.int mn) Z.1 oi := hZ ▸ passes_fit_at hmn hS.byts hf hoi
   have hSz : LineOk r mn Z := hZ ▸ hS.at (k := (.int mn)) o_m
   rw [← hZ] at hV0 ⊢
   have hv9 : Z.1[oi]? = some (.int .i64 (FK.at Z.1 oi)) := hfz.at.1
   have hx9 : -9223372036854775808 ≤ (FK.at Z.1 oi) ∧ (FK.at Z.1 oi) ≤ 9223372036854775807 := hfz.at.2
   have hx8 : 0 ≤ ((FK.at Z.1 oi) % 18446744073709551616) ∧ ((FK.at Z.1 oi) % 18446744073709551616) < 18446744073709551616 := by omega
   refine ZEg ?_
   refine ZEC ?_
   refine RZ (x_load rfl rfl (at_own (v := .int .i64 (FK.at Z.1 oi)) m_m hv9)) rfl ?_
   refine RW (v := (.int .u64 ((FK.at Z.1 oi) % 18446744073709551616))) (l_conv rfl rfl rfl) rfl (as_u64m _) ?_
   refine ZBq fun b0 => ?_
   refine RZ (x_storeTo (l' := [.int .u64 ((FK.at Z.1 oi) % 18446744073709551616)]) 0 rfl rfl rfl rfl rfl rfl (Nat.le_of_ble_eq_true rfl) rfl) rfl ?_
   refine ZBb ?_
   refine ZAU ?_
   refine RX (x_callF (A := (b0, blk [.int .u64 ((FK.at Z.1 oi) % 18446744073709551616)] 47) :: (lb, blk [v0, .bool r] 169) :: G0) (G := [(pb, blk Z.1 T)]) (R := fun v H => v = .tuple #[] ∧ ∃ va' Gl', LineB 5 r va' (goes r mn ((FK.at Z.1 oi) % 18446744073709551616) Z.2).2 Gl' ∧ H = (b0, blk [.int .u64 (goes r mn ((FK.at Z.1 oi) % 18446744073709551616) Z.2).1] 47) :: (lb, blk [va', .bool r] 169) :: Gl') (((b0, blk [.int .u64 ((FK.at Z.1 oi) % 18446744073709551616)] 47) :: (lb, blk [v0, .bool r] 169) :: G0).map (·.1)) call_141 rfl (fun _ hb => mem_fst hb) (fun w hw => number1L_fn r lb b0 mn hmn8 v0 ((FK.at Z.1 oi) % 18446744073709551616) hx8 Z.2 G0 hV0 (fun L => ⟨hSz.byts, hSz.en, hSz.sz⟩) _ w (St.lentV hw))) rfl ?_
   rintro _ _ ⟨_, ⟨rfl, va0, G1, hV1, rfl⟩, rfl⟩
   refine ZBv ?_
   refine ZAo ?_
   refine RW (v := (.int .i64 (goes r mn (FK.at Z.1 oi) Z.2).1)) (l_conv rfl rfl rfl) rfl (congrArg _ (goes_int hmn hx9 hSz.byts).1) ?_
   refine Rl ?_
   refine RZ (x_storeTo (l' := (pass1 r (.int mn) Z oi).1) 0 rfl rfl rfl rfl rfl rfl hfz.lt (congrArg Prod.fst (pass1_goes hfz r)).symm) rfl ?_
   refine ZBb ?_
   refine ZC2 ?_
   exact ⟨(i + 1, va0, G1), ⟨y_D, (by rw [passes_snoc hoi, ← hZ, pass1_goes hfz]; show LineB _ r va0 (goes r mn (FK.at Z.1 oi) Z.2).2 G1; rw [← (goes_int hmn hx9 hSz.byts).2]; exact hV1)⟩, y_D, .cons rfl .nil, a_g, fun _ h => (((h.sub (.cons_cons _ (.cons _ (List.Sublist.refl _)))).perm (List.perm_append_comm (l₁ := [(pb, _)]) (l₂ := (lb, _) :: G1)))).as y_b3⟩
  ·refine ZBa ?_
   obtain rfl : i = os.length := by omega
   exact EN (List.Sublist.refl _) ⟨rfl, _, G0, y_cp, y_eF⟩
theorem listL_fn (r : Bool) (lb pb o0 nn : Nat) (hnn : nn ≤ 1000000) (va : Value) (Gl : Heap) (S : Ps) (hV : LineB 5 r va S.2 Gl) (hS : LineOk r nn S) (T : Nat) (hf : ∀ o ∈ offs o0 nn, Fit .byte S.1 o) (pc : Nat) (ms : List Nat) (w : World) (hst : St w ms ((lb, blk [va, .bool r] 169) :: (Gl ++ [(pb, blk S.1 T)])) w) : Does Tryz.prog 143 [.pointer (some ⟨lb, 0, none⟩), .slice (some ⟨pb, o0, none⟩) nn pc] w ms (fun v H => v = .tuple #[] ∧ ∃ va' Gl', LineB 5 r va' (passes r .byte (offs o0 nn) S).2 Gl' ∧ H = (lb, blk [va', .bool r] 169) :: (Gl' ++ [(pb, blk (passes r .byte (offs o0 nn) S).1 T)])) := by
 refine does_of Tryz.func143 rfl rfl rfl hst ?_
 refine ZAV ?_
 refine ZCU ?_
 refine ZBO ?_
 refine c_loop (σ := Nat × Value × Heap) [4, 7, 8, 9, 10, 11, 12, 13, 14, 15, 16] (fun s => [(7, .int .i64 s.1)]) (fun s => (lb, blk [s.2.1, .bool r] 169) :: (s.2.2 ++ [(pb, blk (passes r .byte (offs o0 s.1) S).1 T)])) (fun s => s.1 ≤ nn ∧ LineB 5 r s.2.1 (passes r .byte (offs o0 s.1) S).2 s.2.2) (fun s => nn - s.1) (0, va, Gl) ?_ ?_ ?_ ?_
 ·exact ⟨Nat.zero_le _, hV⟩
 ·exact .cons rfl .nil
 ·exact fun _ h => h
 ·rintro ⟨i, v0, G0⟩ y1 ⟨hi, hV0⟩
  dsimp only at hi hV0 ⊢
  refine ZCI ?_
  refine KC (fun q0 q0n => ?_) (fun q0 q0n => ?_)
  ·refine ZDp ?_
   obtain ⟨Z, hZ⟩ : ∃ Z, Z = (passes r .byte (offs o0 i) S) := ⟨_, rfl⟩
   have hfz : Fit .byte Z.1 (o0 + i) := hZ ▸ passes_fit (k := .byte) trivial hS.byts (fun o ho => by obtain ⟨j, hj, rfl⟩ := offs_mem ho; exact hf _ (mem_offs o_m)) (hf _ (mem_offs o_m)) (fun _ => rfl)
   have hSz : LineOk r 1 Z := hZ ▸ LineOk.pass (k := .byte) (hS.le (by rw [offs_len]; show i * 1 + 1 ≤ nn; omega))
   rw [← hZ] at hV0 ⊢
   refine ZCB ?_
   refine ZAP ?_
   refine ZBQ ?_
   refine RY (idx_slice1 i rfl rfl rfl rfl o_m) rfl ?_
   refine RX (x_slc (z := [.pointer none]) (l := [.pointer (some ⟨pb, o0 + i, none⟩)]) (ps := [(0, .pointer (some ⟨pb, o0 + i, none⟩))]) rfl rfl rfl rfl rfl rfl) rfl ?_
   refine ZC8 fun b0 => ?_
   refine RX (x_callT (F := [(b0, blk [.pointer (some ⟨pb, o0 + i, none⟩)] 233)]) (A := (lb, blk [v0, .bool r] 169) :: (G0 ++ [(pb, blk Z.1 T)])) (R := fun v H => v = .tuple #[] ∧ ∃ va' Gl', LineB 5 r va' (passes r .byte [o0 + i] Z).2 Gl' ∧ H = (lb, blk [va', .bool r] 169) :: (Gl' ++ [(pb, blk (passes r .byte [o0 + i] Z).1 T)])) call_138 rfl (fun w hw => bytesL_fn r lb pb v0 G0 Z hV0 [o0 + i] (Nat.le_of_ble_eq_true rfl) hSz T (fun o ho => by rw [List.mem_singleton.1 ho]; exact hfz) _ _ _ w (St.lentV hw) (fun _ => ⟨b0, 0, rfl, row_own (b := b0) (List.mem_append_right _ (.head _)) w hw⟩) (fun p hp => y_bY))) rfl ?_
   rintro _ _ ⟨_, ⟨rfl, va0, G1, hV1, rfl⟩, rfl⟩
   refine ZBb ?_
   refine ZC2 ?_
   exact ⟨(i + 1, va0, G1), ⟨y_D, by rw [passes_offs, ← hZ]; exact hV1⟩, y_D, .cons rfl .nil, a_g, fun _ h => (h.sub (.cons _ (List.Sublist.refl _))).as (by rw [passes_offs, ← hZ])⟩
  ·refine ZBa ?_
   obtain rfl : i = nn := by omega
   exact EN (List.Sublist.refl _) ⟨rfl, _, G0, hV0, rfl⟩
set_option maxHeartbeats 1000000 in
theorem soundsL_fn (r : Bool) (lb mb : Nat) (va : Value) (G : Heap) (S : Ps) (hV : LineB 5 r va S.2 G) (hT : Thru r 86 S) (ms : List Nat) (w : World) (hst : St w ms ((lb, blk [va, .bool r] 169) :: (G ++ [(mb, blk S.1 137)])) w) : Does Tryz.prog 144 [.pointer (some ⟨mb, 0, none⟩), .pointer (some ⟨lb, 0, none⟩)] w ms (fun v H => v = .tuple #[] ∧ ∃ va' Gl', LineB 5 r va' (passB r S).2 Gl' ∧ H = (lb, blk [va', .bool r] 169) :: (Gl' ++ [(mb, blk (passB r S).1 137)])) := by
 refine does_of Tryz.func144 rfl rfl rfl hst ?_
 refine ZDU ?_
 refine ZAb ?_
 refine ZBl ?_
 refine RW (v := (.slice (some ⟨mb, 49, none⟩) 48 48)) (cut_array1 0 48 rfl rfl rfl rfl rfl rfl y_c y_c) rfl rfl ?_
 refine RX (x_callT (F := []) (A := (lb, blk [va, .bool r] 169) :: (G ++ [(mb, blk S.1 137)])) (R := (fun v H => v = .tuple #[] ∧ ∃ va' Gl', LineB 5 r va' (passes r .byte (offs 49 48) S).2 Gl' ∧ H = (lb, blk [va', .bool r] 169) :: (Gl' ++ [(mb, blk (passes r .byte (offs 49 48) S).1 137)]))) call_143 rfl (fun w hw => listL_fn r lb mb 49 48 y_c va G S hV (hT.ok.le (m := 48) o_m) 137 (hT.fit ty_regs) _ _ w (St.lentV (G := []) hw))) rfl ?_
 rintro _ _ ⟨_, ⟨rfl, va0, G0, hV0, rfl⟩, rfl⟩
 obtain ⟨Z16, hZ16⟩ : ∃ Z, Z = passes r .byte (offs 49 48) S := ⟨_, rfl⟩
 have hT16 : Thru r 38 Z16 := hZ16 ▸ (hT.le (m := 48 * 1 + 38) o_m).pass (k := .byte) (os := offs 49 48) (n := 38) trivial ty_regs
 rw [← hZ16] at hV0
 refine l_heap (fun w hw => hw.as (by rw [← hZ16]; rfl)) (H' := (lb, blk [va0, .bool r] 169) :: (G0 ++ [(mb, blk Z16.1 137)])) ?_
 refine ZAb ?_
 refine ZA0 ?_
 refine DR [] (pln [0, 2, 4, 6, 8, 10, 12, 15, 17]) ?_
 refine D_7 ?_
 refine DX rfl (x_slc (z := [.pointer none]) (l := [.pointer (some ⟨mb, 97, none⟩), .pointer (some ⟨mb, 118, none⟩)]) (ps := [(0, .pointer (some ⟨mb, 97, none⟩)), (1, .pointer (some ⟨mb, 118, none⟩))]) rfl rfl rfl rfl y_g y_g) rfl n_h ?_
 refine ZC8 fun b0 => ?_
 refine DX rfl (x_callT (F := [(b0, _)]) (A := (lb, blk [va0, .bool r] 169) :: (G0 ++ [(mb, blk Z16.1 137)])) (R := (fun v H => v = .tuple #[] ∧ ∃ va' Gl', LineB 5 r va' (passes r .bool [97, 118] Z16).2 Gl' ∧ H = (lb, blk [va', .bool r] 169) :: (Gl' ++ [(mb, blk (passes r .bool [97, 118] Z16).1 137)]))) call_140 rfl (fun w hw => boolsL_fn r lb mb va0 G0 Z16 hV0 [97, 118] (Nat.le_of_ble_eq_true rfl) (hT16.ok.le (m := 2) o_m) 137 (hT16.fit (show ∀ o ∈ [97, 118], tyM o = some .bool by decide)) _ _ _ w (St.lentV hw) (fun _ => ⟨b0, 0, rfl, row_own (b := b0) (List.mem_append_right _ (.head _)) w hw⟩) (fun p hp => y_bY))) rfl n_h ?_
 rintro _ _ ⟨_, ⟨rfl, va1, G1, hV1, rfl⟩, rfl⟩
 obtain ⟨Z25, hZ25⟩ : ∃ Z, Z = passes r .bool [97, 118] Z16 := ⟨_, rfl⟩
 have hT25 : Thru r 36 Z25 := hZ25 ▸ (hT16.le (m := 2 + 36) o_m).pass (k := .bool) (os := [97, 118]) (n := 36) trivial (show ∀ o ∈ [97, 118], tyM o = some .bool by decide)
 rw [← hZ25] at hV1
 refine d_heap (fun w hw => (hw.sub (.cons _ (List.Sublist.refl _))).as (by rw [← hZ25]; rfl)) (H' := (lb, blk [va1, .bool r] 169) :: (G1 ++ [(mb, blk Z25.1 137)])) ?_
 refine ZEb ?_
 refine ZA0 ?_
 refine DR [] (pln [0, 2, 4, 6, 8, 10, 12, 14, 16, 18, 20, 22, 24, 27, 29]) ?_
 refine D_13 ?_
 refine DX rfl (x_slc (z := [.pointer none]) (l := [.pointer (some ⟨mb, 98, none⟩), .pointer (some ⟨mb, 99, none⟩), .pointer (some ⟨mb, 116, none⟩), .pointer (some ⟨mb, 117, none⟩)]) (ps := [(0, .pointer (some ⟨mb, 98, none⟩)), (1, .pointer (some ⟨mb, 99, none⟩)), (2, .pointer (some ⟨mb, 116, none⟩)), (3, .pointer (some ⟨mb, 117, none⟩))]) rfl rfl rfl rfl y_g y_g) rfl n_h ?_
 rintro _ _ ⟨b1, rfl, rfl⟩
 refine DX rfl (x_callT (F := [(b1, _)]) (A := (lb, blk [va1, .bool r] 169) :: (G1 ++ [(mb, blk Z25.1 137)])) (R := (fun v H => v = .tuple #[] ∧ ∃ va' Gl', LineB 5 r va' (passes r (.int 2) [98, 99, 116, 117] Z25).2 Gl' ∧ H = (lb, blk [va', .bool r] 169) :: (Gl' ++ [(mb, blk (passes r (.int 2) [98, 99, 116, 117] Z25).1 137)]))) call_142 rfl (fun w hw => intsL_fn r lb mb 2 y_c y_c va1 G1 Z25 hV1 [98, 99, 116, 117] (Nat.le_of_ble_eq_true rfl) (hT25.ok.le (m := 8) o_m) 137 (hT25.fit (show ∀ o ∈ [98, 99, 116, 117], tyM o = some (.int 2) by decide)) _ _ _ w (St.lentV hw) (fun _ => ⟨b1, 0, rfl, row_own (b := b1) (List.mem_append_right _ (.head _)) w hw⟩) (fun p hp => y_bY))) rfl n_h ?_
 rintro _ _ ⟨_, ⟨rfl, va2, G2, hV2, rfl⟩, rfl⟩
 obtain ⟨Z40, hZ40⟩ : ∃ Z, Z = passes r (.int 2) [98, 99, 116, 117] Z25 := ⟨_, rfl⟩
 have hT40 : Thru r 28 Z40 := hZ40 ▸ (hT25.le (m := 8 + 28) o_m).pass (k := (.int 2)) (os := [98, 99, 116, 117]) (n := 28) (show 2 ≤ 4 by decide) (show ∀ o ∈ [98, 99, 116, 117], tyM o = some (.int 2) by decide)
 rw [← hZ40] at hV2
 refine d_heap (fun w hw => (hw.sub (.cons _ (List.Sublist.refl _))).as (by rw [← hZ40]; rfl)) (H' := (lb, blk [va2, .bool r] 169) :: (G2 ++ [(mb, blk Z40.1 137)])) ?_
 refine ZEb ?_
 refine ZAa ?_
 refine c_block ?_
 refine c_loop (σ := Nat × Value × Heap) [5, 6, 41, 42, 43, 44, 45, 46, 47, 48, 49, 50, 51, 52, 53, 54, 55, 56, 57, 58, 59, 60, 61, 62, 63, 64, 65, 66, 67] (fun s => [(41, .int .i64 s.1)]) (fun s => (lb, blk [s.2.1, .bool r] 169) :: (s.2.2 ++ [(mb, blk (passV r Z40 s.1).1 137)])) (fun s => s.1 ≤ 4 ∧ LineB 5 r s.2.1 (passV r Z40 s.1).2 s.2.2) (fun s => 4 - s.1) (0, va2, G2) ?_ ?_ ?_ ?_
 ·exact ⟨Nat.zero_le _, hV2⟩
 ·exact .cons rfl .nil
 ·exact fun _ h => h
 ·rintro ⟨i, va3, G3⟩ y5 ⟨hi, hV3⟩
  dsimp only at hi hV3 ⊢
  refine ZCI ?_
  refine KC (fun q0 q0n => ?_) (fun q0 q0n => ?_)
  ·refine ZDp ?_
   have hi4 : i < 4 := by omega
   obtain ⟨Z5, hZ5⟩ : ∃ Z, Z = passV r Z40 i := ⟨_, rfl⟩
   have hT5 : Thru r (7 * (4 - i)) Z5 := hZ5 ▸ (hT40.voices (n := 0) i o_m)
   rw [← hZ5] at hV3 ⊢
   refine ZCB ?_
   refine ZBl ?_
   refine RW (v := (.pointer (some ⟨mb, 100 + 4 * i, none⟩))) (idx_array (s := 4) i rfl rfl rfl rfl o_m) rfl (congrArg (fun z : Nat => Value.pointer (some ⟨mb, z, none⟩)) o_m) ?_
   refine ZAB ?_
   refine ZAA ?_
   refine ZBQ ?_
   refine RW (v := (.pointer (some ⟨mb, 100 + 4 * i, none⟩))) (light_fa rfl rfl) rfl (congrArg (fun z : Nat => Value.pointer (some ⟨mb, z, none⟩)) o_m) ?_
   refine RX (x_slc (z := [.pointer none]) (l := [.pointer (some ⟨mb, 100 + 4 * i, none⟩)]) (ps := [(0, .pointer (some ⟨mb, 100 + 4 * i, none⟩))]) rfl rfl rfl rfl y_g y_g) rfl ?_
   rintro _ _ ⟨b2, rfl, rfl⟩
   refine RX (x_callT (F := [(b2, _)]) (A := (lb, blk [va3, .bool r] 169) :: (G3 ++ [(mb, blk Z5.1 137)])) (R := (fun v H => v = .tuple #[] ∧ ∃ va' Gl', LineB 5 r va' (passes r .bool [100 + 4 * i] Z5).2 Gl' ∧ H = (lb, blk [va', .bool r] 169) :: (Gl' ++ [(mb, blk (passes r .bool [100 + 4 * i] Z5).1 137)]))) call_140 rfl (fun w hw => boolsL_fn r lb mb va3 G3 Z5 hV3 [100 + 4 * i] (Nat.le_of_ble_eq_true rfl) (hT5.ok.le (m := 1) o_m) 137 (hT5.fit (ty_v0 hi4)) _ _ _ w (St.lentV hw) (fun _ => ⟨b2, 0, rfl, row_own (b := b2) (List.mem_append_right _ (.head _)) w hw⟩) (fun p hp => y_bY))) rfl ?_
   rintro _ _ ⟨_, ⟨rfl, va4, G4, hV4, rfl⟩, rfl⟩
   obtain ⟨Z54, hZ54⟩ : ∃ Z, Z = passes r .bool [100 + 4 * i] Z5 := ⟨_, rfl⟩
   have hT54 : Thru r (7 * (4 - i) - 1) Z54 := hZ54 ▸ (hT5.le (m := 1 + (7 * (4 - i) - 1)) o_m).pass (k := .bool) (os := [100 + 4 * i]) (n := (7 * (4 - i) - 1)) trivial (ty_v0 hi4)
   rw [← hZ54] at hV4
   refine l_heap (fun w hw => (hw.sub (.cons _ (List.Sublist.refl _))).as (by rw [← hZ54]; rfl)) (H' := (lb, blk [va4, .bool r] 169) :: (G4 ++ [(mb, blk Z54.1 137)])) ?_
   refine ZAb ?_
   refine DR [] (pln [0, 2, 4, 6, 8, 10, 12, 14, 16, 18, 21, 23]) ?_
   iterate 3 refine RD ?_
   refine DW (v := (.pointer (some ⟨mb, 101 + 4 * i, none⟩))) rfl (light_fa rfl rfl) rfl (congrArg (fun z : Nat => Value.pointer (some ⟨mb, z, none⟩)) o_m) ?_
   refine D_2 ?_
   refine DW (v := (.pointer (some ⟨mb, 102 + 4 * i, none⟩))) rfl (light_fa rfl rfl) rfl (congrArg (fun z : Nat => Value.pointer (some ⟨mb, z, none⟩)) o_m) ?_
   refine D_2 ?_
   refine DW (v := (.pointer (some ⟨mb, 103 + 4 * i, none⟩))) rfl (light_fa rfl rfl) rfl (congrArg (fun z : Nat => Value.pointer (some ⟨mb, z, none⟩)) o_m) ?_
   refine DX rfl (x_slc (z := [.pointer none]) (l := [.pointer (some ⟨mb, 101 + 4 * i, none⟩), .pointer (some ⟨mb, 102 + 4 * i, none⟩), .pointer (some ⟨mb, 103 + 4 * i, none⟩)]) (ps := [(0, .pointer (some ⟨mb, 101 + 4 * i, none⟩)), (1, .pointer (some ⟨mb, 102 + 4 * i, none⟩)), (2, .pointer (some ⟨mb, 103 + 4 * i, none⟩))]) rfl rfl rfl rfl y_g y_g) rfl n_h ?_
   rintro _ _ ⟨b3, rfl, rfl⟩
   refine DX rfl (x_callT (F := [(b3, _)]) (A := (lb, blk [va4, .bool r] 169) :: (G4 ++ [(mb, blk Z54.1 137)])) (R := (fun v H => v = .tuple #[] ∧ ∃ va' Gl', LineB 5 r va' (passes r (.int 2) [101 + 4 * i, 102 + 4 * i, 103 + 4 * i] Z54).2 Gl' ∧ H = (lb, blk [va', .bool r] 169) :: (Gl' ++ [(mb, blk (passes r (.int 2) [101 + 4 * i, 102 + 4 * i, 103 + 4 * i] Z54).1 137)]))) call_142 rfl (fun w hw => intsL_fn r lb mb 2 y_c y_c va4 G4 Z54 hV4 [101 + 4 * i, 102 + 4 * i, 103 + 4 * i] (Nat.le_of_ble_eq_true rfl) (hT54.ok.le (m := 6) o_m) 137 (hT54.fit (ty_v1 hi4)) _ _ _ w (St.lentV hw) (fun _ => ⟨b3, 0, rfl, row_own (b := b3) (List.mem_append_right _ (.head _)) w hw⟩) (fun p hp => y_bY))) rfl n_h ?_
   rintro _ _ ⟨_, ⟨rfl, va5, G5, hV5, rfl⟩, rfl⟩
   obtain ⟨Z66, hZ66⟩ : ∃ Z, Z = passes r (.int 2) [101 + 4 * i, 102 + 4 * i, 103 + 4 * i] Z54 := ⟨_, rfl⟩
   have hT66 : Thru r (7 * (4 - (i + 1))) Z66 := hZ66 ▸ (hT54.le (m := 6 + (7 * (4 - (i + 1)))) o_m).pass (k := (.int 2)) (os := [101 + 4 * i, 102 + 4 * i, 103 + 4 * i]) (n := (7 * (4 - (i + 1)))) (show 2 ≤ 4 by decide) (ty_v1 hi4)
   rw [← hZ66] at hV5
   refine d_heap (fun w hw => (hw.sub (.cons _ (List.Sublist.refl _))).as (by rw [← hZ66]; rfl)) (H' := (lb, blk [va5, .bool r] 169) :: (G5 ++ [(mb, blk Z66.1 137)])) ?_
   refine ZEb ?_
   refine ZC2 ?_
   exact ⟨(i + 1, va5, G5), ⟨y_D, by show LineB _ r va5 (passes r (.int 2) _ (passes r .bool _ (passV r Z40 i))).2 G5; rw [← hZ5, ← hZ54, ← hZ66]; exact hV5⟩, y_D, .cons rfl .nil, a_g, fun _ h => h.as (by show _ = (lb, _) :: (G5 ++ [(mb, blk (passes r (.int 2) _ (passes r .bool _ (passV r Z40 i))).1 _)]); rw [← hZ5, ← hZ54, ← hZ66])⟩
  ·refine ZBa ?_
   obtain rfl : i = 4 := by omega
   exact EN (List.Sublist.refl _) ⟨rfl, _, G3, by unfold passB; rw [← hZ16, ← hZ25, ← hZ40]; exact hV3, by unfold passB; rw [← hZ16, ← hZ25, ← hZ40]⟩
set_option maxHeartbeats 4000000 in
theorem throughL_fn (r : Bool) (lb mb rb nn rc : Nat) (hnn : nn ≤ 200000) (va : Value) (G : Heap) (S : Ps) (hV : LineB 5 r va S.2 G) (hT : Thru r (8482 + nn) S) (RL : List Value) (hR : ∀ o ∈ offs 0 nn, Fit .byte RL o) (hrv : S.1[134]? = some (.slice (some ⟨rb, 0, none⟩) nn rc)) (ms : List Nat) (w : World) (hst : St w ms ((lb, blk [va, .bool r] 169) :: ((G ++ [(mb, blk S.1 137)]) ++ [(rb, blk RL 5)])) w) : Does Tryz.prog 78 [.pointer (some ⟨mb, 0, none⟩), .pointer (some ⟨lb, 0, none⟩)] w ms (fun v H => v = .tuple #[] ∧ ∃ va' Gl', LineB 5 r va' (passes r .byte (offs 0 nn) (RL, (passM r S).2)).2 Gl' ∧ H = (lb, blk [va', .bool r] 169) :: ((Gl' ++ [(mb, blk (passM r S).1 137)]) ++ [(rb, blk (passes r .byte (offs 0 nn) (RL, (passM r S).2)).1 5)])) := by
 refine does_of Tryz.func78 rfl rfl rfl hst ?_
 refine ZA0 ?_
 refine DR [] (pln [0, 2, 4, 6, 8, 10, 12, 14, 16, 18, 20, 22, 24, 26, 28, 30, 32, 34, 36, 38, 40]) ?_
 refine D_21 ?_
 refine ZEb ?_
 refine ZA0 ?_
 refine DR [] (pln [0, 2, 4, 6, 8, 10, 12, 14, 16, 18, 20, 22, 24, 26, 28, 30, 32, 34, 36, 38, 40, 42, 44, 46, 48, 50, 52, 54, 56, 58, 60, 62, 64, 66, 68, 70, 72, 74, 76, 78, 80, 82, 84, 86, 88, 90, 92, 94, 96, 98, 100, 102, 104, 107, 109]) ?_
 refine D_53 ?_
 refine DX rfl (x_slc (z := [.pointer none]) (l := [.pointer (some ⟨mb, 0, none⟩), .pointer (some ⟨mb, 1, none⟩), .pointer (some ⟨mb, 2, none⟩), .pointer (some ⟨mb, 3, none⟩), .pointer (some ⟨mb, 4, none⟩), .pointer (some ⟨mb, 5, none⟩), .pointer (some ⟨mb, 6, none⟩), .pointer (some ⟨mb, 7, none⟩), .pointer (some ⟨mb, 119, none⟩), .pointer (some ⟨mb, 120, none⟩), .pointer (some ⟨mb, 21, none⟩), .pointer (some ⟨mb, 39, none⟩), .pointer (some ⟨mb, 40, none⟩), .pointer (some ⟨mb, 47, none⟩)]) (ps := [(0, .pointer (some ⟨mb, 0, none⟩)), (1, .pointer (some ⟨mb, 1, none⟩)), (2, .pointer (some ⟨mb, 2, none⟩)), (3, .pointer (some ⟨mb, 3, none⟩)), (4, .pointer (some ⟨mb, 4, none⟩)), (5, .pointer (some ⟨mb, 5, none⟩)), (6, .pointer (some ⟨mb, 6, none⟩)), (7, .pointer (some ⟨mb, 7, none⟩)), (8, .pointer (some ⟨mb, 119, none⟩)), (9, .pointer (some ⟨mb, 120, none⟩)), (10, .pointer (some ⟨mb, 21, none⟩)), (11, .pointer (some ⟨mb, 39, none⟩)), (12, .pointer (some ⟨mb, 40, none⟩)), (13, .pointer (some ⟨mb, 47, none⟩))]) rfl rfl rfl rfl y_g y_g) rfl n_h ?_
 refine ZC8 fun b0 => ?_
 refine DX rfl (x_callMA (F := [(b0, _)]) (A := (lb, blk [va, .bool r] 169) :: (G ++ [(mb, blk S.1 137)])) (G := [(rb, blk RL 5)]) (R := (fun v H => v = .tuple #[] ∧ ∃ va' Gl', LineB 5 r va' (passes r .byte gA S).2 Gl' ∧ H = (lb, blk [va', .bool r] 169) :: (Gl' ++ [(mb, blk (passes r .byte gA S).1 137)]))) call_138 rfl (fun w hw hw2 => bytesL_fn r lb mb va G S hV gA (Nat.le_of_ble_eq_true rfl) (hT.ok.le (m := 14) o_m) 137 (hT.fit ty_A) _ _ _ w hw (fun _ => ⟨b0, 0, rfl, row_own (b := b0) (List.mem_append_right _ (.head _)) w hw2⟩) (fun p hp => y_bl))) rfl n_h ?_
 rintro _ _ ⟨_, ⟨rfl, va0, G0, hV0, rfl⟩, rfl⟩
 obtain ⟨Z79, hZ79⟩ : ∃ Z, Z = passes r .byte gA S := ⟨_, rfl⟩
 have hT79 : Thru r (8468 + nn) Z79 := hZ79 ▸ (hT.le (m := 14 + (8468 + nn)) o_m).pass (k := .byte) (os := gA) (n := (8468 + nn)) trivial ty_A
 rw [← hZ79] at hV0
 refine d_heap (fun w hw => (hw.sub (.cons _ (List.Sublist.refl _))).as (by rw [← hZ79]; rfl)) (H' := (lb, blk [va0, .bool r] 169) :: ((G0 ++ [(mb, blk Z79.1 137)]) ++ [(rb, blk RL 5)])) ?_
 refine ZEb ?_
 refine ZA0 ?_
 refine DR [] (pln [0, 2, 4, 6, 8, 10, 12, 14, 16, 18, 21, 23]) ?_
 refine D_10 ?_
 refine DX rfl (x_slc (z := [.pointer none]) (l := [.pointer (some ⟨mb, 8, none⟩), .pointer (some ⟨mb, 9, none⟩), .pointer (some ⟨mb, 34, none⟩)]) (ps := [(0, .pointer (some ⟨mb, 8, none⟩)), (1, .pointer (some ⟨mb, 9, none⟩)), (2, .pointer (some ⟨mb, 34, none⟩))]) rfl rfl rfl rfl y_g y_g) rfl n_h ?_
 rintro _ _ ⟨b1, rfl, rfl⟩
 refine DX rfl (x_callMA (F := [(b1, _)]) (A := (lb, blk [va0, .bool r] 169) :: (G0 ++ [(mb, blk Z79.1 137)])) (G := [(rb, blk RL 5)]) (R := (fun v H => v = .tuple #[] ∧ ∃ va' Gl', LineB 5 r va' (passes r .word gW Z79).2 Gl' ∧ H = (lb, blk [va', .bool r] 169) :: (Gl' ++ [(mb, blk (passes r .word gW Z79).1 137)]))) call_139 rfl (fun w hw hw2 => wordsL_fn r lb mb va0 G0 Z79 hV0 gW (Nat.le_of_ble_eq_true rfl) (hT79.ok.le (m := 6) o_m) 137 (hT79.fit ty_W) _ _ _ w hw (fun _ => ⟨b1, 0, rfl, row_own (b := b1) (List.mem_append_right _ (.head _)) w hw2⟩) (fun p hp => y_bl))) rfl n_h ?_
 rintro _ _ ⟨_, ⟨rfl, va1, G1, hV1, rfl⟩, rfl⟩
 obtain ⟨Z91, hZ91⟩ : ∃ Z, Z = passes r .word gW Z79 := ⟨_, rfl⟩
 have hT91 : Thru r (8462 + nn) Z91 := hZ91 ▸ (hT79.le (m := 6 + (8462 + nn)) o_m).pass (k := .word) (os := gW) (n := (8462 + nn)) trivial ty_W
 rw [← hZ91] at hV1
 refine d_heap (fun w hw => (hw.sub (.cons _ (List.Sublist.refl _))).as (by rw [← hZ91]; rfl)) (H' := (lb, blk [va1, .bool r] 169) :: ((G1 ++ [(mb, blk Z91.1 137)]) ++ [(rb, blk RL 5)])) ?_
 refine ZEb ?_
 refine ZA0 ?_
 refine DR [] (pln [0, 2, 4, 6, 8, 10, 12, 14, 16, 18, 20, 22, 24, 26, 28, 30, 32, 34, 36, 38, 40, 42, 44, 46, 48, 50, 52, 54, 56, 58, 60, 62, 64, 66, 68, 70, 72, 74, 76, 78, 81, 83]) ?_
 refine D_40 ?_
 refine DX rfl (x_slc (z := [.pointer none]) (l := [.pointer (some ⟨mb, 10, none⟩), .pointer (some ⟨mb, 11, none⟩), .pointer (some ⟨mb, 12, none⟩), .pointer (some ⟨mb, 13, none⟩), .pointer (some ⟨mb, 17, none⟩), .pointer (some ⟨mb, 18, none⟩), .pointer (some ⟨mb, 38, none⟩), .pointer (some ⟨mb, 27, none⟩), .pointer (some ⟨mb, 28, none⟩)]) (ps := [(0, .pointer (some ⟨mb, 10, none⟩)), (1, .pointer (some ⟨mb, 11, none⟩)), (2, .pointer (some ⟨mb, 12, none⟩)), (3, .pointer (some ⟨mb, 13, none⟩)), (4, .pointer (some ⟨mb, 17, none⟩)), (5, .pointer (some ⟨mb, 18, none⟩)), (6, .pointer (some ⟨mb, 38, none⟩)), (7, .pointer (some ⟨mb, 27, none⟩)), (8, .pointer (some ⟨mb, 28, none⟩))]) rfl rfl rfl rfl y_g y_g) rfl n_h ?_
 rintro _ _ ⟨b2, rfl, rfl⟩
 refine DX rfl (x_callMA (F := [(b2, _)]) (A := (lb, blk [va1, .bool r] 169) :: (G1 ++ [(mb, blk Z91.1 137)])) (G := [(rb, blk RL 5)]) (R := (fun v H => v = .tuple #[] ∧ ∃ va' Gl', LineB 5 r va' (passes r .bool gB Z91).2 Gl' ∧ H = (lb, blk [va', .bool r] 169) :: (Gl' ++ [(mb, blk (passes r .bool gB Z91).1 137)]))) call_140 rfl (fun w hw hw2 => boolsL_fn r lb mb va1 G1 Z91 hV1 gB (Nat.le_of_ble_eq_true rfl) (hT91.ok.le (m := 9) o_m) 137 (hT91.fit ty_B) _ _ _ w hw (fun _ => ⟨b2, 0, rfl, row_own (b := b2) (List.mem_append_right _ (.head _)) w hw2⟩) (fun p hp => y_bl))) rfl n_h ?_
 rintro _ _ ⟨_, ⟨rfl, va2, G2, hV2, rfl⟩, rfl⟩
 obtain ⟨Z133, hZ133⟩ : ∃ Z, Z = passes r .bool gB Z91 := ⟨_, rfl⟩
 have hT133 : Thru r (8453 + nn) Z133 := hZ133 ▸ (hT91.le (m := 9 + (8453 + nn)) o_m).pass (k := .bool) (os := gB) (n := (8453 + nn)) trivial ty_B
 rw [← hZ133] at hV2
 refine d_heap (fun w hw => (hw.sub (.cons _ (List.Sublist.refl _))).as (by rw [← hZ133]; rfl)) (H' := (lb, blk [va2, .bool r] 169) :: ((G2 ++ [(mb, blk Z133.1 137)]) ++ [(rb, blk RL 5)])) ?_
 refine ZEb ?_
 refine ZDU ?_
 refine l_heap (fun w hw => hw.perm (List.Perm.append_right [(rb, blk RL 5)] (List.perm_append_comm (l₁ := (lb, blk [va2, .bool r] 169) :: G2) (l₂ := [_])))) (H' := ((mb, blk Z133.1 137) :: (lb, blk [va2, .bool r] 169) :: G2) ++ [(rb, blk RL 5)]) ?_
 refine RX (x_callF (A := (mb, blk Z133.1 137) :: (lb, blk [va2, .bool r] 169) :: G2) (G := [(rb, blk RL 5)]) (R := (fun v H => v = .tuple #[] ∧ ∃ va' Gl', LineB 5 r va' (pass1 r (.long 8) Z133 121).2 Gl' ∧ H = (mb, blk (pass1 r (.long 8) Z133 121).1 137) :: (lb, blk [va', .bool r] 169) :: Gl')) (((mb, blk Z133.1 137) :: (lb, blk [va2, .bool r] 169) :: G2).map (·.1)) call_141 rfl (fun _ hb => mem_fst hb) (fun w hw => numberL_fn r lb mb 121 8 y_c va2 Z133.2 G2 hV2 Z133.1 (hT133.ok.le (m := 8) o_m) 137 (hT133.ty 121 _ y_c) _ w (St.lentV hw))) rfl ?_
 rintro _ _ ⟨_, ⟨rfl, va3, G3, hV3, rfl⟩, rfl⟩
 obtain ⟨Z139, hZ139⟩ : ∃ Z, Z = pass1 r (.long 8) Z133 121 := ⟨_, rfl⟩
 have hT139 : Thru r (8445 + nn) Z139 := hZ139 ▸ (hT133.le (m := 8 + (8445 + nn)) o_m).one (k := .long 8) (n := (8445 + nn)) (show 8 ≤ 8 by decide) y_c
 rw [← hZ139] at hV3
 refine l_heap (fun w hw => (hw.perm (List.Perm.append_right [(rb, blk RL 5)] (List.perm_append_comm (l₁ := [_]) (l₂ := (lb, blk [va3, .bool r] 169) :: G3)))).as (by rw [← hZ139]; rfl)) (H' := (lb, blk [va3, .bool r] 169) :: ((G3 ++ [(mb, blk Z139.1 137)]) ++ [(rb, blk RL 5)])) ?_
 refine ZAb ?_
 refine ZDU ?_
 refine l_heap (fun w hw => hw.perm (List.Perm.append_right [(rb, blk RL 5)] (List.perm_append_comm (l₁ := (lb, blk [va3, .bool r] 169) :: G3) (l₂ := [_])))) (H' := ((mb, blk Z139.1 137) :: (lb, blk [va3, .bool r] 169) :: G3) ++ [(rb, blk RL 5)]) ?_
 refine RX (x_callF (A := (mb, blk Z139.1 137) :: (lb, blk [va3, .bool r] 169) :: G3) (G := [(rb, blk RL 5)]) (R := (fun v H => v = .tuple #[] ∧ ∃ va' Gl', LineB 5 r va' (pass1 r (.long 8) Z139 122).2 Gl' ∧ H = (mb, blk (pass1 r (.long 8) Z139 122).1 137) :: (lb, blk [va', .bool r] 169) :: Gl')) (((mb, blk Z139.1 137) :: (lb, blk [va3, .bool r] 169) :: G3).map (·.1)) call_141 rfl (fun _ hb => mem_fst hb) (fun w hw => numberL_fn r lb mb 122 8 y_c va3 Z139.2 G3 hV3 Z139.1 (hT139.ok.le (m := 8) o_m) 137 (hT139.ty 122 _ y_c) _ w (St.lentV hw))) rfl ?_
 rintro _ _ ⟨_, ⟨rfl, va4, G4, hV4, rfl⟩, rfl⟩
 obtain ⟨Z145, hZ145⟩ : ∃ Z, Z = pass1 r (.long 8) Z139 122 := ⟨_, rfl⟩
 have hT145 : Thru r (8437 + nn) Z145 := hZ145 ▸ (hT139.le (m := 8 + (8437 + nn)) o_m).one (k := .long 8) (n := (8437 + nn)) (show 8 ≤ 8 by decide) y_c
 rw [← hZ145] at hV4
 refine l_heap (fun w hw => (hw.perm (List.Perm.append_right [(rb, blk RL 5)] (List.perm_append_comm (l₁ := [_]) (l₂ := (lb, blk [va4, .bool r] 169) :: G4)))).as (by rw [← hZ145]; rfl)) (H' := (lb, blk [va4, .bool r] 169) :: ((G4 ++ [(mb, blk Z145.1 137)]) ++ [(rb, blk RL 5)])) ?_
 refine ZAb ?_
 refine ZA0 ?_
 refine DR [] (pln [0, 2, 4, 6, 8, 10, 12, 14, 16, 18, 20, 22, 24, 26, 28, 30, 32, 34, 36, 38, 40, 42, 44, 46, 48, 50, 52, 54, 57, 59]) ?_
 refine D_28 ?_
 refine DX rfl (x_slc (z := [.pointer none]) (l := [.pointer (some ⟨mb, 19, none⟩), .pointer (some ⟨mb, 20, none⟩), .pointer (some ⟨mb, 25, none⟩), .pointer (some ⟨mb, 44, none⟩), .pointer (some ⟨mb, 45, none⟩), .pointer (some ⟨mb, 46, none⟩), .pointer (some ⟨mb, 48, none⟩)]) (ps := [(0, .pointer (some ⟨mb, 19, none⟩)), (1, .pointer (some ⟨mb, 20, none⟩)), (2, .pointer (some ⟨mb, 25, none⟩)), (3, .pointer (some ⟨mb, 44, none⟩)), (4, .pointer (some ⟨mb, 45, none⟩)), (5, .pointer (some ⟨mb, 46, none⟩)), (6, .pointer (some ⟨mb, 48, none⟩))]) rfl rfl rfl rfl y_g y_g) rfl n_h ?_
 rintro _ _ ⟨b3, rfl, rfl⟩
 refine DX rfl (x_callMA (F := [(b3, _)]) (A := (lb, blk [va4, .bool r] 169) :: (G4 ++ [(mb, blk Z145.1 137)])) (G := [(rb, blk RL 5)]) (R := (fun v H => v = .tuple #[] ∧ ∃ va' Gl', LineB 5 r va' (passes r (.int 2) gI Z145).2 Gl' ∧ H = (lb, blk [va', .bool r] 169) :: (Gl' ++ [(mb, blk (passes r (.int 2) gI Z145).1 137)]))) call_142 rfl (fun w hw hw2 => intsL_fn r lb mb 2 y_c y_c va4 G4 Z145 hV4 gI (Nat.le_of_ble_eq_true rfl) (hT145.ok.le (m := 14) o_m) 137 (hT145.fit ty_I) _ _ _ w hw (fun _ => ⟨b3, 0, rfl, row_own (b := b3) (List.mem_append_right _ (.head _)) w hw2⟩) (fun p hp => y_bl))) rfl n_h ?_
 rintro _ _ ⟨_, ⟨rfl, va5, G5, hV5, rfl⟩, rfl⟩
 obtain ⟨Z175, hZ175⟩ : ∃ Z, Z = passes r (.int 2) gI Z145 := ⟨_, rfl⟩
 have hT175 : Thru r (8423 + nn) Z175 := hZ175 ▸ (hT145.le (m := 14 + (8423 + nn)) o_m).pass (k := (.int 2)) (os := gI) (n := (8423 + nn)) (show 2 ≤ 4 by decide) ty_I
 rw [← hZ175] at hV5
 refine d_heap (fun w hw => (hw.sub (.cons _ (List.Sublist.refl _))).as (by rw [← hZ175]; rfl)) (H' := (lb, blk [va5, .bool r] 169) :: ((G5 ++ [(mb, blk Z175.1 137)]) ++ [(rb, blk RL 5)])) ?_
 refine ZEb ?_
 refine ZBl ?_
 refine RX (x_slc (z := [.pointer none]) (l := [.pointer (some ⟨mb, 26, none⟩)]) (ps := [(0, .pointer (some ⟨mb, 26, none⟩))]) rfl rfl rfl rfl y_g y_g) rfl ?_
 rintro _ _ ⟨b4, rfl, rfl⟩
 refine RX (x_callMA (F := [(b4, _)]) (A := (lb, blk [va5, .bool r] 169) :: (G5 ++ [(mb, blk Z175.1 137)])) (G := [(rb, blk RL 5)]) (R := (fun v H => v = .tuple #[] ∧ ∃ va' Gl', LineB 5 r va' (passes r (.int 4) [26] Z175).2 Gl' ∧ H = (lb, blk [va', .bool r] 169) :: (Gl' ++ [(mb, blk (passes r (.int 4) [26] Z175).1 137)]))) call_142 rfl (fun w hw hw2 => intsL_fn r lb mb 4 y_c y_c va5 G5 Z175 hV5 [26] (Nat.le_of_ble_eq_true rfl) (hT175.ok.le (m := 4) o_m) 137 (hT175.fit (show ∀ o ∈ [26], tyM o = some (.int 4) by decide)) _ _ _ w hw (fun _ => ⟨b4, 0, rfl, row_own (b := b4) (List.mem_append_right _ (.head _)) w hw2⟩) (fun p hp => y_bl))) rfl ?_
 rintro _ _ ⟨_, ⟨rfl, va6, G6, hV6, rfl⟩, rfl⟩
 obtain ⟨Z181, hZ181⟩ : ∃ Z, Z = passes r (.int 4) [26] Z175 := ⟨_, rfl⟩
 have hT181 : Thru r (8419 + nn) Z181 := hZ181 ▸ (hT175.le (m := 4 + (8419 + nn)) o_m).pass (k := (.int 4)) (os := [26]) (n := (8419 + nn)) (show 4 ≤ 4 by decide) (show ∀ o ∈ [26], tyM o = some (.int 4) by decide)
 rw [← hZ181] at hV6
 refine l_heap (fun w hw => (hw.sub (.cons _ (List.Sublist.refl _))).as (by rw [← hZ181]; rfl)) (H' := (lb, blk [va6, .bool r] 169) :: ((G6 ++ [(mb, blk Z181.1 137)]) ++ [(rb, blk RL 5)])) ?_
 refine ZAb ?_
 refine ZA0 ?_
 refine DR [] (pln [0, 2, 4, 6, 8, 10, 12, 14, 16, 18, 20, 22, 24, 26, 28, 30, 32, 34, 36, 38, 40, 42, 44, 46, 48, 50, 52, 54, 57, 59]) ?_
 refine D_28 ?_
 refine DX rfl (x_slc (z := [.pointer none]) (l := [.pointer (some ⟨mb, 22, none⟩), .pointer (some ⟨mb, 23, none⟩), .pointer (some ⟨mb, 24, none⟩), .pointer (some ⟨mb, 35, none⟩), .pointer (some ⟨mb, 36, none⟩), .pointer (some ⟨mb, 37, none⟩), .pointer (some ⟨mb, 41, none⟩), .pointer (some ⟨mb, 42, none⟩), .pointer (some ⟨mb, 43, none⟩)]) (ps := [(0, .pointer (some ⟨mb, 22, none⟩)), (1, .pointer (some ⟨mb, 23, none⟩)), (2, .pointer (some ⟨mb, 24, none⟩)), (3, .pointer (some ⟨mb, 35, none⟩)), (4, .pointer (some ⟨mb, 36, none⟩)), (5, .pointer (some ⟨mb, 37, none⟩)), (6, .pointer (some ⟨mb, 41, none⟩)), (7, .pointer (some ⟨mb, 42, none⟩)), (8, .pointer (some ⟨mb, 43, none⟩))]) rfl rfl rfl rfl y_g y_g) rfl n_h ?_
 rintro _ _ ⟨b5, rfl, rfl⟩
 refine DX rfl (x_callMA (F := [(b5, _)]) (A := (lb, blk [va6, .bool r] 169) :: (G6 ++ [(mb, blk Z181.1 137)])) (G := [(rb, blk RL 5)]) (R := (fun v H => v = .tuple #[] ∧ ∃ va' Gl', LineB 5 r va' (passes r .byte gC Z181).2 Gl' ∧ H = (lb, blk [va', .bool r] 169) :: (Gl' ++ [(mb, blk (passes r .byte gC Z181).1 137)]))) call_138 rfl (fun w hw hw2 => bytesL_fn r lb mb va6 G6 Z181 hV6 gC (Nat.le_of_ble_eq_true rfl) (hT181.ok.le (m := 9) o_m) 137 (hT181.fit ty_C) _ _ _ w hw (fun _ => ⟨b5, 0, rfl, row_own (b := b5) (List.mem_append_right _ (.head _)) w hw2⟩) (fun p hp => y_bl))) rfl n_h ?_
 rintro _ _ ⟨_, ⟨rfl, va7, G7, hV7, rfl⟩, rfl⟩
 obtain ⟨Z211, hZ211⟩ : ∃ Z, Z = passes r .byte gC Z181 := ⟨_, rfl⟩
 have hT211 : Thru r (8410 + nn) Z211 := hZ211 ▸ (hT181.le (m := 9 + (8410 + nn)) o_m).pass (k := .byte) (os := gC) (n := (8410 + nn)) trivial ty_C
 rw [← hZ211] at hV7
 refine d_heap (fun w hw => (hw.sub (.cons _ (List.Sublist.refl _))).as (by rw [← hZ211]; rfl)) (H' := (lb, blk [va7, .bool r] 169) :: ((G7 ++ [(mb, blk Z211.1 137)]) ++ [(rb, blk RL 5)])) ?_
 refine ZEb ?_
 refine ZBl ?_
 refine RW (v := (.slice (some ⟨mb, 29, none⟩) 5 5)) (cut_array1 0 5 rfl rfl rfl rfl rfl rfl y_c y_c) rfl rfl ?_
 refine RX (x_callF (A := (lb, blk [va7, .bool r] 169) :: (G7 ++ [(mb, blk Z211.1 137)])) (G := [(rb, blk RL 5)]) (R := (fun v H => v = .tuple #[] ∧ ∃ va' Gl', LineB 5 r va' (passes r .byte (offs 29 5) Z211).2 Gl' ∧ H = (lb, blk [va', .bool r] 169) :: (Gl' ++ [(mb, blk (passes r .byte (offs 29 5) Z211).1 137)]))) (((lb, blk [va7, .bool r] 169) :: (G7 ++ [(mb, blk Z211.1 137)])).map (·.1)) call_143 rfl (fun _ hb => mem_fst hb) (fun w hw => listL_fn r lb mb 29 5 y_c va7 G7 Z211 hV7 (hT211.ok.le (m := 5) o_m) 137 (hT211.fit ty_held) _ _ w (St.lentV hw))) rfl ?_
 rintro _ _ ⟨_, ⟨rfl, va8, G8, hV8, rfl⟩, rfl⟩
 obtain ⟨Z217, hZ217⟩ : ∃ Z, Z = passes r .byte (offs 29 5) Z211 := ⟨_, rfl⟩
 have hT217 : Thru r (8405 + nn) Z217 := hZ217 ▸ (hT211.le (m := 5 * 1 + (8405 + nn)) o_m).pass (k := .byte) (os := offs 29 5) (n := (8405 + nn)) trivial ty_held
 rw [← hZ217] at hV8
 refine l_heap (fun w hw => hw.as (by rw [← hZ217]; rfl)) (H' := (lb, blk [va8, .bool r] 169) :: ((G8 ++ [(mb, blk Z217.1 137)]) ++ [(rb, blk RL 5)])) ?_
 refine ZAb ?_
 refine ZAU ?_
 refine RX (x_callF (A := (lb, blk [va8, .bool r] 169) :: (G8 ++ [(mb, blk Z217.1 137)])) (G := [(rb, blk RL 5)]) (R := (fun v H => v = .tuple #[] ∧ ∃ va' Gl', LineB 5 r va' (passB r Z217).2 Gl' ∧ H = (lb, blk [va', .bool r] 169) :: (Gl' ++ [(mb, blk (passB r Z217).1 137)]))) (((lb, blk [va8, .bool r] 169) :: (G8 ++ [(mb, blk Z217.1 137)])).map (·.1)) call_144 rfl (fun _ hb => mem_fst hb) (fun w hw => soundsL_fn r lb mb va8 G8 Z217 hV8 (hT217.le (m := 86) o_m) _ w (St.lentV hw))) rfl ?_
 rintro _ _ ⟨_, ⟨rfl, va9, G9, hV9, rfl⟩, rfl⟩
 obtain ⟨Z220, hZ220⟩ : ∃ Z, Z = passB r Z217 := ⟨_, rfl⟩
 have hT220 : Thru r (8319 + nn) Z220 := hZ220 ▸ (hT217.le (m := 86 + (8319 + nn)) o_m).board
 rw [← hZ220] at hV9
 refine l_heap (fun w hw => hw.as (by rw [← hZ220]; rfl)) (H' := (lb, blk [va9, .bool r] 169) :: ((G9 ++ [(mb, blk Z220.1 137)]) ++ [(rb, blk RL 5)])) ?_
 refine ZAb ?_
 refine ZBl ?_
 refine RW (v := (.slice (some ⟨mb, 135, none⟩) 8192 8192)) (cut_array1 0 8192 rfl rfl rfl rfl rfl rfl y_c y_c) rfl rfl ?_
 refine RX (x_callF (A := (lb, blk [va9, .bool r] 169) :: (G9 ++ [(mb, blk Z220.1 137)])) (G := [(rb, blk RL 5)]) (R := (fun v H => v = .tuple #[] ∧ ∃ va' Gl', LineB 5 r va' (passes r .byte (offs 135 8192) Z220).2 Gl' ∧ H = (lb, blk [va', .bool r] 169) :: (Gl' ++ [(mb, blk (passes r .byte (offs 135 8192) Z220).1 137)]))) (((lb, blk [va9, .bool r] 169) :: (G9 ++ [(mb, blk Z220.1 137)])).map (·.1)) call_143 rfl (fun _ hb => mem_fst hb) (fun w hw => listL_fn r lb mb 135 8192 y_c va9 G9 Z220 hV9 (hT220.ok.le (m := 8192) o_m) 137 (hT220.fit ty_work) _ _ w (St.lentV hw))) rfl ?_
 rintro _ _ ⟨_, ⟨rfl, va10, G10, hV10, rfl⟩, rfl⟩
 obtain ⟨Z226, hZ226⟩ : ∃ Z, Z = passes r .byte (offs 135 8192) Z220 := ⟨_, rfl⟩
 have hT226 : Thru r (127 + nn) Z226 := hZ226 ▸ (hT220.le (m := 8192 * 1 + (127 + nn)) o_m).pass (k := .byte) (os := offs 135 8192) (n := (127 + nn)) trivial ty_work
 rw [← hZ226] at hV10
 refine l_heap (fun w hw => hw.as (by rw [← hZ226]; rfl)) (H' := (lb, blk [va10, .bool r] 169) :: ((G10 ++ [(mb, blk Z226.1 137)]) ++ [(rb, blk RL 5)])) ?_
 refine ZAb ?_
 refine ZBl ?_
 refine RW (v := (.slice (some ⟨mb, 8327, none⟩) 127 127)) (cut_array1 0 127 rfl rfl rfl rfl rfl rfl y_c y_c) rfl rfl ?_
 refine RX (x_callF (A := (lb, blk [va10, .bool r] 169) :: (G10 ++ [(mb, blk Z226.1 137)])) (G := [(rb, blk RL 5)]) (R := (fun v H => v = .tuple #[] ∧ ∃ va' Gl', LineB 5 r va' (passes r .byte (offs 8327 127) Z226).2 Gl' ∧ H = (lb, blk [va', .bool r] 169) :: (Gl' ++ [(mb, blk (passes r .byte (offs 8327 127) Z226).1 137)]))) (((lb, blk [va10, .bool r] 169) :: (G10 ++ [(mb, blk Z226.1 137)])).map (·.1)) call_143 rfl (fun _ hb => mem_fst hb) (fun w hw => listL_fn r lb mb 8327 127 y_c va10 G10 Z226 hV10 (hT226.ok.le (m := 127) o_m) 137 (hT226.fit ty_high) _ _ w (St.lentV hw))) rfl ?_
 rintro _ _ ⟨_, ⟨rfl, va11, G11, hV11, rfl⟩, rfl⟩
 obtain ⟨Z232, hZ232⟩ : ∃ Z, Z = passes r .byte (offs 8327 127) Z226 := ⟨_, rfl⟩
 have hT232 : Thru r nn Z232 := hZ232 ▸ (hT226.le (m := 127 * 1 + nn) o_m).pass (k := .byte) (os := offs 8327 127) (n := nn) trivial ty_high
 rw [← hZ232] at hV11
 refine l_heap (fun w hw => hw.as (by rw [← hZ232]; rfl)) (H' := (lb, blk [va11, .bool r] 169) :: ((G11 ++ [(mb, blk Z232.1 137)]) ++ [(rb, blk RL 5)])) ?_
 refine ZAb ?_
 have hr9 : Z232.1[134]? = some (.slice (some ⟨rb, 0, none⟩) nn rc) := by
  rw [hZ232, hZ226, hZ220, hZ217, hZ211, hZ181, hZ175, hZ145, hZ139, hZ133, hZ91, hZ79]; exact (passM_out r S y_c hT.ty hT.ok.byts).trans hrv
 refine ZBj ?_
 refine RZ (x_load rfl rfl (at_own (v := .slice (some ⟨rb, 0, none⟩) nn rc) (.tail _ (List.mem_append_left _ (List.mem_append_right _ (.head _)))) hr9)) rfl ?_
 refine l_heap (fun w hw => hw.perm (List.Perm.cons _ (perm_two G11 _ _))) (H' := ((lb, blk [va11, .bool r] 169) :: (G11 ++ [(rb, blk RL 5)])) ++ [(mb, blk Z232.1 137)]) ?_
 refine RX (x_callF (A := (lb, blk [va11, .bool r] 169) :: (G11 ++ [(rb, blk RL 5)])) (G := [(mb, blk Z232.1 137)]) (R := fun v H => v = .tuple #[] ∧ ∃ va' Gl', LineB 5 r va' (passes r .byte (offs 0 nn) (RL, Z232.2)).2 Gl' ∧ H = (lb, blk [va', .bool r] 169) :: (Gl' ++ [(rb, blk (passes r .byte (offs 0 nn) (RL, Z232.2)).1 5)])) (((lb, blk [va11, .bool r] 169) :: (G11 ++ [(rb, blk RL 5)])).map (·.1)) call_143 rfl (fun _ hb => mem_fst hb) (fun w hw => listL_fn r lb rb 0 nn o_m va11 G11 (RL, Z232.2) hV11 ⟨hT232.ok.byts, hT232.ok.en, hT232.ok.sz⟩ 5 hR _ _ w (St.lentV hw))) rfl ?_
 rintro _ _ ⟨_, ⟨rfl, va12, G12, hV12, rfl⟩, rfl⟩
 refine l_heap (fun w hw => hw.perm (List.Perm.cons _ (perm_two G12 _ _))) (H' := (lb, blk [va12, .bool r] 169) :: ((G12 ++ [(mb, blk Z232.1 137)]) ++ [(rb, blk (passes r .byte (offs 0 nn) (RL, Z232.2)).1 5)])) ?_
 refine ZAb ?_
 exact EN (List.Sublist.refl _) ⟨rfl, va12, G12, by unfold passM pass8; rw [← hZ79, ← hZ91, ← hZ133, ← hZ139, ← hZ145, ← hZ175, ← hZ181, ← hZ211, ← hZ217, ← hZ220, ← hZ226, ← hZ232]; exact hV12, by unfold passM pass8; rw [← hZ79, ← hZ91, ← hZ133, ← hZ139, ← hZ145, ← hZ175, ← hZ181, ← hZ211, ← hZ217, ← hZ220, ← hZ226, ← hZ232]⟩
end Go.Proofs.YtldehodcfajpjaaGreat
