/- The law of loading. -/
import Derived.Test.YtldehodcfajpjaaGreatQcZF
import Derived.Test.YtldehodcfajpjaaGreatQcZJ
import Derived.Test.YtldehodcfajpjaaGreatQcZK
set_option linter.unusedSimpArgs false
set_option linter.unusedVariables false
set_option maxRecDepth 100000
set_option maxHeartbeats 4000000
namespace Go.VV
open Go
section
variable {P : Program}
section
variable {e : Env} {d : Option Nat} {t u ty : TypeId} {pos : String} {af : Array Edge} {g : Option (Nat × Bool)} {x y : Operand} {l r : List Value} {ks : List CK}
variable {Γ : Ctx} {H : Heap} {k : Kont} {ops rest : List Oper} {S : World → Prop} {need : List Nat} {pl : Plan} {i : Nat}
theorem d_eqs (ho : ops[i]? = some ⟨d, .binOp .eql t x y u, ty, pos, af, g⟩) (hx : vnf (ev e x) = some (.agg ⟨l⟩)) (hy : vnf (ev e y) = some (.agg ⟨r⟩)) (hk : kinds Γ.P 9 t = some ks) (hb : eqsB Γ.P t = true) (h1 : shpB ks l = true) (h2 : shpB ks r = true)
  (hg : gdB ops e ⟨d, .binOp .eql t x y u, ty, pos, af, g⟩ = true) (hd : dstOk Γ.n d = true) {b : Bool} (hv : lveq l r = b) (h : L2 Γ ops S need pl k (e.put d (.bool b)) H) : L2 Γ ops S need (.step true i pl) k e H := by
 subst hv
 exact d_yield ho hg hd (fun w _ => run_eqs hx hy hk hb h1 h2 w) h
end
end
end Go.VV
namespace Go.VV
open Go Go.RowKit
end Go.VV
namespace Go.VV
open Go
end Go.VV
namespace Go.VV
open Go
end Go.VV
namespace Go.VV
open Go
theorem bs_size (l : List UInt8) : (bs l).size = l.length := rfl
theorem bs_append (a b : List UInt8) : bs a ++ bs b = bs (a ++ b) := by
 apply ByteArray.ext
 simp [bs]
theorem bs_nums (l : List UInt8) : strOfNums (l.map fun b => (b.toNat : Int)) = bs l := by
 unfold strOfNums bs
 congr 1
 have : ((fun n : Int => UInt8.ofNat n.toNat) ∘ fun b : UInt8 => (b.toNat : Int)) = id := by funext b; simp
 rw [List.map_map, this, List.map_id]
section
variable {P : Program} {e : Env} {d : Option Nat} {ty t u : TypeId} {pos : String} {af : Array Edge} {g : Option (Nat × Bool)} {x y : Operand} {a b : List UInt8}
theorem light_cat (hx : vnf (ev e x) = some (.string (bs a))) (hy : vnf (ev e y) = some (.string (bs b))) (h : a.length + b.length ≤ 1000000) :
  light P e ⟨d, .binOp .add t x y u, ty, pos, af, g⟩ = some (.string (bs (a ++ b))) := by
 refine light_of_pure ?_ rfl
 have h1 : ¬ (((bs a).size + (bs b).size : Nat) : Int) > IntKind.i64.max := by
  have : IntKind.i64.max = 9223372036854775807 := by decide
  rw [bs_size, bs_size]; omega
 simp only [execOp, eqGuard, vnf_eq hx, vnf_eq hy, binOp, Op.stringOp, if_neg h1, bs_append]
 rfl
end
section
variable {Γ : Ctx} {e : Env} {H : Heap} {d : Option Nat} {ty t dst el : TypeId} {pos : String} {af : Array Edge} {g : Option (Nat × Bool)} {x : Operand}
def bytP (P : Program) (t : TypeId) : Bool := match P.underlying t with
 | some (.slice el) => (match P.underlying el with
  | some (.int .u8) => true
  | _ => false)
 | _ => false
def strT (P : Program) (t : TypeId) : Bool := match P.underlying t with
 | some .string => true
 | _ => false
theorem x_str {b off n c : Nat} {l : List UInt8} (hx : vnf (ev e x) = some (.slice (some ⟨b, off, none⟩) n c)) (hs : bytP Γ.P t = true) (hd : strT Γ.P dst = true) (hn : l.length = n)
  (hr : ∀ w, St Γ.w0 Γ.ms H w → Row w b off (l.map fun c => .int .u8 c.toNat)) :
  Op1 Γ ⟨d, .convert t dst x, ty, pos, af, g⟩ e H (fun v H' => v = .string (bs l) ∧ H' = H) := by
 intro w hw
 have hx := vnf_eq hx
 unfold bytP at hs
 split at hs <;> try cases hs
 rename_i el h1
 split at hs <;> try cases hs
 rename_i h2
 unfold strT at hd
 split at hd <;> try cases hd
 rename_i h3
 have key := run_convert_bytes_arg (P := Γ.P) w t el h1 h2 b off n c (l.map fun c => (c.toNat : Int)) (by simpa using hn) (fun i hi => by
  have hi' : i < l.length := by omega
  have := hr w hw i (.int .u8 l[i].toNat) (by simp [hi'])
  simpa [List.getD, hi'] using this) dst h3
 rw [bs_nums] at key
 refine opW_run (v := .string (bs l)) (w' := w) ?_ ⟨_, hw, rfl, rfl⟩
 simp only [execOp, hx, Sem.run_bind, key, Result.andThen_ok, Sem.run_pure]
end
end Go.VV
namespace Go.Proofs.YtldehodcfajpjaaGreat
open Go Go.VV
section
variable {A : Ad} {acc : Value} {m : Mm}
variable {w : World} {b : Nat}
theorem rowM_hd (h : MLn m) (hr : Row w b 0 (cMm A acc m)) : Row w b 125 (cHd m.hd) := fun i v hi => by
 have h1 : (midM A m)[6 + i]? = some v := get_right (A := [.int .u8 m.flags, .int .u8 m.lets, .int .u64 m.steps, .int .u64 m.cycles, .slice (some ⟨A.ob, 0, none⟩) m.rom.length A.oc, A.plan]) (n := i) rfl (get_left hi)
 have := hr (119 + (6 + i)) v (get_mid h h1)
 rwa [Nat.zero_add, show 119 + (6 + i) = 125 + i by omega] at this
end
end Go.Proofs.YtldehodcfajpjaaGreat
namespace Go.Proofs.YtldehodcfajpjaaGreat
open Go Go.VV Go.Proofs
theorem call_15 : callable Tryz.prog 15 = true := by kernel_rfl
theorem call_33 : callable Tryz.prog 33 = true := by kernel_rfl
theorem call_34 : callable Tryz.prog 34 = true := by kernel_rfl
theorem call_36 : callable Tryz.prog 36 = true := by kernel_rfl
theorem call_81 : callable Tryz.prog 81 = true := by kernel_rfl
theorem call_82 : callable Tryz.prog 82 = true := by kernel_rfl
theorem line_fnU (b : Nat) (u : PU) (hu : u.Wf) (w : World) (hr : Row w b 0 (cU u)) : Does Tryz.prog 36 [.pointer (some ⟨b, 0, none⟩)] w [] (fun v H => H = [] ∧ v = .int .i64 u.line) := by
 refine does_of Tryz.func36 rfl rfl rfl (St.refl w) ?_
 refine ZAa ?_
 refine ZAz ?_
 refine ZAK ?_
 refine ZD5 ?_
 exact ZBU
end Go.Proofs.YtldehodcfajpjaaGreat
namespace Go.Proofs.YtldehodcfajpjaaGreat
open Go Go.VV Go.Proofs Go.RowKit
theorem videoM_fn (A : Ad) (acc : Value) (m : Mm) (h : MLn m) (w : World) (hm : Row w A.mb 0 (cMm A acc m)) : Does Tryz.prog 35 [.pointer (some ⟨A.mb, 0, none⟩)] w [] (fun v H => H = [] ∧ v = .pointer (some ⟨A.ub, 0, none⟩)) := by
 refine does_of Tryz.func35 rfl rfl rfl (St.refl w) ?_
 refine ZDo ?_
 refine ZDh ?_
 refine ZA6 ?_
 refine RZ (x_load rfl rfl (at_old (hm _ _ (get_mid h (j := 14) rfl)) y_z)) rfl ?_
 exact ZBU
theorem headerM_fn (A : Ad) (acc : Value) (m : Mm) (h : MLn m) (w : World) (hm : Row w A.mb 0 (cMm A acc m)) : Does Tryz.prog 34 [.pointer (some ⟨A.mb, 0, none⟩)] w [] (fun v H => H = [] ∧ v = .agg (cHd m.hd).toArray) := by
 refine does_of Tryz.func34 rfl rfl rfl (St.refl w) ?_
 refine ZAA ?_
 refine ZBq fun b0 => ?_
 refine ZAb ?_
 refine ZA1 ?_
 refine ZDh ?_
 refine ZA6 ?_
 refine RZ (x_loadA rfl rfl rfl (fun w hw => rowM_hd h (row_old hm y_z w hw))) rfl ?_
 refine ZA4 ?_
 exact l_end0 (fun w hw => rets_cell rfl rfl rfl (row_own (b := b0) m_m w hw)) ⟨rfl, rfl⟩
end Go.Proofs.YtldehodcfajpjaaGreat
namespace Go.Proofs.YtldehodcfajpjaaGreat
open Go Go.VV
def kindD (b : Int) : Int := if b = 0 ∨ b = 8 ∨ b = 9 then 0 else if b = 1 ∨ b = 2 ∨ b = 3 then 1 else if b = 5 ∨ b = 6 then 2 else if b = 15 ∨ b = 16 ∨ b = 17 ∨ b = 18 ∨ b = 19 then 3 else if b = 25 ∨ b = 26 ∨ b = 27 ∨ b = 28 ∨ b = 29 ∨ b = 30 then 5 else -1
def ckD (b : Int) : Bool := b == 15 || b == 16
def btD (b : Int) : Bool := b == 3 || b == 6 || b == 9 || b == 15 || b == 16 || b == 19 || b == 27 || b == 30
theorem sort_kind {b : Int} (h : 0 ≤ b ∧ b < 256) : sortH b = if kindD b < 0 then none else some (kindD b, ckD b, btD b) :=
 byte_all (p := fun b => sortH b = if kindD b < 0 then none else some (kindD b, ckD b, btD b)) y_A h.1 h.2
theorem kindD_ok (b : Int) : -1 ≤ kindD b ∧ kindD b ≤ 5 := by unfold kindD; repeat' split
                                                              all_goals omega
def totD (rom : List Int) : Nat → Int
 | 0 => 0
 | i + 1 => if i = 334 ∨ i = 335 then totD rom i else (totD rom i + rom.getD i 0) % 65536
theorem totD_s (rom : List Int) (i : Nat) : totD rom (i + 1) = if i = 334 ∨ i = 335 then totD rom i else (totD rom i + rom.getD i 0) % 65536 := rfl
theorem totD_ok (rom : List Int) : ∀ i, 0 ≤ totD rom i ∧ totD rom i < 65536
 | 0 => ⟨Int.le_refl 0, (by decide : (0 : Int) < 65536)⟩
 | i + 1 => by
  have := totD_ok rom i
  unfold totD
  split
  ·exact this
  ·omega
theorem totD_eq (rom : List Int) : ∀ i, totD rom i = (totH rom i - (if 334 < i then rom.getD 334 0 else 0) - (if 335 < i then rom.getD 335 0 else 0)) % 65536
 | 0 => rfl
 | i + 1 => by
  have ih := totD_eq rom i
  unfold totD totH
  rw [ih]
  by_cases h1 : i = 334
  ·subst h1; simp only [true_or, if_true, Nat.lt_irrefl, if_false, Nat.lt_succ_self, (show ¬ (335 : Nat) < 334 by decide), (show ¬ (335 : Nat) < 334 + 1 by decide)]; omega
  ·by_cases h2 : i = 335
   ·subst h2; simp only [or_true, if_true, Nat.lt_irrefl, if_false, Nat.lt_succ_self, (show (334 : Nat) < 335 by decide), (show (334 : Nat) < 335 + 1 by decide)]; omega
   ·rw [if_neg o_m]
    by_cases h3 : 334 < i
    ·rw [if_pos h3, if_pos (show 335 < i by omega), if_pos (show 334 < i + 1 by omega), if_pos (show 335 < i + 1 by omega)]; omega
    ·rw [if_neg h3, if_neg (show ¬ 335 < i by omega), if_neg (show ¬ 334 < i + 1 by omega), if_neg (show ¬ 335 < i + 1 by omega)]; omega
theorem totD_sum {rom : List Int} (h : 336 ≤ rom.length) : totD rom rom.length = sumH rom := by
 rw [totD_eq, if_pos o_m, if_pos o_m]; rfl
def hdD (rom : List Int) : Hd := ⟨nameH ((rom.drop 308).take 15), kindD (rom.getD 327 0), ckD (rom.getD 327 0), btD (rom.getD 327 0), ((2 * 2 ^ (rom.getD 328 0).toNat : Nat) : Int), ramH (kindD (rom.getD 327 0)) (rom.getD 329 0), rom.getD 334 0 * 256 + rom.getD 335 0 == totD rom rom.length⟩
theorem hdD_eq {rom : List Int} (hb : Byts rom) (he : errH rom = 0) : hdD rom = hdH rom := by
 obtain ⟨h1, _, ⟨s, hs⟩, _⟩ := errH_zero he
 have hk := sort_kind (hb.get 327)
 rw [hs] at hk
 split at hk
 ·cases hk
 cases hk
 unfold hdD hdH
 rw [hs, totD_sum h1]
 simp only [Option.getD_some]
 rw [Int.natCast_mul, Int.natCast_pow]
 rfl
theorem bank_mul {n : Nat} (h : n ≤ 8) : IntKind.wrap .i64 (((2 * 2 ^ n : Nat) : Int) * 16384) = 32768 * 2 ^ n := by
 rcases (show n = 0 ∨ n = 1 ∨ n = 2 ∨ n = 3 ∨ n = 4 ∨ n = 5 ∨ n = 6 ∨ n = 7 ∨ n = 8 by omega) with rfl | rfl | rfl | rfl | rfl | rfl | rfl | rfl | rfl <;> rfl
theorem bank_two {n i : Nat} (h : n ≤ 8) (hi : i < n) : IntKind.wrap .i64 (((2 * 2 ^ i : Nat) : Int) * 2) = ((2 * 2 ^ (i + 1) : Nat) : Int) := by
 rcases (show i = 0 ∨ i = 1 ∨ i = 2 ∨ i = 3 ∨ i = 4 ∨ i = 5 ∨ i = 6 ∨ i = 7 by omega) with rfl | rfl | rfl | rfl | rfl | rfl | rfl | rfl <;> rfl
theorem take_snocD {α β : Type} (f : α → β) (l : List α) (j : Nat) (d : α) (h : j < l.length) : (l.take (j + 1)).map f = (l.take j).map f ++ [f (l.getD j d)] := by
 rw [List.take_add_one, List.map_append, List.getElem?_eq_getElem h, List.getD_eq_getElem?_getD, List.getElem?_eq_getElem h]; rfl
end Go.Proofs.YtldehodcfajpjaaGreat
namespace Go.Proofs.YtldehodcfajpjaaGreat
open Go Go.VV Go.Proofs Go.RowKit
theorem qkind_fn (b : Int) (hb : 0 ≤ b ∧ b < 256) (w : World) : Does Tryz.prog 81 [.int .u8 b] w [] (fun v H => H = [] ∧ v = .int .i64 (kindD b)) := by
 refine does_of Tryz.func81 rfl rfl rfl (St.refl w) ?_
 refine ZAa ?_
 refine ZAG ?_
 refine ZBO ?_
 refine ZAz ?_
 refine KC (fun q0 q0n => ?_) (fun q0 q0n => ?_)
 ·refine ZAx ?_
  refine c_sure true rfl q0 ?_
  exact ZAv
 ·refine ZAS ?_
  refine KC (fun q1 q1n => ?_) (fun q1 q1n => ?_)
  ·refine ZAx ?_
   refine c_sure true rfl q1 ?_
   exact ZAv
  ·refine ZCB ?_
   refine KC (fun q2 q2n => ?_) (fun q2 q2n => ?_)
   ·exact ZAv
   ·refine ZAz ?_
    refine KC (fun q3 q3n => ?_) (fun q3 q3n => ?_)
    ·refine ZAx ?_
     refine c_sure true rfl q3 ?_
     exact ZAv
    ·refine ZAS ?_
     refine KC (fun q4 q4n => ?_) (fun q4 q4n => ?_)
     ·refine ZAx ?_
      refine c_sure true rfl q4 ?_
      exact ZAv
     ·refine ZCB ?_
      refine KC (fun q5 q5n => ?_) (fun q5 q5n => ?_)
      ·exact ZAv
      ·refine ZAz ?_
       refine KC (fun q6 q6n => ?_) (fun q6 q6n => ?_)
       ·refine ZAx ?_
        refine c_sure true rfl q6 ?_
        exact ZAv
       ·refine ZCB ?_
        refine KC (fun q7 q7n => ?_) (fun q7 q7n => ?_)
        ·exact ZAv
        ·refine ZAz ?_
         refine KC (fun q8 q8n => ?_) (fun q8 q8n => ?_)
         ·refine ZAx ?_
          refine c_sure true rfl q8 ?_
          exact ZAv
         ·refine ZAS ?_
          refine KC (fun q9 q9n => ?_) (fun q9 q9n => ?_)
          ·refine ZAx ?_
           refine c_sure true rfl q9 ?_
           exact ZAv
          ·refine ZAS ?_
           refine KC (fun q10 q10n => ?_) (fun q10 q10n => ?_)
           ·refine ZAx ?_
            refine c_sure true rfl q10 ?_
            exact ZAv
           ·refine ZAS ?_
            refine KC (fun q11 q11n => ?_) (fun q11 q11n => ?_)
            ·refine ZAx ?_
             refine c_sure true rfl q11 ?_
             exact ZAv
            ·refine ZCB ?_
             refine KC (fun q12 q12n => ?_) (fun q12 q12n => ?_)
             ·exact ZAv
             ·refine ZAz ?_
              refine KC (fun q13 q13n => ?_) (fun q13 q13n => ?_)
              ·refine ZAx ?_
               refine c_sure true rfl q13 ?_
               exact ZAv
              ·refine ZAS ?_
               refine KC (fun q14 q14n => ?_) (fun q14 q14n => ?_)
               ·refine ZAx ?_
                refine c_sure true rfl q14 ?_
                exact ZAv
               ·refine ZAS ?_
                refine KC (fun q15 q15n => ?_) (fun q15 q15n => ?_)
                ·refine ZAx ?_
                 refine c_sure true rfl q15 ?_
                 exact ZAv
                ·refine ZAS ?_
                 refine KC (fun q16 q16n => ?_) (fun q16 q16n => ?_)
                 ·refine ZAx ?_
                  refine c_sure true rfl q16 ?_
                  exact ZAv
                 ·refine ZAS ?_
                  refine KC (fun q17 q17n => ?_) (fun q17 q17n => ?_)
                  ·refine ZAx ?_
                   refine c_sure true rfl q17 ?_
                   exact ZAv
                  ·refine ZCB ?_
                   refine KC (fun q18 q18n => ?_) (fun q18 q18n => ?_)
                   ·exact ZAv
                   ·refine ZAx ?_
                    exact ZAv
theorem qsum_fn (a : Option Addr) (c : Nat) (l : List Int) (hl : l.length ≤ 100000000) (hb : Byts l) (w : World) (hB : Ns w .u8 a l) : Does Tryz.prog 82 [.slice a l.length c] w [] (fun v H => H = [] ∧ v = .int .u16 (if l.length < 336 then 0 else totD l l.length)) := by
 refine does_of Tryz.func82 rfl rfl rfl (St.refl w) ?_
 refine ZDo ?_
 refine ZCU ?_
 refine ZAB ?_
 refine KC (fun q0 q0n => ?_) (fun q0 q0n => ?_)
 ·refine ZAY ?_
  exact E0 rfl ⟨rfl, y_db⟩
 ·refine ZAx ?_
  refine ZA0 ?_
  obtain ⟨ba, oa, rfl, hra⟩ := hB.row (i := 0) o_m
  refine ZAP ?_
  refine ZAB ?_
  refine ZA1 ?_
  refine ZCU ?_
  refine ZBO ?_
  refine c_loop (σ := Nat) [3, 4, 10, 11, 12, 13, 14, 15, 16, 17, 18, 19, 20, 21, 22, 23, 24, 25, 26, 27] (fun i => [(3, .int .i64 (totD l i)), (10, .int .i64 i)]) (fun _ => []) (fun i => i ≤ l.length) (fun i => l.length - i) 0 ?_ ?_ ?_ ?_
  ·exact Nat.zero_le _
  ·exact .cons rfl (.cons rfl .nil)
  ·exact fun _ h => h
  ·rintro i y5 hi
   refine ZCI ?_
   refine KC (fun q1 q1n => ?_) (fun q1 q1n => ?_)
   ·refine ZDp ?_
    have hby := hb.get i
    have hck := totD_ok l i
    refine ZCB ?_
    refine ZAU ?_
    refine KL (fun q2 q2n => ?_) (fun q2 q2n => ?_)
    ·refine ZAR ?_
     refine KC (fun q3 q3n => ?_) (fun q3 q3n => ?_)
     ·refine ZAP ?_
      refine ZBQ ?_
      refine RY (idx_slice1 (n := l.length) i rfl rfl rfl rfl o_m) rfl ?_
      refine ZEF ?_
      refine RW (v := (.int .i64 (l.getD i 0))) rfl rfl (as_i64 o_m o_m) ?_
      refine RW (v := (.int .i64 (totD l i + l.getD i 0))) rfl rfl (as_i64 o_m o_m) ?_
      refine RW (v := (.int .i64 ((totD l i + l.getD i 0) % 65536))) (rem_pos rfl rfl y_c) rfl (congrArg _ (Int.tmod_eq_emod_of_nonneg o_m)) ?_
      refine ZAB ?_
      refine ZC2 ?_
      exact ⟨i + 1, y_D, y_D, .cons (congrArg (Value.int .i64) (by show _ = totD l (i + 1); rw [totD_s]; rw [if_neg o_m])) (.cons rfl .nil), a_g, fun _ h => h⟩
     ·refine ZAx ?_
      refine ZC2 ?_
      exact ⟨i + 1, y_D, y_D, .cons (congrArg (Value.int .i64) y_ds) (.cons rfl .nil), a_g, fun _ h => h⟩
    ·refine L_3 ?_
     refine ZBL ?_
     refine ZC2 ?_
     exact ⟨i + 1, y_D, y_D, .cons (congrArg (Value.int .i64) y_ds) (.cons rfl .nil), a_g, fun _ h => h⟩
   ·refine ZBa ?_
    refine ZA0 ?_
    obtain rfl : i = l.length := by omega
    have hck := totD_ok l l.length
    refine ZAZ ?_
    refine RW (v := (.int .u16 (totD l l.length))) rfl rfl (as_u16 hck.1 hck.2) ?_
    refine ZAI ?_
    exact E0 rfl ⟨rfl, y_dc⟩
set_option maxHeartbeats 2000000 in
theorem qparse_fn (a : Option Addr) (c : Nat) (l : List Int) (hl : l.length ≤ 100000000) (hb : Byts l) (w : World) (hB : Ns w .u8 a l) : Does Tryz.prog 33 [.slice a l.length c] w [] (fun v H => H = [] ∧ v = .tuple #[.agg (cHd (if errH l = 0 then hdH l else zHd)).toArray, .int .i64 (errH l)]) := by
 refine does_of Tryz.func33 rfl rfl rfl (St.refl w) ?_
 refine ZAA ?_
 refine ZEH ?_
 refine ZC8 fun b0 => ?_
 refine ZAB ?_
 refine ZA1 ?_
 refine ZCU ?_
 refine ZAB ?_
 refine KC (fun q0 q0n => ?_) (fun q0 q0n => ?_)
 ·refine ZAA ?_
  refine RS ?_
  refine ZCv ?_
  refine ZAI ?_
  exact ZEM
 ·refine ZAx ?_
  refine ZCc ?_
  obtain ⟨ba, oa, rfl, hra⟩ := hB.row (i := 0) o_m
  have hb7 := hb.get 327
  have hb8 := hb.get 328
  have hb9 := hb.get 329
  have hb4 := hb.get 334
  have hb5 := hb.get 335
  have hbk := kindD_ok (l.getD 327 0)
  refine DR [3, 4] (pln [0, 2, 4, 6, 9, 10]) ?_
  refine RD ?_
  refine DY rfl (idx_slice1 (n := l.length) 333 rfl rfl rfl rfl o_m) rfl ?_
  refine DL rfl rfl rfl (s_old (hra _ _ (map_at (j := 333) o_m)) y_z) rfl ?_
  refine RD ?_
  refine DZ rfl (x_val call_80 rfl (fun w hw => qcheck_fn (some ⟨ba, oa, none⟩) c l hl hb w (hB.later0 hw))) rfl y_b ?_
  rw [if_neg (show ¬ l.length < 336 by omega)]
  refine ZC9 ?_
  refine KC (fun q1 q1n => ?_) (fun q1 q1n => ?_)
  ·refine ZAA ?_
   refine RS ?_
   refine ZCv ?_
   refine ZAI ?_
   exact ZED
  ·refine ZAx ?_
   refine ZAV ?_
   refine RY (idx_slice1 (n := l.length) 327 rfl rfl rfl rfl o_m) rfl ?_
   refine RZ (x_load rfl rfl (at_old (hra _ _ (map_at (j := 327) o_m)) y_z)) rfl ?_
   refine ZEl ?_
   refine RLv call_81 (fun w hw => qkind_fn (l.getD 327 0) hb7 w) ?_
   refine RS ?_
   refine ZEH ?_
   rintro _ _ ⟨b1, rfl, rfl⟩
   refine RZ (x_storeTo (l' := cHd ⟨[], (kindD (l.getD 327 0)), false, false, 0, 0, false⟩) 0 rfl rfl rfl rfl rfl rfl (Nat.le_of_ble_eq_true rfl) rfl) rfl ?_
   refine ZBb ?_
   refine ZD6 ?_
   refine ZAb ?_
   refine KC (fun q2 q2n => ?_) (fun q2 q2n => ?_)
   ·refine ZAA ?_
    refine ZB8 ?_
    refine ZAC ?_
    refine ZAI ?_
    have e9 : errH l = 5 := by unfold errH; rw [if_neg o_m, if_neg y_bb, sort_kind (hb.get 327)]; rw [if_pos o_m]
    exact l_end0 (fun w hw => rets_cell2 rfl rfl rfl (row_own (b := b0) (l := cHd zHd) m_m w hw) rfl) ⟨rfl, y_ed⟩
   ·refine ZAx ?_
    refine ZA1 ?_
    refine RY (idx_slice1 (n := l.length) 328 rfl rfl rfl rfl o_m) rfl ?_
    refine RZ (x_load rfl rfl (at_old (hra _ _ (map_at (j := 328) o_m)) y_z)) rfl ?_
    refine Rl ?_
    refine KL (fun q3 q3n => ?_) (fun q3 q3n => ?_)
    ·refine L_5 ?_
     refine ZAj ?_
     refine ZAA ?_
     refine ZB8 ?_
     refine ZAC ?_
     refine ZAI ?_
     exact ZDH
    ·refine Rl ?_
     refine RY (idx_slice1 (n := l.length) 329 rfl rfl rfl rfl o_m) rfl ?_
     refine RZ (x_load rfl rfl (at_old (hra _ _ (map_at (j := 329) o_m)) y_z)) rfl ?_
     refine ZAE ?_
     refine KC (fun q4 q4n => ?_) (fun q4 q4n => ?_)
     ·refine ZAA ?_
      refine ZB8 ?_
      refine ZAC ?_
      refine ZAI ?_
      exact ZDH
     ·refine ZAx ?_
      refine ZAA ?_
      refine RLa ?_
      refine RZ (x_storeTo (l' := cHd ⟨[], (kindD (l.getD 327 0)), false, false, 2, 0, false⟩) 0 rfl rfl rfl rfl rfl rfl (Nat.le_of_ble_eq_true rfl) rfl) rfl ?_
      refine ZBb ?_
      refine ZAG ?_
      refine ZBO ?_
      refine c_loop (σ := Nat) [6, 42, 43, 44, 45, 46, 47, 48, 49, 50, 51, 52, 53] (fun i => [(6, .int .i64 i)]) (fun i => [(b1, blk (cHd ⟨[], (kindD (l.getD 327 0)), false, false, ((2 * 2 ^ i : Nat) : Int), 0, false⟩) 72), (b0, blk (cHd zHd) 72)]) (fun i => i ≤ (l.getD 328 0).toNat) (fun i => (l.getD 328 0).toNat - i) 0 ?_ ?_ ?_ ?_
      ·exact Nat.zero_le _
      ·exact .cons rfl .nil
      ·exact fun _ h => h
      ·rintro i y13 hi
       refine ZCd ?_
       refine RY (idx_slice1 (n := l.length) 328 rfl rfl rfl rfl o_m) rfl ?_
       refine RZ (x_load rfl rfl (at_old (hra _ _ (map_at (j := 328) o_m)) y_z)) rfl ?_
       refine RW (v := (.int .i64 (l.getD 328 0))) rfl rfl (as_i64 o_m o_m) ?_
       refine ZAB ?_
       refine KC (fun q5 q5n => ?_) (fun q5 q5n => ?_)
       ·refine ZCQ ?_
        refine ZAo ?_
        refine RW (v := (.int .i64 ((2 * 2 ^ (i + 1) : Nat) : Int))) rfl rfl (congrArg _ (bank_two (n := (l.getD 328 0).toNat) o_m o_m)) ?_
        refine RLa ?_
        refine RZ (x_storeTo (l' := cHd ⟨[], (kindD (l.getD 327 0)), false, false, ((2 * 2 ^ (i + 1) : Nat) : Int), 0, false⟩) 0 rfl rfl rfl rfl rfl rfl (Nat.le_of_ble_eq_true rfl) rfl) rfl ?_
        refine ZBb ?_
        refine ZAZ ?_
        refine ZAL ?_
        exact ⟨i + 1, y_D, y_D, .cons rfl .nil, a_g, fun _ h => h⟩
       ·refine ZBa ?_
        refine ZCc ?_
        obtain rfl : i = (l.getD 328 0).toNat := by omega
        refine ZAZ ?_
        refine ZCU ?_
        refine L_2 ?_
        refine RW (v := (.int .i64 (32768 * 2 ^ (l.getD 328 0).toNat))) rfl rfl (congrArg _ (bank_mul o_m)) ?_
        refine ZAB ?_
        refine KC (fun q6 q6n => ?_) (fun q6 q6n => ?_)
        ·refine ZAA ?_
         refine ZB8 ?_
         refine ZAC ?_
         refine ZAI ?_
         have e9 : errH l = 6 := by unfold errH; rw [if_neg o_m, if_neg y_bb, sort_kind (hb.get 327)]; rw [if_neg o_m]; dsimp only; rw [if_neg o_m, if_pos (by simpa using q6)]
         exact l_end0 (fun w hw => rets_cell2 rfl rfl rfl (row_own (b := b0) (l := cHd zHd) m_m w hw) rfl) ⟨rfl, y_ed⟩
        ·refine ZAx ?_
         refine c_cut (σ := Nat) [61, 62, 63, 64, 65, 66, 67, 68, 69, 70, 71, 72, 73, 74, 75, 76, 77, 78] (fun _ => []) (fun _ => [(b1, blk (cHd ⟨[], (kindD (l.getD 327 0)), false, false, ((2 * 2 ^ (l.getD 328 0).toNat : Nat) : Int), (ramH 0 (l.getD 329 0)), false⟩) 72), (b0, blk (cHd zHd) 72)]) (fun _ => True) ?_ ?_
         ·refine ZAV ?_
          refine RY (idx_slice1 (n := l.length) 329 rfl rfl rfl rfl o_m) rfl ?_
          refine RZ (x_load rfl rfl (at_old (hra _ _ (map_at (j := 329) o_m)) y_z)) rfl ?_
          refine ZAb ?_
          refine c_block ?_
          refine ZAS ?_
          refine KC (fun q7 q7n => ?_) (fun q7 q7n => ?_)
          ·refine ZD9 ?_
           refine RZ (x_storeTo (l' := cHd ⟨[], (kindD (l.getD 327 0)), false, false, ((2 * 2 ^ (l.getD 328 0).toNat : Nat) : Int), 2048, false⟩) 0 rfl rfl rfl rfl rfl rfl (Nat.le_of_ble_eq_true rfl) rfl) rfl ?_
           refine ZBb ?_
           exact ⟨0, trivial, .nil, a_g, fun _ h => h.as (by rw [show (l.getD 329 0) = 1 by omega]; first | done | rfl)⟩
          ·refine ZAS ?_
           refine KC (fun q8 q8n => ?_) (fun q8 q8n => ?_)
           ·refine ZD9 ?_
            refine RZ (x_storeTo (l' := cHd ⟨[], (kindD (l.getD 327 0)), false, false, ((2 * 2 ^ (l.getD 328 0).toNat : Nat) : Int), 8192, false⟩) 0 rfl rfl rfl rfl rfl rfl (Nat.le_of_ble_eq_true rfl) rfl) rfl ?_
            refine ZBb ?_
            exact ⟨0, trivial, .nil, a_g, fun _ h => h.as (by rw [show (l.getD 329 0) = 2 by omega]; first | done | rfl)⟩
           ·refine ZAS ?_
            refine KC (fun q9 q9n => ?_) (fun q9 q9n => ?_)
            ·refine ZD9 ?_
             refine RZ (x_storeTo (l' := cHd ⟨[], (kindD (l.getD 327 0)), false, false, ((2 * 2 ^ (l.getD 328 0).toNat : Nat) : Int), 32768, false⟩) 0 rfl rfl rfl rfl rfl rfl (Nat.le_of_ble_eq_true rfl) rfl) rfl ?_
             refine ZBb ?_
             exact ⟨0, trivial, .nil, a_g, fun _ h => h.as (by rw [show (l.getD 329 0) = 3 by omega]; first | done | rfl)⟩
            ·refine ZAS ?_
             refine KC (fun q10 q10n => ?_) (fun q10 q10n => ?_)
             ·refine ZD9 ?_
              refine RZ (x_storeTo (l' := cHd ⟨[], (kindD (l.getD 327 0)), false, false, ((2 * 2 ^ (l.getD 328 0).toNat : Nat) : Int), 131072, false⟩) 0 rfl rfl rfl rfl rfl rfl (Nat.le_of_ble_eq_true rfl) rfl) rfl ?_
              refine ZBb ?_
              exact ⟨0, trivial, .nil, a_g, fun _ h => h.as (by rw [show (l.getD 329 0) = 4 by omega]; first | done | rfl)⟩
             ·refine ZAS ?_
              refine KC (fun q11 q11n => ?_) (fun q11 q11n => ?_)
              ·refine ZD9 ?_
               refine RZ (x_storeTo (l' := cHd ⟨[], (kindD (l.getD 327 0)), false, false, ((2 * 2 ^ (l.getD 328 0).toNat : Nat) : Int), 65536, false⟩) 0 rfl rfl rfl rfl rfl rfl (Nat.le_of_ble_eq_true rfl) rfl) rfl ?_
               refine ZBb ?_
               exact ⟨0, trivial, .nil, a_g, fun _ h => h.as (by rw [show (l.getD 329 0) = 5 by omega]; first | done | rfl)⟩
              ·refine ZAx ?_
               exact ⟨0, trivial, .nil, a_g, fun _ h => h.as (by rw [show (l.getD 329 0) = 0 by omega]; first | done | rfl)⟩
         ·rintro _ y19 _
          refine c_cut (σ := Nat) [79, 80, 81, 82] (fun _ => []) (fun _ => [(b1, blk (cHd ⟨[], (kindD (l.getD 327 0)), false, false, ((2 * 2 ^ (l.getD 328 0).toNat : Nat) : Int), (ramH (kindD (l.getD 327 0)) (l.getD 329 0)), false⟩) 72), (b0, blk (cHd zHd) 72)]) (fun _ => True) ?_ ?_
          ·refine ZA6 ?_
           refine ZAb ?_
           refine KC (fun q7 q7n => ?_) (fun q7 q7n => ?_)
           ·refine ZD9 ?_
            refine RZ (x_storeTo (l' := cHd ⟨[], (kindD (l.getD 327 0)), false, false, ((2 * 2 ^ (l.getD 328 0).toNat : Nat) : Int), 512, false⟩) 0 rfl rfl rfl rfl rfl rfl (Nat.le_of_ble_eq_true rfl) rfl) rfl ?_
            refine ZBb ?_
            exact ⟨0, trivial, .nil, a_g, fun _ h => h.as (by rw [show (ramH (kindD (l.getD 327 0)) (l.getD 329 0)) = 512 from if_pos (by simpa using q7)])⟩
           ·refine ZAx ?_
            exact ⟨0, trivial, .nil, a_g, fun _ h => h.as (by rw [show (ramH (kindD (l.getD 327 0)) (l.getD 329 0)) = (ramH 0 (l.getD 329 0)) by unfold ramH; rw [if_neg (show ¬ kindD (l.getD 327 0) = 2 by simpa using q7), if_neg (show ¬ (0 : Int) = 2 by decide)]])⟩
          ·rintro _ y29 _
           refine c_cut (σ := Nat) [83, 84, 85, 86, 87, 88, 89] (fun _ => []) (fun _ => [(b1, blk (cHd ⟨[], (kindD (l.getD 327 0)), (ckD (l.getD 327 0)), false, ((2 * 2 ^ (l.getD 328 0).toNat : Nat) : Int), (ramH (kindD (l.getD 327 0)) (l.getD 329 0)), false⟩) 72), (b0, blk (cHd zHd) 72)]) (fun _ => True) ?_ ?_
           ·refine ZAo ?_
            refine KL (fun q7 q7n => ?_) (fun q7 q7n => ?_)
            ·refine L_4 ?_
             refine RZ (x_storeTo (l' := cHd ⟨[], (kindD (l.getD 327 0)), true, false, ((2 * 2 ^ (l.getD 328 0).toNat : Nat) : Int), (ramH (kindD (l.getD 327 0)) (l.getD 329 0)), false⟩) 0 rfl rfl rfl rfl rfl rfl (Nat.le_of_ble_eq_true rfl) rfl) rfl ?_
             refine ZBb ?_
             exact ⟨0, trivial, .nil, a_g, fun _ h => h.as (by rw [show ckD (l.getD 327 0) = true by unfold ckD; rw [Bool.eq_iff_iff]; simp only [Bool.or_eq_true, beq_iff_eq, true_iff, iff_true]; omega])⟩
            ·refine L_4 ?_
             refine RZ (x_storeTo (l' := cHd ⟨[], (kindD (l.getD 327 0)), ((l.getD 327 0) == 16), false, ((2 * 2 ^ (l.getD 328 0).toNat : Nat) : Int), (ramH (kindD (l.getD 327 0)) (l.getD 329 0)), false⟩) 0 rfl rfl rfl rfl rfl rfl (Nat.le_of_ble_eq_true rfl) rfl) rfl ?_
             refine ZBb ?_
             exact ⟨0, trivial, .nil, a_g, fun _ h => h.as (by rw [show ckD (l.getD 327 0) = ((l.getD 327 0) == 16) by unfold ckD; rw [Bool.eq_iff_iff]; simp only [Bool.or_eq_true, beq_iff_eq, true_iff, iff_true]; omega])⟩
           ·rintro _ y31 _
            refine c_cut (σ := Nat) [90, 91, 92, 93, 94, 95, 96, 97, 98, 99, 100, 101, 102, 103, 104, 105, 106, 107, 108, 109, 110, 111, 112, 113, 114, 115, 116, 117, 118, 119, 120] (fun _ => []) (fun _ => [(b1, blk (cHd ⟨[], (kindD (l.getD 327 0)), (ckD (l.getD 327 0)), (btD (l.getD 327 0)), ((2 * 2 ^ (l.getD 328 0).toNat : Nat) : Int), (ramH (kindD (l.getD 327 0)) (l.getD 329 0)), false⟩) 72), (b0, blk (cHd zHd) 72)]) (fun _ => True) ?_ ?_
            ·refine ZAo ?_
             refine KL (fun q7 q7n => ?_) (fun q7 q7n => ?_)
             ·refine L_28 ?_
              refine ZAW ?_
              exact ZCL
             ·refine ZBQ ?_
              refine KL (fun q8 q8n => ?_) (fun q8 q8n => ?_)
              ·refine L_24 ?_
               refine ZAW ?_
               exact ZCL
              ·refine ZBQ ?_
               refine KL (fun q9 q9n => ?_) (fun q9 q9n => ?_)
               ·refine L_20 ?_
                refine ZAW ?_
                exact ZCL
               ·refine ZBQ ?_
                refine KL (fun q10 q10n => ?_) (fun q10 q10n => ?_)
                ·refine L_16 ?_
                 refine ZAW ?_
                 exact ZCL
                ·refine ZBQ ?_
                 refine KL (fun q11 q11n => ?_) (fun q11 q11n => ?_)
                 ·refine L_12 ?_
                  refine ZAW ?_
                  exact ZCL
                 ·refine ZBQ ?_
                  refine KL (fun q12 q12n => ?_) (fun q12 q12n => ?_)
                  ·refine L_8 ?_
                   refine ZAW ?_
                   exact ZCL
                  ·refine ZBQ ?_
                   refine KL (fun q13 q13n => ?_) (fun q13 q13n => ?_)
                   ·refine L_4 ?_
                    refine ZAW ?_
                    exact ZCL
                   ·refine L_4 ?_
                    refine RZ (x_storeTo (l' := cHd ⟨[], (kindD (l.getD 327 0)), (ckD (l.getD 327 0)), ((l.getD 327 0) == 30), ((2 * 2 ^ (l.getD 328 0).toNat : Nat) : Int), (ramH (kindD (l.getD 327 0)) (l.getD 329 0)), false⟩) 0 rfl rfl rfl rfl rfl rfl (Nat.le_of_ble_eq_true rfl) rfl) rfl ?_
                    refine ZBb ?_
                    exact ⟨0, trivial, .nil, a_g, fun _ h => h.as (by rw [show btD (l.getD 327 0) = ((l.getD 327 0) == 30) by unfold btD; rw [Bool.eq_iff_iff]; simp only [Bool.or_eq_true, beq_iff_eq, true_iff, iff_true]; omega])⟩
            ·rintro _ y32 _
             refine c_cut (σ := Nat) [7, 8, 121, 122, 123, 124, 125, 126, 127, 128, 129, 130, 131, 132, 133, 134, 135, 136, 137, 138, 139, 140, 141, 142, 143, 144, 145, 146, 147, 148] (fun _ => []) (fun _ => [(b1, blk (cHd ⟨(nameH ((l.drop 308).take 15)), (kindD (l.getD 327 0)), (ckD (l.getD 327 0)), (btD (l.getD 327 0)), ((2 * 2 ^ (l.getD 328 0).toNat : Nat) : Int), (ramH (kindD (l.getD 327 0)) (l.getD 329 0)), false⟩) 72), (b0, blk (cHd zHd) 72)]) (fun _ => True) ?_ ?_
             ·refine ZAa ?_
              refine c_block ?_
              refine c_loop (σ := Nat) [7, 8, 121, 122, 123, 124, 125, 126, 127, 128, 129, 130, 131, 132, 133, 134, 135, 136, 137, 138, 139, 140, 141, 142, 143, 144, 145, 146, 147, 148] (fun j => [(7, .int .i64 ((308 + j : Nat) : Int))]) (fun j => [(b1, blk (cHd ⟨((((l.drop 308).take 15).take j).map chrH), (kindD (l.getD 327 0)), (ckD (l.getD 327 0)), (btD (l.getD 327 0)), ((2 * 2 ^ (l.getD 328 0).toNat : Nat) : Int), (ramH (kindD (l.getD 327 0)) (l.getD 329 0)), false⟩) 72), (b0, blk (cHd zHd) 72)]) (fun j => j ≤ 15 ∧ ∀ k, k < j → ((l.drop 308).take 15).getD k 0 ≠ 0) (fun j => 15 - j) 0 ?_ ?_ ?_ ?_
              ·exact ⟨Nat.zero_le _, fun _ h => absurd h (Nat.not_lt_zero _)⟩
              ·exact .cons rfl .nil
              ·exact fun _ h => h
              ·rintro j y34 ⟨hj, hjn⟩
               have hl15 : ((l.drop 308).take 15).length = 15 := by rw [List.length_take, List.length_drop]; omega
               refine ZCc ?_
               have hbj := hb.get (308 + j)
               refine ZAo ?_
               refine KL (fun q7 q7n => ?_) (fun q7 q7n => ?_)
               ·refine L_2 ?_
                refine RY (idx_slice1 (n := l.length) (308 + j) rfl rfl rfl rfl o_m) rfl ?_
                refine RZ (x_load rfl rfl (at_old (hra _ _ (map_at (j := 308 + j) o_m)) y_z)) rfl ?_
                refine ZAE ?_
                refine KC (fun q8 q8n => ?_) (fun q8 q8n => ?_)
                ·refine ZDp ?_
                 have hcj : (((l.drop 308).take 15).getD j 0) = l.getD (308 + j) 0 := by rw [List.getD_eq_getElem?_getD, List.getElem?_take, if_pos o_m, List.getElem?_drop, ← List.getD_eq_getElem?_getD]
                 refine ZAo ?_
                 refine RY (idx_slice1 (n := l.length) (308 + j) rfl rfl rfl rfl o_m) rfl ?_
                 refine RZ (x_load rfl rfl (at_old (hra _ _ (map_at (j := 308 + j) o_m)) y_z)) rfl ?_
                 refine ZAB ?_
                 refine c_cut (σ := Nat) [8, 136, 137, 138, 139, 140, 141] (fun _ => [(8, .int .u8 ((chrH (((l.drop 308).take 15).getD j 0)).toNat : Int))]) (fun _ => [(b1, blk (cHd ⟨((((l.drop 308).take 15).take j).map chrH), (kindD (l.getD 327 0)), (ckD (l.getD 327 0)), (btD (l.getD 327 0)), ((2 * 2 ^ (l.getD 328 0).toNat : Nat) : Int), (ramH (kindD (l.getD 327 0)) (l.getD 329 0)), false⟩) 72), (b0, blk (cHd zHd) 72)]) (fun _ => True) ?_ ?_
                 ·refine ZAU ?_
                  refine KL (fun q9 q9n => ?_) (fun q9 q9n => ?_)
                  ·refine L_3 ?_
                   refine ZAj ?_
                   refine ZAP ?_
                   exact ZEy
                  ·refine ZAR ?_
                   refine KC (fun q10 q10n => ?_) (fun q10 q10n => ?_)
                   ·refine ZAP ?_
                    exact ZEy
                   ·refine ZAx ?_
                    exact ⟨0, trivial, .cons (congrArg (Value.int .u8) (by rw [hcj]; exact (chrH_val hbj o_m).symm)) .nil, a_g, fun _ h => h⟩
                 ·rintro _ y37 _
                  refine ZB2 ?_
                  refine RX (x_slc (z := [.int .u8 0]) (l := [.int .u8 ((chrH (((l.drop 308).take 15).getD j 0)).toNat : Int)]) (ps := [(0, .int .u8 ((chrH (((l.drop 308).take 15).getD j 0)).toNat : Int))]) rfl rfl rfl rfl rfl rfl) rfl ?_
                  rintro _ _ ⟨b2, rfl, rfl⟩
                  refine RZ (x_str (l := [chrH (((l.drop 308).take 15).getD j 0)]) rfl rfl rfl rfl (fun w hw => row_own (.head _) w hw)) rfl ?_
                  refine RW (v := (.string (bs ((((l.drop 308).take 15).take (j + 1)).map chrH)))) (light_cat rfl rfl (by rw [List.length_map, List.length_take]; simp only [List.length_cons, List.length_nil]; omega)) rfl (by rw [take_snocD chrH ((l.drop 308).take 15) j 0 o_m]) ?_
                  refine RLa ?_
                  refine RZ (x_storeTo (l' := cHd ⟨((((l.drop 308).take 15).take (j + 1)).map chrH), (kindD (l.getD 327 0)), (ckD (l.getD 327 0)), (btD (l.getD 327 0)), ((2 * 2 ^ (l.getD 328 0).toNat : Nat) : Int), (ramH (kindD (l.getD 327 0)) (l.getD 329 0)), false⟩) 1 rfl rfl rfl rfl rfl rfl (Nat.le_of_ble_eq_true rfl) rfl) rfl ?_
                  refine ZBb ?_
                  refine ZAZ ?_
                  refine RW (v := (.int .i64 ((308 + (j + 1) : Nat) : Int))) rfl rfl (congrArg _ ((wrap_i64 o_m o_m).trans o_m)) ?_
                  refine ZAB ?_
                  exact ⟨j + 1, ⟨y_D, fun k hk => by rcases Nat.lt_succ_iff_lt_or_eq.1 hk with h9 | rfl; exact hjn k h9; rw [hcj]; assumption⟩, y_D, .cons (congrArg (Value.int .i64) o_m) .nil, a_g, fun _ h => h.sub (.cons _ (List.Sublist.refl _))⟩
                ·refine ZBa ?_
                 exact ⟨0, trivial, .nil, a_g, fun _ h => h.as (by rw [nameH_stop hjn o_m (by rw [List.getD_eq_getElem?_getD, List.getElem?_take, if_pos o_m, List.getElem?_drop, ← List.getD_eq_getElem?_getD]; simpa using q8)])⟩
               ·refine L_6 ?_
                refine ZDY ?_
                refine ZBa ?_
                exact ⟨0, trivial, .nil, a_g, fun _ h => h.as (by rw [show nameH ((l.drop 308).take 15) = ((((l.drop 308).take 15).take j).map chrH) by rw [nameH_all (fun k hk => hjn k o_m), show ((l.drop 308).take 15).take j = ((l.drop 308).take 15) from List.take_of_length_le o_m]])⟩
             ·rintro _ y34 _
              refine ZA0 ?_
              refine DR [5, 6, 7, 8, 10, 11, 12] (pln [0, 2, 4, 6, 8, 10, 12, 14, 16, 18, 20, 23, 24, 26, 28, 31]) ?_
              refine RD ?_
              refine DY rfl (idx_slice1 (n := l.length) 334 rfl rfl rfl rfl o_m) rfl ?_
              refine DL rfl rfl rfl (s_old (hra _ _ (map_at (j := 334) o_m)) y_z) rfl ?_
              refine DW (v := (.int .i64 (l.getD 334 0))) rfl rfl rfl (as_i64 o_m o_m) ?_
              refine DW (v := (.int .i64 (l.getD 334 0 * 256))) rfl rfl rfl (as_i64 o_m o_m) ?_
              refine RD ?_
              refine DY rfl (idx_slice1 (n := l.length) 335 rfl rfl rfl rfl o_m) rfl ?_
              refine DL rfl rfl rfl (s_old (hra _ _ (map_at (j := 335) o_m)) y_z) rfl ?_
              refine DW (v := (.int .i64 (l.getD 335 0))) rfl rfl rfl (as_i64 o_m o_m) ?_
              refine DW (v := (.int .i64 (l.getD 334 0 * 256 + l.getD 335 0))) rfl rfl rfl (as_i64 o_m o_m) ?_
              refine RD ?_
              refine DZ rfl (x_val call_82 rfl (fun w hw => qsum_fn (some ⟨ba, oa, none⟩) c l hl hb w (hB.later0 hw))) rfl y_b ?_
              rw [if_neg (show ¬ l.length < 336 by omega)]
              have htd := totD_ok l l.length
              refine DW (v := (.int .i64 (totD l l.length))) rfl rfl rfl (as_i64 o_m o_m) ?_
              refine D_2 ?_
              refine DZ rfl (x_storeTo (l' := cHd (hdD l)) 0 rfl rfl rfl rfl rfl rfl (Nat.le_of_ble_eq_true rfl) rfl) rfl n_h ?_
              refine ZAC ?_
              refine ZEb ?_
              refine ZAA ?_
              refine RZ (x_loadA rfl rfl rfl (row_own (b := b1) (l := cHd (hdD l)) m_m)) rfl ?_
              refine RZ (x_storeTo (l' := cHd (hdD l)) 1 rfl rfl rfl rfl rfl rfl (Nat.le_of_ble_eq_true rfl) rfl) rfl ?_
              refine ZAC ?_
              refine ZAI ?_
              have e9 : errH l = 0 := by unfold errH; rw [if_neg o_m, if_neg y_bb, sort_kind (hb.get 327)]; rw [if_neg o_m]; dsimp only; rw [if_neg o_m, if_neg (by simpa using q6)]
              exact l_end0 (fun w hw => rets_cell2 rfl rfl rfl (row_own (b := b0) (l := cHd (hdD l)) m_m w hw) rfl) ⟨rfl, by rw [e9, if_pos rfl, hdD_eq hb e9]⟩
end Go.Proofs.YtldehodcfajpjaaGreat
namespace Go.Proofs.YtldehodcfajpjaaGreat
open Go Go.VV
theorem peek_first {rom : List Int} (he : errH rom = 0) : peekM 256 (newM rom) = rom.getD 256 0 := by
 rw [peek_rom y_c]
 have h : romB 256 (newM rom).bk = 256 := by
  have hb : bankB 256 (newM rom).bk = 0 := by
   unfold bankB
   split
   ·rfl
   ·have hn : numB 256 (newM rom).bk = 0 := by
     unfold numB
     repeat' split
     all_goals first | rfl | (rename_i h9; cases h9) | (rename_i h9 _; exact absurd h9 y_c) | (rename_i h9; exact absurd h9 y_c)
    rw [hn]; exact Int.zero_emod _
  unfold romB; rw [hb]; rfl
 rw [h]
 rfl
theorem peek_firstW (rom : List Int) : peekM 49152 (newM rom) = 0 := by
 rw [peek_work y_c]
 show (List.replicate 8192 (0 : Int)).getD 0 0 = 0
 rfl
theorem cut_odd (c : Int) (h : 0 ≤ c ∧ c < 256) : ∃ z : Nat, c % 2 * c = (z : Int) ∧ z ≤ 255 := by
 rcases (show c % 2 = 0 ∨ c % 2 = 1 by omega) with e | e <;> rw [e]
 ·exact ⟨0, y_D, y_D⟩
 ·exact ⟨c.toNat, y_D, y_D⟩
theorem cut_none {l : List Int} {z : Nat} (hl : l.length = 65536) (hz : z ≤ 255) (hb : Byts l) (he : errH (l.take (65536 - z)) = 0) : z = 0 := by
 obtain ⟨_, _, _, h1, _, h2⟩ := errH_zero he
 have h3 : (l.take (65536 - z)).length = 65536 - z := by rw [List.length_take]; omega
 rw [h3] at h2
 generalize (l.take (65536 - z)).getD 328 0 = b at h1 h2
 have hb0 : b.toNat ≤ 8 := by omega
 rcases (show b.toNat = 0 ∨ b.toNat = 1 ∨ b.toNat = 2 ∨ b.toNat = 3 ∨ b.toNat = 4 ∨ b.toNat = 5 ∨ b.toNat = 6 ∨ b.toNat = 7 ∨ b.toNat = 8 by omega) with e | e | e | e | e | e | e | e | e <;> rw [e] at h2 <;> (first | omega | (simp at h2; omega))
end Go.Proofs.YtldehodcfajpjaaGreat
namespace Go.Proofs.YtldehodcfajpjaaGreat
open Go Go.VV Go.Proofs Go.RowKit
theorem first_fn (w : World) : Does Tryz.prog 15 [] w [] (fun v H => H = [] ∧ v = .agg (cS ⟨newR, false, false, false, false⟩).toArray) := by
 refine does_of Tryz.func15 rfl rfl rfl (St.refl w) ?_
 refine ZAA ?_
 refine ZEI ?_
 refine ZC8 fun b0 => ?_
 refine ZAb ?_
 refine ZAA ?_
 refine RS ?_
 refine ZEI ?_
 rintro _ _ ⟨b1, rfl, rfl⟩
 refine RZ (x_storeTo (l' := (cS ⟨⟨0, 0, 0, 0, 0, 0, 0, 0, 0, 0⟩, false, false, false, false⟩)) 0 rfl rfl rfl rfl rfl rfl (Nat.le_of_ble_eq_true rfl) rfl) rfl ?_
 refine ZBb ?_
 refine ZAU ?_
 refine RZ (x_storeTo (l' := (cS ⟨⟨1, 0, 0, 0, 0, 0, 0, 0, 0, 0⟩, false, false, false, false⟩)) 0 rfl rfl rfl rfl rfl rfl (Nat.le_of_ble_eq_true rfl) rfl) rfl ?_
 refine ZAC ?_
 refine L_2 ?_
 refine RZ (x_storeTo (l' := (cS ⟨⟨1, 176, 0, 0, 0, 0, 0, 0, 0, 0⟩, false, false, false, false⟩)) 0 rfl rfl rfl rfl rfl rfl (Nat.le_of_ble_eq_true rfl) rfl) rfl ?_
 refine ZAC ?_
 refine L_2 ?_
 refine RZ (x_storeTo (l' := (cS ⟨⟨1, 176, 0, 19, 0, 0, 0, 0, 0, 0⟩, false, false, false, false⟩)) 0 rfl rfl rfl rfl rfl rfl (Nat.le_of_ble_eq_true rfl) rfl) rfl ?_
 refine ZAC ?_
 refine L_2 ?_
 refine RZ (x_storeTo (l' := (cS ⟨⟨1, 176, 0, 19, 0, 216, 0, 0, 0, 0⟩, false, false, false, false⟩)) 0 rfl rfl rfl rfl rfl rfl (Nat.le_of_ble_eq_true rfl) rfl) rfl ?_
 refine ZAC ?_
 refine L_2 ?_
 refine RZ (x_storeTo (l' := (cS ⟨⟨1, 176, 0, 19, 0, 216, 1, 0, 0, 0⟩, false, false, false, false⟩)) 0 rfl rfl rfl rfl rfl rfl (Nat.le_of_ble_eq_true rfl) rfl) rfl ?_
 refine ZAC ?_
 refine L_2 ?_
 refine RZ (x_storeTo (l' := (cS ⟨⟨1, 176, 0, 19, 0, 216, 1, 77, 0, 0⟩, false, false, false, false⟩)) 0 rfl rfl rfl rfl rfl rfl (Nat.le_of_ble_eq_true rfl) rfl) rfl ?_
 refine ZAC ?_
 refine L_2 ?_
 refine RZ (x_storeTo (l' := (cS ⟨⟨1, 176, 0, 19, 0, 216, 1, 77, 65534, 0⟩, false, false, false, false⟩)) 0 rfl rfl rfl rfl rfl rfl (Nat.le_of_ble_eq_true rfl) rfl) rfl ?_
 refine ZAC ?_
 refine L_2 ?_
 refine RZ (x_storeTo (l' := (cS ⟨⟨1, 176, 0, 19, 0, 216, 1, 77, 65534, 256⟩, false, false, false, false⟩)) 0 rfl rfl rfl rfl rfl rfl (Nat.le_of_ble_eq_true rfl) rfl) rfl ?_
 refine ZBb ?_
 refine ZAA ?_
 refine RZ (x_loadA rfl rfl rfl (row_own (b := b1) (l := (cS ⟨newR, false, false, false, false⟩)) m_m)) rfl ?_
 refine RZ (x_storeTo (l' := (cS ⟨newR, false, false, false, false⟩)) 1 rfl rfl rfl rfl rfl rfl (Nat.le_of_ble_eq_true rfl) rfl) rfl ?_
 refine ZBb ?_
 refine c_ret ?_
 exact l_end0 (fun w hw => rets_cell rfl rfl rfl (row_own (b := b0) (l := (cS ⟨newR, false, false, false, false⟩)) m_m w hw)) ⟨rfl, rfl⟩
theorem newNoC (ob oc : Nat) (rom : List Int) (hl : rom.length ≤ 100000000) (hc : rom.length ≤ oc) (hb : Byts rom) (he : errH rom ≠ 0) (pa : Option Addr) (n pc : Nat) (w : World) (hr : Row w ob 0 (rom.map (Value.int .u8))) :
  Does Tryz.prog 11 [.slice (some ⟨ob, 0, none⟩) rom.length oc, .slice pa n pc] w [] (fun v H => H = [] ∧ v = .tuple #[.pointer none, .int .i64 (errH rom)]) :=
 (newM_fn ob oc rom hl hb hc pa n pc w hr).mono fun v H h => by
  rcases h with ⟨_, h1, h2⟩ | ⟨h1, _⟩
  ·exact ⟨h2, h1⟩
  ·exact absurd h1 he
set_option maxHeartbeats 2000000 in
theorem loads_fn (g : Gm) (a x c : Int) (ha9 : 0 ≤ a ∧ a < 256) (hx9 : 0 ≤ x ∧ x < 256) (hc9 : 0 ≤ c ∧ c < 256) (w : World) (hg : g.Ok w) : Does Tryz.prog 5 [.agg (cGm g).toArray, .int .u8 a, .int .u8 x, .int .u8 c] w [] (fun v H => H = [] ∧ v = .bool true) := by
 have hl9 : (romG g).length = 65536 := romG_len g
 have hby9 := romG_byts hg
 obtain ⟨z, hz, hz2⟩ := cut_odd c hc9
 have hlf : (flipL (romG g) (308 + (a % 26).toNat) x).length = 65536 := by rw [flipL_len]; exact hl9
 have hbf : Byts (flipL (romG g) (308 + (a % 26).toNat) x) := flipL_byts hby9 _ _
 have hlb : ((flipL (romG g) (308 + (a % 26).toNat) x).take (65536 - z)).length = 65536 - z := by rw [List.length_take]; omega
 have hbb : Byts ((flipL (romG g) (308 + (a % 26).toNat) x).take (65536 - z)) := fun y hy => hbf y (List.mem_of_mem_take hy)
 refine does_of Tryz.func5 rfl rfl rfl (St.refl w) ?_
 refine ZA0 ?_
 rcases (show (fewG g = false) ∨ (fewG g = true ∧ errH ((flipL (romG g) (308 + (a % 26).toNat) x).take (65536 - z)) ≠ 0) ∨ (fewG g = true ∧ errH ((flipL (romG g) (308 + (a % 26).toNat) x).take (65536 - z)) = 0) by cases hf9 : fewG g <;> by_cases he9 : errH ((flipL (romG g) (308 + (a % 26).toNat) x).take (65536 - z)) = 0 <;> simp [he9]) with hf9 | ⟨hf9, he9⟩ | ⟨hf9, he9⟩
 ·refine ZAP ?_
  refine ZAt fun b0 => ?_
  refine ZAB ?_
  refine ZBX ?_
  refine ZEv ?_
  refine ZAl ?_
  refine Rl ?_
  refine l_sure true rfl rfl rfl y_bx ?_
  refine ZAj ?_
  refine ZAA ?_
  exact ZEh
 ·refine ZAP ?_
  refine ZAt fun b0 => ?_
  refine ZAB ?_
  refine ZBX ?_
  refine ZEv ?_
  refine ZAl ?_
  refine ZCA ?_
  refine ZBL ?_
  refine ZCM ?_
  refine RX (x_call call_12 rfl (fun w hw => rom_fn g w (hg.later hw) y_cu)) rfl ?_
  rintro _ _ ⟨_, ⟨b1, rfl, rfl⟩, rfl⟩
  refine ZCT ?_
  refine ZEC ?_
  refine RW (v := (.int .i64 a)) rfl rfl (as_i64 o_m o_m) ?_
  refine ZDn ?_
  refine ZEa ?_
  refine Rl ?_
  refine RW (l_xor rfl rfl) rfl rfl ?_
  refine ZDR ?_
  refine ZBb ?_
  refine ZAU ?_
  refine RW (v := (.int .i64 65536)) l_n rfl (by rw [hl9]; rfl) ?_
  refine Rl ?_
  refine RW (v := (.int .u8 (c % 2))) (rem_pos rfl rfl y_c) rfl (congrArg _ (Int.tmod_eq_emod_of_nonneg o_m)) ?_
  refine RW (v := (.int .i64 (c % 2))) rfl rfl (as_i64 o_m o_m) ?_
  refine Rl ?_
  refine RW (v := (.int .i64 c)) rfl rfl (as_i64 o_m o_m) ?_
  refine RW (v := (.int .i64 (z : Int))) rfl rfl (congrArg _ ((wrap_i64 o_m o_m).trans hz)) ?_
  refine ZC5 ?_
  refine ZEl ?_
  refine RZ (x_loadA rfl rfl rfl (row_own (b := b0) (l := cGm g) y_l)) rfl ?_
  refine RX (x_call call_13 rfl (fun w hw => plan_fn g w (hg.later hw) y_cu)) rfl ?_
  rintro _ _ ⟨Gp, ⟨pa, pc, rfl, hP⟩, rfl⟩
  refine RZ (x_val call_11 rfl (fun w hw => newNoC b1 (romG g).length ((flipL (romG g) (308 + (a % 26).toNat) x).take (65536 - z)) o_m o_m hbb he9 pa g.plan.length pc w y_ej)) rfl ?_
  refine ZBA ?_
  refine ZAV ?_
  refine RZ (x_val call_33 rfl (fun w hw => qparse_fn (some ⟨b1, 0, none⟩) (romG g).length ((flipL (romG g) (308 + (a % 26).toNat) x).take (65536 - z)) o_m hbb w (Ns.of y_ej))) rfl ?_
  rw [if_neg he9]
  refine ZBQ ?_
  refine ZEH ?_
  rintro _ _ ⟨b2, rfl, rfl⟩
  refine ZCv ?_
  refine ZAB ?_
  refine ZCd ?_
  refine l_sure false rfl rfl rfl y_z ?_
  refine L_2 ?_
  refine l_sure true rfl rfl rfl (by simpa using he9) ?_
  refine ZAB ?_
  refine ZDu ?_
  refine ZAU ?_
  refine l_sure true rfl rfl rfl y_z ?_
  refine L_2 ?_
  refine ZAf ?_
  exact ZBM
 ·refine ZAP ?_
  refine ZAt fun b0 => ?_
  refine ZAB ?_
  refine ZBX ?_
  refine ZEv ?_
  refine ZAl ?_
  refine ZCA ?_
  refine ZBL ?_
  refine ZCM ?_
  refine RX (x_call call_12 rfl (fun w hw => rom_fn g w (hg.later hw) y_cu)) rfl ?_
  rintro _ _ ⟨_, ⟨b1, rfl, rfl⟩, rfl⟩
  refine ZCT ?_
  refine ZEC ?_
  refine RW (v := (.int .i64 a)) rfl rfl (as_i64 o_m o_m) ?_
  refine ZDn ?_
  refine ZEa ?_
  refine Rl ?_
  refine RW (l_xor rfl rfl) rfl rfl ?_
  refine ZDR ?_
  refine ZBb ?_
  refine ZAU ?_
  refine RW (v := (.int .i64 65536)) l_n rfl (by rw [hl9]; rfl) ?_
  refine Rl ?_
  refine RW (v := (.int .u8 (c % 2))) (rem_pos rfl rfl y_c) rfl (congrArg _ (Int.tmod_eq_emod_of_nonneg o_m)) ?_
  refine RW (v := (.int .i64 (c % 2))) rfl rfl (as_i64 o_m o_m) ?_
  refine Rl ?_
  refine RW (v := (.int .i64 c)) rfl rfl (as_i64 o_m o_m) ?_
  refine RW (v := (.int .i64 (z : Int))) rfl rfl (congrArg _ ((wrap_i64 o_m o_m).trans hz)) ?_
  refine ZC5 ?_
  refine ZEl ?_
  refine RZ (x_loadA rfl rfl rfl (row_own (b := b0) (l := cGm g) y_l)) rfl ?_
  refine RX (x_call call_13 rfl (fun w hw => plan_fn g w (hg.later hw) y_cu)) rfl ?_
  rintro _ _ ⟨Gp, ⟨pa, pc, rfl, hP⟩, rfl⟩
  obtain rfl : z = 0 := cut_none hlf hz2 hbf he9
  have hRB : (flipL (romG g) (308 + (a % 26).toNat) x) = ((flipL (romG g) (308 + (a % 26).toNat) x).take (65536 - 0)) := (List.take_of_length_le o_m).symm
  refine l_heap (fun _ h => h.as (by rw [← hRB])) (H' := Gp ++ [(b1, blk (((flipL (romG g) (308 + (a % 26).toNat) x).take (65536 - 0)).map (Value.int .u8)) 5), (b0, blk (cGm g) 25)]) ?_
  rw [show (.slice (some ⟨b1, 0, none⟩) ((flipL (romG g) (308 + (a % 26).toNat) x).take (65536 - 0)).length (romG g).length : Value) = .slice (some ⟨b1, 0, none⟩) ((flipL (romG g) (308 + (a % 26).toNat) x).take (65536 - 0)).length ((flipL (romG g) (308 + (a % 26).toNat) x).take (65536 - 0)).length by rw [hlb, hl9]]
  refine RX (x_callMA (F := Gp) (A := [(b1, blk (((flipL (romG g) (308 + (a % 26).toNat) x).take (65536 - 0)).map (Value.int .u8)) 5)]) (G := [(b0, blk (cGm g) 25)]) call_11 rfl (fun w hw _ => newLO b1 ((flipL (romG g) (308 + (a % 26).toNat) x).take (65536 - 0)) o_m hbb he9 pa g.plan.length pc _ w hw)) rfl ?_
  rintro _ _ ⟨_, ⟨q, hob, hq, rfl, rfl⟩, rfl⟩
  have hi9 : MInv (newM ((flipL (romG g) (308 + (a % 26).toNat) x).take (65536 - 0))) True (newM ((flipL (romG g) (308 + (a % 26).toNat) x).take (65536 - 0))) := newM_inv he9 hbb
  refine ZBA ?_
  refine ZAV ?_
  refine RZ (x_val call_33 rfl (fun w hw => qparse_fn (some ⟨b1, 0, none⟩) ((flipL (romG g) (308 + (a % 26).toNat) x).take (65536 - 0)).length ((flipL (romG g) (308 + (a % 26).toNat) x).take (65536 - 0)) o_m hbb w (Ns.of (by have h9 := (hM_rows hw (q := q) (m := newM ((flipL (romG g) (308 + (a % 26).toNat) x).take (65536 - 0))) (fun _ h => List.mem_append_right _ (List.mem_append_left _ h))).2.2.2; rw [hob] at h9; exact h9)))) rfl ?_
  rw [if_pos he9, he9]
  refine ZBQ ?_
  refine ZEH ?_
  rintro _ _ ⟨b2, rfl, rfl⟩
  refine RZ (x_storeTo (l' := cHd (hdH ((flipL (romG g) (308 + (a % 26).toNat) x).take (65536 - 0)))) 0 rfl rfl rfl rfl rfl rfl (Nat.le_of_ble_eq_true rfl) rfl) rfl ?_
  refine ZAC ?_
  refine ZAB ?_
  refine ZCd ?_
  refine ZAd ?_
  refine L_2 ?_
  refine ZAd ?_
  refine ZAB ?_
  refine ZAK ?_
  refine ZAA ?_
  refine RLv call_15 (fun w hw => first_fn w) ?_
  refine ZEI ?_
  rintro _ _ ⟨b3, rfl, rfl⟩
  refine RZ (x_storeTo (l' := (cS ⟨newR, false, false, false, false⟩)) 0 rfl rfl rfl rfl rfl rfl (Nat.le_of_ble_eq_true rfl) rfl) rfl ?_
  refine ZBb ?_
  refine ZA0 ?_
  refine c_drawF _ [1, 6, 14, 16, 22] [0, 1, 0, 7, 15, 31, 63, 31, 159, 415, 1023, 2047, 4095, 8191, 16383, 8191, 65535, 131071, 262143, 524287, 1048575, 2097151, 4194303, 2097151, 10485759, 27262975, 67108863, 134217727, 268435455, 536870911, 1073741823, 2147483647, 4294967295, 8589934591, 17179869183, 34359738367, 68719476735, 137438953471, 274877906943, 549755813887] (.step true 0 (.step true 2 (.step false 1 (.step true 3 (.step true 4 (.step true 5 (.step true 7 (.step true 8 (.step true 9 (.step false 6 (.step true 10 (.step true 11 (.step true 12 (.step true 13 (.step true 15 (.step false 14 (.step false 16 (.step true 17 (.step true 18 (.step true 19 (.step true 20 (.step true 21 (.step true 23 (.step true 24 (.step true 25 (.step false 22 (.step true 26 (.step true 27 (.step true 28 (.step true 29 (.step false 30 (.step true 31 (.step true 32 (.step true 33 (.step true 34 (.step false 35 (.step false 36 (.step true 37 (.step true 38 (.step true 39 .done)))))))))))))))))))))))))))))))))))))))) rfl y_g y_g y_g (fun _ h => h) ?_
  refine RD ?_
  refine d_loadA rfl rfl rfl rfl (srow_own (b := b2) (l := cHd (hdH ((flipL (romG g) (308 + (a % 26).toNat) x).take (65536 - 0)))) m_m) rfl rfl ?_
  refine DZ rfl (x_val call_34 rfl (fun w hw => headerM_fn q.A q.va _ hi9.wf.ln w (hM_rows hw (q := q) (fun _ h => (.tail _ (.tail _ (List.mem_append_right _ (List.mem_append_left _ h)))))).1)) rfl y_b ?_
  rw [show ((newM ((flipL (romG g) (308 + (a % 26).toNat) x).take (65536 - 0)))).hd = hdH ((flipL (romG g) (308 + (a % 26).toNat) x).take (65536 - 0)) from rfl]
  refine d_eqs (ks := [.str, .int .i64, .bool, .bool, .int .i64, .int .i64, .bool]) rfl rfl rfl y_g y_g rfl rfl rfl rfl (b := true) (lveq_refl (ks := [.str, .int .i64, .bool, .bool, .int .i64, .int .i64, .bool]) rfl) ?_
  refine D_3 ?_
  refine d_loadA rfl rfl rfl rfl (srow_own_at m_m _ 10 rfl) rfl rfl ?_
  refine ZEL ?_
  refine DZ rfl (x_val call_23 rfl (fun w hw => stateL hi9.wf hw (q := q) (fun _ h => (.tail _ (.tail _ (List.mem_append_right _ (List.mem_append_left _ h))))))) rfl y_b ?_
  rw [show ((newM ((flipL (romG g) (308 + (a % 26).toNat) x).take (65536 - 0)))).cpu = ⟨newR, false, false, false, false⟩ from rfl]
  refine d_eqs (ks := [.int .u8, .int .u8, .int .u8, .int .u8, .int .u8, .int .u8, .int .u8, .int .u8, .int .u16, .int .u16, .bool, .bool, .bool, .bool]) rfl rfl rfl y_g y_g rfl rfl rfl rfl (b := true) (lveq_refl (ks := [.int .u8, .int .u8, .int .u8, .int .u8, .int .u8, .int .u8, .int .u8, .int .u8, .int .u16, .int .u16, .bool, .bool, .bool, .bool]) rfl) ?_
  iterate 4 refine RD ?_
  refine DZ rfl (x_val call_29 rfl (fun w hw => stepsL hi9.wf hw (q := q) (fun _ h => (.tail _ (.tail _ (List.mem_append_right _ (List.mem_append_left _ h))))))) rfl y_b ?_
  rw [show ((newM ((flipL (romG g) (308 + (a % 26).toNat) x).take (65536 - 0)))).steps = 0 from rfl]
  refine DZ rfl (x_val call_24 rfl (fun w hw => cyclesL hi9.wf hw (q := q) (fun _ h => (.tail _ (.tail _ (List.mem_append_right _ (List.mem_append_left _ h))))))) rfl y_b ?_
  rw [show ((newM ((flipL (romG g) (308 + (a % 26).toNat) x).take (65536 - 0)))).cycles = 0 from rfl]
  refine DW (v := (.int .u64 0)) rfl rfl rfl rfl ?_
  refine d_sure true rfl rfl rfl rfl rfl ?_
  iterate 4 refine RD ?_
  refine DY rfl (idx_slice1 256 rfl rfl rfl rfl o_m) rfl ?_
  refine DL rfl rfl rfl (by rw [← hob]; exact s_own (v := .int .u8 (((flipL (romG g) (308 + (a % 26).toNat) x).take (65536 - 0)).getD 256 0)) (b := q.A.ob) (.tail _ (.tail _ (List.mem_append_right _ (List.mem_append_left _ (.tail _ (.tail _ (.tail _ (.tail _ (.head _))))))))) (by rw [Nat.zero_add, List.getElem?_append_left (by rw [List.length_map]; show 256 < ((flipL (romG g) (308 + (a % 26).toNat) x).take (65536 - 0)).length; omega)]; exact map_at (l := ((flipL (romG g) (308 + (a % 26).toNat) x).take (65536 - 0))) (j := 256) o_m)) rfl ?_
  refine DZ rfl (x_val call_25 rfl (fun w hw => peekL hi9.wf hw (q := q) (fun _ h => (.tail _ (.tail _ (List.mem_append_right _ (List.mem_append_left _ h))))) 256 y_c)) rfl y_b ?_
  rw [peek_first he9]
  refine ZEr ?_
  iterate 3 refine RD ?_
  refine DZ rfl (x_val call_25 rfl (fun w hw => peekL hi9.wf hw (q := q) (fun _ h => (.tail _ (.tail _ (List.mem_append_right _ (List.mem_append_left _ h))))) 49152 y_c)) rfl n_h ?_
  rw [peek_firstW]
  refine d_sure true rfl rfl rfl rfl rfl ?_
  iterate 3 refine RD ?_
  refine DZ rfl (x_val call_35 rfl (fun w hw => videoM_fn q.A q.va _ hi9.wf.ln w (hM_rows hw (q := q) (fun _ h => (.tail _ (.tail _ (List.mem_append_right _ (List.mem_append_left _ h)))))).1)) rfl n_h ?_
  refine DZ rfl (x_val call_36 rfl (fun w hw => line_fnU q.A.ub _ hi9.wf.u.wf w (hM_rows hw (q := q) (fun _ h => (.tail _ (.tail _ (List.mem_append_right _ (List.mem_append_left _ h)))))).2.1)) rfl n_h ?_
  rw [show ((newM ((flipL (romG g) (308 + (a % 26).toNat) x).take (65536 - 0)))).u.line = 0 from rfl]
  refine d_sure true rfl rfl rfl rfl rfl ?_
  refine D_2 ?_
  refine ZBe ?_
  exact E0 rfl ⟨rfl, rfl⟩
end Go.Proofs.YtldehodcfajpjaaGreat
