/- What a list that was made stands in; whether two entries are one. Plain laws, no program. -/
import Derived.Test.YtldehodcfajpjaaGreatQcK
set_option linter.unusedSimpArgs false
set_option linter.unusedVariables false
set_option maxRecDepth 100000
namespace Go.VV
open Go
theorem x_slc0 {Γ : Ctx} {e : Env} {H : Heap} {d : Option Nat} {ty : TypeId} {pos : String} {af : Array Edge} {g : Option (Nat × Bool)} {t el n : Nat} (hu : slcP Γ.P t = some (el, n)) :
  Op1 Γ ⟨d, .buildSlice t 0 #[], ty, pos, af, g⟩ e H (fun u H' => ∃ b, u = .slice (some ⟨b, 0, none⟩) 0 0 ∧ H' = (b, blk [] el) :: H) := by
 intro w hw
 obtain ⟨h1, h2⟩ := slcP_spec hu
 refine opW_run (v := .slice (some ⟨w.heap.size, 0, none⟩) 0 0) (w' := w.alloc (blk [] el)) ?_ ⟨_, hw.alloc _, _, rfl, rfl⟩
 have h3 : ¬ (0 : Nat) > 2 ^ 24 := by decide
 have hq : (#[] : Array (Nat × Operand)).map (fun x => (x.1, ev e x.2)) = #[] := by simp
 have hm : (Array.range 0).map (fun x => (#[] : Array Value)[x % (#[] : Array Value).size]!) = #[] := by simp
 have key : (Instr.buildSlice t 0 #[]).run Γ.P w = .ok (.slice (some ⟨w.heap.size, 0, none⟩) 0 0) (w.alloc (blk [] el)) := by
  unfold Instr.buildSlice
  simp only [Sem.run_bind, run_underlying h1, run_sizeOf h2, Result.andThen_ok, Nat.zero_mul, if_true, if_neg h3, Sem.run_pure, hm, Instr.fill]
  rfl
 simp only [execOp, hq, Sem.run_bind, key, Result.andThen_ok, Sem.run_pure]
end Go.VV
namespace Go.VV
open Go Go.RowKit
theorem putI_mid {A Z B : List Int} {n : Nat} (h : A.length = n) : putI (A ++ Z) n B = A ++ B ++ Z.drop B.length := by
 subst h
 unfold putI
 rw [List.take_left, List.drop_append]
 simp
theorem putI_all {l vs : List Int} (h : vs.length = l.length) : putI l 0 vs = vs := by
 unfold putI; simp [h]
theorem getD_drop (l : List Int) (n j : Nat) : (l.drop n).getD j 0 = l.getD (n + j) 0 := by simp [List.getD_eq_getElem?_getD, List.getElem?_drop]
theorem getD_take (l : List Int) {n j : Nat} (h : j < n) : (l.take n).getD j 0 = l.getD j 0 := by rw [List.getD_eq_getElem?_getD, List.getElem?_take_of_lt h, ← List.getD_eq_getElem?_getD]
end Go.VV
namespace Go.VV
open Go Go.RowKit
theorem any_at {l : List Int} {i : Nat} (hi : i < l.length) (h : 3 < l.getD i 0) : (l.any fun x => decide (3 < x)) = true := by
 rw [List.any_eq_true]
 refine ⟨l[i], List.getElem_mem hi, ?_⟩
 rw [List.getD_eq_getElem?_getD, List.getElem?_eq_getElem hi] at h
 simpa using h
theorem any_none {l : List Int} (h : ∀ j, j < l.length → ¬ 3 < l.getD j 0) : (l.any fun x => decide (3 < x)) = false := by
 rw [List.any_eq_false]
 intro x hx
 obtain ⟨i, hi, rfl⟩ := List.getElem_of_mem hx
 have := h i hi
 rw [List.getD_eq_getElem?_getD, List.getElem?_eq_getElem hi] at this
 simpa using this
theorem two_law {x y : Int} (hx : 0 ≤ x ∧ x < 256) (hy : 0 ≤ y ∧ y < 256) : bor .i64 x (256 * y) = x + 256 * y := by
 rw [bor_nat hx.1 (by show _ < (9223372036854775808 : Int); omega) (by omega) (by show _ < (9223372036854775808 : Int); omega)]
 have h1 : (256 * y).toNat = 2 ^ 8 * y.toNat := by omega
 rw [h1, Nat.or_comm, ← Nat.two_pow_add_eq_or_of_lt (by omega)]
 omega
end Go.VV
namespace Go.Proofs.YtldehodcfajpjaaGreat
open Go Go.VV
def decRu (l : List Int) : List Int := ((l.drop 8352).take 6 ++ 0 :: (l.drop 8358).take 5).set 4 0
def decU (l : List Int) : PU := ⟨l.take 8192, (l.drop 8192).take 160, decRu l, l.getD 8356 0, l.getD 8363 0, l.getD 8364 0, l.getD 8365 0 + 256 * l.getD 8366 0, l.getD 8367 0 == 1, l.drop 8368⟩
def decE (l : List Int) : Int := if l.length ≠ 31408 then 6 else if okE l = true then 0 else 5
def decTo (u : PU) (l : List Int) : PU := if decE l = 0 then decU l else u
theorem val_congr {l m : List Int} : ∀ n, (∀ j, j < n → l.getD j 0 = m.getD j 0) → val l n = val m n
 | 0, _ => rfl
 | n + 1, h => by unfold val; rw [val_congr n fun j hj => h j o_m, h n o_m]
theorem dgts_getD {n i : Nat} (h : i < n) (x : Int) : (dgts n x).getD i 0 = dgt x i := by
 unfold dgts; rw [List.getD_eq_getElem?_getD, List.getElem?_map, List.getElem?_range h]; rfl
theorem val_dgts (x : Int) : ∀ n m, n ≤ m → val (dgts m x) n = x % 256 ^ n
 | 0, _, _ => by show (0 : Int) = x % 1; omega
 | n + 1, m, h => by
  show val (dgts m x) n + (dgts m x).getD n 0 * 256 ^ n = _
  rw [val_dgts x n m o_m, dgts_getD o_m, Int.pow_succ]
  unfold dgt
  have hp := p256 n
  have e1 := Int.emod_add_mul_ediv x (256 ^ n)
  have e2 := Int.emod_add_mul_ediv (x / 256 ^ n) 256
  have e3 : x / (256 ^ n * 256) = x / 256 ^ n / 256 := (Int.ediv_ediv_of_nonneg o_m).symm
  have e4 := Int.emod_add_mul_ediv x (256 ^ n * 256)
  rw [e3] at e4
  have e5 : 256 ^ n * 256 * (x / 256 ^ n / 256) = 256 ^ n * (256 * (x / 256 ^ n / 256)) := Int.mul_assoc ..
  have e6 : 256 ^ n * (x / 256 ^ n) = 256 ^ n * (x / 256 ^ n % 256) + 256 ^ n * (256 * (x / 256 ^ n / 256)) := by rw [← Int.mul_add, e2]
  have e7 : x / 256 ^ n % 256 * 256 ^ n = 256 ^ n * (x / 256 ^ n % 256) := Int.mul_comm ..
  omega
theorem byts_take {a : List Int} (h : Byts a) (n : Nat) : Byts (a.take n) := fun x hx => h x (List.mem_of_mem_take hx)
def putsT (k : FK) : List Nat → List Value → List Int → Nat → List Value
 | [], L, _, _ => L
 | o :: os, L, bs, p => putsT k os (putL L o [k.cell (vt bs p k.many)]) bs (p + k.many)
theorem passes_puts {k : FK} (bs : List Int) : ∀ {os : List Nat} {L : List Value} {p q : Nat}, q = p + os.length * k.many → passes true k os (L, bs.drop p) = (putsT k os L bs p, bs.drop q)
 | [], L, p, q, h => by
  have : q = p := by simpa using h
  subst this; rfl
 | o :: os, L, p, q, h => by
  show passes true k os (putL L o [k.cell (val (bs.drop p) k.many)], (bs.drop p).drop k.many) = _
  rw [List.drop_drop, passes_puts bs (q := q) (by rw [h, List.length_cons, Nat.succ_mul]; omega)]
  rfl
theorem pass8_puts {o : Nat} (bs : List Int) {L : List Value} {p q : Nat} (h : q = p + 8) : pass1 true (.long 8) (L, bs.drop p) o = (putsT (.long 8) [o] L bs p, bs.drop q) := by
 subst h
 show (putL L o _, (bs.drop p).drop 8) = _
 rw [List.drop_drop]
 rfl
theorem putsT_app {k : FK} : ∀ {a b : List Nat} {L : List Value} {bs : List Int} {p : Nat}, putsT k (a ++ b) L bs p = putsT k b (putsT k a L bs p) bs (p + a.length * k.many)
 | [], b, L, bs, p => by simp [putsT]
 | o :: a, b, L, bs, p => by
  show putsT k (a ++ b) _ bs (p + k.many) = putsT k b (putsT k a _ bs (p + k.many)) bs _
  rw [putsT_app, List.length_cons, Nat.succ_mul, show p + k.many + a.length * k.many = p + (a.length * k.many + k.many) by omega]
theorem putsT_right {k : FK} {X : List Value} {n : Nat} (hX : X.length = n) : ∀ {os : List Nat} {Y : List Value} {bs : List Int} {p : Nat}, (∀ o ∈ os, o < Y.length) → putsT k (os.map (n + ·)) (X ++ Y) bs p = X ++ putsT k os Y bs p
 | [], _, _, _, _ => rfl
 | o :: os, Y, bs, p, h => by
  have ho := h o (.head _)
  show putsT k (os.map (n + ·)) (putL (X ++ Y) (n + o) _) bs (p + k.many) = X ++ putsT k os (putL Y o _) bs (p + k.many)
  rw [putL_right (n := o) (by rw [hX]) y_cN, putsT_right hX fun x hx => by rw [putL_len1 ho]; exact h x (.tail _ hx)]
theorem putsT_left {k : FK} {Y : List Value} : ∀ {os : List Nat} {X : List Value} {bs : List Int} {p : Nat}, (∀ o ∈ os, o < X.length) → putsT k os (X ++ Y) bs p = putsT k os X bs p ++ Y
 | [], _, _, _, _ => rfl
 | o :: os, X, bs, p, h => by
  have ho := h o (.head _)
  show putsT k os (putL (X ++ Y) o _) bs (p + k.many) = putsT k os (putL X o _) bs (p + k.many) ++ Y
  rw [putL_left y_cN, putsT_left fun x hx => by rw [putL_len1 ho]; exact h x (.tail _ hx)]
theorem vt_one (bs : List Int) (p : Nat) : vt bs p 1 = bs.getD p 0 := by
 unfold vt val val
 rw [getD_drop]
 simp
theorem putsT_row {X Y : List Value} {n a : Nat} (hX : X.length = a) (bs : List Int) (p : Nat) (hb : p + n ≤ bs.length) : ∀ {l : List Int}, l.length = n → ∀ i, i ≤ n →
  putsT .byte (offs a i) (X ++ (l.map (.int .u8) ++ Y)) bs p = X ++ ((((bs.drop p).take i) ++ l.drop i).map (.int .u8) ++ Y)
 | l, hl, 0, _ => by simp [offs, putsT]
 | l, hl, i + 1, hi => by
  have hi' : i < l.length := by omega
  have e : offs a (i + 1) = offs a i ++ [a + i] := by unfold offs; rw [List.range_succ, List.map_append]; rfl
  rw [e, putsT_app, putsT_row hX bs p hb hl i o_m, offs_len]
  show putL _ (a + i) [.int .u8 (vt bs (p + i * 1) 1)] = _
  rw [Nat.mul_one, vt_one, putL_right (n := i) (by rw [hX]) y_cq, putL_left y_cq, putL_int .u8 (by simp only [List.length_append, List.length_take, List.length_drop]; omega)]
  have hlen : ((bs.drop p).take i).length = i := by simp only [List.length_take, List.length_drop]; omega
  have e2 : (((bs.drop p).take i) ++ l.drop i).set i (bs.getD p.succ.pred.succ.pred 0) = (((bs.drop p).take i) ++ l.drop i).set i (bs.getD p 0) := rfl
  have e3 : (((bs.drop p).take i) ++ l.drop i).set i (bs.getD (p + i) 0) = (bs.drop p).take (i + 1) ++ l.drop (i + 1) := by
   rw [List.set_append_right _ _ o_m, hlen, Nat.sub_self, List.drop_eq_getElem_cons hi', List.set_cons_zero, List.take_add_one, List.getElem?_drop, List.append_assoc]
   rw [List.getD_eq_getElem?_getD, List.getElem?_eq_getElem o_m]
   rfl
  rw [e3]
theorem putsT_all {X Y : List Value} {n a : Nat} (hX : X.length = a) {bs : List Int} {p : Nat} (hb : p + n ≤ bs.length) {l : List Int} (hl : l.length = n) : putsT .byte (offs a n) (X ++ (l.map (.int .u8) ++ Y)) bs p = X ++ (((bs.drop p).take n).map (.int .u8) ++ Y) := by
 rw [putsT_row hX bs p hb hl n (Nat.le_refl _), show l.drop n = [] from List.drop_of_length_le o_m, List.append_nil]
def decVs (bs : List Int) (p : Nat) : List Vc := [⟨bo bs p, vt bs (p + 1) 2, vt bs (p + 3) 2, vt bs (p + 5) 2⟩, ⟨bo bs (p + 7), vt bs (p + 8) 2, vt bs (p + 10) 2, vt bs (p + 12) 2⟩, ⟨bo bs (p + 14), vt bs (p + 15) 2, vt bs (p + 17) 2, vt bs (p + 19) 2⟩, ⟨bo bs (p + 21), vt bs (p + 22) 2, vt bs (p + 24) 2, vt bs (p + 26) 2⟩]
def decBd (bs : List Int) : Bd := ⟨(bs.drop 77).take 48, bo bs 125, vt bs 127 2, vt bs 129 2, decVs bs 135, vt bs 131 2, vt bs 133 2, bo bs 126⟩
def dec8 (m : Mm) (bs : List Int) : Mm := { m with
 cpu := ⟨⟨vt bs 0 1, vt bs 1 1, vt bs 2 1, vt bs 3 1, vt bs 4 1, vt bs 5 1, vt bs 6 1, vt bs 7 1, vt bs 14 2, vt bs 16 2⟩, bo bs 20, bo bs 21, bo bs 22, bo bs 23⟩,
 bk := { m.bk with last := vt bs 10 1, on := bo bs 24, mode := bo bs 25, low := vt bs 45 2, high := vt bs 47 2 },
 ck := ⟨vt bs 63 1, vt bs 64 1, vt bs 65 1, vt bs 49 2, vt bs 59 4, bo bs 27, bo bs 28, vt bs 72 1, vt bs 73 1, vt bs 74 1, vt bs 75 1, vt bs 76 1⟩,
 tm := ⟨vt bs 18 2, vt bs 66 1, vt bs 67 1, vt bs 68 1, bo bs 26⟩,
 pd := ⟨vt bs 11 1, vt bs 12 1⟩, pt := ⟨vt bs 69 1, vt bs 70 1, vt bs 71 1, vt bs 51 2, vt bs 53 2, vt bs 55 2⟩, cp := ⟨vt bs 13 1, vt bs 57 2⟩,
 flags := vt bs 8 1, lets := vt bs 9 1, steps := vt bs 29 8, cycles := vt bs 37 8 }
def decM (m : Mm) (bs : List Int) : Mm := { dec8 m bs with bd := decBd bs, work := (bs.drop 163).take 8192, high := (bs.drop 8355).take 127 }
section
variable {A : Ad} {acc : Value} {m : Mm} (h : MLn m) (bs : List Int)
theorem put_hd {k : FK} {os : List Nat} {m' : Mm} {p : Nat} (ho : (os.all fun o => Nat.blt o 49) = true) (h1 : putsT k os (headM m) bs p = headM m') (h2 : cBd m.bd ++ tailM A acc m = cBd m'.bd ++ tailM A acc m') : putsT k os (cMm A acc m) bs p = cMm A acc m' := by
 rw [cMm_eq, putsT_left (fun o hx => by rw [headM_len]; exact Nat.le_of_ble_eq_true (List.all_eq_true.1 ho o hx)), h1, h2, ← cMm_eq]
def dA2 (m : Mm) (bs : List Int) (p : Nat) : Mm := { m with bk := { m.bk with last := vt bs p 1 }, pd := ⟨vt bs (p + 1) 1, vt bs (p + 2) 1⟩, cp := { m.cp with page := vt bs (p + 3) 1 } }
def dB (m : Mm) (bs : List Int) (p : Nat) : Mm := { m with cpu := { m.cpu with ime := bo bs p, soon := bo bs (p + 1), halt := bo bs (p + 2), stop := bo bs (p + 3) }, bk := { m.bk with on := bo bs (p + 4), mode := bo bs (p + 5) }, tm := { m.tm with over := bo bs (p + 6) }, ck := { m.ck with halt := bo bs (p + 7), carry := bo bs (p + 8) } }
def dS (m : Mm) (bs : List Int) (p : Nat) : Mm := { m with ck := { m.ck with sub := vt bs p 4 } }
def dC (m : Mm) (bs : List Int) (p : Nat) : Mm := { m with ck := { m.ck with s := vt bs p 1, m := vt bs (p + 1) 1, h := vt bs (p + 2) 1 }, tm := { m.tm with tima := vt bs (p + 3) 1, tma := vt bs (p + 4) 1, tac := vt bs (p + 5) 1 }, pt := { m.pt with data := vt bs (p + 6) 1, control := vt bs (p + 7) 1, last := vt bs (p + 8) 1 } }
def dH (m : Mm) (bs : List Int) (p : Nat) : Mm := { m with ck := { m.ck with h0 := vt bs p 1, h1 := vt bs (p + 1) 1, h2 := vt bs (p + 2) 1, h3 := vt bs (p + 3) 1, h4 := vt bs (p + 4) 1 } }
theorem put_A1 (p : Nat) : putsT .byte [0, 1, 2, 3, 4, 5, 6, 7] (cMm A acc m) bs p = cMm A acc (dA m bs p) := put_hd bs rfl y_g rfl
theorem put_A2 (p : Nat) : putsT .byte [21, 39, 40, 47] (cMm A acc m) bs p = cMm A acc (dA2 m bs p) := put_hd bs rfl y_g rfl
theorem put_W (p : Nat) : putsT .word gW (cMm A acc m) bs p = cMm A acc (dW m bs p) := put_hd bs rfl y_g rfl
theorem put_B (p : Nat) : putsT .bool gB (cMm A acc m) bs p = cMm A acc (dB m bs p) := put_hd bs rfl y_g rfl
theorem put_I (p : Nat) : putsT (.int 2) gI (cMm A acc m) bs p = cMm A acc (dI m bs p) := put_hd bs rfl y_g rfl
theorem put_S (p : Nat) : putsT (.int 4) [26] (cMm A acc m) bs p = cMm A acc (dS m bs p) := put_hd bs rfl y_g rfl
theorem put_C (p : Nat) : putsT .byte gC (cMm A acc m) bs p = cMm A acc (dC m bs p) := put_hd bs rfl y_g rfl
theorem put_H (p : Nat) : putsT .byte (offs 29 5) (cMm A acc m) bs p = cMm A acc (dH m bs p) := put_hd bs y_c y_g rfl
include h
theorem put_8 (p : Nat) : putsT (.long 8) [121] (cMm A acc m) bs p = cMm A acc { m with steps := vt bs p 8 } := putM_steps h _
theorem put_9 (p : Nat) : putsT (.long 8) [122] (cMm A acc m) bs p = cMm A acc { m with cycles := vt bs p 8 } := putM_cycles h _
theorem put_F (p : Nat) : putsT .byte [119] (cMm A acc m) bs p = cMm A acc { m with flags := vt bs p 1 } := putM_flags h _
theorem put_L (p : Nat) : putsT .byte [120] (cMm A acc m) bs p = cMm A acc { m with lets := vt bs p 1 } := putM_lets h _
omit h in
theorem puts_cut {k : FK} {a b : List Nat} {L : List Value} {p q : Nat} (hq : q = p + a.length * k.many) : putsT k (a ++ b) L bs p = putsT k b (putsT k a L bs p) bs q := by rw [putsT_app, hq]
theorem put_A : putsT .byte gA (cMm A acc m) bs 0 = cMm A acc (dA2 { dA m bs 0 with flags := vt bs 8 1, lets := vt bs 9 1 } bs 10) := by
 have e : gA = [0, 1, 2, 3, 4, 5, 6, 7] ++ ([119] ++ ([120] ++ [21, 39, 40, 47])) := rfl
 have h1 : MLn (dA m bs 0) := ⟨h.bd, h.work, h.high⟩
 have h2 : MLn { dA m bs 0 with flags := vt bs 8 1 } := ⟨h.bd, h.work, h.high⟩
 rw [e, puts_cut bs (q := 8) rfl, put_A1, puts_cut bs (q := 9) rfl, put_F h1, puts_cut bs (q := 10) rfl, put_L h2, put_A2]
end
theorem brdE_len {b : Bd} (h : b.Ln) : (brdE b).length = 22 := by
 unfold brdE
 rw [List.length_append, List.length_append, flat4, h.lV]; rfl
section
variable {A : Ad} {acc : Value} {m : Mm} (h : MLn m) (bs : List Int)
include h
theorem put_R {p : Nat} (hb : p + 48 ≤ bs.length) : putsT .byte (offs 49 48) (cMm A acc m) bs p = cMm A acc { m with bd := { m.bd with regs := (bs.drop p).take 48 } } := by
 rw [cMm_bd, List.append_assoc, putsT_all headM_len hb h.bd.lR, cMm_bd, List.append_assoc]
 rfl
theorem put_bd {k : FK} {os os' : List Nat} {b' : Bd} {p : Nat} (he : os = os'.map (97 + ·)) (ho : (os'.all fun o => Nat.blt o 22) = true) (h1 : putsT k os' (brdE m.bd) bs p = brdE b') (hr : m.bd.regs = b'.regs) : putsT k os (cMm A acc m) bs p = cMm A acc { m with bd := b' } := by
 have hlt : ∀ o ∈ os', o < 22 := fun o hx => Nat.le_of_ble_eq_true (List.all_eq_true.1 ho o hx)
 rw [cMm_bd, he, putsT_right (X := headM m ++ m.bd.regs.map (Value.int .u8)) (n := 97) y_di (fun o hx => by rw [List.length_append, brdE_len h.bd]; have := hlt o hx; omega),
  putsT_left (fun o hx => by rw [brdE_len h.bd]; exact hlt o hx), h1, cMm_bd, hr]
 rfl
theorem put_B1 (p : Nat) : putsT .bool [97, 118] (cMm A acc m) bs p = cMm A acc { m with bd := { m.bd with on := bo bs p, slides := bo bs (p + 1) } } := by
 obtain ⟨a, b, c, d, e⟩ := vs_four h
 refine put_bd h bs (os' := [0, 21]) rfl rfl ?_ rfl
 unfold brdE; rw [e]; kernel_rfl
theorem put_B2 (p : Nat) : putsT (.int 2) [98, 99, 116, 117] (cMm A acc m) bs p = cMm A acc { m with bd := { m.bd with div := vt bs p 2, step := vt bs (p + 2) 2, pitch := vt bs (p + 4) 2, slide := vt bs (p + 6) 2 } } := by
 obtain ⟨a, b, c, d, e⟩ := vs_four h
 refine put_bd h bs (os' := [1, 2, 19, 20]) rfl rfl ?_ rfl
 unfold brdE; rw [e]; kernel_rfl
def vcOn (v : Vc) (x : Bool) : Vc := { v with on := x }
def vcIs (v : Vc) (x y z : Int) : Vc := { v with len := x, lev := y, wait := z }
theorem put_V0 {i : Nat} (hi : i < 4) (p : Nat) : putsT .bool [100 + 4 * i] (cMm A acc m) bs p = cMm A acc { m with bd := m.bd.setV i (vcOn (m.bd.v i) (bo bs p)) } := by
 obtain ⟨a, b, c, d, e⟩ := vs_four h
 refine put_bd h bs (os' := [3 + 4 * i]) (by simp only [List.map_cons, List.map_nil]; congr 1; omega) y_ev ?_ rfl
 unfold brdE Bd.setV Bd.v; rw [e]
 rcases (show i = 0 ∨ i = 1 ∨ i = 2 ∨ i = 3 by omega) with rfl | rfl | rfl | rfl <;> kernel_rfl
theorem put_V1 {i : Nat} (hi : i < 4) (p : Nat) : putsT (.int 2) [101 + 4 * i, 102 + 4 * i, 103 + 4 * i] (cMm A acc m) bs p = cMm A acc { m with bd := m.bd.setV i (vcIs (m.bd.v i) (vt bs p 2) (vt bs (p + 2) 2) (vt bs (p + 4) 2)) } := by
 obtain ⟨a, b, c, d, e⟩ := vs_four h
 refine put_bd h bs (os' := [4 + 4 * i, 5 + 4 * i, 6 + 4 * i]) (by simp only [List.map_cons, List.map_nil]; congr 1; omega; congr 1; omega; congr 1; omega) y_ev ?_ rfl
 unfold brdE Bd.setV Bd.v; rw [e]
 rcases (show i = 0 ∨ i = 1 ∨ i = 2 ∨ i = 3 by omega) with rfl | rfl | rfl | rfl <;> kernel_rfl
theorem put_Wk {p : Nat} (hb : p + 8192 ≤ bs.length) : putsT .byte (offs 135 8192) (cMm A acc m) bs p = cMm A acc { m with work := (bs.drop p).take 8192 } := by
 have e : ∀ m' : Mm, cMm A acc m' = (headM m' ++ (cBd m'.bd ++ midM A m')) ++ (m'.work.map (.int .u8) ++ (m'.high.map (.int .u8) ++ [acc])) := fun m' => by
  rw [cMm_eq]; unfold tailM; simp only [List.append_assoc]
 rw [e, putsT_all (by rw [List.length_append, headM_len, List.length_append, cBd_len h.bd, midM_len]) hb h.work, e]
 rfl
theorem put_Hi {p : Nat} (hb : p + 127 ≤ bs.length) : putsT .byte (offs 8327 127) (cMm A acc m) bs p = cMm A acc { m with high := (bs.drop p).take 127 } := by
 have e : ∀ m' : Mm, cMm A acc m' = (headM m' ++ (cBd m'.bd ++ (midM A m' ++ m'.work.map (.int .u8)))) ++ (m'.high.map (.int .u8) ++ [acc]) := fun m' => by
  rw [cMm_eq]; unfold tailM; simp only [List.append_assoc]
 rw [e, putsT_all (by rw [List.length_append, headM_len, List.length_append, cBd_len h.bd, List.length_append, midM_len, List.length_map, h.work]) hb h.high, e]
 rfl
end
section
variable {A : Ad} {acc : Value} {m : Mm} (bs : List Int)
theorem pass8_dec (h : MLn m) : pass8 true (cMm A acc m, bs) = (cMm A acc (dC (dS (dI { dB (dW (dA2 { dA m bs 0 with flags := vt bs 8 1, lets := vt bs 9 1 } bs 10) bs 14) bs 20 with steps := vt bs 29 8, cycles := vt bs 37 8 } bs 45) bs 59) bs 63), bs.drop 72) := by
 have h1 : MLn (dB (dW (dA2 { dA m bs 0 with flags := vt bs 8 1, lets := vt bs 9 1 } bs 10) bs 14) bs 20) := ⟨h.bd, h.work, h.high⟩
 have h2 : MLn { dB (dW (dA2 { dA m bs 0 with flags := vt bs 8 1, lets := vt bs 9 1 } bs 10) bs 14) bs 20 with steps := vt bs 29 8 } := ⟨h.bd, h.work, h.high⟩
 unfold pass8
 have e0 : (cMm A acc m, bs) = (cMm A acc m, bs.drop 0) := rfl
 rw [e0, passes_puts bs (q := 14) rfl, put_A h, passes_puts bs (q := 20) rfl, put_W, passes_puts bs (q := 29) rfl, put_B, pass8_puts bs (q := 37) rfl, put_8 h1, pass8_puts bs (q := 45) rfl, put_9 h2, passes_puts bs (q := 59) rfl, put_I,
  passes_puts bs (q := 63) rfl, put_S, passes_puts bs (q := 72) rfl, put_C]
theorem passV_dec (h : MLn m) (p : Nat) : ∀ i, i ≤ 4 → ∃ b' : Bd, passV true (cMm A acc m, bs.drop p) i = (cMm A acc { m with bd := b' }, bs.drop (p + 7 * i)) ∧ b'.Ln ∧ b'.regs = m.bd.regs ∧ b'.on = m.bd.on ∧ b'.div = m.bd.div ∧ b'.step = m.bd.step ∧ b'.pitch = m.bd.pitch ∧ b'.slide = m.bd.slide ∧ b'.slides = m.bd.slides ∧ b'.vs = (decVs bs p).take i ++ m.bd.vs.drop i
 | 0, _ => ⟨m.bd, rfl, h.bd, rfl, rfl, rfl, rfl, rfl, rfl, rfl, rfl⟩
 | i + 1, hi => by
  obtain ⟨b', e, hl, g1, g2, g3, g4, g5, g6, g7, g8⟩ := passV_dec h p i o_m
  have hi4 : i < 4 := by omega
  have h1 : MLn { m with bd := b' } := ⟨hl, h.work, h.high⟩
  have h2 : MLn { m with bd := b'.setV i (vcOn (b'.v i) (bo bs (p + 7 * i))) } := ⟨⟨hl.lR, hl.bR, by show (b'.vs.set i _).length = 4; rw [List.length_set]; exact hl.lV⟩, h.work, h.high⟩
  refine ⟨(b'.setV i (vcOn (b'.v i) (bo bs (p + 7 * i)))).setV i (vcIs ((b'.setV i (vcOn (b'.v i) (bo bs (p + 7 * i)))).v i) (vt bs (p + 7 * i + 1) 2) (vt bs (p + 7 * i + 3) 2) (vt bs (p + 7 * i + 5) 2)), ?_, ⟨hl.lR, hl.bR, by show ((b'.vs.set i _).set i _).length = 4; rw [List.length_set, List.length_set]; exact hl.lV⟩, g1, g2, g3, g4, g5, g6, g7, ?_⟩
  ·show passes true (.int 2) _ (passes true .bool _ (passV true (cMm A acc m, bs.drop p) i)) = _
   rw [e, passes_puts bs (q := p + 7 * i + 1) rfl, put_V0 h1 bs hi4, passes_puts bs (q := p + 7 * (i + 1)) (by show _ = p + 7 * i + 1 + 6; omega), put_V1 h2 bs hi4]
  ·rw [v_set hl hi4, setV_setV]
   show b'.vs.set i _ = _
   rw [g8]
   have hv := h.bd.lV
   have ht : ((decVs bs p).take i).length = i := by rw [List.length_take]; show min i 4 = i; omega
   rw [List.set_append_right _ _ o_m, ht, Nat.sub_self, List.drop_eq_getElem_cons o_m, List.set_cons_zero, List.take_add_one]
   have key : (decVs bs p)[i]? = some ⟨bo bs (p + 7 * i), vt bs (p + 7 * i + 1) 2, vt bs (p + 7 * i + 3) 2, vt bs (p + 7 * i + 5) 2⟩ := by
    rcases (show i = 0 ∨ i = 1 ∨ i = 2 ∨ i = 3 by omega) with rfl | rfl | rfl | rfl <;> rfl
   rw [key, List.append_assoc]
   rfl
theorem passB_dec (hby : Byts bs) (h : MLn m) {p : Nat} (hb : p + 86 ≤ bs.length) : passB true (cMm A acc m, bs.drop p) = (cMm A acc { m with bd := ⟨(bs.drop p).take 48, bo bs (p + 48), vt bs (p + 50) 2, vt bs (p + 52) 2, decVs bs (p + 58), vt bs (p + 54) 2, vt bs (p + 56) 2, bo bs (p + 49)⟩ }, bs.drop (p + 86)) := by
 have h1 : MLn { m with bd := { m.bd with regs := (bs.drop p).take 48 } } := ⟨⟨by show ((bs.drop p).take 48).length = 48; rw [List.length_take, List.length_drop]; omega, byts_take (byts_drop hby p) 48, h.bd.lV⟩, h.work, h.high⟩
 have h2 : MLn { m with bd := { m.bd with regs := (bs.drop p).take 48, on := bo bs (p + 48), slides := bo bs (p + 48 + 1) } } := ⟨⟨h1.bd.lR, h1.bd.bR, h.bd.lV⟩, h.work, h.high⟩
 have h3 : MLn { m with bd := { m.bd with regs := (bs.drop p).take 48, on := bo bs (p + 48), slides := bo bs (p + 48 + 1), div := vt bs (p + 50) 2, step := vt bs (p + 50 + 2) 2, pitch := vt bs (p + 50 + 4) 2, slide := vt bs (p + 50 + 6) 2 } } := ⟨⟨h1.bd.lR, h1.bd.bR, h.bd.lV⟩, h.work, h.high⟩
 unfold passB
 rw [passes_puts bs (q := p + 48) rfl, put_R h bs o_m, passes_puts bs (q := p + 50) rfl, put_B1 h1, passes_puts bs (q := p + 58) rfl, put_B2 h2]
 obtain ⟨b', e, hl, g1, g2, g3, g4, g5, g6, g7, g8⟩ := passV_dec (A := A) (acc := acc) bs h3 (p + 58) 4 (Nat.le_refl _)
 rw [e]
 have e4 : (decVs bs (p + 58)).take 4 ++ m.bd.vs.drop 4 = decVs bs (p + 58) := by rw [List.drop_of_length_le (by rw [h.bd.lV]; exact Nat.le_refl _), List.append_nil]; rfl
 obtain ⟨r, o, d, s, v, pi, sl, ss⟩ := b'
 dsimp only at g1 g2 g3 g4 g5 g6 g7 g8
 rw [e4] at g8
 subst g1 g2 g3 g4 g5 g6 g7 g8
 rfl
theorem passM_dec (hby : Byts bs) (h : MLn m) (hb : 8482 ≤ bs.length) : passM true (cMm A acc m, bs) = (cMm A acc (decM m bs), bs.drop 8482) := by
 obtain ⟨m8, e8⟩ : ∃ m8, m8 = dC (dS (dI { dB (dW (dA2 { dA m bs 0 with flags := vt bs 8 1, lets := vt bs 9 1 } bs 10) bs 14) bs 20 with steps := vt bs 29 8, cycles := vt bs 37 8 } bs 45) bs 59) bs 63 := ⟨_, rfl⟩
 have h8 : MLn m8 := e8 ▸ ⟨h.bd, h.work, h.high⟩
 have h9 : MLn (dH m8 bs 72) := ⟨h8.bd, h8.work, h8.high⟩
 have hB : MLn { dH m8 bs 72 with bd := decBd bs } := ⟨⟨by show ((bs.drop 77).take 48).length = 48; rw [List.length_take, List.length_drop]; omega, byts_take (byts_drop hby 77) 48, rfl⟩, h8.work, h8.high⟩
 have hC : MLn { dH m8 bs 72 with bd := decBd bs, work := (bs.drop 163).take 8192 } := ⟨hB.bd, by show ((bs.drop 163).take 8192).length = 8192; rw [List.length_take, List.length_drop]; omega, h8.high⟩
 unfold passM
 rw [pass8_dec bs h, ← e8, passes_puts bs (q := 77) rfl, put_H, passB_dec bs hby h9 (p := 77) o_m]
 show passes true .byte (offs 8327 127) (passes true .byte (offs 135 8192) (cMm A acc { dH m8 bs 72 with bd := decBd bs }, bs.drop 163)) = _
 rw [passes_puts bs (q := 8355) (by rw [offs_len]; rfl), put_Wk hB bs o_m, passes_puts bs (q := 8482) (by rw [offs_len]; rfl), put_Hi hC bs o_m, e8]
 rfl
end
theorem vt_lt {bs : List Int} (h : Byts bs) (p n : Nat) : 0 ≤ vt bs p n ∧ vt bs p n < 256 ^ n := val_ok (byts_drop h p) n
theorem gd_left {A B : List Int} {j : Nat} (h : j < A.length) : (A ++ B).getD j 0 = A.getD j 0 := by
 rw [List.getD_eq_getElem?_getD, List.getElem?_append_left h, ← List.getD_eq_getElem?_getD]
theorem vt_at {bs : List Int} {p n : Nat} {x : Int} {t : List Int} (h : bs.drop p = dgts n x ++ t) : vt bs p n = x % 256 ^ n := by
 unfold vt
 rw [h, val_congr n (m := dgts n x) fun j hj => gd_left (by rw [dgts_len]; exact hj)]
 exact val_dgts x n n (Nat.le_refl _)
section
variable {m : Mm} {t : List Int}
theorem vt_enc (p k : Nat) (x : Int) (h : (enc8 m t).drop p = dgts k x ++ (enc8 m t).drop (p + k)) : vt (enc8 m t) p k = x % 256 ^ k := vt_at h
theorem vt_e1 {p : Nat} {x : Int} (hx : 0 ≤ x ∧ x < 256) (h : (enc8 m t).drop p = dgts 1 x ++ (enc8 m t).drop (p + 1)) : vt (enc8 m t) p 1 = x := by rw [vt_enc p 1 x h]; show x % 256 = x; omega
theorem vt_e2 {p : Nat} {x : Int} (hx : 0 ≤ x ∧ x < 65536) (h : (enc8 m t).drop p = dgts 2 x ++ (enc8 m t).drop (p + 2)) : vt (enc8 m t) p 2 = x := by rw [vt_enc p 2 x h]; show x % 65536 = x; omega
theorem bo_of {x : Int} {b : Bool} (h : x = boolI b) : (x == 1) = b := by subst h; cases b <;> rfl
theorem bo_e {p : Nat} {b : Bool} (h : (enc8 m t).drop p = dgts 1 (boolI b) ++ (enc8 m t).drop (p + 1)) : bo (enc8 m t) p = b := bo_of (vt_e1 (by cases b <;> decide) h)
theorem dec8_enc (h : m.Wf) (hr : m.cpu.r.Ok) (hd : 0 ≤ m.ck.day ∧ m.ck.day < 65536) (n : Mm) : dec8 n (enc8 m t) = { n with cpu := m.cpu, bk := { n.bk with last := m.bk.last, on := m.bk.on, mode := m.bk.mode, low := m.bk.low, high := m.bk.high }, ck := m.ck, tm := m.tm, pd := m.pd, pt := m.pt, cp := m.cp, flags := m.flags, lets := m.lets, steps := m.steps, cycles := m.cycles } := by
 have hb := h.ck.byH
 have k : ∀ x ∈ m.ck.held, 0 ≤ x ∧ x < 256 := hb
 have g0 := k m.ck.h0 y_b5; have g1 := k m.ck.h1 y_b5; have g2 := k m.ck.h2 y_b5; have g3 := k m.ck.h3 y_b5; have g4 := k m.ck.h4 y_b5
 have s8 : vt (enc8 m t) 29 8 = m.steps := by rw [vt_enc 29 8 m.steps y_g]; have := h.steps; show m.steps % 18446744073709551616 = _; omega
 have s9 : vt (enc8 m t) 37 8 = m.cycles := by rw [vt_enc 37 8 m.cycles y_g]; have := h.cycles; show m.cycles % 18446744073709551616 = _; omega
 have s4 : vt (enc8 m t) 59 4 = m.ck.sub := by rw [vt_enc 59 4 m.ck.sub y_g]; have := h.ck.sub; show m.ck.sub % 4294967296 = _; omega
 unfold dec8
 rw [vt_e1 (p := 0) hr.a y_g, vt_e1 (p := 1) hr.f y_g, vt_e1 (p := 2) hr.b y_g, vt_e1 (p := 3) hr.c y_g, vt_e1 (p := 4) hr.d y_g, vt_e1 (p := 5) hr.e y_g, vt_e1 (p := 6) hr.h y_g, vt_e1 (p := 7) hr.l y_g,
  vt_e2 (p := 14) hr.sp y_g, vt_e2 (p := 16) hr.pc y_g, bo_e (p := 20) (b := m.cpu.ime) y_g, bo_e (p := 21) (b := m.cpu.soon) y_g, bo_e (p := 22) (b := m.cpu.halt) y_g, bo_e (p := 23) (b := m.cpu.stop) y_g,
  vt_e1 (p := 10) h.bk.last y_g, bo_e (p := 24) (b := m.bk.on) y_g, bo_e (p := 25) (b := m.bk.mode) y_g, vt_e2 (p := 45) h.bk.low y_g, vt_e2 (p := 47) h.bk.high y_g,
  vt_e1 (p := 63) h.ck.s y_g, vt_e1 (p := 64) h.ck.m y_g, vt_e1 (p := 65) h.ck.h y_g, vt_e2 (p := 49) hd y_g, s4, bo_e (p := 27) (b := m.ck.halt) y_g, bo_e (p := 28) (b := m.ck.carry) y_g,
  vt_e1 (p := 72) g0 y_g, vt_e1 (p := 73) g1 y_g, vt_e1 (p := 74) g2 y_g, vt_e1 (p := 75) g3 y_g, vt_e1 (p := 76) g4 y_g,
  vt_e2 (p := 18) h.tm.cnt y_g, vt_e1 (p := 66) h.tm.tima y_g, vt_e1 (p := 67) h.tm.tma y_g, vt_e1 (p := 68) h.tm.tac y_g, bo_e (p := 26) (b := m.tm.over) y_g,
  vt_e1 (p := 11) h.pd.sel y_g, vt_e1 (p := 12) h.pd.down y_g, vt_e1 (p := 69) h.pt.data y_g, vt_e1 (p := 70) h.pt.control y_g, vt_e1 (p := 71) h.pt.last y_g, vt_e2 (p := 51) h.pt.bits y_g, vt_e2 (p := 53) h.pt.count y_g, vt_e2 (p := 55) h.pt.sent y_g,
  vt_e1 (p := 13) h.cp.page y_g, vt_e2 (p := 57) h.cp.left y_g, vt_e1 (p := 8) h.flags y_g, vt_e1 (p := 9) h.lets y_g, s8, s9]
theorem drop_enc : (enc8 m t).drop 77 = t := by kernel_rfl
theorem vt_77 (j k : Nat) : vt (enc8 m t) (77 + j) k = vt t j k := by unfold vt; rw [← List.drop_drop, drop_enc]
end
section
variable {b : Bd} (h : b.Wf) (t : List Int)
include h
theorem decBd_enc {m : Mm} (X : List Int) (e : m.bd = b) : decBd (enc8 m (encBd b ++ X)) = b := by
 obtain ⟨R, on, div, step, vs, pitch, slide, slides⟩ := b
 have hR : R.length = 48 := h.lR
 have h4 : vs.length = 4 := h.lV
 obtain ⟨v0, v1, v2, v3, rfl⟩ : ∃ a b c d, vs = [a, b, c, d] := by
  match vs, h4 with
  | [a, b, c, d], _ => exact ⟨a, b, c, d, rfl⟩
 have o0 := h.oV v0 y_z; have o1 := h.oV v1 y_z; have o2 := h.oV v2 y_z; have o3 := h.oV v3 y_z
 obtain ⟨E, hE⟩ : ∃ E, E = ((dgts 1 (boolI on) ++ dgts 1 (boolI slides)) ++ ((dgts 2 div ++ (dgts 2 step ++ (dgts 2 pitch ++ dgts 2 slide))) ++ ([v0, v1, v2, v3].flatMap encV))) ++ X := ⟨_, rfl⟩
 have e1 : encBd ⟨R, on, div, step, [v0, v1, v2, v3], pitch, slide, slides⟩ ++ X = R ++ E := by rw [hE]; unfold encBd; simp only [List.append_assoc]
 rw [e1]
 have d48 : ∀ j k, vt (enc8 m (R ++ E)) (125 + j) k = vt E j k := fun j k => by
  rw [show 125 + j = 77 + (48 + j) by omega, vt_77]; unfold vt; rw [← List.drop_drop, List.drop_left' hR]
 have b48 : ∀ j, bo (enc8 m (R ++ E)) (125 + j) = bo E j := fun j => by unfold bo; rw [d48]
 have w : ∀ {j : Nat} {x : Int} (T : List Int), (0 ≤ x ∧ x < 65536) → E.drop j = dgts 2 x ++ T → vt E j 2 = x := fun T hx he => by rw [vt_at he]; show _ % 65536 = _; omega
 have z : ∀ {j : Nat} {x : Bool} (T : List Int), E.drop j = dgts 1 (boolI x) ++ T → bo E j = x := fun {j} {x} T he => bo_of (by rw [vt_at he]; cases x <;> rfl)
 unfold decBd decVs
 have r : ((enc8 m (R ++ E)).drop 77).take 48 = R := by rw [drop_enc, List.take_left' hR]
 rw [r]
 have f := fun j k => d48 j k
 rw [show bo (enc8 m (R ++ E)) 125 = on from (b48 0).trans (z (E.drop 1) y_Y), show bo (enc8 m (R ++ E)) 126 = slides from (b48 1).trans (z (E.drop 2) y_Y),
  show vt (enc8 m (R ++ E)) 127 2 = div from (d48 2 2).trans (w (E.drop 4) h.div y_Y), show vt (enc8 m (R ++ E)) 129 2 = step from (d48 4 2).trans (w (E.drop 6) h.step y_Y),
  show vt (enc8 m (R ++ E)) 131 2 = pitch from (d48 6 2).trans (w (E.drop 8) h.pitch y_Y), show vt (enc8 m (R ++ E)) 133 2 = slide from (d48 8 2).trans (w (E.drop 10) h.slide y_Y),
  show bo (enc8 m (R ++ E)) 135 = v0.on from (b48 10).trans (z (E.drop 11) y_Y), show vt (enc8 m (R ++ E)) (135 + 1) 2 = v0.len from (d48 11 2).trans (w (E.drop 13) o0.len y_Y), show vt (enc8 m (R ++ E)) (135 + 3) 2 = v0.lev from (d48 13 2).trans (w (E.drop 15) o0.lev y_Y), show vt (enc8 m (R ++ E)) (135 + 5) 2 = v0.wait from (d48 15 2).trans (w (E.drop 17) o0.wait y_Y),
  show bo (enc8 m (R ++ E)) (135 + 7) = v1.on from (b48 17).trans (z (E.drop 18) y_Y), show vt (enc8 m (R ++ E)) (135 + 8) 2 = v1.len from (d48 18 2).trans (w (E.drop 20) o1.len y_Y), show vt (enc8 m (R ++ E)) (135 + 10) 2 = v1.lev from (d48 20 2).trans (w (E.drop 22) o1.lev y_Y), show vt (enc8 m (R ++ E)) (135 + 12) 2 = v1.wait from (d48 22 2).trans (w (E.drop 24) o1.wait y_Y),
  show bo (enc8 m (R ++ E)) (135 + 14) = v2.on from (b48 24).trans (z (E.drop 25) y_Y), show vt (enc8 m (R ++ E)) (135 + 15) 2 = v2.len from (d48 25 2).trans (w (E.drop 27) o2.len y_Y), show vt (enc8 m (R ++ E)) (135 + 17) 2 = v2.lev from (d48 27 2).trans (w (E.drop 29) o2.lev y_Y), show vt (enc8 m (R ++ E)) (135 + 19) 2 = v2.wait from (d48 29 2).trans (w (E.drop 31) o2.wait y_Y),
  show bo (enc8 m (R ++ E)) (135 + 21) = v3.on from (b48 31).trans (z (E.drop 32) y_Y), show vt (enc8 m (R ++ E)) (135 + 22) 2 = v3.len from (d48 32 2).trans (w (E.drop 34) o3.len y_Y), show vt (enc8 m (R ++ E)) (135 + 24) 2 = v3.lev from (d48 34 2).trans (w (E.drop 36) o3.lev y_Y), show vt (enc8 m (R ++ E)) (135 + 26) 2 = v3.wait from (d48 36 2).trans (w (E.drop 38) o3.wait y_Y)]
end
section
variable {m : Mm} (h : m.Wf)
include h
omit h in
theorem enc8_app (t X : List Int) : enc8 m t ++ X = enc8 m (t ++ X) := by unfold enc8; simp only [List.cons_append, List.append_assoc]
omit h in
theorem dgt_byts : ∀ {x : Int} {i : Nat} {l : List Int}, Byts l → Byts (dgt x i :: l) := fun hl y hy => by
 rcases List.mem_cons.1 hy with rfl | hy
 ·exact dgt_ok _ _
 ·exact hl y hy
omit h in
theorem enc8_byts {t : List Int} (ht : Byts t) : Byts (enc8 m t) := by
 unfold enc8
 repeat refine dgt_byts ?_
 exact ht
theorem encM_byts : Byts (encM m) := by
 have hV : ∀ l : List Vc, Byts (l.flatMap encV) := fun l => by
  induction l with
  | nil => intro x hx; cases hx
  | cons v l ih => rw [List.flatMap_cons]; exact byts_app (byts_app (dgts_byts _ _) (byts_app (dgts_byts _ _) (byts_app (dgts_byts _ _) (dgts_byts _ _)))) ih
 have hB : Byts (encBd m.bd) := byts_app h.bd.bR (byts_app (byts_app (dgts_byts _ _) (dgts_byts _ _)) (byts_app (byts_app (dgts_byts _ _) (byts_app (dgts_byts _ _) (byts_app (dgts_byts _ _) (dgts_byts _ _)))) (hV _)))
 exact enc8_byts (byts_app hB (byts_app h.bWork h.bHigh))
theorem decM_enc (hr : m.cpu.r.Ok) (hd : 0 ≤ m.ck.day ∧ m.ck.day < 65536) (n : Mm) (X : List Int) : decM n (encM m ++ X) = { n with cpu := m.cpu, bk := { n.bk with last := m.bk.last, on := m.bk.on, mode := m.bk.mode, low := m.bk.low, high := m.bk.high }, ck := m.ck, tm := m.tm, pd := m.pd, pt := m.pt, cp := m.cp, bd := m.bd, flags := m.flags, lets := m.lets, steps := m.steps, cycles := m.cycles, work := m.work, high := m.high } := by
 unfold decM encM
 rw [enc8_app, dec8_enc h hr hd, List.append_assoc, decBd_enc h.bd _ rfl]
 have hl := encBd_len h.ln.bd
 have e1 : ((enc8 m (encBd m.bd ++ (m.work ++ m.high ++ X))).drop 163).take 8192 = m.work := by
  rw [show 163 = 77 + 86 by rfl, ← List.drop_drop, drop_enc, List.drop_left' hl, List.append_assoc, List.take_left' h.lWork]
 have e2 : ((enc8 m (encBd m.bd ++ (m.work ++ m.high ++ X))).drop 8355).take 127 = m.high := by
  rw [show 8355 = 77 + (86 + 8192) by rfl, ← List.drop_drop, drop_enc, ← List.drop_drop, List.drop_left' hl, List.append_assoc, List.drop_left' h.lWork, List.take_left' h.lHigh]
 rw [e1, e2]
theorem decM_wf {bs : List Int} (hb : Byts bs) (hl : 8482 ≤ bs.length) : (decM m bs).Wf := by
 have v1 := fun p => vt_lt hb p 1
 have v2 := fun p => vt_lt hb p 2
 have v4 := fun p => vt_lt hb p 4
 have v8 := fun p => vt_lt hb p 8
 have w2 : ∀ p, -9223372036854775808 ≤ vt bs p 2 ∧ vt bs p 2 ≤ 9223372036854775807 := fun p => by have h2 := v2 p; omega
 refine ⟨⟨h.bk.kind, h.bk.banks, h.bk.ram, v2 _, v2 _, v1 _⟩, ⟨⟨v1 _, v1 _, v1 _, w2 _, fun x hx => ?_⟩, v4 _⟩, ⟨v2 _, v1 _, v1 _, v1 _⟩, ⟨v1 _, v1 _⟩, ⟨v1 _, v1 _, v1 _, v2 _, v2 _, v2 _⟩, ⟨v1 _, v2 _⟩, ⟨?_, byts_take (byts_drop hb 77) 48, rfl, v2 _, v2 _, fun v hv => ?_, v2 _, v2 _⟩, v1 _, v1 _, v8 _, v8 _, h.u, h.banks, h.lRom, h.bRom, h.lRam, h.bRam, ?_, byts_take (byts_drop hb 163) 8192, ?_, byts_take (byts_drop hb 8355) 127⟩
 ·have hx' : x ∈ [vt bs 72 1, vt bs 73 1, vt bs 74 1, vt bs 75 1, vt bs 76 1] := hx
  simp only [List.mem_cons, List.not_mem_nil, or_false] at hx'
  rcases hx' with rfl | rfl | rfl | rfl | rfl <;> exact v1 _
 ·show ((bs.drop 77).take 48).length = 48
  rw [List.length_take, List.length_drop]; omega
 ·have hv' : v ∈ decVs bs 135 := hv
  simp only [decVs, List.mem_cons, List.not_mem_nil, or_false] at hv'
  rcases hv' with rfl | rfl | rfl | rfl <;> exact ⟨v2 _, v2 _, v2 _⟩
 ·show ((bs.drop 163).take 8192).length = 8192
  rw [List.length_take, List.length_drop]; omega
 ·show ((bs.drop 8355).take 127).length = 127
  rw [List.length_take, List.length_drop]; omega
omit h in
theorem decM_regs {bs : List Int} (hb : Byts bs) : (decM m bs).cpu.r.Ok := ⟨vt_lt hb 0 1, vt_lt hb 1 1, vt_lt hb 2 1, vt_lt hb 3 1, vt_lt hb 4 1, vt_lt hb 5 1, vt_lt hb 6 1, vt_lt hb 7 1, vt_lt hb 14 2, vt_lt hb 16 2⟩
end
section
variable {m : Mm} (h : m.Wf) (rs : List Value)
include h
omit h in
theorem ram_in {bs : List Int} {p : Nat} (hb : p + m.ram.length ≤ bs.length) : passes true .byte (offs 0 m.ram.length) (m.ram.map (.int .u8) ++ rs, bs.drop p) = (((bs.drop p).take m.ram.length).map (.int .u8) ++ rs, bs.drop (p + m.ram.length)) := by
 rw [passes_puts bs (q := p + m.ram.length) (by rw [offs_len]; show _ = p + m.ram.length * 1; omega)]
 exact congrArg (fun z => (z, _)) (putsT_all (X := []) rfl hb rfl)
end
def decA (m : Mm) (bs : List Int) : Mm := { decM m bs with ram := (bs.drop 8482).take m.ram.length }
def decAE (m : Mm) (bs : List Int) : Int :=
 if bs.length ≠ (encA m).length then 6 else if decE (bs.drop (8482 + m.ram.length)) = 0 ∧ encA { decA m bs with u := decU (bs.drop (8482 + m.ram.length)) } = bs then 0 else 5
def decAM (m : Mm) (bs : List Int) : Mm := if decAE m bs = 0 then { decA m bs with u := decU (bs.drop (8482 + m.ram.length)), acc := [] } else m
section
variable {u : PU}
theorem nU_len (h : u.Ln) : (cU u).length = 31409 := by simp [cU, h.lV, h.lO, h.lR, h.lP]
theorem nU_R (h : u.Ln) {j : Nat} (hj : j < 12) : (cU u)[8352 + j]? = some (.int .u8 (u.R.getD j 0)) :=
 get_right (n := 160 + j) y_bd (get_right (n := j) y_b7 (get_left (map_at y_cP)))
theorem nU_five (h : u.Ln) {j : Nat} {v : Value} (hv : ([.int .i64 u.line, .int .i64 u.dot, .int .i64 u.own, .int .i64 u.frames, .bool u.sig] : List Value)[j]? = some v) : (cU u)[8364 + j]? = some v :=
 get_right (n := 172 + j) y_bd (get_right (n := 12 + j) y_bM (get_right (n := j) y_bR (get_left hv)))
theorem cutU_V (h : u.Ln) {j : Nat} {r : List Int} (hj : j + r.length ≤ 8192) : putL (cU u) j (r.map (.int .u8)) = cU { u with V := putI u.V j r } := by
 unfold cU
 rw [putL_left (by simp [h.lV]; omega), putI_map]
theorem cutU_O (h : u.Ln) {j : Nat} {r : List Int} (hj : j + r.length ≤ 160) : putL (cU u) (8192 + j) (r.map (.int .u8)) = cU { u with O := putI u.O j r } := by
 unfold cU
 rw [putL_right (n := j) y_b6 y_dq, putL_left y_dq, putI_map]
theorem cutU_R (h : u.Ln) {j : Nat} {r : List Int} (hj : j + r.length ≤ 12) : putL (cU u) (8352 + j) (r.map (.int .u8)) = cU { u with R := putI u.R j r } := by
 unfold cU
 rw [putL_right (n := 160 + j) y_bd y_cS, putL_right (n := j) y_b7 y_cD, putL_left y_cD, putI_map]
theorem cutU_five (h : u.Ln) {j : Nat} {v : Value} (hj : j < 5) : putL (cU u) (8364 + j) [v] = u.V.map (.int .u8) ++ (u.O.map (.int .u8) ++ (u.R.map (.int .u8) ++ (putL [.int .i64 u.line, .int .i64 u.dot, .int .i64 u.own, .int .i64 u.frames, .bool u.sig] j [v] ++ u.P.map (.int .u8)))) := by
 unfold cU
 rw [putL_right (n := 172 + j) y_bd y_cS, putL_right (n := 12 + j) y_bM y_cD, putL_right (n := j) y_bR y_bz, putL_left y_bz]
theorem cutU_P (h : u.Ln) {j : Nat} {r : List Int} (hj : j + r.length ≤ 23040) : putL (cU u) (8369 + j) (r.map (.int .u8)) = cU { u with P := putI u.P j r } := by
 unfold cU
 rw [putL_right (n := 177 + j) y_bd (by simp [h.lO, h.lR, h.lP]; omega), putL_right (n := 17 + j) y_bM (by simp [h.lR, h.lP]; omega), putL_right (n := 5 + j) y_bA y_dp, putL_right (n := j) y_z y_dp, putI_map]
theorem cU_ones (u : PU) : ones (cU u) = true := by
 unfold cU
 simp only [ones, List.all_append, Bool.and_eq_true]
 exact ⟨ones_int _ _, ones_int _ _, ones_int _ _, rfl, ones_int _ _⟩
end
section
variable {l : List Int} (hl : l.length = 31408)
def z2 (l : List Int) : PU := { z1 l with O := (l.drop 8192).take 160 }
def z3 (l : List Int) : PU := { z2 l with R := (l.drop 8352).take 6 ++ List.replicate 6 0 }
def rZ (l : List Int) : List Int := (l.drop 8352).take 6 ++ 0 :: (l.drop 8358).take 5
def z4 (l : List Int) : PU := { z3 l with R := rZ l }
def z5 (l : List Int) : PU := { z4 l with line := l.getD 8356 0, dot := l.getD 8363 0, own := l.getD 8364 0 }
def z6 (l : List Int) : PU := { z5 l with frames := l.getD 8365 0 + 256 * l.getD 8366 0, sig := l.getD 8367 0 == 1 }
def z7 (l : List Int) : PU := { z6 l with R := decRu l }
def pZ (l : List Int) (i : Nat) : List Int := (l.drop 8368).take (i * 160) ++ List.replicate (23040 - i * 160) 0
def z8 (l : List Int) (i : Nat) : PU := { z7 l with P := pZ l i }
theorem z0_ln : zeroU.Ln := zeroU_wf.ln
include hl
theorem z1_ln : (z1 l).Ln := ⟨by simp [z1, hl], List.length_replicate, List.length_replicate, List.length_replicate⟩
theorem z2_ln : (z2 l).Ln := ⟨(z1_ln hl).lV, by simp [z2, hl], (z1_ln hl).lR, (z1_ln hl).lP⟩
theorem z3_ln : (z3 l).Ln := ⟨(z2_ln hl).lV, (z2_ln hl).lO, by simp [z3, hl], (z2_ln hl).lP⟩
theorem rZ_len : (rZ l).length = 12 := by simp [rZ, hl]
theorem decR_len : (decRu l).length = 12 := by
 have := rZ_len hl; unfold rZ at this; simpa [decRu] using this
theorem z4_ln : (z4 l).Ln := ⟨(z3_ln hl).lV, (z3_ln hl).lO, rZ_len hl, (z3_ln hl).lP⟩
theorem z5_ln : (z5 l).Ln := ⟨(z4_ln hl).lV, (z4_ln hl).lO, (z4_ln hl).lR, (z4_ln hl).lP⟩
theorem z6_ln : (z6 l).Ln := ⟨(z4_ln hl).lV, (z4_ln hl).lO, (z4_ln hl).lR, (z4_ln hl).lP⟩
theorem z7_ln : (z7 l).Ln := ⟨(z4_ln hl).lV, (z4_ln hl).lO, decR_len hl, (z4_ln hl).lP⟩
theorem pZ_len {i : Nat} (hi : i ≤ 144) : (pZ l i).length = 23040 := by simp [pZ, hl]; omega
theorem z8_ln {i : Nat} (hi : i ≤ 144) : (z8 l i).Ln := ⟨(z7_ln hl).lV, (z7_ln hl).lO, (z7_ln hl).lR, pZ_len hl hi⟩
theorem p_1 : putL (cU zeroU) 0 ((l.map (.int .u8)).take 8192) = cU (z1 l) := by
 rw [← List.map_take, cutU_V z0_ln y_bz, putI_all (by rw [z0_ln.lV]; simp [hl])]; rfl
theorem p_2 : putL (cU (z1 l)) 8192 (((l.drop 8192).map (.int .u8)).take 160) = cU (z2 l) := by
 rw [← List.map_take]
 have := cutU_O (z1_ln hl) (j := 0) (r := (l.drop 8192).take 160) y_c0
 rw [Nat.add_zero] at this
 rw [this, putI_all (by rw [(z1_ln hl).lO]; simp [hl])]; rfl
theorem p_3 : putL (cU (z2 l)) 8352 (((l.drop 8352).map (.int .u8)).take 6) = cU (z3 l) := by
 rw [← List.map_take]
 have := cutU_R (z2_ln hl) (j := 0) (r := (l.drop 8352).take 6) y_bz
 rw [Nat.add_zero] at this
 rw [this]
 have h2 : putI (z2 l).R 0 ((l.drop 8352).take 6) = (l.drop 8352).take 6 ++ List.replicate 6 0 := by
  unfold putI
  have h3 : (z2 l).R = List.replicate 12 0 := rfl
  rw [h3]
  simp [hl]
 rw [h2]; rfl
theorem p_4 : putL (cU (z3 l)) 8359 ((((l.drop 8358).take 5).map (.int .u8)).take 5) = cU (z4 l) := by
 rw [← List.map_take, List.take_take]
 have := cutU_R (z3_ln hl) (j := 7) (r := (l.drop 8358).take 5) y_bz
 rw [show 8352 + 7 = 8359 by rfl] at this
 rw [show min 5 5 = 5 by rfl, this]
 have h2 : putI (z3 l).R 7 ((l.drop 8358).take 5) = rZ l := by
  have h3 : (z3 l).R = (l.drop 8352).take 6 ++ [0] ++ List.replicate 5 0 := by rw [List.append_assoc]; rfl
  have h5 : ((l.drop 8358).take 5).length = 5 := by simp [hl]
  rw [h3, putI_mid y_c0, h5]
  simp [rZ]
 rw [h2]; rfl
theorem at_4 : (cU (z4 l))[8352 + 4]? = some (.int .u8 (l.getD 8356 0)) := by
 rw [nU_R (z4_ln hl) y_c]
 have : (z4 l).R.getD 4 0 = l.getD 8356 0 := by
  show (rZ l).getD 4 0 = _
  unfold rZ
  have h4 : ((l.drop 8352).take 6).length = 6 := by simp [hl]
  rw [List.getD_eq_getElem?_getD, List.getElem?_append_left y_dH, ← List.getD_eq_getElem?_getD, getD_take _ y_c, getD_drop]
 rw [this]
theorem at_1 : (cU (z7 l))[8352 + 1]? = some (.int .u8 (l.getD 8353 0)) := by
 rw [nU_R (z7_ln hl) y_c]
 have : (z7 l).R.getD 1 0 = l.getD 8353 0 := by
  show (decRu l).getD 1 0 = _
  unfold decRu
  have h4 : ((l.drop 8352).take 6).length = 6 := by simp [hl]
  rw [List.getD_eq_getElem?_getD, List.getElem?_set_ne y_c, List.getElem?_append_left y_dH, ← List.getD_eq_getElem?_getD, getD_take _ y_c, getD_drop]
 rw [this]
theorem p_5a : putL (cU (z4 l)) 8364 [.int .i64 (l.getD 8356 0)] = cU { z4 l with line := l.getD 8356 0 } := cutU_five (z4_ln hl) (j := 0) y_c
theorem p_5b : putL (cU { z4 l with line := l.getD 8356 0 }) 8365 [.int .i64 (l.getD 8363 0)] = cU { z4 l with line := l.getD 8356 0, dot := l.getD 8363 0 } :=
 cutU_five (u := { z4 l with line := l.getD 8356 0 }) ⟨(z4_ln hl).lV, (z4_ln hl).lO, (z4_ln hl).lR, (z4_ln hl).lP⟩ (j := 1) y_c
theorem p_5c : putL (cU { z4 l with line := l.getD 8356 0, dot := l.getD 8363 0 }) 8366 [.int .i64 (l.getD 8364 0)] = cU (z5 l) :=
 cutU_five (u := { z4 l with line := l.getD 8356 0, dot := l.getD 8363 0 }) ⟨(z4_ln hl).lV, (z4_ln hl).lO, (z4_ln hl).lR, (z4_ln hl).lP⟩ (j := 2) y_c
theorem p_6a : putL (cU (z5 l)) 8367 [.int .i64 (l.getD 8365 0 + 256 * l.getD 8366 0)] = cU { z5 l with frames := l.getD 8365 0 + 256 * l.getD 8366 0 } := cutU_five (z5_ln hl) (j := 3) y_c
theorem p_6b : putL (cU { z5 l with frames := l.getD 8365 0 + 256 * l.getD 8366 0 }) 8368 [.bool (l.getD 8367 0 == 1)] = cU (z6 l) :=
 cutU_five (u := { z5 l with frames := l.getD 8365 0 + 256 * l.getD 8366 0 }) ⟨(z4_ln hl).lV, (z4_ln hl).lO, (z4_ln hl).lR, (z4_ln hl).lP⟩ (j := 4) y_c
theorem p_7 : putL (cU (z6 l)) 8356 [.int .u8 0] = cU (z7 l) := by
 have := cutU_R (z6_ln hl) (j := 4) (r := [0]) y_z
 rw [show 8352 + 4 = 8356 by rfl] at this
 rw [show ([.int .u8 0] : List Value) = [0].map (.int .u8) by rfl, this, putI_one (by rw [(z6_ln hl).lR]; decide)]; rfl
theorem at_line : (cU (z7 l))[8364]? = some (.int .i64 (l.getD 8356 0)) := nU_five (z7_ln hl) (j := 0) rfl
theorem at_dot : (cU (z7 l))[8365]? = some (.int .i64 (l.getD 8363 0)) := nU_five (z7_ln hl) (j := 1) rfl
omit hl in
theorem p_80 : cU (z7 l) = cU (z8 l 0) := by
 have : pZ l 0 = (z7 l).P := by
  unfold pZ
  rw [Nat.zero_mul, List.take_zero, List.nil_append, Nat.sub_zero]; rfl
 unfold z8; rw [this]
theorem p_8 {i : Nat} (hi : i < 144) : putL (cU (z8 l i)) (8369 + i * 160) (((l.drop (8368 + i * 160)).map (.int .u8)).take 160) = cU (z8 l (i + 1)) := by
 rw [← List.map_take, cutU_P (z8_ln hl o_m) y_bz]
 have : putI (pZ l i) (i * 160) ((l.drop (8368 + i * 160)).take 160) = pZ l (i + 1) := by
  unfold pZ
  have h2 : ((l.drop (8368 + i * 160)).take 160).length = 160 := by simp [hl]; omega
  rw [putI_mid (by simp [hl]; omega), h2, List.drop_replicate, show 23040 - i * 160 - 160 = 23040 - (i + 1) * 160 by omega, ← take_rows, List.drop_drop]
 show cU { z8 l i with P := putI (pZ l i) (i * 160) _ } = _
 rw [this]; rfl
theorem z8_all : z8 l 144 = decU l := by
 have : pZ l 144 = l.drop 8368 := by unfold pZ; rw [List.take_of_length_le y_c0]; simp
 unfold z8; rw [this]; rfl
theorem decE_no (h : okE l = false) : 5 = decE l := by unfold decE; rw [if_neg o_m, if_neg (by rw [h]; decide)]
theorem decE_yes (h : okE l = true) : 0 = decE l := by unfold decE; rw [if_neg o_m, if_pos h]
end
section
variable {l : List Int}
theorem decE_len (h : l.length ≠ 31408) : 6 = decE l := by unfold decE; rw [if_pos h]
theorem ok_1 (h : 154 ≤ l.getD 8356 0) : okE l = false := by unfold okE; rw [decide_eq_false o_m]; rfl
theorem ok_2 (h : 114 ≤ l.getD 8363 0) : okE l = false := by unfold okE; rw [decide_eq_false (p := l.getD 8363 0 < 114) o_m]; simp
theorem ok_3 (h : (bandn .u8 (l.getD 8353 0) 120 != 0) = true) : okE l = false := by unfold okE; rw [show (bandn .u8 (l.getD 8353 0) 120 == 0) = false by simpa using h]; simp
theorem ok_4 (h : 1 < l.getD 8367 0) : okE l = false := by unfold okE; rw [decide_eq_false (p := l.getD 8367 0 ≤ 1) o_m]; simp
theorem all_any (l : List Int) : l.all (fun x => decide (x ≤ 3)) = !(l.any fun x => decide (3 < x)) := by
 induction l with
 | nil => rfl
 | cons x l ih =>
  rw [List.all_cons, List.any_cons, ih, Bool.not_or]
  congr 1
  by_cases h : x ≤ 3
  ·have h2 : ¬ 3 < x := by omega
   simp [h, h2]
  ·have h2 : 3 < x := by omega
   simp [h, h2]
theorem ok_5 (h : ((l.drop 8368).any fun x => decide (3 < x)) = true) : okE l = false := by unfold okE; rw [all_any, h]; simp
theorem ok_6 (h1 : l.getD 8356 0 < 154) (h2 : l.getD 8363 0 < 114) (h3 : (bandn .u8 (l.getD 8353 0) 120 != 0) = false) (h4 : l.getD 8367 0 ≤ 1) (h5 : ((l.drop 8368).any fun x => decide (3 < x)) = false) : okE l = true := by
 unfold okE
 rw [all_any, h5, decide_eq_true h1, decide_eq_true h2, decide_eq_true h4, show (bandn .u8 (l.getD 8353 0) 120 == 0) = true by simpa using h3]; rfl
theorem decTo_0 {u : PU} (h : 0 = decE l) : decTo u l = decU l := by unfold decTo; rw [if_pos h.symm]
theorem decTo_no {u : PU} {e : Int} (h : e = decE l) (h0 : e ≠ 0) : decTo u l = u := by unfold decTo; rw [if_neg o_m]
end
section
variable {u : PU}
theorem PU.Good.own_lt (h : u.Good) : u.own < 256 := by
 have h1 := h.own; have h2 := h.ok.line
 split at h1 <;> omega
end
theorem regs_back : ∀ (R : List Int) (n : Int), R.length = 12 → R.getD 4 0 = 0 → R.getD 6 0 = 0 → (((R.set 4 n).take 6 ++ 0 :: ((R.set 4 n).drop 7)).set 4 0) = R
 | [_, _, _, _, a, _, b, _, _, _, _, _], _, _, h4, h6 => by
  have h4 : a = 0 := h4
  have h6 : b = 0 := h6
  subst h4 h6; rfl
theorem bandn_how {x : Int} (hx : 0 ≤ x ∧ x < 256) : band .u8 x 120 = x → bandn .u8 x 120 = 0 :=
 byte_all (p := fun x => band .u8 x 120 = x → bandn .u8 x 120 = 0) y_A hx.1 hx.2
theorem getD_left {A B : List Int} {j : Nat} (h : j < A.length) : (A ++ B).getD j 0 = A.getD j 0 := by
 rw [List.getD_eq_getElem?_getD, List.getElem?_append_left h, ← List.getD_eq_getElem?_getD]
section
variable {u : PU} (h : u.Wf)
include h
omit h in
theorem enc_0 : encU u = u.V ++ (u.O ++ ((r4 u).take 6 ++ ((r4 u).drop 7 ++ (tailE u ++ u.P)))) := by simp [encU, headE, regsE, List.append_assoc]
theorem enc_1 : (encU u).drop 8192 = u.O ++ ((r4 u).take 6 ++ ((r4 u).drop 7 ++ (tailE u ++ u.P))) := by rw [enc_0, List.drop_left' h.lV]
theorem enc_2 : (encU u).drop 8352 = (r4 u).take 6 ++ ((r4 u).drop 7 ++ (tailE u ++ u.P)) := by rw [show 8352 = 8192 + 160 by rfl, ← List.drop_drop, enc_1 h, List.drop_left' h.lO]
theorem enc_3 : (encU u).drop 8358 = (r4 u).drop 7 ++ (tailE u ++ u.P) := by rw [show 8358 = 8352 + 6 by rfl, ← List.drop_drop, enc_2 h, List.drop_left' y_dF]
theorem enc_4 : (encU u).drop 8363 = tailE u ++ u.P := by rw [show 8363 = 8358 + 5 by rfl, ← List.drop_drop, enc_3 h, List.drop_left' y_dF]
theorem enc_5 : (encU u).drop 8368 = u.P := by rw [show 8368 = 8363 + 5 by rfl, ← List.drop_drop, enc_4 h, List.drop_left' (l₁ := tailE u) (show (tailE u).length = 5 from rfl)]
theorem enc_line : (encU u).getD 8356 0 = u.line := by
 rw [show 8356 = 8352 + 4 by rfl, ← getD_drop, enc_2 h, getD_left y_dF, getD_take _ y_c]
 unfold r4
 rw [List.getD_eq_getElem?_getD, List.getElem?_set_self (by rw [h.lR]; decide)]; rfl
theorem enc_how : (encU u).getD 8353 0 = u.R.getD 1 0 := by
 rw [show 8353 = 8352 + 1 by rfl, ← getD_drop, enc_2 h, getD_left y_dF, getD_take _ y_c]
 unfold r4
 rw [List.getD_eq_getElem?_getD, List.getElem?_set_ne y_c, ← List.getD_eq_getElem?_getD]
theorem enc_tail {j : Nat} (hj : j < 5) : (encU u).getD (8363 + j) 0 = (tailE u).getD j 0 := by rw [← getD_drop, enc_4 h, getD_left (by simpa [tailE] using hj)]
theorem enc_byts : Byts (encU u) := by
 have hb : ∀ {A B : List Int}, Byts A → Byts B → Byts (A ++ B) := fun ha hb x hx => (List.mem_append.1 hx).elim (ha x) (hb x)
 have h4 : Byts (r4 u) := fun x hx => by
  rcases List.mem_or_eq_of_mem_set hx with h1 | rfl
  ·exact h.bR x h1
  ·have := h.line; omega
 rw [enc_0]
 refine hb h.bV (hb h.bO (hb (fun x hx => h4 x (List.mem_of_mem_take hx)) (hb (fun x hx => h4 x (List.mem_of_mem_drop hx)) (hb (fun x hx => ?_) h.bP))))
 have h1 := h.dot; have h2 := h.own; have h3 := h.frames
 simp only [tailE, List.mem_cons, List.not_mem_nil, or_false] at hx
 rcases hx with rfl | rfl | rfl | rfl | rfl
 ·omega
 ·omega
 ·omega
 ·omega
 ·unfold boolI; split <;> decide
end
section
variable {u : PU} (h : u.Good)
include h
theorem dec_enc : decU (encU u) = u := by
 have hw := h.ok.wf
 unfold decU decRu
 rw [show (encU u).take 8192 = u.V by rw [enc_0, List.take_left' hw.lV], enc_1 hw, List.take_left' hw.lO, enc_2 hw, List.take_left' (by simp [r4_len hw]), enc_3 hw, List.take_left' (by simp [r4_len hw]), enc_5 hw, enc_line hw,
  show (encU u).getD 8363 0 = u.dot from enc_tail hw (j := 0) y_c, show (encU u).getD 8364 0 = u.own % 256 from enc_tail hw (j := 1) y_c, show (encU u).getD 8365 0 = u.frames % 256 from enc_tail hw (j := 2) y_c,
  show (encU u).getD 8366 0 = u.frames / 256 from enc_tail hw (j := 3) y_c, show (encU u).getD 8367 0 = boolI u.sig from enc_tail hw (j := 4) y_c]
 have e1 : ((r4 u).take 6 ++ 0 :: (r4 u).drop 7).set 4 0 = u.R := regs_back u.R u.line hw.lR h.r4 h.r6
 have h1 := h.own_lt; have h2 := hw.own; have h3 := hw.frames
 rw [e1, show u.own % 256 = u.own by omega, show u.frames % 256 + 256 * (u.frames / 256) = u.frames by omega]
 have e2 : (boolI u.sig == 1) = u.sig := by unfold boolI; cases u.sig <;> rfl
 rw [e2]
theorem ok_enc : okE (encU u) = true := by
 have hw := h.ok.wf
 refine ok_6 (by rw [enc_line hw]; exact h.ok.line) (by rw [show (encU u).getD 8363 0 = u.dot from enc_tail hw (j := 0) y_c]; exact h.ok.dot) ?_ ?_ ?_
 ·rw [enc_how hw, bandn_how (hw.look 1) hw.how]; rfl
 ·rw [show (encU u).getD 8367 0 = boolI u.sig from enc_tail hw (j := 4) y_c]; unfold boolI; split <;> decide
 ·rw [enc_5 hw, List.any_eq_false]
  intro x hx
  have := h.pic x hx
  simp; omega
theorem decE_enc : decE (encU u) = 0 := (decE_yes (encU_len h.ok.wf) (ok_enc h)).symm
end
theorem how_byte {x : Int} (h1 : 0 ≤ x) (h2 : x < 256) : (bandn .u8 x 120 == 0) = true → band .u8 x 120 = x :=
 byte_all (p := fun x => (bandn .u8 x 120 == 0) = true → band .u8 x 120 = x) y_A h1 h2
theorem decU_wf {l : List Int} (hl : l.length = 31408) (hb : Byts l) (ho : okE l = true) : (decU l).Wf := by
 unfold okE at ho
 simp only [Bool.and_eq_true, decide_eq_true_eq] at ho
 obtain ⟨⟨⟨⟨h1, h2⟩, h3⟩, h4⟩, h5⟩ := ho
 have c0 := hb.get 8356; have c1 := hb.get 8363; have c2 := hb.get 8364; have c3 := hb.get 8365; have c4 := hb.get 8366; have c5 := hb.get 8353
 have hR : Byts (decRu l) := fun x hx => by
  unfold decRu at hx
  rcases List.mem_or_eq_of_mem_set hx with h9 | rfl
  ·rcases List.mem_append.1 h9 with h8 | h8
   ·exact hb x (List.mem_of_mem_drop (List.mem_of_mem_take h8))
   ·rcases List.mem_cons.1 h8 with rfl | h7
    ·decide
    ·exact hb x (List.mem_of_mem_drop (List.mem_of_mem_take h7))
  ·decide
 have hA : ((l.drop 8352).take 6).length = 6 := by simp [hl]
 have e1 : (decRu l).getD 1 0 = l.getD 8353 0 := by
  unfold decRu
  rw [List.getD_eq_getElem?_getD, List.getElem?_set_ne y_c, ← List.getD_eq_getElem?_getD, getD_left (by rw [hA]; decide), getD_take _ y_c, getD_drop]
 refine ⟨?_, ?_, ?_, ?_, fun x hx => hb x (List.mem_of_mem_take hx), fun x hx => hb x (List.mem_of_mem_drop (List.mem_of_mem_take hx)), hR, fun x hx => hb x (List.mem_of_mem_drop hx), ?_, ?_, ?_, ?_, ?_⟩
 ·show (l.take 8192).length = _; simp [hl]
 ·show ((l.drop 8192).take 160).length = _; simp [hl]
 ·show (decRu l).length = _; simp [decRu, hl]
 ·show (l.drop 8368).length = _; simp [hl]
 ·show 0 ≤ l.getD 8356 0 ∧ l.getD 8356 0 ≤ 154; omega
 ·show 0 ≤ l.getD 8363 0 ∧ l.getD 8363 0 ≤ 114; omega
 ·show 0 ≤ l.getD 8364 0 ∧ l.getD 8364 0 ≤ 600; omega
 ·show 0 ≤ l.getD 8365 0 + 256 * l.getD 8366 0 ∧ l.getD 8365 0 + 256 * l.getD 8366 0 < 65536; omega
 ·show band .u8 ((decRu l).getD 1 0) 120 = (decRu l).getD 1 0
  rw [e1]; exact how_byte c5.1 c5.2 h3
end Go.Proofs.YtldehodcfajpjaaGreat
