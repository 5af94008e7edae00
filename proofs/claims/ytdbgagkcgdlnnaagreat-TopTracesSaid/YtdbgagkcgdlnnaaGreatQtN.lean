/- Parts. -/
import Derived.Test.YtdbgagkcgdlnnaaGreatQtM
set_option maxRecDepth 100000
set_option maxHeartbeats 1000000
set_option linter.all false
namespace Go.Proofs.YtdbgagkcgdlnnaaGreat
open Go Go.VV Go.Proofs Go.RowKit Go.Proofs.Tryz
def aOf (o : Opr) (w : AI) :
  aC prog 40 [.agg (cO o).toArray, .string (bs (h2 o)), .string (bs (h4 o))] w [] (V_ (.string (bs (restL o)))) := by
 have q1 := aAg o.x; have q2 := aAg o.y; have q3 := aGv o.x; have q4 := aGj o.x; have q5 := aGi o.x; have q6 := aGJ o.x; have q7 := aEI o.x; have q8 := aDF o.x; have q9 := jU o.n.toNat 2; have q0 := jU o.n.toNat 4; have qb := aGW (o.kind - 44); have qh2 : (h2 o).length = 2 := jU _ _; have qh4 : (h4 o).length = 4 := jU _ _
 refine dR_ func40 ?_
 refine A_2 ?_
 refine RX (dC rfl rfl) rfl ?_
 rintro _ _ ⟨b3, rfl, rfl⟩
 refine A_14 ?_
 refine KC (fun h1 h1n => ?_) (fun h1 h1n => ?_)
 ·refine A_3 ?_
  refine RY (aN rfl rfl y_f) rfl (A_3 ?_)
  have hk := h1
  simp only [beq_iff_eq, decide_eq_true_eq] at hk
  exact E0 rfl ⟨rfl, cA_ (fun l => Value.string (bs l)) y_A⟩
 refine A_5 ?_
 refine KC (fun h2 h2n => ?_) (fun h2 h2n => ?_)
 ·refine A_4 ?_
  refine RLv K_ (wQ_ (vP _)) ?_
  refine RY (aN rfl rfl y_f) rfl (A_3 ?_)
  have hk := h2
  simp only [beq_iff_eq, decide_eq_true_eq] at hk
  exact E0 rfl ⟨rfl, cA_ (fun l => Value.string (bs l)) y_A⟩
 refine A_5 ?_
 refine KC (fun h3 h3n => ?_) (fun h3 h3n => ?_)
 ·refine A_4 ?_
  refine RLv K_ (wQ_ (vP _)) ?_
  refine RY (aN rfl rfl y_f) rfl (A_3 ?_)
  have hk := h3
  simp only [beq_iff_eq, decide_eq_true_eq] at hk
  exact E0 rfl ⟨rfl, cA_ (fun l => Value.string (bs l)) y_A⟩
 refine A_5 ?_
 refine KC (fun h4 h4n => ?_) (fun h4 h4n => ?_)
 ·refine A_4 ?_
  refine RLv K_ (wQ_ (aJC _)) ?_
  refine RY (aN rfl rfl y_f) rfl (A_3 ?_)
  have hk := h4
  simp only [beq_iff_eq, decide_eq_true_eq] at hk
  exact E0 rfl ⟨rfl, cA_ (fun l => Value.string (bs l)) y_A⟩
 refine A_5 ?_
 refine KC (fun h5 h5n => ?_) (fun h5 h5n => ?_)
 ·refine A_4 ?_
  refine RLv K_ (wQ_ (aJC _)) ?_
  refine RY (aN rfl rfl y_f) rfl (RY (aN rfl rfl y_f) rfl (A_3 ?_))
  have hk := h5
  simp only [beq_iff_eq, decide_eq_true_eq] at hk
  exact E0 rfl ⟨rfl, cA_ (fun l => Value.string (bs l)) y_A⟩
 refine A_5 ?_
 refine KC (fun h6 h6n => ?_) (fun h6 h6n => ?_)
 ·refine A_3 ?_
  refine RY (aN rfl rfl y_f) rfl (RY (aN rfl rfl y_f) rfl (A_3 ?_))
  have hk := h6
  simp only [beq_iff_eq, decide_eq_true_eq] at hk
  exact E0 rfl ⟨rfl, cA_ (fun l => Value.string (bs l)) y_A⟩
 refine A_5 ?_
 refine KC (fun h7 h7n => ?_) (fun h7 h7n => ?_)
 ·refine A_3 ?_
  refine RY (aN rfl rfl y_f) rfl (RY (aN rfl rfl y_f) rfl (A_3 ?_))
  have hk := h7
  simp only [beq_iff_eq, decide_eq_true_eq] at hk
  exact E0 rfl ⟨rfl, cA_ (fun l => Value.string (bs l)) y_A⟩
 refine A_5 ?_
 refine KC (fun h8 h8n => ?_) (fun h8 h8n => ?_)
 ·refine A_3 ?_
  refine RY (aN rfl rfl y_f) rfl (RY (aN rfl rfl y_f) rfl (A_3 ?_))
  have hk := h8
  simp only [beq_iff_eq, decide_eq_true_eq] at hk
  exact E0 rfl ⟨rfl, cA_ (fun l => Value.string (bs l)) y_A⟩
 refine A_5 ?_
 refine KC (fun h9 h9n => ?_) (fun h9 h9n => ?_)
 ·refine A_3 ?_
  refine RY (aN rfl rfl y_f) rfl (RY (aN rfl rfl y_f) rfl (A_3 ?_))
  have hk := h9
  simp only [beq_iff_eq, decide_eq_true_eq] at hk
  exact E0 rfl ⟨rfl, cA_ (fun l => Value.string (bs l)) y_A⟩
 refine A_5 ?_
 refine KC (fun h10 h10n => ?_) (fun h10 h10n => ?_)
 ·refine A_3 ?_
  refine RY (aN rfl rfl y_f) rfl (RY (aN rfl rfl y_f) rfl (A_3 ?_))
  have hk := h10
  simp only [beq_iff_eq, decide_eq_true_eq] at hk
  exact E0 rfl ⟨rfl, cA_ (fun l => Value.string (bs l)) y_A⟩
 refine A_5 ?_
 refine KC (fun h11 h11n => ?_) (fun h11 h11n => ?_)
 ·refine A_3 ?_
  refine RY (aN rfl rfl y_f) rfl (A_3 ?_)
  have hk := h11
  simp only [beq_iff_eq, decide_eq_true_eq] at hk
  exact E0 rfl ⟨rfl, cA_ (fun l => Value.string (bs l)) y_A⟩
 refine A_5 ?_
 refine KC (fun h12 h12n => ?_) (fun h12 h12n => ?_)
 ·refine A_3 ?_
  refine RY (aN rfl rfl y_f) rfl (A_3 ?_)
  have hk := h12
  simp only [beq_iff_eq, decide_eq_true_eq] at hk
  exact E0 rfl ⟨rfl, cA_ (fun l => Value.string (bs l)) y_A⟩
 refine A_6 ?_
 refine KC (fun h13 h13n => ?_) (fun h13 h13n => ?_)
 ·refine A_1 ?_
  refine fK true rfl h13 ?_
  refine A_1 ?_
  refine DR [3, 4, 5, 6, 7, 8, 9, 10, 11, 12] (pln [0, 2, 4, 12, 14, 22, 24, 7, 9, 10, 17, 18, 20, 27, 28, 30]) ?_
  refine A_2 ?_
  refine DW (v := (.int .i64 (o.kind - 44))) rfl rfl rfl (cA_ _ (aI y_a y_a)) (A_4 ?_)
  refine DX rfl (bX (z := [.string (bs [])]) (l := [.string (bs [98, 105, 116]), .string (bs [114, 101, 115]), .string (bs [115, 101, 116])]) (ps := [(0, .string (bs [98, 105, 116])), (1, .string (bs [114, 101, 115])), (2, .string (bs [115, 101, 116]))]) rfl rfl rfl rfl y_i y_i) rfl y_o ?_
  rintro _ _ ⟨b78, rfl, rfl⟩
  refine DZ rfl (aZ K_ rfl (fun w hw => gV _ aBa _ _ y_b w (fun _ => ⟨_, 0, rfl, aA m_m w hw⟩))) rfl y_c (DY rfl (aN rfl rfl y_f) rfl (DZ rfl (aZ K_ rfl (wQ_ (aEP _))) rfl y_c (DY rfl (aN rfl rfl y_f) rfl ?_)))
  refine DY rfl (aN rfl rfl y_f) rfl (DZ rfl (aZ K_ rfl (fun w hw => lG _ w)) rfl n_h (DY rfl (aN rfl rfl y_f) rfl (A_3 ?_)))
  have hk := h13
  simp only [beq_iff_eq, decide_eq_true_eq] at hk
  exact E0 rfl ⟨rfl, cA_ (fun l => Value.string (bs l)) y_A⟩
 refine A_5 ?_
 refine KC (fun h14 h14n => ?_) (fun h14 h14n => ?_)
 ·refine A_1 ?_
  refine fK true rfl h14 ?_
  refine A_1 ?_
  refine DR [3, 4, 5, 6, 7, 8, 9, 10, 11, 12] (pln [0, 2, 4, 12, 14, 22, 24, 7, 9, 10, 17, 18, 20, 27, 28, 30]) ?_
  refine A_2 ?_
  refine DW (v := (.int .i64 (o.kind - 44))) rfl rfl rfl (cA_ _ (aI y_a y_a)) (A_4 ?_)
  refine DX rfl (bX (z := [.string (bs [])]) (l := [.string (bs [98, 105, 116]), .string (bs [114, 101, 115]), .string (bs [115, 101, 116])]) (ps := [(0, .string (bs [98, 105, 116])), (1, .string (bs [114, 101, 115])), (2, .string (bs [115, 101, 116]))]) rfl rfl rfl rfl y_i y_i) rfl y_o ?_
  rintro _ _ ⟨b78, rfl, rfl⟩
  refine DZ rfl (aZ K_ rfl (fun w hw => gV _ aBa _ _ y_b w (fun _ => ⟨_, 0, rfl, aA m_m w hw⟩))) rfl y_c (DY rfl (aN rfl rfl y_f) rfl (DZ rfl (aZ K_ rfl (wQ_ (aEP _))) rfl y_c (DY rfl (aN rfl rfl y_f) rfl ?_)))
  refine DY rfl (aN rfl rfl y_f) rfl (DZ rfl (aZ K_ rfl (fun w hw => lG _ w)) rfl n_h (DY rfl (aN rfl rfl y_f) rfl (A_3 ?_)))
  have hk := h14
  simp only [beq_iff_eq, decide_eq_true_eq] at hk
  exact E0 rfl ⟨rfl, cA_ (fun l => Value.string (bs l)) y_A⟩
 refine A_4 ?_
 refine KC (fun h15 h15n => ?_) (fun h15 h15n => ?_)
 ·refine A_1 ?_
  refine DR [3, 4, 5, 6, 7, 8, 9, 10, 11, 12] (pln [0, 2, 4, 12, 14, 22, 24, 7, 9, 10, 17, 18, 20, 27, 28, 30]) ?_
  refine A_2 ?_
  refine DW (v := (.int .i64 (o.kind - 44))) rfl rfl rfl (cA_ _ (aI y_a y_a)) (A_4 ?_)
  refine DX rfl (bX (z := [.string (bs [])]) (l := [.string (bs [98, 105, 116]), .string (bs [114, 101, 115]), .string (bs [115, 101, 116])]) (ps := [(0, .string (bs [98, 105, 116])), (1, .string (bs [114, 101, 115])), (2, .string (bs [115, 101, 116]))]) rfl rfl rfl rfl y_i y_i) rfl y_o ?_
  rintro _ _ ⟨b78, rfl, rfl⟩
  refine DZ rfl (aZ K_ rfl (fun w hw => gV _ aBa _ _ y_b w (fun _ => ⟨_, 0, rfl, aA m_m w hw⟩))) rfl y_c (DY rfl (aN rfl rfl y_f) rfl (DZ rfl (aZ K_ rfl (wQ_ (aEP _))) rfl y_c (DY rfl (aN rfl rfl y_f) rfl ?_)))
  refine DY rfl (aN rfl rfl y_f) rfl (DZ rfl (aZ K_ rfl (fun w hw => lG _ w)) rfl n_h (DY rfl (aN rfl rfl y_f) rfl (A_3 ?_)))
  have hk := h15
  simp only [beq_iff_eq, decide_eq_true_eq] at hk
  exact E0 rfl ⟨rfl, cA_ (fun l => Value.string (bs l)) y_A⟩
 refine A_5 ?_
 refine RLv K_ (wQ_ (aL1 _)) ?_
 refine A_3 ?_
 exact E0 rfl ⟨rfl, cA_ (fun l => Value.string (bs l)) (by simp_all [restL])⟩
def aQa (o : Opr) (h0 : 0 ≤ o.n) (hn : o.n < 65536) (w : AI) :
  aC prog 15 [.agg (cO o).toArray] w [] (V_ (.string (bs (txt o)))) := by
 have q1 := aAg o.x; have q2 := aAg o.y; have q3 := aGv o.x; have q4 := aGj o.x; have q5 := aGi o.x; have q6 := aGJ o.x; have q7 := aEI o.x; have q8 := aDF o.x; have q9 := jU o.n.toNat 2; have q0 := jU o.n.toNat 4; have qb := aGW (o.kind - 44); have qh2 : (h2 o).length = 2 := jU _ _; have qh4 : (h4 o).length = 4 := jU _ _
 refine dR_ func15 ?_
 refine A_2 ?_
 refine RX (dC rfl rfl) rfl ?_
 rintro _ _ ⟨b1, rfl, rfl⟩
 refine A_2 ?_
 refine zG [3, 4, 5, 6, 7, 8, 9, 10] [(3, .string (bs (h2 o))), (4, .string (bs (h4 o)))] ?_ (fun y1 => ?_)
 ·refine DR [2, 3, 4] (pln [0, 2, 6, 8, 5, 11, 12, 14]) ?_
  refine A_4 ?_
  refine DZ rfl (aZ K_ rfl (wQ_ (aJl _ h0 hn _ y_b y_b))) rfl y_c (DZ rfl (aZ K_ rfl (wQ_ (aJl _ h0 hn _ y_b y_b))) rfl n_h (A_3 ?_))
  exact ⟨(.cons rfl (.cons rfl .nil)), a_g, fun _ h => h⟩
 refine A_12 ?_
 refine KC (fun h1 h1n => ?_) (fun h1 h1n => ?_)
 ·refine A_3 ?_
  refine RY (aN rfl rfl y_f) rfl (A_3 ?_)
  have hk := h1
  simp only [beq_iff_eq, decide_eq_true_eq] at hk
  exact E0 rfl ⟨rfl, cA_ (fun l => Value.string (bs l)) y_x⟩
 refine A_5 ?_
 refine KC (fun h2 h2n => ?_) (fun h2 h2n => ?_)
 ·refine A_1 ?_
  refine DR [2, 3, 4, 5, 6] (pln [0, 2, 10, 12, 5, 6, 8, 15, 16, 18]) ?_
  refine A_4 ?_
  refine DZ rfl (aZ K_ rfl (fun w hw => lG _ w)) rfl y_c (DY rfl (aN rfl rfl y_f) rfl (DY rfl (aN rfl rfl y_f) rfl (DZ rfl (aZ K_ rfl (fun w hw => lG _ w)) rfl n_h ?_)))
  refine DY rfl (aN rfl rfl y_f) rfl (A_3 ?_)
  have hk := h2
  simp only [beq_iff_eq, decide_eq_true_eq] at hk
  exact E0 rfl ⟨rfl, cA_ (fun l => Value.string (bs l)) y_x⟩
 refine A_5 ?_
 refine KC (fun h3 h3n => ?_) (fun h3 h3n => ?_)
 ·refine A_4 ?_
  refine RLv K_ (fun w hw => lG _ w) ?_
  refine RY (aN rfl rfl y_f) rfl (RY (aN rfl rfl y_f) rfl (A_1 ?_))
  refine RY (aN rfl rfl y_f) rfl (A_3 ?_)
  have hk := h3
  simp only [beq_iff_eq, decide_eq_true_eq] at hk
  exact E0 rfl ⟨rfl, cA_ (fun l => Value.string (bs l)) y_x⟩
 refine A_5 ?_
 refine KC (fun h4 h4n => ?_) (fun h4 h4n => ?_)
 ·refine A_4 ?_
  refine RLv K_ (wQ_ (vP _)) ?_
  refine RY (aN rfl rfl y_f) rfl (RY (aN rfl rfl y_f) rfl (A_1 ?_))
  refine RY (aN rfl rfl y_f) rfl (A_3 ?_)
  have hk := h4
  simp only [beq_iff_eq, decide_eq_true_eq] at hk
  exact E0 rfl ⟨rfl, cA_ (fun l => Value.string (bs l)) y_x⟩
 refine A_5 ?_
 refine KC (fun h5 h5n => ?_) (fun h5 h5n => ?_)
 ·refine A_1 ?_
  refine DR [2, 3, 4, 5] (pln [0, 2, 8, 10, 5, 6, 13, 14, 16]) ?_
  refine A_4 ?_
  refine DZ rfl (aZ K_ rfl (fun w hw => aGU _ w)) rfl y_c (DY rfl (aN rfl rfl y_f) rfl (DZ rfl (aZ K_ rfl (fun w hw => lG _ w)) rfl n_h (DY rfl (aN rfl rfl y_f) rfl ?_)))
  refine A_3 ?_
  have hk := h5
  simp only [beq_iff_eq, decide_eq_true_eq] at hk
  exact E0 rfl ⟨rfl, cA_ (fun l => Value.string (bs l)) y_x⟩
 refine A_5 ?_
 refine KC (fun h6 h6n => ?_) (fun h6 h6n => ?_)
 ·refine A_4 ?_
  refine RLv K_ (fun w hw => aGU _ w) ?_
  refine RY (aN rfl rfl y_f) rfl (A_1 ?_)
  refine RY (aN rfl rfl y_f) rfl (A_3 ?_)
  have hk := h6
  simp only [beq_iff_eq, decide_eq_true_eq] at hk
  exact E0 rfl ⟨rfl, cA_ (fun l => Value.string (bs l)) y_x⟩
 refine A_5 ?_
 refine KC (fun h7 h7n => ?_) (fun h7 h7n => ?_)
 ·refine A_4 ?_
  refine RLv K_ (fun w hw => lG _ w) ?_
  refine RY (aN rfl rfl y_f) rfl (A_3 ?_)
  have hk := h7
  simp only [beq_iff_eq, decide_eq_true_eq] at hk
  exact E0 rfl ⟨rfl, cA_ (fun l => Value.string (bs l)) y_x⟩
 refine A_5 ?_
 refine KC (fun h8 h8n => ?_) (fun h8 h8n => ?_)
 ·refine A_4 ?_
  refine RLv K_ (fun w hw => lG _ w) ?_
  refine RY (aN rfl rfl y_f) rfl (A_3 ?_)
  have hk := h8
  simp only [beq_iff_eq, decide_eq_true_eq] at hk
  exact E0 rfl ⟨rfl, cA_ (fun l => Value.string (bs l)) y_x⟩
 refine A_5 ?_
 refine KC (fun h9 h9n => ?_) (fun h9 h9n => ?_)
 ·refine A_4 ?_
  refine RLv K_ (wQ_ (vP _)) ?_
  refine RY (aN rfl rfl y_f) rfl (A_3 ?_)
  have hk := h9
  simp only [beq_iff_eq, decide_eq_true_eq] at hk
  exact E0 rfl ⟨rfl, cA_ (fun l => Value.string (bs l)) y_x⟩
 refine A_5 ?_
 refine KC (fun h10 h10n => ?_) (fun h10 h10n => ?_)
 ·refine A_4 ?_
  refine RLv K_ (wQ_ (vP _)) ?_
  refine RY (aN rfl rfl y_f) rfl (A_3 ?_)
  have hk := h10
  simp only [beq_iff_eq, decide_eq_true_eq] at hk
  exact E0 rfl ⟨rfl, cA_ (fun l => Value.string (bs l)) y_x⟩
 refine A_5 ?_
 refine KC (fun h11 h11n => ?_) (fun h11 h11n => ?_)
 ·refine A_4 ?_
  refine RLv K_ (wQ_ (vP _)) ?_
  refine RY (aN rfl rfl y_f) rfl (A_3 ?_)
  have hk := h11
  simp only [beq_iff_eq, decide_eq_true_eq] at hk
  exact E0 rfl ⟨rfl, cA_ (fun l => Value.string (bs l)) y_x⟩
 refine A_5 ?_
 refine KC (fun h12 h12n => ?_) (fun h12 h12n => ?_)
 ·refine A_1 ?_
  refine DR [2, 3, 4, 5, 6] (pln [0, 2, 10, 12, 5, 7, 8, 15, 16, 18]) ?_
  refine A_4 ?_
  refine DX rfl (bX (z := [.string (bs [])]) (l := [.string (bs [114, 108, 99]), .string (bs [114, 114, 99]), .string (bs [114, 108]), .string (bs [114, 114]), .string (bs [115, 108, 97]), .string (bs [115, 114, 97]), .string (bs [115, 119, 97, 112]), .string (bs [115, 114, 108])]) (ps := [(0, .string (bs [114, 108, 99])), (1, .string (bs [114, 114, 99])), (2, .string (bs [114, 108])), (3, .string (bs [114, 114])), (4, .string (bs [115, 108, 97])), (5, .string (bs [115, 114, 97])), (6, .string (bs [115, 119, 97, 112])), (7, .string (bs [115, 114, 108]))]) rfl rfl rfl rfl y_i y_i) rfl y_o ?_
  rintro _ _ ⟨b98, rfl, rfl⟩
  refine DZ rfl (aZ K_ rfl (fun w hw => gV _ aBN _ _ y_b w (fun _ => ⟨_, 0, rfl, aA m_m w hw⟩))) rfl y_c (DY rfl (aN rfl rfl y_f) rfl (DZ rfl (aZ K_ rfl (fun w hw => lG _ w)) rfl n_h (DY rfl (aN rfl rfl y_f) rfl ?_)))
  refine A_3 ?_
  have hk := h12
  simp only [beq_iff_eq, decide_eq_true_eq] at hk
  exact E0 rfl ⟨rfl, cA_ (fun l => Value.string (bs l)) y_x⟩
 refine A_5 ?_
 refine KC (fun h13 h13n => ?_) (fun h13 h13n => ?_)
 ·refine A_4 ?_
  refine RX (bX (z := [.string (bs [])]) (l := [.string (bs [114, 108, 99, 97]), .string (bs [114, 114, 99, 97]), .string (bs [114, 108, 97]), .string (bs [114, 114, 97])]) (ps := [(0, .string (bs [114, 108, 99, 97])), (1, .string (bs [114, 114, 99, 97])), (2, .string (bs [114, 108, 97])), (3, .string (bs [114, 114, 97]))]) rfl rfl rfl rfl y_i y_i) rfl ?_
  rintro _ _ ⟨b109, rfl, rfl⟩
  refine RZ (aZ K_ rfl (fun w hw => gV _ zN _ _ y_b w (fun _ => ⟨_, 0, rfl, aA m_m w hw⟩))) rfl (A_3 ?_)
  have hk := h13
  simp only [beq_iff_eq, decide_eq_true_eq] at hk
  exact E0 rfl ⟨rfl, cA_ (fun l => Value.string (bs l)) y_x⟩
 refine A_5 ?_
 refine KC (fun h14 h14n => ?_) (fun h14 h14n => ?_)
 ·refine A_5 ?_
  refine RZ (aZ K_ rfl (wQ_ (aAd _ _ _ y_b y_cS))) rfl (A_3 ?_)
  have hk := h14
  simp only [beq_iff_eq, decide_eq_true_eq] at hk
  exact E0 rfl ⟨rfl, cA_ (fun l => Value.string (bs l)) y_x⟩
 refine A_5 ?_
 refine KC (fun h15 h15n => ?_) (fun h15 h15n => ?_)
 ·refine A_5 ?_
  refine RZ (aZ K_ rfl (wQ_ (aAd _ _ _ y_b y_cS))) rfl (A_3 ?_)
  have hk := h15
  simp only [beq_iff_eq, decide_eq_true_eq] at hk
  exact E0 rfl ⟨rfl, cA_ (fun l => Value.string (bs l)) y_x⟩
 refine A_5 ?_
 refine KC (fun h16 h16n => ?_) (fun h16 h16n => ?_)
 ·refine A_5 ?_
  refine RZ (aZ K_ rfl (wQ_ (aAd _ _ _ y_b y_cS))) rfl (A_3 ?_)
  have hk := h16
  simp only [beq_iff_eq, decide_eq_true_eq] at hk
  exact E0 rfl ⟨rfl, cA_ (fun l => Value.string (bs l)) y_x⟩
 refine A_5 ?_
 refine KC (fun h17 h17n => ?_) (fun h17 h17n => ?_)
 ·refine A_4 ?_
  refine RZ (aZ K_ rfl (wQ_ (aAd _ _ _ y_b y_cS))) rfl (A_3 ?_)
  have hk := h17
  simp only [beq_iff_eq, decide_eq_true_eq] at hk
  exact E0 rfl ⟨rfl, cA_ (fun l => Value.string (bs l)) y_x⟩
 refine A_3 ?_
 refine RZ (aL rfl rfl rfl y_h) rfl (A_2 ?_)
 refine RLv K_ (wQ_ (aOf o)) ?_
 refine A_3 ?_
 exact E0 rfl ⟨rfl, cA_ (fun l => Value.string (bs l)) (by simp_all [txt])⟩
def aGn {Γ : Ctx} {e : Env} {d : AD} {ty : AJ} {pos : String} {af : AG} {gd : Option (Nat × Bool)} {t : AJ} {x y : AK} {T by_ n : Nat} {v : AH} {xs : AA} {G R : aB} {ts : Array AJ} {kk : AM} {pa : AC} {pc : Nat} {p : AB}
  (hx : ev e x = v) (hy : ev e y = .slice pa p.length pc) (hts : ts = #[t, t]) (hp : uL Γ.P t = some (T, 1, by_)) (hv : Vec T 1 v n xs G) (h0 : n ≠ 0)
  (hs : ∀ w, St Γ.w0 Γ.ms (G ++ R) w → Ns w kk pa p) (hn : n + p.length ≤ 1000000) (hb : by_ ≤ 1000) :
  Op1 Γ ⟨d, .call ⟨.builtin .append, #[x, y], ts⟩, ty, pos, af, gd⟩ e (G ++ R) (fun v' H' => ∃ G', Vec T 1 v' (p.length + n) (xs ++ p.map (.int kk)) G' ∧ H' = G' ++ R) := by
 intro w hw
 rcases dd p.length with hz | hz
 ·obtain rfl := List.length_eq_zero_iff.1 hz
  obtain ⟨b, cap, sp, rfl, h1, h2, h3, h4⟩ := hv.full h0
  refine iG (aDu (n := n) (n2 := 0) (by rw [hx]; rfl) (by rw [hy]; rfl) rfl hts hp h3 w hw) ?_
  rintro v' w' ⟨H', hw', ⟨rfl, rfl⟩⟩
  exact ⟨_, hw', ⟨G, hv.as (az _).symm (bq _).symm, rfl⟩⟩
 obtain ⟨b, off, rfl, hr⟩ := hs w hw hz
 have key := gD (Γ := Γ) (e := e) (d := d) (ty := ty) (pos := pos) (af := af) (g := gd) (A := []) (G := G) (R := R) (m := p.length) (ys := p.map (.int kk)) hx hy hts hp hv (fun w2 hw2 => by
  obtain ⟨b2, off2, h9, hr2⟩ := hs w2 hw2 hz
  cases h9
  exact .row _ _ _ _ _ (by rw [Lm_, eo]) hr2) (jF _ _) o_m (by have := Nat.mul_le_mul hn hb; omega)
 refine iG (key w hw) ?_
 rintro v' w' ⟨H', hw', ⟨G', hV, _, rfl⟩⟩
 exact ⟨_, hw', ⟨G', hV.as (gt _ _) rfl, rfl⟩⟩
def aLq (b6 : Nat) (w : AI) (hr : Row w b6 0 (([62, 18] : AB).map U_)) : aC prog 8 [.int .u8 0, .int .u8 0, .int .u8 0, .slice (Q_ b6) 2 2] w [] (fun v H => ∃ b, v = .slice (Q_ b) mJ.length mJ.length ∧ H = [(b, blk (mJ.map U_) 5)]) :=
 (aGr 0 0 0 y_b y_b y_b _ 2 [62, 18] y_b (by unfold aY; decide) w (Ns.of hr)).mono fun _ _ ⟨b, h1, h2⟩ => ⟨b, by rw [h1, show mJ.length = romS 0 from tY _ _ _ _], h2⟩
def aC4 : aY mJ := aBH y_b y_b (by unfold aY; decide)
def aFz : jK (dX mJ) True (dX mJ) := aET aEK aC4
def aQt : jK (dX mJ) True m1 := aFz.step (fun _ h => y_ep)
def aEi (w : AI) : aC prog 4 [] w [] (V_ (.bool true)) := by
 refine dR_ func4 ?_
 refine ZB2 ?_
 refine RX (bX (z := [.int .u8 0]) (l := [.int .u8 62, .int .u8 18]) (ps := [(0, .int .u8 62), (1, .int .u8 18)]) rfl rfl rfl rfl rfl rfl) rfl (ZBz fun b0 => ?_)
 refine RX (dE K_ rfl (fun w hw => aLq b0 w (aA (b := b0) (.head _) w hw))) rfl ?_
 rintro _ _ ⟨G0, ⟨b1, rfl, rfl⟩, rfl⟩
 refine cE (fun _ h => h.sub (.cons_cons _ (List.nil_sublist _))) (H' := [(b1, blk (mJ.map U_) 5)]) ?_
 refine RX (dB K_ rfl (wV_ (aRv b1 mJ (by rw [show mJ.length = romS 0 from tY _ _ _ _]; decide) aC4 aEK none 0 0 _))) rfl ?_
 rintro _ _ ⟨q, hq, rfl, rfl⟩
 refine A_10 ?_
 refine ZAY ?_
 refine ZAn ?_
 refine ZAY ?_
 refine ZDR ?_
 refine RX (dB K_ rfl (fun w hw => aHO q none 0 [] hq (fun _ h => y_ep) y_b (dX mJ) aFz _ w (St.lentA hw) (Els.nil _ _ _) (fun _ h => y_ep))) rfl ?_
 rintro _ _ ⟨oT, va, G, hq2, rfl, hV, rfl⟩
 obtain ⟨a9, c0, rfl⟩ := hV.slice
 refine ZBB ?_
 refine ZDk ?_
 rintro _ _ ⟨b2, rfl, rfl⟩
 refine RZ (xS_ (l' := cDd (stepM [] (dX mJ)).1) 0) rfl (ZAB ?_)
 refine ZBx ?_
 refine RW (v := (.int .i64 2)) l_n rfl (cA_ _ (show ((m1.acc.length : Nat) : Int) = 2 by rw [aRL]; rfl)) (ZA1 ?_)
 refine ZAn ?_
 refine RLv K_ (fun w hw => zR q.A _ m1 aQt.wf.ln w (aA (b := q.A.mb) (l := cMm q.A (.slice a9 (stepM [] (dX mJ)).2.acc.length c0) m1) (.tail _ (mR_ _ (.tail _ (.head _)))) w hw)) ?_
 refine ZBR ?_
 refine RW (v := (.int .u8 18)) (wB rfl rfl rfl rfl rfl) rfl (cA_ _ aSP) (ZA1 ?_)
 refine ZAn ?_
 refine RZ (aZ K_ rfl (fun w hw => aOQ none 0 [] y_b (fun _ h => y_ep) w (Ns.nil _ _ _))) rfl (dT true rfl rfl rfl y_i ?_)
 refine ZB6 ?_
 exact EV rfl (List.nil_sublist _) ⟨rfl, rfl⟩
def prT (p : AB) : AB := 24 :: 78 :: 0 :: 0 :: p
def iI (p : AB) : AB := madeI 0 0 0 (prT p)
def aA4 (p : AB) : (iI p).length = romS 0 := tY _ _ _ _
def aE5 {p : AB} (h : aY p) : aY (prT p) := fun x hx => by
 rcases List.mem_cons.1 hx with rfl | hx
 ·decide
 rcases List.mem_cons.1 hx with rfl | hx
 ·decide
 rcases List.mem_cons.1 hx with rfl | hx
 ·decide
 rcases List.mem_cons.1 hx with rfl | hx
 ·decide
 exact h x hx
def aDm {p : AB} (h : aY p) : aY (iI p) := aBH y_b y_b (aE5 h)
def aFt (p : AB) : errH (iI p) = 0 := aMM _
def gT (p : AB) : Gx := ⟨iI p, [], none, 0⟩
def aSg {p : AB} (h : aY p) : (gT p).Ok := ⟨by show (iI p).length ≤ _; rw [aA4]; decide, aDm h, aFt p, fun _ h => y_c1, aj _⟩
def aER (p : AB) (hp : aY p) (hl : p.length ≤ 1000) (b c : Nat) (sp : AA) (w : AI) (hr : Row w b 0 ((prT p).map U_ ++ sp)) : aC prog 8 [.int .u8 0, .int .u8 0, .int .u8 0, .slice (Q_ b) (p.length + 4) c] w [] (fun v H => ∃ b, v = .slice (Q_ b) (iI p).length (iI p).length ∧ H = [(b, blk ((iI p).map U_) 5)]) :=
 (aGr 0 0 0 y_b y_b y_b (Q_ b) c (prT p) (by show p.length + 4 ≤ _; omega) (aE5 hp) w (Ns.of hr.left)).mono fun _ _ ⟨b, h1, h2⟩ => ⟨b, by rw [h1, aA4], h2⟩
def aPj (pa : AC) (pc : Nat) (p : AB) (hp : aY p) (hl : p.length ≤ 500) (w : AI) (hB : Ns w .u8 pa p) : aC prog 6 [.slice pa p.length pc, .int .i64 0] w [] (fun v H => ∃ q : MA, q.Ok none 0 0 ∧ v = pM q ∧ H = hM q (dX (iI p))) := by
 refine dR_ func6 ?_
 refine ZB2 ?_
 refine ZC3 ?_
 refine ZBz fun b0 => ?_
 refine ZBR ?_
 refine RX (aGn (T := 5) (by_ := 1) (n := 4) (G := [(b0, _)]) (R := []) (xs := [.int .u8 24, .int .u8 78, .int .u8 0, .int .u8 0]) rfl rfl rfl rfl (Vec.row b0 4 4 _ [] rfl rfl y_b (ax _)) y_b (fun w hw => hB.later0 hw) o_m y_b) rfl ?_
 rintro _ _ ⟨_, hV0, rfl⟩
 obtain ⟨b1, c0, sp0, rfl, rfl, _, hc0, _⟩ := hV0.full o_m
 refine RX (dE K_ rfl (fun w hw => aER p hp o_m b1 c0 sp0 w (aA (b := b1) (l := (prT p).map U_ ++ sp0) (.head _) w hw))) rfl ?_
 rintro _ _ ⟨G0, ⟨b2, rfl, rfl⟩, rfl⟩
 refine cE (fun _ h => h.sub (.cons_cons _ (List.nil_sublist _))) (H' := [(b2, blk ((iI p).map U_) 5)]) ?_
 refine RX (dB K_ rfl (wV_ (aRv b2 (iI p) (by rw [aA4]; decide) (aDm hp) (aFt p) none 0 0 _))) rfl ?_
 rintro _ _ ⟨q, hq, rfl, rfl⟩
 refine A_10 ?_
 refine ZAY ?_
 refine A_10 ?_
 refine bG (σ := Unit) [18, 19, 20, 21, 22] (fun _ => [(18, .int .i64 0)]) (fun _ => hM q (dX (iI p))) (fun _ => True) (fun _ => 0) () ?_ ?_ ?_ ?_
 ·exact trivial
 ·exact .cons rfl .nil
 ·exact fun _ h => h
 rintro _ y2 _
 refine ZAn ?_
 refine ZAY ?_
 refine A_10 ?_
 exact EV rfl sR_ ⟨q, hq, rfl, rfl⟩
def aOh {b : Nat} {u3 : AH} {Gt : aB} (hT : gN b u3 Gt) (a x c : Int) (ha : 0 ≤ a ∧ a < 256) (hx : 0 ≤ x ∧ x < 256) (hc : 0 ≤ c ∧ c < 256) (w : AI) (hst : St w (Gt.map (·.1)) Gt w) :
  aC prog 14 [P_ b, .int .u8 a, .int .u8 x, .int .u8 c] w (Gt.map (·.1)) (fun v H => v = .agg (cO (dcd a x c)).toArray ∧ gN b u3 H) := by
 rw [hT.blocks] at hst ⊢
 exact aDt b u3 Gt hT a x c ha hx hc w hst
def fet_next {l : List Ac} {j : Nat} {x : Ac} (hx : l[j]? = some x) : fet (l.take (j + 1)) = fetS (fet (l.take j)) x := by rw [sQ hx, aLm]
def nV (g : Gx) {N i : Nat} (h1 : i < N) (h2 : N - 32 ≤ i) : ((Hs.lastL (g.sts N) 32).map Hs.recOf)[i - (N - 32)]? = some (Hs.recOf (g.st i)) := by
 unfold Hs.lastL
 rw [bz, db, Gx.sts_len, show N - 32 + (i - (N - 32)) = i by omega]
 unfold Gx.sts
 rw [bz, ei h1]; rfl
set_option maxHeartbeats 4000000 in
def aKw (pa : AC) (pc : Nat) (p : AB) (hp : aY p) (hl : p.length ≤ maxLen) (n : Int) (hn : 0 ≤ n ∧ n < 256) (w : AI) (hB : Ns w .u8 pa p) : aC prog 3 [.slice pa p.length pc, .int .u8 n] w [] (V_ (.bool true)) := by
 obtain ⟨N, hN⟩ : ∃ N : Nat, (N : Int) = n % 60 := ⟨(n % 60).toNat, y_B⟩
 have hmin : 0 + min N 5000 = N := by omega
 have hg9 := aSg hp
 refine dR_ func3 ?_
 refine ZDR ?_
 refine RLv K_ (wQ_ aEi) ?_
 refine ZBB ?_
 refine ZCJ ?_
 refine KC (fun q0 z0 => ?_) (fun q0 z0 => ?_)
 ·refine ZAn ?_
  refine RLv K_ (wQ_ aEi) ?_
  refine ZBB ?_
  exact EV rfl (List.nil_sublist _) ⟨rfl, rfl⟩
 refine ZAn ?_
 have hl9 : p.length ≤ 500 := by have h8 := df q0; omega
 refine ZBR ?_
 refine RX (dE K_ rfl (wQ_ (aOi 30))) rfl ?_
 rintro _ _ ⟨G0, ⟨b0, tb, oT, rfl, hT0, rfl⟩, rfl⟩
 refine ZBx ?_
 refine RX (dE K_ rfl (fun w hw => aPj pa pc p hp o_m w (hB.later0 hw))) rfl ?_
 rintro _ _ ⟨G1, ⟨q, hq, rfl, rfl⟩, rfl⟩
 refine ZB2 ?_
 refine ZAY ?_
 refine ZAn ?_
 refine ZC3 ?_
 rintro _ _ ⟨b1, rfl, rfl⟩
 refine ZBR ?_
 refine RX (aGn (T := 5) (by_ := 1) (n := 4) (G := [(b1, _)]) (R := hM q (dX (iI p)) ++ [(b0, blk (cDz 30 (P_ tb)) 79), (tb, oT)]) (xs := [.int .u8 24, .int .u8 78, .int .u8 0, .int .u8 0]) rfl rfl rfl rfl (Vec.row b1 4 4 _ [] rfl rfl y_b (ax _)) y_b (fun w hw => hB.later0 hw) o_m y_b) rfl ?_
 rintro _ _ ⟨_, hV0, rfl⟩
 obtain ⟨b2, c0, sp0, rfl, rfl, _, hc0, _⟩ := hV0.full o_m
 refine RX (dE K_ rfl (fun w hw => aER p hp o_m b2 c0 sp0 w (aA (b := b2) (l := (prT p).map U_ ++ sp0) (.head _) w hw))) rfl ?_
 rintro _ _ ⟨G2, ⟨b3, rfl, rfl⟩, rfl⟩
 refine cE (H' := [(b0, blk (cDz 30 (P_ tb)) 79), (b3, blk ((iI p).map U_) 5), (tb, oT)] ++ hM q (dX (iI p))) (fun _ h => St.fl [[(b3, blk ((iI p).map U_) 5)], [(b2, _)], hM q (dX (iI p)), [(b0, blk (cDz 30 (P_ tb)) 79)], [(tb, oT)]] [3, 0, 4, 2] rfl h) ?_
 refine RX (cB (F := []) (A := [(b0, blk (cDz 30 (P_ tb)) 79), (b3, blk ((iI p).map U_) 5), (tb, oT)]) (G := hM q (dX (iI p))) K_ rfl (fun w q0 _ => aLz (gT p) hg9 b0 30 0 0 _ _ _ _ _ _ _ _ _ b3 [] [(tb, oT)] ⟨.nil, fun _ h => y_c1, aj _⟩ w q0)) rfl ?_
 rintro _ _ ⟨_, ⟨rfl, e, hE, hb, hcap, hask, hdn, hpv, hwv, htab, hR, rfl⟩, rfl⟩
 have hF : e.Fine (gT p) 0 1 := ⟨hE, y_et, y_et, by rw [hdn]; decide⟩
 refine cE (H' := e.H (gT p) 0 ++ hM q (dX (iI p))) (fun _ h => h) ?_
 refine ZAY ?_
 refine ZDR ?_
 refine ZAU ?_
 refine RW (v := (.int .i64 (N : Int))) rfl rfl (cA_ _ ((Int.tmod_eq_emod_of_nonneg o_m).trans hN.symm)) (ZB2 ?_)
 refine RW (v := (.int .u64 (N : Int))) rfl rfl (qX o_m o_m) (RX (cB (F := []) (A := e.H (gT p) 0) (G := hM q (dX (iI p))) K_ rfl (fun w q0 _ => (by have h9 := aNi e (gT p) hg9 0 1 hF N o_m w q0; rw [hmin, hb] at h9; exact h9))) rfl ?_)
 rintro _ _ ⟨_, ⟨rfl, e1, ⟨hE1, hT1, hd1, rfl⟩⟩, rfl⟩
 refine cE (H' := e1.H (gT p) N ++ hM q (dX (iI p))) (fun _ h => h) ?_
 refine ZBB ?_
 refine RX (dE K_ rfl (wQ_ aAt)) rfl ?_
 rintro _ _ ⟨G3, ⟨tb2, rfl, hT2⟩, rfl⟩
 refine ZBx ?_
 refine RX (dE K_ rfl (fun w hw => (by have h9 := aLI e1.b e1.hb 32 N (Hs.callsL ((gT p).sts N)) e1.ring (by have := Hs.callsL_len ((gT p).sts N); omega) w (aT (b := e1.b) (l := Db.cs e1 (gT p) N) (mR_ _ (mL_ _ (.head _))) rfl w hw) (hE1.hist.histW hw (fun x hx => (mR_ _ (mL_ _ (.tail _ (.tail _ (mR_ _ (mL_ _ hx)))))))); rw [hT1.b, hb] at h9; exact h9))) rfl ?_
 rintro _ _ ⟨G4, ⟨b4, rfl, hH48⟩, rfl⟩
 refine RX (dE K_ rfl (fun w hw => Hs.records_fn b4 32 (Hs.callsL ((gT p).sts N)) e1.ring ((gT p).sts N) y_b y_b (by rw [Gx.sts_len]; omega) hE1.ring w (by rw [Gx.sts_len]; exact hH48.histW hw (fun x hx => mL_ _ hx)))) rfl ?_
 rintro v0 _ ⟨G5, hV1, rfl⟩
 rw [Hs.lastL_len, Gx.sts_len] at hV1
 obtain ⟨a49, cx1, rfl, hl49, hc1, hr0⟩ := hV1.rows Hs.cR_len y_b
 refine cE (H' := G3 ++ (hM q (dX (iI p)) ++ G5)) (fun _ h => St.fl [G5, G4, G3, e1.H (gT p) N, hM q (dX (iI p))] [2, 4, 0] rfl h) ?_
 refine ZBx ?_
 refine RW (v := (.int .i64 ((N : Int) - 32))) rfl rfl (cA_ _ (aI o_m o_m)) (RW (v := (.int .i64 ((N - 32 : Nat) : Int))) (kN rfl rfl) rfl (cA_ _ o_m) (ZB2 ?_))
 refine ZEd ?_
 refine RW (v := (.int .i64 ((min N 32 : Nat) : Int))) rfl rfl (cA_ _ ((aI o_m o_m).trans o_m)) (dT false rfl rfl rfl (ge _) ?_)
 refine A_10 ?_
 refine bG (σ := Nat × Obj × AH × aB) [4, 11, 12, 13, 14, 15, 16, 60, 61, 62, 63, 64, 65, 66, 67, 68, 69, 70, 71, 72, 73, 74, 75, 76, 77, 78, 79, 80, 81, 82, 83, 84, 85, 86, 87, 88, 89, 90, 91, 92, 93, 94, 95, 96, 97, 98, 99, 100, 101, 102, 103, 104, 105, 106, 107, 108, 109, 110, 111, 112, 113, 114, 115, 116, 117, 118, 119, 120, 121, 122, 123, 124, 125, 126, 127, 128, 129, 130, 131, 132, 133, 134, 135, 136, 137, 138, 139, 140, 141, 142, 143, 144, 145, 146, 147, 148, 149, 150, 151, 152, 153, 154, 155, 156, 157, 158, 159, 160, 161, 162, 163, 164, 165, 166, 167, 168, 169, 170, 171, 172, 173, 174, 175] (fun s => [(60, .int .i64 s.1)]) (fun s => s.2.2.2 ++ (hM (⟨q.A, q.tb, s.2.1, s.2.2.1⟩ : MA) ((gT p).m s.1) ++ G5)) (fun s => s.1 ≤ N ∧ (MA.mk q.A q.tb s.2.1 s.2.2.1).Ok none 0 0 ∧ gN tb2 (.int .u32 0) s.2.2.2) (fun s => N - s.1) (0, q.oT, q.va, G3) ?_ ?_ ?_ ?_
 ·exact ⟨aj _, hq, hT2⟩
 ·exact .cons rfl .nil
 ·exact fun _ h => h
 rintro ⟨i, oTi, vi, Gt⟩ y15 ⟨hi, hqi, hTt⟩
 dsimp only at hi hqi hTt ⊢
 refine ZBx ?_
 refine KC (fun q1 z1 => ?_) (fun q1 z1 => ?_)
 ·refine ZB6 ?_
  have hinv := hg9.inv i
  obtain ⟨b5, rfl, hr9b⟩ := hr0 (by rw [hl49]; omega)
  refine ZDR ?_
  refine RX (cB (F := Gt) (A := hM (⟨q.A, q.tb, oTi, vi⟩ : MA) ((gT p).m i)) (G := G5) K_ rfl (fun w q0 _ => aHO (R := dX (iI p)) (D := True) (⟨q.A, q.tb, oTi, vi⟩ : MA) none 0 [] hqi (fun _ h => y_ep) y_b ((gT p).m i) hinv _ w q0 (Els.nil _ _ _) (fun _ h => y_ep))) rfl ?_
  rintro _ _ ⟨_, ⟨oT0, va0, G6, hq2, rfl, hV2, rfl⟩, rfl⟩
  have hml : maxLen ≤ 9223372036854775807 := by decide
  have hln65 : (stepM [] ((gT p).m i)).2.acc.length ≤ maxLen := by rcases hV2.alt with ⟨_, h5, _⟩ | ⟨_, _, _, _, _, _, h5, h6⟩ <;> omega
  obtain ⟨a65, c2, rfl, _, hc2, hr1⟩ := hV2.rows aCE y_b
  refine ZBB ?_
  refine ZDk ?_
  rintro _ _ ⟨b6, rfl, rfl⟩
  refine RZ (xS_ (l' := cDd (stepM [] ((gT p).m i)).1) 0) rfl (ZAB ?_)
  refine ZB6 ?_
  refine RY (jW (l := [.int .u8 0, .int .u8 0, .int .u8 0]) (z := [.int .u8 0, .int .u8 0, .int .u8 0]) (ps := []) rfl rfl rfl y_i) rfl (ZDk ?_)
  rintro _ _ ⟨b7, rfl, rfl⟩
  refine RZ (xS_ (l' := ([0, 0, 0] : AB).map U_) 0) rfl (ZAB ?_)
  refine A_9 ?_
  refine ZCJ ?_
  refine bG (σ := Nat) [15, 16, 71, 72, 73, 74, 75, 76, 77, 78, 79, 80, 81, 82, 83, 84, 85, 86, 87, 88, 89, 90, 91, 92, 93] (fun j => [(15, .int .i64 ((fet ((stepM [] ((gT p).m i)).2.acc.take j)).1 : Nat)), (71, .int .i64 j)]) (fun j => (b7, blk ((fet ((stepM [] ((gT p).m i)).2.acc.take j)).2.map U_) 50) :: (b6, blk (cDd (stepM [] ((gT p).m i)).1) 46) :: (Gt ++ ((G6 ++ hM (⟨q.A, q.tb, oT0, (.slice a65 (stepM [] ((gT p).m i)).2.acc.length c2)⟩ : MA) (stepM [] ((gT p).m i)).2) ++ G5))) (fun j => j ≤ (stepM [] ((gT p).m i)).2.acc.length) (fun j => (stepM [] ((gT p).m i)).2.acc.length - j) 0 ?_ ?_ ?_ ?_
  ·exact aj _
  ·exact .cons rfl (.cons rfl .nil)
  ·exact fun _ h => h
  rintro j y21 hj
  dsimp only at hj ⊢
  refine ZBx ?_
  refine KC (fun q2 z2 => ?_) (fun q2 z2 => ?_)
  ·refine A_9 ?_
   obtain ⟨x0, hx0⟩ : ∃ x, (stepM [] ((gT p).m i)).2.acc[j]? = some x := ⟨_, am o_m⟩
   obtain ⟨b8, rfl, hr2⟩ := hr1 o_m
   have hfo := aQD ((stepM [] ((gT p).m i)).2.acc.take j)
   refine ZBB ?_
   refine RY (bE (s := 3) j rfl rfl rfl rfl o_m) rfl (ZBR ?_)
   refine RZ (aH rfl rfl (fun w hw => (hr2.row (fun x hx => .tail _ (.tail _ (mR_ _ (mL_ _ (mL_ _ hx))))) w hw).at aCE hx0 0 rfl)) rfl (ZBR ?_)
   refine KL (fun q3 z3 => ?_) (fun q3 z3 => ?_)
   ·refine ZB6 ?_
    refine KC (fun q4 z4 => ?_) (fun q4 z4 => ?_)
    ·refine ZBx ?_
     refine RY (bE (s := 3) j rfl rfl rfl rfl o_m) rfl (ZBR ?_)
     refine RZ (aH rfl rfl (fun w hw => (hr2.row (fun x hx => .tail _ (.tail _ (mR_ _ (mL_ _ (mL_ _ hx))))) w hw).at aCE hx0 2 rfl)) rfl (RY (aM (fet ((stepM [] ((gT p).m i)).2.acc.take j)).1 rfl rfl rfl rfl o_m) rfl (RZ (aD (l' := ((fet ((stepM [] ((gT p).m i)).2.acc.take j)).2.set (fet ((stepM [] ((gT p).m i)).2.acc.take j)).1 x0.val).map U_) 0 rfl rfl rfl rfl rfl rfl (by simp [hfo.2]; omega) (by rw [az]; exact jE _ o_m _)) rfl (ZAB ?_)))
     refine ZBB ?_
     refine RW (v := (.int .i64 (((fet ((stepM [] ((gT p).m i)).2.acc.take j)).1 + 1 : Nat) : Int))) rfl rfl (cA_ _ (bB o_m)) (ZBB ?_)
     refine ZDa ?_
     have hf9 : fet ((stepM [] ((gT p).m i)).2.acc.take (j + 1)) = ((fet ((stepM [] ((gT p).m i)).2.acc.take j)).1 + 1, (fet ((stepM [] ((gT p).m i)).2.acc.take j)).2.set (fet ((stepM [] ((gT p).m i)).2.acc.take j)).1 x0.val) := (fet_next hx0).trans (by unfold fetS; rw [if_pos ⟨y_B, y_B⟩])
     exact ⟨j + 1, by show j + 1 ≤ _; omega, y_bv, .cons y_bx (.cons rfl .nil), a_g, fun _ h => y_L⟩
    refine ZAn ?_
    refine ZDa ?_
    exact ZB9
   refine ZDR ?_
   refine ZDa ?_
   exact ZB9
  refine ZBB ?_
  obtain rfl : j = (stepM [] ((gT p).m i)).2.acc.length := by omega
  simp only [di]
  rcases aLy (plan := []) (fun _ h => y_ep) hinv with ⟨hw1, a, b, c, ha, hb9, hc, hft, hsz0, hop⟩ | hw1
  simp only [hft, cu hsz0]
  have hfi := xL ha hb9 hc
  have htl := aNb (c := c) ha hb9
  rw [← hop] at hfi htl
  have hop0 := hfi.num.1
  have hop1 := hfi.num.2
  ·refine aCw [(b7, blk ([a, b, c].map U_) 50), (b6, blk (cDd (stepM [] ((gT p).m i)).1) 46)] [7, 8, 9, 10, 11, 12, 13] [0, 1, 3, 7, 15, 15, 47, 15, 143, 15, 527, 2047, 15, 4111, 16383, 32767, 65535, 65535, 196607, 458751, 1048575, 2097151, 4194303, 8388607, 16777215, 33554431, 67108863, 134217727, 268435455, 536870911] (.step true 0 (.step true 1 (.step true 2 (.step true 3 (.step true 4 (.step true 5 (.step true 6 (.step true 7 (.step true 8 (.step true 9 (.step true 10 (.step true 12 (.step true 13 (.step false 11 (.step true 14 (.step true 15 (.step true 16 (.step true 17 (.step true 18 (.step true 19 (.step true 20 (.step true 21 (.step true 22 (.step true 23 (.step true 24 (.step false 25 (.step true 26 (.step true 27 (.step true 28 (.step true 29 .done)))))))))))))))))))))))))))))) rfl y_i y_i y_i (fun x hx => y_cb) ?_
   refine ZAn ?_
   refine uY true rfl rfl rfl rfl (beq_iff_eq.2 hw1) ?_
   refine ZAn ?_
   refine DY rfl y_dC rfl (ZBR ?_)
   refine DY rfl y_dK rfl (ZBR ?_)
   refine DY rfl y_dJ rfl (ZAn ?_)
   refine ZBr ?_
   refine DX rfl (cB (F := [(b7, blk ([a, b, c].map U_) 50), (b6, blk (cDd (stepM [] ((gT p).m i)).1) 46)]) (A := Gt) (G := (G6 ++ hM (⟨q.A, q.tb, oT0, (.slice a65 (stepM [] ((gT p).m i)).2.acc.length c2)⟩ : MA) (stepM [] ((gT p).m i)).2) ++ G5) K_ rfl (fun w q0 _ => aOh hTt a b c ha hb9 hc w q0)) rfl (by first | (intro h; cases h; done) | (intro _ _ _ hK x hx; obtain ⟨_, _, rfl⟩ := hK; exact mL_ _ hx)) ?_
   rintro _ _ ⟨G7, ⟨rfl, hT3⟩, rfl⟩
   rw [← hop]
   refine ZBq ?_
   refine ZCB ?_
   refine ZBB ?_
   refine ZBr ?_
   refine DZ rfl (aZ K_ rfl (wQ_ (aQa (stepM [] ((gT p).m i)).1.op hop0 hop1))) rfl n_h (DY rfl (aEp rfl rfl) rfl (uY false rfl rfl rfl rfl (cr o_m) ?_))
   refine ZB2 ?_
   refine ZAH ?_
   refine KE (fun q3 z3 => ?_) (fun q3 z3 => ?_)
   ·refine ZBB ?_
    refine ZAJ ?_
    refine ZBR ?_
    refine DL rfl rfl rfl (fun w ⟨_, hw9, hs9⟩ => (hr9b.row (fun x hx => hs9 x (.tail _ (.tail _ (mR_ _ (mR_ _ (mR_ _ hx)))))) w hw9).at Hs.cR_len (nV (gT p) (N := N) (i := i) o_m o_m) 0 (v := .int .u64 i) rfl) rfl (ZBR ?_)
    refine DW (v := (.int .u64 (i : Int))) rfl rfl rfl (qX o_m o_m) (ZCB ?_)
    refine ZB6 ?_
    refine ZAJ ?_
    refine ZBR ?_
    refine DL rfl rfl rfl (fun w ⟨_, hw9, hs9⟩ => (hr9b.row (fun x hx => hs9 x (.tail _ (.tail _ (mR_ _ (mR_ _ (mR_ _ hx)))))) w hw9).at Hs.cR_len (nV (gT p) (N := N) (i := i) o_m o_m) 3 (v := .int .u16 (stepM [] ((gT p).m i)).1.at_) rfl) rfl (ZAn ?_)
    refine ZCB ?_
    refine ZBx ?_
    refine ZAJ ?_
    refine ZBR ?_
    refine bU rfl rfl rfl rfl (fun w ⟨_, hw9, hs9⟩ => (hr9b.row (fun x hx => hs9 x (.tail _ (.tail _ (mR_ _ (mR_ _ (mR_ _ hx)))))) w hw9).part Hs.cR_len (nV (gT p) (N := N) (i := i) o_m o_m) 4 5 (v := cO (stepM [] ((gT p).m i)).1.op) rfl) rfl rfl ?_
    refine ZBR ?_
    refine ZBr ?_
    refine ZBq ?_
    refine ZAJ ?_
    refine ZBR ?_
    refine DL rfl rfl rfl (fun w ⟨_, hw9, hs9⟩ => (hr9b.row (fun x hx => hs9 x (.tail _ (.tail _ (mR_ _ (mR_ _ (mR_ _ hx)))))) w hw9).at Hs.cR_len (nV (gT p) (N := N) (i := i) o_m o_m) 1 (v := .int .i64 (stepM [] ((gT p).m i)).1.what) rfl) rfl (ZAn ?_)
    refine ZCB ?_
    refine ZB2 ?_
    exact ZCW
   refine A_51 ?_
   exact ZCW
  refine aCw [(b7, blk ((fet (stepM [] ((gT p).m i)).2.acc).2.map U_) 50), (b6, blk (cDd (stepM [] ((gT p).m i)).1) 46)] [7, 8, 9, 10, 11, 12, 13] [0, 1, 3, 7, 15, 15, 47, 15, 143, 15, 527, 2047, 15, 4111, 16383, 32767, 65535, 65535, 196607, 458751, 1048575, 2097151, 4194303, 8388607, 16777215, 33554431, 67108863, 134217727, 268435455, 536870911] (.step true 0 (.step true 1 (.step true 2 (.step true 3 (.step true 4 (.step true 5 (.step true 6 (.step true 7 (.step true 8 (.step true 9 (.step true 10 (.step true 12 (.step true 13 (.step false 11 (.step true 14 (.step true 15 (.step true 16 (.step true 17 (.step true 18 (.step true 19 (.step true 20 (.step true 21 (.step true 22 (.step true 23 (.step true 24 (.step false 25 (.step true 26 (.step true 27 (.step true 28 (.step true 29 .done)))))))))))))))))))))))))))))) rfl y_i y_i y_i (fun x hx => y_cb) ?_
  refine ZAn ?_
  refine uY false rfl rfl rfl rfl (beq_eq_false_iff_ne.2 hw1) ?_
  refine A_10 ?_
  refine aB7 rfl rfl rfl ?_
  refine A_11 ?_
  refine aB7 rfl rfl rfl ?_
  refine A_8 ?_
  refine ZAH ?_
  refine KE (fun q3 z3 => ?_) (fun q3 z3 => ?_)
  ·refine ZBB ?_
   refine ZAJ ?_
   refine ZBR ?_
   refine DL rfl rfl rfl (fun w ⟨_, hw9, hs9⟩ => (hr9b.row (fun x hx => hs9 x (.tail _ (.tail _ (mR_ _ (mR_ _ hx))))) w hw9).at Hs.cR_len (nV (gT p) (N := N) (i := i) o_m o_m) 0 (v := .int .u64 i) rfl) rfl (ZBR ?_)
   refine DW (v := (.int .u64 (i : Int))) rfl rfl rfl (qX o_m o_m) (ZCB ?_)
   refine ZB6 ?_
   refine ZAJ ?_
   refine ZBR ?_
   refine DL rfl rfl rfl (fun w ⟨_, hw9, hs9⟩ => (hr9b.row (fun x hx => hs9 x (.tail _ (.tail _ (mR_ _ (mR_ _ hx))))) w hw9).at Hs.cR_len (nV (gT p) (N := N) (i := i) o_m o_m) 3 (v := .int .u16 (stepM [] ((gT p).m i)).1.at_) rfl) rfl (ZAn ?_)
   refine ZCB ?_
   refine ZBx ?_
   refine ZAJ ?_
   refine ZBR ?_
   refine bU rfl rfl rfl rfl (fun w ⟨_, hw9, hs9⟩ => (hr9b.row (fun x hx => hs9 x (.tail _ (.tail _ (mR_ _ (mR_ _ hx))))) w hw9).part Hs.cR_len (nV (gT p) (N := N) (i := i) o_m o_m) 4 5 (v := cO (stepM [] ((gT p).m i)).1.op) rfl) rfl rfl ?_
   refine ZBR ?_
   refine ZBr ?_
   refine ZBq ?_
   refine ZAJ ?_
   refine ZBR ?_
   refine DL rfl rfl rfl (fun w ⟨_, hw9, hs9⟩ => (hr9b.row (fun x hx => hs9 x (.tail _ (.tail _ (mR_ _ (mR_ _ hx))))) w hw9).at Hs.cR_len (nV (gT p) (N := N) (i := i) o_m o_m) 1 (v := .int .i64 (stepM [] ((gT p).m i)).1.what) rfl) rfl (ZAn ?_)
   refine ZCB ?_
   refine ZB2 ?_
   exact ZCX
  refine A_51 ?_
  exact ZCX
 refine ZB2 ?_
 exact EV rfl (List.nil_sublist _) ⟨rfl, rfl⟩
end Go.Proofs.YtdbgagkcgdlnnaaGreat
