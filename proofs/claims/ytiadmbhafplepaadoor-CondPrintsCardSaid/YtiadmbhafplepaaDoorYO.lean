/- The card of layer 18: CondPrints returns true, whatever comes in, and what came in reads as it did. -/
import Derived.Test.YtiadmbhafplepaaDoorCards
import Derived.Test.YtiadmbhafplepaaDoorRows
import Derived.Test.YtiadmbhafplepaaDoorTie
import Derived.Test.YtiadmbhafplepaaDoorYB
import Derived.Test.YtiadmbhafplepaaDoorYC
import Derived.Test.YtiadmbhafplepaaDoorYF
import Derived.Test.YtiadmbhafplepaaDoorYM
import Derived.Test.YtiadmbhafplepaaDoorYN
namespace Go.Proofs.YtiadmbhafplepaaDoor
open Go Go.VV Go.Proofs Go.ChangeShapes Go.WideShapes Go.ChangeAt Go.RowKit
set_option linter.unusedSimpArgs false
set_option linter.unusedVariables false
set_option maxRecDepth 100000
theorem own : ownKnob Tryd.prog.godebug = none := by kernel_rfl
theorem laidOut : laidOutB Tryd.prog = true := by kernel_rfl

def laidN : List (String × DataW Unit) := [("math/bits.deBruijn32tab", Rows.laid_math_bits_deBruijn32tab), ("math/bits.deBruijn64tab", Rows.laid_math_bits_deBruijn64tab), ("internal/strconv.uint64pow10", Rows.laid_internal_strconv_uint64pow10), ("strconv.ErrRange", Rows.laid_strconv_ErrRange), ("strconv.ErrSyntax", Rows.laid_strconv_ErrSyntax)]

theorem door_met (os : Os) (args : Array Value) : laidMetH Tryd.prog laidN ((World.doorLaid Tryd.prog 400 os).forCall (fun _ _ => 0) ⟨#[], args, []⟩).memory :=
  laidMetH_of_parts3 (fuel := 8) (laidMet_of_run' 8 (by kernel_rfl) (by kernel_rfl)) (by kernel_rfl) (by kernel_rfl)

theorem gl_of {W : World} (h : laidMetH Tryd.prog laidN W) : GlE W ∧ GlP W := by
  rw [MakeChecks.laidMetH_plain _ _ _ (by kernel_rfl)] at h
  obtain ⟨ps, h, _, _⟩ := h
  refine ⟨laid_iface h (n := "strconv.ErrSyntax") (g := 2) (t := 70) (.tail _ (.tail _ (.tail _ (.tail _ (.head _))))) (by kernel_rfl) (by kernel_rfl) Tryd.underlying70, ?_⟩
  exact laid_tab h (n := "internal/strconv.uint64pow10") (k := .u64) (l := Lib.pow10Tab) (g := 0) (t := 82) (m := 20) (e := 68) (.tail _ (.tail _ (.head _))) (by kernel_rfl) (by kernel_rfl) (by kernel_rfl) (by kernel_rfl) (by kernel_rfl) (by kernel_rfl)

def CdOk (c : Cd) : Prop := (-9223372036854775808 ≤ c.op ∧ c.op ≤ 9223372036854775807) ∧ -9223372036854775808 ≤ c.n ∧ c.n ≤ 9223372036854775807
theorem cCd_of (cs : List Value) (h : Cks [.int .i64, .int .i64] cs) : ∃ x, cs = cCd x ∧ CdOk x := by
  obtain ⟨x1, _, rfl, w1, h1⟩ := ck_i h
  obtain ⟨x2, _, rfl, w2, h2⟩ := ck_i h1
  obtain rfl := ck_0 h2
  exact ⟨⟨x1, x2⟩, rfl, wf_i64 w1, wf_i64 w2⟩

theorem condPrints_lifted (os : Os) (started : os.Started) (H : Type) (enc : TypeId × Value → H) :
    ReturnsInHanded {} Tryd.checked os 3 .any (fun w args => (Rows.condPrintsSpec.pre enc Tryd.prog Tryd.f3 [] false w args ∧ laidMetH Tryd.prog laidN w) ∧ sizedMet enc Tryd.prog Tryd.f3 (OpenSpec.ofChange Rows.condPrintsSpec) false w args) (Rows.condPrintsSpec.post enc Tryd.prog Tryd.f3 false true false false) := by
  refine returnsInHanded_of_change_and (C := Tryd.checked) (X := fun w _ => laidMetH Tryd.prog laidN w) (fun _ _ _ hh h => h.of_heap hh) own started (by kernel_rfl) Tryd.func3
    (ChangeSpec.witness_shaped (enc := enc) (C := Tryd.checked) (os := os) (X := fun w _ => laidMetH Tryd.prog laidN w) false (World.doorLaid Tryd.prog 400 os) #[.slice none 0 0] 8 rfl (World.shaped_of_RefB (by kernel_rfl) (by kernel_rfl)) (by kernel_rfl) (by kernel_rfl) (by kernel_rfl) (door_met os _)) ?_
  intro W base args ds gs before hval0 hW hcnd _ hL _
  obtain ⟨hGl, hP⟩ := gl_of hL
  have hval : ∀ (j : Nat) t v, Tryd.f3.params[j]? = some t → args[j]? = some v → Value.okWide Tryd.prog W .any base t v := hval0
  have hW' := hW
  obtain ⟨p, q, hA0, hV, rfl, hfz, hnd⟩ := hW
  have hA : DataW.TrodAll enc Tryd.prog W 0 (fun _ => true) true Tryd.f3.params.toList args.toList ds p := hA0
  rw [Tryd.params3] at hA hval
  obtain ⟨args⟩ := args
  obtain ⟨rfl, rfl⟩ := trodVars_none hV
  simp only [] at hA
  have hAk := hA
  obtain ⟨v0, vs0, d0, ds0, p0, q0, rfl, rfl, rfl, h0, r0⟩ := trodAll_cons hA
  obtain ⟨rfl, rfl, rfl⟩ := trodAll_nil r0
  obtain ⟨a0, c0, l0, rfl, hc0, hm0, hw0, hN0⟩ := arg_rows (ks := [.int .i64, .int .i64]) (c := cCd) (p := CdOk) 2 Tryd.underlying22 (by kernel_rfl) (by kernel_rfl) rfl cCd_of (hval 0 22 v0 rfl rfl) h0
  refine Calls.mono (show Does Tryd.prog 3 _ W [] _ from prints_fn l0 a0 c0 (fun c hc => (hw0 c hc).2) W hN0 hGl hP) fun e W' ⟨v, G, he, hst, _, hv⟩ => ?_
  subst hv he
  have bel := below_of hst
  exact ⟨_, rfl, _, _, _, [], _, [], hW', trodAll_mk1 (shut_bool Tryd.underlying4 _), trodAll_below laidOut bel (by kernel_rfl) hAk, rfl, bel.frame _, fun h => by cases h⟩

/-- Whatever comes in: CondPrints returns true, and all reads as it did; what is laid in the listed variables is tied to the text. -/
theorem condPrints_holds : Rows.CondPrintsSaid :=
  OpenClaim.holds_of_wide 3 Tryd.f3 rfl rfl rfl rfl rfl rfl rfl ⟨rfl, rfl, rfl, rfl, rfl⟩ rfl rfl rfl rfl rfl (by kernel_rfl) Tryd.func3 (by kernel_rfl)
    (of_decide_eq_true (by kernel_rfl)) (by unfold Func.isWrapper; first | (rw [if_pos (by decide +kernel)]; kernel_rfl) | (rw [if_neg (by decide +kernel)]; exact ⟨rfl, rfl⟩))
    (fun os started H enc _ => condPrints_lifted os started H enc)
theorem condPrints_card : Rows.CondPrintsCardSaid :=
  Claim7.holds_tied_plain_at .later [] [.data, .data, .data, .sentinel, .sentinel] true (true, "134c0f750e027f902d163d88f2398f3d52a7e72d93038a4868883f668488c58a") true
    condPrints_holds (fun _ h => by cases h) (by kernel_rfl) (fun _ h => by cases h) condPrints_row_tie rfl ⟨rfl, rfl⟩ (by kernel_rfl) rfl
    (fun f fn hf hfn => by
      obtain rfl : f = 3 := Option.some.inj ((show Tryd.prog.funcNamed "retrograde/retrogradelaw18.CondPrints" = some 3 by kernel_rfl).symm.trans hf) |>.symm
      obtain rfl : fn = Tryd.f3 := (Option.some.inj (Tryd.func3.symm.trans hfn)).symm
      exact ⟨by kernel_rfl, fun j t ht => by
        rw [Tryd.params3] at ht
        have hm : t ∈ [22] := by simpa using Array.mem_of_getElem? ht
        have hall : ([22].all fun u => !Tryd.prog.wantsStandIn u) = true := by kernel_rfl
        exact (show Tryd.prog.wantsStandIn t = false by simpa using List.all_eq_true.1 hall t hm)⟩)
    (by kernel_rfl)

end Go.Proofs.YtiadmbhafplepaaDoor
