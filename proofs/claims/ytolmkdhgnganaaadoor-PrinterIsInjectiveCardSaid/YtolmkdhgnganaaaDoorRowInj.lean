/-
  The row and the card of 'busbar/busbarlaw11.PrinterIsInjective': the arguments laid open, the walk, the arguments behind the call.
-/
import Derived.Test.YtolmkdhgnganaaaDoorInj
import Derived.Test.YtolmkdhgnganaaaDoorRowLad
import Derived.Test.YtolmkdhgnganaaaDoorRowKit
import Derived.Test.YtolmkdhgnganaaaDoorCards
import Derived.Test.YtolmkdhgnganaaaDoorTie
import Derived.SevenTiedAt
import Derived.LaidOnce
set_option linter.unusedVariables false
set_option linter.unusedSimpArgs false
namespace Go.Proofs.YtolmkdhgnganaaaDoor.RInj
open Go Go.RowKit Go.Proofs Go.Proofs.YtolmkdhgnganaaaDoorW.PrintWords Go.Proofs.YtolmkdhgnganaaaDoor.H Go.Proofs.YtolmkdhgnganaaaDoor.R Go.ChangeShapes Go.WideShapes Go.ChangeAt
open Go.ChangeMaps (open_string shut_string)
set_option maxRecDepth 100000 in
theorem lifted (os : Os) (started : os.Started) (H : Type) (enc : TypeId × Value → H) :
    ReturnsInHanded {} Tryd.checked os 5 .any (fun w args => (Rows.printerIsInjectiveSpec.pre enc Tryd.prog Tryd.f5 [] false w args ∧ laidMetH Tryd.prog Rows.printerIsInjectiveRow.laid w) ∧ sizedMet enc Tryd.prog Tryd.f5 (OpenSpec.ofChange Rows.printerIsInjectiveSpec) false w args)
      (Rows.printerIsInjectiveSpec.post enc Tryd.prog Tryd.f5 false true false false) := by
  refine returnsInHanded_of_change_and (C := Tryd.checked) (X := fun w _ => laidMetH Tryd.prog Rows.printerIsInjectiveRow.laid w) (fun _ _ _ hh h => h.of_heap hh) own started (by kernel_rfl) Tryd.func5
    (ChangeSpec.witness_shaped (enc := enc) (C := Tryd.checked) (os := os) (X := fun w _ => laidMetH Tryd.prog Rows.printerIsInjectiveRow.laid w) false (World.laidAll Tryd.prog os Rows.printerIsInjectiveRow.laid) #[.agg #[.int .i64 0, .int .i64 0, .int .i64 0, .slice none 0 0], .agg #[.int .u8 0, .int .u8 0], .int .u8 0] 8 (World.laidAll_os _ _ _)
      (World.shaped_of_ZipB (by kernel_rfl) (by kernel_rfl)) (by kernel_rfl) (by kernel_rfl) (by kernel_rfl)
      (by rw [MakeChecks.laidMetH_plain _ _ _ (by kernel_rfl)]; exact laidMet_laidAll _ (by kernel_rfl) (by kernel_rfl))) ?_
  intro W base args ds gs before hval0 hW hcnd hsz0 hL _
  have hsz : (DataW.weightsEach Tryd.prog (Tryd.f5.params.toList ++ Rows.printerIsInjectiveSpec.plain.varTypes Tryd.prog) (ds ++ gs)).all (· ≤ reachBytes) = true := hsz0
  have hval : ∀ (j : Nat) t v, Tryd.f5.params[j]? = some t → args[j]? = some v → Value.okWide Tryd.prog W .any base t v := hval0
  have hW' := hW
  obtain ⟨p, q, hA0, hV, rfl, hfz, hnd⟩ := hW
  have hA : DataW.TrodAll enc Tryd.prog W 0 (fun _ => true) true Tryd.f5.params.toList args.toList ds p := hA0
  rw [Tryd.params5] at hA hval hsz
  obtain ⟨v0, vs0, d0, ds0, p0, q0, hargs, rfl, rfl, h0, r0⟩ := trodAll_cons hA
  obtain ⟨v1, vs1, d1, ds1, p1, q1, rfl, rfl, rfl, h1, r1⟩ := trodAll_cons r0
  obtain ⟨v2, vs2, d2, ds2, p2, q2, rfl, rfl, rfl, h2, r2⟩ := trodAll_cons r1
  obtain ⟨rfl, rfl, rfl⟩ := trodAll_nil r2
  obtain rfl : args = #[v0, v1, v2] := by cases args; simp_all
  obtain ⟨rfl, rfl⟩ := trodVars_none hV
  rw [MakeChecks.laidMetH_plain _ _ _ (by kernel_rfl)] at hL
  have k0 := h0
  have lt0 := trod_blocks h0
  obtain ⟨i0, q0, m0, A0, c0, l0, rfl, hl0, hC0, wi0, wq0, wm0⟩ := open_lad (hval 0 24 v0 rfl rfl) h0
  have k1 := h1
  have lt1 := trod_blocks h1
  obtain ⟨a1_0, a1_1, rfl, w1_0, w1_1⟩ := open_arr2 Tryd.underlying43 Tryd.underlying5 (by kernel_rfl) (by kernel_rfl) (hval 1 43 v1 rfl rfl) h1
  have b1_0 : 0 ≤ a1_0 ∧ a1_0 ≤ 255 := by simpa [Lit.wf, IntKind.min, IntKind.max, IntKind.signed, IntKind.bits] using w1_0
  have b1_1 : 0 ≤ a1_1 ∧ a1_1 ≤ 255 := by simpa [Lit.wf, IntKind.min, IntKind.max, IntKind.signed, IntKind.bits] using w1_1
  have k2 := h2
  have lt2 := trod_blocks h2
  obtain ⟨a2, rfl, _, _, w2⟩ := open_int Tryd.underlying5 (hval 2 5 v2 rfl rfl) h2
  have b2 : 0 ≤ a2 ∧ a2 ≤ 255 := by simpa [Lit.wf, IntKind.min, IntKind.max, IntKind.signed, IntKind.bits] using w2
  clear hA0 hval0 hsz0 hsz
  have lt : Lets W := lets_of (Lib.laidMet.reads hL (n := "busbar/addr.letters") (d := Rows.laid_busbar_addr_letters) (by simp [Rows.printerIsInjectiveRow]))
  have pw : Pows W := pows_of (Lib.laidMet.reads hL (n := "internal/strconv.uint64pow10") (d := Rows.laid_internal_strconv_uint64pow10) (by simp [Rows.printerIsInjectiveRow])) rfl
  have kw : Kws W := kws_of (Lib.laidMet.reads hL (n := "busbar/parse.contacts") (d := Rows.laid_busbar_parse_contacts) (by simp [Rows.printerIsInjectiveRow])) (Lib.laidMet.reads hL (n := "busbar/parse.coils") (d := Rows.laid_busbar_parse_coils) (by simp [Rows.printerIsInjectiveRow]))
  refine (inj_b i0 q0 m0 A0 c0 l0 a1_0 a1_1 a2 W hC0 hl0 b1_0 b1_1 b2 lt pw kw).mono fun e W' ⟨he, bel⟩ => ?_
  subst he
  exact ⟨_, rfl, _, _, _, [], _, [], hW', trodAll_mk1 (shut_bool Tryd.underlying4 _), (trodAll_cons_mk (Below.trod laidOut (by kernel_rfl) (of_decide_eq_true (by kernel_rfl)) k0 bel lt0) (trodAll_cons_mk (Below.trod laidOut (by kernel_rfl) (of_decide_eq_true (by kernel_rfl)) k1 bel lt1) (trodAll_cons_mk (Below.trod laidOut (by kernel_rfl) (of_decide_eq_true (by kernel_rfl)) k2 bel lt2) trodAll_mk0))), rfl, bel.frame _, fun h => by cases h⟩
theorem over : Rows.printerIsInjectiveRow.holds Tryd.pinned (OpenSpec.ofChange Rows.printerIsInjectiveSpec) :=
  OpenClaim.holds_of_wide 5 Tryd.f5 rfl rfl rfl rfl rfl rfl rfl ⟨rfl, rfl, rfl, rfl, rfl⟩ rfl rfl rfl rfl rfl (by kernel_rfl) Tryd.func5 (by kernel_rfl)
    (of_decide_eq_true (by kernel_rfl)) (by unfold Func.isWrapper; first | (rw [if_pos (by decide +kernel)]; kernel_rfl) | (rw [if_neg (by decide +kernel)]; exact ⟨rfl, rfl⟩))
    (fun os started H enc _ => lifted os started H enc)
theorem card_holds : Rows.PrinterIsInjectiveCardSaid :=
  Claim7.holds_tied_plain_at .later [] _ _ _ _ over (fun _ h => by cases h) (by kernel_rfl) (fun _ h => by cases h) printerIsInjective_row_tie rfl ⟨rfl, rfl⟩ (by kernel_rfl) rfl
    (plain_in Tryd.func5 (by kernel_rfl) (by kernel_rfl) (by kernel_rfl)) (by kernel_rfl)
end Go.Proofs.YtolmkdhgnganaaaDoor.RInj
namespace Go.Proofs.YtolmkdhgnganaaaDoor
/-- The card, under a short name, for the claim. -/
theorem printerIsInjective_card : Rows.PrinterIsInjectiveCardSaid := RInj.card_holds
#print axioms printerIsInjective_card
end Go.Proofs.YtolmkdhgnganaaaDoor
