/-
  The row and the card of 'busbar/busbarlaw11.PrinterAppendRung': the arguments laid open, the walk, the arguments behind the call.
-/
import Derived.Test.YtolmkdhgnganaaaDoorApp
import Derived.Test.YtolmkdhgnganaaaDoorRowLad
import Derived.Test.YtolmkdhgnganaaaDoorRowKit
import Derived.Test.YtolmkdhgnganaaaDoorCards
import Derived.Test.YtolmkdhgnganaaaDoorTie
import Derived.SevenTiedAt
import Derived.LaidOnce
set_option linter.unusedVariables false
set_option linter.unusedSimpArgs false
namespace Go.Proofs.YtolmkdhgnganaaaDoor.RApp
open Go Go.RowKit Go.Proofs Go.Proofs.YtolmkdhgnganaaaDoorW.PrintWords Go.Proofs.YtolmkdhgnganaaaDoor.H Go.Proofs.YtolmkdhgnganaaaDoor.R Go.ChangeShapes Go.WideShapes Go.ChangeAt
open Go.ChangeMaps (open_string shut_string)
set_option maxRecDepth 100000 in
theorem lifted (os : Os) (started : os.Started) (H : Type) (enc : TypeId × Value → H) :
    ReturnsInHanded {} Tryd.checked os 4 .any (fun w args => (Rows.printerAppendRungSpec.pre enc Tryd.prog Tryd.f4 [] false w args ∧ laidMetH Tryd.prog Rows.printerAppendRungRow.laid w) ∧ sizedMet enc Tryd.prog Tryd.f4 (OpenSpec.ofChange Rows.printerAppendRungSpec) false w args)
      (Rows.printerAppendRungSpec.post enc Tryd.prog Tryd.f4 false true false false) := by
  refine returnsInHanded_of_change_and (C := Tryd.checked) (X := fun w _ => laidMetH Tryd.prog Rows.printerAppendRungRow.laid w) (fun _ _ _ hh h => h.of_heap hh) own started (by kernel_rfl) Tryd.func4
    (ChangeSpec.witness_shaped (enc := enc) (C := Tryd.checked) (os := os) (X := fun w _ => laidMetH Tryd.prog Rows.printerAppendRungRow.laid w) false (World.laidAll Tryd.prog os Rows.printerAppendRungRow.laid) #[.agg #[.int .i64 0, .int .i64 0, .int .i64 0, .slice none 0 0], .agg #[.string ByteArray.empty, .slice none 0 0, .slice none 0 0, .string ByteArray.empty]] 8 (World.laidAll_os _ _ _)
      (World.shaped_of_ZipB (by kernel_rfl) (by kernel_rfl)) (by kernel_rfl) (by kernel_rfl) (by kernel_rfl)
      (by rw [MakeChecks.laidMetH_plain _ _ _ (by kernel_rfl)]; exact laidMet_laidAll _ (by kernel_rfl) (by kernel_rfl))) ?_
  intro W base args ds gs before hval0 hW hcnd hsz0 hL _
  have hsz : (DataW.weightsEach Tryd.prog (Tryd.f4.params.toList ++ Rows.printerAppendRungSpec.plain.varTypes Tryd.prog) (ds ++ gs)).all (· ≤ reachBytes) = true := hsz0
  have hval : ∀ (j : Nat) t v, Tryd.f4.params[j]? = some t → args[j]? = some v → Value.okWide Tryd.prog W .any base t v := hval0
  have hW' := hW
  obtain ⟨p, q, hA0, hV, rfl, hfz, hnd⟩ := hW
  have hA : DataW.TrodAll enc Tryd.prog W 0 (fun _ => true) true Tryd.f4.params.toList args.toList ds p := hA0
  rw [Tryd.params4] at hA hval hsz
  obtain ⟨v0, vs0, d0, ds0, p0, q0, hargs, rfl, rfl, h0, r0⟩ := trodAll_cons hA
  obtain ⟨v1, vs1, d1, ds1, p1, q1, rfl, rfl, rfl, h1, r1⟩ := trodAll_cons r0
  obtain ⟨rfl, rfl, rfl⟩ := trodAll_nil r1
  obtain rfl : args = #[v0, v1] := by cases args; simp_all
  obtain ⟨rfl, rfl⟩ := trodVars_none hV
  rw [MakeChecks.laidMetH_plain _ _ _ (by kernel_rfl)] at hL
  have k0 := h0
  have lt0 := trod_blocks h0
  obtain ⟨i0, q0, m0, A0, c0, l0, rfl, hl0, hC0, wi0, wq0, wm0⟩ := open_lad (hval 0 24 v0 rfl rfl) h0
  have k1 := h1
  have lt1 := trod_blocks h1
  obtain ⟨x1, A1, c1, B1, d1, rfl, hl1, hC1, hm1, hD1⟩ := open_rung (hval 1 40 v1 rfl rfl) h1
  clear hA0 hval0 hsz0 hsz
  have lt : Lets W := lets_of (Lib.laidMet.reads hL (n := "busbar/addr.letters") (d := Rows.laid_busbar_addr_letters) (by simp [Rows.printerAppendRungRow]))
  have pw : Pows W := pows_of (Lib.laidMet.reads hL (n := "internal/strconv.uint64pow10") (d := Rows.laid_internal_strconv_uint64pow10) (by simp [Rows.printerAppendRungRow])) rfl
  have kw : Kws W := kws_of (Lib.laidMet.reads hL (n := "busbar/parse.contacts") (d := Rows.laid_busbar_parse_contacts) (by simp [Rows.printerAppendRungRow])) (Lib.laidMet.reads hL (n := "busbar/parse.coils") (d := Rows.laid_busbar_parse_coils) (by simp [Rows.printerAppendRungRow]))
  refine (app_b i0 q0 m0 A0 c0 l0 x1 A1 c1 B1 d1 W hC0 hl0 hC1 hl1 hD1 hm1 lt pw kw).mono fun e W' ⟨he, bel⟩ => ?_
  subst he
  exact ⟨_, rfl, _, _, _, [], _, [], hW', trodAll_mk1 (shut_bool Tryd.underlying4 _), (trodAll_cons_mk (Below.trod laidOut (by kernel_rfl) (of_decide_eq_true (by kernel_rfl)) k0 bel lt0) (trodAll_cons_mk (Below.trod laidOut (by kernel_rfl) (of_decide_eq_true (by kernel_rfl)) k1 bel lt1) trodAll_mk0)), rfl, bel.frame _, fun h => by cases h⟩
theorem over : Rows.printerAppendRungRow.holds Tryd.pinned (OpenSpec.ofChange Rows.printerAppendRungSpec) :=
  OpenClaim.holds_of_wide 4 Tryd.f4 rfl rfl rfl rfl rfl rfl rfl ⟨rfl, rfl, rfl, rfl, rfl⟩ rfl rfl rfl rfl rfl (by kernel_rfl) Tryd.func4 (by kernel_rfl)
    (of_decide_eq_true (by kernel_rfl)) (by unfold Func.isWrapper; first | (rw [if_pos (by decide +kernel)]; kernel_rfl) | (rw [if_neg (by decide +kernel)]; exact ⟨rfl, rfl⟩))
    (fun os started H enc _ => lifted os started H enc)
theorem card_holds : Rows.PrinterAppendRungCardSaid :=
  Claim7.holds_tied_plain_at .later [] _ _ _ _ over (fun _ h => by cases h) (by kernel_rfl) (fun _ h => by cases h) printerAppendRung_row_tie rfl ⟨rfl, rfl⟩ (by kernel_rfl) rfl
    (plain_in Tryd.func4 (by kernel_rfl) (by kernel_rfl) (by kernel_rfl)) (by kernel_rfl)
end Go.Proofs.YtolmkdhgnganaaaDoor.RApp
namespace Go.Proofs.YtolmkdhgnganaaaDoor
/-- The card, under a short name, for the claim. -/
theorem printerAppendRung_card : Rows.PrinterAppendRungCardSaid := RApp.card_holds
#print axioms printerAppendRung_card
end Go.Proofs.YtolmkdhgnganaaaDoor
