/-
  The row and the card of 'busbar/busbarlaw10.ParseCapacities': the arguments laid open, the walk, the arguments behind the call.
-/
import Derived.Test.YtolmkdhgnganaaaGreatDoorMgCapc
import Derived.Test.YtolmkdhgnganaaaGreatDoorCards
import Derived.Test.YtolmkdhgnganaaaGreatDoorTie
import Derived.SevenTiedAt
import Derived.LaidOnce
set_option linter.unusedVariables false
set_option linter.unusedSimpArgs false
namespace Go.Proofs.YtolmkdhgnganaaaGreatDoor.RCap
open Go Go.RowKit Go.Proofs Go.Proofs.YtolmkdhgnganaaaGreatDoorW.PrintWords Go.Proofs.YtolmkdhgnganaaaGreatDoor.H Go.Proofs.YtolmkdhgnganaaaGreatDoor.R Go.ChangeShapes Go.WideShapes Go.ChangeAt
open Go.ChangeMaps (open_string shut_string)
set_option maxRecDepth 100000 in
theorem lifted (os : Os) (started : os.Started) (H : Type) (enc : TypeId × Value → H) :
    ReturnsInHanded {} Tryz.checked os 6 .any (fun w args => (Rows.parseCapacitiesSpec.pre enc Tryz.prog Tryz.f6 [] false w args ∧ laidMetH Tryz.prog Rows.parseCapacitiesRow.laid w) ∧ sizedMet enc Tryz.prog Tryz.f6 (OpenSpec.ofChange Rows.parseCapacitiesSpec) false w args)
      (Rows.parseCapacitiesSpec.post enc Tryz.prog Tryz.f6 false true false false) := by
  refine handed_sh (C := Tryz.checked) (X := fun w _ => laidMetH Tryz.prog Rows.parseCapacitiesRow.laid w) (fun _ _ _ hh h => h.of_heap hh) own started (by kernel_rfl) Tryz.func6
    (ChangeSpec.witness_shaped (enc := enc) (C := Tryz.checked) (os := os) (X := fun w _ => laidMetH Tryz.prog Rows.parseCapacitiesRow.laid w) false (World.laidAll Tryz.prog os Rows.parseCapacitiesRow.laid) #[.int .u16 0] 8 (World.laidAll_os _ _ _)
      (World.shaped_of_ZipB (by kernel_rfl) (by kernel_rfl)) (by kernel_rfl) (by kernel_rfl) (by kernel_rfl)
      (by rw [MakeChecks.laidMetH_plain _ _ _ (by kernel_rfl)]; exact laidMet_laidAll _ (by kernel_rfl) (by kernel_rfl))) ?_
  intro W base args ds gs before hval0 hW hcnd hsz0 hL hsh
  have hsz : (DataW.weightsEach Tryz.prog (Tryz.f6.params.toList ++ Rows.parseCapacitiesSpec.plain.varTypes Tryz.prog) (ds ++ gs)).all (· ≤ reachBytes) = true := hsz0
  have hval : ∀ (j : Nat) t v, Tryz.f6.params[j]? = some t → args[j]? = some v → Value.okWide Tryz.prog W .any base t v := hval0
  have hW' := hW
  obtain ⟨p, q, hA0, hV, rfl, hfz, hnd⟩ := hW
  have hA : DataW.TrodAll enc Tryz.prog W 0 (fun _ => true) true Tryz.f6.params.toList args.toList ds p := hA0
  rw [Tryz.params6] at hA hval hsz
  obtain ⟨v0, vs0, d0, ds0, p0, q0, hargs, rfl, rfl, h0, r0⟩ := trodAll_cons hA
  obtain ⟨rfl, rfl, rfl⟩ := trodAll_nil r0
  obtain rfl : args = #[v0] := by cases args; simp_all
  obtain ⟨rfl, rfl⟩ := trodVars_none hV
  rw [MakeChecks.laidMetH_plain _ _ _ (by kernel_rfl)] at hL
  have k0 := h0
  have lt0 := trod_blocks h0
  obtain ⟨a0, rfl, _, _, w0⟩ := open_int Tryz.underlying46 (hval 0 46 v0 rfl rfl) h0
  have b0 : 0 ≤ a0 ∧ a0 ≤ 65535 := by simpa [Lit.wf, IntKind.min, IntKind.max, IntKind.signed, IntKind.bits] using w0
  clear hA0 hval0 hsz0 hsz
  have lt : Lets W := lets_of (Lib.laidMet.reads hL (n := "busbar/addr.letters") (d := Rows.laid_busbar_addr_letters) (by simp [Rows.parseCapacitiesRow]))
  have kw : Kws W := kws_of (Lib.laidMet.reads hL (n := "busbar/parse.contacts") (d := Rows.laid_busbar_parse_contacts) (by simp [Rows.parseCapacitiesRow])) (Lib.laidMet.reads hL (n := "busbar/parse.coils") (d := Rows.laid_busbar_parse_coils) (by simp [Rows.parseCapacitiesRow]))
  have lg : LexG W := lexg_of (Lib.laidMet.reads hL (n := "strings.asciiSpace") (d := Rows.laid_strings_asciiSpace) (by simp [Rows.parseCapacitiesRow])) (by kernel_rfl) hsh
  have er : Errs W := errs_of (Lib.laidMet.reads hL (n := "strconv.ErrSyntax") (d := Rows.laid_strconv_ErrSyntax) (by simp [Rows.parseCapacitiesRow])) (Lib.laidMet.reads hL (n := "strconv.ErrRange") (d := Rows.laid_strconv_ErrRange) (by simp [Rows.parseCapacitiesRow]))
  refine (cap_b a0 W b0 lt er kw lg).mono fun e W' ⟨he, bel⟩ => ?_
  subst he
  exact ⟨_, rfl, _, _, _, [], _, [], hW', trodAll_mk1 (shut_bool Tryz.underlying4 _), (trodAll_cons_mk (Below.trod laidOut (by kernel_rfl) (of_decide_eq_true (by kernel_rfl)) k0 bel lt0) trodAll_mk0), rfl, bel.frame _, fun h => by cases h⟩
theorem over : Rows.parseCapacitiesRow.holds Tryz.pinned (OpenSpec.ofChange Rows.parseCapacitiesSpec) :=
  OpenClaim.holds_of_wide 6 Tryz.f6 rfl rfl rfl rfl rfl rfl rfl ⟨rfl, rfl, rfl, rfl, rfl⟩ rfl rfl rfl rfl rfl (by kernel_rfl) Tryz.func6 (by kernel_rfl)
    (of_decide_eq_true (by kernel_rfl)) (by unfold Func.isWrapper; first | (rw [if_pos (by decide +kernel)]; kernel_rfl) | (rw [if_neg (by decide +kernel)]; exact ⟨rfl, rfl⟩))
    (fun os started H enc _ => lifted os started H enc)
theorem card_holds : Rows.ParseCapacitiesCardSaid :=
  Claim7.holds_tied_plain_at .later [] _ _ _ _ over (fun _ h => by cases h) (by kernel_rfl) (fun _ h => by cases h) parseCapacities_row_tie rfl ⟨rfl, rfl⟩ (by kernel_rfl) rfl
    (plain_in Tryz.func6 (by kernel_rfl) (by kernel_rfl) (by kernel_rfl)) (by kernel_rfl)
end Go.Proofs.YtolmkdhgnganaaaGreatDoor.RCap
namespace Go.Proofs.YtolmkdhgnganaaaGreatDoor
/-- The card, under a short name, for the claim. -/
theorem parseCapacities_card : Rows.ParseCapacitiesCardSaid := RCap.card_holds
#print axioms parseCapacities_card
end Go.Proofs.YtolmkdhgnganaaaGreatDoor
