/-
  The row and the card of 'busbar/busbarlaw10.ParseMatchesReference': the arguments laid open, the walk, the arguments behind the call.
-/
import Derived.Test.YtolmkdhgnganaaaGreatDoorMgPMe
import Derived.Test.YtolmkdhgnganaaaGreatDoorCards
import Derived.Test.YtolmkdhgnganaaaGreatDoorTie
import Derived.SevenTiedAt
import Derived.LaidOnce
set_option linter.unusedVariables false
set_option linter.unusedSimpArgs false
namespace Go.Proofs.YtolmkdhgnganaaaGreatDoor.RPM
open Go Go.RowKit Go.Proofs Go.Proofs.YtolmkdhgnganaaaGreatDoorW.PrintWords Go.Proofs.YtolmkdhgnganaaaGreatDoor.H Go.Proofs.YtolmkdhgnganaaaGreatDoor.R Go.ChangeShapes Go.WideShapes Go.ChangeAt
open Go.ChangeMaps (open_string shut_string)
set_option maxRecDepth 100000 in
theorem lifted (os : Os) (started : os.Started) (H : Type) (enc : TypeId × Value → H) :
    ReturnsInHanded {} Tryz.checked os 5 .any (fun w args => (Rows.parseMatchesReferenceSpec.pre enc Tryz.prog Tryz.f5 [] false w args ∧ laidMetH Tryz.prog Rows.parseMatchesReferenceRow.laid w) ∧ sizedMet enc Tryz.prog Tryz.f5 (OpenSpec.ofChange Rows.parseMatchesReferenceSpec) false w args)
      (Rows.parseMatchesReferenceSpec.post enc Tryz.prog Tryz.f5 false true false false) := by
  refine handed_sh (C := Tryz.checked) (X := fun w _ => laidMetH Tryz.prog Rows.parseMatchesReferenceRow.laid w) (fun _ _ _ hh h => h.of_heap hh) own started (by kernel_rfl) Tryz.func5
    (ChangeSpec.witness_shaped (enc := enc) (C := Tryz.checked) (os := os) (X := fun w _ => laidMetH Tryz.prog Rows.parseMatchesReferenceRow.laid w) false (World.laidAll Tryz.prog os Rows.parseMatchesReferenceRow.laid) #[.string ByteArray.empty] 8 (World.laidAll_os _ _ _)
      (World.shaped_of_ZipB (by kernel_rfl) (by kernel_rfl)) (by kernel_rfl) (by kernel_rfl) (by kernel_rfl)
      (by rw [MakeChecks.laidMetH_plain _ _ _ (by kernel_rfl)]; exact laidMet_laidAll _ (by kernel_rfl) (by kernel_rfl))) ?_
  intro W base args ds gs before hval0 hW hcnd hsz0 hL hsh
  have hsz : (DataW.weightsEach Tryz.prog (Tryz.f5.params.toList ++ Rows.parseMatchesReferenceSpec.plain.varTypes Tryz.prog) (ds ++ gs)).all (· ≤ reachBytes) = true := hsz0
  have hval : ∀ (j : Nat) t v, Tryz.f5.params[j]? = some t → args[j]? = some v → Value.okWide Tryz.prog W .any base t v := hval0
  have hW' := hW
  obtain ⟨p, q, hA0, hV, rfl, hfz, hnd⟩ := hW
  have hA : DataW.TrodAll enc Tryz.prog W 0 (fun _ => true) true Tryz.f5.params.toList args.toList ds p := hA0
  rw [Tryz.params5] at hA hval hsz
  obtain ⟨v0, vs0, d0, ds0, p0, q0, hargs, rfl, rfl, h0, r0⟩ := trodAll_cons hA
  obtain ⟨rfl, rfl, rfl⟩ := trodAll_nil r0
  obtain rfl : args = #[v0] := by cases args; simp_all
  obtain ⟨rfl, rfl⟩ := trodVars_none hV
  rw [MakeChecks.laidMetH_plain _ _ _ (by kernel_rfl)] at hL
  have k0 := h0
  have lt0 := trod_blocks h0
  obtain ⟨a0, rfl, e0, _, y0⟩ := open_string Tryz.underlying9 (hval 0 9 v0 rfl rfl) h0
  subst e0
  have w0 : a0.size ≤ 140737488351232 := by
    have z := sized_string hsz (j := 0) (t := 9) rfl rfl
    rw [Array.length_toList] at z
    exact z
  clear hA0 hval0 hsz0 hsz
  have lt : Lets W := lets_of (Lib.laidMet.reads hL (n := "busbar/addr.letters") (d := Rows.laid_busbar_addr_letters) (by simp [Rows.parseMatchesReferenceRow]))
  have kw : Kws W := kws_of (Lib.laidMet.reads hL (n := "busbar/parse.contacts") (d := Rows.laid_busbar_parse_contacts) (by simp [Rows.parseMatchesReferenceRow])) (Lib.laidMet.reads hL (n := "busbar/parse.coils") (d := Rows.laid_busbar_parse_coils) (by simp [Rows.parseMatchesReferenceRow]))
  have lg : LexG W := lexg_of (Lib.laidMet.reads hL (n := "strings.asciiSpace") (d := Rows.laid_strings_asciiSpace) (by simp [Rows.parseMatchesReferenceRow])) (by kernel_rfl) hsh
  have er : Errs W := errs_of (Lib.laidMet.reads hL (n := "strconv.ErrSyntax") (d := Rows.laid_strconv_ErrSyntax) (by simp [Rows.parseMatchesReferenceRow])) (Lib.laidMet.reads hL (n := "strconv.ErrRange") (d := Rows.laid_strconv_ErrRange) (by simp [Rows.parseMatchesReferenceRow]))
  refine (pm_b a0 W lt er kw lg).mono fun e W' ⟨he, bel⟩ => ?_
  subst he
  exact ⟨_, rfl, _, _, _, [], _, [], hW', trodAll_mk1 (shut_bool Tryz.underlying4 _), (trodAll_cons_mk (Below.trod laidOut (by kernel_rfl) (of_decide_eq_true (by kernel_rfl)) k0 bel lt0) trodAll_mk0), rfl, bel.frame _, fun h => by cases h⟩
theorem over : Rows.parseMatchesReferenceRow.holds Tryz.pinned (OpenSpec.ofChange Rows.parseMatchesReferenceSpec) :=
  OpenClaim.holds_of_wide 5 Tryz.f5 rfl rfl rfl rfl rfl rfl rfl ⟨rfl, rfl, rfl, rfl, rfl⟩ rfl rfl rfl rfl rfl (by kernel_rfl) Tryz.func5 (by kernel_rfl)
    (of_decide_eq_true (by kernel_rfl)) (by unfold Func.isWrapper; first | (rw [if_pos (by decide +kernel)]; kernel_rfl) | (rw [if_neg (by decide +kernel)]; exact ⟨rfl, rfl⟩))
    (fun os started H enc _ => lifted os started H enc)
theorem card_holds : Rows.ParseMatchesReferenceCardSaid :=
  Claim7.holds_tied_plain_at .later [] _ _ _ _ over (fun _ h => by cases h) (by kernel_rfl) (fun _ h => by cases h) parseMatchesReference_row_tie rfl ⟨rfl, rfl⟩ (by kernel_rfl) rfl
    (plain_in Tryz.func5 (by kernel_rfl) (by kernel_rfl) (by kernel_rfl)) (by kernel_rfl)
end Go.Proofs.YtolmkdhgnganaaaGreatDoor.RPM
namespace Go.Proofs.YtolmkdhgnganaaaGreatDoor
/-- The card, under a short name, for the claim. -/
theorem parseMatchesReference_card : Rows.ParseMatchesReferenceCardSaid := RPM.card_holds
#print axioms parseMatchesReference_card
end Go.Proofs.YtolmkdhgnganaaaGreatDoor
