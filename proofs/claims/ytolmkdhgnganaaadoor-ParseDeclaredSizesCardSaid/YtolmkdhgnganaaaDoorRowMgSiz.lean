/-
  The row and the card of 'busbar/busbarlaw10.ParseDeclaredSizes': the arguments laid open, the walk, the arguments behind the call.
-/
import Derived.Test.YtolmkdhgnganaaaDoorMgSizc
import Derived.Test.YtolmkdhgnganaaaDoorCards
import Derived.Test.YtolmkdhgnganaaaDoorTie
import Derived.SevenTiedAt
import Derived.LaidOnce
set_option linter.unusedVariables false
set_option linter.unusedSimpArgs false
namespace Go.Proofs.YtolmkdhgnganaaaDoor.RSiz
open Go Go.RowKit Go.Proofs Go.Proofs.YtolmkdhgnganaaaDoorW.PrintWords Go.Proofs.YtolmkdhgnganaaaDoor.H Go.Proofs.YtolmkdhgnganaaaDoor.R Go.ChangeShapes Go.WideShapes Go.ChangeAt
open Go.ChangeMaps (open_string shut_string)
set_option maxRecDepth 100000 in
theorem lifted (os : Os) (started : os.Started) (H : Type) (enc : TypeId × Value → H) :
    ReturnsInHanded {} Tryd.checked os 7 .any (fun w args => (Rows.parseDeclaredSizesSpec.pre enc Tryd.prog Tryd.f7 [] false w args ∧ laidMetH Tryd.prog Rows.parseDeclaredSizesRow.laid w) ∧ sizedMet enc Tryd.prog Tryd.f7 (OpenSpec.ofChange Rows.parseDeclaredSizesSpec) false w args)
      (Rows.parseDeclaredSizesSpec.post enc Tryd.prog Tryd.f7 false true false false) := by
  refine handed_sh (C := Tryd.checked) (X := fun w _ => laidMetH Tryd.prog Rows.parseDeclaredSizesRow.laid w) (fun _ _ _ hh h => h.of_heap hh) own started (by kernel_rfl) Tryd.func7
    (ChangeSpec.witness_shaped (enc := enc) (C := Tryd.checked) (os := os) (X := fun w _ => laidMetH Tryd.prog Rows.parseDeclaredSizesRow.laid w) false (World.laidAll Tryd.prog os Rows.parseDeclaredSizesRow.laid) #[.agg #[.int .u16 0, .int .u16 0, .int .u16 0], .int .u16 0] 8 (World.laidAll_os _ _ _)
      (World.shaped_of_ZipB (by kernel_rfl) (by kernel_rfl)) (by kernel_rfl) (by kernel_rfl) (by kernel_rfl)
      (by rw [MakeChecks.laidMetH_plain _ _ _ (by kernel_rfl)]; exact laidMet_laidAll _ (by kernel_rfl) (by kernel_rfl))) ?_
  intro W base args ds gs before hval0 hW hcnd hsz0 hL hsh
  have hsz : (DataW.weightsEach Tryd.prog (Tryd.f7.params.toList ++ Rows.parseDeclaredSizesSpec.plain.varTypes Tryd.prog) (ds ++ gs)).all (· ≤ reachBytes) = true := hsz0
  have hval : ∀ (j : Nat) t v, Tryd.f7.params[j]? = some t → args[j]? = some v → Value.okWide Tryd.prog W .any base t v := hval0
  have hW' := hW
  obtain ⟨p, q, hA0, hV, rfl, hfz, hnd⟩ := hW
  have hA : DataW.TrodAll enc Tryd.prog W 0 (fun _ => true) true Tryd.f7.params.toList args.toList ds p := hA0
  rw [Tryd.params7] at hA hval hsz
  obtain ⟨v0, vs0, d0, ds0, p0, q0, hargs, rfl, rfl, h0, r0⟩ := trodAll_cons hA
  obtain ⟨v1, vs1, d1, ds1, p1, q1, rfl, rfl, rfl, h1, r1⟩ := trodAll_cons r0
  obtain ⟨rfl, rfl, rfl⟩ := trodAll_nil r1
  obtain rfl : args = #[v0, v1] := by cases args; simp_all
  obtain ⟨rfl, rfl⟩ := trodVars_none hV
  rw [MakeChecks.laidMetH_plain _ _ _ (by kernel_rfl)] at hL
  have k0 := h0
  have lt0 := trod_blocks h0
  obtain ⟨a0_0, a0_1, a0_2, rfl, w0_0, w0_1, w0_2⟩ := open_arr3 Tryd.underlying61 Tryd.underlying60 (by kernel_rfl) (by kernel_rfl) (hval 0 61 v0 rfl rfl) h0
  have b0_0 : 0 ≤ a0_0 ∧ a0_0 ≤ 65535 := by simpa [Lit.wf, IntKind.min, IntKind.max, IntKind.signed, IntKind.bits] using w0_0
  have b0_1 : 0 ≤ a0_1 ∧ a0_1 ≤ 65535 := by simpa [Lit.wf, IntKind.min, IntKind.max, IntKind.signed, IntKind.bits] using w0_1
  have b0_2 : 0 ≤ a0_2 ∧ a0_2 ≤ 65535 := by simpa [Lit.wf, IntKind.min, IntKind.max, IntKind.signed, IntKind.bits] using w0_2
  have k1 := h1
  have lt1 := trod_blocks h1
  obtain ⟨a1, rfl, _, _, w1⟩ := open_int Tryd.underlying60 (hval 1 60 v1 rfl rfl) h1
  have b1 : 0 ≤ a1 ∧ a1 ≤ 65535 := by simpa [Lit.wf, IntKind.min, IntKind.max, IntKind.signed, IntKind.bits] using w1
  clear hA0 hval0 hsz0 hsz
  have lt : Lets W := lets_of (Lib.laidMet.reads hL (n := "busbar/addr.letters") (d := Rows.laid_busbar_addr_letters) (by simp [Rows.parseDeclaredSizesRow]))
  have pw : Pows W := pows_of (Lib.laidMet.reads hL (n := "internal/strconv.uint64pow10") (d := Rows.laid_internal_strconv_uint64pow10) (by simp [Rows.parseDeclaredSizesRow])) rfl
  have kw : Kws W := kws_of (Lib.laidMet.reads hL (n := "busbar/parse.contacts") (d := Rows.laid_busbar_parse_contacts) (by simp [Rows.parseDeclaredSizesRow])) (Lib.laidMet.reads hL (n := "busbar/parse.coils") (d := Rows.laid_busbar_parse_coils) (by simp [Rows.parseDeclaredSizesRow]))
  have lg : LexG W := lexg_of (Lib.laidMet.reads hL (n := "strings.asciiSpace") (d := Rows.laid_strings_asciiSpace) (by simp [Rows.parseDeclaredSizesRow])) (by kernel_rfl) hsh
  have er : Errs W := errs_of (Lib.laidMet.reads hL (n := "strconv.ErrSyntax") (d := Rows.laid_strconv_ErrSyntax) (by simp [Rows.parseDeclaredSizesRow])) (Lib.laidMet.reads hL (n := "strconv.ErrRange") (d := Rows.laid_strconv_ErrRange) (by simp [Rows.parseDeclaredSizesRow]))
  refine (siz_b a0_0 a0_1 a0_2 a1 W b0_0 b0_1 b0_2 b1 lt pw er kw lg).mono fun e W' ⟨he, bel⟩ => ?_
  subst he
  exact ⟨_, rfl, _, _, _, [], _, [], hW', trodAll_mk1 (shut_bool Tryd.underlying4 _), (trodAll_cons_mk (Below.trod laidOut (by kernel_rfl) (of_decide_eq_true (by kernel_rfl)) k0 bel lt0) (trodAll_cons_mk (Below.trod laidOut (by kernel_rfl) (of_decide_eq_true (by kernel_rfl)) k1 bel lt1) trodAll_mk0)), rfl, bel.frame _, fun h => by cases h⟩
theorem over : Rows.parseDeclaredSizesRow.holds Tryd.pinned (OpenSpec.ofChange Rows.parseDeclaredSizesSpec) :=
  OpenClaim.holds_of_wide 7 Tryd.f7 rfl rfl rfl rfl rfl rfl rfl ⟨rfl, rfl, rfl, rfl, rfl⟩ rfl rfl rfl rfl rfl (by kernel_rfl) Tryd.func7 (by kernel_rfl)
    (of_decide_eq_true (by kernel_rfl)) (by unfold Func.isWrapper; first | (rw [if_pos (by decide +kernel)]; kernel_rfl) | (rw [if_neg (by decide +kernel)]; exact ⟨rfl, rfl⟩))
    (fun os started H enc _ => lifted os started H enc)
theorem card_holds : Rows.ParseDeclaredSizesCardSaid :=
  Claim7.holds_tied_plain_at .later [] _ _ _ _ over (fun _ h => by cases h) (by kernel_rfl) (fun _ h => by cases h) parseDeclaredSizes_row_tie rfl ⟨rfl, rfl⟩ (by kernel_rfl) rfl
    (plain_in Tryd.func7 (by kernel_rfl) (by kernel_rfl) (by kernel_rfl)) (by kernel_rfl)
end Go.Proofs.YtolmkdhgnganaaaDoor.RSiz
namespace Go.Proofs.YtolmkdhgnganaaaDoor
/-- The card, under a short name, for the claim. -/
theorem parseDeclaredSizes_card : Rows.ParseDeclaredSizesCardSaid := RSiz.card_holds
#print axioms parseDeclaredSizes_card
end Go.Proofs.YtolmkdhgnganaaaDoor
