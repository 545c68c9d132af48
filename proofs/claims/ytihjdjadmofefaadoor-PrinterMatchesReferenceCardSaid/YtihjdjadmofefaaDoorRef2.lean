/-
  The reference's CheckAddr, contacts and coils answer what the program's plain functions answer.
-/
import Derived.Test.YtihjdjadmofefaaDoorRef1
set_option linter.unusedVariables false
set_option linter.unusedSimpArgs false
namespace Go.Proofs.YtihjdjadmofefaaDoor.H
open Go Go.RowKit Go.Proofs Go.Proofs.YtihjdjadmofefaaDoorW.PrintWords Go.Proofs.YtihjdjadmofefaaDoor.Sp

theorem chk1_b (i q m e sp n : Int) (w : World) :
   Calls Tryd.prog 74 #[.agg #[.int .i64 i, .int .i64 q, .int .i64 m, .int .i64 e], .agg #[.int .i64 sp, .int .i64 n]] w (RetB w (.int .i64 (chkAddr i q m sp n))) := by
  by_cases h0 : sp < 0
  · have e0 : chkAddr i q m sp n = 8 := by simp [chkAddr, h0]
    rw [e0]
    clear e0
    have h0' : ¬ (0 ≤ sp) := by omega
    go_enter Tryd.func74, Tryd.ntmps74
    go_wp2
    go_ret
    exact ⟨rfl, below_alloc (below_alloc (Below.refl _ _) _) _⟩
  · by_cases h2 : sp ≤ 2
    · have h0' : 0 ≤ sp := by omega
      by_cases h3 : n < 0
      · have e0 : chkAddr i q m sp n = 3 := by simp [chkAddr, h0, h3]; omega
        rw [e0]
        clear e0
        have d3 : decide (n < 0) = true := by simpa using h3
        go_enter Tryd.func74, Tryd.ntmps74
        go_wp2
        go_quiet (fail)
        go_wp2
        go_ret
        exact ⟨rfl, pw_below_drewN (below_alloc (below_alloc (Below.refl _ _) _) _) _⟩
      · have d3 : decide (n < 0) = false := by simpa using h3
        by_cases h4 : widthOf i q m sp ≤ n
        · have e0 : chkAddr i q m sp n = 3 := by simp [chkAddr, h0, h3, h4]; omega
          rw [e0]
          clear e0
          go_enter Tryd.func74, Tryd.ntmps74
          go_wp2
          go_region_held3 (fun w' => w'.cell? ⟨w.heap.size, 0, none⟩ = some (.int .i64 i) ∧ w'.cell? ⟨w.heap.size, 1, none⟩ = some (.int .i64 q) ∧ w'.cell? ⟨w.heap.size, 2, none⟩ = some (.int .i64 m) ∧ w'.cell? ⟨w.heap.size, 3, none⟩ = some (.int .i64 e) ∧ w'.cell? ⟨w.heap.size + 1, 0, none⟩ = some (.int .i64 sp) ∧ w'.cell? ⟨w.heap.size + 1, 1, none⟩ = some (.int .i64 n))
            (first | go_keep | (refine ⟨pw_cell_below hb ?_, pw_cell_below hb ?_, pw_cell_below hb ?_, pw_cell_below hb ?_, pw_cell_below hb ?_, pw_cell_below hb ?_⟩ <;> go_keep))
            (first | (go_at_call 86; (with_reducible refine (width1_b i q m e sp _).mono ?_); rintro e_ w1 ⟨rfl, hb⟩))
          go_wp2
          go_ret
          exact ⟨rfl, below_step (below_drew (below_alloc (below_alloc (Below.refl _ _) _) _)) hb⟩
        · have e0 : chkAddr i q m sp n = 0 := by simp [chkAddr, h0, h3, h4]; omega
          rw [e0]
          clear e0
          go_enter Tryd.func74, Tryd.ntmps74
          go_wp2
          go_region_held3 (fun w' => w'.cell? ⟨w.heap.size, 0, none⟩ = some (.int .i64 i) ∧ w'.cell? ⟨w.heap.size, 1, none⟩ = some (.int .i64 q) ∧ w'.cell? ⟨w.heap.size, 2, none⟩ = some (.int .i64 m) ∧ w'.cell? ⟨w.heap.size, 3, none⟩ = some (.int .i64 e) ∧ w'.cell? ⟨w.heap.size + 1, 0, none⟩ = some (.int .i64 sp) ∧ w'.cell? ⟨w.heap.size + 1, 1, none⟩ = some (.int .i64 n))
            (first | go_keep | (refine ⟨pw_cell_below hb ?_, pw_cell_below hb ?_, pw_cell_below hb ?_, pw_cell_below hb ?_, pw_cell_below hb ?_, pw_cell_below hb ?_⟩ <;> go_keep))
            (first | (go_at_call 86; (with_reducible refine (width1_b i q m e sp _).mono ?_); rintro e_ w1 ⟨rfl, hb⟩))
          go_wp2
          go_ret
          exact ⟨rfl, below_step (below_drew (below_alloc (below_alloc (Below.refl _ _) _) _)) hb⟩
    · have e0 : chkAddr i q m sp n = 8 := by simp [chkAddr]; omega
      rw [e0]
      clear e0
      have h0' : 0 ≤ sp := by omega
      go_enter Tryd.func74, Tryd.ntmps74
      go_wp2
      go_ret
      exact ⟨rfl, below_alloc (below_alloc (Below.refl _ _) _) _⟩


set_option maxHeartbeats 2000000 in
set_option maxRecDepth 100000 in
theorem cons9_b (i q m e : Int) (r : Rung) (A1 : Option Addr) (c1 : Nat) (A2 : Option Addr) (c2 : Nat) (w : World)
    (h1 : Kd.C kCon w A1 r.f1.length r.f1) (hc1 : r.f1.length ≤ c1) (h2 : Kd.C kCoil w A2 r.f2.length r.f2) (hc2 : r.f2.length ≤ c2) :
    Calls Tryd.prog 57 #[.agg #[.int .i64 i, .int .i64 q, .int .i64 m, .int .i64 e], .agg #[.string r.f0, .slice A1 r.f1.length c1, .slice A2 r.f2.length c2, .string r.f3]] w (RetB w (.int .i64 (orE (if 256 < r.f1.length then 10 else 0) (firstE (conE i q m) r.f1)))) := by
  generalize hV : orE (if 256 < r.f1.length then 10 else 0) (firstE (conE i q m) r.f1) = V
  have HV := Aside0.mk hV
  clear hV
  have hmx1 := Kd.C_max h1
  have hmx2 := Kd.C_max h2
  have G1 := Aside0.mk h1
  have G2 := Aside0.mk h2
  clear h1 h2
  have HF := Aside0.mk (RungF.new w i q m e r A1 c1 A2 c2)
  obtain ⟨s0, s1, s2, s3, r0, r1, r2, r3, lt1, lt0⟩ := HF.out.cells
  by_cases z3 : (256 : Int) < r.f1.length
  · have hV := orE_pos HV.out (show (if 256 < r.f1.length then (10 : Int) else 0) = 10 from if_pos (by omega)) (by decide)
    subst hV
    have FB := HF.out.b
    go_enter Tryd.func57, Tryd.ntmps57
    go_wp2
    go_ret
    exact ⟨rfl, FB⟩
  · replace HV := Aside0.mk (orE_next HV.out (show (if 256 < r.f1.length then (10 : Int) else 0) = 0 from if_neg (by omega)))
    go_enter Tryd.func57, Tryd.ntmps57
    go_wp2
    clear s0 s1 s2 s3 r0 r1 r2 r3 lt1 lt0
    go_loopw [5] (fun cv w' => ∃ k : Int, cv = .int .i64 k ∧ 0 ≤ k ∧ k ≤ r.f1.length ∧ Aside0 (RungF w i q m e r A1 c1 A2 c2 w') ∧ Aside0 (∀ j : Int, 0 ≤ j → j < k → conE i q m (PPrinterMatchesReference.rd_T50 r.f1 j) = 0)) (fun cv _ => r.f1.length - (intOf cv).toNat)
    case atStart => exact ⟨0, rfl, by omega, by omega, HF, ⟨fun j h1 h2 => by omega⟩⟩
    case round =>
      clear HF
      obtain ⟨k, rfl, b0, b1, HF, HA⟩ := hrel
      obtain ⟨s0, s1, s2, s3, r0, r1, r2, r3, lt1, lt0⟩ := HF.out.cells
      by_cases hk : k < r.f1.length
      · obtain ⟨ad, hAd, x0, x1, x2, x3, x4⟩ := PPrinterMatchesReference.at_T50 G1.out k b0 hk
        subst hAd
        replace x0 := pw_cell_below HF.out.b x0
        replace x1 := pw_cell_below HF.out.b x1
        replace x2 := pw_cell_below HF.out.b x2
        replace x3 := pw_cell_below HF.out.b x3
        replace x4 := pw_cell_below HF.out.b x4
        have hwr : wrap64 (k + 1) = k + 1 := w64 (by omega) (by omega)
        have bad : ∀ v : Int, conE i q m (PPrinterMatchesReference.rd_T50 r.f1 k) = v → v ≠ 0 → V = v := fun v hv hne => HV.out.symm.trans ((firstE_rd b0 hk HA.out (by rw [show conE i q m (r.f1.getD k.toNat _) = v from hv]; exact hne)).trans hv)
        have good : conE i q m (PPrinterMatchesReference.rd_T50 r.f1 k) = 0 → ∀ j : Int, 0 ≤ j → j < k + 1 → conE i q m (PPrinterMatchesReference.rd_T50 r.f1 j) = 0 := by
          intro hg j j0 j1
          by_cases hj : j < k
          · exact HA.out j j0 hj
          · obtain rfl : j = k := by omega
            exact hg
        have HBad := Aside0.mk bad
        have HGood := Aside0.mk good
        clear bad good
        generalize PPrinterMatchesReference.rd_T50 r.f1 k = cn at *
        have HF1 := Aside0.mk (HF.out.alloc (.cells #[.int .i64 cn.f0, .int .i64 cn.f1.f0, .int .i64 cn.f1.f1, .string cn.f2, .string cn.f3] 50))
        have KC := Aside0.mk (blk_new wr (.cells #[.int .i64 cn.f0, .int .i64 cn.f1.f0, .int .i64 cn.f1.f1, .string cn.f2, .string cn.f3] 50))
        have lc := blk_lt KC.out
        by_cases n0 : cn.f0 < 0
        · have hV := HBad.out 8 (by rw [conE, partE, if_pos (.inl n0)]; rfl) (by decide)
          subst hV
          have FB := HF1.out.b
          go_wp2
          go_ret
          exact ⟨rfl, FB⟩
        · by_cases n3 : 3 < cn.f0
          · have hV := HBad.out 8 (by rw [conE, partE, if_pos (.inr (by omega))]; rfl) (by decide)
            subst hV
            have FB := HF1.out.b
            go_wp2
            go_ret
            exact ⟨rfl, FB⟩
          · have hpe : partE i q m cn.f0 cn.f1.f0 cn.f1.f1 = chkAddr i q m cn.f1.f0 cn.f1.f1 := if_neg (by omega)
            have C1 := chk1_b i q m e cn.f1.f0 cn.f1.f1
            generalize hce : chkAddr i q m cn.f1.f0 cn.f1.f1 = ce at C1 hpe
            clear hce
            have HC1 := Aside0.mk C1
            have HPe := Aside0.mk hpe
            clear C1 hpe
            go_wp2_with fail
            refine (HC1.out _).mono ?_
            rintro e1 w1 ⟨rfl, hb⟩
            have HF2 := Aside0.mk (HF1.out.step hb)
            have KC2 := Aside0.mk (blk_below KC.out hb)
            clear s0 s1 s2 s3 r0 r1 r2 r3 lt1 lt0
            obtain ⟨s0, s1, s2, s3, r0, r1, r2, r3, lt1, lt0⟩ := HF2.out.cells
            have y0 := blk_cell KC2.out 0
            have y1 := blk_cell KC2.out 1
            have y2 := blk_cell KC2.out 2
            have y3 := blk_cell KC2.out 3
            have y4 := blk_cell KC2.out 4
            by_cases hz : ce = 0
            · subst hz
              have N1 := isName9_b cn.f2
              have N2 := isName9_b cn.f3
              have hE : conE i q m cn = if isNm cn.f2.data.toList && isNm cn.f3.data.toList then 0 else 6 := by rw [conE, HPe.out]; rfl
              generalize isNm cn.f2.data.toList = n1 at N1 hE
              generalize isNm cn.f3.data.toList = n2 at N2 hE
              have HN1 := Aside0.mk N1
              have HN2 := Aside0.mk N2
              have HE := Aside0.mk hE
              clear N1 N2 hE
              cases n1 with
              | false =>
                have hV := HBad.out 6 HE.out (by decide)
                subst hV
                go_wp2_with fail
                refine (HN1.out _).mono ?_
                rintro e2 w2 ⟨rfl, hb2⟩
                have FB := below_step HF2.out.b hb2
                go_wp2
                go_ret
                exact ⟨rfl, FB⟩
              | true =>
                cases n2 with
                | false =>
                  have hV := HBad.out 6 HE.out (by decide)
                  subst hV
                  go_wp2_with fail
                  refine (HN1.out _).mono ?_
                  rintro e2 w2 ⟨rfl, hb2⟩
                  have HB2 := Aside0.mk (below_step HF2.out.b hb2)
                  have y3' := pw_cell_below hb2 y3
                  have y4' := pw_cell_below hb2 y4
                  go_wp2_with fail
                  refine (HN2.out _).mono ?_
                  rintro e3 w3 ⟨rfl, hb3⟩
                  have FB := below_step HB2.out hb3
                  go_wp2
                  go_ret
                  exact ⟨rfl, FB⟩
                | true =>
                  have HT := Aside0.mk (HGood.out HE.out)
                  go_wp2_with fail
                  refine (HN1.out _).mono ?_
                  rintro e2 w2 ⟨rfl, hb2⟩
                  have HF3 := Aside0.mk (HF2.out.step hb2)
                  have y3' := pw_cell_below hb2 y3
                  have y4' := pw_cell_below hb2 y4
                  go_wp2_with fail
                  refine (HN2.out _).mono ?_
                  rintro e3 w3 ⟨rfl, hb3⟩
                  have HF4 := Aside0.mk (HF3.out.step hb3)
                  go_wp2
                  go_roundw
                  case rel => exact ⟨k + 1, by simp [hwr], by omega, by omega, HF4, HT⟩
                  case measure => simp [intOf, hwr]; omega
            · have hV := HBad.out ce (by rw [conE, HPe.out]; exact orE_ne _ hz) hz
              subst hV
              have FB := HF2.out.b
              go_wp2
              go_ret
              exact ⟨rfl, FB⟩
      · obtain rfl : k = r.f1.length := by omega
        have hV := HV.out.symm.trans (firstE_rd0 HA.out)
        subst hV
        have FB := HF.out.b
        go_wp2
        go_ret
        exact ⟨rfl, FB⟩

set_option maxHeartbeats 2000000 in
set_option maxRecDepth 100000 in
theorem coils9_b (i q m e : Int) (r : Rung) (A1 : Option Addr) (c1 : Nat) (A2 : Option Addr) (c2 : Nat) (w : World)
    (h1 : Kd.C kCon w A1 r.f1.length r.f1) (hc1 : r.f1.length ≤ c1) (h2 : Kd.C kCoil w A2 r.f2.length r.f2) (hc2 : r.f2.length ≤ c2) :
    Calls Tryd.prog 58 #[.agg #[.int .i64 i, .int .i64 q, .int .i64 m, .int .i64 e], .agg #[.string r.f0, .slice A1 r.f1.length c1, .slice A2 r.f2.length c2, .string r.f3]] w (RetB w (.int .i64 (orE (if 16 < r.f2.length then 10 else 0) (firstE (coilE i q m) r.f2)))) := by
  generalize hV : orE (if 16 < r.f2.length then 10 else 0) (firstE (coilE i q m) r.f2) = V
  have HV := Aside0.mk hV
  clear hV
  have hmx1 := Kd.C_max h1
  have hmx2 := Kd.C_max h2
  have G1 := Aside0.mk h1
  have G2 := Aside0.mk h2
  clear h1 h2
  have HF := Aside0.mk (RungF.new w i q m e r A1 c1 A2 c2)
  obtain ⟨s0, s1, s2, s3, r0, r1, r2, r3, lt1, lt0⟩ := HF.out.cells
  by_cases z3 : (16 : Int) < r.f2.length
  · have hV := orE_pos HV.out (show (if 16 < r.f2.length then (10 : Int) else 0) = 10 from if_pos (by omega)) (by decide)
    subst hV
    have FB := HF.out.b
    go_enter Tryd.func58, Tryd.ntmps58
    go_wp2
    go_ret
    exact ⟨rfl, FB⟩
  · replace HV := Aside0.mk (orE_next HV.out (show (if 16 < r.f2.length then (10 : Int) else 0) = 0 from if_neg (by omega)))
    go_enter Tryd.func58, Tryd.ntmps58
    go_wp2
    clear s0 s1 s2 s3 r0 r1 r2 r3 lt1 lt0
    go_loopw [5] (fun cv w' => ∃ k : Int, cv = .int .i64 k ∧ 0 ≤ k ∧ k ≤ r.f2.length ∧ Aside0 (RungF w i q m e r A1 c1 A2 c2 w') ∧ Aside0 (∀ j : Int, 0 ≤ j → j < k → coilE i q m (PPrinterMatchesReference.rd_T53 r.f2 j) = 0)) (fun cv _ => r.f2.length - (intOf cv).toNat)
    case atStart => exact ⟨0, rfl, by omega, by omega, HF, ⟨fun j h1 h2 => by omega⟩⟩
    case round =>
      clear HF
      obtain ⟨k, rfl, b0, b1, HF, HA⟩ := hrel
      obtain ⟨s0, s1, s2, s3, r0, r1, r2, r3, lt1, lt0⟩ := HF.out.cells
      by_cases hk : k < r.f2.length
      · obtain ⟨ad, hAd, x0, x1, x2⟩ := PPrinterMatchesReference.at_T53 G2.out k b0 hk
        subst hAd
        replace x0 := pw_cell_below HF.out.b x0
        replace x1 := pw_cell_below HF.out.b x1
        replace x2 := pw_cell_below HF.out.b x2
        have hwr : wrap64 (k + 1) = k + 1 := w64 (by omega) (by omega)
        have bad : ∀ v : Int, coilE i q m (PPrinterMatchesReference.rd_T53 r.f2 k) = v → v ≠ 0 → V = v := fun v hv hne => HV.out.symm.trans ((firstE_rd b0 hk HA.out (by rw [show coilE i q m (r.f2.getD k.toNat _) = v from hv]; exact hne)).trans hv)
        have good : coilE i q m (PPrinterMatchesReference.rd_T53 r.f2 k) = 0 → ∀ j : Int, 0 ≤ j → j < k + 1 → coilE i q m (PPrinterMatchesReference.rd_T53 r.f2 j) = 0 := by
          intro hg j j0 j1
          by_cases hj : j < k
          · exact HA.out j j0 hj
          · obtain rfl : j = k := by omega
            exact hg
        have HBad := Aside0.mk bad
        have HGood := Aside0.mk good
        clear bad good
        generalize PPrinterMatchesReference.rd_T53 r.f2 k = cn at *
        have HF1 := Aside0.mk (HF.out.alloc (.cells #[.int .i64 cn.f0, .int .i64 cn.f1.f0, .int .i64 cn.f1.f1] 53))
        have KC := Aside0.mk (blk_new wr (.cells #[.int .i64 cn.f0, .int .i64 cn.f1.f0, .int .i64 cn.f1.f1] 53))
        have lc := blk_lt KC.out
        by_cases n0 : cn.f0 < 0
        · have hV := HBad.out 8 (by rw [coilE, partE, if_pos (.inl n0)]; rfl) (by decide)
          subst hV
          have FB := HF1.out.b
          go_wp2
          go_ret
          exact ⟨rfl, FB⟩
        · by_cases n3 : 3 < cn.f0
          · have hV := HBad.out 8 (by rw [coilE, partE, if_pos (.inr (by omega))]; rfl) (by decide)
            subst hV
            have FB := HF1.out.b
            go_wp2
            go_ret
            exact ⟨rfl, FB⟩
          · have hpe : partE i q m cn.f0 cn.f1.f0 cn.f1.f1 = chkAddr i q m cn.f1.f0 cn.f1.f1 := if_neg (by omega)
            have C1 := chk1_b i q m e cn.f1.f0 cn.f1.f1
            generalize hce : chkAddr i q m cn.f1.f0 cn.f1.f1 = ce at C1 hpe
            clear hce
            have HC1 := Aside0.mk C1
            have HPe := Aside0.mk hpe
            clear C1 hpe
            go_wp2_with fail
            refine (HC1.out _).mono ?_
            rintro e1 w1 ⟨rfl, hb⟩
            have HF2 := Aside0.mk (HF1.out.step hb)
            have KC2 := Aside0.mk (blk_below KC.out hb)
            clear s0 s1 s2 s3 r0 r1 r2 r3 lt1 lt0
            obtain ⟨s0, s1, s2, s3, r0, r1, r2, r3, lt1, lt0⟩ := HF2.out.cells
            have y0 := blk_cell KC2.out 0
            have y1 := blk_cell KC2.out 1
            have y2 := blk_cell KC2.out 2
            by_cases hz : ce = 0
            · subst hz
              by_cases hs : cn.f1.f0 = 0
              · have hV := HBad.out 2 (by rw [coilE, HPe.out, if_pos hs]; rfl) (by decide)
                subst hV
                have FB := HF2.out.b
                go_wp2
                go_ret
                exact ⟨rfl, FB⟩
              · have HT := Aside0.mk (HGood.out (by rw [coilE, HPe.out, if_neg hs]; rfl))
                go_wp2
                go_roundw
                case rel => exact ⟨k + 1, by simp [hwr], by omega, by omega, HF2, HT⟩
                case measure => simp [intOf, hwr]; omega
            · have hV := HBad.out ce (by rw [coilE, HPe.out]; exact orE_ne _ hz) hz
              subst hV
              have FB := HF2.out.b
              go_wp2
              go_ret
              exact ⟨rfl, FB⟩
      · obtain rfl : k = r.f2.length := by omega
        have hV := HV.out.symm.trans (firstE_rd0 HA.out)
        subst hV
        have FB := HF.out.b
        go_wp2
        go_ret
        exact ⟨rfl, FB⟩
end Go.Proofs.YtihjdjadmofefaaDoor.H
