/-
  printer.rung's walk.
-/
import Derived.Test.YtolmkdhgnganaaaDoorChk
set_option linter.unusedVariables false
set_option linter.unusedSimpArgs false
namespace Go.Proofs.YtolmkdhgnganaaaDoor.H
open Go Go.RowKit Go.Proofs Go.Proofs.YtolmkdhgnganaaaDoorW.PrintWords Go.Proofs.YtolmkdhgnganaaaDoor.Sp
theorem orE_pos {a b V v : Int} (h : orE a b = V) (ha : a = v) (hv : v ≠ 0) : V = v := by rw [← h, ha]; exact orE_ne _ hv
theorem orE_next {a b V : Int} (h : orE a b = V) (ha : a = 0) : b = V := by rw [← h, ha]; rfl
theorem RungF.alloc {w : World} {i q m e : Int} {r : Rung} {A1 : Option Addr} {c1 : Nat} {A2 : Option Addr} {c2 : Nat} {wr : World} (h : RungF w i q m e r A1 c1 A2 c2 wr) (o : Obj) : RungF w i q m e r A1 c1 A2 c2 (wr.alloc o) :=
  ⟨below_alloc h.b _, blk_alloc h.ks _, blk_alloc h.kr _⟩
theorem RungF.new (w : World) (i q m e : Int) (r : Rung) (A1 : Option Addr) (c1 : Nat) (A2 : Option Addr) (c2 : Nat) : RungF w i q m e r A1 c1 A2 c2 ((w.alloc (.cells #[.int .i64 i, .int .i64 q, .int .i64 m, .int .i64 e] 66)).alloc (.cells #[.string r.f0, .slice A1 r.f1.length c1, .slice A2 r.f2.length c2, .string r.f3] 40)) :=
  ⟨below_alloc (below_alloc (Below.refl _ _) _) _, blk_alloc (blk_new _ _) _, by have := blk_new (w.alloc (.cells #[.int .i64 i, .int .i64 q, .int .i64 m, .int .i64 e] 66)) (.cells #[.string r.f0, .slice A1 r.f1.length c1, .slice A2 r.f2.length c2, .string r.f3] 40); simpa using this⟩
set_option maxRecDepth 100000 in
theorem rung_e (i q m e : Int) (A : Option Addr) (c : Nat) (l : List Rung) (r : Rung) (A1 : Option Addr) (c1 : Nat) (A2 : Option Addr) (c2 : Nat) (w : World)
    (hr : Kd.C kRung w A l.length l) (hc : l.length ≤ c) (h1 : Kd.C kCon w A1 r.f1.length r.f1) (hc1 : r.f1.length ≤ c1) (h2 : Kd.C kCoil w A2 r.f2.length r.f2) (hc2 : r.f2.length ≤ c2) (z : r.f0.toList.isEmpty = true) :
    Calls Tryd.prog 24 #[.agg #[.int .i64 i, .int .i64 q, .int .i64 m, .int .i64 e], .slice A l.length c, .agg #[.string r.f0, .slice A1 r.f1.length c1, .slice A2 r.f2.length c2, .string r.f3]] w (RetB w (.int .i64 (rungE i q m l r))) := by
  have z2 : r.f0.toList = [] := by simpa using z
  generalize hV : rungE i q m l r = V
  have HV := Aside0.mk hV
  clear hV
  have GR := Aside0.mk hr
  have G1 := Aside0.mk h1
  have G2 := Aside0.mk h2
  clear hr h1 h2
  have F0 := RungF.new w i q m e r A1 c1 A2 c2

  replace HV := Aside0.mk (orE_next HV.out (show labE l r.f0 = 0 by simp [labE, z]))
  go_enter Tryd.func24, Tryd.ntmps24

  obtain ⟨s0, s1, s2, s3, r0, r1, r2, r3, lt1, lt0⟩ := F0.cells
  by_cases z3 : (256 : Int) < r.f1.length
  · have HV2 := orE_pos HV.out (show (if 256 < r.f1.length then (10 : Int) else 0) = 10 from if_pos (by omega)) (by decide)
    subst HV2
    clear HV
    have FB := F0.b
    go_wp2
    go_ret
    exact ⟨rfl, FB⟩
  · replace HV := Aside0.mk (orE_next HV.out (show (if 256 < r.f1.length then (10 : Int) else 0) = 0 from if_neg (by omega)))
    have HF := Aside0.mk F0
    go_wp2
    clear s0 s1 s2 s3 r0 r1 r2 r3 lt1 lt0
    go_loopw [32] (fun cv w' => ∃ k : Int, cv = .int .i64 k ∧ 0 ≤ k ∧ k ≤ r.f1.length ∧ Aside0 (RungF w i q m e r A1 c1 A2 c2 w') ∧ Aside0 (∀ j : Int, 0 ≤ j → j < k → conE i q m (PPrinterMatchesReference.rd_T49 r.f1 j) = 0)) (fun cv _ => r.f1.length - (intOf cv).toNat)
    case atStart => exact ⟨0, rfl, by omega, by omega, HF, ⟨fun j h1 h2 => by omega⟩⟩
    case round =>
      clear HF
      obtain ⟨k, rfl, b0, b1, HF, HA⟩ := hrel
      obtain ⟨s0, s1, s2, s3, r0, r1, r2, r3, lt1, lt0⟩ := HF.out.cells
      by_cases hk : k < r.f1.length
      · obtain ⟨ad, rfl, x0, x1, x2, x3, x4⟩ := PPrinterMatchesReference.at_T49 G1.out k b0 hk
        replace x0 := pw_cell_below HF.out.b x0
        replace x1 := pw_cell_below HF.out.b x1
        replace x2 := pw_cell_below HF.out.b x2
        replace x3 := pw_cell_below HF.out.b x3
        replace x4 := pw_cell_below HF.out.b x4
        have hwr : wrap64 (k + 1) = k + 1 := w64 (by omega) (by omega)
        have hce : conE i q m (PPrinterMatchesReference.rd_T49 r.f1 k) = orE (partE i q m (PPrinterMatchesReference.rd_T49 r.f1 k).f0 (PPrinterMatchesReference.rd_T49 r.f1 k).f1.f0 (PPrinterMatchesReference.rd_T49 r.f1 k).f1.f1) (if isNm (PPrinterMatchesReference.rd_T49 r.f1 k).f2.data.toList && isNm (PPrinterMatchesReference.rd_T49 r.f1 k).f3.data.toList then 0 else 6) := rfl
        have P := part_b i q m e (PPrinterMatchesReference.rd_T49 r.f1 k).f0 (PPrinterMatchesReference.rd_T49 r.f1 k).f1.f0 (PPrinterMatchesReference.rd_T49 r.f1 k).f1.f1
        have N1 := isName_b (PPrinterMatchesReference.rd_T49 r.f1 k).f2
        have N2 := isName_b (PPrinterMatchesReference.rd_T49 r.f1 k).f3
        generalize hpe : partE i q m (PPrinterMatchesReference.rd_T49 r.f1 k).f0 (PPrinterMatchesReference.rd_T49 r.f1 k).f1.f0 (PPrinterMatchesReference.rd_T49 r.f1 k).f1.f1 = pe at P hce
        generalize hn1 : isNm (PPrinterMatchesReference.rd_T49 r.f1 k).f2.data.toList = n1 at N1 hce
        generalize hn2 : isNm (PPrinterMatchesReference.rd_T49 r.f1 k).f3.data.toList = n2 at N2 hce
        clear hpe hn1 hn2
        have bad : ∀ v : Int, conE i q m (PPrinterMatchesReference.rd_T49 r.f1 k) = v → v ≠ 0 → V = v := fun v hv hne => orE_pos HV.out ((firstE_rd b0 hk HA.out (by rw [show conE i q m (r.f1.getD k.toNat _) = v from hv]; exact hne)).trans hv) hne
        have HBad := Aside0.mk bad
        have HC := Aside0.mk hce
        have HP := Aside0.mk P
        have HN1 := Aside0.mk N1
        have HN2 := Aside0.mk N2
        clear bad hce P N1 N2
        go_wp2_with fail
        refine (HP.out _).mono ?_
        rintro e1 w1 ⟨rfl, hb⟩
        have KC := blk_below (blk_new wr _) hb
        have HF1 := Aside0.mk ((HF.out.alloc _).step hb)
        clear s0 s1 s2 s3 r0 r1 r2 r3 lt1 lt0 x0 x1 x2 x3 x4
        obtain ⟨s0, s1, s2, s3, r0, r1, r2, r3, lt1, lt0⟩ := HF1.out.cells
        have y2 := blk_cell KC 2
        have y3 := blk_cell KC 3
        have y4 := blk_cell KC 4
        by_cases hpe : pe = 0
        · subst hpe
          cases n1 with
          | false =>
            have hV := HBad.out 6 (by rw [HC.out]; rfl) (by decide)
            subst hV
            go_wp2_with fail
            refine (HN1.out _).mono ?_
            rintro e2 w2 ⟨rfl, hb2⟩
            have HF2 := below_step HF1.out.b hb2
            go_wp2
            go_ret
            exact ⟨rfl, HF2⟩
          | true =>
            cases n2 with
            | false =>
              have hV := HBad.out 6 (by rw [HC.out]; rfl) (by decide)
              subst hV
              go_wp2_with fail
              refine (HN1.out _).mono ?_
              rintro e2 w2 ⟨rfl, hb2⟩
              have HF2 := Aside0.mk (below_step HF1.out.b hb2)
              have y3' := pw_cell_below hb2 y3
              have y4' := pw_cell_below hb2 y4
              go_wp2_with fail
              refine (HN2.out _).mono ?_
              rintro e3 w3 ⟨rfl, hb3⟩
              have HF3 := below_step HF2.out hb3
              go_wp2
              go_ret
              exact ⟨rfl, HF3⟩
            | true =>
              go_wp2_with fail
              refine (HN1.out _).mono ?_
              rintro e2 w2 ⟨rfl, hb2⟩
              have HF2 := Aside0.mk (HF1.out.step hb2)
              have y3' := pw_cell_below hb2 y3
              have y4' := pw_cell_below hb2 y4
              go_wp2_with fail
              refine (HN2.out _).mono ?_
              rintro e3 w3 ⟨rfl, hb3⟩
              have HF3 := Aside0.mk (HF2.out.step hb3)
              go_wp2
              go_roundw
              case rel =>
                refine ⟨k + 1, by simp [hwr], by omega, by omega, HF3, ⟨fun j j0 j1 => ?_⟩⟩
                by_cases hj : j < k
                · exact HA.out j j0 hj
                · obtain rfl : j = k := by omega
                  rw [HC.out]; rfl
              case measure => simp [intOf, hwr]; omega
        · have hV := HBad.out pe (by rw [HC.out]; exact orE_ne _ hpe) hpe
          subst hV
          have FB := HF1.out.b
          go_wp2
          go_ret
          exact ⟨rfl, FB⟩
      · obtain rfl : k = r.f1.length := by omega
        replace HV := Aside0.mk (orE_next HV.out (firstE_rd0 HA.out))
        clear HA
        by_cases z4 : (16 : Int) < r.f2.length
        · have HV2 := orE_pos HV.out (show (if 16 < r.f2.length then (10 : Int) else 0) = 10 from if_pos (by omega)) (by decide)
          subst HV2
          clear HV
          have FB := HF.out.b
          go_wp2
          go_ret
          exact ⟨rfl, FB⟩
        · replace HV := Aside0.mk (orE_next HV.out (show (if 16 < r.f2.length then (10 : Int) else 0) = 0 from if_neg (by omega)))
          go_wp2
          clear s0 s1 s2 s3 r0 r1 r2 r3 lt1 lt0 hk b0 b1
          go_loopw [63] (fun cv w' => ∃ k : Int, cv = .int .i64 k ∧ 0 ≤ k ∧ k ≤ r.f2.length ∧ Aside0 (RungF w i q m e r A1 c1 A2 c2 w') ∧ Aside0 (∀ j : Int, 0 ≤ j → j < k → coilE i q m (PPrinterMatchesReference.rd_T52 r.f2 j) = 0)) (fun cv _ => r.f2.length - (intOf cv).toNat)
          case atStart => exact ⟨0, rfl, by omega, by omega, HF, ⟨fun j h1 h2 => by omega⟩⟩
          case round =>
            clear HF
            rename_i wr2 _
            obtain ⟨k, rfl, b0, b1, HF, HA⟩ := hrel
            obtain ⟨s0, s1, s2, s3, r0, r1, r2, r3, lt1, lt0⟩ := HF.out.cells
            by_cases hk : k < r.f2.length
            · obtain ⟨ad, rfl, x0, x1, x2⟩ := PPrinterMatchesReference.at_T52 G2.out k b0 hk
              replace x0 := pw_cell_below HF.out.b x0
              replace x1 := pw_cell_below HF.out.b x1
              replace x2 := pw_cell_below HF.out.b x2
              have hwr : wrap64 (k + 1) = k + 1 := w64 (by omega) (by omega)
              have hce : coilE i q m (PPrinterMatchesReference.rd_T52 r.f2 k) = orE (partE i q m (PPrinterMatchesReference.rd_T52 r.f2 k).f0 (PPrinterMatchesReference.rd_T52 r.f2 k).f1.f0 (PPrinterMatchesReference.rd_T52 r.f2 k).f1.f1) (if (PPrinterMatchesReference.rd_T52 r.f2 k).f1.f0 = 0 then 2 else 0) := rfl
              have P := part_b i q m e (PPrinterMatchesReference.rd_T52 r.f2 k).f0 (PPrinterMatchesReference.rd_T52 r.f2 k).f1.f0 (PPrinterMatchesReference.rd_T52 r.f2 k).f1.f1
              generalize hpe : partE i q m (PPrinterMatchesReference.rd_T52 r.f2 k).f0 (PPrinterMatchesReference.rd_T52 r.f2 k).f1.f0 (PPrinterMatchesReference.rd_T52 r.f2 k).f1.f1 = pe at P hce
              clear hpe
              have bad : ∀ v : Int, coilE i q m (PPrinterMatchesReference.rd_T52 r.f2 k) = v → v ≠ 0 → V = v := fun v hv hne => orE_pos HV.out ((firstE_rd b0 hk HA.out (by rw [show coilE i q m (r.f2.getD k.toNat _) = v from hv]; exact hne)).trans hv) hne
              have HBad := Aside0.mk bad
              have HC := Aside0.mk hce
              have HP := Aside0.mk P
              clear bad hce P
              go_wp2_with fail
              refine (HP.out _).mono ?_
              rintro e1 w1 ⟨rfl, hb⟩
              have KC := blk_below (blk_new _ _) hb
              have HF1 := Aside0.mk ((HF.out.alloc _).step hb)
              clear s0 s1 s2 s3 r0 r1 r2 r3 lt1 lt0 x0 x1 x2
              obtain ⟨s0, s1, s2, s3, r0, r1, r2, r3, lt1, lt0⟩ := HF1.out.cells
              have y0 := blk_cell KC 0
              have y1 := blk_cell KC 1
              have y2 := blk_cell KC 2
              by_cases hpe : pe = 0
              · subst hpe
                by_cases hs : (PPrinterMatchesReference.rd_T52 r.f2 k).f1.f0 = 0
                · have hV := HBad.out 2 (by rw [HC.out, if_pos hs]; rfl) (by decide)
                  subst hV
                  have FB := HF1.out.b
                  go_wp2
                  go_ret
                  exact ⟨rfl, FB⟩
                · go_wp2
                  go_roundw
                  case rel =>
                    refine ⟨k + 1, by simp [hwr], by omega, by omega, HF1, ⟨fun j j0 j1 => ?_⟩⟩
                    by_cases hj : j < k
                    · exact HA.out j j0 hj
                    · obtain rfl : j = k := by omega
                      rw [HC.out, if_neg hs]; rfl
                  case measure => simp [intOf, hwr]; omega
              · have hV := HBad.out pe (by rw [HC.out]; exact orE_ne _ hpe) hpe
                subst hV
                have FB := HF1.out.b
                go_wp2
                go_ret
                exact ⟨rfl, FB⟩
            · obtain rfl : k = r.f2.length := by omega
              replace HV := Aside0.mk (orE_next HV.out (firstE_rd0 HA.out))
              have FB := HF.out.b
              have N1 := isName_b r.f3
              have hne : nameE r.f3 = if r.f3.toList.isEmpty then 0 else if isNm r.f3.data.toList then 0 else 6 := rfl
              rw [hne] at HV
              generalize isNm r.f3.data.toList = n1 at N1 HV
              have HN1 := Aside0.mk N1
              clear N1 hne
              by_cases j0 : r.f3.toList = []
              · have j1 : r.f3.toList.isEmpty = true := by rw [j0]; rfl
                have hV : V = 0 := by rw [← HV.out, j1]; rfl
                subst hV
                go_wp2
                go_ret
                exact ⟨rfl, FB⟩
              · have j1 : r.f3.toList.isEmpty = false := by simpa using j0
                have hV : V = if n1 then 0 else 6 := by rw [← HV.out, j1]; rfl
                clear HV
                cases n1 with
                | false =>
                  obtain rfl : V = 6 := hV
                  go_wp2_with fail
                  refine (HN1.out _).mono ?_
                  rintro e2 w2 ⟨rfl, hb2⟩
                  have HF2 := below_step FB hb2
                  go_wp2
                  go_ret
                  exact ⟨rfl, HF2⟩
                | true =>
                  obtain rfl : V = 0 := hV
                  go_wp2_with fail
                  refine (HN1.out _).mono ?_
                  rintro e2 w2 ⟨rfl, hb2⟩
                  have HF2 := below_step FB hb2
                  go_wp2
                  go_ret
                  exact ⟨rfl, HF2⟩

set_option maxRecDepth 100000 in
theorem rung_l (i q m e : Int) (A : Option Addr) (c : Nat) (l : List Rung) (r : Rung) (A1 : Option Addr) (c1 : Nat) (A2 : Option Addr) (c2 : Nat) (w : World)
    (hr : Kd.C kRung w A l.length l) (hc : l.length ≤ c) (h1 : Kd.C kCon w A1 r.f1.length r.f1) (hc1 : r.f1.length ≤ c1) (h2 : Kd.C kCoil w A2 r.f2.length r.f2) (hc2 : r.f2.length ≤ c2) (z : r.f0.toList.isEmpty = false) :
    Calls Tryd.prog 24 #[.agg #[.int .i64 i, .int .i64 q, .int .i64 m, .int .i64 e], .slice A l.length c, .agg #[.string r.f0, .slice A1 r.f1.length c1, .slice A2 r.f2.length c2, .string r.f3]] w (RetB w (.int .i64 (rungE i q m l r))) := by
  have z2 : ¬ r.f0.toList = [] := by simpa using z
  have N0 := isName_b r.f0
  have hle : labE l r.f0 = if isNm r.f0.data.toList then (if hasLab l r.f0 then 9 else 0) else 6 := by simp [labE, z]

  generalize hV : rungE i q m l r = V
  have HV := Aside0.mk hV
  clear hV
  have GR := Aside0.mk hr
  have G1 := Aside0.mk h1
  have G2 := Aside0.mk h2
  clear hr h1 h2
  have F0 := RungF.new w i q m e r A1 c1 A2 c2

  generalize isNm r.f0.data.toList = n0 at N0 hle
  have HL := Aside0.mk hle
  have HN0 := Aside0.mk N0
  clear hle N0
  obtain ⟨s0, s1, s2, s3, r0, r1, r2, r3, lt1, lt0⟩ := F0.cells
  have HF0 := Aside0.mk F0
  clear F0
  cases n0 with
  | false =>
    have hV := orE_pos (v := 6) HV.out (HL.out.trans rfl) (by decide)
    subst hV
    go_enter Tryd.func24, Tryd.ntmps24
    go_wp2_with fail
    refine (HN0.out _).mono ?_
    rintro e1 w1 ⟨rfl, hb⟩
    have FB := below_step HF0.out.b hb
    go_wp2
    go_ret
    exact ⟨rfl, FB⟩
  | true =>
    have HB0 := fun (W : World) (hW : Below w.heap.size w W) (h : W.cell? ⟨w.heap.size + 1, 0, none⟩ = some (.string r.f0)) => has_a A c l r.f0 (w.heap.size + 1) W (Kd.C_below GR.out hW) hc h
    generalize hasLab l r.f0 = hl at HB0 HL
    have HB1 := Aside0.mk HB0
    clear HB0
    cases hl with
    | true =>
      have hV := orE_pos (v := 9) HV.out (HL.out.trans rfl) (by decide)
      subst hV
      go_enter Tryd.func24, Tryd.ntmps24
      go_wp2_with fail
      refine (HN0.out _).mono ?_
      rintro e1 w1 ⟨rfl, hb⟩
      have F1 := HF0.out.step hb
      clear s0 s1 s2 s3 r0 r1 r2 r3 lt1 lt0
      obtain ⟨s0, s1, s2, s3, r0, r1, r2, r3, lt1, lt0⟩ := F1.cells
      have HF1 := Aside0.mk F1
      clear F1
      go_wp2_with fail
      refine (HB1.out _ HF1.out.b r0).mono ?_
      rintro e2 w2 ⟨rfl, hb2⟩
      have FB := below_step HF1.out.b hb2
      go_wp2
      go_ret
      exact ⟨rfl, FB⟩
    | false =>
      replace HV := Aside0.mk (orE_next HV.out (HL.out.trans rfl))
      clear HL
      go_enter Tryd.func24, Tryd.ntmps24
      go_wp2_with fail
      refine (HN0.out _).mono ?_
      rintro e1 w1 ⟨rfl, hb⟩
      have F1 := HF0.out.step hb
      clear s0 s1 s2 s3 r0 r1 r2 r3 lt1 lt0 HF0
      obtain ⟨s0, s1, s2, s3, r0, r1, r2, r3, lt1, lt0⟩ := F1.cells
      have HF1 := Aside0.mk F1
      clear F1
      go_wp2_with fail
      refine (HB1.out _ HF1.out.b r0).mono ?_
      rintro e2 w2 ⟨rfl, hb2⟩
      have F0 := HF1.out.step hb2
      clear s0 s1 s2 s3 r0 r1 r2 r3 lt1 lt0 HF1
      obtain ⟨s0, s1, s2, s3, r0, r1, r2, r3, lt1, lt0⟩ := F0.cells
      by_cases z3 : (256 : Int) < r.f1.length
      · have HV2 := orE_pos HV.out (show (if 256 < r.f1.length then (10 : Int) else 0) = 10 from if_pos (by omega)) (by decide)
        subst HV2
        clear HV
        have FB := F0.b
        go_wp2
        go_ret
        exact ⟨rfl, FB⟩
      · replace HV := Aside0.mk (orE_next HV.out (show (if 256 < r.f1.length then (10 : Int) else 0) = 0 from if_neg (by omega)))
        have HF := Aside0.mk F0
        go_wp2
        clear s0 s1 s2 s3 r0 r1 r2 r3 lt1 lt0
        go_loopw [32] (fun cv w' => ∃ k : Int, cv = .int .i64 k ∧ 0 ≤ k ∧ k ≤ r.f1.length ∧ Aside0 (RungF w i q m e r A1 c1 A2 c2 w') ∧ Aside0 (∀ j : Int, 0 ≤ j → j < k → conE i q m (PPrinterMatchesReference.rd_T49 r.f1 j) = 0)) (fun cv _ => r.f1.length - (intOf cv).toNat)
        case atStart => exact ⟨0, rfl, by omega, by omega, HF, ⟨fun j h1 h2 => by omega⟩⟩
        case round =>
          clear HF
          obtain ⟨k, rfl, b0, b1, HF, HA⟩ := hrel
          obtain ⟨s0, s1, s2, s3, r0, r1, r2, r3, lt1, lt0⟩ := HF.out.cells
          by_cases hk : k < r.f1.length
          · obtain ⟨ad, rfl, x0, x1, x2, x3, x4⟩ := PPrinterMatchesReference.at_T49 G1.out k b0 hk
            replace x0 := pw_cell_below HF.out.b x0
            replace x1 := pw_cell_below HF.out.b x1
            replace x2 := pw_cell_below HF.out.b x2
            replace x3 := pw_cell_below HF.out.b x3
            replace x4 := pw_cell_below HF.out.b x4
            have hwr : wrap64 (k + 1) = k + 1 := w64 (by omega) (by omega)
            have hce : conE i q m (PPrinterMatchesReference.rd_T49 r.f1 k) = orE (partE i q m (PPrinterMatchesReference.rd_T49 r.f1 k).f0 (PPrinterMatchesReference.rd_T49 r.f1 k).f1.f0 (PPrinterMatchesReference.rd_T49 r.f1 k).f1.f1) (if isNm (PPrinterMatchesReference.rd_T49 r.f1 k).f2.data.toList && isNm (PPrinterMatchesReference.rd_T49 r.f1 k).f3.data.toList then 0 else 6) := rfl
            have P := part_b i q m e (PPrinterMatchesReference.rd_T49 r.f1 k).f0 (PPrinterMatchesReference.rd_T49 r.f1 k).f1.f0 (PPrinterMatchesReference.rd_T49 r.f1 k).f1.f1
            have N1 := isName_b (PPrinterMatchesReference.rd_T49 r.f1 k).f2
            have N2 := isName_b (PPrinterMatchesReference.rd_T49 r.f1 k).f3
            generalize hpe : partE i q m (PPrinterMatchesReference.rd_T49 r.f1 k).f0 (PPrinterMatchesReference.rd_T49 r.f1 k).f1.f0 (PPrinterMatchesReference.rd_T49 r.f1 k).f1.f1 = pe at P hce
            generalize hn1 : isNm (PPrinterMatchesReference.rd_T49 r.f1 k).f2.data.toList = n1 at N1 hce
            generalize hn2 : isNm (PPrinterMatchesReference.rd_T49 r.f1 k).f3.data.toList = n2 at N2 hce
            clear hpe hn1 hn2
            have bad : ∀ v : Int, conE i q m (PPrinterMatchesReference.rd_T49 r.f1 k) = v → v ≠ 0 → V = v := fun v hv hne => orE_pos HV.out ((firstE_rd b0 hk HA.out (by rw [show conE i q m (r.f1.getD k.toNat _) = v from hv]; exact hne)).trans hv) hne
            have HBad := Aside0.mk bad
            have HC := Aside0.mk hce
            have HP := Aside0.mk P
            have HN1 := Aside0.mk N1
            have HN2 := Aside0.mk N2
            clear bad hce P N1 N2
            go_wp2_with fail
            refine (HP.out _).mono ?_
            rintro e1 w1 ⟨rfl, hb⟩
            have KC := blk_below (blk_new wr _) hb
            have HF1 := Aside0.mk ((HF.out.alloc _).step hb)
            clear s0 s1 s2 s3 r0 r1 r2 r3 lt1 lt0 x0 x1 x2 x3 x4
            obtain ⟨s0, s1, s2, s3, r0, r1, r2, r3, lt1, lt0⟩ := HF1.out.cells
            have y2 := blk_cell KC 2
            have y3 := blk_cell KC 3
            have y4 := blk_cell KC 4
            by_cases hpe : pe = 0
            · subst hpe
              cases n1 with
              | false =>
                have hV := HBad.out 6 (by rw [HC.out]; rfl) (by decide)
                subst hV
                go_wp2_with fail
                refine (HN1.out _).mono ?_
                rintro e2 w2 ⟨rfl, hb2⟩
                have HF2 := below_step HF1.out.b hb2
                go_wp2
                go_ret
                exact ⟨rfl, HF2⟩
              | true =>
                cases n2 with
                | false =>
                  have hV := HBad.out 6 (by rw [HC.out]; rfl) (by decide)
                  subst hV
                  go_wp2_with fail
                  refine (HN1.out _).mono ?_
                  rintro e2 w2 ⟨rfl, hb2⟩
                  have HF2 := Aside0.mk (below_step HF1.out.b hb2)
                  have y3' := pw_cell_below hb2 y3
                  have y4' := pw_cell_below hb2 y4
                  go_wp2_with fail
                  refine (HN2.out _).mono ?_
                  rintro e3 w3 ⟨rfl, hb3⟩
                  have HF3 := below_step HF2.out hb3
                  go_wp2
                  go_ret
                  exact ⟨rfl, HF3⟩
                | true =>
                  go_wp2_with fail
                  refine (HN1.out _).mono ?_
                  rintro e2 w2 ⟨rfl, hb2⟩
                  have HF2 := Aside0.mk (HF1.out.step hb2)
                  have y3' := pw_cell_below hb2 y3
                  have y4' := pw_cell_below hb2 y4
                  go_wp2_with fail
                  refine (HN2.out _).mono ?_
                  rintro e3 w3 ⟨rfl, hb3⟩
                  have HF3 := Aside0.mk (HF2.out.step hb3)
                  go_wp2
                  go_roundw
                  case rel =>
                    refine ⟨k + 1, by simp [hwr], by omega, by omega, HF3, ⟨fun j j0 j1 => ?_⟩⟩
                    by_cases hj : j < k
                    · exact HA.out j j0 hj
                    · obtain rfl : j = k := by omega
                      rw [HC.out]; rfl
                  case measure => simp [intOf, hwr]; omega
            · have hV := HBad.out pe (by rw [HC.out]; exact orE_ne _ hpe) hpe
              subst hV
              have FB := HF1.out.b
              go_wp2
              go_ret
              exact ⟨rfl, FB⟩
          · obtain rfl : k = r.f1.length := by omega
            replace HV := Aside0.mk (orE_next HV.out (firstE_rd0 HA.out))
            clear HA
            by_cases z4 : (16 : Int) < r.f2.length
            · have HV2 := orE_pos HV.out (show (if 16 < r.f2.length then (10 : Int) else 0) = 10 from if_pos (by omega)) (by decide)
              subst HV2
              clear HV
              have FB := HF.out.b
              go_wp2
              go_ret
              exact ⟨rfl, FB⟩
            · replace HV := Aside0.mk (orE_next HV.out (show (if 16 < r.f2.length then (10 : Int) else 0) = 0 from if_neg (by omega)))
              go_wp2
              clear s0 s1 s2 s3 r0 r1 r2 r3 lt1 lt0 hk b0 b1
              go_loopw [63] (fun cv w' => ∃ k : Int, cv = .int .i64 k ∧ 0 ≤ k ∧ k ≤ r.f2.length ∧ Aside0 (RungF w i q m e r A1 c1 A2 c2 w') ∧ Aside0 (∀ j : Int, 0 ≤ j → j < k → coilE i q m (PPrinterMatchesReference.rd_T52 r.f2 j) = 0)) (fun cv _ => r.f2.length - (intOf cv).toNat)
              case atStart => exact ⟨0, rfl, by omega, by omega, HF, ⟨fun j h1 h2 => by omega⟩⟩
              case round =>
                clear HF
                rename_i wr2 _
                obtain ⟨k, rfl, b0, b1, HF, HA⟩ := hrel
                obtain ⟨s0, s1, s2, s3, r0, r1, r2, r3, lt1, lt0⟩ := HF.out.cells
                by_cases hk : k < r.f2.length
                · obtain ⟨ad, rfl, x0, x1, x2⟩ := PPrinterMatchesReference.at_T52 G2.out k b0 hk
                  replace x0 := pw_cell_below HF.out.b x0
                  replace x1 := pw_cell_below HF.out.b x1
                  replace x2 := pw_cell_below HF.out.b x2
                  have hwr : wrap64 (k + 1) = k + 1 := w64 (by omega) (by omega)
                  have hce : coilE i q m (PPrinterMatchesReference.rd_T52 r.f2 k) = orE (partE i q m (PPrinterMatchesReference.rd_T52 r.f2 k).f0 (PPrinterMatchesReference.rd_T52 r.f2 k).f1.f0 (PPrinterMatchesReference.rd_T52 r.f2 k).f1.f1) (if (PPrinterMatchesReference.rd_T52 r.f2 k).f1.f0 = 0 then 2 else 0) := rfl
                  have P := part_b i q m e (PPrinterMatchesReference.rd_T52 r.f2 k).f0 (PPrinterMatchesReference.rd_T52 r.f2 k).f1.f0 (PPrinterMatchesReference.rd_T52 r.f2 k).f1.f1
                  generalize hpe : partE i q m (PPrinterMatchesReference.rd_T52 r.f2 k).f0 (PPrinterMatchesReference.rd_T52 r.f2 k).f1.f0 (PPrinterMatchesReference.rd_T52 r.f2 k).f1.f1 = pe at P hce
                  clear hpe
                  have bad : ∀ v : Int, coilE i q m (PPrinterMatchesReference.rd_T52 r.f2 k) = v → v ≠ 0 → V = v := fun v hv hne => orE_pos HV.out ((firstE_rd b0 hk HA.out (by rw [show coilE i q m (r.f2.getD k.toNat _) = v from hv]; exact hne)).trans hv) hne
                  have HBad := Aside0.mk bad
                  have HC := Aside0.mk hce
                  have HP := Aside0.mk P
                  clear bad hce P
                  go_wp2_with fail
                  refine (HP.out _).mono ?_
                  rintro e1 w1 ⟨rfl, hb⟩
                  have KC := blk_below (blk_new _ _) hb
                  have HF1 := Aside0.mk ((HF.out.alloc _).step hb)
                  clear s0 s1 s2 s3 r0 r1 r2 r3 lt1 lt0 x0 x1 x2
                  obtain ⟨s0, s1, s2, s3, r0, r1, r2, r3, lt1, lt0⟩ := HF1.out.cells
                  have y0 := blk_cell KC 0
                  have y1 := blk_cell KC 1
                  have y2 := blk_cell KC 2
                  by_cases hpe : pe = 0
                  · subst hpe
                    by_cases hs : (PPrinterMatchesReference.rd_T52 r.f2 k).f1.f0 = 0
                    · have hV := HBad.out 2 (by rw [HC.out, if_pos hs]; rfl) (by decide)
                      subst hV
                      have FB := HF1.out.b
                      go_wp2
                      go_ret
                      exact ⟨rfl, FB⟩
                    · go_wp2
                      go_roundw
                      case rel =>
                        refine ⟨k + 1, by simp [hwr], by omega, by omega, HF1, ⟨fun j j0 j1 => ?_⟩⟩
                        by_cases hj : j < k
                        · exact HA.out j j0 hj
                        · obtain rfl : j = k := by omega
                          rw [HC.out, if_neg hs]; rfl
                      case measure => simp [intOf, hwr]; omega
                  · have hV := HBad.out pe (by rw [HC.out]; exact orE_ne _ hpe) hpe
                    subst hV
                    have FB := HF1.out.b
                    go_wp2
                    go_ret
                    exact ⟨rfl, FB⟩
                · obtain rfl : k = r.f2.length := by omega
                  replace HV := Aside0.mk (orE_next HV.out (firstE_rd0 HA.out))
                  have FB := HF.out.b
                  have N1 := isName_b r.f3
                  have hne : nameE r.f3 = if r.f3.toList.isEmpty then 0 else if isNm r.f3.data.toList then 0 else 6 := rfl
                  rw [hne] at HV
                  generalize isNm r.f3.data.toList = n1 at N1 HV
                  have HN1 := Aside0.mk N1
                  clear N1 hne
                  by_cases j0 : r.f3.toList = []
                  · have j1 : r.f3.toList.isEmpty = true := by rw [j0]; rfl
                    have hV : V = 0 := by rw [← HV.out, j1]; rfl
                    subst hV
                    go_wp2
                    go_ret
                    exact ⟨rfl, FB⟩
                  · have j1 : r.f3.toList.isEmpty = false := by simpa using j0
                    have hV : V = if n1 then 0 else 6 := by rw [← HV.out, j1]; rfl
                    clear HV
                    cases n1 with
                    | false =>
                      obtain rfl : V = 6 := hV
                      go_wp2_with fail
                      refine (HN1.out _).mono ?_
                      rintro e2 w2 ⟨rfl, hb2⟩
                      have HF2 := below_step FB hb2
                      go_wp2
                      go_ret
                      exact ⟨rfl, HF2⟩
                    | true =>
                      obtain rfl : V = 0 := hV
                      go_wp2_with fail
                      refine (HN1.out _).mono ?_
                      rintro e2 w2 ⟨rfl, hb2⟩
                      have HF2 := below_step FB hb2
                      go_wp2
                      go_ret
                      exact ⟨rfl, HF2⟩

theorem rung_b (i q m e : Int) (A : Option Addr) (c : Nat) (l : List Rung) (r : Rung) (A1 : Option Addr) (c1 : Nat) (A2 : Option Addr) (c2 : Nat) (w : World)
    (hr : Kd.C kRung w A l.length l) (hc : l.length ≤ c) (h1 : Kd.C kCon w A1 r.f1.length r.f1) (hc1 : r.f1.length ≤ c1) (h2 : Kd.C kCoil w A2 r.f2.length r.f2) (hc2 : r.f2.length ≤ c2) :
    Calls Tryd.prog 24 #[.agg #[.int .i64 i, .int .i64 q, .int .i64 m, .int .i64 e], .slice A l.length c, .agg #[.string r.f0, .slice A1 r.f1.length c1, .slice A2 r.f2.length c2, .string r.f3]] w (RetB w (.int .i64 (rungE i q m l r))) := by
  cases z : r.f0.toList.isEmpty with
  | true => exact rung_e i q m e A c l r A1 c1 A2 c2 w hr hc h1 hc1 h2 hc2 z
  | false => exact rung_l i q m e A c l r A1 c1 A2 c2 w hr hc h1 hc1 h2 hc2 z
end Go.Proofs.YtolmkdhgnganaaaDoor.H
