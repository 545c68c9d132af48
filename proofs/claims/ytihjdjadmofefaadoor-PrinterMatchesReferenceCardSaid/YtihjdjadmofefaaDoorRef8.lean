/-
  The reference's EdgeCount.
-/
import Derived.Test.YtihjdjadmofefaaDoorRef7
set_option linter.unusedVariables false
set_option linter.unusedSimpArgs false
namespace Go.Proofs.YtihjdjadmofefaaDoor.H
open Go Go.RowKit Go.Proofs Go.Proofs.YtihjdjadmofefaaDoorW.PrintWords Go.Proofs.YtihjdjadmofefaaDoor.Sp

set_option maxHeartbeats 1000000 in
set_option maxRecDepth 100000 in
theorem edge9_b (i q m : Int) (A : Option Addr) (c : Nat) (l : List Rung) (w : World) (hr : Kd.C kRung w A l.length l) (hc : l.length ≤ c) :
    Calls Tryd.prog 16 #[.agg #[.int .i64 i, .int .i64 q, .int .i64 m, .slice A l.length c]] w (RetB w (.int .i64 (edgeN l))) := by
  have hmax := Kd.C_max hr
  have GR := Aside0.mk hr
  clear hr
  have F0 : Aside0 (TwoF w w.heap.size #[.int .i64 i, .int .i64 q, .int .i64 m, .slice A l.length c] 24 (w.alloc (.cells #[.int .i64 i, .int .i64 q, .int .i64 m, .slice A l.length c] 24))) :=
    ⟨⟨below_alloc (Below.refl _ _) _, blk_new _ _⟩⟩
  go_enter Tryd.func16, Tryd.ntmps16
  go_wp2
  go_loopw [3, 4] (fun v3 cv w' => ∃ (n k : Int), v3 = .int .i64 n ∧ cv = .int .i64 k ∧ 0 ≤ k ∧ k ≤ l.length ∧ Aside0 (TwoF w w.heap.size #[.int .i64 i, .int .i64 q, .int .i64 m, .slice A l.length c] 24 w') ∧ Aside0 (n = (l.take k.toNat).foldl (fun n r => r.f1.foldl edgeStep n) 0)) (fun _ cv _ => l.length - (intOf cv).toNat)
  case atStart => exact ⟨0, 0, rfl, rfl, by omega, by omega, F0, ⟨rfl⟩⟩
  case round =>
    clear F0
    obtain ⟨n, k, rfl, rfl, b0, b1, HF, HN⟩ := hrel
    have l3 := blk_cell HF.out.k1 3
    by_cases hk : k < l.length
    · obtain ⟨ad, A1, c1, A2, c2, hAd, x0, x1, x2, x3, hl1, hi1, hl2, hi2⟩ := PPrinterMatchesReference.at_T40 GR.out k b0 hk
      subst hAd
      have x1w := x1
      replace x0 := pw_cell_below HF.out.b x0
      replace x1 := pw_cell_below HF.out.b x1
      replace x2 := pw_cell_below HF.out.b x2
      replace x3 := pw_cell_below HF.out.b x3
      have hwr : wrap64 (k + 1) = k + 1 := w64 (by omega) (by omega)
      have HU := Aside0.mk (foldl_up (fun n (r : Rung) => r.f1.foldl edgeStep n) l PPrinterMatchesReference.z40 0 b0 hk)
      have e0 : l.getD k.toNat PPrinterMatchesReference.z40 = PPrinterMatchesReference.rd_T40 l k := rfl
      rw [e0, ← HN.out] at HU
      clear e0 HN
      generalize PPrinterMatchesReference.rd_T40 l k = r at *
      have hm1 := Kd.C_max hi1
      have G1 := Aside0.mk hi1
      clear hi1 hi2 hl1 hl2
      have HF1 := HF
      have HX1 := Aside0.mk x1w
      go_wp2
      clear x0 x1 x2 x3 HF l3 x1w
      go_loopw [3, 5] (fun v3 cv w' => ∃ (n2 j : Int), v3 = .int .i64 n2 ∧ cv = .int .i64 j ∧ 0 ≤ j ∧ j ≤ r.f1.length ∧ Aside0 (TwoF w w.heap.size #[.int .i64 i, .int .i64 q, .int .i64 m, .slice (some ad) l.length c] 24 w') ∧ Aside0 (n2 = (r.f1.take j.toNat).foldl edgeStep n)) (fun _ cv _ => r.f1.length - (intOf cv).toNat)
      case atStart => exact ⟨_, 0, rfl, rfl, by omega, by omega, HF1, ⟨rfl⟩⟩
      case round =>
        clear HF1
        obtain ⟨n2, j, rfl, rfl, j0, j1, HF, HN⟩ := hrel
        have l3 := blk_cell HF.out.k1 3
        have y1 := pw_cell_below HF.out.b HX1.out
        by_cases hj : j < r.f1.length
        · obtain ⟨ad1, hAd, x0, x1, x2, x3, x4⟩ := PPrinterMatchesReference.at_T50 G1.out j j0 hj
          subst hAd
          replace x0 := pw_cell_below HF.out.b x0
          replace x1 := pw_cell_below HF.out.b x1
          replace x2 := pw_cell_below HF.out.b x2
          replace x3 := pw_cell_below HF.out.b x3
          replace x4 := pw_cell_below HF.out.b x4
          have hjr : wrap64 (j + 1) = j + 1 := w64 (by omega) (by omega)
          have hs := foldl_up edgeStep r.f1 PPrinterMatchesReference.z50 n j0 hj
          have e0 : r.f1.getD j.toNat PPrinterMatchesReference.z50 = PPrinterMatchesReference.rd_T50 r.f1 j := rfl
          rw [e0, ← HN.out] at hs
          clear e0 HN
          generalize PPrinterMatchesReference.rd_T50 r.f1 j = cn at *
          by_cases e2 : cn.f0 = 2
          · have HS := Aside0.mk (show wrap64 (n2 + 1) = (r.f1.take (j + 1).toNat).foldl edgeStep n by rw [hs, edgeStep, if_pos (.inl e2)])
            clear hs
            go_wp2
            go_roundw
            case rel => exact ⟨_, j + 1, rfl, by simp [hjr], by omega, by omega, HF, HS⟩
            case measure => simp [intOf, hjr]; omega
          · by_cases e3 : cn.f0 = 3
            · have HS := Aside0.mk (show wrap64 (n2 + 1) = (r.f1.take (j + 1).toNat).foldl edgeStep n by rw [hs, edgeStep, if_pos (.inr e3)])
              clear hs
              go_wp2
              go_roundw
              case rel => exact ⟨_, j + 1, rfl, by simp [hjr], by omega, by omega, HF, HS⟩
              case measure => simp [intOf, hjr]; omega
            · have HS := Aside0.mk (show n2 = (r.f1.take (j + 1).toNat).foldl edgeStep n by rw [hs, edgeStep, if_neg (by omega)])
              have q2 : (cn.f0 == 2) = false := by simpa using e2
              have q3 : (cn.f0 == 3) = false := by simpa using e3
              clear hs
              go_wp2
              go_roundw
              case rel => exact ⟨_, j + 1, rfl, by simp [hjr], by omega, by omega, HF, HS⟩
              case measure => simp [intOf, hjr]; omega
        · obtain rfl : j = r.f1.length := by omega
          have HS := Aside0.mk (show n2 = (l.take (k + 1).toNat).foldl (fun n (r : Rung) => r.f1.foldl edgeStep n) 0 by rw [HU.out, HN.out, Int.toNat_natCast, List.take_length])
          go_wp2
          go_roundw
          case rel => exact ⟨_, k + 1, rfl, by simp [hwr], by omega, by omega, HF, HS⟩
          case measure => simp [intOf, hwr]; omega
    · obtain rfl : k = l.length := by omega
      have FB := HF.out.b
      obtain rfl : n = edgeN l := by rw [HN.out, Int.toNat_natCast, List.take_length]; rfl
      go_wp2
      go_ret
      exact ⟨rfl, FB⟩
end Go.Proofs.YtihjdjadmofefaaDoor.H
