/-
  The reference's Check answers what printer.Check's plain function answers.
-/
import Derived.Test.YtihjdjadmofefaaDoorRef3
import Derived.Test.YtihjdjadmofefaaDoorSmall
set_option linter.unusedVariables false
set_option linter.unusedSimpArgs false
namespace Go.Proofs.YtihjdjadmofefaaDoor.H
open Go Go.RowKit Go.Proofs Go.Proofs.YtihjdjadmofefaaDoorW.PrintWords Go.Proofs.YtihjdjadmofefaaDoor.Sp

theorem sz_bad {i q m : Int} (h : i < 0 ∨ 256 < i ∨ q < 0 ∨ 256 < q ∨ m < 0 ∨ 256 < m) : chkSize i q m 0 ≠ 0 := by
  unfold chkSize
  rw [if_neg (by omega)]
  decide
theorem sz_good {i q m : Int} (h : ¬ (i < 0 ∨ 256 < i ∨ q < 0 ∨ 256 < q ∨ m < 0 ∨ 256 < m)) : chkSize i q m 0 = 0 := by
  unfold chkSize
  rw [if_pos (by omega)]
abbrev LadB (w : World) (i q m : Int) (A : Option Addr) (n c : Nat) (wr : World) : Prop := TwoF w w.heap.size #[.int .i64 i, .int .i64 q, .int .i64 m, .slice A n c] 24 wr

set_option maxHeartbeats 2000000 in
set_option maxRecDepth 100000 in
theorem ladChk9_ok (i q m : Int) (A : Option Addr) (c : Nat) (l : List Rung) (w : World) (hr : Kd.C kRung w A l.length l) (hc : l.length ≤ c) (g1 : ¬ i < 0) (g2 : ¬ 256 < i) (g3 : ¬ q < 0) (g4 : ¬ 256 < q) (g5 : ¬ m < 0) (g6 : ¬ 256 < m) :
    Calls Tryd.prog 12 #[.agg #[.int .i64 i, .int .i64 q, .int .i64 m, .slice A l.length c]] w (RetB w (.tuple #[.int .i64 (ladChk i q m l).1, .int .i64 (ladChk i q m l).2])) := by
  generalize hV : ladChk i q m l = V
  have HV := Aside0.mk hV
  clear hV
  have HS := Aside0.mk (sz_good (i := i) (q := q) (m := m) (by omega))
  have hmax := Kd.C_max hr
  have GR := Aside0.mk hr
  clear hr
  have F0 : Aside0 (LadB w i q m A l.length c (w.alloc (.cells #[.int .i64 i, .int .i64 q, .int .i64 m, .slice A l.length c] 24))) := ⟨⟨below_alloc (Below.refl _ _) _, blk_new _ _⟩⟩
  by_cases h64 : (64 : Int) < l.length
  · have hV := HV.out.symm.trans (ladChk_many HS.out (by omega))
    subst hV
    have FB := F0.out.b
    go_enter Tryd.func12, Tryd.ntmps12
    go_wp2
    go_ret2
    exact ⟨rfl, FB⟩
  · go_enter Tryd.func12, Tryd.ntmps12
    go_wp2
    clear g1 g2 g3 g4 g5 g6
    go_loopw [4] (fun cv w' => ∃ k : Int, cv = .int .i64 k ∧ 0 ≤ k ∧ k ≤ l.length ∧ Aside0 (LadB w i q m A l.length c w') ∧ Aside0 (∀ j : Int, 0 ≤ j → j < k → rgAt i q m l j = 0)) (fun cv _ => l.length - (intOf cv).toNat)
    case atStart => exact ⟨0, rfl, by omega, by omega, F0, ⟨fun j h1 h2 => by omega⟩⟩
    case round =>
      clear F0
      obtain ⟨k, rfl, b0, b1, HF, HA⟩ := hrel
      have l0 := blk_cell HF.out.k1 0
      have l1 := blk_cell HF.out.k1 1
      have l2 := blk_cell HF.out.k1 2
      have l3 := blk_cell HF.out.k1 3
      by_cases hk : k < l.length
      · have hwr : wrap64 (k + 1) = k + 1 := w64 (by omega) (by omega)
        have C1 := rung9_b i q m A c l k wr (Kd.C_below GR.out HF.out.b) hc b0 hk
        generalize hre : rgAt i q m l k = re at C1
        have HE := Aside0.mk hre
        have HC1 := Aside0.mk C1
        clear hre C1
        go_wp2_with fail
        refine HC1.out.mono ?_
        rintro e1 w3 ⟨rfl, hb⟩
        have HF3 := Aside0.mk (HF.out.below hb)
        by_cases hre : re = 0
        · subst hre
          go_wp2
          go_roundw
          case rel =>
            refine ⟨k + 1, by simp [hwr], by omega, by omega, HF3, ⟨fun j j0 j1 => ?_⟩⟩
            by_cases hj : j < k
            · exact HA.out j j0 hj
            · obtain rfl : j = k := by omega
              exact HE.out
          case measure => simp [intOf, hwr]; omega
        · have hV := HV.out.symm.trans (ladChk_rung HS.out (by omega) b0 hk HA.out HE.out hre)
          subst hV
          have FB := HF3.out.b
          go_wp2
          go_ret2
          exact ⟨rfl, FB⟩
      · obtain rfl : k = l.length := by omega
        have HZ := HA
        go_wp2
        clear HA l0 l1 l2 l3 hk b0 b1
        go_loopw [6] (fun cv w' => ∃ k : Int, cv = .int .i64 k ∧ 0 ≤ k ∧ k ≤ l.length ∧ Aside0 (LadB w i q m A l.length c w') ∧ Aside0 (∀ j : Int, 0 ≤ j → j < k → jbAt l j = false)) (fun cv _ => l.length - (intOf cv).toNat)
        case atStart => exact ⟨0, rfl, by omega, by omega, HF, ⟨fun j h1 h2 => by omega⟩⟩
        case round =>
          clear HF
          obtain ⟨k, rfl, b0, b1, HF, HA⟩ := hrel
          have l0 := blk_cell HF.out.k1 0
          have l1 := blk_cell HF.out.k1 1
          have l2 := blk_cell HF.out.k1 2
          have l3 := blk_cell HF.out.k1 3
          by_cases hk : k < l.length
          · obtain ⟨ad, A1, c1, A2, c2, hAd, x0, x1, x2, x3, hl1, hi1, hl2, hi2⟩ := PPrinterMatchesReference.at_T40 GR.out k b0 hk
            subst hAd
            clear hl1 hi1 hl2 hi2 x0 x1 x2
            replace x3 := pw_cell_below HF.out.b x3
            have hwr : wrap64 (k + 1) = k + 1 := w64 (by omega) (by omega)
            have hjb : jbAt l k = (!(PPrinterMatchesReference.rd_T40 l k).f3.toList.isEmpty && !hasLab (l.drop (k + 1).toNat) (PPrinterMatchesReference.rd_T40 l k).f3) := rfl
            have HBh := Aside0.mk (fun W (hW : Below w.heap.size w W) => behind_b i q m (some ad) c l k (PPrinterMatchesReference.rd_T40 l k).f3 W (Kd.C_below GR.out hW) hc b0 hk)
            generalize hasLab (l.drop (k + 1).toNat) (PPrinterMatchesReference.rd_T40 l k).f3 = hl at hjb HBh
            generalize (PPrinterMatchesReference.rd_T40 l k).f3 = nm at *
            have HJ := Aside0.mk hjb
            clear hjb
            by_cases j0 : nm.toList = []
            · have j1 : nm.toList.isEmpty = true := by rw [j0]; rfl
              have HJ2 := Aside0.mk (show jbAt l k = false by rw [HJ.out, j1]; rfl)
              clear HJ HBh
              go_wp2
              go_quiet (fail)
              go_wp2
              go_roundw
              case rel =>
                refine ⟨k + 1, by simp [hwr], by omega, by omega, ⟨HF.out.below (pw_below_drewN (Below.refl _ _) _)⟩, ⟨fun j j0 j1 => ?_⟩⟩
                by_cases hj : j < k
                · exact HA.out j j0 hj
                · obtain rfl : j = k := by omega
                  exact HJ2.out
              case measure => simp [intOf, hwr]; omega
            · have j1 : nm.toList.isEmpty = false := by simpa using j0
              have HFd : Aside0 (LadB w i q m (some ad) l.length c wr.drew) := ⟨HF.out.below (below_drew (Below.refl _ _))⟩
              go_wp2
              go_region_held3 (fun w' => w'.cell? ⟨w.heap.size, 0, none⟩ = some (.int .i64 i) ∧ w'.cell? ⟨w.heap.size, 1, none⟩ = some (.int .i64 q) ∧ w'.cell? ⟨w.heap.size, 2, none⟩ = some (.int .i64 m) ∧ w'.cell? ⟨w.heap.size, 3, none⟩ = some (.slice (some ad) l.length c) ∧ w'.cell? ⟨(ad.add (k.toNat * 4)).block, (ad.add (k.toNat * 4)).off + 3, none⟩ = some (.string nm))
                (first | go_keep | (refine ⟨pw_cell_below hb ?_, pw_cell_below hb ?_, pw_cell_below hb ?_, pw_cell_below hb ?_, pw_cell_below hb ?_⟩ <;> go_keep))
                (first | (go_at_call 32; (with_reducible refine (HBh.out _ HFd.out.b).mono ?_); rintro e_ w1 ⟨rfl, hb⟩))
              have HF3 := Aside0.mk (HFd.out.below hb)
              cases hl with
              | true =>
                have HJ2 := Aside0.mk (show jbAt l k = false by rw [HJ.out, j1]; rfl)
                go_wp2
                go_roundw
                case rel =>
                  refine ⟨k + 1, by simp [hwr], by omega, by omega, HF3, ⟨fun j j0 j1 => ?_⟩⟩
                  by_cases hj : j < k
                  · exact HA.out j j0 hj
                  · obtain rfl : j = k := by omega
                    exact HJ2.out
                case measure => simp [intOf, hwr]; omega
              | false =>
                have hV := HV.out.symm.trans (ladChk_jump HS.out (by omega) HZ.out b0 hk HA.out (by rw [HJ.out, j1]; rfl))
                subst hV
                have FB := HF3.out.b
                go_wp2
                go_ret2
                exact ⟨rfl, FB⟩
          · obtain rfl : k = l.length := by omega
            have hV := HV.out.symm.trans (ladChk_ok HS.out (by omega) HZ.out HA.out)
            subst hV
            have FB := HF.out.b
            go_wp2
            go_ret2
            exact ⟨rfl, FB⟩

set_option maxHeartbeats 1000000 in
set_option maxRecDepth 100000 in
theorem ladChk9_b (i q m : Int) (A : Option Addr) (c : Nat) (l : List Rung) (w : World) (hr : Kd.C kRung w A l.length l) (hc : l.length ≤ c) :
    Calls Tryd.prog 12 #[.agg #[.int .i64 i, .int .i64 q, .int .i64 m, .slice A l.length c]] w (RetB w (.tuple #[.int .i64 (ladChk i q m l).1, .int .i64 (ladChk i q m l).2])) := by
  by_cases hg : i < 0 ∨ 256 < i ∨ q < 0 ∨ 256 < q ∨ m < 0 ∨ 256 < m
  · rw [ladChk_size (sz_bad hg)]
    clear hr hc
    have FB := below_alloc (Below.refl w.heap.size w) (.cells #[.int .i64 i, .int .i64 q, .int .i64 m, .slice A l.length c] 24)
    by_cases g1 : i < 0
    · clear hg
      go_enter Tryd.func12, Tryd.ntmps12
      go_wp2
      go_ret2
      exact ⟨rfl, FB⟩
    · by_cases g2 : 256 < i
      · clear hg
        go_enter Tryd.func12, Tryd.ntmps12
        go_wp2
        go_ret2
        exact ⟨rfl, FB⟩
      · by_cases g3 : q < 0
        · clear hg
          go_enter Tryd.func12, Tryd.ntmps12
          go_wp2
          go_ret2
          exact ⟨rfl, FB⟩
        · by_cases g4 : 256 < q
          · clear hg
            go_enter Tryd.func12, Tryd.ntmps12
            go_wp2
            go_ret2
            exact ⟨rfl, FB⟩
          · by_cases g5 : m < 0
            · clear hg
              go_enter Tryd.func12, Tryd.ntmps12
              go_wp2
              go_ret2
              exact ⟨rfl, FB⟩
            · have g6 : 256 < m := by omega
              clear hg
              go_enter Tryd.func12, Tryd.ntmps12
              go_wp2
              go_ret2
              exact ⟨rfl, FB⟩
  · exact ladChk9_ok i q m A c l w hr hc (by omega) (by omega) (by omega) (by omega) (by omega) (by omega)
end Go.Proofs.YtihjdjadmofefaaDoor.H
