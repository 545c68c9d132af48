/-
  The reference's Behind and rung answer what the program's plain functions answer.
-/
import Derived.Test.YtihjdjadmofefaaDoorRef2
set_option linter.unusedVariables false
set_option linter.unusedSimpArgs false
namespace Go.Proofs.YtihjdjadmofefaaDoor.H
open Go Go.RowKit Go.Proofs Go.Proofs.YtihjdjadmofefaaDoorW.PrintWords Go.Proofs.YtihjdjadmofefaaDoor.Sp
theorem orE_assoc (a b c : Int) : orE (orE a b) c = orE a (orE b c) := by
  unfold orE
  by_cases h : a = 0
  · simp [h]
  · simp [h]
theorem rd_drop {l : List Rung} {k j : Int} (h0 : 0 ≤ k) (hj : 0 ≤ j) : PPrinterMatchesReference.rd_T40 (l.drop k.toNat) j = PPrinterMatchesReference.rd_T40 l (k + j) := by
  unfold PPrinterMatchesReference.rd_T40
  rw [show (k + j).toNat = k.toNat + j.toNat by omega]
  simp [List.getD, List.getElem?_drop]
theorem rd_take {l : List Rung} {k j : Int} (hj : 0 ≤ j) (h : j < k) : PPrinterMatchesReference.rd_T40 (l.take k.toNat) j = PPrinterMatchesReference.rd_T40 l j := by
  unfold PPrinterMatchesReference.rd_T40
  simp only [List.getD, List.getElem?_take]
  rw [if_pos (by omega)]
theorem hasLab_drop_none {l : List Rung} {L : ByteArray} {n : Int} (h0 : 0 ≤ n) (h : ∀ k : Int, n ≤ k → k < l.length → seq (PPrinterMatchesReference.rd_T40 l k).f0 L = false) : hasLab (l.drop n.toNat) L = false := by
  refine hasLab_none fun j j0 j1 => ?_
  rw [List.length_drop] at j1
  rw [rd_drop h0 j0]
  exact h (n + j) (by omega) (by omega)
theorem hasLab_drop_some {l : List Rung} {L : ByteArray} {n k : Int} (h0 : 0 ≤ n) (h1 : n ≤ k) (hk : k < l.length) (h : seq (PPrinterMatchesReference.rd_T40 l k).f0 L = true) : hasLab (l.drop n.toNat) L = true := by
  refine hasLab_some (k := k - n) (by omega) (by rw [List.length_drop]; omega) ?_
  rw [rd_drop h0 (by omega), show n + (k - n) = k by omega]; exact h
theorem hasLab_take_none {l : List Rung} {L : ByteArray} {n : Int} (h0 : 0 ≤ n) (h : ∀ k : Int, 0 ≤ k → k < n → seq (PPrinterMatchesReference.rd_T40 l k).f0 L = false) : hasLab (l.take n.toNat) L = false := by
  refine hasLab_none fun j j0 j1 => ?_
  rw [List.length_take] at j1
  rw [rd_take j0 (by omega)]
  exact h j j0 (by omega)
theorem hasLab_take_some {l : List Rung} {L : ByteArray} {n k : Int} (h1 : 0 ≤ k) (hk : k < n) (hn : n ≤ l.length) (h : seq (PPrinterMatchesReference.rd_T40 l k).f0 L = true) : hasLab (l.take n.toNat) L = true := by
  refine hasLab_some (k := k) h1 (by rw [List.length_take]; omega) ?_
  rw [rd_take h1 hk]; exact h

set_option maxRecDepth 100000 in
theorem behind_b (i q m : Int) (A : Option Addr) (c : Nat) (l : List Rung) (k : Int) (L : ByteArray) (w : World) (hr : Kd.C kRung w A l.length l) (hc : l.length ≤ c) (k0 : 0 ≤ k) (k1 : k < l.length) :
    Calls Tryd.prog 32 #[.agg #[.int .i64 i, .int .i64 q, .int .i64 m, .slice A l.length c], .int .i64 k, .string L] w (RetB w (.bool (hasLab (l.drop (k + 1).toNat) L))) := by
  have hmax := Kd.C_max hr
  have GR := Aside0.mk hr
  clear hr
  generalize hV : hasLab (l.drop (k + 1).toNat) L = V
  have HV := Aside0.mk hV
  clear hV
  have hkr : wrap64 (k + 1) = k + 1 := w64 (by omega) (by omega)
  have FB0 : Aside0 (Below w.heap.size w (w.alloc (.cells #[.int .i64 i, .int .i64 q, .int .i64 m, .slice A l.length c] 24))) := ⟨below_alloc (Below.refl _ _) _⟩
  have K0 := Aside0.mk (blk_new w (.cells #[.int .i64 i, .int .i64 q, .int .i64 m, .slice A l.length c] 24))
  go_enter Tryd.func32, Tryd.ntmps32
  go_wp2
  go_loopw [7] (fun cv w' => ∃ j : Int, cv = .int .i64 j ∧ k + 1 ≤ j ∧ j ≤ l.length ∧ w' = w.alloc (.cells #[.int .i64 i, .int .i64 q, .int .i64 m, .slice A l.length c] 24) ∧ Aside0 (∀ x : Int, k + 1 ≤ x → x < j → seq (PPrinterMatchesReference.rd_T40 l x).f0 L = false)) (fun cv _ => l.length - (intOf cv).toNat)
  case atStart => exact ⟨k + 1, by simp [hkr], by omega, by omega, rfl, ⟨fun x h1 h2 => by omega⟩⟩
  case round =>
    obtain ⟨j, rfl, b0, b1, rfl, HA⟩ := hrel
    have l3 := blk_cell K0.out 3
    by_cases hj : j < l.length
    · have b00 : 0 ≤ j := by omega
      obtain ⟨ad, A1, c1, A2, c2, hAd, x0, x1, x2, x3, hl1, hi1, hl2, hi2⟩ := PPrinterMatchesReference.at_T40 GR.out j (by omega) hj
      subst hAd
      clear hl1 hi1 hl2 hi2 x1 x2 x3
      replace x0 := pw_cell_below FB0.out x0
      have hwr : wrap64 (j + 1) = j + 1 := w64 (by omega) (by omega)
      cases hs : ((PPrinterMatchesReference.rd_T40 l j).f0.toList == L.toList) with
      | true =>
        have hV : V = true := HV.out.symm.trans (hasLab_drop_some (by omega) b0 hj hs)
        subst hV
        go_wp2
        go_ret
        exact ⟨rfl, FB0.out⟩
      | false =>
        have HS := Aside0.mk hs
        go_wp2
        go_roundw
        case rel =>
          refine ⟨j + 1, by simp [hwr], by omega, by omega, by first | rfl | trivial, ⟨fun x h1 h2 => ?_⟩⟩
          by_cases hx : x < j
          · exact HA.out x h1 hx
          · obtain rfl : x = j := by omega
            exact HS.out
        case measure => simp [intOf, hwr]; omega
    · obtain rfl : j = l.length := by omega
      have hV : V = false := HV.out.symm.trans (hasLab_drop_none (by omega) HA.out)
      subst hV
      go_wp2
      go_ret
      exact ⟨rfl, FB0.out⟩

structure R9F (w : World) (cl cs cr : Array Value) (wr : World) : Prop where
  b : Below w.heap.size w wr
  kl : wr.heap[w.heap.size]? = some (.cells cl 24 (0, 0))
  ks : wr.heap[w.heap.size + 1]? = some (.cells cs 58 (0, 0))
  kr : wr.heap[w.heap.size + 1 + 1]? = some (.cells cr 40 (0, 0))
theorem R9F.step {w : World} {cl cs cr : Array Value} {wr w1 : World} (h : R9F w cl cs cr wr) (hb : Below wr.heap.size wr w1) : R9F w cl cs cr w1 := ⟨below_step h.b hb, blk_below h.kl hb, blk_below h.ks hb, blk_below h.kr hb⟩
theorem R9F.cells {w : World} {cl cs cr : Array Value} {wr : World} (h : R9F w cl cs cr wr) :
    wr.cell? ⟨w.heap.size, 0, none⟩ = cl[0]? ∧ wr.cell? ⟨w.heap.size, 1, none⟩ = cl[1]? ∧ wr.cell? ⟨w.heap.size, 2, none⟩ = cl[2]? ∧ wr.cell? ⟨w.heap.size, 3, none⟩ = cl[3]? ∧
    wr.cell? ⟨w.heap.size + 1, 0, none⟩ = cs[0]? ∧ wr.cell? ⟨w.heap.size + 1, 1, none⟩ = cs[1]? ∧ wr.cell? ⟨w.heap.size + 1, 2, none⟩ = cs[2]? ∧ wr.cell? ⟨w.heap.size + 1, 3, none⟩ = cs[3]? ∧
    wr.cell? ⟨w.heap.size + 1 + 1, 0, none⟩ = cr[0]? ∧ wr.cell? ⟨w.heap.size + 1 + 1, 1, none⟩ = cr[1]? ∧ wr.cell? ⟨w.heap.size + 1 + 1, 2, none⟩ = cr[2]? ∧ wr.cell? ⟨w.heap.size + 1 + 1, 3, none⟩ = cr[3]? :=
  ⟨blk_cell h.kl 0, blk_cell h.kl 1, blk_cell h.kl 2, blk_cell h.kl 3, blk_cell h.ks 0, blk_cell h.ks 1, blk_cell h.ks 2, blk_cell h.ks 3, blk_cell h.kr 0, blk_cell h.kr 1, blk_cell h.kr 2, blk_cell h.kr 3⟩
theorem R9F.new (w : World) (cl cs cr : Array Value) : R9F w cl cs cr (((w.alloc (.cells cl 24)).alloc (.cells cs 58)).alloc (.cells cr 40)) := by
  refine ⟨below_alloc (below_alloc (below_alloc (Below.refl _ _) _) _) _, blk_alloc (blk_alloc (blk_new _ _) _) _, ?_, ?_⟩
  · exact blk_alloc (by have := blk_new (w.alloc (.cells cl 24)) (.cells cs 58); simpa using this) _
  · have := blk_new ((w.alloc (.cells cl 24)).alloc (.cells cs 58)) (.cells cr 40); simpa using this

set_option maxHeartbeats 2000000 in
set_option maxRecDepth 100000 in
theorem rung9_e (i q m : Int) (A : Option Addr) (c : Nat) (l : List Rung) (k : Int) (w : World) (hr : Kd.C kRung w A l.length l) (hc : l.length ≤ c) (k0 : 0 ≤ k) (k1 : k < l.length) (z : (PPrinterMatchesReference.rd_T40 l k).f0.toList.isEmpty = true) :
    Calls Tryd.prog 31 #[.agg #[.int .i64 i, .int .i64 q, .int .i64 m, .slice A l.length c], .int .i64 k] w (RetB w (.int .i64 (rgAt i q m l k))) := by
  have hmax := Kd.C_max hr
  obtain ⟨ad, A1, c1, A2, c2, hAd, x0, x1, x2, x3, hl1, hi1, hl2, hi2⟩ := PPrinterMatchesReference.at_T40 hr k k0 k1
  subst hAd
  have hVr : rgAt i q m l k = orE (labE (l.take k.toNat) (PPrinterMatchesReference.rd_T40 l k).f0) (orE (orE (if 256 < (PPrinterMatchesReference.rd_T40 l k).f1.length then 10 else 0) (firstE (conE i q m) (PPrinterMatchesReference.rd_T40 l k).f1)) (orE (orE (if 16 < (PPrinterMatchesReference.rd_T40 l k).f2.length then 10 else 0) (firstE (coilE i q m) (PPrinterMatchesReference.rd_T40 l k).f2)) (nameE (PPrinterMatchesReference.rd_T40 l k).f3))) := by
    rw [orE_assoc, orE_assoc]; rfl
  generalize rgAt i q m l k = V at hVr
  have HV0 := Aside0.mk hVr.symm
  clear hVr
  have GR := Aside0.mk hr
  clear hr

  have HV := Aside0.mk (orE_next HV0.out (show labE (l.take k.toNat) (PPrinterMatchesReference.rd_T40 l k).f0 = 0 by simp [labE, z]))
  clear HV0
  have z2 : (PPrinterMatchesReference.rd_T40 l k).f0.toList = [] := by simpa using z

  generalize PPrinterMatchesReference.rd_T40 l k = r at *
  have G1 := Aside0.mk hi1
  have G2 := Aside0.mk hi2
  clear hi1 hi2
  have HF := Aside0.mk (R9F.new w #[.int .i64 i, .int .i64 q, .int .i64 m, .slice (some ad) l.length c] #[.int .i64 i, .int .i64 q, .int .i64 m, .int .i64 0] #[.string r.f0, .slice A1 r.f1.length c1, .slice A2 r.f2.length c2, .string r.f3])
  replace x0 := pw_cell_below (below_alloc (below_alloc (Below.refl w.heap.size w) (.cells #[.int .i64 i, .int .i64 q, .int .i64 m, .slice (some ad) l.length c] 24)) (.cells #[.int .i64 i, .int .i64 q, .int .i64 m, .int .i64 0] 58)) x0
  replace x1 := pw_cell_below (below_alloc (below_alloc (Below.refl w.heap.size w) (.cells #[.int .i64 i, .int .i64 q, .int .i64 m, .slice (some ad) l.length c] 24)) (.cells #[.int .i64 i, .int .i64 q, .int .i64 m, .int .i64 0] 58)) x1
  replace x2 := pw_cell_below (below_alloc (below_alloc (Below.refl w.heap.size w) (.cells #[.int .i64 i, .int .i64 q, .int .i64 m, .slice (some ad) l.length c] 24)) (.cells #[.int .i64 i, .int .i64 q, .int .i64 m, .int .i64 0] 58)) x2
  replace x3 := pw_cell_below (below_alloc (below_alloc (Below.refl w.heap.size w) (.cells #[.int .i64 i, .int .i64 q, .int .i64 m, .slice (some ad) l.length c] 24)) (.cells #[.int .i64 i, .int .i64 q, .int .i64 m, .int .i64 0] 58)) x3

  go_enter Tryd.func31, Tryd.ntmps31

  have HX := Aside0.mk (fun W (hW : Below w.heap.size w W) => cons9_b i q m 0 r A1 c1 A2 c2 W (Kd.C_below G1.out hW) hl1 (Kd.C_below G2.out hW) hl2)
  have HY := Aside0.mk (fun W (hW : Below w.heap.size w W) => coils9_b i q m 0 r A1 c1 A2 c2 W (Kd.C_below G1.out hW) hl1 (Kd.C_below G2.out hW) hl2)
  have HN := Aside0.mk (fun W => isName9_b r.f3 W)
  have hne : nameE r.f3 = if r.f3.toList.isEmpty then 0 else if isNm r.f3.data.toList then 0 else 6 := rfl
  generalize orE (if 256 < r.f1.length then 10 else 0) (firstE (conE i q m) r.f1) = ex at HX HV
  generalize orE (if 16 < r.f2.length then 10 else 0) (firstE (coilE i q m) r.f2) = ey at HY HV
  generalize isNm r.f3.data.toList = nj at HN hne
  generalize nameE r.f3 = ej at hne HV
  obtain ⟨l0, l1, l2, l3, s0, s1, s2, s3, r0, r1, r2, r3⟩ := HF.out.cells
  go_wp2_with fail
  refine (HX.out _ HF.out.b).mono ?_
  rintro ee w1 ⟨rfl, hb⟩
  have HF1 := Aside0.mk (HF.out.step hb)
  clear l0 l1 l2 l3 s0 s1 s2 s3 r0 r1 r2 r3
  obtain ⟨l0, l1, l2, l3, s0, s1, s2, s3, r0, r1, r2, r3⟩ := HF1.out.cells
  by_cases ex0 : ex = 0
  · subst ex0
    go_wp2_with fail
    refine (HY.out _ HF1.out.b).mono ?_
    rintro ee w2 ⟨rfl, hb2⟩
    have HF2 := Aside0.mk (HF1.out.step hb2)
    clear l0 l1 l2 l3 s0 s1 s2 s3 r0 r1 r2 r3
    obtain ⟨l0, l1, l2, l3, s0, s1, s2, s3, r0, r1, r2, r3⟩ := HF2.out.cells
    by_cases ey0 : ey = 0
    · subst ey0
      have hV : V = ej := HV.out.symm
      have FB := HF2.out.b
      by_cases j0 : r.f3.toList = []
      · have j1 : r.f3.toList.isEmpty = true := by rw [j0]; rfl
        obtain rfl : V = 0 := by rw [hV, hne, j1]; rfl
        clear hV hne HV
        go_wp2
        go_ret
        exact ⟨rfl, FB⟩
      · have j1 : r.f3.toList.isEmpty = false := by simpa using j0
        cases nj with
        | false =>
          obtain rfl : V = 6 := by rw [hV, hne, j1]; rfl
          clear hV hne HV
          go_wp2_with fail
          refine (HN.out _).mono ?_
          rintro ee w3 ⟨rfl, hb3⟩
          have FB3 := below_step FB hb3
          go_wp2
          go_ret
          exact ⟨rfl, FB3⟩
        | true =>
          obtain rfl : V = 0 := by rw [hV, hne, j1]; rfl
          clear hV hne HV
          go_wp2_with fail
          refine (HN.out _).mono ?_
          rintro ee w3 ⟨rfl, hb3⟩
          have FB3 := below_step FB hb3
          go_wp2
          go_ret
          exact ⟨rfl, FB3⟩
    · have hV : V = ey := HV.out.symm.trans (by rw [orE_zero]; exact orE_ne _ ey0)
      subst hV
      have FB := HF2.out.b
      clear HV hne
      go_wp2
      go_ret
      exact ⟨rfl, FB⟩
  · have hV : V = ex := HV.out.symm.trans (orE_ne _ ex0)
    subst hV
    have FB := HF1.out.b
    clear HV hne
    go_wp2
    go_ret
    exact ⟨rfl, FB⟩

set_option maxHeartbeats 2000000 in
set_option maxRecDepth 100000 in
theorem rung9_l (i q m : Int) (A : Option Addr) (c : Nat) (l : List Rung) (k : Int) (w : World) (hr : Kd.C kRung w A l.length l) (hc : l.length ≤ c) (k0 : 0 ≤ k) (k1 : k < l.length) (z : (PPrinterMatchesReference.rd_T40 l k).f0.toList.isEmpty = false) :
    Calls Tryd.prog 31 #[.agg #[.int .i64 i, .int .i64 q, .int .i64 m, .slice A l.length c], .int .i64 k] w (RetB w (.int .i64 (rgAt i q m l k))) := by
  have hmax := Kd.C_max hr
  obtain ⟨ad, A1, c1, A2, c2, hAd, x0, x1, x2, x3, hl1, hi1, hl2, hi2⟩ := PPrinterMatchesReference.at_T40 hr k k0 k1
  subst hAd
  have hVr : rgAt i q m l k = orE (labE (l.take k.toNat) (PPrinterMatchesReference.rd_T40 l k).f0) (orE (orE (if 256 < (PPrinterMatchesReference.rd_T40 l k).f1.length then 10 else 0) (firstE (conE i q m) (PPrinterMatchesReference.rd_T40 l k).f1)) (orE (orE (if 16 < (PPrinterMatchesReference.rd_T40 l k).f2.length then 10 else 0) (firstE (coilE i q m) (PPrinterMatchesReference.rd_T40 l k).f2)) (nameE (PPrinterMatchesReference.rd_T40 l k).f3))) := by
    rw [orE_assoc, orE_assoc]; rfl
  generalize rgAt i q m l k = V at hVr
  have HV0 := Aside0.mk hVr.symm
  clear hVr
  have GR := Aside0.mk hr
  clear hr

  have z2 : ¬ (PPrinterMatchesReference.rd_T40 l k).f0.toList = [] := by simpa using z
  have hle : labE (l.take k.toNat) (PPrinterMatchesReference.rd_T40 l k).f0 = if isNm (PPrinterMatchesReference.rd_T40 l k).f0.data.toList then (if hasLab (l.take k.toNat) (PPrinterMatchesReference.rd_T40 l k).f0 then 9 else 0) else 6 := by simp [labE, z]
  have HLs : Aside0 (∀ j : Int, 0 ≤ j → j < k → seq (PPrinterMatchesReference.rd_T40 l j).f0 (PPrinterMatchesReference.rd_T40 l k).f0 = true → hasLab (l.take k.toNat) (PPrinterMatchesReference.rd_T40 l k).f0 = true) := ⟨fun j j0 j1 h => hasLab_take_some j0 j1 (by omega) h⟩
  have HLn : Aside0 ((∀ j : Int, 0 ≤ j → j < k → seq (PPrinterMatchesReference.rd_T40 l j).f0 (PPrinterMatchesReference.rd_T40 l k).f0 = false) → hasLab (l.take k.toNat) (PPrinterMatchesReference.rd_T40 l k).f0 = false) := ⟨fun h => hasLab_take_none k0 h⟩

  generalize PPrinterMatchesReference.rd_T40 l k = r at *
  have G1 := Aside0.mk hi1
  have G2 := Aside0.mk hi2
  clear hi1 hi2
  have HF := Aside0.mk (R9F.new w #[.int .i64 i, .int .i64 q, .int .i64 m, .slice (some ad) l.length c] #[.int .i64 i, .int .i64 q, .int .i64 m, .int .i64 0] #[.string r.f0, .slice A1 r.f1.length c1, .slice A2 r.f2.length c2, .string r.f3])
  replace x0 := pw_cell_below (below_alloc (below_alloc (Below.refl w.heap.size w) (.cells #[.int .i64 i, .int .i64 q, .int .i64 m, .slice (some ad) l.length c] 24)) (.cells #[.int .i64 i, .int .i64 q, .int .i64 m, .int .i64 0] 58)) x0
  replace x1 := pw_cell_below (below_alloc (below_alloc (Below.refl w.heap.size w) (.cells #[.int .i64 i, .int .i64 q, .int .i64 m, .slice (some ad) l.length c] 24)) (.cells #[.int .i64 i, .int .i64 q, .int .i64 m, .int .i64 0] 58)) x1
  replace x2 := pw_cell_below (below_alloc (below_alloc (Below.refl w.heap.size w) (.cells #[.int .i64 i, .int .i64 q, .int .i64 m, .slice (some ad) l.length c] 24)) (.cells #[.int .i64 i, .int .i64 q, .int .i64 m, .int .i64 0] 58)) x2
  replace x3 := pw_cell_below (below_alloc (below_alloc (Below.refl w.heap.size w) (.cells #[.int .i64 i, .int .i64 q, .int .i64 m, .slice (some ad) l.length c] 24)) (.cells #[.int .i64 i, .int .i64 q, .int .i64 m, .int .i64 0] 58)) x3

  have N0 := isName9_b r.f0
  generalize isNm r.f0.data.toList = n0 at N0 hle
  have HN0 := Aside0.mk N0
  have HLe := Aside0.mk hle
  clear N0 hle
  obtain ⟨l0, l1, l2, l3, s0, s1, s2, s3, r0, r1, r2, r3⟩ := HF.out.cells
  cases n0 with
  | false =>
    have hV := orE_pos (v := 6) HV0.out (HLe.out.trans rfl) (by decide)
    subst hV
    go_enter Tryd.func31, Tryd.ntmps31
    go_wp2_with fail
    refine (HN0.out _).mono ?_
    rintro ee w1 ⟨rfl, hb⟩
    have FB := below_step HF.out.b hb
    go_wp2
    go_ret
    exact ⟨rfl, FB⟩
  | true =>
    go_enter Tryd.func31, Tryd.ntmps31
    go_wp2_with fail
    refine (HN0.out _).mono ?_
    rintro ee w1 ⟨rfl, hb⟩
    have HF1 := Aside0.mk (HF.out.step hb)
    clear l0 l1 l2 l3 s0 s1 s2 s3 r0 r1 r2 r3 HF
    obtain ⟨l0, l1, l2, l3, s0, s1, s2, s3, r0, r1, r2, r3⟩ := HF1.out.cells
    go_wp2
    clear l0 l1 l2 l3 s0 s1 s2 s3 r0 r1 r2 r3 x0 x1 x2 x3
    go_loopw [7] (fun cv w' => ∃ j : Int, cv = .int .i64 j ∧ 0 ≤ j ∧ j ≤ k ∧ Aside0 (R9F w #[.int .i64 i, .int .i64 q, .int .i64 m, .slice (some ad) l.length c] #[.int .i64 i, .int .i64 q, .int .i64 m, .int .i64 0] #[.string r.f0, .slice A1 r.f1.length c1, .slice A2 r.f2.length c2, .string r.f3] w') ∧ Aside0 (∀ x : Int, 0 ≤ x → x < j → seq (PPrinterMatchesReference.rd_T40 l x).f0 r.f0 = false)) (fun cv _ => k.toNat - (intOf cv).toNat)
    case atStart => exact ⟨0, rfl, by omega, by omega, HF1, ⟨fun x h1 h2 => by omega⟩⟩
    case round =>
      clear HF1
      obtain ⟨j, rfl, b0, b1, HF, HA⟩ := hrel
      obtain ⟨l0, l1, l2, l3, s0, s1, s2, s3, r0, r1, r2, r3⟩ := HF.out.cells
      by_cases hj : j < k
      · have hj2 : j < l.length := by omega
        obtain ⟨ad2, B1, d1, B2, d2, hAd, x0, x1, x2, x3, _, _, _, _⟩ := PPrinterMatchesReference.at_T40 GR.out j b0 hj2
        cases hAd
        clear x1 x2 x3
        replace x0 := pw_cell_below HF.out.b x0
        have hwr : wrap64 (j + 1) = j + 1 := w64 (by omega) (by omega)
        cases hs : ((PPrinterMatchesReference.rd_T40 l j).f0.toList == r.f0.toList) with
        | true =>
          have hV := orE_pos (v := 9) HV0.out (HLe.out.trans (by rw [HLs.out j b0 hj hs]; rfl)) (by decide)
          subst hV
          go_wp2
          go_quiet (fail)
          go_wp2
          go_ret
          exact ⟨rfl, pw_below_drewN HF.out.b _⟩
        | false =>
          have HS := Aside0.mk hs
          go_wp2
          go_quiet (fail)
          go_wp2
          go_roundw
          case rel =>
            refine ⟨j + 1, by simp [hwr], by omega, by omega, ⟨HF.out.step (pw_below_drewN (Below.refl _ _) _)⟩, ⟨fun x h1 h2 => ?_⟩⟩
            by_cases hx : x < j
            · exact HA.out x h1 hx
            · obtain rfl : x = j := by omega
              exact HS.out
          case measure => simp [intOf, hwr]; omega
      · obtain rfl : j = k := by omega
        have HV := Aside0.mk (orE_next HV0.out (HLe.out.trans (by rw [HLn.out HA.out]; rfl)))
        clear HV0 HLe HLs HLn HA l0 l1 l2 l3 s0 s1 s2 s3 r0 r1 r2 r3
        have HX := Aside0.mk (fun W (hW : Below w.heap.size w W) => cons9_b i q m 0 r A1 c1 A2 c2 W (Kd.C_below G1.out hW) hl1 (Kd.C_below G2.out hW) hl2)
        have HY := Aside0.mk (fun W (hW : Below w.heap.size w W) => coils9_b i q m 0 r A1 c1 A2 c2 W (Kd.C_below G1.out hW) hl1 (Kd.C_below G2.out hW) hl2)
        have HN := Aside0.mk (fun W => isName9_b r.f3 W)
        have hne : nameE r.f3 = if r.f3.toList.isEmpty then 0 else if isNm r.f3.data.toList then 0 else 6 := rfl
        generalize orE (if 256 < r.f1.length then 10 else 0) (firstE (conE i q m) r.f1) = ex at HX HV
        generalize orE (if 16 < r.f2.length then 10 else 0) (firstE (coilE i q m) r.f2) = ey at HY HV
        generalize isNm r.f3.data.toList = nj at HN hne
        generalize nameE r.f3 = ej at hne HV
        obtain ⟨l0, l1, l2, l3, s0, s1, s2, s3, r0, r1, r2, r3⟩ := HF.out.cells
        go_wp2_with fail
        refine (HX.out _ HF.out.b).mono ?_
        rintro ee w1 ⟨rfl, hb⟩
        have HF1 := Aside0.mk (HF.out.step hb)
        clear l0 l1 l2 l3 s0 s1 s2 s3 r0 r1 r2 r3
        obtain ⟨l0, l1, l2, l3, s0, s1, s2, s3, r0, r1, r2, r3⟩ := HF1.out.cells
        by_cases ex0 : ex = 0
        · subst ex0
          go_wp2_with fail
          refine (HY.out _ HF1.out.b).mono ?_
          rintro ee w2 ⟨rfl, hb2⟩
          have HF2 := Aside0.mk (HF1.out.step hb2)
          clear l0 l1 l2 l3 s0 s1 s2 s3 r0 r1 r2 r3
          obtain ⟨l0, l1, l2, l3, s0, s1, s2, s3, r0, r1, r2, r3⟩ := HF2.out.cells
          by_cases ey0 : ey = 0
          · subst ey0
            have hV : V = ej := HV.out.symm
            have FB := HF2.out.b
            by_cases j0 : r.f3.toList = []
            · have j1 : r.f3.toList.isEmpty = true := by rw [j0]; rfl
              obtain rfl : V = 0 := by rw [hV, hne, j1]; rfl
              clear hV hne HV
              go_wp2
              go_ret
              exact ⟨rfl, FB⟩
            · have j1 : r.f3.toList.isEmpty = false := by simpa using j0
              cases nj with
              | false =>
                obtain rfl : V = 6 := by rw [hV, hne, j1]; rfl
                clear hV hne HV
                go_wp2_with fail
                refine (HN.out _).mono ?_
                rintro ee w3 ⟨rfl, hb3⟩
                have FB3 := below_step FB hb3
                go_wp2
                go_ret
                exact ⟨rfl, FB3⟩
              | true =>
                obtain rfl : V = 0 := by rw [hV, hne, j1]; rfl
                clear hV hne HV
                go_wp2_with fail
                refine (HN.out _).mono ?_
                rintro ee w3 ⟨rfl, hb3⟩
                have FB3 := below_step FB hb3
                go_wp2
                go_ret
                exact ⟨rfl, FB3⟩
          · have hV : V = ey := HV.out.symm.trans (by rw [orE_zero]; exact orE_ne _ ey0)
            subst hV
            have FB := HF2.out.b
            clear HV hne
            go_wp2
            go_ret
            exact ⟨rfl, FB⟩
        · have hV : V = ex := HV.out.symm.trans (orE_ne _ ex0)
          subst hV
          have FB := HF1.out.b
          clear HV hne
          go_wp2
          go_ret
          exact ⟨rfl, FB⟩

theorem rung9_b (i q m : Int) (A : Option Addr) (c : Nat) (l : List Rung) (k : Int) (w : World) (hr : Kd.C kRung w A l.length l) (hc : l.length ≤ c) (k0 : 0 ≤ k) (k1 : k < l.length) :
    Calls Tryd.prog 31 #[.agg #[.int .i64 i, .int .i64 q, .int .i64 m, .slice A l.length c], .int .i64 k] w (RetB w (.int .i64 (rgAt i q m l k))) := by
  cases z : (PPrinterMatchesReference.rd_T40 l k).f0.toList.isEmpty with
  | true => exact rung9_e i q m A c l k w hr hc k0 k1 z
  | false => exact rung9_l i q m A c l k w hr hc k0 k1 z
end Go.Proofs.YtihjdjadmofefaaDoor.H
