/-
  printer.Equal: it answers what its plain function answers; nothing that was there is changed.
-/
import Derived.Test.YtolmkdhgnganaaaDoorChk3
import Derived.Test.YtolmkdhgnganaaaDoorWEqStruct
set_option linter.unusedVariables false
set_option linter.unusedSimpArgs false
namespace Go.Proofs.YtolmkdhgnganaaaDoor.H
open Go Go.RowKit Go.Proofs Go.Proofs.YtolmkdhgnganaaaDoorW.PrintWords Go.Proofs.YtolmkdhgnganaaaDoor.Sp

def conEq (a b : Con) : Bool := a.f0 == b.f0 && ((a.f1.f0 == b.f1.f0 && (a.f1.f1 == b.f1.f1)) && (seq a.f2 b.f2 && (seq a.f3 b.f3)))
def coilEq (a b : Coil) : Bool := a.f0 == b.f0 && (a.f1.f0 == b.f1.f0 && (a.f1.f1 == b.f1.f1))
def eqL {α : Type} (e : α → α → Bool) (xs ys : List α) : Bool := decide (xs.length = ys.length) && (xs.zip ys).all fun p => e p.1 p.2
theorem eqL_len {α : Type} {e : α → α → Bool} {xs ys : List α} (h : xs.length ≠ ys.length) : eqL e xs ys = false := by simp [eqL, h]
theorem zip_at {α : Type} {xs ys : List α} {j : Nat} (h1 : j < xs.length) (h2 : j < ys.length) : (xs[j], ys[j]) ∈ xs.zip ys := by
  rw [List.mem_iff_getElem]
  exact ⟨j, by simp; omega, by simp⟩
theorem eqL_at {α : Type} {e : α → α → Bool} {xs ys : List α} {z : α} {k : Int} (h0 : 0 ≤ k) (h1 : k < xs.length) (hl : xs.length = ys.length) (h : e (xs.getD k.toNat z) (ys.getD k.toNat z) = false) : eqL e xs ys = false := by
  have n1 : k.toNat < xs.length := by omega
  have n2 : k.toNat < ys.length := by omega
  have e1 : xs.getD k.toNat z = xs[k.toNat] := by simp [List.getD, n1]
  have e2 : ys.getD k.toNat z = ys[k.toNat] := by simp [List.getD, n2]
  rw [e1, e2] at h
  unfold eqL
  rw [Bool.and_eq_false_iff]
  right
  rw [List.all_eq_false]
  exact ⟨_, zip_at n1 n2, by rw [h]; simp⟩
theorem eqL_all {α : Type} {e : α → α → Bool} {xs ys : List α} {z : α} (hl : xs.length = ys.length) (h : ∀ k : Int, 0 ≤ k → k < xs.length → e (xs.getD k.toNat z) (ys.getD k.toNat z) = true) : eqL e xs ys = true := by
  unfold eqL
  rw [Bool.and_eq_true]
  refine ⟨decide_eq_true hl, List.all_eq_true.2 fun p hp => ?_⟩
  obtain ⟨j, hj, rfl⟩ := List.getElem_of_mem hp
  rw [List.length_zip] at hj
  have n1 : j < xs.length := by omega
  have n2 : j < ys.length := by omega
  have := h (j : Int) (by omega) (by omega)
  rw [Int.toNat_natCast] at this
  have e1 : xs.getD j z = xs[j] := by simp [List.getD, n1]
  have e2 : ys.getD j z = ys[j] := by simp [List.getD, n2]
  rw [e1, e2] at this
  simpa using this
def rungEq (a b : Rung) : Bool := ((seq a.f0 b.f0 && seq a.f3 b.f3) && eqL conEq a.f1 b.f1) && eqL coilEq a.f2 b.f2

theorem eqAd (d : Nat) (w : World) (x0 y0 : Int) (x1 y1 : Int) :
    (Op.equalIn (d + 2) 47 (.agg #[.int .i64 x0, .int .i64 x1]) (.agg #[.int .i64 y0, .int .i64 y1])).run Tryd.prog w = .ok (x0 == y0 && (x1 == y1)) w := by
  refine eqA_of Tryd.underlying47 (by kernel_rfl) ?_
  refine eqf_cons (by rfl) (by go_simp; rfl) (by go_simp; rfl) (by go_simp) ?_
  exact eqf_last (by rfl) (by go_simp; rfl) (by go_simp; rfl) (by go_simp)
theorem eqCon (d : Nat) (w : World) (a b : Con) :
    (Op.equalIn (d + 3) 49 (.agg #[.int .i64 a.f0, .int .i64 a.f1.f0, .int .i64 a.f1.f1, .string a.f2, .string a.f3]) (.agg #[.int .i64 b.f0, .int .i64 b.f1.f0, .int .i64 b.f1.f1, .string b.f2, .string b.f3])).run Tryd.prog w = .ok (conEq a b) w := by
  unfold conEq seq
  refine eqA_of Tryd.underlying49 (by kernel_rfl) ?_
  refine eqf_cons (by rfl) (by go_simp; rfl) (by go_simp; rfl) (by go_simp) ?_
  refine eqf_cons (by rfl) (by go_simp) (by go_simp) (eqAd (d + 0) w _ _ _ _) ?_
  refine eqf_cons (by rfl) (by go_simp; rfl) (by go_simp; rfl) (by go_simp) ?_
  exact eqf_last (by rfl) (by go_simp; rfl) (by go_simp; rfl) (by go_simp)
theorem eqCoil (d : Nat) (w : World) (a b : Coil) :
    (Op.equalIn (d + 3) 52 (.agg #[.int .i64 a.f0, .int .i64 a.f1.f0, .int .i64 a.f1.f1]) (.agg #[.int .i64 b.f0, .int .i64 b.f1.f0, .int .i64 b.f1.f1])).run Tryd.prog w = .ok (coilEq a b) w := by
  unfold coilEq
  refine eqA_of Tryd.underlying52 (by kernel_rfl) ?_
  refine eqf_cons (by rfl) (by go_simp; rfl) (by go_simp; rfl) (by go_simp) ?_
  exact eqf_last (by rfl) (by go_simp) (by go_simp) (eqAd (d + 0) w _ _ _ _)
/-- Sizes. -/
def szEq (i q m i2 q2 m2 : Int) : Bool := i == i2 && (q == q2 && (m == m2 && true))
theorem eqSz (d : Nat) (w : World) (i q m i2 q2 m2 : Int) :
    (Op.equalIn (d + 2) 66 (.agg #[.int .i64 i, .int .i64 q, .int .i64 m, .int .i64 0]) (.agg #[.int .i64 i2, .int .i64 q2, .int .i64 m2, .int .i64 0])).run Tryd.prog w = .ok (szEq i q m i2 q2 m2) w := by
  unfold szEq
  refine eqA_of Tryd.underlying66 (by kernel_rfl) ?_
  refine eqf_cons (by rfl) (by go_simp; rfl) (by go_simp; rfl) (by go_simp) ?_
  refine eqf_cons (by rfl) (by go_simp; rfl) (by go_simp; rfl) (by go_simp) ?_
  refine eqf_cons (by rfl) (by go_simp; rfl) (by go_simp; rfl) (by go_simp) ?_
  exact eqf_last (by rfl) (by go_simp; rfl) (by go_simp; rfl) (by go_simp)
attribute [local go_sem high] eqCon eqCoil eqSz

set_option maxRecDepth 100000 in
theorem eqCons_b (A1 : Option Addr) (c1 : Nat) (xs : List Con) (A2 : Option Addr) (c2 : Nat) (ys : List Con) (w : World) (h1 : Kd.C kCon w A1 xs.length xs) (h2 : Kd.C kCon w A2 ys.length ys) (hc1 : xs.length ≤ c1) (hc2 : ys.length ≤ c2) :
    Calls Tryd.prog 42 #[.slice A1 xs.length c1, .slice A2 ys.length c2] w (RetB w (.bool (eqL conEq xs ys))) := by
  have hm := Kd.C_max h1
  have G1 := Aside0.mk h1
  have G2 := Aside0.mk h2
  clear h1 h2
  generalize hV : eqL conEq xs ys = V
  have HV := Aside0.mk hV
  clear hV
  by_cases hl : xs.length = ys.length
  · have hl2 : ((xs.length : Int) = (ys.length : Int)) := by omega
    go_enter Tryd.func42, Tryd.ntmps42
    go_wp2
    go_loopw [13] (fun cv w' => ∃ k : Int, cv = .int .i64 k ∧ 0 ≤ k ∧ k ≤ xs.length ∧ Aside0 (Below w.heap.size w w') ∧ Aside0 (∀ j : Int, 0 ≤ j → j < k → conEq (PPrinterMatchesReference.rd_T49 xs j) (PPrinterMatchesReference.rd_T49 ys j) = true)) (fun cv _ => xs.length - (intOf cv).toNat)
    case atStart => exact ⟨0, rfl, by omega, by omega, ⟨Below.refl _ _⟩, ⟨fun j h1 h2 => by omega⟩⟩
    case round =>
      obtain ⟨k, rfl, b0, b1, HB, HA⟩ := hrel
      by_cases hk : k < xs.length
      · have hk2 : k < ys.length := by omega
        obtain ⟨ad, e1, x0, x1, x2, x3, x4⟩ := PPrinterMatchesReference.at_T49 G1.out k b0 hk
        obtain ⟨ad2, e2, y0, y1, y2, y3, y4⟩ := PPrinterMatchesReference.at_T49 G2.out k b0 hk2
        subst e1
        subst e2
        replace x0 := pw_cell_below HB.out x0
        replace x1 := pw_cell_below HB.out x1
        replace x2 := pw_cell_below HB.out x2
        replace x3 := pw_cell_below HB.out x3
        replace x4 := pw_cell_below HB.out x4
        replace y0 := pw_cell_below HB.out y0
        replace y1 := pw_cell_below HB.out y1
        replace y2 := pw_cell_below HB.out y2
        replace y3 := pw_cell_below HB.out y3
        replace y4 := pw_cell_below HB.out y4
        have hwr : wrap64 (k + 1) = k + 1 := w64 (by omega) (by omega)
        have hfa : conEq (PPrinterMatchesReference.rd_T49 xs k) (PPrinterMatchesReference.rd_T49 ys k) = false → V = false := fun hq => HV.out.symm.trans (eqL_at b0 hk hl hq)
        have htr : conEq (PPrinterMatchesReference.rd_T49 xs k) (PPrinterMatchesReference.rd_T49 ys k) = true → ∀ j : Int, 0 ≤ j → j < k + 1 → conEq (PPrinterMatchesReference.rd_T49 xs j) (PPrinterMatchesReference.rd_T49 ys j) = true := by
          intro hq j j0 j1
          by_cases hj : j < k
          · exact HA.out j j0 hj
          · obtain rfl : j = k := by omega
            exact hq
        have HFa := Aside0.mk hfa
        have HTr := Aside0.mk htr
        clear hfa htr
        generalize PPrinterMatchesReference.rd_T49 xs k = x at *
        generalize PPrinterMatchesReference.rd_T49 ys k = y at *
        cases hq : conEq x y with
        | false =>
          have hV := HFa.out hq
          subst hV
          go_wp2
          go_quiet (fail)
          go_wp2
          go_ret
          exact ⟨rfl, pw_below_drewN HB.out _⟩
        | true =>
          have HT := Aside0.mk (HTr.out hq)
          go_wp2
          go_quiet (fail)
          go_wp2
          go_roundw
          case rel => exact ⟨k + 1, by simp [hwr], by omega, by omega, ⟨pw_below_drewN HB.out _⟩, HT⟩
          case measure => simp [intOf, hwr]; omega
      · obtain rfl : k = xs.length := by omega
        have hV := HV.out.symm.trans (eqL_all hl HA.out)
        subst hV
        have FB := HB.out
        go_wp2
        go_ret
        exact ⟨rfl, FB⟩
  · have hl2 : ¬ ((xs.length : Int) = (ys.length : Int)) := by omega
    have hV := HV.out.symm.trans (eqL_len hl)
    subst hV
    go_enter Tryd.func42, Tryd.ntmps42
    go_wp2
    go_ret
    exact ⟨rfl, Below.refl _ _⟩

set_option maxRecDepth 100000 in
theorem eqCoils_b (A1 : Option Addr) (c1 : Nat) (xs : List Coil) (A2 : Option Addr) (c2 : Nat) (ys : List Coil) (w : World) (h1 : Kd.C kCoil w A1 xs.length xs) (h2 : Kd.C kCoil w A2 ys.length ys) (hc1 : xs.length ≤ c1) (hc2 : ys.length ≤ c2) :
    Calls Tryd.prog 43 #[.slice A1 xs.length c1, .slice A2 ys.length c2] w (RetB w (.bool (eqL coilEq xs ys))) := by
  have hm := Kd.C_max h1
  have G1 := Aside0.mk h1
  have G2 := Aside0.mk h2
  clear h1 h2
  generalize hV : eqL coilEq xs ys = V
  have HV := Aside0.mk hV
  clear hV
  by_cases hl : xs.length = ys.length
  · have hl2 : ((xs.length : Int) = (ys.length : Int)) := by omega
    go_enter Tryd.func43, Tryd.ntmps43
    go_wp2
    go_loopw [13] (fun cv w' => ∃ k : Int, cv = .int .i64 k ∧ 0 ≤ k ∧ k ≤ xs.length ∧ Aside0 (Below w.heap.size w w') ∧ Aside0 (∀ j : Int, 0 ≤ j → j < k → coilEq (PPrinterMatchesReference.rd_T52 xs j) (PPrinterMatchesReference.rd_T52 ys j) = true)) (fun cv _ => xs.length - (intOf cv).toNat)
    case atStart => exact ⟨0, rfl, by omega, by omega, ⟨Below.refl _ _⟩, ⟨fun j h1 h2 => by omega⟩⟩
    case round =>
      obtain ⟨k, rfl, b0, b1, HB, HA⟩ := hrel
      by_cases hk : k < xs.length
      · have hk2 : k < ys.length := by omega
        obtain ⟨ad, e1, x0, x1, x2⟩ := PPrinterMatchesReference.at_T52 G1.out k b0 hk
        obtain ⟨ad2, e2, y0, y1, y2⟩ := PPrinterMatchesReference.at_T52 G2.out k b0 hk2
        subst e1
        subst e2
        replace x0 := pw_cell_below HB.out x0
        replace x1 := pw_cell_below HB.out x1
        replace x2 := pw_cell_below HB.out x2
        replace y0 := pw_cell_below HB.out y0
        replace y1 := pw_cell_below HB.out y1
        replace y2 := pw_cell_below HB.out y2
        have hwr : wrap64 (k + 1) = k + 1 := w64 (by omega) (by omega)
        have hfa : coilEq (PPrinterMatchesReference.rd_T52 xs k) (PPrinterMatchesReference.rd_T52 ys k) = false → V = false := fun hq => HV.out.symm.trans (eqL_at b0 hk hl hq)
        have htr : coilEq (PPrinterMatchesReference.rd_T52 xs k) (PPrinterMatchesReference.rd_T52 ys k) = true → ∀ j : Int, 0 ≤ j → j < k + 1 → coilEq (PPrinterMatchesReference.rd_T52 xs j) (PPrinterMatchesReference.rd_T52 ys j) = true := by
          intro hq j j0 j1
          by_cases hj : j < k
          · exact HA.out j j0 hj
          · obtain rfl : j = k := by omega
            exact hq
        have HFa := Aside0.mk hfa
        have HTr := Aside0.mk htr
        clear hfa htr
        generalize PPrinterMatchesReference.rd_T52 xs k = x at *
        generalize PPrinterMatchesReference.rd_T52 ys k = y at *
        cases hq : coilEq x y with
        | false =>
          have hV := HFa.out hq
          subst hV
          go_wp2
          go_quiet (fail)
          go_wp2
          go_ret
          exact ⟨rfl, pw_below_drewN HB.out _⟩
        | true =>
          have HT := Aside0.mk (HTr.out hq)
          go_wp2
          go_quiet (fail)
          go_wp2
          go_roundw
          case rel => exact ⟨k + 1, by simp [hwr], by omega, by omega, ⟨pw_below_drewN HB.out _⟩, HT⟩
          case measure => simp [intOf, hwr]; omega
      · obtain rfl : k = xs.length := by omega
        have hV := HV.out.symm.trans (eqL_all hl HA.out)
        subst hV
        have FB := HB.out
        go_wp2
        go_ret
        exact ⟨rfl, FB⟩
  · have hl2 : ¬ ((xs.length : Int) = (ys.length : Int)) := by omega
    have hV := HV.out.symm.trans (eqL_len hl)
    subst hV
    go_enter Tryd.func43, Tryd.ntmps43
    go_wp2
    go_ret
    exact ⟨rfl, Below.refl _ _⟩

set_option maxRecDepth 100000 in
theorem clo_e (x y : Rung) (A1 : Option Addr) (c1 : Nat) (A2 : Option Addr) (c2 : Nat) (B1 : Option Addr) (d1 : Nat) (B2 : Option Addr) (d2 : Nat) (w : World) (h1 : Kd.C kCon w A1 x.f1.length x.f1) (hc1 : x.f1.length ≤ c1) (h2 : Kd.C kCoil w A2 x.f2.length x.f2) (hc2 : x.f2.length ≤ c2)
    (k1 : Kd.C kCon w B1 y.f1.length y.f1) (hd1 : y.f1.length ≤ d1) (k2 : Kd.C kCoil w B2 y.f2.length y.f2) (hd2 : y.f2.length ≤ d2) :
    Calls Tryd.prog 41 #[.agg #[.string x.f0, .slice A1 x.f1.length c1, .slice A2 x.f2.length c2, .string x.f3], .agg #[.string y.f0, .slice B1 y.f1.length d1, .slice B2 y.f2.length d2, .string y.f3]] w (RetB w (.bool (rungEq x y))) := by
  have H1 := Aside0.mk (fun W (hW : Below w.heap.size w W) => eqCons_b A1 c1 x.f1 B1 d1 y.f1 W (Kd.C_below h1 hW) (Kd.C_below k1 hW) hc1 hd1)
  have H2 := Aside0.mk (fun W (hW : Below w.heap.size w W) => eqCoils_b A2 c2 x.f2 B2 d2 y.f2 W (Kd.C_below h2 hW) (Kd.C_below k2 hW) hc2 hd2)
  clear h1 h2 k1 k2
  have hv : rungEq x y = (((x.f0.toList == y.f0.toList) && (x.f3.toList == y.f3.toList)) && eqL conEq x.f1 y.f1 && eqL coilEq x.f2 y.f2) := rfl
  generalize rungEq x y = V at hv
  generalize eqL conEq x.f1 y.f1 = v1 at hv H1
  generalize eqL coilEq x.f2 y.f2 = v2 at hv H2
  have HV := Aside0.mk hv
  clear hv
  have F0 := Aside0.mk (below_alloc (below_alloc (Below.refl w.heap.size w) (.cells #[.string x.f0, .slice A1 x.f1.length c1, .slice A2 x.f2.length c2, .string x.f3] 40)) (.cells #[.string y.f0, .slice B1 y.f1.length d1, .slice B2 y.f2.length d2, .string y.f3] 40))
  have KX := Aside0.mk (blk_alloc (blk_new w (.cells #[.string x.f0, .slice A1 x.f1.length c1, .slice A2 x.f2.length c2, .string x.f3] 40)) (.cells #[.string y.f0, .slice B1 y.f1.length d1, .slice B2 y.f2.length d2, .string y.f3] 40))
  have KY : Aside0 (((w.alloc (.cells #[.string x.f0, .slice A1 x.f1.length c1, .slice A2 x.f2.length c2, .string x.f3] 40)).alloc (.cells #[.string y.f0, .slice B1 y.f1.length d1, .slice B2 y.f2.length d2, .string y.f3] 40)).heap[w.heap.size + 1]? = some (.cells #[.string y.f0, .slice B1 y.f1.length d1, .slice B2 y.f2.length d2, .string y.f3] 40 (0, 0))) :=
    ⟨by have := blk_new (w.alloc (.cells #[.string x.f0, .slice A1 x.f1.length c1, .slice A2 x.f2.length c2, .string x.f3] 40)) (.cells #[.string y.f0, .slice B1 y.f1.length d1, .slice B2 y.f2.length d2, .string y.f3] 40); simpa using this⟩
  cases q0 : (x.f0.toList == y.f0.toList) with
  | false =>
    obtain rfl : V = false := by rw [HV.out, q0]; rfl
    go_enter Tryd.func41, Tryd.ntmps41
    go_wp2
    go_ret
    exact ⟨rfl, F0.out⟩
  | true =>
    cases q3 : (x.f3.toList == y.f3.toList) with
    | false =>
      obtain rfl : V = false := by rw [HV.out, q0, q3]; rfl
      go_enter Tryd.func41, Tryd.ntmps41
      go_wp2
      go_ret
      exact ⟨rfl, F0.out⟩
    | true =>
      cases v1 with
      | false =>
        obtain rfl : V = false := by rw [HV.out, q0, q3]; rfl
        go_enter Tryd.func41, Tryd.ntmps41
        go_wp2_with fail
        refine (H1.out _ F0.out).mono ?_
        rintro e w1 ⟨rfl, hb⟩
        have FB := below_step F0.out hb
        go_wp2
        go_ret
        exact ⟨rfl, FB⟩
      | true =>
        obtain rfl : V = v2 := by rw [HV.out, q0, q3]; rfl
        go_enter Tryd.func41, Tryd.ntmps41
        go_wp2_with fail
        refine (H1.out _ F0.out).mono ?_
        rintro e w1 ⟨rfl, hb⟩
        have F1 := Aside0.mk (below_step F0.out hb)
        have x2 := blk_cell (blk_below KX.out hb) 2
        have y2 := blk_cell (blk_below KY.out hb) 2
        go_wp2_with fail
        refine (H2.out _ F1.out).mono ?_
        rintro e w2 ⟨rfl, hb2⟩
        have FB := below_step F1.out hb2
        go_wp2
        go_ret
        exact ⟨rfl, FB⟩

set_option maxRecDepth 100000 in
theorem eqRungs_b (A : Option Addr) (c : Nat) (xs : List Rung) (B : Option Addr) (d : Nat) (ys : List Rung) (w : World) (h1 : Kd.C kRung w A xs.length xs) (h2 : Kd.C kRung w B ys.length ys) (hc1 : xs.length ≤ c) (hc2 : ys.length ≤ d) :
    Calls Tryd.prog 40 #[.slice A xs.length c, .slice B ys.length d, .func (.func 41) #[] #[]] w (RetB w (.bool (eqL rungEq xs ys))) := by
  have hm := Kd.C_max h1
  have G1 := Aside0.mk h1
  have G2 := Aside0.mk h2
  clear h1 h2
  generalize hV : eqL rungEq xs ys = V
  have HV := Aside0.mk hV
  clear hV
  by_cases hl : xs.length = ys.length
  · have hl2 : ((xs.length : Int) = (ys.length : Int)) := by omega
    have HLn := Aside0.mk hl
    clear hl
    go_enter Tryd.func40, Tryd.ntmps40
    go_wp2
    go_loopw [17] (fun cv w' => ∃ k : Int, cv = .int .i64 k ∧ 0 ≤ k ∧ k ≤ xs.length ∧ Aside0 (Below w.heap.size w w') ∧ Aside0 (∀ j : Int, 0 ≤ j → j < k → rungEq (PPrinterMatchesReference.rd_T40 xs j) (PPrinterMatchesReference.rd_T40 ys j) = true)) (fun cv _ => xs.length - (intOf cv).toNat)
    case atStart => exact ⟨0, rfl, by omega, by omega, ⟨Below.refl _ _⟩, ⟨fun j h1 h2 => by omega⟩⟩
    case round =>
      obtain ⟨k, rfl, b0, b1, HB, HA⟩ := hrel
      by_cases hk : k < xs.length
      · have hk2 : k < ys.length := by omega
        obtain ⟨ad, A1, c1, A2, c2, e1, x0, x1, x2, x3, l1, i1, l2, i2⟩ := PPrinterMatchesReference.at_T40 G1.out k b0 hk
        obtain ⟨ad2, B1, d1, B2, d2, e2, y0, y1, y2, y3, m1, j1, m2, j2⟩ := PPrinterMatchesReference.at_T40 G2.out k b0 hk2
        subst e1
        subst e2
        replace x0 := pw_cell_below HB.out x0
        replace x1 := pw_cell_below HB.out x1
        replace x2 := pw_cell_below HB.out x2
        replace x3 := pw_cell_below HB.out x3
        replace y0 := pw_cell_below HB.out y0
        replace y1 := pw_cell_below HB.out y1
        replace y2 := pw_cell_below HB.out y2
        replace y3 := pw_cell_below HB.out y3
        have hwr : wrap64 (k + 1) = k + 1 := w64 (by omega) (by omega)
        have hfa : rungEq (PPrinterMatchesReference.rd_T40 xs k) (PPrinterMatchesReference.rd_T40 ys k) = false → V = false := fun hq => HV.out.symm.trans (eqL_at b0 hk HLn.out hq)
        have htr : rungEq (PPrinterMatchesReference.rd_T40 xs k) (PPrinterMatchesReference.rd_T40 ys k) = true → ∀ j : Int, 0 ≤ j → j < k + 1 → rungEq (PPrinterMatchesReference.rd_T40 xs j) (PPrinterMatchesReference.rd_T40 ys j) = true := by
          intro hq j j0 j1
          by_cases hj : j < k
          · exact HA.out j j0 hj
          · obtain rfl : j = k := by omega
            exact hq
        have HFa := Aside0.mk hfa
        have HTr := Aside0.mk htr
        clear hfa htr
        generalize PPrinterMatchesReference.rd_T40 xs k = x at *
        generalize PPrinterMatchesReference.rd_T40 ys k = y at *
        have HE := Aside0.mk (fun W (hW : Below w.heap.size w W) => clo_e x y A1 c1 A2 c2 B1 d1 B2 d2 W (Kd.C_below i1 hW) l1 (Kd.C_below i2 hW) l2 (Kd.C_below j1 hW) m1 (Kd.C_below j2 hW) m2)
        have HB2 := Aside0.mk (below_alloc (below_alloc HB.out (.cells #[.string x.f0, .slice A1 x.f1.length c1, .slice A2 x.f2.length c2, .string x.f3] 40)) (.cells #[.string y.f0, .slice B1 y.f1.length d1, .slice B2 y.f2.length d2, .string y.f3] 40))
        clear i1 i2 j1 j2 l1 l2 m1 m2
        have lt0 := World.block_lt_of_cell? _ _ y0
        cases hq : rungEq x y with
        | false =>
          have hV := HFa.out hq
          subst hV
          rw [hq] at HE
          go_wp2_with fail
          refine (HE.out _ HB2.out).mono ?_
          rintro e w1 ⟨rfl, hb⟩
          have FB := below_step HB2.out hb
          go_wp2
          go_ret
          exact ⟨rfl, FB⟩
        | true =>
          have HT := Aside0.mk (HTr.out hq)
          rw [hq] at HE
          go_wp2_with fail
          refine (HE.out _ HB2.out).mono ?_
          rintro e w1 ⟨rfl, hb⟩
          have FB := Aside0.mk (below_step HB2.out hb)
          go_wp2
          go_roundw
          case rel => exact ⟨k + 1, by simp [hwr], by omega, by omega, FB, HT⟩
          case measure => simp [intOf, hwr]; omega
      · obtain rfl : k = xs.length := by omega
        have hV := HV.out.symm.trans (eqL_all HLn.out HA.out)
        subst hV
        have FB := HB.out
        go_wp2
        go_ret
        exact ⟨rfl, FB⟩
  · have hl2 : ¬ ((xs.length : Int) = (ys.length : Int)) := by omega
    have hV := HV.out.symm.trans (eqL_len hl)
    subst hV
    go_enter Tryd.func40, Tryd.ntmps40
    go_wp2
    go_ret
    exact ⟨rfl, Below.refl _ _⟩
end Go.Proofs.YtolmkdhgnganaaaDoor.H
