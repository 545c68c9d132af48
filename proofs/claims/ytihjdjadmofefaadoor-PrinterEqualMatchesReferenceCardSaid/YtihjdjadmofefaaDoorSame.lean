/-
  The reference's Same: it answers what printer.Equal's plain function answers.
-/
import Derived.Test.YtihjdjadmofefaaDoorEq2
set_option linter.unusedVariables false
set_option linter.unusedSimpArgs false
namespace Go.Proofs.YtihjdjadmofefaaDoor.H
open Go Go.RowKit Go.Proofs Go.Proofs.YtihjdjadmofefaaDoorW.PrintWords Go.Proofs.YtihjdjadmofefaaDoor.Sp
attribute [local go_sem high] eqCon eqCoil

structure SmF (w : World) (ca cb : Array Value) (wr : World) : Prop where
  b : Below w.heap.size w wr
  ka : wr.heap[w.heap.size]? = some (.cells ca 24 (0, 0))
  kb : wr.heap[w.heap.size + 1]? = some (.cells cb 24 (0, 0))
theorem SmF.below {w : World} {ca cb : Array Value} {wr w1 : World} (h : SmF w ca cb wr) (hb : Below wr.heap.size wr w1) : SmF w ca cb w1 := ⟨below_step h.b hb, blk_below h.ka hb, blk_below h.kb hb⟩
theorem SmF.new (w : World) (ca cb : Array Value) : SmF w ca cb ((w.alloc (.cells ca 24)).alloc (.cells cb 24)) :=
  ⟨below_alloc (below_alloc (Below.refl _ _) _) _, blk_alloc (blk_new _ _) _, by have := blk_new (w.alloc (.cells ca 24)) (.cells cb 24); simpa using this⟩
structure SmG (w : World) (ca cb : Array Value) (gx : Nat) (cx cy : Array Value) (wr : World) : Prop where
  f : SmF w ca cb wr
  kx : wr.heap[gx]? = some (.cells cx 40 (0, 0))
  ky : wr.heap[gx + 1]? = some (.cells cy 40 (0, 0))
theorem SmG.below {w : World} {ca cb : Array Value} {gx : Nat} {cx cy : Array Value} {wr w1 : World} (h : SmG w ca cb gx cx cy wr) (hb : Below wr.heap.size wr w1) : SmG w ca cb gx cx cy w1 := ⟨h.f.below hb, blk_below h.kx hb, blk_below h.ky hb⟩
theorem SmG.new {w : World} {ca cb : Array Value} {wr : World} (h : SmF w ca cb wr) (cx cy : Array Value) : SmG w ca cb wr.heap.size cx cy ((wr.alloc (.cells cx 40)).alloc (.cells cy 40)) :=
  ⟨h.below (below_alloc (below_alloc (Below.refl _ _) _) _), blk_alloc (blk_new _ _) _, by have := blk_new (wr.alloc (.cells cx 40)) (.cells cy 40); simpa using this⟩
theorem SmG.drewN {w : World} {ca cb : Array Value} {gx : Nat} {cx cy : Array Value} {wr : World} (h : SmG w ca cb gx cx cy wr) (n : Nat) : SmG w ca cb gx cx cy (wr.drewN n) := h.below (pw_below_drewN (Below.refl _ _) n)

theorem rungEq_lab {x y : Rung} (h : (x.f0.toList == y.f0.toList) = false) : rungEq x y = false := by simp only [rungEq, seq, h, Bool.false_and]
theorem rungEq_jmp {x y : Rung} (h : (x.f3.toList == y.f3.toList) = false) : rungEq x y = false := by simp only [rungEq, seq, h, Bool.and_false, Bool.false_and]
theorem rungEq_con {x y : Rung} (h : eqL conEq x.f1 y.f1 = false) : rungEq x y = false := by simp only [rungEq, h, Bool.and_false, Bool.false_and]
theorem rungEq_coil {x y : Rung} (h : eqL coilEq x.f2 y.f2 = false) : rungEq x y = false := by simp only [rungEq, h, Bool.and_false]
theorem rungEq_all {x y : Rung} (h0 : (x.f0.toList == y.f0.toList) = true) (h3 : (x.f3.toList == y.f3.toList) = true) (h1 : eqL conEq x.f1 y.f1 = true) (h2 : eqL coilEq x.f2 y.f2 = true) : rungEq x y = true := by simp only [rungEq, seq, h0, h1, h2, h3, Bool.and_self]

set_option maxHeartbeats 2000000 in
set_option maxRecDepth 100000 in
theorem same_b (i q m : Int) (A : Option Addr) (c : Nat) (l : List Rung) (i2 q2 m2 : Int) (B : Option Addr) (d : Nat) (k2 : List Rung) (w : World) (h1 : Kd.C kRung w A l.length l) (h2 : Kd.C kRung w B k2.length k2) (hc1 : l.length ≤ c) (hc2 : k2.length ≤ d) :
    Calls Tryd.prog 19 #[.agg #[.int .i64 i, .int .i64 q, .int .i64 m, .slice A l.length c], .agg #[.int .i64 i2, .int .i64 q2, .int .i64 m2, .slice B k2.length d]] w (RetB w (.bool (ladEq i q m l i2 q2 m2 k2))) := by
  have hmx := Kd.C_max h1
  have GA := Aside0.mk h1
  have GB := Aside0.mk h2
  clear h1 h2
  generalize hV : ladEq i q m l i2 q2 m2 k2 = V
  have HV := Aside0.mk hV
  clear hV
  have F0 := Aside0.mk (SmF.new w #[.int .i64 i, .int .i64 q, .int .i64 m, .slice A l.length c] #[.int .i64 i2, .int .i64 q2, .int .i64 m2, .slice B k2.length d])
  by_cases ei : i = i2
  · by_cases eq_ : q = q2
    · by_cases em : m = m2
      · by_cases el : l.length = k2.length
        · have hel : ((l.length : Int) != (k2.length : Int)) = false := by simp [el]
          subst ei eq_ em
          have hsz : szEq i q m i q m = true := by simp [szEq]
          have HV2 : Aside0 (eqL rungEq l k2 = V) := ⟨by rw [← HV.out, ladEq, hsz]; rfl⟩
          have HEl := Aside0.mk el
          have hel2 : ((l.length : Int) = (k2.length : Int)) := by omega
          clear HV hsz el
          go_enter Tryd.func19, Tryd.ntmps19
          go_wp2
          go_loopw [5] (fun cv w' => ∃ k : Int, cv = .int .i64 k ∧ 0 ≤ k ∧ k ≤ l.length ∧ Aside0 (SmF w #[.int .i64 i, .int .i64 q, .int .i64 m, .slice A l.length c] #[.int .i64 i, .int .i64 q, .int .i64 m, .slice B k2.length d] w') ∧ Aside0 (∀ j : Int, 0 ≤ j → j < k → rungEq (PPrinterMatchesReference.rd_T40 l j) (PPrinterMatchesReference.rd_T40 k2 j) = true)) (fun cv _ => l.length - (intOf cv).toNat)
          case atStart => exact ⟨0, rfl, by omega, by omega, F0, ⟨fun j h1 h2 => by omega⟩⟩
          case round =>
            clear F0
            obtain ⟨k, rfl, b0, b1, HF, HA⟩ := hrel
            have la3 := blk_cell HF.out.ka 3
            have lb3 := blk_cell HF.out.kb 3
            have lta := blk_lt HF.out.ka
            have ltb := blk_lt HF.out.kb
            by_cases hk : k < l.length
            · have hk2 : k < k2.length := by omega
              obtain ⟨ad, A1, c1, A2, c2, e1, x0, x1, x2, x3, l1, i1, l2, i2_⟩ := PPrinterMatchesReference.at_T40 GA.out k b0 hk
              obtain ⟨ad2, B1, d1, B2, d2, e2, y0, y1, y2, y3, m1, j1, m2_, j2⟩ := PPrinterMatchesReference.at_T40 GB.out k b0 hk2
              subst e1
              subst e2
              replace x0 := pw_cell_below HF.out.b x0
              replace x1 := pw_cell_below HF.out.b x1
              replace x2 := pw_cell_below HF.out.b x2
              replace x3 := pw_cell_below HF.out.b x3
              replace y0 := pw_cell_below HF.out.b y0
              replace y1 := pw_cell_below HF.out.b y1
              replace y2 := pw_cell_below HF.out.b y2
              replace y3 := pw_cell_below HF.out.b y3
              have hwr : wrap64 (k + 1) = k + 1 := w64 (by omega) (by omega)
              have hfa : rungEq (PPrinterMatchesReference.rd_T40 l k) (PPrinterMatchesReference.rd_T40 k2 k) = false → V = false := fun hq => HV2.out.symm.trans (eqL_at b0 hk HEl.out hq)
              have htr : rungEq (PPrinterMatchesReference.rd_T40 l k) (PPrinterMatchesReference.rd_T40 k2 k) = true → ∀ j : Int, 0 ≤ j → j < k + 1 → rungEq (PPrinterMatchesReference.rd_T40 l j) (PPrinterMatchesReference.rd_T40 k2 j) = true := by
                intro hq j j0 j1
                by_cases hj : j < k
                · exact HA.out j j0 hj
                · obtain rfl : j = k := by omega
                  exact hq
              have HFa := Aside0.mk hfa
              have HTr := Aside0.mk htr
              clear hfa htr
              generalize PPrinterMatchesReference.rd_T40 l k = x at *
              generalize PPrinterMatchesReference.rd_T40 k2 k = y at *
              have hm1 := Kd.C_max i1
              have hm2 := Kd.C_max i2_
              have G1 := Aside0.mk i1
              have G2 := Aside0.mk i2_
              have J1 := Aside0.mk j1
              have J2 := Aside0.mk j2
              clear i1 i2_ j1 j2 l1 l2 m1 m2_
              have HG := Aside0.mk (SmG.new HF.out #[.string x.f0, .slice A1 x.f1.length c1, .slice A2 x.f2.length c2, .string x.f3] #[.string y.f0, .slice B1 y.f1.length d1, .slice B2 y.f2.length d2, .string y.f3])
              have lt0 := World.block_lt_of_cell? _ _ y0
              cases q0 : (x.f0.toList == y.f0.toList) with
              | false =>
                have hV := HFa.out (rungEq_lab q0)
                subst hV
                have q0' : (x.f0.toList != y.f0.toList) = true := by simpa [bne] using q0
                have FB := HG.out.f.b
                go_wp2
                go_ret
                exact ⟨rfl, FB⟩
              | true =>
                have q0' : (x.f0.toList != y.f0.toList) = false := by simp [bne, q0]
                cases q3 : (x.f3.toList == y.f3.toList) with
                | false =>
                  have hV := HFa.out (rungEq_jmp q3)
                  subst hV
                  have q3' : (x.f3.toList != y.f3.toList) = true := by simpa [bne] using q3
                  have FB := HG.out.f.b
                  go_wp2
                  go_ret
                  exact ⟨rfl, FB⟩
                | true =>
                  have q3' : (x.f3.toList != y.f3.toList) = false := by simp [bne, q3]
                  by_cases n1 : x.f1.length = y.f1.length
                  · have n1' : ((x.f1.length : Int) != (y.f1.length : Int)) = false := by simp [n1]
                    by_cases n2 : x.f2.length = y.f2.length
                    · have n2' : ((x.f2.length : Int) != (y.f2.length : Int)) = false := by simp [n2]
                      have HN1 := Aside0.mk n1
                      have HN2 := Aside0.mk n2
                      have hn1 : ((x.f1.length : Int) = (y.f1.length : Int)) := by omega
                      have hn2 : ((x.f2.length : Int) = (y.f2.length : Int)) := by omega
                      clear n1 n2
                      have HQ := Aside0.mk (And.intro q0 q3)
                      go_wp2
                      clear q0 q3 q0' q3' x0 x1 x2 x3 y0 y1 y2 y3 lt0 la3 lb3 lta ltb HF
                      generalize wr.heap.size = gx at HG ⊢
                      go_loopw [8] (fun cv w' => ∃ j : Int, cv = .int .i64 j ∧ 0 ≤ j ∧ j ≤ x.f1.length ∧ Aside0 (SmG w #[.int .i64 i, .int .i64 q, .int .i64 m, .slice (some ad) l.length c] #[.int .i64 i, .int .i64 q, .int .i64 m, .slice (some ad2) k2.length d] gx #[.string x.f0, .slice A1 x.f1.length c1, .slice A2 x.f2.length c2, .string x.f3] #[.string y.f0, .slice B1 y.f1.length d1, .slice B2 y.f2.length d2, .string y.f3] w') ∧ Aside0 (∀ j' : Int, 0 ≤ j' → j' < j → conEq (PPrinterMatchesReference.rd_T50 x.f1 j') (PPrinterMatchesReference.rd_T50 y.f1 j') = true)) (fun cv _ => x.f1.length - (intOf cv).toNat)
                      case atStart => exact ⟨0, rfl, by omega, by omega, HG, ⟨fun j h1 h2 => by omega⟩⟩
                      case round =>
                        clear HG
                        obtain ⟨j, rfl, j0, j1, HG, HJ⟩ := hrel
                        have r1 := blk_cell HG.out.kx 1
                        have r2 := blk_cell HG.out.kx 2
                        have s1 := blk_cell HG.out.ky 1
                        have s2 := blk_cell HG.out.ky 2
                        by_cases hj : j < x.f1.length
                        · have hj2 : j < y.f1.length := by omega
                          obtain ⟨ad3, e1, u0, u1, u2, u3, u4⟩ := PPrinterMatchesReference.at_T50 G1.out j j0 hj
                          obtain ⟨ad4, e2, v0, v1, v2, v3, v4⟩ := PPrinterMatchesReference.at_T50 J1.out j j0 hj2
                          subst e1
                          subst e2
                          replace u0 := pw_cell_below HG.out.f.b u0
                          replace u1 := pw_cell_below HG.out.f.b u1
                          replace u2 := pw_cell_below HG.out.f.b u2
                          replace u3 := pw_cell_below HG.out.f.b u3
                          replace u4 := pw_cell_below HG.out.f.b u4
                          replace v0 := pw_cell_below HG.out.f.b v0
                          replace v1 := pw_cell_below HG.out.f.b v1
                          replace v2 := pw_cell_below HG.out.f.b v2
                          replace v3 := pw_cell_below HG.out.f.b v3
                          replace v4 := pw_cell_below HG.out.f.b v4
                          have hjr : wrap64 (j + 1) = j + 1 := w64 (by omega) (by omega)
                          have hfa : conEq (PPrinterMatchesReference.rd_T50 x.f1 j) (PPrinterMatchesReference.rd_T50 y.f1 j) = false → V = false := fun hq => HFa.out (rungEq_con (eqL_at j0 hj HN1.out hq))
                          have htr : conEq (PPrinterMatchesReference.rd_T50 x.f1 j) (PPrinterMatchesReference.rd_T50 y.f1 j) = true → ∀ j' : Int, 0 ≤ j' → j' < j + 1 → conEq (PPrinterMatchesReference.rd_T50 x.f1 j') (PPrinterMatchesReference.rd_T50 y.f1 j') = true := by
                            intro hq j' a0 a1
                            by_cases hj' : j' < j
                            · exact HJ.out j' a0 hj'
                            · obtain rfl : j' = j := by omega
                              exact hq
                          have HFa2 := Aside0.mk hfa
                          have HTr2 := Aside0.mk htr
                          clear hfa htr
                          generalize PPrinterMatchesReference.rd_T50 x.f1 j = xc at *
                          generalize PPrinterMatchesReference.rd_T50 y.f1 j = yc at *
                          cases hq : conEq xc yc with
                          | false =>
                            have hV := HFa2.out hq
                            subst hV
                            go_wp2
                            go_quiet (fail)
                            go_wp2
                            go_ret
                            exact ⟨rfl, pw_below_drewN HG.out.f.b _⟩
                          | true =>
                            have HT := Aside0.mk (HTr2.out hq)
                            go_wp2
                            go_quiet (fail)
                            go_wp2
                            go_roundw
                            case rel => exact ⟨j + 1, by simp [hjr], by omega, by omega, ⟨HG.out.drewN _⟩, HT⟩
                            case measure => simp [intOf, hjr]; omega
                        · obtain rfl : j = x.f1.length := by omega
                          have HCon := Aside0.mk (eqL_all HN1.out HJ.out)
                          go_wp2
                          clear r1 r2 s1 s2 hj j0 j1 HJ
                          go_loopw [9] (fun cv w' => ∃ j : Int, cv = .int .i64 j ∧ 0 ≤ j ∧ j ≤ x.f2.length ∧ Aside0 (SmG w #[.int .i64 i, .int .i64 q, .int .i64 m, .slice (some ad) l.length c] #[.int .i64 i, .int .i64 q, .int .i64 m, .slice (some ad2) k2.length d] gx #[.string x.f0, .slice A1 x.f1.length c1, .slice A2 x.f2.length c2, .string x.f3] #[.string y.f0, .slice B1 y.f1.length d1, .slice B2 y.f2.length d2, .string y.f3] w') ∧ Aside0 (∀ j' : Int, 0 ≤ j' → j' < j → coilEq (PPrinterMatchesReference.rd_T53 x.f2 j') (PPrinterMatchesReference.rd_T53 y.f2 j') = true)) (fun cv _ => x.f2.length - (intOf cv).toNat)
                          case atStart => exact ⟨0, rfl, by omega, by omega, HG, ⟨fun j h1 h2 => by omega⟩⟩
                          case round =>
                            clear HG
                            obtain ⟨j, rfl, j0, j1, HG, HJ⟩ := hrel
                            have r2 := blk_cell HG.out.kx 2
                            have s2 := blk_cell HG.out.ky 2
                            by_cases hj : j < x.f2.length
                            · have hj2 : j < y.f2.length := by omega
                              obtain ⟨ad3, e1, u0, u1, u2⟩ := PPrinterMatchesReference.at_T53 G2.out j j0 hj
                              obtain ⟨ad4, e2, v0, v1, v2⟩ := PPrinterMatchesReference.at_T53 J2.out j j0 hj2
                              subst e1
                              subst e2
                              replace u0 := pw_cell_below HG.out.f.b u0
                              replace u1 := pw_cell_below HG.out.f.b u1
                              replace u2 := pw_cell_below HG.out.f.b u2
                              replace v0 := pw_cell_below HG.out.f.b v0
                              replace v1 := pw_cell_below HG.out.f.b v1
                              replace v2 := pw_cell_below HG.out.f.b v2
                              have hjr : wrap64 (j + 1) = j + 1 := w64 (by omega) (by omega)
                              have hfa : coilEq (PPrinterMatchesReference.rd_T53 x.f2 j) (PPrinterMatchesReference.rd_T53 y.f2 j) = false → V = false := fun hq => HFa.out (rungEq_coil (eqL_at j0 hj HN2.out hq))
                              have htr : coilEq (PPrinterMatchesReference.rd_T53 x.f2 j) (PPrinterMatchesReference.rd_T53 y.f2 j) = true → ∀ j' : Int, 0 ≤ j' → j' < j + 1 → coilEq (PPrinterMatchesReference.rd_T53 x.f2 j') (PPrinterMatchesReference.rd_T53 y.f2 j') = true := by
                                intro hq j' a0 a1
                                by_cases hj' : j' < j
                                · exact HJ.out j' a0 hj'
                                · obtain rfl : j' = j := by omega
                                  exact hq
                              have HFa2 := Aside0.mk hfa
                              have HTr2 := Aside0.mk htr
                              clear hfa htr
                              generalize PPrinterMatchesReference.rd_T53 x.f2 j = xc at *
                              generalize PPrinterMatchesReference.rd_T53 y.f2 j = yc at *
                              cases hq : coilEq xc yc with
                              | false =>
                                have hV := HFa2.out hq
                                subst hV
                                go_wp2
                                go_quiet (fail)
                                go_wp2
                                go_ret
                                exact ⟨rfl, pw_below_drewN HG.out.f.b _⟩
                              | true =>
                                have HT := Aside0.mk (HTr2.out hq)
                                go_wp2
                                go_quiet (fail)
                                go_wp2
                                go_roundw
                                case rel => exact ⟨j + 1, by simp [hjr], by omega, by omega, ⟨HG.out.drewN _⟩, HT⟩
                                case measure => simp [intOf, hjr]; omega
                            · obtain rfl : j = x.f2.length := by omega
                              have HT := Aside0.mk (HTr.out (rungEq_all HQ.out.1 HQ.out.2 HCon.out (eqL_all HN2.out HJ.out)))
                              have HF2 := Aside0.mk HG.out.f
                              go_wp2
                              go_roundw
                              case rel => exact ⟨k + 1, by simp [hwr], by omega, by omega, HF2, HT⟩
                              case measure => simp [intOf, hwr]; omega
                    · have n2' : ((x.f2.length : Int) != (y.f2.length : Int)) = true := by simp; omega
                      have hV := HFa.out (rungEq_coil (eqL_len n2))
                      subst hV
                      clear n1
                      have FB := HG.out.f.b
                      go_wp2
                      go_ret
                      exact ⟨rfl, FB⟩
                  · have n1' : ((x.f1.length : Int) != (y.f1.length : Int)) = true := by simp; omega
                    have hV := HFa.out (rungEq_con (eqL_len n1))
                    subst hV
                    have FB := HG.out.f.b
                    go_wp2
                    go_ret
                    exact ⟨rfl, FB⟩
            · obtain rfl : k = l.length := by omega
              have hV := HV2.out.symm.trans (eqL_all HEl.out HA.out)
              subst hV
              have FB := HF.out.b
              go_wp2
              go_ret
              exact ⟨rfl, FB⟩
        · obtain rfl : V = false := by rw [← HV.out, ladEq, eqL_len el, Bool.and_false]
          have hel : ((l.length : Int) != (k2.length : Int)) = true := by simp; omega
          subst ei eq_ em
          go_enter Tryd.func19, Tryd.ntmps19
          go_wp2
          go_ret
          exact ⟨rfl, F0.out.b⟩
      · have q1 : (m == m2) = false := by simpa using em
        have q2_ : (m != m2) = true := by simpa using em
        obtain rfl : V = false := by rw [← HV.out, ladEq, szEq, q1]; simp
        subst ei eq_
        go_enter Tryd.func19, Tryd.ntmps19
        go_wp2
        go_ret
        exact ⟨rfl, F0.out.b⟩
    · have q1 : (q == q2) = false := by simpa using eq_
      have q2_ : (q != q2) = true := by simpa using eq_
      obtain rfl : V = false := by rw [← HV.out, ladEq, szEq, q1]; simp
      subst ei
      go_enter Tryd.func19, Tryd.ntmps19
      go_wp2
      go_ret
      exact ⟨rfl, F0.out.b⟩
  · have q1 : (i == i2) = false := by simpa using ei
    have q2_ : (i != i2) = true := by simpa using ei
    obtain rfl : V = false := by rw [← HV.out, ladEq, szEq, q1]; simp
    go_enter Tryd.func19, Tryd.ntmps19
    go_wp2
    go_ret
    exact ⟨rfl, F0.out.b⟩
end Go.Proofs.YtihjdjadmofefaaDoor.H
