/-
  TooLarge ends and changes nothing; EdgeCount (both) counts the edge contacts.
-/
import Derived.Test.YtolmkdhgnganaaaDoorLad
set_option linter.unusedVariables false
set_option linter.unusedSimpArgs false
namespace Go.Proofs.YtolmkdhgnganaaaDoor.H
open Go Go.RowKit Go.Proofs Go.Proofs.YtolmkdhgnganaaaDoorW.PrintWords Go.Proofs.YtolmkdhgnganaaaDoor.Sp

/-- Two blocks of the call's own stand, and what was there is as it was. -/
structure TwoF (w : World) (g1 : Nat) (cs1 : Array Value) (t1 : Nat) (wr : World) : Prop where
  b : Below w.heap.size w wr
  k1 : wr.heap[g1]? = some (.cells cs1 t1 (0, 0))
theorem TwoF.below {w : World} {g1 : Nat} {cs1 : Array Value} {t1 : Nat} {wr w1 : World} (h : TwoF w g1 cs1 t1 wr) (hb : Below wr.heap.size wr w1) : TwoF w g1 cs1 t1 w1 := ⟨below_step h.b hb, blk_below h.k1 hb⟩
theorem TwoF.alloc {w : World} {g1 : Nat} {cs1 : Array Value} {t1 : Nat} {wr : World} (h : TwoF w g1 cs1 t1 wr) (o : Obj) : TwoF w g1 cs1 t1 (wr.alloc o) := h.below (below_alloc (Below.refl _ _) _)

/-- What TooLarge answers: some number. -/
def SomeInt (w : World) (e : Ending) (w' : World) : Prop := ∃ r : Int, e = .returned (.int .i64 r) ∧ Below w.heap.size w w'

set_option maxHeartbeats 1000000 in
set_option maxRecDepth 100000 in
theorem large_b (i q m : Int) (A : Option Addr) (c : Nat) (l : List Rung) (w : World) (hr : Kd.C kRung w A l.length l) (hc : l.length ≤ c) :
    Calls Tryd.prog 8 #[.agg #[.int .i64 i, .int .i64 q, .int .i64 m, .slice A l.length c]] w (SomeInt w) := by
  have hmax := Kd.C_max hr
  have GR := Aside0.mk hr
  clear hr
  have F0 : Aside0 (TwoF w w.heap.size #[.int .i64 i, .int .i64 q, .int .i64 m, .slice A l.length c] 24 (w.alloc (.cells #[.int .i64 i, .int .i64 q, .int .i64 m, .slice A l.length c] 24))) :=
    ⟨⟨below_alloc (Below.refl _ _) _, blk_new _ _⟩⟩
  go_enter Tryd.func8, Tryd.ntmps8
  go_wp2
  go_loopw [3, 11] (fun v3 cv w' => ∃ (n k : Int), v3 = .int .i64 n ∧ cv = .int .i64 k ∧ 0 ≤ k ∧ k ≤ l.length ∧ Aside0 (TwoF w w.heap.size #[.int .i64 i, .int .i64 q, .int .i64 m, .slice A l.length c] 24 w')) (fun _ cv _ => l.length - (intOf cv).toNat)
  case atStart => exact ⟨0, 0, rfl, rfl, by omega, by omega, F0⟩
  case round =>
    clear F0
    obtain ⟨n, k, rfl, rfl, b0, b1, HF⟩ := hrel
    by_cases hk : k < l.length
    · obtain ⟨ad, A1, c1, A2, c2, hAd, x0, x1, x2, x3, hl1, hi1, hl2, hi2⟩ := PPrinterMatchesReference.at_T40 GR.out k b0 hk
      subst hAd
      replace x0 := pw_cell_below HF.out.b x0
      replace x1 := pw_cell_below HF.out.b x1
      replace x2 := pw_cell_below HF.out.b x2
      replace x3 := pw_cell_below HF.out.b x3
      have hwr : wrap64 (k + 1) = k + 1 := w64 (by omega) (by omega)
      generalize PPrinterMatchesReference.rd_T40 l k = r at *
      have hm1 := Kd.C_max hi1
      have G1 := Aside0.mk hi1
      clear hi1 hi2 hl1 hl2
      have HF1 := Aside0.mk (HF.out.alloc (.cells #[.string r.f0, .slice A1 r.f1.length c1, .slice A2 r.f2.length c2, .string r.f3] 40))
      go_wp2
      clear x0 x1 x2 x3 HF
      go_loopw [3, 35] (fun v3 cv w' => ∃ (n j : Int), v3 = .int .i64 n ∧ cv = .int .i64 j ∧ 0 ≤ j ∧ j ≤ r.f1.length ∧ Aside0 (TwoF w w.heap.size #[.int .i64 i, .int .i64 q, .int .i64 m, .slice (some ad) l.length c] 24 w')) (fun _ cv _ => r.f1.length - (intOf cv).toNat)
      case atStart => exact ⟨_, 0, rfl, rfl, by omega, by omega, HF1⟩
      case round =>
        clear HF1
        obtain ⟨n2, j, rfl, rfl, j0, j1, HF⟩ := hrel
        by_cases hj : j < r.f1.length
        · obtain ⟨ad1, hAd, x0, x1, x2, x3, x4⟩ := PPrinterMatchesReference.at_T49 G1.out j j0 hj
          subst hAd
          replace x0 := pw_cell_below HF.out.b x0
          replace x1 := pw_cell_below HF.out.b x1
          replace x2 := pw_cell_below HF.out.b x2
          replace x3 := pw_cell_below HF.out.b x3
          replace x4 := pw_cell_below HF.out.b x4
          have hjr : wrap64 (j + 1) = j + 1 := w64 (by omega) (by omega)
          have HF2 := fun o => Aside0.mk (HF.out.alloc o)
          go_wp2
          go_roundw
          case rel => exact ⟨_, j + 1, rfl, by simp [hjr], by omega, by omega, HF2 _⟩
          case measure => simp [intOf, hjr]; omega
        · go_wp2
          go_roundw
          case rel => exact ⟨_, k + 1, rfl, by simp [hwr], by omega, by omega, HF⟩
          case measure => simp [intOf, hwr]; omega
    · have l3 := blk_cell HF.out.k1 3
      have FB := HF.out.b
      by_cases h1 : (70 : Int) < l.length
      · go_wp2
        go_ret
        exact ⟨_, rfl, FB⟩
      · by_cases h2 : (20000 : Int) < n
        · go_wp2
          go_ret
          exact ⟨_, rfl, FB⟩
        · go_wp2
          go_ret
          exact ⟨_, rfl, FB⟩

/-- One more edge contact. -/
def edgeStep (n : Int) (c : Con) : Int := if c.f0 = 2 ∨ c.f0 = 3 then wrap64 (n + 1) else n
/-- printer.EdgeCount. -/
def edgeN (l : List Rung) : Int := l.foldl (fun n r => r.f1.foldl edgeStep n) 0
theorem foldl_up {α β : Type} (f : β → α → β) (l : List α) (z : α) (b : β) {k : Int} (h0 : 0 ≤ k) (hk : k < l.length) : (l.take (k + 1).toNat).foldl f b = f ((l.take k.toNat).foldl f b) (l.getD k.toNat z) := by
  have hn : k.toNat < l.length := by omega
  have e : (k + 1).toNat = k.toNat + 1 := by omega
  have e2 : l.getD k.toNat z = l[k.toNat] := by simp [List.getD, hn]
  rw [e, e2, List.take_add_one, List.getElem?_eq_getElem hn, List.foldl_append]
  rfl

set_option maxHeartbeats 1000000 in
set_option maxRecDepth 100000 in
theorem edge_b (i q m : Int) (A : Option Addr) (c : Nat) (l : List Rung) (w : World) (hr : Kd.C kRung w A l.length l) (hc : l.length ≤ c) :
    Calls Tryd.prog 14 #[.agg #[.int .i64 i, .int .i64 q, .int .i64 m, .slice A l.length c]] w (RetB w (.int .i64 (edgeN l))) := by
  have hmax := Kd.C_max hr
  have GR := Aside0.mk hr
  clear hr
  have F0 : Aside0 (TwoF w w.heap.size #[.int .i64 i, .int .i64 q, .int .i64 m, .slice A l.length c] 24 (w.alloc (.cells #[.int .i64 i, .int .i64 q, .int .i64 m, .slice A l.length c] 24))) :=
    ⟨⟨below_alloc (Below.refl _ _) _, blk_new _ _⟩⟩
  go_enter Tryd.func14, Tryd.ntmps14
  go_wp2
  go_loopw [3, 11] (fun v3 cv w' => ∃ (n k : Int), v3 = .int .i64 n ∧ cv = .int .i64 k ∧ 0 ≤ k ∧ k ≤ l.length ∧ Aside0 (TwoF w w.heap.size #[.int .i64 i, .int .i64 q, .int .i64 m, .slice A l.length c] 24 w') ∧ Aside0 (n = (l.take k.toNat).foldl (fun n r => r.f1.foldl edgeStep n) 0)) (fun _ cv _ => l.length - (intOf cv).toNat)
  case atStart => exact ⟨0, 0, rfl, rfl, by omega, by omega, F0, ⟨rfl⟩⟩
  case round =>
    clear F0
    obtain ⟨n, k, rfl, rfl, b0, b1, HF, HN⟩ := hrel
    by_cases hk : k < l.length
    · obtain ⟨ad, A1, c1, A2, c2, hAd, x0, x1, x2, x3, hl1, hi1, hl2, hi2⟩ := PPrinterMatchesReference.at_T40 GR.out k b0 hk
      subst hAd
      replace x0 := pw_cell_below HF.out.b x0
      replace x1 := pw_cell_below HF.out.b x1
      replace x2 := pw_cell_below HF.out.b x2
      replace x3 := pw_cell_below HF.out.b x3
      have hwr : wrap64 (k + 1) = k + 1 := w64 (by omega) (by omega)
      have HU := Aside0.mk (foldl_up (fun n (r : Rung) => r.f1.foldl edgeStep n) l PPrinterMatchesReference.z40 0 b0 hk)
      have e0 : l.getD k.toNat PPrinterMatchesReference.z40 = PPrinterMatchesReference.rd_T40 l k := rfl
      rw [e0, ← HN.out] at HU
      clear e0 HN
      generalize PPrinterMatchesReference.rd_T40 l k = r at *
      have hm1 := Kd.C_max hi1
      have G1 := Aside0.mk hi1
      clear hi1 hi2 hl1 hl2
      have HF1 := Aside0.mk (HF.out.alloc (.cells #[.string r.f0, .slice A1 r.f1.length c1, .slice A2 r.f2.length c2, .string r.f3] 40))
      go_wp2
      clear x0 x1 x2 x3 HF
      go_loopw [3, 18] (fun v3 cv w' => ∃ (n2 j : Int), v3 = .int .i64 n2 ∧ cv = .int .i64 j ∧ 0 ≤ j ∧ j ≤ r.f1.length ∧ Aside0 (TwoF w w.heap.size #[.int .i64 i, .int .i64 q, .int .i64 m, .slice (some ad) l.length c] 24 w') ∧ Aside0 (n2 = (r.f1.take j.toNat).foldl edgeStep n)) (fun _ cv _ => r.f1.length - (intOf cv).toNat)
      case atStart => exact ⟨_, 0, rfl, rfl, by omega, by omega, HF1, ⟨rfl⟩⟩
      case round =>
        clear HF1
        obtain ⟨n2, j, rfl, rfl, j0, j1, HF, HN⟩ := hrel
        by_cases hj : j < r.f1.length
        · obtain ⟨ad1, hAd, x0, x1, x2, x3, x4⟩ := PPrinterMatchesReference.at_T49 G1.out j j0 hj
          subst hAd
          replace x0 := pw_cell_below HF.out.b x0
          replace x1 := pw_cell_below HF.out.b x1
          replace x2 := pw_cell_below HF.out.b x2
          replace x3 := pw_cell_below HF.out.b x3
          replace x4 := pw_cell_below HF.out.b x4
          have hjr : wrap64 (j + 1) = j + 1 := w64 (by omega) (by omega)
          have hs := foldl_up edgeStep r.f1 PPrinterMatchesReference.z49 n j0 hj
          have e0 : r.f1.getD j.toNat PPrinterMatchesReference.z49 = PPrinterMatchesReference.rd_T49 r.f1 j := rfl
          rw [e0, ← HN.out] at hs
          clear e0 HN
          generalize PPrinterMatchesReference.rd_T49 r.f1 j = cn at *
          have HF2 := fun o => Aside0.mk (HF.out.alloc o)
          by_cases e2 : cn.f0 = 2
          · have HS := Aside0.mk (show wrap64 (n2 + 1) = (r.f1.take (j + 1).toNat).foldl edgeStep n by rw [hs, edgeStep, if_pos (.inl e2)])
            clear hs
            go_wp2
            go_roundw
            case rel => exact ⟨_, j + 1, rfl, by simp [hjr], by omega, by omega, HF2 _, HS⟩
            case measure => simp [intOf, hjr]; omega
          · by_cases e3 : cn.f0 = 3
            · have HS := Aside0.mk (show wrap64 (n2 + 1) = (r.f1.take (j + 1).toNat).foldl edgeStep n by rw [hs, edgeStep, if_pos (.inr e3)])
              clear hs
              go_wp2
              go_roundw
              case rel => exact ⟨_, j + 1, rfl, by simp [hjr], by omega, by omega, HF2 _, HS⟩
              case measure => simp [intOf, hjr]; omega
            · have HS := Aside0.mk (show n2 = (r.f1.take (j + 1).toNat).foldl edgeStep n by rw [hs, edgeStep, if_neg (by omega)])
              have q2 : (cn.f0 == 2) = false := by simpa using e2
              have q3 : (cn.f0 == 3) = false := by simpa using e3
              clear hs
              go_wp2
              go_roundw
              case rel => exact ⟨_, j + 1, rfl, by simp [hjr], by omega, by omega, HF2 _, HS⟩
              case measure => simp [intOf, hjr]; omega
        · obtain rfl : j = r.f1.length := by omega
          have HS := Aside0.mk (show n2 = (l.take (k + 1).toNat).foldl (fun n (r : Rung) => r.f1.foldl edgeStep n) 0 by rw [HU.out, HN.out, Int.toNat_natCast, List.take_length])
          go_wp2
          go_roundw
          case rel => exact ⟨_, k + 1, rfl, by simp [hwr], by omega, by omega, HF, HS⟩
          case measure => simp [intOf, hwr]; omega
    · obtain rfl : k = l.length := by omega
      have l3 := blk_cell HF.out.k1 3
      have FB := HF.out.b
      obtain rfl : n = edgeN l := by rw [HN.out, Int.toNat_natCast, List.take_length]; rfl
      go_wp2
      go_ret
      exact ⟨rfl, FB⟩
end Go.Proofs.YtolmkdhgnganaaaDoor.H
