/-
  printer.Check: it answers what its plain function answers; nothing that was there is changed.
-/
import Derived.Test.YtolmkdhgnganaaaDoorChk2
import Derived.Test.YtolmkdhgnganaaaDoorPPrinterMatchesReferencex1
set_option linter.unusedVariables false
set_option linter.unusedSimpArgs false
namespace Go.Proofs.YtolmkdhgnganaaaDoor.H
open Go Go.RowKit Go.Proofs Go.Proofs.YtolmkdhgnganaaaDoorW.PrintWords Go.Proofs.YtolmkdhgnganaaaDoor.Sp

abbrev rdR (l : List Rung) (k : Int) : Rung := PPrinterMatchesReference.rd_T40 l k
/-- What rung k is told to be. -/
def rgAt (i q m : Int) (l : List Rung) (k : Int) : Int := rungE i q m (l.take k.toNat) (rdR l k)
/-- Rung k jumps to no later rung. -/
def jbAt (l : List Rung) (k : Int) : Bool := !(rdR l k).f3.toList.isEmpty && !hasLab (l.drop (k + 1).toNat) (rdR l k).f3
/-- printer.Check. -/
def ladChk (i q m : Int) (l : List Rung) : Int × Int :=
  if chkSize i q m 0 = 0 then (if 64 < l.length then (0, 10) else
    match (List.range l.length).find? (fun k => decide (rgAt i q m l (k : Nat) ≠ 0)) with
    | some k => ((k : Int), rgAt i q m l (k : Nat))
    | none => match (List.range l.length).find? (fun k => jbAt l (k : Nat)) with
      | some k => ((k : Int), 15)
      | none => ((l.length : Int), 0)) else (0, 3)
theorem find_at {p : Nat → Bool} {n k : Nat} (hk : k < n) (h : ∀ j, j < k → p j = false) (hp : p k = true) : (List.range n).find? p = some k :=
  List.find?_range_eq_some.2 ⟨hp, List.mem_range.2 hk, fun j hj => by rw [h j hj]; rfl⟩
theorem find_none {p : Nat → Bool} {n : Nat} (h : ∀ j, j < n → p j = false) : (List.range n).find? p = none := by
  rw [List.find?_eq_none]
  intro x hx
  rw [h x (List.mem_range.1 hx)]; simp
theorem ladChk_size {i q m : Int} {l : List Rung} (h : chkSize i q m 0 ≠ 0) : ladChk i q m l = (0, 3) := if_neg h
theorem ladChk_many {i q m : Int} {l : List Rung} (h : chkSize i q m 0 = 0) (h2 : 64 < l.length) : ladChk i q m l = (0, 10) := by rw [ladChk, if_pos h, if_pos h2]
theorem ladChk_rung {i q m : Int} {l : List Rung} (h : chkSize i q m 0 = 0) (h2 : ¬ 64 < l.length) {k e : Int} (b0 : 0 ≤ k) (b1 : k < l.length) (hz : ∀ j : Int, 0 ≤ j → j < k → rgAt i q m l j = 0) (he : rgAt i q m l k = e) (hne : e ≠ 0) :
    ladChk i q m l = (k, e) := by
  have hk : ((k.toNat : Nat) : Int) = k := by omega
  rw [ladChk, if_pos h, if_neg h2, find_at (k := k.toNat) (by omega) (fun j hj => decide_eq_false (by simpa using hz j (by omega) (by omega))) (by rw [hk, he]; exact decide_eq_true hne)]
  simp only [hk, he]
theorem ladChk_jump {i q m : Int} {l : List Rung} (h : chkSize i q m 0 = 0) (h2 : ¬ 64 < l.length) (hz : ∀ j : Int, 0 ≤ j → j < l.length → rgAt i q m l j = 0) {k : Int} (b0 : 0 ≤ k) (b1 : k < l.length) (hj0 : ∀ j : Int, 0 ≤ j → j < k → jbAt l j = false) (he : jbAt l k = true) :
    ladChk i q m l = (k, 15) := by
  have hk : ((k.toNat : Nat) : Int) = k := by omega
  rw [ladChk, if_pos h, if_neg h2, find_none (fun j hj => decide_eq_false (by simpa using hz j (by omega) (by omega)))]
  simp only []
  rw [find_at (k := k.toNat) (by omega) (fun j hj => hj0 j (by omega) (by omega)) (by rw [hk, he])]
  simp only [hk]
theorem ladChk_ok {i q m : Int} {l : List Rung} (h : chkSize i q m 0 = 0) (h2 : ¬ 64 < l.length) (hz : ∀ j : Int, 0 ≤ j → j < l.length → rgAt i q m l j = 0) (hj0 : ∀ j : Int, 0 ≤ j → j < l.length → jbAt l j = false) :
    ladChk i q m l = ((l.length : Int), 0) := by
  rw [ladChk, if_pos h, if_neg h2, find_none (fun j hj => decide_eq_false (by simpa using hz j (by omega) (by omega)))]
  simp only []
  rw [find_none (fun j hj => hj0 j (by omega) (by omega))]

theorem sizes_b (i q m : Int) (A : Option Addr) (c : Nat) (l : List Rung) (w : World) (hr : Kd.C kRung w A l.length l) (hc : l.length ≤ c) :
    Calls Tryd.prog 22 #[.agg #[.int .i64 i, .int .i64 q, .int .i64 m, .slice A l.length c]] w (RetB w (.agg #[.int .i64 i, .int .i64 q, .int .i64 m, .int .i64 0])) :=
  PPrinterMatchesReference.printer_sizes.calls i q m A c l i q m 0 w hr hc rfl
theorem rungs_to {w : World} {A : Option Addr} {c : Nat} {l : List Rung} (hr : Kd.C kRung w A l.length l) (hc : l.length ≤ c) {k : Int} (h0 : 0 ≤ k) (hk : k ≤ l.length) :
    (∀ W : World, (Instr.slice 22 (.slice A l.length c) none (some (.int .i64 k)) none).run Tryd.prog W = .ok (.slice A (l.take k.toNat).length c) W) ∧ Kd.C kRung w A (l.take k.toNat).length (l.take k.toNat) ∧ (l.take k.toNat).length ≤ c := by
  obtain ⟨i0, hi, hz⟩ := Option.map_eq_some_iff.1 PPrinterMatchesReference.info40
  have hl : (l.take k.toNat).length = k.toNat := by rw [List.length_take]; omega
  refine ⟨fun W => ?_, Kd.C_take hr (by omega), by omega⟩
  rw [hl]
  exact cut_to 22 40 .i64 Tryd.underlying22 hi A l.length c k h0 hk hc W
theorem rungs_from {w : World} {A : Option Addr} {c : Nat} {l : List Rung} (hr : Kd.C kRung w A l.length l) (hc : l.length ≤ c) {k : Int} (h0 : 0 ≤ k) (hk : k ≤ l.length) :
    ∃ A', (∀ W : World, (Instr.slice 22 (.slice A l.length c) (some (.int .i64 k)) none none).run Tryd.prog W = .ok (.slice A' (l.drop k.toNat).length (c - k.toNat)) W) ∧ Kd.C kRung w A' (l.drop k.toNat).length (l.drop k.toNat) ∧ (l.drop k.toNat).length ≤ c - k.toNat := by
  obtain ⟨i0, hi, hz⟩ := Option.map_eq_some_iff.1 PPrinterMatchesReference.info40
  simp only [Prod.mk.injEq] at hz
  have hl : (l.drop k.toNat).length = l.length - k.toNat := List.length_drop
  refine ⟨_, fun W => ?_, Kd.C_drop hr (by omega) hc, by omega⟩
  rw [hl]
  exact cut_from 22 40 .i64 Tryd.underlying22 hi kRung.sz (hz.2.1.trans rfl) A l.length c k h0 hk W

structure LadF (w : World) (g : Nat) (i q m : Int) (A : Option Addr) (n c : Nat) (wr : World) : Prop where
  b : Below w.heap.size w wr
  kl : wr.heap[w.heap.size]? = some (.cells #[.int .i64 i, .int .i64 q, .int .i64 m, .slice A n c] 24 (0, 0))
  ks : wr.heap[g]? = some (.cells #[.int .i64 i, .int .i64 q, .int .i64 m, .int .i64 0] 66 (0, 0))
theorem LadF.step {w : World} {g : Nat} {i q m : Int} {A : Option Addr} {n c : Nat} {wr w1 : World} (h : LadF w g i q m A n c wr) (hb : Below wr.heap.size wr w1) : LadF w g i q m A n c w1 :=
  ⟨below_step h.b hb, blk_below h.kl hb, blk_below h.ks hb⟩
theorem LadF.alloc {w : World} {g : Nat} {i q m : Int} {A : Option Addr} {n c : Nat} {wr : World} (h : LadF w g i q m A n c wr) (o : Obj) : LadF w g i q m A n c (wr.alloc o) :=
  ⟨below_alloc h.b _, blk_alloc h.kl _, blk_alloc h.ks _⟩
theorem LadF.drew {w : World} {g : Nat} {i q m : Int} {A : Option Addr} {n c : Nat} {wr : World} (h : LadF w g i q m A n c wr) : LadF w g i q m A n c wr.drew :=
  ⟨below_drew h.b, blk_drew h.kl, blk_drew h.ks⟩
theorem LadF.cells {w : World} {g : Nat} {i q m : Int} {A : Option Addr} {n c : Nat} {wr : World} (h : LadF w g i q m A n c wr) :
    wr.cell? ⟨w.heap.size, 0, none⟩ = some (.int .i64 i) ∧ wr.cell? ⟨w.heap.size, 1, none⟩ = some (.int .i64 q) ∧ wr.cell? ⟨w.heap.size, 2, none⟩ = some (.int .i64 m) ∧ wr.cell? ⟨w.heap.size, 3, none⟩ = some (.slice A n c) ∧
    wr.cell? ⟨g, 0, none⟩ = some (.int .i64 i) ∧ wr.cell? ⟨g, 1, none⟩ = some (.int .i64 q) ∧ wr.cell? ⟨g, 2, none⟩ = some (.int .i64 m) ∧ wr.cell? ⟨g, 3, none⟩ = some (.int .i64 0) ∧
    g < wr.heap.size ∧ w.heap.size < wr.heap.size :=
  ⟨blk_cell h.kl 0, blk_cell h.kl 1, blk_cell h.kl 2, blk_cell h.kl 3, blk_cell h.ks 0, blk_cell h.ks 1, blk_cell h.ks 2, blk_cell h.ks 3, blk_lt h.ks, blk_lt h.kl⟩

set_option maxHeartbeats 1000000 in
set_option maxRecDepth 100000 in
theorem ladChk_b (i q m : Int) (A : Option Addr) (c : Nat) (l : List Rung) (w : World) (hr : Kd.C kRung w A l.length l) (hc : l.length ≤ c) :
    Calls Tryd.prog 10 #[.agg #[.int .i64 i, .int .i64 q, .int .i64 m, .slice A l.length c]] w (RetB w (.tuple #[.int .i64 (ladChk i q m l).1, .int .i64 (ladChk i q m l).2])) := by
  generalize hV : ladChk i q m l = V
  have HV := Aside0.mk hV
  clear hV
  have hmax := Kd.C_max hr
  have GR := Aside0.mk hr
  clear hr
  have S1 := fun W (hW : Below w.heap.size w W) => sizes_b i q m A c l W (Kd.C_below GR.out hW) hc
  have S2 := chkSize_b i q m 0
  generalize hz : chkSize i q m 0 = sz at S2
  have HS := Aside0.mk hz
  clear hz
  go_enter Tryd.func10, Tryd.ntmps10
  go_wp2_with fail
  refine (S1 _ (below_alloc (Below.refl _ _) _)).mono ?_
  rintro e0 w1 ⟨rfl, hb⟩
  have F0 : LadF w w1.heap.size i q m A l.length c (w1.alloc (.cells #[.int .i64 i, .int .i64 q, .int .i64 m, .int .i64 0] 66)) :=
    ⟨below_alloc (below_step (below_alloc (Below.refl _ _) _) hb) _, blk_alloc (blk_below (blk_new _ _) hb) _, blk_new _ _⟩
  have HF := Aside0.mk F0
  obtain ⟨l0, l1, l2, l3, s0, s1, s2, s3, lt1, lt0⟩ := F0.cells
  have ltw : w.heap.size < w1.heap.size := by have := hb.size; simp at this; omega
  have kl1 := blk_below (blk_new w (.cells #[.int .i64 i, .int .i64 q, .int .i64 m, .slice A l.length c] 24)) hb
  have l3' := blk_cell kl1 3
  clear F0 kl1
  generalize hg : w1.heap.size = g at *
  go_wp2_with fail
  refine (S2 _).mono ?_
  rintro e0 w2 ⟨rfl, hb2⟩
  have HF2 := Aside0.mk (HF.out.step hb2)
  clear l0 l1 l2 l3 s0 s1 s2 s3 lt1 lt0 ltw l3' hb2 HF S1 S2 hg hb
  obtain ⟨l0, l1, l2, l3, s0, s1, s2, s3, lt1, lt0⟩ := HF2.out.cells
  have FB := HF2.out.b
  by_cases hs0 : sz = 0
  · subst hs0
    by_cases h64 : (64 : Int) < l.length
    · have hV := HV.out.symm.trans (ladChk_many HS.out (by omega))
      subst hV
      go_wp2
      go_ret2
      exact ⟨rfl, FB⟩
    · go_wp2
      clear l0 l1 l2 l3 s0 s1 s2 s3 lt1 lt0 FB
      go_loopw [24] (fun cv w' => ∃ k : Int, cv = .int .i64 k ∧ 0 ≤ k ∧ k ≤ l.length ∧ Aside0 (LadF w g i q m A l.length c w') ∧ Aside0 (∀ j : Int, 0 ≤ j → j < k → rgAt i q m l j = 0)) (fun cv _ => l.length - (intOf cv).toNat)
      case atStart => exact ⟨0, rfl, by omega, by omega, HF2, ⟨fun j h1 h2 => by omega⟩⟩
      case round =>
        clear HF2
        obtain ⟨k, rfl, b0, b1, HF, HA⟩ := hrel
        obtain ⟨l0, l1, l2, l3, s0, s1, s2, s3, lt1, lt0⟩ := HF.out.cells
        by_cases hk : k < l.length
        · obtain ⟨ad, A1, c1, A2, c2, rfl, x0, x1, x2, x3, hl1, hi1, hl2, hi2⟩ := PPrinterMatchesReference.at_T40 GR.out k b0 hk
          replace x0 := pw_cell_below HF.out.b x0
          replace x1 := pw_cell_below HF.out.b x1
          replace x2 := pw_cell_below HF.out.b x2
          replace x3 := pw_cell_below HF.out.b x3
          have hwr : wrap64 (k + 1) = k + 1 := w64 (by omega) (by omega)
          obtain ⟨hsl, hct, hcl⟩ := rungs_to GR.out hc b0 (by omega : k ≤ l.length)
          have HR := fun W (hW : Below w.heap.size w W) => rung_b i q m 0 (some ad) c (l.take k.toNat) (rdR l k) A1 c1 A2 c2 W (Kd.C_below hct hW) hcl (Kd.C_below hi1 hW) hl1 (Kd.C_below hi2 hW) hl2
          simp only [show (l.take k.toNat).length = k.toNat by rw [List.length_take]; omega] at HR hsl
          generalize hre : rungE i q m (l.take k.toNat) (rdR l k) = re at HR
          have HE := Aside0.mk (show rgAt i q m l k = re from hre)
          have HR' := Aside0.mk HR
          clear hre HR hl1 hi1 hl2 hi2 hct hcl
          have KR := blk_new wr (.cells #[.string (rdR l k).f0, .slice A1 (rdR l k).f1.length c1, .slice A2 (rdR l k).f2.length c2, .string (rdR l k).f3] 40)
          have n0 := blk_cell KR 0
          have n1 := blk_cell KR 1
          have n2 := blk_cell KR 2
          have n3 := blk_cell KR 3
          clear KR
          go_wp2
          have y0 : (wr.alloc (.cells #[.string (rdR l k).f0, .slice A1 (rdR l k).f1.length c1, .slice A2 (rdR l k).f2.length c2, .string (rdR l k).f3] 40)).cell? ⟨g, 0, none⟩ = some (.int .i64 i) := pw_cell_below (below_alloc (Below.refl _ _) _) s0
          have HF1 := Aside0.mk (HF.out.alloc (.cells #[.string (rdR l k).f0, .slice A1 (rdR l k).f1.length c1, .slice A2 (rdR l k).f2.length c2, .string (rdR l k).f3] 40)).drew
          go_region_held3 (fun w' => w'.cell? ⟨g, 0, none⟩ = some (.int .i64 i) ∧ w'.cell? ⟨g, 1, none⟩ = some (.int .i64 q) ∧ w'.cell? ⟨g, 2, none⟩ = some (.int .i64 m) ∧ w'.cell? ⟨g, 3, none⟩ = some (.int .i64 0) ∧ w'.cell? ⟨w.heap.size, 3, none⟩ = some (.slice (some ad) l.length c) ∧ w'.cell? ⟨wr.heap.size, 0, none⟩ = some (.string (rdR l k).f0) ∧ w'.cell? ⟨wr.heap.size, 1, none⟩ = some (.slice A1 (rdR l k).f1.length c1) ∧ w'.cell? ⟨wr.heap.size, 2, none⟩ = some (.slice A2 (rdR l k).f2.length c2) ∧ w'.cell? ⟨wr.heap.size, 3, none⟩ = some (.string (rdR l k).f3))
            (first | go_keep | (refine ⟨pw_cell_below hb ?_, pw_cell_below hb ?_, pw_cell_below hb ?_, pw_cell_below hb ?_, pw_cell_below hb ?_, pw_cell_below hb ?_, pw_cell_below hb ?_, pw_cell_below hb ?_, pw_cell_below hb ?_⟩ <;> go_keep))
            (first | (go_at_call 24; (with_reducible refine (HR'.out _ HF1.out.b).mono ?_); rintro e_ w3 ⟨rfl, hb⟩))
          have HF3 := Aside0.mk (HF1.out.step hb)
          by_cases hre : re = 0
          · subst hre
            go_wp2
            go_roundw
            case rel =>
              refine ⟨k + 1, by simp [hwr], by omega, by omega, HF3, ⟨fun j j0 j1 => ?_⟩⟩
              by_cases hj : j < k
              · exact HA.out j j0 hj
              · obtain rfl : j = k := by omega
                exact HE.out
            case measure => simp [intOf, hwr]; omega
          · have hV := HV.out.symm.trans (ladChk_rung HS.out (by omega) b0 hk HA.out HE.out hre)
            subst hV
            have FB := HF3.out.b
            go_wp2
            go_ret2
            exact ⟨rfl, FB⟩
        · obtain rfl : k = l.length := by omega
          go_wp2
          clear l0 l1 l2 l3 s0 s1 s2 s3 lt1 lt0 hk b0 b1
          have HZ := HA
          clear HA
          go_loopw [44] (fun cv w' => ∃ k : Int, cv = .int .i64 k ∧ 0 ≤ k ∧ k ≤ l.length ∧ Aside0 (LadF w g i q m A l.length c w') ∧ Aside0 (∀ j : Int, 0 ≤ j → j < k → jbAt l j = false)) (fun cv _ => l.length - (intOf cv).toNat)
          case atStart => exact ⟨0, rfl, by omega, by omega, HF, ⟨fun j h1 h2 => by omega⟩⟩
          case round =>
            clear HF
            obtain ⟨k, rfl, b0, b1, HF, HA⟩ := hrel
            obtain ⟨l0, l1, l2, l3, s0, s1, s2, s3, lt1, lt0⟩ := HF.out.cells
            by_cases hk : k < l.length
            · obtain ⟨ad, A1, c1, A2, c2, rfl, x0, x1, x2, x3, hl1, hi1, hl2, hi2⟩ := PPrinterMatchesReference.at_T40 GR.out k b0 hk
              clear hl1 hi1 hl2 hi2
              replace x0 := pw_cell_below HF.out.b x0
              replace x1 := pw_cell_below HF.out.b x1
              replace x2 := pw_cell_below HF.out.b x2
              replace x3 := pw_cell_below HF.out.b x3
              have hwr : wrap64 (k + 1) = k + 1 := w64 (by omega) (by omega)
              have hjb : jbAt l k = (!(rdR l k).f3.toList.isEmpty && !hasLab (l.drop (k + 1).toNat) (rdR l k).f3) := rfl
              by_cases j0 : (rdR l k).f3.toList = []
              · have j1 : (rdR l k).f3.toList.isEmpty = true := by rw [j0]; rfl
                have HJ := Aside0.mk (show jbAt l k = false by rw [hjb, j1]; rfl)
                have HF1 := fun o => Aside0.mk (HF.out.alloc o)
                clear hjb
                go_wp2
                go_roundw
                case rel =>
                  refine ⟨k + 1, by simp [hwr], by omega, by omega, HF1 _, ⟨fun j j0 j1 => ?_⟩⟩
                  by_cases hj : j < k
                  · exact HA.out j j0 hj
                  · obtain rfl : j = k := by omega
                    exact HJ.out
                case measure => simp [intOf, hwr]; omega
              · have j1 : (rdR l k).f3.toList.isEmpty = false := by simpa using j0
                obtain ⟨A', hsl, hct, hcl⟩ := rungs_from GR.out hc (show (0 : Int) ≤ k + 1 by omega) (by omega : k + 1 ≤ l.length)
                have HHas := fun W (hW : Below w.heap.size w W) (g2 : Nat) (h : W.cell? ⟨g2, 3, none⟩ = some (.string (rdR l k).f3)) => has_b A' (c - (k + 1).toNat) (l.drop (k + 1).toNat) (rdR l k).f3 g2 W (Kd.C_below hct hW) hcl h
                simp only [List.length_drop] at HHas hsl
                generalize hasLab (l.drop (k + 1).toNat) (rdR l k).f3 = hl at HHas hjb
                have HH := Aside0.mk HHas
                have HJ := Aside0.mk hjb
                have HF1 := Aside0.mk (HF.out.alloc (.cells #[.string (rdR l k).f0, .slice A1 (rdR l k).f1.length c1, .slice A2 (rdR l k).f2.length c2, .string (rdR l k).f3] 40))
                have n3 := Aside0.mk (blk_cell (blk_new wr (.cells #[.string (rdR l k).f0, .slice A1 (rdR l k).f1.length c1, .slice A2 (rdR l k).f2.length c2, .string (rdR l k).f3] 40)) 3)
                clear hct hcl HHas hjb
                go_wp2_with fail
                refine (HH.out _ HF1.out.b _ n3.out).mono ?_
                rintro e1 w3 ⟨rfl, hb⟩
                have HF3 := Aside0.mk (HF1.out.step hb)
                cases hl with
                | true =>
                  have HJ2 := Aside0.mk (show jbAt l k = false by rw [HJ.out, j1]; rfl)
                  go_wp2
                  go_roundw
                  case rel =>
                    refine ⟨k + 1, by simp [hwr], by omega, by omega, HF3, ⟨fun j j0 j1 => ?_⟩⟩
                    by_cases hj : j < k
                    · exact HA.out j j0 hj
                    · obtain rfl : j = k := by omega
                      exact HJ2.out
                  case measure => simp [intOf, hwr]; omega
                | false =>
                  have hV := HV.out.symm.trans (ladChk_jump HS.out (by omega) HZ.out b0 hk HA.out (by rw [HJ.out, j1]; rfl))
                  subst hV
                  have FB := HF3.out.b
                  go_wp2
                  go_ret2
                  exact ⟨rfl, FB⟩
            · obtain rfl : k = l.length := by omega
              have hV := HV.out.symm.trans (ladChk_ok HS.out (by omega) HZ.out HA.out)
              subst hV
              have FB := HF.out.b
              go_wp2
              go_ret2
              exact ⟨rfl, FB⟩
  · have hV := HV.out.symm.trans (ladChk_size (by rw [HS.out]; exact hs0))
    subst hV
    go_wp2
    go_ret2
    exact ⟨rfl, FB⟩
end Go.Proofs.YtolmkdhgnganaaaDoor.H
