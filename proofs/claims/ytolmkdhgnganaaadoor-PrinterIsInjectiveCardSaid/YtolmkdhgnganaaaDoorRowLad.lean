/-
  A ladder among the arguments: from its reading to what the contracts ask.
-/
import Derived.Test.YtolmkdhgnganaaaDoorRowKit
import Derived.Test.YtolmkdhgnganaaaDoorLad
import Derived.Test.YtolmkdhgnganaaaDoorKw
set_option linter.unusedVariables false
set_option linter.unusedSimpArgs false
namespace Go.Proofs.YtolmkdhgnganaaaDoor.R
open Go Go.RowKit Go.Proofs Go.Proofs.YtolmkdhgnganaaaDoorW.PrintWords Go.Proofs.YtolmkdhgnganaaaDoor.H Go.ChangeShapes Go.WideShapes Go.ChangeAt Go.Deep
section
variable {H : Type} {enc : TypeId × Value → H} {w : World} {base : Nat} {sp : Nat → Bool} {held : Bool}

/-- A slice that is read: its elements, one by one. -/
theorem C_of_trod {P : Program} {α : Type} (d : Kd α) {t e : Nat} (ht : P.underlying t = some (.slice e)) (hce : P.cellsOf e = d.sz)
    (helem : ∀ n cs x, cs.length = d.sz → DataW.trod enc P w base sp held n e cs = some x → ∃ v, d.K w v cs) {fuel : Nat} {cs : List Value} {x : DataW H × List MemPlace}
    (h : DataW.trod enc P w base sp held fuel t cs = some x) : ∃ A c, ∃ xs : List α, cs = [.slice A xs.length c] ∧ xs.length ≤ c ∧ d.C w A xs.length xs := by
  rcases open_slice ht h with ⟨rfl, _⟩ | ⟨a, len, cap, m, n, D, Pl, rfl, hb, hl, hm, hme, _, hel⟩
  · exact ⟨none, 0, [], rfl, Nat.le_refl _, Kd.C_nil d w⟩
  · have key : ∀ i : Fin len, ∃ v : α, ∃ c, c.length = d.sz ∧ d.K w v c ∧ ∀ j u, c[j]? = some u → w.cell? (a.add (i.val * d.sz + j)) = some u := by
      intro i
      have hi : i.val < m := by rw [hme]; split <;> omega
      obtain ⟨cs', hc, htr⟩ := hel i.val hi
      obtain ⟨_, hlen, hcell⟩ := World.cells?_some hc
      rw [hce] at hlen hcell
      obtain ⟨v, hv⟩ := helem n cs' _ hlen htr
      refine ⟨v, cs', hlen, hv, fun j u hu => ?_⟩
      have hj : j < d.sz := by rw [← hlen]; exact (List.getElem?_eq_some_iff.1 hu).1
      have h1 := hcell j hj
      rw [hu] at h1
      rw [← Go.Deep.add_add]; exact h1
    have hlen : (List.ofFn fun i : Fin len => Classical.choose (key i)).length = len := List.length_ofFn
    refine ⟨some a, cap, List.ofFn fun i : Fin len => Classical.choose (key i), by rw [hlen], by rw [hlen]; exact hl, ?_⟩
    rw [hlen]
    refine ⟨hlen, by have : cap ≤ maxLen := hm; unfold maxLen at this; omega, fun _ => ⟨a, rfl, fun j p hj => ?_⟩⟩
    rw [List.getElem?_ofFn] at hj
    split at hj
    · rename_i hjl
      have e : Classical.choose (key ⟨j, hjl⟩) = p := by simpa using hj
      obtain ⟨c, h1, h2, h3⟩ := Classical.choose_spec (key ⟨j, hjl⟩)
      exact ⟨c, h1, e ▸ h2, h3⟩
    · cases hj
theorem int_el {P : Program} {t : Nat} {k : IntKind} {n : Nat} {c : Value} {y : DataW H × List MemPlace} (ht : P.underlying t = some (.int k)) (h : DataW.trod enc P w base sp held n t [c] = some y) : ∃ x, c = .int k x := by
  obtain ⟨x, hx, _⟩ := open_one ht h
  exact ⟨x, hx⟩
theorem str_el {P : Program} {t : Nat} {n : Nat} {c : Value} {y : DataW H × List MemPlace} (ht : P.underlying t = some .string) (h : DataW.trod enc P w base sp held n t [c] = some y) : ∃ s, c = .string s := by
  obtain ⟨s, hs, _⟩ := DataW.trod_string ht h
  exact ⟨s, by simpa using hs⟩
theorem cells2 : Tryd.prog.cellsOf 47 = 2 := by kernel_rfl
theorem cells1i : Tryd.prog.cellsOf 3 = 1 := by kernel_rfl
theorem cells1s : Tryd.prog.cellsOf 9 = 1 := by kernel_rfl
theorem cells1c : Tryd.prog.cellsOf 37 = 1 := by kernel_rfl
theorem cells1o : Tryd.prog.cellsOf 38 = 1 := by kernel_rfl
theorem addr_el {n : Nat} {c0 c1 : Value} {y : DataW H × List MemPlace} (h : DataW.trod enc Tryd.prog w base sp held n 47 [c0, c1] = some y) : ∃ x z, c0 = .int .i64 x ∧ c1 = .int .i64 z := by
  obtain ⟨y0, y1, n2, _, _, h0, h1⟩ := ChangeShapes.trod_struct2 Tryd.underlying47 h
  simp only [cells1i, List.drop_zero, List.drop_succ_cons, List.take_succ_cons, List.take_zero] at h0 h1
  obtain ⟨x, rfl⟩ := int_el Tryd.underlying3 h0
  obtain ⟨z, rfl⟩ := int_el Tryd.underlying3 h1
  exact ⟨x, z, rfl, rfl⟩
theorem con_el (n : Nat) (cs : List Value) (x : DataW H × List MemPlace) (hl : cs.length = kCon.sz) (h : DataW.trod enc Tryd.prog w base sp held n 49 cs = some x) : ∃ v, kCon.K w v cs := by
  have hl5 : cs.length = 5 := hl
  match cs, hl5 with
  | [c0, c1, c2, c3, c4], _ =>
    obtain ⟨y0, y1, y2, y3, n2, _, _, h0, h1, h2, h3⟩ := Joins.trod_struct4 Tryd.underlying49 h
    simp only [cells1i, cells2, cells1s, List.drop_zero, List.drop_succ_cons, List.take_succ_cons, List.take_zero] at h0 h1 h2 h3
    obtain ⟨k, rfl⟩ := int_el Tryd.underlying3 h0
    obtain ⟨a, b, rfl, rfl⟩ := addr_el h1
    obtain ⟨f, rfl⟩ := str_el Tryd.underlying9 h2
    obtain ⟨g, rfl⟩ := str_el Tryd.underlying9 h3
    exact ⟨⟨k, ⟨a, b⟩, f, g⟩, PPrinterMatchesReference.k49_mk w ⟨k, ⟨a, b⟩, f, g⟩⟩
theorem coil_el (n : Nat) (cs : List Value) (x : DataW H × List MemPlace) (hl : cs.length = kCoil.sz) (h : DataW.trod enc Tryd.prog w base sp held n 52 cs = some x) : ∃ v, kCoil.K w v cs := by
  have hl3 : cs.length = 3 := hl
  match cs, hl3 with
  | [c0, c1, c2], _ =>
    obtain ⟨y0, y1, n2, _, _, h0, h1⟩ := ChangeShapes.trod_struct2 Tryd.underlying52 h
    simp only [cells1i, cells2, List.drop_zero, List.drop_succ_cons, List.take_succ_cons, List.take_zero] at h0 h1
    obtain ⟨k, rfl⟩ := int_el Tryd.underlying3 h0
    obtain ⟨a, b, rfl, rfl⟩ := addr_el h1
    exact ⟨⟨k, ⟨a, b⟩⟩, PPrinterMatchesReference.k52_mk w ⟨k, ⟨a, b⟩⟩⟩
theorem rung_el (n : Nat) (cs : List Value) (x : DataW H × List MemPlace) (hl : cs.length = kRung.sz) (h : DataW.trod enc Tryd.prog w base sp held n 40 cs = some x) : ∃ v, kRung.K w v cs := by
  have hl4 : cs.length = 4 := hl
  match cs, hl4 with
  | [c0, c1, c2, c3], _ =>
    obtain ⟨y0, y1, y2, y3, n2, _, _, h0, h1, h2, h3⟩ := Joins.trod_struct4 Tryd.underlying40 h
    simp only [cells1s, cells1c, cells1o, List.drop_zero, List.drop_succ_cons, List.take_succ_cons, List.take_zero] at h0 h1 h2 h3
    obtain ⟨f, rfl⟩ := str_el Tryd.underlying9 h0
    obtain ⟨g, rfl⟩ := str_el Tryd.underlying9 h3
    obtain ⟨A1, k1, xs, e1, l1, C1⟩ := C_of_trod kCon Tryd.underlying37 (by kernel_rfl) con_el h1
    obtain ⟨A2, k2, ys, e2, l2, C2⟩ := C_of_trod kCoil Tryd.underlying38 (by kernel_rfl) coil_el h2
    obtain rfl : c1 = .slice A1 xs.length k1 := by simpa using e1
    obtain rfl : c2 = .slice A2 ys.length k2 := by simpa using e2
    exact ⟨⟨f, xs, ys, g⟩, PPrinterMatchesReference.k40_mk w ⟨f, xs, ys, g⟩ l1 C1 l2 C2⟩
set_option maxRecDepth 100000 in
/-- A ladder. -/
theorem open_lad {r : Reach} {b0 : Nat} {v : Value} {d : DataW H} {p : List MemPlace} (hv : Value.okWide Tryd.prog w r b0 24 v) (h : DataW.Trod enc Tryd.prog w base sp held 24 v d p) :
    ∃ i q m A c, ∃ l : List Rung, v = .agg #[.int .i64 i, .int .i64 q, .int .i64 m, .slice A l.length c] ∧ l.length ≤ c ∧ Kd.C kRung w A l.length l ∧
      (Lit.int .i64 i).wf = true ∧ (Lit.int .i64 q).wf = true ∧ (Lit.int .i64 m).wf = true := by
  obtain ⟨x, y, z, u, yx, yy, yz, yu, fu, rfl, _, _, e0, e1, e2, e3⟩ := Joins.open_agg4 Tryd.underlying24 (by kernel_rfl) (by kernel_rfl) hv h
  obtain ⟨i, rfl, wi⟩ := open_one Tryd.underlying3 e0
  obtain ⟨q, rfl, wq⟩ := open_one Tryd.underlying3 e1
  obtain ⟨m, rfl, wm⟩ := open_one Tryd.underlying3 e2
  obtain ⟨A, c, l, e, hl, hC⟩ := C_of_trod kRung Tryd.underlying22 (by kernel_rfl) rung_el e3
  obtain rfl : u = .slice A l.length c := by simpa using e
  exact ⟨i, q, m, A, c, l, rfl, hl, hC, wi, wq, wm⟩
set_option maxRecDepth 100000 in
/-- A rung. -/
theorem open_rung {r : Reach} {b0 : Nat} {v : Value} {d : DataW H} {p : List MemPlace} (hv : Value.okWide Tryd.prog w r b0 40 v) (h : DataW.Trod enc Tryd.prog w base sp held 40 v d p) :
    ∃ (x : Rung) (A : Option Addr) (c : Nat) (B : Option Addr) (e : Nat), v = .agg #[.string x.f0, .slice A x.f1.length c, .slice B x.f2.length e, .string x.f3] ∧ x.f1.length ≤ c ∧ Kd.C kCon w A x.f1.length x.f1 ∧ x.f2.length ≤ e ∧ Kd.C kCoil w B x.f2.length x.f2 := by
  obtain ⟨x, y, z, u, yx, yy, yz, yu, fu, rfl, _, _, e0, e1, e2, e3⟩ := Joins.open_agg4 Tryd.underlying40 (by kernel_rfl) (by kernel_rfl) hv h
  obtain ⟨f, rfl⟩ := str_el Tryd.underlying9 e0
  obtain ⟨g, rfl⟩ := str_el Tryd.underlying9 e3
  obtain ⟨A1, k1, xs, q1, l1, C1⟩ := C_of_trod kCon Tryd.underlying37 (by kernel_rfl) con_el e1
  obtain ⟨A2, k2, ys, q2, l2, C2⟩ := C_of_trod kCoil Tryd.underlying38 (by kernel_rfl) coil_el e2
  obtain rfl : y = .slice A1 xs.length k1 := by simpa using q1
  obtain rfl : z = .slice A2 ys.length k2 := by simpa using q2
  exact ⟨⟨f, xs, ys, g⟩, A1, k1, A2, k2, rfl, l1, C1, l2, C2⟩
/-- An array of two whole numbers. -/
theorem open_arr2 {P : Program} {r : Reach} {b0 : Nat} {t e : TypeId} {k : IntKind} {v : Value} {d : DataW H} {p : List MemPlace} (ht : P.underlying t = some (.array 2 e)) (he : P.underlying e = some (.int k)) (hce : P.cellsOf e = 1) (hct : P.cellsOf t = 2)
    (hv : Value.okWide P w r b0 t v) (h : DataW.Trod enc P w base sp held t v d p) :
    ∃ x y, v = .agg #[.int k x, .int k y] ∧ (Lit.int k x).wf = true ∧ (Lit.int k y).wf = true := by
  obtain ⟨cs, rfl, hsz⟩ : ∃ cs, v = .agg cs ∧ cs.size = P.cellsOf t := by
    simp only [Value.okWide, ht] at hv
    obtain ⟨cs, h1, h2, _⟩ := hv
    exact ⟨cs, h1, h2⟩
  obtain ⟨c0, c1, rfl⟩ := Joins.array2 (hsz.trans hct)
  obtain ⟨fuel, hf⟩ := h
  obtain ⟨d, hd⟩ : ∃ ds, d = .agg ds := by
    cases fuel with
    | zero => simp [DataW.trod] at hf
    | succ fuel =>
      simp only [DataW.trod, ht] at hf
      split at hf
      · obtain ⟨xs, hm, hx⟩ := Option.map_eq_some_iff.1 hf
        simp only [Prod.mk.injEq] at hx
        exact ⟨_, hx.1.symm⟩
      · cases hf
  subst hd
  have key : ∀ i (hi : i < 2) (c : Value), ([c0, c1] : List Value)[i]? = some c → ∃ x, c = .int k x ∧ (Lit.int k x).wf = true := by
    intro i hi c hc
    obtain ⟨f2, d2, q, e1, e2⟩ := Lib.array_elem ht hf i hi
    rw [hce] at e2
    obtain ⟨x, hx, _, hw⟩ := DataW.trod_int he e2
    have := congrArg (·[0]?) hx
    refine ⟨x, ?_, hw⟩
    simp only [Value.cells, List.getElem?_take, List.getElem?_drop] at this
    simp only [Nat.mul_one, Nat.add_zero, Nat.zero_lt_one, if_true] at this
    simpa [hc] using this
  obtain ⟨x, rfl, wx⟩ := key 0 (by omega) c0 rfl
  obtain ⟨y, rfl, wy⟩ := key 1 (by omega) c1 rfl
  exact ⟨x, y, rfl, wx, wy⟩
end
theorem kws_of {w : World} (h : Lib.VarReads Tryd.prog w "busbar/parse.contacts" (.agg [.lit (.string [110, 111]), .lit (.string [110, 99]), .lit (.string [117, 112]), .lit (.string [100, 111, 119, 110])]))
    (h2 : Lib.VarReads Tryd.prog w "busbar/parse.coils" (.agg [.lit (.string [111, 117, 116]), .lit (.string [110, 111, 116]), .lit (.string [115, 101, 116]), .lit (.string [114, 101, 115, 101, 116])])) : Kws w := by
  have k := fun i hi bs hd => strs_cells (g := 0) h (by kernel_rfl) (by kernel_rfl) Tryd.underlying105 Tryd.underlying9 (by kernel_rfl) i hi bs hd
  have k2 := fun i hi bs hd => strs_cells (g := 1) h2 (by kernel_rfl) (by kernel_rfl) Tryd.underlying105 Tryd.underlying9 (by kernel_rfl) i hi bs hd
  refine ⟨fun j hj => ?_, fun j hj => ?_⟩
  · match j, hj with
    | 0, hj => exact k 0 hj _ rfl
    | 1, hj => exact k 1 hj _ rfl
    | 2, hj => exact k 2 hj _ rfl
    | 3, hj => exact k 3 hj _ rfl
  · match j, hj with
    | 0, hj => exact k2 0 hj _ rfl
    | 1, hj => exact k2 1 hj _ rfl
    | 2, hj => exact k2 2 hj _ rfl
    | 3, hj => exact k2 3 hj _ rfl
end Go.Proofs.YtolmkdhgnganaaaDoor.R
