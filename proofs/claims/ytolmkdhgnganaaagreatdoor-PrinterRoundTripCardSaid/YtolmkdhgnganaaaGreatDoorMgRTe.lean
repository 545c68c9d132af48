/-
  What the claim's row leans on, part 5: A ladder among the arguments: from its reading to what the contracts ask. From a row's listed variables to what lex.Lines reads; the row's call with the world's shape.
-/
import Derived.Test.YtolmkdhgnganaaaGreatDoorMgRTd
set_option linter.unusedVariables false
set_option linter.unusedSimpArgs false
namespace Go.Proofs.YtolmkdhgnganaaaGreatDoor.R
open Go Go.RowKit Go.Proofs Go.Proofs.YtolmkdhgnganaaaGreatDoorW.PrintWords Go.Proofs.YtolmkdhgnganaaaGreatDoor.H Go.ChangeShapes Go.WideShapes Go.ChangeAt Go.Deep
section
variable {H : Type} {enc : TypeId × Value → H} {w : World} {base : Nat} {sp : Nat → Bool} {held : Bool}
/-- A slice that is read: its elements, one by one. -/
theorem C_of_trod {P : Program} {α : Type} (d : Kd α) {t e : Nat} (ht : P.underlying t = some (.slice e)) (hce : P.cellsOf e = d.sz)
    (helem : ∀ n cs x, cs.length = d.sz → DataW.trod enc P w base sp held n e cs = some x → ∃ v, d.K w v cs) {fuel : Nat} {cs : List Value} {x : DataW H × List MemPlace}
    (h : DataW.trod enc P w base sp held fuel t cs = some x) : ∃ A c, ∃ xs : List α, cs = [.slice A xs.length c] ∧ xs.length ≤ c ∧ d.C w A xs.length xs := by
  rcases open_slice ht h with ⟨rfl, _⟩ | ⟨a, len, cap, m, n, D, Pl, rfl, hb, hl, hm, hme, _, hel⟩
  · exact ⟨none, 0, [], rfl, Nat.le_refl _, Kd.C_nil d w⟩
  · have key : ∀ i : Fin len, ∃ v : α, ∃ c, c.length = d.sz ∧ d.K w v c ∧ ∀ j u, c[j]? = some u → w.cell? (a.add (i.val * d.sz + j)) = some u := by
      intro i
      have hi : i.val < m := by rw [hme]; split <;> omega
      obtain ⟨cs', hc, htr⟩ := hel i.val hi
      obtain ⟨_, hlen, hcell⟩ := World.cells?_some hc
      rw [hce] at hlen hcell
      obtain ⟨v, hv⟩ := helem n cs' _ hlen htr
      refine ⟨v, cs', hlen, hv, fun j u hu => ?_⟩
      have hj : j < d.sz := by rw [← hlen]; exact (List.getElem?_eq_some_iff.1 hu).1
      have h1 := hcell j hj
      rw [hu] at h1
      rw [← Go.Deep.add_add]; exact h1
    have hlen : (List.ofFn fun i : Fin len => Classical.choose (key i)).length = len := List.length_ofFn
    refine ⟨some a, cap, List.ofFn fun i : Fin len => Classical.choose (key i), by rw [hlen], by rw [hlen]; exact hl, ?_⟩
    rw [hlen]
    refine ⟨hlen, by have : cap ≤ maxLen := hm; unfold maxLen at this; omega, fun _ => ⟨a, rfl, fun j p hj => ?_⟩⟩
    rw [List.getElem?_ofFn] at hj
    split at hj
    · rename_i hjl
      have e : Classical.choose (key ⟨j, hjl⟩) = p := by simpa using hj
      obtain ⟨c, h1, h2, h3⟩ := Classical.choose_spec (key ⟨j, hjl⟩)
      exact ⟨c, h1, e ▸ h2, h3⟩
    · cases hj
theorem int_el {P : Program} {t : Nat} {k : IntKind} {n : Nat} {c : Value} {y : DataW H × List MemPlace} (ht : P.underlying t = some (.int k)) (h : DataW.trod enc P w base sp held n t [c] = some y) : ∃ x, c = .int k x := by
  obtain ⟨x, hx, _⟩ := open_one ht h
  exact ⟨x, hx⟩
theorem str_el {P : Program} {t : Nat} {n : Nat} {c : Value} {y : DataW H × List MemPlace} (ht : P.underlying t = some .string) (h : DataW.trod enc P w base sp held n t [c] = some y) : ∃ s, c = .string s := by
  obtain ⟨s, hs, _⟩ := DataW.trod_string ht h
  exact ⟨s, by simpa using hs⟩
theorem cells2 : Tryz.prog.cellsOf 57 = 2 := by kernel_rfl
theorem cells1i : Tryz.prog.cellsOf 3 = 1 := by kernel_rfl
theorem cells1s : Tryz.prog.cellsOf 9 = 1 := by kernel_rfl
theorem cells1c : Tryz.prog.cellsOf 50 = 1 := by kernel_rfl
theorem cells1o : Tryz.prog.cellsOf 51 = 1 := by kernel_rfl
theorem addr_el {n : Nat} {c0 c1 : Value} {y : DataW H × List MemPlace} (h : DataW.trod enc Tryz.prog w base sp held n 57 [c0, c1] = some y) : ∃ x z, c0 = .int .i64 x ∧ c1 = .int .i64 z := by
  obtain ⟨y0, y1, n2, _, _, h0, h1⟩ := ChangeShapes.trod_struct2 Tryz.underlying57 h
  simp only [cells1i, List.drop_zero, List.drop_succ_cons, List.take_succ_cons, List.take_zero] at h0 h1
  obtain ⟨x, rfl⟩ := int_el Tryz.underlying3 h0
  obtain ⟨z, rfl⟩ := int_el Tryz.underlying3 h1
  exact ⟨x, z, rfl, rfl⟩
theorem con_el (n : Nat) (cs : List Value) (x : DataW H × List MemPlace) (hl : cs.length = kCon.sz) (h : DataW.trod enc Tryz.prog w base sp held n 59 cs = some x) : ∃ v, kCon.K w v cs := by
  have hl5 : cs.length = 5 := hl
  match cs, hl5 with
  | [c0, c1, c2, c3, c4], _ =>
    obtain ⟨y0, y1, y2, y3, n2, _, _, h0, h1, h2, h3⟩ := Joins.trod_struct4 Tryz.underlying59 h
    simp only [cells1i, cells2, cells1s, List.drop_zero, List.drop_succ_cons, List.take_succ_cons, List.take_zero] at h0 h1 h2 h3
    obtain ⟨k, rfl⟩ := int_el Tryz.underlying3 h0
    obtain ⟨a, b, rfl, rfl⟩ := addr_el h1
    obtain ⟨f, rfl⟩ := str_el Tryz.underlying9 h2
    obtain ⟨g, rfl⟩ := str_el Tryz.underlying9 h3
    exact ⟨⟨k, ⟨a, b⟩, f, g⟩, PPrinterRoundTrip.k59_mk w ⟨k, ⟨a, b⟩, f, g⟩⟩
theorem coil_el (n : Nat) (cs : List Value) (x : DataW H × List MemPlace) (hl : cs.length = kCoil.sz) (h : DataW.trod enc Tryz.prog w base sp held n 69 cs = some x) : ∃ v, kCoil.K w v cs := by
  have hl3 : cs.length = 3 := hl
  match cs, hl3 with
  | [c0, c1, c2], _ =>
    obtain ⟨y0, y1, n2, _, _, h0, h1⟩ := ChangeShapes.trod_struct2 Tryz.underlying69 h
    simp only [cells1i, cells2, List.drop_zero, List.drop_succ_cons, List.take_succ_cons, List.take_zero] at h0 h1
    obtain ⟨k, rfl⟩ := int_el Tryz.underlying3 h0
    obtain ⟨a, b, rfl, rfl⟩ := addr_el h1
    exact ⟨⟨k, ⟨a, b⟩⟩, PPrinterRoundTrip.k69_mk w ⟨k, ⟨a, b⟩⟩⟩
theorem rung_el (n : Nat) (cs : List Value) (x : DataW H × List MemPlace) (hl : cs.length = kRung.sz) (h : DataW.trod enc Tryz.prog w base sp held n 53 cs = some x) : ∃ v, kRung.K w v cs := by
  have hl4 : cs.length = 4 := hl
  match cs, hl4 with
  | [c0, c1, c2, c3], _ =>
    obtain ⟨y0, y1, y2, y3, n2, _, _, h0, h1, h2, h3⟩ := Joins.trod_struct4 Tryz.underlying53 h
    simp only [cells1s, cells1c, cells1o, List.drop_zero, List.drop_succ_cons, List.take_succ_cons, List.take_zero] at h0 h1 h2 h3
    obtain ⟨f, rfl⟩ := str_el Tryz.underlying9 h0
    obtain ⟨g, rfl⟩ := str_el Tryz.underlying9 h3
    obtain ⟨A1, k1, xs, e1, l1, C1⟩ := C_of_trod kCon Tryz.underlying50 (by kernel_rfl) con_el h1
    obtain ⟨A2, k2, ys, e2, l2, C2⟩ := C_of_trod kCoil Tryz.underlying51 (by kernel_rfl) coil_el h2
    obtain rfl : c1 = .slice A1 xs.length k1 := by simpa using e1
    obtain rfl : c2 = .slice A2 ys.length k2 := by simpa using e2
    exact ⟨⟨f, xs, ys, g⟩, PPrinterRoundTrip.k53_mk w ⟨f, xs, ys, g⟩ l1 C1 l2 C2⟩
set_option maxRecDepth 100000 in
/-- A ladder. -/
theorem open_lad {r : Reach} {b0 : Nat} {v : Value} {d : DataW H} {p : List MemPlace} (hv : Value.okWide Tryz.prog w r b0 24 v) (h : DataW.Trod enc Tryz.prog w base sp held 24 v d p) :
    ∃ i q m A c, ∃ l : List Rung, v = .agg #[.int .i64 i, .int .i64 q, .int .i64 m, .slice A l.length c] ∧ l.length ≤ c ∧ Kd.C kRung w A l.length l ∧
      (Lit.int .i64 i).wf = true ∧ (Lit.int .i64 q).wf = true ∧ (Lit.int .i64 m).wf = true := by
  obtain ⟨x, y, z, u, yx, yy, yz, yu, fu, rfl, _, _, e0, e1, e2, e3⟩ := Joins.open_agg4 Tryz.underlying24 (by kernel_rfl) (by kernel_rfl) hv h
  obtain ⟨i, rfl, wi⟩ := open_one Tryz.underlying3 e0
  obtain ⟨q, rfl, wq⟩ := open_one Tryz.underlying3 e1
  obtain ⟨m, rfl, wm⟩ := open_one Tryz.underlying3 e2
  obtain ⟨A, c, l, e, hl, hC⟩ := C_of_trod kRung Tryz.underlying22 (by kernel_rfl) rung_el e3
  obtain rfl : u = .slice A l.length c := by simpa using e
  exact ⟨i, q, m, A, c, l, rfl, hl, hC, wi, wq, wm⟩
end
theorem kws_of {w : World} (h : Lib.VarReads Tryz.prog w "busbar/parse.contacts" (.agg [.lit (.string [110, 111]), .lit (.string [110, 99]), .lit (.string [117, 112]), .lit (.string [100, 111, 119, 110])]))
    (h2 : Lib.VarReads Tryz.prog w "busbar/parse.coils" (.agg [.lit (.string [111, 117, 116]), .lit (.string [110, 111, 116]), .lit (.string [115, 101, 116]), .lit (.string [114, 101, 115, 101, 116])])) : Kws w := by
  have k := fun i hi bs hd => strs_cells (g := 0) h (by kernel_rfl) (by kernel_rfl) Tryz.underlying112 Tryz.underlying9 (by kernel_rfl) i hi bs hd
  have k2 := fun i hi bs hd => strs_cells (g := 1) h2 (by kernel_rfl) (by kernel_rfl) Tryz.underlying112 Tryz.underlying9 (by kernel_rfl) i hi bs hd
  refine ⟨fun j hj => ?_, fun j hj => ?_⟩
  · match j, hj with
    | 0, hj => exact k 0 hj _ rfl
    | 1, hj => exact k 1 hj _ rfl
    | 2, hj => exact k 2 hj _ rfl
    | 3, hj => exact k 3 hj _ rfl
  · match j, hj with
    | 0, hj => exact k2 0 hj _ rfl
    | 1, hj => exact k2 1 hj _ rfl
    | 2, hj => exact k2 2 hj _ rfl
    | 3, hj => exact k2 3 hj _ rfl
end Go.Proofs.YtolmkdhgnganaaaGreatDoor.R
namespace Go.Proofs.YtolmkdhgnganaaaGreatDoor.R
open Go Go.RowKit Go.Proofs Go.Proofs.YtolmkdhgnganaaaGreatDoorW.PrintWords Go.Proofs.YtolmkdhgnganaaaGreatDoor.H Go.ChangeShapes Go.WideShapes Go.ChangeAt
/-- A call of a row that lists variables: its contract may ask for the world's shape. -/
theorem handed_sh {H : Type} {enc : TypeId × Value → H} {a : Assume} {C : Checked} {os : Os} {f : FuncId} {fn : Func} {s : ChangeSpec} {conds : List PathCond} {apart fresh handsOn again : Bool} {X : World → Array Value → Prop}
    (keep : ∀ (u v : World) (args : Array Value), u.heap = v.heap → X u args → X v args) (ow : ownKnob C.prog.godebug = none) (st : os.Started) (ni : C.prog.inits.idxOf? f = none) (hf : C.prog.funcs[f]? = some fn)
    (wit : ∃ (w : World) (tape : Tape) (i : Input), w.os = os ∧ (w.forCall tape i).Shaped C.prog ∧ i.vars = [] ∧ Input.okWide C.prog (w.forCall tape i) .any w.heap.size f i ∧
      ((s.pre enc C.prog fn conds apart (w.forCall tape i).memory i.args ∧ X (w.forCall tape i).memory i.args) ∧ sizedMet enc C.prog fn (OpenSpec.ofChange s) apart (w.forCall tape i).memory i.args) ∧ a.holds C.prog (lone (Frame.enter C.prog f i.args .normal) [] (w.forCall tape i)))
    (con : ∀ (W : World) (base : Nat) (args : Array Value) (ds gs : List (DataW H)) (before : List MemPlace), (∀ (j : Nat) t v, fn.params[j]? = some t → args[j]? = some v → Value.okWide C.prog W .any base t v) →
      DataW.Whole enc C.prog fn.params.toList s.vars apart W args.toList ds gs before → conds.all (PathCond.test C.prog ⟨fn.params.toList, ds, s.plain.varTypes C.prog, gs⟩) = true →
      (DataW.weightsEach C.prog (fn.params.toList ++ s.plain.varTypes C.prog) (ds ++ gs)).all (· ≤ reachBytes) = true → X W args → W.ShapedOpen C.prog →
      Calls C.prog f args W fun e W' => ∃ v, e = .returned v ∧ s.post enc C.prog fn apart fresh handsOn again W args v W') :
    ReturnsInHanded a C os f .any (fun w args => (s.pre enc C.prog fn conds apart w args ∧ X w args) ∧ sizedMet enc C.prog fn (OpenSpec.ofChange s) apart w args) (s.post enc C.prog fn apart fresh handsOn again) := by
  refine returnsInHanded_of_calls ow st ni wit ?_
  intro w tape i _ sh _ ok pre _
  obtain ⟨_, _, _, g, hg, _, _, _, _, val⟩ := ok
  obtain rfl : g = fn := Option.some.inj (hg.symm.trans hf)
  obtain ⟨⟨⟨ds, gs, before, hw, hc⟩, hx⟩, hz⟩ := pre
  refine (con (w.forCall tape i) w.heap.size i.args ds gs before val (DataW.Whole.of_heap (w' := w.forCall tape i) (by rfl) hw) hc (hz.weights hw) (keep _ _ _ (by rfl) hx) sh).mono ?_
  rintro e W' ⟨v, rfl, hp⟩
  exact ChangeSpec.post_blind hp
theorem lexg_of {w : World} {d : DataW Unit} (h : Lib.VarReads Tryz.prog w "strings.asciiSpace" d) (hd : d = Lib.tabData .u8 Lib.asciiSpaceTab) (sh : w.ShapedOpen Tryz.prog) : LexG w :=
  ⟨cell_of_shapedOpen_int (zero := #[.int .i64 0]) (t := 3) sh (of_decide_eq_true (by kernel_rfl)) (by kernel_rfl) rfl (by kernel_rfl) (by kernel_rfl) Tryz.underlying3,
   tab_reads (g := 4) h hd (by kernel_rfl) (by kernel_rfl) Tryz.underlying151 Tryz.underlying5 (by kernel_rfl) (by kernel_rfl)⟩
end Go.Proofs.YtolmkdhgnganaaaGreatDoor.R
