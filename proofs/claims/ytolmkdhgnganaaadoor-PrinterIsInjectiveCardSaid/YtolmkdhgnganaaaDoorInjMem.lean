/-
  PrinterIsInjective in memory: the ladder that is built by appends (each rung's rows made anew), while its loop runs, and one part of it stored anew.
-/
import Derived.Test.YtolmkdhgnganaaaDoorChk3
import Derived.Test.YtolmkdhgnganaaaDoorWApart
set_option linter.unusedVariables false
set_option linter.unusedSimpArgs false
namespace Go.Proofs.YtolmkdhgnganaaaDoor.H
open Go Go.RowKit Go.Proofs Go.Proofs.YtolmkdhgnganaaaDoorW.PrintWords Go.Proofs.YtolmkdhgnganaaaDoor.Sp

/-- A row made since W. -/
def XR {α : Type} (d : Kd α) (e : Nat) (W w : World) (v : Value) (xs : List α) : Prop := d.R e w W.heap.size (fun k => W.heap.size ≤ k) v xs
section
variable {α β : Type} {d : Kd α} {d2 : Kd β} {e e2 : Nat} {W w w1 : World} {u v : Value} {xs : List α} {ys : List β}
theorem XR.below (h : XR d e W w v xs) (hb : Below w.heap.size w w1) : XR d e W w1 v xs := Kd.R_below h hb
theorem XR.empty (hb : W.heap.size ≤ w.heap.size) : XR d e W (w.alloc (.cells #[] e)) (.slice (some ⟨w.heap.size, 0, none⟩) 0 0) [] :=
  ⟨fun k hk => by
    have : w.heap.size = k := by simpa [Value.ownBlock] using hk
    omega, OwnRow.lit w W.heap.size (Reps.none _ _) hb (by simp)⟩
theorem XR.over (h : XR d e W w u xs) (h2 : XR d2 e2 W w v ys) (ht : ∀ q, q ∈ e :: d.E → q ≠ e2) (hg : w.grownBy w1 v.ownBlock) : XR d e W w1 u xs := Kd.R_over' h (Kd.R_typed h2) ht hg
theorem XR.form (h : XR d e W w v xs) : ∃ A c, v = .slice A xs.length c := by
  obtain ⟨A, c, e, _, _⟩ := Kd.R_reads h
  exact ⟨A, c, e⟩
end

abbrev InjS := Value × Value × Value × Value
/-- Which operations have run: 6, 9 (the contacts' row: empty, filled), 10, 13 (the coils'). -/
structure InjF (W : World) (x : Rung) (d6 d9 d10 d13 : Bool) (s : InjS) (w' : World) : Prop where
  b : Below W.heap.size W w'
  o6 : d6 = true → d9 = false → XR kCon 49 W w' s.1 []
  o9 : d9 = true → XR kCon 49 W w' s.2.1 x.f1
  o10 : d10 = true → d13 = false → XR kCoil 52 W w' s.2.2.1 []
  o13 : d13 = true → XR kCoil 52 W w' s.2.2.2 x.f2
theorem InjF.start (W : World) (x : Rung) (s : InjS) : InjF W x false false false false s W := ⟨Below.refl _ _, nofun, nofun, nofun, nofun⟩
section
variable {W w' w1 : World} {x : Rung} {d6 d9 d10 d13 : Bool} {v6 v9 v10 v13 : Value}
theorem InjF.below {s : InjS} (h : InjF W x d6 d9 d10 d13 s w') (hb : Below w'.heap.size w' w1) : InjF W x d6 d9 d10 d13 s w1 :=
  ⟨below_step h.b hb, fun a b => (h.o6 a b).below hb, fun a => (h.o9 a).below hb, fun a b => (h.o10 a b).below hb, fun a => (h.o13 a).below hb⟩
theorem InjF.s6 (h : InjF W x false false d10 d13 (v6, v9, v10, v13) w') : InjF W x true false d10 d13 (.slice (some ⟨w'.heap.size, 0, none⟩) 0 0, v9, v10, v13) (w'.alloc (.cells #[] 49)) where
  b := below_alloc h.b _
  o6 := fun _ _ => XR.empty h.b.size
  o9 := nofun
  o10 := fun a b => (h.o10 a b).below (below_alloc (Below.refl _ _) _)
  o13 := fun a => (h.o13 a).below (below_alloc (Below.refl _ _) _)
theorem InjF.s10 (h : InjF W x d6 d9 false false (v6, v9, v10, v13) w') : InjF W x d6 d9 true false (v6, v9, .slice (some ⟨w'.heap.size, 0, none⟩) 0 0, v13) (w'.alloc (.cells #[] 52)) where
  b := below_alloc h.b _
  o6 := fun a b => (h.o6 a b).below (below_alloc (Below.refl _ _) _)
  o9 := fun a => (h.o9 a).below (below_alloc (Below.refl _ _) _)
  o10 := fun _ _ => XR.empty h.b.size
  o13 := nofun
theorem InjF.s9 (h : InjF W x true false d10 d13 (v6, v9, v10, v13) w') {v1 : Value} (hr : XR kCon 49 W w1 v1 ([] ++ x.f1)) (hb : Below W.heap.size W w1) (hg : w'.grownBy w1 v6.ownBlock) :
    InjF W x true true d10 d13 (v6, v1, v10, v13) w1 where
  b := hb
  o6 := nofun
  o9 := fun _ => hr
  o10 := fun a b => (h.o10 a b).over (h.o6 rfl rfl) (by decide) hg
  o13 := fun a => (h.o13 a).over (h.o6 rfl rfl) (by decide) hg
theorem InjF.s13 (h : InjF W x d6 true true false (v6, v9, v10, v13) w') {v1 : Value} (hr : XR kCoil 52 W w1 v1 ([] ++ x.f2)) (hb : Below W.heap.size W w1) (hg : w'.grownBy w1 v10.ownBlock) :
    InjF W x d6 true true true (v6, v9, v10, v1) w1 where
  b := hb
  o6 := nofun
  o9 := fun a => (h.o9 a).over (h.o10 rfl rfl) (by decide) hg
  o10 := nofun
  o13 := fun _ => hr
/-- The rung that has been made. -/
theorem InjF.made (h : InjF W x d6 true d10 true (v6, v9, v10, v13) w') {B : Nat} (hB : B ≤ W.heap.size) : kRung.M w' B (fun k => W.heap.size ≤ k) x [.string x.f0, v9, v13, .string x.f3] :=
  PPrinterMatchesReference.k40_mkM w' B _ x (Kd.R_lower (h.o9 rfl) hB) (Kd.R_lower (h.o13 rfl) hB)
end

/-- While the loop runs: the boxes of the arguments, the new ladder's block gm, its rungs' row v. -/
structure LpF (w : World) (i q m : Int) (A : Option Addr) (n c : Nat) (a0 a1 : Int) (gm : Nat) (i' : Int) (lk : List Rung) (v : Value) (wr : World) : Prop where
  b : Below w.heap.size w wr
  kl : wr.heap[w.heap.size]? = some (.cells #[.int .i64 i, .int .i64 q, .int .i64 m, .slice A n c] 24 (0, 0))
  ka : wr.heap[w.heap.size + 1]? = some (.cells #[.int .u8 a0, .int .u8 a1] 43 (0, 0))
  gb : w.heap.size + 2 ≤ gm
  km : wr.heap[gm]? = some (.cells #[.int .i64 i', .int .i64 q, .int .i64 m, v] 24 (0, 0))
  s : Kd.S kRung 40 wr w.heap.size (fun _ => True) v lk
section
variable {w wr w1 : World} {i q m : Int} {A : Option Addr} {n c : Nat} {a0 a1 : Int} {gm : Nat} {i' : Int} {lk : List Rung} {v : Value}
theorem LpF.below (h : LpF w i q m A n c a0 a1 gm i' lk v wr) (hb : Below wr.heap.size wr w1) : LpF w i q m A n c a0 a1 gm i' lk v w1 :=
  ⟨below_step h.b hb, blk_below h.kl hb, blk_below h.ka hb, h.gb, blk_below h.km hb, Kd.S_below h.s hb⟩
theorem types_lad : ∀ t, t ∈ 40 :: kRung.E → t ≠ 24 := by decide
/-- A rung has been put behind the row, and the row stored. -/
theorem LpF.put (h : LpF w i q m A n c a0 a1 gm i' lk v wr) {lk' : List Rung} {v1 : Value} (hs : Kd.S kRung 40 w1 w.heap.size (fun _ => True) v1 lk') (hb : Below w.heap.size w w1) (hg : wr.grownBy w1 v.ownBlock) :
    w1.heap[gm]? = some (.cells #[.int .i64 i', .int .i64 q, .int .i64 m, v] 24 (0, 0)) ∧ LpF w i q m A n c a0 a1 gm i' lk' v1 (w1.setCell ⟨gm, 3, none⟩ v1) := by
  have far : ∀ {g t : Nat} {cs : Array Value}, wr.heap[g]? = some (.cells cs t (0, 0)) → 40 ≠ t → w1.heap[g]? = some (.cells cs t (0, 0)) := fun {g t cs} hh ht => (hg.block g (blk_lt hh) (Kd.S_ne h.s hh ht)).trans hh
  have kl := far h.kl (by decide)
  have ka := far h.ka (by decide)
  have km := far h.km (by decide)
  have gb := h.gb
  refine ⟨km, below_set hb (by omega), blk_far kl (by show w.heap.size ≠ gm; omega) _, blk_far ka (by show w.heap.size + 1 ≠ gm; omega) _, gb, ?_, Kd.S_set hs km types_lad 3 v1⟩
  have := blk_set km 3 v1
  simpa using this
/-- Its number of inputs has been stored. -/
theorem LpF.inp (h : LpF w i q m A n c a0 a1 gm i' lk v wr) (y : Int) : LpF w i q m A n c a0 a1 gm y lk v (wr.setCell ⟨gm, 0, none⟩ (.int .i64 y)) := by
  have gb := h.gb
  refine ⟨below_set h.b (by omega), blk_far h.kl (by show w.heap.size ≠ gm; omega) _, blk_far h.ka (by show w.heap.size + 1 ≠ gm; omega) _, gb, ?_, Kd.S_set h.s h.km types_lad 0 _⟩
  have := blk_set h.km 0 (.int .i64 y)
  simpa using this
/-- The boxes' cells. -/
theorem LpF.cells (h : LpF w i q m A n c a0 a1 gm i' lk v wr) : wr.cell? ⟨w.heap.size, 0, none⟩ = some (.int .i64 i) ∧ wr.cell? ⟨w.heap.size, 1, none⟩ = some (.int .i64 q) ∧ wr.cell? ⟨w.heap.size, 2, none⟩ = some (.int .i64 m) ∧ wr.cell? ⟨w.heap.size, 3, none⟩ = some (.slice A n c) ∧
    wr.cell? ⟨w.heap.size + 1, 0, none⟩ = some (.int .u8 a0) ∧ wr.cell? ⟨w.heap.size + 1, 1, none⟩ = some (.int .u8 a1) ∧
    wr.cell? ⟨gm, 0, none⟩ = some (.int .i64 i') ∧ wr.cell? ⟨gm, 1, none⟩ = some (.int .i64 q) ∧ wr.cell? ⟨gm, 2, none⟩ = some (.int .i64 m) ∧ wr.cell? ⟨gm, 3, none⟩ = some v :=
  ⟨blk_cell h.kl 0, blk_cell h.kl 1, blk_cell h.kl 2, blk_cell h.kl 3, blk_cell h.ka 0, blk_cell h.ka 1, blk_cell h.km 0, blk_cell h.km 1, blk_cell h.km 2, blk_cell h.km 3⟩
/-- What S_append asks of the row so far, where the next rung's rows have been made since W. -/
theorem LpF.elder {W : World} (h : LpF w i q m A n c a0 a1 gm i' lk v W) (hb : Below W.heap.size W w1) : Kd.S kRung 40 w1 w.heap.size (fun k => True ∧ ¬ W.heap.size ≤ k) v lk :=
  Kd.S_mono (Kd.S_old h.s hb) (fun k hk => ⟨trivial, by have := hk.2; omega⟩)
theorem LpF.apart {W : World} (h : LpF w i q m A n c a0 a1 gm i' lk v W) : ∀ k, W.heap.size ≤ k → True ∧ some k ≠ v.ownBlock := fun k hk => ⟨trivial, fun e => by
  have := Kd.S_lt h.s k e.symm
  omega⟩
end
abbrev cz : Con := PPrinterMatchesReference.z49
abbrev oz : Coil := PPrinterMatchesReference.z52
/-- A rung's contacts, one of which is stored anew: its kind, or its end. -/
theorem S_con {w : World} {B : Nat} {g n cap : Nat} {l : List Rung} (h : Kd.S kRung 40 w B (fun _ => True) (.slice (some ⟨g, 0, none⟩) n cap) l) (j : Int) (j0 : 0 ≤ j) (j1 : j < n) (k : Int) (k0 : 0 ≤ k) (k1 : k < (rdR l j).f1.length) :
    ∃ a c1, w.cell? ⟨g, j.toNat * 4 + 1, none⟩ = some (.slice (some ⟨a, 0, none⟩) (rdR l j).f1.length c1) ∧ B ≤ a ∧ g ≠ a ∧ (∃ cells, w.heap[a]? = some (.cells cells 49 (0, 0))) ∧
      w.cell? ⟨a, k.toNat * 5, none⟩ = some (.int .i64 ((rdR l j).f1.getD k.toNat cz).f0) ∧ w.cell? ⟨a, k.toNat * 5 + 3, none⟩ = some (.string ((rdR l j).f1.getD k.toNat cz).f2) ∧ w.cell? ⟨a, k.toNat * 5 + 4, none⟩ = some (.string ((rdR l j).f1.getD k.toNat cz).f3) ∧ (∀ o, w.frozen? ⟨a, k.toNat * 5 + o, none⟩ = false) ∧
      (∀ y, Kd.S kRung 40 (w.setCell ⟨a, k.toNat * 5, none⟩ (.int .i64 y)) B (fun _ => True) (.slice (some ⟨g, 0, none⟩) n cap)
        (l.set j.toNat ⟨(rdR l j).f0, (rdR l j).f1.set k.toNat ⟨y, ((rdR l j).f1.getD k.toNat cz).f1, ((rdR l j).f1.getD k.toNat cz).f2, ((rdR l j).f1.getD k.toNat cz).f3⟩, (rdR l j).f2, (rdR l j).f3⟩)) ∧
      (∀ d, Kd.S kRung 40 (w.setCell ⟨a, k.toNat * 5 + 4, none⟩ (.string d)) B (fun _ => True) (.slice (some ⟨g, 0, none⟩) n cap)
        (l.set j.toNat ⟨(rdR l j).f0, (rdR l j).f1.set k.toNat ⟨((rdR l j).f1.getD k.toNat cz).f0, ((rdR l j).f1.getD k.toNat cz).f1, ((rdR l j).f1.getD k.toNat cz).f2, d⟩, (rdR l j).f2, (rdR l j).f3⟩)) := by
  obtain ⟨oki, c, _, hM, hcc0, _, hoki, hH⟩ := Kd.S_elem h PPrinterMatchesReference.z40 j j0 j1
  have hcc : ∀ i u, c[i]? = some u → w.cell? ⟨g, j.toNat * 4 + i, none⟩ = some u := hcc0
  obtain ⟨v1, v2, rfl, g1, g2⟩ := PPrinterMatchesReference.k40_openM hM
  clear hcc0 hM
  change Kd.R kCon _ w B oki v1 (rdR l j).f1 at g1
  change Kd.R kCoil _ w B oki v2 (rdR l j).f2 at g2
  have hcell := hcc 1 _ rfl
  replace hH : Kd.H kRung 40 w B (fun _ => True) (.slice (some ⟨g, 0, none⟩) n cap) l j oki [.string (rdR l j).f0, v1, v2, .string (rdR l j).f3] := hH
  clear hcc
  generalize hx : rdR l j = x at *
  obtain ⟨a, c1, rfl, hb, _, hty⟩ := Kd.R_form g1 (by omega)
  obtain ⟨ec, hel, heM, hec0, hfr⟩ := Kd.R_elem g1 cz k k0 k1
  have hec : ∀ i u, ec[i]? = some u → w.cell? ⟨a, k.toNat * 5 + i, none⟩ = some u := hec0
  obtain rfl := PPrinterMatchesReference.k49_openM heM
  generalize hy : x.f1.getD k.toNat cz = y at *
  have key : ∀ (o : Nat) (u : Value) (c' : Con), o < 5 → kCon.M w B (fun _ => False) c' (([.int .i64 y.f0, .int .i64 y.f1.f0, .int .i64 y.f1.f1, .string y.f2, .string y.f3] : List Value).take o ++ [u] ++ ([.int .i64 y.f0, .int .i64 y.f1.f0, .int .i64 y.f1.f1, .string y.f2, .string y.f3] : List Value).drop (o + 1)) →
      Kd.S kRung 40 (w.setCell ⟨a, k.toNat * 5 + o, none⟩ u) B (fun _ => True) (.slice (some ⟨g, 0, none⟩) n cap) (l.set j.toNat ⟨x.f0, x.f1.set k.toNat c', x.f2, x.f3⟩) := by
    intro o u c' ho hM'
    obtain ⟨hR, hg⟩ := Kd.R_seg g1 k k0 k1 (c := [.int .i64 y.f0, .int .i64 y.f1.f0, .int .i64 y.f1.f1, .string y.f2, .string y.f3]) (seg := [u]) (j := o) (x' := c') (okp := fun _ => False) rfl hec0 (by show o + 1 ≤ 5; omega) hM' (fun _ hk => hk.elim)
    have hR' : Kd.R kCon 49 (w.setCell ⟨a, k.toNat * 5 + o, none⟩ u) B oki (.slice (some ⟨a, 0, none⟩) x.f1.length c1) (x.f1.set k.toNat c') := hR
    have hg' : w.grownBy (w.setCell ⟨a, k.toNat * 5 + o, none⟩ u) (some a) := hg
    have hR2 : Kd.R kCoil 52 (w.setCell ⟨a, k.toNat * 5 + o, none⟩ u) B oki v2 x.f2 := Kd.R_over' g2 (Kd.R_typed g1) (by decide) hg'
    refine Kd.H_back (Kd.H_grown hH hg' (fun k hk => ?_)) (PPrinterMatchesReference.k40_mkM _ B oki ⟨x.f0, x.f1.set k.toNat c', x.f2, x.f3⟩ ?_ hR2) (fun _ hk => hk)
    · cases hk
      exact g1.1 a rfl
    · exact hR'
  refine ⟨a, c1, hcell, hb, fun e => (hoki a (g1.1 a rfl)).2 e.symm, hty, hec 0 _ rfl, hec 3 _ rfl, hec 4 _ rfl, hfr, fun z => ?_, fun d => ?_⟩
  · exact key 0 (.int .i64 z) ⟨z, y.f1, y.f2, y.f3⟩ (by omega) (PPrinterMatchesReference.k49_mkM w B _ ⟨z, y.f1, y.f2, y.f3⟩)
  · exact key 4 (.string d) ⟨y.f0, y.f1, y.f2, d⟩ (by omega) (PPrinterMatchesReference.k49_mkM w B _ ⟨y.f0, y.f1, y.f2, d⟩)
/-- A rung's coils, one's kind stored anew. -/
theorem S_coil {w : World} {B : Nat} {g n cap : Nat} {l : List Rung} (h : Kd.S kRung 40 w B (fun _ => True) (.slice (some ⟨g, 0, none⟩) n cap) l) (j : Int) (j0 : 0 ≤ j) (j1 : j < n) (k : Int) (k0 : 0 ≤ k) (k1 : k < (rdR l j).f2.length) :
    ∃ a c1, w.cell? ⟨g, j.toNat * 4 + 2, none⟩ = some (.slice (some ⟨a, 0, none⟩) (rdR l j).f2.length c1) ∧ B ≤ a ∧ g ≠ a ∧ (∃ cells, w.heap[a]? = some (.cells cells 52 (0, 0))) ∧
      w.cell? ⟨a, k.toNat * 3, none⟩ = some (.int .i64 ((rdR l j).f2.getD k.toNat oz).f0) ∧ (∀ o, w.frozen? ⟨a, k.toNat * 3 + o, none⟩ = false) ∧
      (∀ y, Kd.S kRung 40 (w.setCell ⟨a, k.toNat * 3, none⟩ (.int .i64 y)) B (fun _ => True) (.slice (some ⟨g, 0, none⟩) n cap)
        (l.set j.toNat ⟨(rdR l j).f0, (rdR l j).f1, (rdR l j).f2.set k.toNat ⟨y, ((rdR l j).f2.getD k.toNat oz).f1⟩, (rdR l j).f3⟩)) := by
  obtain ⟨oki, c, _, hM, hcc0, _, hoki, hH⟩ := Kd.S_elem h PPrinterMatchesReference.z40 j j0 j1
  have hcc : ∀ i u, c[i]? = some u → w.cell? ⟨g, j.toNat * 4 + i, none⟩ = some u := hcc0
  obtain ⟨v1, v2, rfl, g1, g2⟩ := PPrinterMatchesReference.k40_openM hM
  clear hcc0 hM
  change Kd.R kCon _ w B oki v1 (rdR l j).f1 at g1
  change Kd.R kCoil _ w B oki v2 (rdR l j).f2 at g2
  have hcell := hcc 2 _ rfl
  replace hH : Kd.H kRung 40 w B (fun _ => True) (.slice (some ⟨g, 0, none⟩) n cap) l j oki [.string (rdR l j).f0, v1, v2, .string (rdR l j).f3] := hH
  clear hcc
  generalize hx : rdR l j = x at *
  obtain ⟨a, c1, rfl, hb, _, hty⟩ := Kd.R_form g2 (by omega)
  obtain ⟨ec, hel, heM, hec0, hfr⟩ := Kd.R_elem g2 oz k k0 k1
  have hec : ∀ i u, ec[i]? = some u → w.cell? ⟨a, k.toNat * 3 + i, none⟩ = some u := hec0
  obtain rfl := PPrinterMatchesReference.k52_openM heM
  generalize hy : x.f2.getD k.toNat oz = y at *
  refine ⟨a, c1, hcell, hb, fun e => (hoki a (g2.1 a rfl)).2 e.symm, hty, hec 0 _ rfl, hfr, fun z => ?_⟩
  obtain ⟨hR, hg⟩ := Kd.R_seg g2 k k0 k1 (c := [.int .i64 y.f0, .int .i64 y.f1.f0, .int .i64 y.f1.f1]) (seg := [.int .i64 z]) (j := 0) (x' := ⟨z, y.f1⟩) (okp := fun _ => False) rfl hec0 (by show 0 + 1 ≤ 3; omega) (PPrinterMatchesReference.k52_mkM w B _ ⟨z, y.f1⟩) (fun _ hk => hk.elim)
  have hR' : Kd.R kCoil 52 (w.setCell ⟨a, k.toNat * 3, none⟩ (.int .i64 z)) B oki (.slice (some ⟨a, 0, none⟩) x.f2.length c1) (x.f2.set k.toNat ⟨z, y.f1⟩) := hR
  have hg' : w.grownBy (w.setCell ⟨a, k.toNat * 3, none⟩ (.int .i64 z)) (some a) := hg
  have hR2 : Kd.R kCon 49 (w.setCell ⟨a, k.toNat * 3, none⟩ (.int .i64 z)) B oki v1 x.f1 := Kd.R_over' g1 (Kd.R_typed g2) (by decide) hg'
  refine Kd.H_back (Kd.H_grown hH hg' (fun k hk => ?_)) (PPrinterMatchesReference.k40_mkM _ B oki ⟨x.f0, x.f1, x.f2.set k.toNat ⟨z, y.f1⟩, x.f3⟩ hR2 ?_) (fun _ hk => hk)
  · cases hk
    exact g2.1 a rfl
  · exact hR'
/-- A rung's two slices. -/
theorem S_cells {w : World} {B : Nat} {g n cap : Nat} {l : List Rung} (h : Kd.S kRung 40 w B (fun _ => True) (.slice (some ⟨g, 0, none⟩) n cap) l) (j : Int) (j0 : 0 ≤ j) (j1 : j < n) :
    ∃ A1 c1 A2 c2, w.cell? ⟨g, j.toNat * 4 + 1, none⟩ = some (.slice A1 (rdR l j).f1.length c1) ∧ w.cell? ⟨g, j.toNat * 4 + 2, none⟩ = some (.slice A2 (rdR l j).f2.length c2) ∧ (rdR l j).f1.length ≤ c1 ∧ (rdR l j).f2.length ≤ c2 := by
  obtain ⟨oki, c, _, hM, hcc0, _⟩ := Kd.S_elem h PPrinterMatchesReference.z40 j j0 j1
  have hcc : ∀ i u, c[i]? = some u → w.cell? ⟨g, j.toNat * 4 + i, none⟩ = some u := hcc0
  obtain ⟨A1, c1, A2, c2, rfl, l1, _, l2, _⟩ := PPrinterMatchesReference.k40_open (kRung.K_of_M hM)
  exact ⟨A1, c1, A2, c2, hcc 1 _ rfl, hcc 2 _ rfl, l1, l2⟩
/-- Something has been stored into a row of the new ladder's. -/
theorem LpF.store {w wr : World} {i q m : Int} {A : Option Addr} {n c : Nat} {a0 a1 : Int} {gm : Nat} {i' : Int} {lk lk' : List Rung} {v : Value} (h : LpF w i q m A n c a0 a1 gm i' lk v wr) {a o t : Nat} {u : Value} (hb : w.heap.size ≤ a)
    (hty : ∃ cells, wr.heap[a]? = some (.cells cells t (0, 0))) (h1 : t ≠ 24) (h2 : t ≠ 43) (hs : Kd.S kRung 40 (wr.setCell ⟨a, o, none⟩ u) w.heap.size (fun _ => True) v lk') : LpF w i q m A n c a0 a1 gm i' lk' v (wr.setCell ⟨a, o, none⟩ u) := by
  obtain ⟨cells, hty⟩ := hty
  have ne : ∀ {k t' : Nat} {cs : Array Value}, wr.heap[k]? = some (.cells cs t' (0, 0)) → t ≠ t' → k ≠ a := fun {k t' cs} hk ht e => by
    subst e
    rw [hk] at hty
    cases hty
    exact ht rfl
  exact ⟨below_set h.b hb, blk_far h.kl (ne h.kl h1) _, blk_far h.ka (ne h.ka h2) _, h.gb, blk_far h.km (ne h.km h1) _, hs⟩
theorem rd_at {l : List Rung} {j : Int} (j0 : 0 ≤ j) (j1 : j < l.length) : l[j.toNat]? = some (rdR l j) := by
  have hn : j.toNat < l.length := by omega
  rw [List.getElem?_eq_getElem hn]
  simp [PPrinterMatchesReference.rd_T40, List.getD, hn]
theorem elem_at {α : Type} {l : List α} {z : α} {j : Int} (j0 : 0 ≤ j) (j1 : j < l.length) : l[j.toNat]? = some (l.getD j.toNat z) := by
  have hn : j.toNat < l.length := by omega
  rw [List.getElem?_eq_getElem hn]
  simp [List.getD, hn]
theorem rd_set {l : List Rung} {j : Int} (j0 : 0 ≤ j) (j1 : j < l.length) (y : Rung) : rdR (l.set j.toNat y) j = y := by
  have hn : j.toNat < l.length := by omega
  simp [PPrinterMatchesReference.rd_T40, List.getD, hn]
theorem elem_set {α : Type} {l : List α} {z : α} {j : Int} (j0 : 0 ≤ j) (j1 : j < l.length) (y : α) : (l.set j.toNat y).getD j.toNat z = y := by
  have hn : j.toNat < l.length := by omega
  simp [List.getD, hn]
end Go.Proofs.YtolmkdhgnganaaaDoor.H
