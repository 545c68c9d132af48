/-
  A rung put behind a ladder's rungs, in memory: what holds while the region of PrinterAppendRung runs, whichever of its operations have run (W: the world where it begins).
-/
import Derived.Test.YtolmkdhgnganaaaDoorChk3
set_option linter.unusedVariables false
set_option linter.unusedSimpArgs false
namespace Go.Proofs.YtolmkdhgnganaaaDoor.H
open Go Go.RowKit Go.Proofs Go.Proofs.YtolmkdhgnganaaaDoorW.PrintWords Go.Proofs.YtolmkdhgnganaaaDoor.Sp

/-- A row of rungs of the call's own, its elements' rows as they were in W. -/
def RR (W w' : World) (v : Value) (xs : List Rung) : Prop := (Kd.fixed kRung W).R 40 w' W.heap.size (fun _ => True) v xs
theorem RR.below {W w w1 : World} {v : Value} {xs : List Rung} (h : RR W w v xs) (hb : Below w.heap.size w w1) : RR W w1 v xs := Kd.R_below h hb
theorem RR.lt {W w : World} {v : Value} {xs : List Rung} (h : RR W w v xs) (k : Nat) (hk : v.ownBlock = some k) : k < w.heap.size := by
  obtain ⟨_, inner, ho, _⟩ := h
  exact own_lt ho k hk
theorem RR.fresh {W w : World} {v : Value} {xs : List Rung} (h : RR W w v xs) {k : Nat} (hk : w.heap.size ≤ k) : some k ≠ v.ownBlock := fun e => by
  have := h.lt k e.symm
  omega
theorem RR.ne {W w : World} {v : Value} {xs : List Rung} (h : RR W w v xs) {g t : Nat} {cs : Array Value} (hg : w.heap[g]? = some (.cells cs t (0, 0))) (ht : 40 ≠ t) : some g ≠ v.ownBlock := by
  obtain ⟨_, inner, ho, _⟩ := h
  exact own_ne ho hg ht
theorem RR.empty {W w : World} (hb : W.heap.size ≤ w.heap.size) : RR W (w.alloc (.cells #[] 40)) (.slice (some ⟨w.heap.size, 0, none⟩) 0 0) [] :=
  ⟨fun _ _ => trivial, OwnRow.lit w W.heap.size (Reps.none _ _) hb (by simp)⟩
theorem RR.keep {W w w1 : World} {v : Value} {xs : List Rung} (h : RR W w v xs) {g : Nat} {t : Nat} {cs : Array Value} (hg : w.heap[g]? = some (.cells cs t (0, 0))) (ht : 40 ≠ t) (hk : KeepBut w w1 g none) : RR W w1 v xs := by
  obtain ⟨h0, inner, ho, hr⟩ := h
  exact ⟨h0, inner, hk.own ho (fun e => own_ne ho hg ht e.symm) (by cases v.ownBlock <;> simp), hr⟩
theorem RR.reads {W w : World} {v : Value} {xs : List Rung} (h : RR W w v xs) (hb : Below W.heap.size W w) : ∃ A c, v = .slice A xs.length c ∧ xs.length ≤ c ∧ Kd.C kRung w A xs.length xs := by
  obtain ⟨A, c, e, hc, hr⟩ := Kd.R_reads h
  exact ⟨A, c, e, hc, ReadsRow.imp_ hr (Below.refl _ _) (fun p cs hp => kRung.K_below hb hp)⟩
theorem RR.reads1 {W w : World} {v : Value} {l : List Rung} {r : Rung} (h : RR W w v (l ++ [r])) (hb : Below W.heap.size W w) : ∃ A c, v = .slice A (l.length + 1) c ∧ l.length + 1 ≤ c ∧ Kd.C kRung w A (l ++ [r]).length (l ++ [r]) := by
  obtain ⟨A, c, e, hc, hr⟩ := h.reads hb
  have hl : (l ++ [r]).length = l.length + 1 := by simp
  exact ⟨A, c, by rw [← hl]; exact e, by omega, hr⟩

abbrev AppS := Value × Value × Value × Value × Nat
/-- Which operations have run: 6 (the empty row), 9 (the ladder's rungs), 11 (the rung, laid), 12 (the rung, put behind), 14 (the new ladder's block). -/
structure AppF (W : World) (l : List Rung) (r : Rung) (cs : List Value) (d6 d9 d11 d12 d14 : Bool) (s : AppS) (w' : World) : Prop where
  b : Below W.heap.size W w'
  o6 : d6 = true → d9 = false → RR W w' s.1 []
  o9 : d9 = true → d12 = false → RR W w' s.2.1 l
  o12 : d12 = true → RR W w' s.2.2.1 (l ++ [r])
  x : d11 = true → d12 = false → ∃ g, s.2.2.2.1 = .slice (some ⟨g, 0, none⟩) 1 1 ∧ w'.heap[g]? = some (.cells cs.toArray 40 (0, 0)) ∧ (d6 = true → d9 = false → some g ≠ s.1.ownBlock) ∧ (d9 = true → some g ≠ s.2.1.ownBlock)
  pb : d14 = true → W.heap.size ≤ s.2.2.2.2
  p : d14 = true → w'.heap[s.2.2.2.2]? = some (.cells #[.int .i64 0, .int .i64 0, .int .i64 0, .slice none 0 0] 24 (0, 0))
section
variable {W w' w1 : World} {l : List Rung} {r : Rung} {cs : List Value} {d6 d9 d11 d12 d14 : Bool} {v6 v9 v12 vx : Value} {g14 : Nat}
theorem AppF.s6 (h : AppF W l r cs false false d11 false d14 (v6, v9, v12, vx, g14) w') :
    AppF W l r cs true false d11 false d14 (.slice (some ⟨w'.heap.size, 0, none⟩) 0 0, v9, v12, vx, g14) (w'.alloc (.cells #[] 40)) where
  b := below_alloc h.b _
  o6 := fun _ _ => RR.empty h.b.size
  o9 := fun e => by cases e
  o12 := fun e => by cases e
  x := fun e _ => by
    obtain ⟨g, e1, e2, _, _⟩ := h.x e rfl
    have := blk_lt e2
    refine ⟨g, e1, blk_alloc e2 _, fun _ _ => ?_, fun e => by cases e⟩
    simp only [Value.ownBlock, ne_eq, Option.some.injEq]
    omega
  pb := h.pb
  p := fun e => blk_alloc (h.p e) _
theorem AppF.s14 (h : AppF W l r cs d6 d9 d11 d12 false (v6, v9, v12, vx, g14) w') :
    AppF W l r cs d6 d9 d11 d12 true (v6, v9, v12, vx, w'.heap.size) (w'.alloc (.cells #[.int .i64 0, .int .i64 0, .int .i64 0, .slice none 0 0] 24)) where
  b := below_alloc h.b _
  o6 := fun e e2 => (h.o6 e e2).below (below_alloc (Below.refl _ _) _)
  o9 := fun e e2 => (h.o9 e e2).below (below_alloc (Below.refl _ _) _)
  o12 := fun e => (h.o12 e).below (below_alloc (Below.refl _ _) _)
  x := fun e e2 => by
    obtain ⟨g, e1, e2, e3, e4⟩ := h.x e e2
    exact ⟨g, e1, blk_alloc e2 _, e3, e4⟩
  pb := fun _ => h.b.size
  p := fun _ => blk_new _ _
theorem AppF.s11 (h : AppF W l r cs d6 d9 false false d14 (v6, v9, v12, vx, g14) w') :
    AppF W l r cs d6 d9 true false d14 (v6, v9, v12, .slice (some ⟨w'.heap.size, 0, none⟩) 1 1, g14) (w'.alloc (.cells cs.toArray 40)) where
  b := below_alloc h.b _
  o6 := fun e e2 => (h.o6 e e2).below (below_alloc (Below.refl _ _) _)
  o9 := fun e e2 => (h.o9 e e2).below (below_alloc (Below.refl _ _) _)
  o12 := fun e => by cases e
  x := fun _ _ => ⟨w'.heap.size, rfl, blk_new _ _, fun e e2 => (h.o6 e e2).fresh (Nat.le_refl _), fun e => (h.o9 e rfl).fresh (Nat.le_refl _)⟩
  pb := h.pb
  p := fun e => blk_alloc (h.p e) _
theorem AppF.s9 (h : AppF W l r cs true false d11 false d14 (v6, v9, v12, vx, g14) w') {v1 : Value} (hr : RR W w1 v1 ([] ++ l)) (hb : Below W.heap.size W w1) (hg : w'.grownBy w1 v6.ownBlock)
    (hat : v1.ownBlock = v6.ownBlock ∨ ∃ b, v1.ownBlock = some b ∧ w'.heap.size ≤ b) : AppF W l r cs true true d11 false d14 (v6, v1, v12, vx, g14) w1 where
  b := hb
  o6 := fun _ e => by cases e
  o9 := fun _ _ => hr
  o12 := fun e => by cases e
  x := fun e _ => by
    obtain ⟨g, e1, e2, e3, _⟩ := h.x e rfl
    have lt := blk_lt e2
    refine ⟨g, e1, (hg.block g lt (e3 rfl rfl)).trans e2, fun _ e => (by cases e), fun _ => ?_⟩
    rcases hat with e | ⟨b, e, hle⟩
    · show some g ≠ v1.ownBlock
      rw [e]; exact e3 rfl rfl
    · show some g ≠ v1.ownBlock
      rw [e]
      simp only [ne_eq, Option.some.injEq]
      omega
  pb := h.pb
  p := fun e => (hg.block _ (blk_lt (h.p e)) ((h.o6 rfl rfl).ne (h.p e) (by decide))).trans (h.p e)
theorem AppF.s12 (h : AppF W l r cs d6 true true false d14 (v6, v9, v12, vx, g14) w') {v1 : Value} (hr : RR W w1 v1 (l ++ [r])) (hb : Below W.heap.size W w1) (hg : w'.grownBy w1 v9.ownBlock) :
    AppF W l r cs d6 true true true d14 (v6, v9, v1, vx, g14) w1 where
  b := hb
  o6 := fun _ e => by cases e
  o9 := fun _ e => by cases e
  o12 := fun _ => hr
  x := fun _ e => by cases e
  pb := h.pb
  p := fun e => (hg.block _ (blk_lt (h.p e)) ((h.o9 rfl rfl).ne (h.p e) (by decide))).trans (h.p e)
/-- The rung that was laid, as a row. -/
theorem row_one {K : Rung → List Value → Prop} {g : Nat} {t : Nat} (hc : cs.length = kRung.sz) (hk : K r cs) (hb : w'.heap[g]? = some (.cells cs.toArray t (0, 0))) : ReadsRow K kRung.sz w' (some ⟨g, 0, none⟩) 1 [r] := by
  refine ⟨rfl, by decide, fun _ => ⟨⟨g, 0, none⟩, rfl, fun j p hj => ?_⟩⟩
  match j, hj with
  | 0, hj =>
    obtain rfl : r = p := by simpa using hj
    refine ⟨cs, hc, hk, fun i u hu => ?_⟩
    rw [Nat.zero_mul, Nat.zero_add]
    exact World.news_of_block hb i u (by simpa using hu)
end
theorem row_oneC {w' : World} {r : Rung} {cs : List Value} {g t : Nat} (hc : cs.length = kRung.sz) (hk : kRung.K w' r cs) (hb : w'.heap[g]? = some (.cells cs.toArray t (0, 0))) : Kd.C kRung w' (some ⟨g, 0, none⟩) 1 [r] := row_one hc hk hb
theorem AppF.start (W : World) (l : List Rung) (r : Rung) (cs : List Value) (s : AppS) : AppF W l r cs false false false false false s W :=
  ⟨Below.refl _ _, nofun, nofun, nofun, nofun, nofun, nofun⟩

/-- The new ladder is stored. -/
theorem AppF.done {W w' : World} {l : List Rung} {r : Rung} {cs : List Value} {v6 v9 v12 vx : Value} {g14 : Nat} (h : AppF W l r cs true true true true true (v6, v9, v12, vx, g14) w') (a b c : Value) {w5 : World}
    (e : w5 = (((w'.setCell ⟨g14, 0, none⟩ a).setCell ⟨g14, 1, none⟩ b).setCell ⟨g14, 2, none⟩ c).setCell ⟨g14, 3, none⟩ v12) :
    Below W.heap.size W w5 ∧ w5.heap[g14]? = some (.cells #[a, b, c, v12] 24 (0, 0)) ∧ RR W w5 v12 (l ++ [r]) := by
  subst e
  have hp := h.p rfl
  have hb := h.pb rfl
  refine ⟨below_set (below_set (below_set (below_set h.b hb) hb) hb) hb, ?_, ?_⟩
  · have := blk_set (blk_set (blk_set (blk_set hp 0 a) 1 b) 2 c) 3 v12
    simpa using this
  · exact (h.o12 rfl).keep hp (by decide) ((((KeepBut.refl w' g14 none).set_ 0 a).set_ 1 b).set_ 2 c |>.set_ 3 v12)
/-- The row of one rung, laid for EdgeCount. -/
structure EdF (W : World) (cs : List Value) (d : Bool) (s : Nat) (w' : World) : Prop where
  b : Below W.heap.size W w'
  x : d = true → w'.heap[s]? = some (.cells cs.toArray 40 (0, 0))
theorem EdF.s24 {W w' : World} {cs : List Value} {s : Nat} (h : EdF W cs false s w') : EdF W cs true w'.heap.size (w'.alloc (.cells cs.toArray 40)) := ⟨below_alloc h.b _, fun _ => blk_new _ _⟩
theorem EdF.step {W w' w1 : World} {cs : List Value} {d : Bool} {s : Nat} (h : EdF W cs d s w') (hb : Below w'.heap.size w' w1) : EdF W cs d s w1 := ⟨below_step h.b hb, fun e => blk_below (h.x e) hb⟩

/-- Two boxes at the call's start: a ladder, a rung. -/
structure BoxF (w : World) (l0 l1 l2 l3 r0 r1 r2 r3 : Value) (wr : World) : Prop where
  b : Below w.heap.size w wr
  kl : wr.heap[w.heap.size]? = some (.cells #[l0, l1, l2, l3] 24 (0, 0))
  kr : wr.heap[w.heap.size + 1]? = some (.cells #[r0, r1, r2, r3] 40 (0, 0))
section
variable {w wr w1 : World} {l0 l1 l2 l3 r0 r1 r2 r3 : Value}
theorem BoxF.new (w : World) (l0 l1 l2 l3 r0 r1 r2 r3 : Value) : BoxF w l0 l1 l2 l3 r0 r1 r2 r3 ((w.alloc (.cells #[l0, l1, l2, l3] 24)).alloc (.cells #[r0, r1, r2, r3] 40)) :=
  ⟨below_alloc (below_alloc (Below.refl _ _) _) _, blk_alloc (blk_new _ _) _, by
    have := blk_new (w.alloc (.cells #[l0, l1, l2, l3] 24)) (.cells #[r0, r1, r2, r3] 40)
    simpa using this⟩
theorem BoxF.below (h : BoxF w l0 l1 l2 l3 r0 r1 r2 r3 wr) (hb : Below wr.heap.size wr w1) : BoxF w l0 l1 l2 l3 r0 r1 r2 r3 w1 := ⟨below_step h.b hb, blk_below h.kl hb, blk_below h.kr hb⟩
theorem BoxF.cells (h : BoxF w l0 l1 l2 l3 r0 r1 r2 r3 wr) : wr.cell? ⟨w.heap.size, 0, none⟩ = some l0 ∧ wr.cell? ⟨w.heap.size, 1, none⟩ = some l1 ∧ wr.cell? ⟨w.heap.size, 2, none⟩ = some l2 ∧ wr.cell? ⟨w.heap.size, 3, none⟩ = some l3 ∧
    wr.cell? ⟨w.heap.size + 1, 0, none⟩ = some r0 ∧ wr.cell? ⟨w.heap.size + 1, 1, none⟩ = some r1 ∧ wr.cell? ⟨w.heap.size + 1, 2, none⟩ = some r2 ∧ wr.cell? ⟨w.heap.size + 1, 3, none⟩ = some r3 :=
  ⟨blk_cell h.kl 0, blk_cell h.kl 1, blk_cell h.kl 2, blk_cell h.kl 3, blk_cell h.kr 0, blk_cell h.kr 1, blk_cell h.kr 2, blk_cell h.kr 3⟩
end
end Go.Proofs.YtolmkdhgnganaaaDoor.H
