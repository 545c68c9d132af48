/-
  printer.part and printer.rung: they answer what their plain functions answer; nothing that was there is changed.
-/
import Derived.Test.YtolmkdhgnganaaaDoorLad
set_option linter.unusedVariables false
set_option linter.unusedSimpArgs false
namespace Go.Proofs.YtolmkdhgnganaaaDoor.H
open Go Go.RowKit Go.Proofs Go.Proofs.YtolmkdhgnganaaaDoorW.PrintWords Go.Proofs.YtolmkdhgnganaaaDoor.Sp

/-- printer.part. -/
def partE (i q m kind sp n : Int) : Int := if kind < 0 ∨ 4 ≤ kind then 8 else chkAddr i q m sp n
/-- The first that is not 0. -/
def orE (a b : Int) : Int := if a = 0 then b else a
def firstE {α : Type} (f : α → Int) : List α → Int
  | [] => 0
  | x :: xs => orE (f x) (firstE f xs)
def conE (i q m : Int) (c : Con) : Int := orE (partE i q m c.f0 c.f1.f0 c.f1.f1) (if isNm c.f2.data.toList && isNm c.f3.data.toList then 0 else 6)
def coilE (i q m : Int) (c : Coil) : Int := orE (partE i q m c.f0 c.f1.f0 c.f1.f1) (if c.f1.f0 = 0 then 2 else 0)
def labE (ahead : List Rung) (L : ByteArray) : Int := if L.toList.isEmpty then 0 else if isNm L.data.toList then (if hasLab ahead L then 9 else 0) else 6
def nameE (L : ByteArray) : Int := if L.toList.isEmpty then 0 else if isNm L.data.toList then 0 else 6
/-- printer.rung. -/
def rungE (i q m : Int) (ahead : List Rung) (r : Rung) : Int :=
  orE (labE ahead r.f0) (orE (if 256 < r.f1.length then 10 else 0) (orE (firstE (conE i q m) r.f1) (orE (if 16 < r.f2.length then 10 else 0) (orE (firstE (coilE i q m) r.f2) (nameE r.f3)))))
theorem orE_zero (b : Int) : orE 0 b = b := rfl
theorem orE_ne {a : Int} (b : Int) (h : a ≠ 0) : orE a b = a := if_neg h
theorem firstE_zero {α : Type} {f : α → Int} : ∀ {l : List α}, (∀ x ∈ l, f x = 0) → firstE f l = 0
  | [], _ => rfl
  | x :: xs, h => by rw [firstE, h x List.mem_cons_self, orE_zero]; exact firstE_zero fun y hy => h y (List.mem_cons_of_mem _ hy)
theorem firstE_at {α : Type} {f : α → Int} : ∀ {l : List α} {k : Nat} (hk : k < l.length), (∀ j (hj : j < k), f (l[j]'(by omega)) = 0) → f (l[k]'hk) ≠ 0 → firstE f l = f (l[k]'hk)
  | x :: xs, 0, hk, _, h => by rw [firstE]; exact orE_ne _ h
  | x :: xs, k + 1, hk, h0, h => by
    have := h0 0 (by omega)
    rw [firstE, show f x = 0 from this, orE_zero]
    exact firstE_at (l := xs) (k := k) (by simpa using hk) (fun j hj => h0 (j + 1) (by omega)) h
/-- The same, as a loop reads its list. -/
theorem firstE_rd {α : Type} {f : α → Int} {l : List α} {z : α} {k : Int} (h0 : 0 ≤ k) (hk : k < l.length) (h : ∀ j : Int, 0 ≤ j → j < k → f (l.getD j.toNat z) = 0) (hv : f (l.getD k.toNat z) ≠ 0) : firstE f l = f (l.getD k.toNat z) := by
  have hn : k.toNat < l.length := by omega
  have g : ∀ (n : Nat) (hn : n < l.length), l.getD n z = l[n] := by intro n hn; simp [List.getD, hn]
  rw [g _ hn] at hv ⊢
  refine firstE_at hn (fun j hj => ?_) hv
  have := h (j : Int) (by omega) (by omega)
  rwa [Int.toNat_natCast, g j (by omega)] at this
theorem firstE_rd0 {α : Type} {f : α → Int} {l : List α} {z : α} (h : ∀ j : Int, 0 ≤ j → j < l.length → f (l.getD j.toNat z) = 0) : firstE f l = 0 := by
  refine firstE_zero fun x hx => ?_
  obtain ⟨n, hn, rfl⟩ := List.getElem_of_mem hx
  have := h (n : Int) (by omega) (by omega)
  simpa [List.getD, hn] using this

theorem part_b (i q m e kind sp n : Int) (w : World) :
    Calls Tryd.prog 53 #[.agg #[.int .i64 i, .int .i64 q, .int .i64 m, .int .i64 e], .int .i64 kind, .agg #[.int .i64 sp, .int .i64 n]] w (RetB w (.int .i64 (partE i q m kind sp n))) := by
  by_cases h0 : kind < 0
  · have e0 : partE i q m kind sp n = 8 := by simp [partE, h0]
    rw [e0]
    go_enter Tryd.func53, Tryd.ntmps53
    go_wp2
    go_ret
    exact ⟨rfl, below_alloc (below_alloc (Below.refl _ _) _) _⟩
  · by_cases h4 : 4 ≤ kind
    · have e0 : partE i q m kind sp n = 8 := by simp [partE, h4]
      rw [e0]
      go_enter Tryd.func53, Tryd.ntmps53
      go_wp2
      go_ret
      exact ⟨rfl, below_alloc (below_alloc (Below.refl _ _) _) _⟩
    · have e0 : partE i q m kind sp n = chkAddr i q m sp n := by simp [partE, h0, h4]
      rw [e0]
      have F := chk_b i q m e sp n
      generalize chkAddr i q m sp n = v at F
      go_enter Tryd.func53, Tryd.ntmps53
      go_wp2_with fail
      refine (F _).mono ?_
      rintro e1 w1 ⟨rfl, hb⟩
      have hz := below_step (below_alloc (below_alloc (Below.refl w.heap.size w) _) _) hb
      go_wp2
      go_ret
      exact ⟨rfl, hz⟩

/-- What stands while a rung is looked through: the sizes and the rung in blocks of the call's own. -/
structure RungF (w : World) (i q m e : Int) (r : Rung) (A1 : Option Addr) (c1 : Nat) (A2 : Option Addr) (c2 : Nat) (wr : World) : Prop where
  b : Below w.heap.size w wr
  ks : wr.heap[w.heap.size]? = some (.cells #[.int .i64 i, .int .i64 q, .int .i64 m, .int .i64 e] 66 (0, 0))
  kr : wr.heap[w.heap.size + 1]? = some (.cells #[.string r.f0, .slice A1 r.f1.length c1, .slice A2 r.f2.length c2, .string r.f3] 40 (0, 0))
theorem RungF.step {w : World} {i q m e : Int} {r : Rung} {A1 : Option Addr} {c1 : Nat} {A2 : Option Addr} {c2 : Nat} {wr w1 : World} (h : RungF w i q m e r A1 c1 A2 c2 wr) (hb : Below wr.heap.size wr w1) : RungF w i q m e r A1 c1 A2 c2 w1 :=
  ⟨below_step h.b hb, blk_below h.ks hb, blk_below h.kr hb⟩
/-- The cells. -/
theorem RungF.cells {w : World} {i q m e : Int} {r : Rung} {A1 : Option Addr} {c1 : Nat} {A2 : Option Addr} {c2 : Nat} {wr : World} (h : RungF w i q m e r A1 c1 A2 c2 wr) :
    wr.cell? ⟨w.heap.size, 0, none⟩ = some (.int .i64 i) ∧ wr.cell? ⟨w.heap.size, 1, none⟩ = some (.int .i64 q) ∧ wr.cell? ⟨w.heap.size, 2, none⟩ = some (.int .i64 m) ∧ wr.cell? ⟨w.heap.size, 3, none⟩ = some (.int .i64 e) ∧
    wr.cell? ⟨w.heap.size + 1, 0, none⟩ = some (.string r.f0) ∧ wr.cell? ⟨w.heap.size + 1, 1, none⟩ = some (.slice A1 r.f1.length c1) ∧ wr.cell? ⟨w.heap.size + 1, 2, none⟩ = some (.slice A2 r.f2.length c2) ∧ wr.cell? ⟨w.heap.size + 1, 3, none⟩ = some (.string r.f3) ∧
    w.heap.size + 1 < wr.heap.size ∧ w.heap.size < wr.heap.size :=
  ⟨blk_cell h.ks 0, blk_cell h.ks 1, blk_cell h.ks 2, blk_cell h.ks 3, blk_cell h.kr 0, blk_cell h.kr 1, blk_cell h.kr 2, blk_cell h.kr 3, blk_lt h.kr, blk_lt h.ks⟩

end Go.Proofs.YtolmkdhgnganaaaDoor.H
