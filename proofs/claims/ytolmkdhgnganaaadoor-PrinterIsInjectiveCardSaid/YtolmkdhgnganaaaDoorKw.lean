/-
  The keywords of contacts and coils: copies of the package's two tables. Condition: the tables are laid as their initialisers lay them.
-/
import Derived.Test.YtolmkdhgnganaaaDoorLine
set_option linter.unusedVariables false
set_option linter.unusedSimpArgs false
namespace Go.Proofs.YtolmkdhgnganaaaDoor.H
open Go Go.RowKit Go.Proofs Go.Proofs.YtolmkdhgnganaaaDoorW.PrintWords Go.Proofs.YtolmkdhgnganaaaDoor.Sp

def kwC : List ByteArray := [⟨#[110, 111]⟩, ⟨#[110, 99]⟩, ⟨#[117, 112]⟩, ⟨#[100, 111, 119, 110]⟩]
def kwO : List ByteArray := [⟨#[111, 117, 116]⟩, ⟨#[110, 111, 116]⟩, ⟨#[115, 101, 116]⟩, ⟨#[114, 101, 115, 101, 116]⟩]
/-- The two tables' cells. -/
structure Kws (w : World) : Prop where
  c : ∀ j, j < 4 → w.cell? ⟨0, j, none⟩ = some (.string (kwC.getD j ⟨#[]⟩))
  o : ∀ j, j < 4 → w.cell? ⟨1, j, none⟩ = some (.string (kwO.getD j ⟨#[]⟩))
theorem Kws.below {w w' : World} (h : Kws w) (hb : Below w.heap.size w w') : Kws w' := ⟨fun j hj => pw_cell_below hb (h.c j hj), fun j hj => pw_cell_below hb (h.o j hj)⟩

/-- A row of four strings of the call's own. -/
def KwRow (base : Nat) (kw : List ByteArray) (g : Nat) (cap : Nat) (w : World) : Prop := base ≤ g ∧ 4 ≤ cap ∧ ∃ cur, w.heap[g]? = some (.cells cur 9 (0, 0)) ∧ ∀ j, j < 4 → cur[j]? = some (.string (kw.getD j ⟨#[]⟩))
def KwB (w : World) (kw : List ByteArray) (e : Ending) (w' : World) : Prop := ∃ g cap, e = .returned (.slice (some ⟨g, 0, none⟩) 4 cap) ∧ KwRow w.heap.size kw g cap w' ∧ Below w.heap.size w w'
theorem kwRow_of {w : World} {B : Nat} {kw : List ByteArray} {v : Value} (hk : kw.length = 4) (h : w.ownsRow B 9 1 v 4 ((kw.take 4).map Value.string)) : ∃ g cap, v = .slice (some ⟨g, 0, none⟩) 4 cap ∧ KwRow B kw g cap w := by
  rcases h.2 with ⟨_, h0⟩ | ⟨g, cap, cur, rfl, hg, hh, hn, hm, hs, ht⟩
  · omega
  · refine ⟨g, cap, rfl, hg, hn, cur, hh, fun j hj => ?_⟩
    have := congrArg (·[j]?) ht
    simp only [List.getElem?_take, Nat.mul_one, hj, if_true, Array.getElem?_toList, List.getElem?_map] at this
    rw [this]
    simp [List.getD, show j < kw.length by omega]

theorem conKw_b (w : World) (hk : Kws w) : Calls Tryd.prog 29 #[] w (KwB w kwC) := by
  have C := Tryd.slices_Clone_string 0 0 4 4 kwC w (by decide) (by decide) (fun j hj => by rw [Nat.zero_add]; exact hk.c j hj)
  go_enter Tryd.func29, Tryd.ntmps29
  go_wp2_with fail
  refine C.mono ?_
  rintro e w1 ⟨v', rfl, hown, _, hb⟩
  obtain ⟨g, cap, rfl, hr⟩ := kwRow_of rfl hown
  go_wp2
  go_ret
  exact ⟨g, cap, rfl, hr, hb⟩
theorem coilKw_b (w : World) (hk : Kws w) : Calls Tryd.prog 30 #[] w (KwB w kwO) := by
  have C := Tryd.slices_Clone_string 1 0 4 4 kwO w (by decide) (by decide) (fun j hj => by rw [Nat.zero_add]; exact hk.o j hj)
  go_enter Tryd.func30, Tryd.ntmps30
  go_wp2_with fail
  refine C.mono ?_
  rintro e w1 ⟨v', rfl, hown, _, hb⟩
  obtain ⟨g, cap, rfl, hr⟩ := kwRow_of rfl hown
  go_wp2
  go_ret
  exact ⟨g, cap, rfl, hr, hb⟩
end Go.Proofs.YtolmkdhgnganaaaDoor.H
