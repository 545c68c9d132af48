/-
  The reference's Print, whatever it is given.
-/
import Derived.Test.YtihjdjadmofefaaDoorRef6
set_option linter.unusedVariables false
set_option linter.unusedSimpArgs false
namespace Go.Proofs.YtihjdjadmofefaaDoor.H
open Go Go.RowKit Go.Proofs Go.Proofs.YtihjdjadmofefaaDoorW.PrintWords Go.Proofs.YtihjdjadmofefaaDoor.Sp

set_option maxRecDepth 100000 in
theorem print9_b (i q m : Int) (A : Option Addr) (c : Nat) (l : List Rung) (w : World) (hr : Kd.C kRung w A l.length l) (hc : l.length ≤ c) :
    Calls Tryd.prog 14 #[.agg #[.int .i64 i, .int .i64 q, .int .i64 m, .slice A l.length c]] w (RetB w (.tuple #[.string ⟨(ladPrint i q m l).1.toArray⟩, .int .i64 (ladPrint i q m l).2])) := by
  by_cases he : (ladChk i q m l).2 = 0
  · exact print9_ok i q m A c l w hr hc he
  · have C1 := ladChk9_b i q m A c l (w.alloc (.cells #[.int .i64 i, .int .i64 q, .int .i64 m, .slice A l.length c] 24)) (Kd.C_alloc hr _) hc
    rw [show ladPrint i q m l = ([], (ladChk i q m l).2) by rw [ladPrint, if_neg he]]
    clear hr hc
    generalize ladChk i q m l = ck at he C1
    obtain ⟨ck1, ck2⟩ := ck
    simp only [] at he C1
    go_enter Tryd.func14, Tryd.ntmps14
    go_wp2_with fail
    refine C1.mono ?_
    rintro e0 w1 ⟨rfl, hb1⟩
    have B1 := below_step (below_alloc (Below.refl w.heap.size w) _) hb1
    go_wp2
    go_ret2
    exact ⟨rfl, B1⟩
end Go.Proofs.YtihjdjadmofefaaDoor.H
