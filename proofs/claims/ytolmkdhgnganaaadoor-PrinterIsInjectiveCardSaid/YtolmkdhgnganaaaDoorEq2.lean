/-
  printer.Equal's walk.
-/
import Derived.Test.YtolmkdhgnganaaaDoorEq
import Derived.Test.YtolmkdhgnganaaaDoorWLast
import Derived.Test.YtolmkdhgnganaaaDoorWMore
set_option linter.unusedVariables false
set_option linter.unusedSimpArgs false
namespace Go.Proofs.YtolmkdhgnganaaaDoor.H
open Go Go.RowKit Go.Proofs Go.Proofs.YtolmkdhgnganaaaDoorW.PrintWords Go.Proofs.YtolmkdhgnganaaaDoorW.PrintLast Go.Proofs.YtolmkdhgnganaaaDoorW.PrintMore Go.Proofs.YtolmkdhgnganaaaDoor.Sp
attribute [local go_sem high] eqSz
/-- printer.Equal. -/
def ladEq (i q m : Int) (l : List Rung) (i2 q2 m2 : Int) (k : List Rung) : Bool := szEq i q m i2 q2 m2 && eqL rungEq l k
set_option maxHeartbeats 2000000 in
set_option maxRecDepth 100000 in
theorem equal_b (i q m : Int) (A : Option Addr) (c : Nat) (l : List Rung) (i2 q2 m2 : Int) (B : Option Addr) (d : Nat) (k : List Rung) (w : World) (h1 : Kd.C kRung w A l.length l) (h2 : Kd.C kRung w B k.length k) (hc1 : l.length ≤ c) (hc2 : k.length ≤ d) :
    Calls Tryd.prog 17 #[.agg #[.int .i64 i, .int .i64 q, .int .i64 m, .slice A l.length c], .agg #[.int .i64 i2, .int .i64 q2, .int .i64 m2, .slice B k.length d]] w (RetB w (.bool (ladEq i q m l i2 q2 m2 k))) := by
  have HS1 := Aside0.mk (fun W (hW : Below w.heap.size w W) => sizes_b i q m A c l W (Kd.C_below h1 hW) hc1)
  have HS2 := Aside0.mk (fun W (hW : Below w.heap.size w W) => sizes_b i2 q2 m2 B d k W (Kd.C_below h2 hW) hc2)
  have HE := Aside0.mk (fun W (hW : Below w.heap.size w W) => eqRungs_b A c l B d k W (Kd.C_below h1 hW) (Kd.C_below h2 hW) hc1 hc2)
  clear h1 h2
  have hv : ladEq i q m l i2 q2 m2 k = (szEq i q m i2 q2 m2 && eqL rungEq l k) := rfl
  generalize ladEq i q m l i2 q2 m2 k = V at hv
  generalize eqL rungEq l k = v1 at hv HE
  have HW : Aside0 (Below w.heap.size w ((w.alloc (.cells #[.int .i64 i, .int .i64 q, .int .i64 m, .slice A l.length c] 24)).alloc (.cells #[.int .i64 i2, .int .i64 q2, .int .i64 m2, .slice B k.length d] 24)).drew) := ⟨below_drew (below_alloc (below_alloc (Below.refl _ _) _) _)⟩
  have KA := Aside0.mk (blk_alloc (blk_new w (.cells #[.int .i64 i, .int .i64 q, .int .i64 m, .slice A l.length c] 24)) (.cells #[.int .i64 i2, .int .i64 q2, .int .i64 m2, .slice B k.length d] 24))
  have KB : Aside0 (((w.alloc (.cells #[.int .i64 i, .int .i64 q, .int .i64 m, .slice A l.length c] 24)).alloc (.cells #[.int .i64 i2, .int .i64 q2, .int .i64 m2, .slice B k.length d] 24)).heap[w.heap.size + 1]? = some (.cells #[.int .i64 i2, .int .i64 q2, .int .i64 m2, .slice B k.length d] 24 (0, 0))) :=
    ⟨by have := blk_new (w.alloc (.cells #[.int .i64 i, .int .i64 q, .int .i64 m, .slice A l.length c] 24)) (.cells #[.int .i64 i2, .int .i64 q2, .int .i64 m2, .slice B k.length d] 24); simpa using this⟩
  cases hs : szEq i q m i2 q2 m2 with
  | true =>
    obtain rfl : V = v1 := by rw [hv, hs]; rfl
    clear hv
    go_enter Tryd.func17, Tryd.ntmps17
    go_wp2_with fail
    refine start_ (n := 13) (S := fun w' => w'.cell? ⟨w.heap.size, 0, none⟩ = some (.int .i64 i) ∧ w'.cell? ⟨w.heap.size, 1, none⟩ = some (.int .i64 q) ∧ w'.cell? ⟨w.heap.size, 2, none⟩ = some (.int .i64 m) ∧ w'.cell? ⟨w.heap.size, 3, none⟩ = some (.slice A l.length c) ∧ w'.cell? ⟨w.heap.size + 1, 0, none⟩ = some (.int .i64 i2) ∧ w'.cell? ⟨w.heap.size + 1, 1, none⟩ = some (.int .i64 q2) ∧ w'.cell? ⟨w.heap.size + 1, 2, none⟩ = some (.int .i64 m2) ∧ w'.cell? ⟨w.heap.size + 1, 3, none⟩ = some (.slice B k.length d)) (ds := []) #[false, false, false, false, false, false, false, false, false, false, false, false, false] (by kernel_rfl) rfl rfl ⟨(blk_cell (blk_drew KA.out) 0), (blk_cell (blk_drew KA.out) 1), (blk_cell (blk_drew KA.out) 2), (blk_cell (blk_drew KA.out) 3), (blk_cell (blk_drew KB.out) 0), (blk_cell (blk_drew KB.out) 1), (blk_cell (blk_drew KB.out) 2), (blk_cell (blk_drew KB.out) 3)⟩ (fun hHeld => ?_)
    refine take_ (i := 0) (N := some 5) (v := ?_) (a' := ?_) #[true, false, false, false, false, false, false, false, false, false, false, false, false] rfl rfl (by kernel_rfl) (fun _ _ _ h => h) (Or.inl ⟨by rfl, ?_⟩) hHeld ?_ ?_
    rotate_left
    · rintro w' ⟨s0, s1, s2, s3, s4, s5, s6, s7⟩
      go_simp
      with_reducible rfl
    rotate_left
    · simp only [Act.put, List.setIfInBounds_toArray, List.set_cons_zero, List.set_cons_succ, i64_w, i32_w]
      rfl
    refine take_ (i := 2) (N := some 7) (v := ?_) (a' := ?_) #[true, false, true, false, false, false, false, false, false, false, false, false, false] rfl rfl (by kernel_rfl) (fun _ _ _ h => h) (Or.inl ⟨by rfl, ?_⟩) hHeld ?_ ?_
    rotate_left
    · rintro w' ⟨s0, s1, s2, s3, s4, s5, s6, s7⟩
      go_simp
      with_reducible rfl
    rotate_left
    · simp only [Act.put, List.setIfInBounds_toArray, List.set_cons_zero, List.set_cons_succ, i64_w, i32_w]
      rfl
    refine one_ (i := 1) (N := some 6) #[true, true, true, false, false, false, false, false, false, false, false, false, false] rfl rfl (by kernel_rfl) (by decide) (fun K hK => ?_)
    refine goes_ Tryd.func22 (by kernel_rfl) rfl #[.agg #[.int .i64 i, .int .i64 q, .int .i64 m, .slice A l.length c]] (by rfl) rfl rfl (by first | (simp only [List.map_toArray, List.map_cons, List.map_nil]; done) | (simp only [List.map_toArray, List.map_cons, List.map_nil]; rfl)) ?_
    with_reducible refine (HS1.out _ HW.out).mono ?_
    rintro e_ w1 ⟨rfl, hb⟩
    refine ⟨_, rfl, ?_⟩
    have n_ := Aside0.mk (below_step HW.out hb)
    clear HW
    have HW := n_
    clear n_
    refine hK.out _ _ ⟨(pw_cell_below hb hHeld.1), (pw_cell_below hb hHeld.2.1), (pw_cell_below hb hHeld.2.2.1), (pw_cell_below hb hHeld.2.2.2.1), (pw_cell_below hb hHeld.2.2.2.2.1), (pw_cell_below hb hHeld.2.2.2.2.2.1), (pw_cell_below hb hHeld.2.2.2.2.2.2.1), (pw_cell_below hb hHeld.2.2.2.2.2.2.2)⟩ (fun hHeld => ?_)
    clear hK K
    refine norm_ (a' := ?_) ?_ ?_
    rotate_left
    · show Act.put _ (some 6) _ = _
      simp only [Act.put, List.setIfInBounds_toArray, List.set_cons_zero, List.set_cons_succ, i64_w, i32_w]
      rfl
    refine one_ (i := 3) (N := some 8) #[true, true, true, true, false, false, false, false, false, false, false, false, false] rfl rfl (by kernel_rfl) (by decide) (fun K hK => ?_)
    refine goes_ Tryd.func22 (by kernel_rfl) rfl #[.agg #[.int .i64 i2, .int .i64 q2, .int .i64 m2, .slice B k.length d]] (by rfl) rfl rfl (by first | (simp only [List.map_toArray, List.map_cons, List.map_nil]; done) | (simp only [List.map_toArray, List.map_cons, List.map_nil]; rfl)) ?_
    with_reducible refine (HS2.out _ HW.out).mono ?_
    rintro e_ w1 ⟨rfl, hb⟩
    refine ⟨_, rfl, ?_⟩
    have n_ := Aside0.mk (below_step HW.out hb)
    clear HW
    have HW := n_
    clear n_
    refine hK.out _ _ ⟨(pw_cell_below hb hHeld.1), (pw_cell_below hb hHeld.2.1), (pw_cell_below hb hHeld.2.2.1), (pw_cell_below hb hHeld.2.2.2.1), (pw_cell_below hb hHeld.2.2.2.2.1), (pw_cell_below hb hHeld.2.2.2.2.2.1), (pw_cell_below hb hHeld.2.2.2.2.2.2.1), (pw_cell_below hb hHeld.2.2.2.2.2.2.2)⟩ (fun hHeld => ?_)
    clear hK K
    refine norm_ (a' := ?_) ?_ ?_
    rotate_left
    · show Act.put _ (some 8) _ = _
      simp only [Act.put, List.setIfInBounds_toArray, List.set_cons_zero, List.set_cons_succ, i64_w, i32_w]
      rfl
    refine pure_ (i := 4) (N := some 9) (v := ?_) (a' := ?_) #[true, true, true, true, true, false, false, false, false, false, false, false, false] rfl rfl (by kernel_rfl) (fun _ _ _ h => h) (Or.inl ⟨by rfl, ?_⟩) ?_ ?_
    rotate_left
    · intro w'
      go_simp
      with_reducible rfl
    rotate_left
    · simp only [Act.put, List.setIfInBounds_toArray, List.set_cons_zero, List.set_cons_succ, i64_w, i32_w]
      rfl
    refine pure_ (i := 5) (N := some 10) (v := ?_) (a' := ?_) #[true, true, true, true, true, true, false, false, false, false, false, false, false] rfl rfl (by kernel_rfl) (fun _ _ _ h => h) (Or.inl ⟨by rfl, ?_⟩) ?_ ?_
    rotate_left
    · intro w'
      go_simp
      with_reducible rfl
    rotate_left
    · simp only [Act.put, List.setIfInBounds_toArray, List.set_cons_zero, List.set_cons_succ, i64_w, i32_w]
      rfl
    refine pure_ (i := 6) (N := some 11) (v := ?_) (a' := ?_) #[true, true, true, true, true, true, true, false, false, false, false, false, false] rfl rfl (by kernel_rfl) (fun _ _ _ h => h) (Or.inl ⟨by rfl, ?_⟩) ?_ ?_
    rotate_left
    · intro w'
      go_simp
      with_reducible rfl
    rotate_left
    · simp only [Act.put, List.setIfInBounds_toArray, List.set_cons_zero, List.set_cons_succ, i64_w, i32_w]
      rfl
    refine pure_ (i := 8) (N := some 13) (v := ?_) (a' := ?_) #[true, true, true, true, true, true, true, false, true, false, false, false, false] rfl rfl (by kernel_rfl) (fun _ _ _ h => h) (Or.inl ⟨by rfl, ?_⟩) ?_ ?_
    rotate_left
    · intro w'
      go_simp
      with_reducible rfl
    rotate_left
    · simp only [Act.put, List.setIfInBounds_toArray, List.set_cons_zero, List.set_cons_succ, i64_w, i32_w]
      rfl
    refine take_ (i := 7) (N := some 12) (v := ?_) (a' := ?_) #[true, true, true, true, true, true, true, true, true, false, false, false, false] rfl rfl (by kernel_rfl) (fun _ _ _ h => h) (Or.inl ⟨by rfl, ?_⟩) hHeld ?_ ?_
    rotate_left
    · rintro w' ⟨s0, s1, s2, s3, s4, s5, s6, s7⟩
      go_simp
      with_reducible rfl
    rotate_left
    · simp only [Act.put, List.setIfInBounds_toArray, List.set_cons_zero, List.set_cons_succ, i64_w, i32_w]
      rfl
    refine take_ (i := 9) (N := some 14) (v := ?_) (a' := ?_) #[true, true, true, true, true, true, true, true, true, true, false, false, false] rfl rfl (by kernel_rfl) (fun _ _ _ h => h) (Or.inl ⟨by rfl, ?_⟩) hHeld ?_ ?_
    rotate_left
    · rintro w' ⟨s0, s1, s2, s3, s4, s5, s6, s7⟩
      go_simp
      with_reducible rfl
    rotate_left
    · simp only [Act.put, List.setIfInBounds_toArray, List.set_cons_zero, List.set_cons_succ, i64_w, i32_w]
      rfl
    refine one_ (i := 10) (N := some 15) #[true, true, true, true, true, true, true, true, true, true, true, false, false] rfl rfl (by kernel_rfl) (by decide) (fun K hK => ?_)
    refine goes_ Tryd.func40 (by kernel_rfl) rfl #[.slice A l.length c, .slice B k.length d, .func (.func 41) #[] #[]] (by rfl) rfl rfl (by first | (simp only [List.map_toArray, List.map_cons, List.map_nil]; done) | (simp only [List.map_toArray, List.map_cons, List.map_nil]; rfl)) ?_
    with_reducible refine (HE.out _ HW.out).mono ?_
    rintro e_ w1 ⟨rfl, hb⟩
    refine ⟨_, rfl, ?_⟩
    have n_ := Aside0.mk (below_step HW.out hb)
    clear HW
    have HW := n_
    clear n_
    refine hK.out _ _ ⟨(pw_cell_below hb hHeld.1), (pw_cell_below hb hHeld.2.1), (pw_cell_below hb hHeld.2.2.1), (pw_cell_below hb hHeld.2.2.2.1), (pw_cell_below hb hHeld.2.2.2.2.1), (pw_cell_below hb hHeld.2.2.2.2.2.1), (pw_cell_below hb hHeld.2.2.2.2.2.2.1), (pw_cell_below hb hHeld.2.2.2.2.2.2.2)⟩ (fun hHeld => ?_)
    clear hK K
    refine norm_ (a' := ?_) ?_ ?_
    rotate_left
    · show Act.put _ (some 15) _ = _
      simp only [Act.put, List.setIfInBounds_toArray, List.set_cons_zero, List.set_cons_succ, i64_w, i32_w]
      rfl
    refine pure_ (i := 11) (N := some 16) (v := ?_) (a' := ?_) #[true, true, true, true, true, true, true, true, true, true, true, true, false] rfl rfl (by kernel_rfl) (fun _ _ _ h => h) (Or.inl ⟨by rfl, ?_⟩) ?_ ?_
    rotate_left
    · intro w'
      go_simp
      with_reducible rfl
    rotate_left
    · simp only [Act.put, List.setIfInBounds_toArray, List.set_cons_zero, List.set_cons_succ, i64_w, i32_w]
      rfl
    refine pure_ (i := 12) (N := some 4) (v := ?_) (a' := ?_) #[true, true, true, true, true, true, true, true, true, true, true, true, true] rfl rfl (by kernel_rfl) (fun _ _ _ h => h) (Or.inl ⟨by rfl, ?_⟩) ?_ ?_
    rotate_left
    · intro w'
      go_simp
      with_reducible rfl
    rotate_left
    · simp only [Act.put, List.setIfInBounds_toArray, List.set_cons_zero, List.set_cons_succ, i64_w, i32_w]
      rfl
    refine done_ (by kernel_rfl) ?_
    go_wp2
    go_ret
    exact ⟨rfl, HW.out⟩
  | false =>
    obtain rfl : V = false := by rw [hv, hs]; rfl
    clear hv
    go_enter Tryd.func17, Tryd.ntmps17
    go_wp2_with fail
    refine start_ (n := 13) (S := fun w' => w'.cell? ⟨w.heap.size, 0, none⟩ = some (.int .i64 i) ∧ w'.cell? ⟨w.heap.size, 1, none⟩ = some (.int .i64 q) ∧ w'.cell? ⟨w.heap.size, 2, none⟩ = some (.int .i64 m) ∧ w'.cell? ⟨w.heap.size, 3, none⟩ = some (.slice A l.length c) ∧ w'.cell? ⟨w.heap.size + 1, 0, none⟩ = some (.int .i64 i2) ∧ w'.cell? ⟨w.heap.size + 1, 1, none⟩ = some (.int .i64 q2) ∧ w'.cell? ⟨w.heap.size + 1, 2, none⟩ = some (.int .i64 m2) ∧ w'.cell? ⟨w.heap.size + 1, 3, none⟩ = some (.slice B k.length d)) (ds := []) #[false, false, false, false, false, false, false, false, false, false, false, false, false] (by kernel_rfl) rfl rfl ⟨(blk_cell (blk_drew KA.out) 0), (blk_cell (blk_drew KA.out) 1), (blk_cell (blk_drew KA.out) 2), (blk_cell (blk_drew KA.out) 3), (blk_cell (blk_drew KB.out) 0), (blk_cell (blk_drew KB.out) 1), (blk_cell (blk_drew KB.out) 2), (blk_cell (blk_drew KB.out) 3)⟩ (fun hHeld => ?_)
    refine take_ (i := 0) (N := some 5) (v := ?_) (a' := ?_) #[true, false, false, false, false, false, false, false, false, false, false, false, false] rfl rfl (by kernel_rfl) (fun _ _ _ h => h) (Or.inl ⟨by rfl, ?_⟩) hHeld ?_ ?_
    rotate_left
    · rintro w' ⟨s0, s1, s2, s3, s4, s5, s6, s7⟩
      go_simp
      with_reducible rfl
    rotate_left
    · simp only [Act.put, List.setIfInBounds_toArray, List.set_cons_zero, List.set_cons_succ, i64_w, i32_w]
      rfl
    refine take_ (i := 2) (N := some 7) (v := ?_) (a' := ?_) #[true, false, true, false, false, false, false, false, false, false, false, false, false] rfl rfl (by kernel_rfl) (fun _ _ _ h => h) (Or.inl ⟨by rfl, ?_⟩) hHeld ?_ ?_
    rotate_left
    · rintro w' ⟨s0, s1, s2, s3, s4, s5, s6, s7⟩
      go_simp
      with_reducible rfl
    rotate_left
    · simp only [Act.put, List.setIfInBounds_toArray, List.set_cons_zero, List.set_cons_succ, i64_w, i32_w]
      rfl
    refine one_ (i := 1) (N := some 6) #[true, true, true, false, false, false, false, false, false, false, false, false, false] rfl rfl (by kernel_rfl) (by decide) (fun K hK => ?_)
    refine goes_ Tryd.func22 (by kernel_rfl) rfl #[.agg #[.int .i64 i, .int .i64 q, .int .i64 m, .slice A l.length c]] (by rfl) rfl rfl (by first | (simp only [List.map_toArray, List.map_cons, List.map_nil]; done) | (simp only [List.map_toArray, List.map_cons, List.map_nil]; rfl)) ?_
    with_reducible refine (HS1.out _ HW.out).mono ?_
    rintro e_ w1 ⟨rfl, hb⟩
    refine ⟨_, rfl, ?_⟩
    have n_ := Aside0.mk (below_step HW.out hb)
    clear HW
    have HW := n_
    clear n_
    refine hK.out _ _ ⟨(pw_cell_below hb hHeld.1), (pw_cell_below hb hHeld.2.1), (pw_cell_below hb hHeld.2.2.1), (pw_cell_below hb hHeld.2.2.2.1), (pw_cell_below hb hHeld.2.2.2.2.1), (pw_cell_below hb hHeld.2.2.2.2.2.1), (pw_cell_below hb hHeld.2.2.2.2.2.2.1), (pw_cell_below hb hHeld.2.2.2.2.2.2.2)⟩ (fun hHeld => ?_)
    clear hK K
    refine norm_ (a' := ?_) ?_ ?_
    rotate_left
    · show Act.put _ (some 6) _ = _
      simp only [Act.put, List.setIfInBounds_toArray, List.set_cons_zero, List.set_cons_succ, i64_w, i32_w]
      rfl
    refine one_ (i := 3) (N := some 8) #[true, true, true, true, false, false, false, false, false, false, false, false, false] rfl rfl (by kernel_rfl) (by decide) (fun K hK => ?_)
    refine goes_ Tryd.func22 (by kernel_rfl) rfl #[.agg #[.int .i64 i2, .int .i64 q2, .int .i64 m2, .slice B k.length d]] (by rfl) rfl rfl (by first | (simp only [List.map_toArray, List.map_cons, List.map_nil]; done) | (simp only [List.map_toArray, List.map_cons, List.map_nil]; rfl)) ?_
    with_reducible refine (HS2.out _ HW.out).mono ?_
    rintro e_ w1 ⟨rfl, hb⟩
    refine ⟨_, rfl, ?_⟩
    have n_ := Aside0.mk (below_step HW.out hb)
    clear HW
    have HW := n_
    clear n_
    refine hK.out _ _ ⟨(pw_cell_below hb hHeld.1), (pw_cell_below hb hHeld.2.1), (pw_cell_below hb hHeld.2.2.1), (pw_cell_below hb hHeld.2.2.2.1), (pw_cell_below hb hHeld.2.2.2.2.1), (pw_cell_below hb hHeld.2.2.2.2.2.1), (pw_cell_below hb hHeld.2.2.2.2.2.2.1), (pw_cell_below hb hHeld.2.2.2.2.2.2.2)⟩ (fun hHeld => ?_)
    clear hK K
    refine norm_ (a' := ?_) ?_ ?_
    rotate_left
    · show Act.put _ (some 8) _ = _
      simp only [Act.put, List.setIfInBounds_toArray, List.set_cons_zero, List.set_cons_succ, i64_w, i32_w]
      rfl
    refine pure_ (i := 4) (N := some 9) (v := ?_) (a' := ?_) #[true, true, true, true, true, false, false, false, false, false, false, false, false] rfl rfl (by kernel_rfl) (fun _ _ _ h => h) (Or.inl ⟨by rfl, ?_⟩) ?_ ?_
    rotate_left
    · intro w'
      go_simp
      with_reducible rfl
    rotate_left
    · simp only [Act.put, List.setIfInBounds_toArray, List.set_cons_zero, List.set_cons_succ, i64_w, i32_w]
      rfl
    refine pure_ (i := 5) (N := some 10) (v := ?_) (a' := ?_) #[true, true, true, true, true, true, false, false, false, false, false, false, false] rfl rfl (by kernel_rfl) (fun _ _ _ h => h) (Or.inl ⟨by rfl, ?_⟩) ?_ ?_
    rotate_left
    · intro w'
      go_simp
      with_reducible rfl
    rotate_left
    · simp only [Act.put, List.setIfInBounds_toArray, List.set_cons_zero, List.set_cons_succ, i64_w, i32_w]
      rfl
    refine pure_ (i := 6) (N := some 11) (v := undef) (a' := ?_) #[true, true, true, true, true, true, true, false, false, false, false, false, false] rfl rfl (by kernel_rfl) (fun _ _ _ h => h) (Or.inr ⟨by rfl, rfl⟩) ?_ ?_
    rotate_left
    · simp only [Act.put, List.setIfInBounds_toArray, List.set_cons_zero, List.set_cons_succ, i64_w, i32_w]
      rfl
    refine pure_ (i := 7) (N := some 12) (v := undef) (a' := ?_) #[true, true, true, true, true, true, true, true, false, false, false, false, false] rfl rfl (by kernel_rfl) (fun _ _ _ h => h) (Or.inr ⟨by rfl, rfl⟩) ?_ ?_
    rotate_left
    · simp only [Act.put, List.setIfInBounds_toArray, List.set_cons_zero, List.set_cons_succ, i64_w, i32_w]
      rfl
    refine pure_ (i := 8) (N := some 13) (v := undef) (a' := ?_) #[true, true, true, true, true, true, true, true, true, false, false, false, false] rfl rfl (by kernel_rfl) (fun _ _ _ h => h) (Or.inr ⟨by rfl, rfl⟩) ?_ ?_
    rotate_left
    · simp only [Act.put, List.setIfInBounds_toArray, List.set_cons_zero, List.set_cons_succ, i64_w, i32_w]
      rfl
    refine pure_ (i := 9) (N := some 14) (v := undef) (a' := ?_) #[true, true, true, true, true, true, true, true, true, true, false, false, false] rfl rfl (by kernel_rfl) (fun _ _ _ h => h) (Or.inr ⟨by rfl, rfl⟩) ?_ ?_
    rotate_left
    · simp only [Act.put, List.setIfInBounds_toArray, List.set_cons_zero, List.set_cons_succ, i64_w, i32_w]
      rfl
    refine pure_ (i := 10) (N := some 15) (v := undef) (a' := ?_) #[true, true, true, true, true, true, true, true, true, true, true, false, false] rfl rfl (by kernel_rfl) (fun _ _ _ h => h) (Or.inr ⟨by rfl, rfl⟩) ?_ ?_
    rotate_left
    · simp only [Act.put, List.setIfInBounds_toArray, List.set_cons_zero, List.set_cons_succ, i64_w, i32_w]
      rfl
    refine pure_ (i := 11) (N := some 16) (v := ?_) (a' := ?_) #[true, true, true, true, true, true, true, true, true, true, true, true, false] rfl rfl (by kernel_rfl) (fun _ _ _ h => h) (Or.inl ⟨by rfl, ?_⟩) ?_ ?_
    rotate_left
    · intro w'
      go_simp
      with_reducible rfl
    rotate_left
    · simp only [Act.put, List.setIfInBounds_toArray, List.set_cons_zero, List.set_cons_succ, i64_w, i32_w]
      rfl
    refine pure_ (i := 12) (N := some 4) (v := ?_) (a' := ?_) #[true, true, true, true, true, true, true, true, true, true, true, true, true] rfl rfl (by kernel_rfl) (fun _ _ _ h => h) (Or.inl ⟨by rfl, ?_⟩) ?_ ?_
    rotate_left
    · intro w'
      go_simp
      with_reducible rfl
    rotate_left
    · simp only [Act.put, List.setIfInBounds_toArray, List.set_cons_zero, List.set_cons_succ, i64_w, i32_w]
      rfl
    refine done_ (by kernel_rfl) ?_
    go_wp2
    go_ret
    exact ⟨rfl, HW.out⟩
end Go.Proofs.YtolmkdhgnganaaaDoor.H
