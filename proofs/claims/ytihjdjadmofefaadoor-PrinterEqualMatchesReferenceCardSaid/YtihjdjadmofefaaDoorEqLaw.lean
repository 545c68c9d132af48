/-
  'busbarlaw11.PrinterEqualMatchesReference' answers true.
-/
import Derived.Test.YtihjdjadmofefaaDoorSame
import Derived.Test.YtihjdjadmofefaaDoorAl
import Derived.Test.YtihjdjadmofefaaDoorSmall
set_option linter.unusedVariables false
set_option linter.unusedSimpArgs false
namespace Go.Proofs.YtihjdjadmofefaaDoor.H
open Go Go.RowKit Go.Proofs Go.Proofs.YtihjdjadmofefaaDoorW.PrintWords Go.Proofs.YtihjdjadmofefaaDoorW.PrintLast Go.Proofs.YtihjdjadmofefaaDoorW.PrintMore Go.Proofs.YtihjdjadmofefaaDoor.Sp
theorem seq_refl (a : ByteArray) : seq a a = true := by rw [seq_dec]; simp
theorem seq_comm (a b : ByteArray) : seq a b = seq b a := by rw [seq_dec, seq_dec]; exact decide_eq_decide.2 ⟨fun h => h.symm, fun h => h.symm⟩
theorem eqL_refl {α : Type} {e : α → α → Bool} (h : ∀ x, e x x = true) (xs : List α) : eqL e xs xs = true := by
  unfold eqL
  rw [Bool.and_eq_true]
  refine ⟨by simp, List.all_eq_true.2 fun p hp => ?_⟩
  obtain ⟨j, hj, rfl⟩ := List.getElem_of_mem hp
  simp [h]
theorem eqL_comm {α : Type} {e : α → α → Bool} (h : ∀ x y, e x y = e y x) : ∀ (xs ys : List α), eqL e xs ys = eqL e ys xs := by
  intro xs ys
  unfold eqL
  congr 1
  · exact decide_eq_decide.2 ⟨fun h => h.symm, fun h => h.symm⟩
  · induction xs generalizing ys with
    | nil => simp
    | cons x xs ih => cases ys with
      | nil => simp
      | cons y ys => simp only [List.zip_cons_cons, List.all_cons]; rw [ih ys, h x y]
theorem beq_comm_int (a b : Int) : (a == b) = (b == a) := by
  by_cases h : a = b
  · subst h; rfl
  · have h2 : ¬ b = a := fun e => h e.symm
    have e1 : (a == b) = false := by simpa using h
    have e2 : (b == a) = false := by simpa using h2
    rw [e1, e2]
theorem conEq_comm (a b : Con) : conEq a b = conEq b a := by
  unfold conEq
  rw [beq_comm_int a.f0, beq_comm_int a.f1.f0, beq_comm_int a.f1.f1, seq_comm a.f2, seq_comm a.f3]
theorem coilEq_comm (a b : Coil) : coilEq a b = coilEq b a := by
  unfold coilEq
  rw [beq_comm_int a.f0, beq_comm_int a.f1.f0, beq_comm_int a.f1.f1]
theorem rungEq_comm (a b : Rung) : rungEq a b = rungEq b a := by
  unfold rungEq
  rw [seq_comm a.f0, seq_comm a.f3, eqL_comm conEq_comm a.f1, eqL_comm coilEq_comm a.f2]
theorem conEq_refl (a : Con) : conEq a a = true := by simp [conEq, seq_refl]
theorem coilEq_refl (a : Coil) : coilEq a a = true := by simp [coilEq]
theorem rungEq_refl (a : Rung) : rungEq a a = true := by simp only [rungEq, seq_refl, eqL_refl conEq_refl, eqL_refl coilEq_refl, Bool.and_self]
theorem ladEq_refl (i q m : Int) (l : List Rung) : ladEq i q m l i q m l = true := by simp only [ladEq, szEq, eqL_refl rungEq_refl, beq_self_eq_true, Bool.and_self]
theorem ladEq_comm (i q m : Int) (l : List Rung) (i2 q2 m2 : Int) (k : List Rung) : ladEq i q m l i2 q2 m2 k = ladEq i2 q2 m2 k i q m l := by
  unfold ladEq szEq
  rw [eqL_comm rungEq_comm l, beq_comm_int i, beq_comm_int q, beq_comm_int m]

set_option maxHeartbeats 4000000 in
set_option maxRecDepth 100000 in
theorem eqLaw_b (i q m : Int) (A : Option Addr) (c : Nat) (l : List Rung) (i2 q2 m2 : Int) (B : Option Addr) (d : Nat) (k : List Rung) (w : World) (h1 : Kd.C kRung w A l.length l) (h2 : Kd.C kRung w B k.length k) (hc1 : l.length ≤ c) (hc2 : k.length ≤ d)
    (hlt : Lets w) (hpw : Pows w) (hkw : Kws w) :
    Calls Tryd.prog 5 #[.agg #[.int .i64 i, .int .i64 q, .int .i64 m, .slice A l.length c], .agg #[.int .i64 i2, .int .i64 q2, .int .i64 m2, .slice B k.length d]] w (RetB w (.bool true)) := by
  have HT1 := Aside0.mk (fun W (hW : Below w.heap.size w W) => large_b i q m A c l W (Kd.C_below h1 hW) hc1)
  have HT2 := Aside0.mk (fun W (hW : Below w.heap.size w W) => large_b i2 q2 m2 B d k W (Kd.C_below h2 hW) hc2)
  have HAl := Aside0.mk (fun W (hW : Below w.heap.size w W) => alive11_b W (hlt.below hW) (hpw.below hW) (hkw.below hW))
  have HAB := Aside0.mk (fun W (hW : Below w.heap.size w W) => equal_b i q m A c l i2 q2 m2 B d k W (Kd.C_below h1 hW) (Kd.C_below h2 hW) hc1 hc2)
  have HSm := Aside0.mk (fun W (hW : Below w.heap.size w W) => same_b i q m A c l i2 q2 m2 B d k W (Kd.C_below h1 hW) (Kd.C_below h2 hW) hc1 hc2)
  have HAA := Aside0.mk (fun W (hW : Below w.heap.size w W) => equal_b i q m A c l i q m A c l W (Kd.C_below h1 hW) (Kd.C_below h1 hW) hc1 hc1)
  have HBA := Aside0.mk (fun W (hW : Below w.heap.size w W) => equal_b i2 q2 m2 B d k i q m A c l W (Kd.C_below h2 hW) (Kd.C_below h1 hW) hc2 hc1)
  clear h1 h2 hlt hpw hkw
  rw [ladEq_refl] at HAA
  rw [← ladEq_comm i q m l i2 q2 m2 k] at HBA
  generalize ladEq i q m l i2 q2 m2 k = v at HAB HSm HBA
  have HW0 : Aside0 (Below w.heap.size w ((w.alloc (.cells #[.int .i64 i, .int .i64 q, .int .i64 m, .slice A l.length c] 24)).alloc (.cells #[.int .i64 i2, .int .i64 q2, .int .i64 m2, .slice B k.length d] 24))) := ⟨below_alloc (below_alloc (Below.refl _ _) _) _⟩
  have KA := Aside0.mk (blk_alloc (blk_new w (.cells #[.int .i64 i, .int .i64 q, .int .i64 m, .slice A l.length c] 24)) (.cells #[.int .i64 i2, .int .i64 q2, .int .i64 m2, .slice B k.length d] 24))
  have KB : Aside0 (((w.alloc (.cells #[.int .i64 i, .int .i64 q, .int .i64 m, .slice A l.length c] 24)).alloc (.cells #[.int .i64 i2, .int .i64 q2, .int .i64 m2, .slice B k.length d] 24)).heap[w.heap.size + 1]? = some (.cells #[.int .i64 i2, .int .i64 q2, .int .i64 m2, .slice B k.length d] 24 (0, 0))) :=
    ⟨by have := blk_new (w.alloc (.cells #[.int .i64 i, .int .i64 q, .int .i64 m, .slice A l.length c] 24)) (.cells #[.int .i64 i2, .int .i64 q2, .int .i64 m2, .slice B k.length d] 24); simpa using this⟩
  go_enter Tryd.func5, Tryd.ntmps5
  go_wp2_with fail
  refine (HT1.out _ HW0.out).mono ?_
  rintro e w1 ⟨r1, rfl, hb1⟩
  have HW1 := Aside0.mk (below_step HW0.out hb1)
  have KA1 := Aside0.mk (blk_below KA.out hb1)
  have KB1 := Aside0.mk (blk_below KB.out hb1)
  have a0 := blk_cell KA1.out 0
  have a1 := blk_cell KA1.out 1
  have a2 := blk_cell KA1.out 2
  have a3 := blk_cell KA1.out 3
  have b0 := blk_cell KB1.out 0
  have b1 := blk_cell KB1.out 1
  have b2 := blk_cell KB1.out 2
  have b3 := blk_cell KB1.out 3
  clear KA KB HW0 hb1
  by_cases hr1 : (0 : Int) < r1
  · go_wp2_with fail
    refine (HAl.out _ HW1.out).mono ?_
    rintro e w2 ⟨rfl, hb2⟩
    have FB := below_step HW1.out hb2
    go_wp2
    go_ret
    exact ⟨rfl, FB⟩
  · go_wp2_with fail
    refine (HT2.out _ HW1.out).mono ?_
    rintro e w2 ⟨r2, rfl, hb2⟩
    have HW2 := Aside0.mk (below_step HW1.out hb2)
    have KA2 := Aside0.mk (blk_below KA1.out hb2)
    have KB2 := Aside0.mk (blk_below KB1.out hb2)
    clear KA1 KB1 HW1 hb2 a0 a1 a2 a3 b0 b1 b2 b3
    by_cases hr2 : (0 : Int) < r2
    · go_wp2_with fail
      refine (HAl.out _ HW2.out).mono ?_
      rintro e w3 ⟨rfl, hb3⟩
      have FB := below_step HW2.out hb3
      go_wp2
      go_ret
      exact ⟨rfl, FB⟩
    · have HW : Aside0 (Below w.heap.size w w2.drew) := ⟨below_drew HW2.out⟩
      go_wp2_with fail
      refine start_ (n := 25) (S := fun w' => w'.cell? ⟨w.heap.size, 0, none⟩ = some (.int .i64 i) ∧ w'.cell? ⟨w.heap.size, 1, none⟩ = some (.int .i64 q) ∧ w'.cell? ⟨w.heap.size, 2, none⟩ = some (.int .i64 m) ∧ w'.cell? ⟨w.heap.size, 3, none⟩ = some (.slice A l.length c) ∧ w'.cell? ⟨w.heap.size + 1, 0, none⟩ = some (.int .i64 i2) ∧ w'.cell? ⟨w.heap.size + 1, 1, none⟩ = some (.int .i64 q2) ∧ w'.cell? ⟨w.heap.size + 1, 2, none⟩ = some (.int .i64 m2) ∧ w'.cell? ⟨w.heap.size + 1, 3, none⟩ = some (.slice B k.length d)) (ds := []) #[false, false, false, false, false, false, false, false, false, false, false, false, false, false, false, false, false, false, false, false, false, false, false, false, false] (by kernel_rfl) rfl rfl ⟨(blk_cell (blk_drew KA2.out) 0), (blk_cell (blk_drew KA2.out) 1), (blk_cell (blk_drew KA2.out) 2), (blk_cell (blk_drew KA2.out) 3), (blk_cell (blk_drew KB2.out) 0), (blk_cell (blk_drew KB2.out) 1), (blk_cell (blk_drew KB2.out) 2), (blk_cell (blk_drew KB2.out) 3)⟩ (fun hHeld => ?_)
      refine one_ (i := 0) (N := some 14) #[true, false, false, false, false, false, false, false, false, false, false, false, false, false, false, false, false, false, false, false, false, false, false, false, false] rfl rfl (by kernel_rfl) (by decide) (fun K hK => ?_)
      refine goes_ Tryd.func10 (by kernel_rfl) rfl #[] (by rfl) rfl rfl (by first | (simp only [List.map_toArray, List.map_cons, List.map_nil]; done) | (simp only [List.map_toArray, List.map_cons, List.map_nil]; rfl)) ?_
      with_reducible refine (HAl.out _ HW.out).mono ?_
      rintro e_ w1 ⟨rfl, hb⟩
      refine ⟨_, rfl, ?_⟩
      have n_ := Aside0.mk (below_step HW.out hb)
      clear HW
      have HW := n_
      clear n_
      refine hK.out _ _ ⟨(pw_cell_below hb hHeld.1), (pw_cell_below hb hHeld.2.1), (pw_cell_below hb hHeld.2.2.1), (pw_cell_below hb hHeld.2.2.2.1), (pw_cell_below hb hHeld.2.2.2.2.1), (pw_cell_below hb hHeld.2.2.2.2.2.1), (pw_cell_below hb hHeld.2.2.2.2.2.2.1), (pw_cell_below hb hHeld.2.2.2.2.2.2.2)⟩ (fun hHeld => ?_)
      clear hK K
      refine norm_ (a' := ?_) ?_ ?_
      rotate_left
      · show Act.put _ (some 14) _ = _
        simp only [Act.put, List.setIfInBounds_toArray, List.set_cons_zero, List.set_cons_succ, i64_w, i32_w]
        rfl
      refine pure_ (i := 1) (N := some 15) (v := ?_) (a' := ?_) #[true, true, false, false, false, false, false, false, false, false, false, false, false, false, false, false, false, false, false, false, false, false, false, false, false] rfl rfl (by kernel_rfl) (fun _ _ _ h => h) (Or.inl ⟨by rfl, ?_⟩) ?_ ?_
      rotate_left
      · intro w'
        go_simp
        with_reducible rfl
      rotate_left
      · simp only [Act.put, List.setIfInBounds_toArray, List.set_cons_zero, List.set_cons_succ, i64_w, i32_w]
        rfl
      refine take_ (i := 2) (N := some 16) (v := ?_) (a' := ?_) #[true, true, true, false, false, false, false, false, false, false, false, false, false, false, false, false, false, false, false, false, false, false, false, false, false] rfl rfl (by kernel_rfl) (fun _ _ _ h => h) (Or.inl ⟨by rfl, ?_⟩) hHeld ?_ ?_
      rotate_left
      · rintro w' ⟨s0, s1, s2, s3, s4, s5, s6, s7⟩
        go_simp
        with_reducible rfl
      rotate_left
      · simp only [Act.put, List.setIfInBounds_toArray, List.set_cons_zero, List.set_cons_succ, i64_w, i32_w]
        rfl
      refine take_ (i := 3) (N := some 17) (v := ?_) (a' := ?_) #[true, true, true, true, false, false, false, false, false, false, false, false, false, false, false, false, false, false, false, false, false, false, false, false, false] rfl rfl (by kernel_rfl) (fun _ _ _ h => h) (Or.inl ⟨by rfl, ?_⟩) hHeld ?_ ?_
      rotate_left
      · rintro w' ⟨s0, s1, s2, s3, s4, s5, s6, s7⟩
        go_simp
        with_reducible rfl
      rotate_left
      · simp only [Act.put, List.setIfInBounds_toArray, List.set_cons_zero, List.set_cons_succ, i64_w, i32_w]
        rfl
      refine take_ (i := 5) (N := some 19) (v := ?_) (a' := ?_) #[true, true, true, true, false, true, false, false, false, false, false, false, false, false, false, false, false, false, false, false, false, false, false, false, false] rfl rfl (by kernel_rfl) (fun _ _ _ h => h) (Or.inl ⟨by rfl, ?_⟩) hHeld ?_ ?_
      rotate_left
      · rintro w' ⟨s0, s1, s2, s3, s4, s5, s6, s7⟩
        go_simp
        with_reducible rfl
      rotate_left
      · simp only [Act.put, List.setIfInBounds_toArray, List.set_cons_zero, List.set_cons_succ, i64_w, i32_w]
        rfl
      refine take_ (i := 6) (N := some 20) (v := ?_) (a' := ?_) #[true, true, true, true, false, true, true, false, false, false, false, false, false, false, false, false, false, false, false, false, false, false, false, false, false] rfl rfl (by kernel_rfl) (fun _ _ _ h => h) (Or.inl ⟨by rfl, ?_⟩) hHeld ?_ ?_
      rotate_left
      · rintro w' ⟨s0, s1, s2, s3, s4, s5, s6, s7⟩
        go_simp
        with_reducible rfl
      rotate_left
      · simp only [Act.put, List.setIfInBounds_toArray, List.set_cons_zero, List.set_cons_succ, i64_w, i32_w]
        rfl
      refine one_ (i := 4) (N := some 18) #[true, true, true, true, true, true, true, false, false, false, false, false, false, false, false, false, false, false, false, false, false, false, false, false, false] rfl rfl (by kernel_rfl) (by decide) (fun K hK => ?_)
      refine goes_ Tryd.func18 (by kernel_rfl) rfl #[.agg #[.int .i64 i, .int .i64 q, .int .i64 m, .slice A l.length c], .agg #[.int .i64 i2, .int .i64 q2, .int .i64 m2, .slice B k.length d]] (by rfl) rfl rfl (by first | (simp only [List.map_toArray, List.map_cons, List.map_nil]; done) | (simp only [List.map_toArray, List.map_cons, List.map_nil]; rfl)) ?_
      with_reducible refine (HAB.out _ HW.out).mono ?_
      rintro e_ w1 ⟨rfl, hb⟩
      refine ⟨_, rfl, ?_⟩
      have n_ := Aside0.mk (below_step HW.out hb)
      clear HW
      have HW := n_
      clear n_
      refine hK.out _ _ ⟨(pw_cell_below hb hHeld.1), (pw_cell_below hb hHeld.2.1), (pw_cell_below hb hHeld.2.2.1), (pw_cell_below hb hHeld.2.2.2.1), (pw_cell_below hb hHeld.2.2.2.2.1), (pw_cell_below hb hHeld.2.2.2.2.2.1), (pw_cell_below hb hHeld.2.2.2.2.2.2.1), (pw_cell_below hb hHeld.2.2.2.2.2.2.2)⟩ (fun hHeld => ?_)
      clear hK K
      refine norm_ (a' := ?_) ?_ ?_
      rotate_left
      · show Act.put _ (some 18) _ = _
        simp only [Act.put, List.setIfInBounds_toArray, List.set_cons_zero, List.set_cons_succ, i64_w, i32_w]
        rfl
      refine one_ (i := 7) (N := some 21) #[true, true, true, true, true, true, true, true, false, false, false, false, false, false, false, false, false, false, false, false, false, false, false, false, false] rfl rfl (by kernel_rfl) (by decide) (fun K hK => ?_)
      refine goes_ Tryd.func19 (by kernel_rfl) rfl #[.agg #[.int .i64 i, .int .i64 q, .int .i64 m, .slice A l.length c], .agg #[.int .i64 i2, .int .i64 q2, .int .i64 m2, .slice B k.length d]] (by rfl) rfl rfl (by first | (simp only [List.map_toArray, List.map_cons, List.map_nil]; done) | (simp only [List.map_toArray, List.map_cons, List.map_nil]; rfl)) ?_
      with_reducible refine (HSm.out _ HW.out).mono ?_
      rintro e_ w1 ⟨rfl, hb⟩
      refine ⟨_, rfl, ?_⟩
      have n_ := Aside0.mk (below_step HW.out hb)
      clear HW
      have HW := n_
      clear n_
      refine hK.out _ _ ⟨(pw_cell_below hb hHeld.1), (pw_cell_below hb hHeld.2.1), (pw_cell_below hb hHeld.2.2.1), (pw_cell_below hb hHeld.2.2.2.1), (pw_cell_below hb hHeld.2.2.2.2.1), (pw_cell_below hb hHeld.2.2.2.2.2.1), (pw_cell_below hb hHeld.2.2.2.2.2.2.1), (pw_cell_below hb hHeld.2.2.2.2.2.2.2)⟩ (fun hHeld => ?_)
      clear hK K
      refine norm_ (a' := ?_) ?_ ?_
      rotate_left
      · show Act.put _ (some 21) _ = _
        simp only [Act.put, List.setIfInBounds_toArray, List.set_cons_zero, List.set_cons_succ, i64_w, i32_w]
        rfl
      refine pure_ (i := 8) (N := some 22) (v := ?_) (a' := ?_) #[true, true, true, true, true, true, true, true, true, false, false, false, false, false, false, false, false, false, false, false, false, false, false, false, false] rfl rfl (by kernel_rfl) (fun _ _ _ h => h) (Or.inl ⟨by rfl, ?_⟩) ?_ ?_
      rotate_left
      · intro w'
        go_simp
        with_reducible rfl
      rotate_left
      · simp only [Act.put, List.setIfInBounds_toArray, List.set_cons_zero, List.set_cons_succ, i64_w, i32_w]
        rfl
      refine pure_ (i := 9) (N := some 23) (v := ?_) (a' := ?_) #[true, true, true, true, true, true, true, true, true, true, false, false, false, false, false, false, false, false, false, false, false, false, false, false, false] rfl rfl (by kernel_rfl) (fun _ _ _ h => h) (Or.inl ⟨by rfl, ?_⟩) ?_ ?_
      rotate_left
      · intro w'
        go_simp
        with_reducible rfl
      rotate_left
      · simp only [Act.put, List.setIfInBounds_toArray, List.set_cons_zero, List.set_cons_succ, i64_w, i32_w]
        rfl
      refine pure_ (i := 10) (N := some 24) (v := ?_) (a' := ?_) #[true, true, true, true, true, true, true, true, true, true, true, false, false, false, false, false, false, false, false, false, false, false, false, false, false] rfl rfl (by kernel_rfl) (fun _ _ _ h => h) (Or.inl ⟨by rfl, ?_⟩) ?_ ?_
      rotate_left
      · intro w'
        go_simp
        with_reducible rfl
      rotate_left
      · simp only [Act.put, List.setIfInBounds_toArray, List.set_cons_zero, List.set_cons_succ, i64_w, i32_w]
        rfl
      refine take_ (i := 11) (N := some 25) (v := ?_) (a' := ?_) #[true, true, true, true, true, true, true, true, true, true, true, true, false, false, false, false, false, false, false, false, false, false, false, false, false] rfl rfl (by kernel_rfl) (fun _ _ _ h => h) (Or.inl ⟨by rfl, ?_⟩) hHeld ?_ ?_
      rotate_left
      · rintro w' ⟨s0, s1, s2, s3, s4, s5, s6, s7⟩
        go_simp
        with_reducible rfl
      rotate_left
      · simp only [Act.put, List.setIfInBounds_toArray, List.set_cons_zero, List.set_cons_succ, i64_w, i32_w]
        rfl
      refine take_ (i := 12) (N := some 26) (v := ?_) (a' := ?_) #[true, true, true, true, true, true, true, true, true, true, true, true, true, false, false, false, false, false, false, false, false, false, false, false, false] rfl rfl (by kernel_rfl) (fun _ _ _ h => h) (Or.inl ⟨by rfl, ?_⟩) hHeld ?_ ?_
      rotate_left
      · rintro w' ⟨s0, s1, s2, s3, s4, s5, s6, s7⟩
        go_simp
        with_reducible rfl
      rotate_left
      · simp only [Act.put, List.setIfInBounds_toArray, List.set_cons_zero, List.set_cons_succ, i64_w, i32_w]
        rfl
      refine one_ (i := 13) (N := some 27) #[true, true, true, true, true, true, true, true, true, true, true, true, true, true, false, false, false, false, false, false, false, false, false, false, false] rfl rfl (by kernel_rfl) (by decide) (fun K hK => ?_)
      refine goes_ Tryd.func18 (by kernel_rfl) rfl #[.agg #[.int .i64 i, .int .i64 q, .int .i64 m, .slice A l.length c], .agg #[.int .i64 i, .int .i64 q, .int .i64 m, .slice A l.length c]] (by rfl) rfl rfl (by first | (simp only [List.map_toArray, List.map_cons, List.map_nil]; done) | (simp only [List.map_toArray, List.map_cons, List.map_nil]; rfl)) ?_
      with_reducible refine (HAA.out _ HW.out).mono ?_
      rintro e_ w1 ⟨rfl, hb⟩
      refine ⟨_, rfl, ?_⟩
      have n_ := Aside0.mk (below_step HW.out hb)
      clear HW
      have HW := n_
      clear n_
      refine hK.out _ _ ⟨(pw_cell_below hb hHeld.1), (pw_cell_below hb hHeld.2.1), (pw_cell_below hb hHeld.2.2.1), (pw_cell_below hb hHeld.2.2.2.1), (pw_cell_below hb hHeld.2.2.2.2.1), (pw_cell_below hb hHeld.2.2.2.2.2.1), (pw_cell_below hb hHeld.2.2.2.2.2.2.1), (pw_cell_below hb hHeld.2.2.2.2.2.2.2)⟩ (fun hHeld => ?_)
      clear hK K
      refine norm_ (a' := ?_) ?_ ?_
      rotate_left
      · show Act.put _ (some 27) _ = _
        simp only [Act.put, List.setIfInBounds_toArray, List.set_cons_zero, List.set_cons_succ, i64_w, i32_w]
        rfl
      refine pure_ (i := 14) (N := some 28) (v := ?_) (a' := ?_) #[true, true, true, true, true, true, true, true, true, true, true, true, true, true, true, false, false, false, false, false, false, false, false, false, false] rfl rfl (by kernel_rfl) (fun _ _ _ h => h) (Or.inl ⟨by rfl, ?_⟩) ?_ ?_
      rotate_left
      · intro w'
        go_simp
        with_reducible rfl
      rotate_left
      · simp only [Act.put, List.setIfInBounds_toArray, List.set_cons_zero, List.set_cons_succ, i64_w, i32_w]
        rfl
      refine pure_ (i := 15) (N := some 29) (v := ?_) (a' := ?_) #[true, true, true, true, true, true, true, true, true, true, true, true, true, true, true, true, false, false, false, false, false, false, false, false, false] rfl rfl (by kernel_rfl) (fun _ _ _ h => h) (Or.inl ⟨by rfl, ?_⟩) ?_ ?_
      rotate_left
      · intro w'
        go_simp
        with_reducible rfl
      rotate_left
      · simp only [Act.put, List.setIfInBounds_toArray, List.set_cons_zero, List.set_cons_succ, i64_w, i32_w]
        rfl
      refine take_ (i := 16) (N := some 30) (v := ?_) (a' := ?_) #[true, true, true, true, true, true, true, true, true, true, true, true, true, true, true, true, true, false, false, false, false, false, false, false, false] rfl rfl (by kernel_rfl) (fun _ _ _ h => h) (Or.inl ⟨by rfl, ?_⟩) hHeld ?_ ?_
      rotate_left
      · rintro w' ⟨s0, s1, s2, s3, s4, s5, s6, s7⟩
        go_simp
        with_reducible rfl
      rotate_left
      · simp only [Act.put, List.setIfInBounds_toArray, List.set_cons_zero, List.set_cons_succ, i64_w, i32_w]
        rfl
      refine take_ (i := 17) (N := some 31) (v := ?_) (a' := ?_) #[true, true, true, true, true, true, true, true, true, true, true, true, true, true, true, true, true, true, false, false, false, false, false, false, false] rfl rfl (by kernel_rfl) (fun _ _ _ h => h) (Or.inl ⟨by rfl, ?_⟩) hHeld ?_ ?_
      rotate_left
      · rintro w' ⟨s0, s1, s2, s3, s4, s5, s6, s7⟩
        go_simp
        with_reducible rfl
      rotate_left
      · simp only [Act.put, List.setIfInBounds_toArray, List.set_cons_zero, List.set_cons_succ, i64_w, i32_w]
        rfl
      refine take_ (i := 19) (N := some 33) (v := ?_) (a' := ?_) #[true, true, true, true, true, true, true, true, true, true, true, true, true, true, true, true, true, true, false, true, false, false, false, false, false] rfl rfl (by kernel_rfl) (fun _ _ _ h => h) (Or.inl ⟨by rfl, ?_⟩) hHeld ?_ ?_
      rotate_left
      · rintro w' ⟨s0, s1, s2, s3, s4, s5, s6, s7⟩
        go_simp
        with_reducible rfl
      rotate_left
      · simp only [Act.put, List.setIfInBounds_toArray, List.set_cons_zero, List.set_cons_succ, i64_w, i32_w]
        rfl
      refine take_ (i := 20) (N := some 34) (v := ?_) (a' := ?_) #[true, true, true, true, true, true, true, true, true, true, true, true, true, true, true, true, true, true, false, true, true, false, false, false, false] rfl rfl (by kernel_rfl) (fun _ _ _ h => h) (Or.inl ⟨by rfl, ?_⟩) hHeld ?_ ?_
      rotate_left
      · rintro w' ⟨s0, s1, s2, s3, s4, s5, s6, s7⟩
        go_simp
        with_reducible rfl
      rotate_left
      · simp only [Act.put, List.setIfInBounds_toArray, List.set_cons_zero, List.set_cons_succ, i64_w, i32_w]
        rfl
      refine one_ (i := 18) (N := some 32) #[true, true, true, true, true, true, true, true, true, true, true, true, true, true, true, true, true, true, true, true, true, false, false, false, false] rfl rfl (by kernel_rfl) (by decide) (fun K hK => ?_)
      refine goes_ Tryd.func18 (by kernel_rfl) rfl #[.agg #[.int .i64 i, .int .i64 q, .int .i64 m, .slice A l.length c], .agg #[.int .i64 i2, .int .i64 q2, .int .i64 m2, .slice B k.length d]] (by rfl) rfl rfl (by first | (simp only [List.map_toArray, List.map_cons, List.map_nil]; done) | (simp only [List.map_toArray, List.map_cons, List.map_nil]; rfl)) ?_
      with_reducible refine (HAB.out _ HW.out).mono ?_
      rintro e_ w1 ⟨rfl, hb⟩
      refine ⟨_, rfl, ?_⟩
      have n_ := Aside0.mk (below_step HW.out hb)
      clear HW
      have HW := n_
      clear n_
      refine hK.out _ _ ⟨(pw_cell_below hb hHeld.1), (pw_cell_below hb hHeld.2.1), (pw_cell_below hb hHeld.2.2.1), (pw_cell_below hb hHeld.2.2.2.1), (pw_cell_below hb hHeld.2.2.2.2.1), (pw_cell_below hb hHeld.2.2.2.2.2.1), (pw_cell_below hb hHeld.2.2.2.2.2.2.1), (pw_cell_below hb hHeld.2.2.2.2.2.2.2)⟩ (fun hHeld => ?_)
      clear hK K
      refine norm_ (a' := ?_) ?_ ?_
      rotate_left
      · show Act.put _ (some 32) _ = _
        simp only [Act.put, List.setIfInBounds_toArray, List.set_cons_zero, List.set_cons_succ, i64_w, i32_w]
        rfl
      refine one_ (i := 21) (N := some 35) #[true, true, true, true, true, true, true, true, true, true, true, true, true, true, true, true, true, true, true, true, true, true, false, false, false] rfl rfl (by kernel_rfl) (by decide) (fun K hK => ?_)
      refine goes_ Tryd.func18 (by kernel_rfl) rfl #[.agg #[.int .i64 i2, .int .i64 q2, .int .i64 m2, .slice B k.length d], .agg #[.int .i64 i, .int .i64 q, .int .i64 m, .slice A l.length c]] (by rfl) rfl rfl (by first | (simp only [List.map_toArray, List.map_cons, List.map_nil]; done) | (simp only [List.map_toArray, List.map_cons, List.map_nil]; rfl)) ?_
      with_reducible refine (HBA.out _ HW.out).mono ?_
      rintro e_ w1 ⟨rfl, hb⟩
      refine ⟨_, rfl, ?_⟩
      have n_ := Aside0.mk (below_step HW.out hb)
      clear HW
      have HW := n_
      clear n_
      refine hK.out _ _ ⟨(pw_cell_below hb hHeld.1), (pw_cell_below hb hHeld.2.1), (pw_cell_below hb hHeld.2.2.1), (pw_cell_below hb hHeld.2.2.2.1), (pw_cell_below hb hHeld.2.2.2.2.1), (pw_cell_below hb hHeld.2.2.2.2.2.1), (pw_cell_below hb hHeld.2.2.2.2.2.2.1), (pw_cell_below hb hHeld.2.2.2.2.2.2.2)⟩ (fun hHeld => ?_)
      clear hK K
      refine norm_ (a' := ?_) ?_ ?_
      rotate_left
      · show Act.put _ (some 35) _ = _
        simp only [Act.put, List.setIfInBounds_toArray, List.set_cons_zero, List.set_cons_succ, i64_w, i32_w]
        rfl
      refine pure_ (i := 22) (N := some 36) (v := ?_) (a' := ?_) #[true, true, true, true, true, true, true, true, true, true, true, true, true, true, true, true, true, true, true, true, true, true, true, false, false] rfl rfl (by kernel_rfl) (fun _ _ _ h => h) (Or.inl ⟨by rfl, ?_⟩) ?_ ?_
      rotate_left
      · intro w'
        go_simp
        with_reducible rfl
      rotate_left
      · simp only [Act.put, List.setIfInBounds_toArray, List.set_cons_zero, List.set_cons_succ, i64_w, i32_w]
        rfl
      refine pure_ (i := 23) (N := some 37) (v := ?_) (a' := ?_) #[true, true, true, true, true, true, true, true, true, true, true, true, true, true, true, true, true, true, true, true, true, true, true, true, false] rfl rfl (by kernel_rfl) (fun _ _ _ h => h) (Or.inl ⟨by rfl, ?_⟩) ?_ ?_
      rotate_left
      · intro w'
        go_simp
        with_reducible rfl
      rotate_left
      · simp only [Act.put, List.setIfInBounds_toArray, List.set_cons_zero, List.set_cons_succ, i64_w, i32_w]
        rfl
      refine pure_ (i := 24) (N := some 4) (v := ?_) (a' := ?_) #[true, true, true, true, true, true, true, true, true, true, true, true, true, true, true, true, true, true, true, true, true, true, true, true, true] rfl rfl (by kernel_rfl) (fun _ _ _ h => h) (Or.inl ⟨by rfl, ?_⟩) ?_ ?_
      rotate_left
      · intro w'
        go_simp
        with_reducible rfl
      rotate_left
      · simp only [Act.put, List.setIfInBounds_toArray, List.set_cons_zero, List.set_cons_succ, i64_w, i32_w]
        rfl
      refine done_ (by kernel_rfl) ?_
      go_wp2
      go_ret
      exact ⟨by simp, HW.out⟩
end Go.Proofs.YtihjdjadmofefaaDoor.H
