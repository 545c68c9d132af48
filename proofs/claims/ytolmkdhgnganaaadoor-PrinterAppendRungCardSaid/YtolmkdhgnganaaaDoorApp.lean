/-
  'busbarlaw11.PrinterAppendRung' answers true.
-/
import Derived.Test.YtolmkdhgnganaaaDoorAppLaw
import Derived.Test.YtolmkdhgnganaaaDoorAppMem
import Derived.Test.YtolmkdhgnganaaaDoorAl
set_option linter.unusedVariables false
set_option linter.unusedSimpArgs false
namespace Go.Proofs.YtolmkdhgnganaaaDoor.H
open Go Go.RowKit Go.Proofs Go.Proofs.YtolmkdhgnganaaaDoorW.PrintWords Go.Proofs.YtolmkdhgnganaaaDoorW.PrintLast Go.Proofs.YtolmkdhgnganaaaDoorW.PrintMore Go.Proofs.YtolmkdhgnganaaaDoor.Sp
set_option maxHeartbeats 4000000 in
set_option maxRecDepth 100000 in
theorem app_b (i q m : Int) (A : Option Addr) (c : Nat) (l : List Rung) (r : Rung) (A1 : Option Addr) (c1 : Nat) (A2 : Option Addr) (c2 : Nat) (w : World) (h1 : Kd.C kRung w A l.length l) (hc1 : l.length ≤ c)
    (hr1 : Kd.C kCon w A1 r.f1.length r.f1) (hl1 : r.f1.length ≤ c1) (hr2 : Kd.C kCoil w A2 r.f2.length r.f2) (hl2 : r.f2.length ≤ c2) (hlt : Lets w) (hpw : Pows w) (hkw : Kws w) :
    Calls Tryd.prog 4 #[.agg #[.int .i64 i, .int .i64 q, .int .i64 m, .slice A l.length c], .agg #[.string r.f0, .slice A1 r.f1.length c1, .slice A2 r.f2.length c2, .string r.f3]] w (RetB w (.bool true)) := by
  have HT := Aside0.mk (fun W (hW : Below w.heap.size w W) => large_b i q m A c l W (Kd.C_below h1 hW) hc1)
  have HAl := Aside0.mk (fun W (hW : Below w.heap.size w W) => alive11_b W (hlt.below hW) (hpw.below hW) (hkw.below hW))
  have HPr := Aside0.mk (fun W (hW : Below w.heap.size w W) => print_b i q m A c l W (Kd.C_below h1 hW) hc1 (hlt.below hW) (hpw.below hW) (hkw.below hW))
  have HE := Aside0.mk (fun W (hW : Below w.heap.size w W) => edge_b i q m A c l W (Kd.C_below h1 hW) hc1)
  have HT1 := Aside0.mk (fun W g (hC : Kd.C kRung W (some ⟨g, 0, none⟩) 1 [r]) => large_b 0 0 0 (some ⟨g, 0, none⟩) 1 [r] W hC (Nat.le_refl _))
  have HE1 := Aside0.mk (fun W g (hC : Kd.C kRung W (some ⟨g, 0, none⟩) 1 [r]) => edge_b 0 0 0 (some ⟨g, 0, none⟩) 1 [r] W hC (Nat.le_refl _))
  have HPm := Aside0.mk (fun W B d (hC : Kd.C kRung W B (l ++ [r]).length (l ++ [r])) (hd : (l ++ [r]).length ≤ d) (hW : Below w.heap.size w W) => print_b i q m B d (l ++ [r]) W hC hd (hlt.below hW) (hpw.below hW) (hkw.below hW))
  have HCm := Aside0.mk (fun W B d (hC : Kd.C kRung W B (l ++ [r]).length (l ++ [r])) (hd : (l ++ [r]).length ≤ d) => ladChk_b i q m B d (l ++ [r]) W hC hd)
  have HEm := Aside0.mk (fun W B d (hC : Kd.C kRung W B (l ++ [r]).length (l ++ [r])) (hd : (l ++ [r]).length ≤ d) => edge_b i q m B d (l ++ [r]) W hC hd)
  have HLaw := Aside0.mk (fun h => app_law (i := i) (q := q) (m := m) (l := l) r h)
  have HN : Aside0 ((ladPrint i q m l).2 = 0 → l.length ≤ 64) := ⟨fun h => (ladChk_okLad (ladPrint_ok h).1).1.n⟩
  have HC0 := Aside0.mk h1
  have HK0 := Aside0.mk (PPrinterMatchesReference.k40_mk w r hl1 hr1 hl2 hr2)
  have hmax := Kd.C_max h1
  clear h1 hr1 hr2 hlt hpw hkw
  generalize hp1 : (ladPrint i q m l).1 = pt at HPr HLaw
  generalize hp2 : (ladPrint i q m l).2 = pe at HPr HLaw HN
  clear hp1 hp2
  have F0 := Aside0.mk (BoxF.new w (.int .i64 i) (.int .i64 q) (.int .i64 m) (.slice A l.length c) (.string r.f0) (.slice A1 r.f1.length c1) (.slice A2 r.f2.length c2) (.string r.f3))
  go_enter Tryd.func4, Tryd.ntmps4
  go_wp2_with fail
  refine (HPr.out _ F0.out.b).mono ?_
  rintro e w1 ⟨rfl, hb⟩
  have F1 := Aside0.mk (F0.out.below hb)
  clear F0 hb
  obtain ⟨a0, a1, a2, a3, b0, b1, b2, b3⟩ := F1.out.cells
  go_wp2_with fail
  refine (HT.out _ F1.out.b).mono ?_
  rintro e w2 ⟨n1, rfl, hb⟩
  have F2 := Aside0.mk (F1.out.below hb)
  clear F1 hb a0 a1 a2 a3 b0 b1 b2 b3
  obtain ⟨a0, a1, a2, a3, b0, b1, b2, b3⟩ := F2.out.cells
  by_cases hn1 : (0 : Int) < n1
  · go_wp2_with fail
    refine (HAl.out _ F2.out.b).mono ?_
    rintro e w3 ⟨rfl, hb⟩
    have FB := below_step F2.out.b hb
    go_wp2
    go_ret
    exact ⟨rfl, FB⟩
  · skip
    by_cases hpe : pe = 0
    · subst hpe
      have hn64 := HN.out rfl
      go_wp2_with fail
      refine (HT1.out _ w2.heap.size (row_one rfl (kRung.K_below (below_alloc F2.out.b _) HK0.out) (blk_new _ _))).mono ?_
      rintro e w3 ⟨n2, rfl, hb⟩
      have F3 := Aside0.mk (F2.out.below (below_step (below_alloc (Below.refl _ _) _) hb))
      clear F2 hb a0 a1 a2 a3 b0 b1 b2 b3
      obtain ⟨a0, a1, a2, a3, b0, b1, b2, b3⟩ := F3.out.cells
      by_cases hn2 : (0 : Int) < n2
      · go_wp2_with fail
        refine (HAl.out _ F3.out.b).mono ?_
        rintro e w4 ⟨rfl, hb⟩
        have FB := below_step F3.out.b hb
        go_wp2
        go_ret
        exact ⟨rfl, FB⟩
      · skip
        have F4 := Aside0.mk (F3.out.below (below_drew (Below.refl _ _)))
        have HR : Aside0 (∀ w', Below w3.drew.heap.size w3.drew w' → ReadsRow (kRung.K w3.drew) kRung.sz w' A l.length l) := ⟨fun w' hb => ReadsRow.imp_ (Kd.C_below HC0.out F4.out.b) hb (fun _ _ h => h)⟩
        have HK : Aside0 (kRung.K w3.drew r [.string r.f0, .slice A1 r.f1.length c1, .slice A2 r.f2.length c2, .string r.f3]) := ⟨kRung.K_below F4.out.b HK0.out⟩
        go_wp2_with fail
        clear a0 a1 a2 a3 b0 b1 b2 b3
        obtain ⟨u0, u1, u2, u3, u4, u5, u6, u7⟩ := F4.out.cells
        have hF := AppF.start w3.drew l r [.string r.f0, .slice A1 r.f1.length c1, .slice A2 r.f2.length c2, .string r.f3] (.slice none 0 0, .slice none 0 0, .slice none 0 0, .slice none 0 0, 0)
        refine start_ (n := 16) (S := fun w' => w'.cell? ⟨w.heap.size, 0, none⟩ = some (.int .i64 i) ∧ w'.cell? ⟨w.heap.size, 1, none⟩ = some (.int .i64 q) ∧ w'.cell? ⟨w.heap.size, 2, none⟩ = some (.int .i64 m) ∧ w'.cell? ⟨w.heap.size, 3, none⟩ = some (.slice A l.length c) ∧ w'.cell? ⟨w.heap.size + 1, 0, none⟩ = some (.string r.f0) ∧ w'.cell? ⟨w.heap.size + 1, 1, none⟩ = some (.slice A1 r.f1.length c1) ∧ w'.cell? ⟨w.heap.size + 1, 2, none⟩ = some (.slice A2 r.f2.length c2) ∧ w'.cell? ⟨w.heap.size + 1, 3, none⟩ = some (.string r.f3)) (ds := [15]) #[false, false, false, false, false, false, false, false, false, false, false, false, false, false, false, false] (by kernel_rfl) rfl rfl ⟨u0, u1, u2, u3, u4, u5, u6, u7⟩ (fun hHeld => ?_)
        refine pure_ (i := 0) (N := some 32) (v := ?_) (a' := ?_) #[true, false, false, false, false, false, false, false, false, false, false, false, false, false, false, false] rfl rfl (by kernel_rfl) (fun _ _ _ h => h) (Or.inl ⟨by rfl, ?_⟩) ?_ ?_
        rotate_left
        · intro w'
          go_simp
          with_reducible rfl
        rotate_left
        · simp only [Act.put, List.setIfInBounds_toArray, List.set_cons_zero, List.set_cons_succ, i64_w, i32_w]
          rfl
        refine pure_ (i := 2) (N := some 34) (v := ?_) (a' := ?_) #[true, false, true, false, false, false, false, false, false, false, false, false, false, false, false, false] rfl rfl (by kernel_rfl) (fun _ _ _ h => h) (Or.inl ⟨by rfl, ?_⟩) ?_ ?_
        rotate_left
        · intro w'
          go_simp
          with_reducible rfl
        rotate_left
        · simp only [Act.put, List.setIfInBounds_toArray, List.set_cons_zero, List.set_cons_succ, i64_w, i32_w]
          rfl
        refine pure_ (i := 4) (N := some 36) (v := ?_) (a' := ?_) #[true, false, true, false, true, false, false, false, false, false, false, false, false, false, false, false] rfl rfl (by kernel_rfl) (fun _ _ _ h => h) (Or.inl ⟨by rfl, ?_⟩) ?_ ?_
        rotate_left
        · intro w'
          go_simp
          with_reducible rfl
        rotate_left
        · simp only [Act.put, List.setIfInBounds_toArray, List.set_cons_zero, List.set_cons_succ, i64_w, i32_w]
          rfl
        refine pure_ (i := 7) (N := some 39) (v := ?_) (a' := ?_) #[true, false, true, false, true, false, false, true, false, false, false, false, false, false, false, false] rfl rfl (by kernel_rfl) (fun _ _ _ h => h) (Or.inl ⟨by rfl, ?_⟩) ?_ ?_
        rotate_left
        · intro w'
          go_simp
          with_reducible rfl
        rotate_left
        · simp only [Act.put, List.setIfInBounds_toArray, List.set_cons_zero, List.set_cons_succ, i64_w, i32_w]
          rfl
        refine take_ (i := 1) (N := some 33) (v := ?_) (a' := ?_) #[true, true, true, false, true, false, false, true, false, false, false, false, false, false, false, false] rfl rfl (by kernel_rfl) (fun _ _ _ h => h) (Or.inl ⟨by rfl, ?_⟩) hHeld ?_ ?_
        rotate_left
        · rintro w' ⟨s0, s1, s2, s3, s4, s5, s6, s7⟩
          go_simp
          with_reducible rfl
        rotate_left
        · simp only [Act.put, List.setIfInBounds_toArray, List.set_cons_zero, List.set_cons_succ, i64_w, i32_w]
          rfl
        refine take_ (i := 3) (N := some 35) (v := ?_) (a' := ?_) #[true, true, true, true, true, false, false, true, false, false, false, false, false, false, false, false] rfl rfl (by kernel_rfl) (fun _ _ _ h => h) (Or.inl ⟨by rfl, ?_⟩) hHeld ?_ ?_
        rotate_left
        · rintro w' ⟨s0, s1, s2, s3, s4, s5, s6, s7⟩
          go_simp
          with_reducible rfl
        rotate_left
        · simp only [Act.put, List.setIfInBounds_toArray, List.set_cons_zero, List.set_cons_succ, i64_w, i32_w]
          rfl
        refine take_ (i := 5) (N := some 37) (v := ?_) (a' := ?_) #[true, true, true, true, true, true, false, true, false, false, false, false, false, false, false, false] rfl rfl (by kernel_rfl) (fun _ _ _ h => h) (Or.inl ⟨by rfl, ?_⟩) hHeld ?_ ?_
        rotate_left
        · rintro w' ⟨s0, s1, s2, s3, s4, s5, s6, s7⟩
          go_simp
          with_reducible rfl
        rotate_left
        · simp only [Act.put, List.setIfInBounds_toArray, List.set_cons_zero, List.set_cons_succ, i64_w, i32_w]
          rfl
        refine take_ (i := 8) (N := some 40) (v := ?_) (a' := ?_) #[true, true, true, true, true, true, false, true, true, false, false, false, false, false, false, false] rfl rfl (by kernel_rfl) (fun _ _ _ h => h) (Or.inl ⟨by rfl, ?_⟩) hHeld ?_ ?_
        rotate_left
        · rintro w' ⟨s0, s1, s2, s3, s4, s5, s6, s7⟩
          go_simp
          with_reducible rfl
        rotate_left
        · simp only [Act.put, List.setIfInBounds_toArray, List.set_cons_zero, List.set_cons_succ, i64_w, i32_w]
          rfl
        refine take_ (i := 10) (N := some 42) (v := ?_) (a' := ?_) #[true, true, true, true, true, true, false, true, true, false, true, false, false, false, false, false] rfl rfl (by kernel_rfl) (fun _ _ _ h => h) (Or.inl ⟨by rfl, ?_⟩) hHeld ?_ ?_
        rotate_left
        · rintro w' ⟨s0, s1, s2, s3, s4, s5, s6, s7⟩
          go_simp
          with_reducible rfl
        rotate_left
        · simp only [Act.put, List.setIfInBounds_toArray, List.set_cons_zero, List.set_cons_succ, i64_w, i32_w]
          rfl
        refine join_ (σ := AppS) 1 #[true, true, true, true, true, true, true, true, true, true, true, true, true, true, true, false] (fun s => [(38, s.1), (41, s.2.1), (43, s.2.2.2.1), (44, s.2.2.1), (7, .pointer (some ⟨s.2.2.2.2, 0, none⟩)), (45, .agg #[.int .i64 i, .int .i64 q, .int .i64 m, s.2.2.1])]) (AppF w3.drew l r [.string r.f0, .slice A1 r.f1.length c1, .slice A2 r.f2.length c2, .string r.f3] true true true true true) ?_ ?_
        rotate_left
        · intro hJ6_9_11_12_14
          refine join_ (σ := AppS) 2 #[true, true, true, true, true, true, true, true, true, true, true, true, true, true, false, false] (fun s => [(38, s.1), (41, s.2.1), (43, s.2.2.2.1), (44, s.2.2.1), (45, .agg #[.int .i64 i, .int .i64 q, .int .i64 m, s.2.2.1])]) (AppF w3.drew l r [.string r.f0, .slice A1 r.f1.length c1, .slice A2 r.f2.length c2, .string r.f3] true true true true false) ?_ ?_
          rotate_left
          · intro hJ6_9_11_12
            refine join_ (σ := AppS) 3 #[true, true, true, true, true, true, true, true, true, true, true, true, false, false, true, false] (fun s => [(38, s.1), (41, s.2.1), (43, s.2.2.2.1), (7, .pointer (some ⟨s.2.2.2.2, 0, none⟩))]) (AppF w3.drew l r [.string r.f0, .slice A1 r.f1.length c1, .slice A2 r.f2.length c2, .string r.f3] true true true false true) ?_ ?_
            rotate_left
            · intro hJ6_9_11_14
              refine join_ (σ := AppS) 4 #[true, true, true, true, true, true, true, true, true, true, true, true, false, false, false, false] (fun s => [(38, s.1), (41, s.2.1), (43, s.2.2.2.1)]) (AppF w3.drew l r [.string r.f0, .slice A1 r.f1.length c1, .slice A2 r.f2.length c2, .string r.f3] true true true false false) ?_ ?_
              rotate_left
              · intro hJ6_9_11
                refine join_ (σ := AppS) 4 #[true, true, true, true, true, true, true, true, true, true, true, false, false, false, true, false] (fun s => [(38, s.1), (41, s.2.1), (7, .pointer (some ⟨s.2.2.2.2, 0, none⟩))]) (AppF w3.drew l r [.string r.f0, .slice A1 r.f1.length c1, .slice A2 r.f2.length c2, .string r.f3] true true false false true) ?_ ?_
                rotate_left
                · intro hJ6_9_14
                  refine join_ (σ := AppS) 4 #[true, true, true, true, true, true, true, true, true, false, true, true, false, false, true, false] (fun s => [(38, s.1), (43, s.2.2.2.1), (7, .pointer (some ⟨s.2.2.2.2, 0, none⟩))]) (AppF w3.drew l r [.string r.f0, .slice A1 r.f1.length c1, .slice A2 r.f2.length c2, .string r.f3] true false true false true) ?_ ?_
                  rotate_left
                  · intro hJ6_11_14
                    refine join_ (σ := AppS) 5 #[true, true, true, true, true, true, true, true, true, true, true, false, false, false, false, false] (fun s => [(38, s.1), (41, s.2.1)]) (AppF w3.drew l r [.string r.f0, .slice A1 r.f1.length c1, .slice A2 r.f2.length c2, .string r.f3] true true false false false) ?_ ?_
                    rotate_left
                    · intro hJ6_9
                      refine join_ (σ := AppS) 5 #[true, true, true, true, true, true, true, true, true, false, true, true, false, false, false, false] (fun s => [(38, s.1), (43, s.2.2.2.1)]) (AppF w3.drew l r [.string r.f0, .slice A1 r.f1.length c1, .slice A2 r.f2.length c2, .string r.f3] true false true false false) ?_ ?_
                      rotate_left
                      · intro hJ6_11
                        refine join_ (σ := AppS) 5 #[true, true, true, true, true, true, true, true, true, false, true, false, false, false, true, false] (fun s => [(38, s.1), (7, .pointer (some ⟨s.2.2.2.2, 0, none⟩))]) (AppF w3.drew l r [.string r.f0, .slice A1 r.f1.length c1, .slice A2 r.f2.length c2, .string r.f3] true false false false true) ?_ ?_
                        rotate_left
                        · intro hJ6_14
                          refine join_ (σ := AppS) 5 #[true, true, true, true, true, true, false, true, true, false, true, true, false, false, true, false] (fun s => [(43, s.2.2.2.1), (7, .pointer (some ⟨s.2.2.2.2, 0, none⟩))]) (AppF w3.drew l r [.string r.f0, .slice A1 r.f1.length c1, .slice A2 r.f2.length c2, .string r.f3] false false true false true) ?_ ?_
                          rotate_left
                          · intro hJ11_14
                            refine join_ (σ := AppS) 6 #[true, true, true, true, true, true, true, true, true, false, true, false, false, false, false, false] (fun s => [(38, s.1)]) (AppF w3.drew l r [.string r.f0, .slice A1 r.f1.length c1, .slice A2 r.f2.length c2, .string r.f3] true false false false false) ?_ ?_
                            rotate_left
                            · intro hJ6
                              refine join_ (σ := AppS) 6 #[true, true, true, true, true, true, false, true, true, false, true, true, false, false, false, false] (fun s => [(43, s.2.2.2.1)]) (AppF w3.drew l r [.string r.f0, .slice A1 r.f1.length c1, .slice A2 r.f2.length c2, .string r.f3] false false true false false) ?_ ?_
                              rotate_left
                              · intro hJ11
                                refine join_ (σ := AppS) 6 #[true, true, true, true, true, true, false, true, true, false, true, false, false, false, true, false] (fun s => [(7, .pointer (some ⟨s.2.2.2.2, 0, none⟩))]) (AppF w3.drew l r [.string r.f0, .slice A1 r.f1.length c1, .slice A2 r.f2.length c2, .string r.f3] false false false false true) ?_ ?_
                                rotate_left
                                · intro hJ14
                                  refine three_ (i := 6) (j := 11) (k := 14) (Ni := some 38) (Nj := some 43) (Nk := some 7) #[true, true, true, true, true, true, true, true, true, false, true, false, false, false, false, false] #[true, true, true, true, true, true, false, true, true, false, true, true, false, false, false, false] #[true, true, true, true, true, true, false, true, true, false, true, false, false, false, true, false] rfl rfl rfl rfl rfl rfl (by kernel_rfl) (by decide) (by decide) (by decide) (fun K hK => ?_) (fun K hK => ?_) (fun K hK => ?_)
                                  · skip
                                    refine value_ (w1 := ?_) (v := ?_) (by rfl) rfl ?_ ?_
                                    rotate_left 2
                                    · go_simp
                                      constructor
                                      · rfl
                                      · rfl
                                    refine hK.out _ _ ⟨(pw_cell_below (hF.s6).b u0), (pw_cell_below (hF.s6).b u1), (pw_cell_below (hF.s6).b u2), (pw_cell_below (hF.s6).b u3), (pw_cell_below (hF.s6).b u4), (pw_cell_below (hF.s6).b u5), (pw_cell_below (hF.s6).b u6), (pw_cell_below (hF.s6).b u7)⟩ (fun hHeld => ?_)
                                    clear hK K
                                    refine norm_ (a' := ?_) ?_ ?_
                                    rotate_left
                                    · show Act.put _ (some 38) _ = _
                                      simp only [Act.put, List.setIfInBounds_toArray, List.set_cons_zero, List.set_cons_succ, i64_w, i32_w]
                                      rfl
                                    exact norm_ (by first | (simp only [putAll, Act.put, List.setIfInBounds_toArray, List.set_cons_zero, List.set_cons_succ]; done) | (simp only [putAll, Act.put, List.setIfInBounds_toArray, List.set_cons_zero, List.set_cons_succ]; rfl)) (hJ6 _ _ hF.s6)
                                  · skip
                                    refine value_ (w1 := ?_) (v := ?_) (by rfl) rfl ?_ ?_
                                    rotate_left 2
                                    · go_simp
                                      constructor
                                      · rfl
                                      · rfl
                                    refine hK.out _ _ ⟨(pw_cell_below (hF.s11).b u0), (pw_cell_below (hF.s11).b u1), (pw_cell_below (hF.s11).b u2), (pw_cell_below (hF.s11).b u3), (pw_cell_below (hF.s11).b u4), (pw_cell_below (hF.s11).b u5), (pw_cell_below (hF.s11).b u6), (pw_cell_below (hF.s11).b u7)⟩ (fun hHeld => ?_)
                                    clear hK K
                                    refine norm_ (a' := ?_) ?_ ?_
                                    rotate_left
                                    · show Act.put _ (some 43) _ = _
                                      simp only [Act.put, List.setIfInBounds_toArray, List.set_cons_zero, List.set_cons_succ, i64_w, i32_w]
                                      rfl
                                    exact norm_ (by first | (simp only [putAll, Act.put, List.setIfInBounds_toArray, List.set_cons_zero, List.set_cons_succ]; done) | (simp only [putAll, Act.put, List.setIfInBounds_toArray, List.set_cons_zero, List.set_cons_succ]; rfl)) (hJ11 _ _ hF.s11)
                                  · skip
                                    refine value_ (w1 := ?_) (v := ?_) (by rfl) rfl ?_ ?_
                                    rotate_left 2
                                    · go_simp
                                      constructor
                                      · rfl
                                      · rfl
                                    refine hK.out _ _ ⟨(pw_cell_below (hF.s14).b u0), (pw_cell_below (hF.s14).b u1), (pw_cell_below (hF.s14).b u2), (pw_cell_below (hF.s14).b u3), (pw_cell_below (hF.s14).b u4), (pw_cell_below (hF.s14).b u5), (pw_cell_below (hF.s14).b u6), (pw_cell_below (hF.s14).b u7)⟩ (fun hHeld => ?_)
                                    clear hK K
                                    refine norm_ (a' := ?_) ?_ ?_
                                    rotate_left
                                    · show Act.put _ (some 7) _ = _
                                      simp only [Act.put, List.setIfInBounds_toArray, List.set_cons_zero, List.set_cons_succ, i64_w, i32_w]
                                      rfl
                                    exact norm_ (by first | (simp only [putAll, Act.put, List.setIfInBounds_toArray, List.set_cons_zero, List.set_cons_succ]; done) | (simp only [putAll, Act.put, List.setIfInBounds_toArray, List.set_cons_zero, List.set_cons_succ]; rfl)) (hJ14 _ _ hF.s14)
                                · skip
                                  rintro ⟨v6, v9, v12, vx, g14⟩ w_ hF
                                  have hHeld : w_.cell? ⟨w.heap.size, 0, none⟩ = some (.int .i64 i) ∧ w_.cell? ⟨w.heap.size, 1, none⟩ = some (.int .i64 q) ∧ w_.cell? ⟨w.heap.size, 2, none⟩ = some (.int .i64 m) ∧ w_.cell? ⟨w.heap.size, 3, none⟩ = some (.slice A l.length c) ∧ w_.cell? ⟨w.heap.size + 1, 0, none⟩ = some (.string r.f0) ∧ w_.cell? ⟨w.heap.size + 1, 1, none⟩ = some (.slice A1 r.f1.length c1) ∧ w_.cell? ⟨w.heap.size + 1, 2, none⟩ = some (.slice A2 r.f2.length c2) ∧ w_.cell? ⟨w.heap.size + 1, 3, none⟩ = some (.string r.f3) := ⟨(pw_cell_below (hF).b u0), (pw_cell_below (hF).b u1), (pw_cell_below (hF).b u2), (pw_cell_below (hF).b u3), (pw_cell_below (hF).b u4), (pw_cell_below (hF).b u5), (pw_cell_below (hF).b u6), (pw_cell_below (hF).b u7)⟩
                                  refine norm_ (a' := ?_) ?_ ?_
                                  rotate_left
                                  · simp only [putAll, Act.put, List.setIfInBounds_toArray, List.set_cons_zero, List.set_cons_succ]
                                    rfl
                                  refine two_ (i := 6) (j := 11) (Ni := some 38) (Nj := some 43) #[true, true, true, true, true, true, true, true, true, false, true, false, false, false, true, false] #[true, true, true, true, true, true, false, true, true, false, true, true, false, false, true, false] rfl rfl rfl rfl (by kernel_rfl) (by decide) (by decide) (fun K hK => ?_) (fun K hK => ?_)
                                  · skip
                                    refine value_ (w1 := ?_) (v := ?_) (by rfl) rfl ?_ ?_
                                    rotate_left 2
                                    · go_simp
                                      constructor
                                      · rfl
                                      · rfl
                                    refine hK.out _ _ ⟨(pw_cell_below (hF.s6).b u0), (pw_cell_below (hF.s6).b u1), (pw_cell_below (hF.s6).b u2), (pw_cell_below (hF.s6).b u3), (pw_cell_below (hF.s6).b u4), (pw_cell_below (hF.s6).b u5), (pw_cell_below (hF.s6).b u6), (pw_cell_below (hF.s6).b u7)⟩ (fun hHeld => ?_)
                                    clear hK K
                                    refine norm_ (a' := ?_) ?_ ?_
                                    rotate_left
                                    · show Act.put _ (some 38) _ = _
                                      simp only [Act.put, List.setIfInBounds_toArray, List.set_cons_zero, List.set_cons_succ, i64_w, i32_w]
                                      rfl
                                    exact norm_ (by first | (simp only [putAll, Act.put, List.setIfInBounds_toArray, List.set_cons_zero, List.set_cons_succ]; done) | (simp only [putAll, Act.put, List.setIfInBounds_toArray, List.set_cons_zero, List.set_cons_succ]; rfl)) (hJ6_14 _ _ hF.s6)
                                  · skip
                                    refine value_ (w1 := ?_) (v := ?_) (by rfl) rfl ?_ ?_
                                    rotate_left 2
                                    · go_simp
                                      constructor
                                      · rfl
                                      · rfl
                                    refine hK.out _ _ ⟨(pw_cell_below (hF.s11).b u0), (pw_cell_below (hF.s11).b u1), (pw_cell_below (hF.s11).b u2), (pw_cell_below (hF.s11).b u3), (pw_cell_below (hF.s11).b u4), (pw_cell_below (hF.s11).b u5), (pw_cell_below (hF.s11).b u6), (pw_cell_below (hF.s11).b u7)⟩ (fun hHeld => ?_)
                                    clear hK K
                                    refine norm_ (a' := ?_) ?_ ?_
                                    rotate_left
                                    · show Act.put _ (some 43) _ = _
                                      simp only [Act.put, List.setIfInBounds_toArray, List.set_cons_zero, List.set_cons_succ, i64_w, i32_w]
                                      rfl
                                    exact norm_ (by first | (simp only [putAll, Act.put, List.setIfInBounds_toArray, List.set_cons_zero, List.set_cons_succ]; done) | (simp only [putAll, Act.put, List.setIfInBounds_toArray, List.set_cons_zero, List.set_cons_succ]; rfl)) (hJ11_14 _ _ hF.s11)
                              · skip
                                rintro ⟨v6, v9, v12, vx, g14⟩ w_ hF
                                have hHeld : w_.cell? ⟨w.heap.size, 0, none⟩ = some (.int .i64 i) ∧ w_.cell? ⟨w.heap.size, 1, none⟩ = some (.int .i64 q) ∧ w_.cell? ⟨w.heap.size, 2, none⟩ = some (.int .i64 m) ∧ w_.cell? ⟨w.heap.size, 3, none⟩ = some (.slice A l.length c) ∧ w_.cell? ⟨w.heap.size + 1, 0, none⟩ = some (.string r.f0) ∧ w_.cell? ⟨w.heap.size + 1, 1, none⟩ = some (.slice A1 r.f1.length c1) ∧ w_.cell? ⟨w.heap.size + 1, 2, none⟩ = some (.slice A2 r.f2.length c2) ∧ w_.cell? ⟨w.heap.size + 1, 3, none⟩ = some (.string r.f3) := ⟨(pw_cell_below (hF).b u0), (pw_cell_below (hF).b u1), (pw_cell_below (hF).b u2), (pw_cell_below (hF).b u3), (pw_cell_below (hF).b u4), (pw_cell_below (hF).b u5), (pw_cell_below (hF).b u6), (pw_cell_below (hF).b u7)⟩
                                refine norm_ (a' := ?_) ?_ ?_
                                rotate_left
                                · simp only [putAll, Act.put, List.setIfInBounds_toArray, List.set_cons_zero, List.set_cons_succ]
                                  rfl
                                refine two_ (i := 6) (j := 14) (Ni := some 38) (Nj := some 7) #[true, true, true, true, true, true, true, true, true, false, true, true, false, false, false, false] #[true, true, true, true, true, true, false, true, true, false, true, true, false, false, true, false] rfl rfl rfl rfl (by kernel_rfl) (by decide) (by decide) (fun K hK => ?_) (fun K hK => ?_)
                                · skip
                                  refine value_ (w1 := ?_) (v := ?_) (by rfl) rfl ?_ ?_
                                  rotate_left 2
                                  · go_simp
                                    constructor
                                    · rfl
                                    · rfl
                                  refine hK.out _ _ ⟨(pw_cell_below (hF.s6).b u0), (pw_cell_below (hF.s6).b u1), (pw_cell_below (hF.s6).b u2), (pw_cell_below (hF.s6).b u3), (pw_cell_below (hF.s6).b u4), (pw_cell_below (hF.s6).b u5), (pw_cell_below (hF.s6).b u6), (pw_cell_below (hF.s6).b u7)⟩ (fun hHeld => ?_)
                                  clear hK K
                                  refine norm_ (a' := ?_) ?_ ?_
                                  rotate_left
                                  · show Act.put _ (some 38) _ = _
                                    simp only [Act.put, List.setIfInBounds_toArray, List.set_cons_zero, List.set_cons_succ, i64_w, i32_w]
                                    rfl
                                  exact norm_ (by first | (simp only [putAll, Act.put, List.setIfInBounds_toArray, List.set_cons_zero, List.set_cons_succ]; done) | (simp only [putAll, Act.put, List.setIfInBounds_toArray, List.set_cons_zero, List.set_cons_succ]; rfl)) (hJ6_11 _ _ hF.s6)
                                · skip
                                  refine value_ (w1 := ?_) (v := ?_) (by rfl) rfl ?_ ?_
                                  rotate_left 2
                                  · go_simp
                                    constructor
                                    · rfl
                                    · rfl
                                  refine hK.out _ _ ⟨(pw_cell_below (hF.s14).b u0), (pw_cell_below (hF.s14).b u1), (pw_cell_below (hF.s14).b u2), (pw_cell_below (hF.s14).b u3), (pw_cell_below (hF.s14).b u4), (pw_cell_below (hF.s14).b u5), (pw_cell_below (hF.s14).b u6), (pw_cell_below (hF.s14).b u7)⟩ (fun hHeld => ?_)
                                  clear hK K
                                  refine norm_ (a' := ?_) ?_ ?_
                                  rotate_left
                                  · show Act.put _ (some 7) _ = _
                                    simp only [Act.put, List.setIfInBounds_toArray, List.set_cons_zero, List.set_cons_succ, i64_w, i32_w]
                                    rfl
                                  exact norm_ (by first | (simp only [putAll, Act.put, List.setIfInBounds_toArray, List.set_cons_zero, List.set_cons_succ]; done) | (simp only [putAll, Act.put, List.setIfInBounds_toArray, List.set_cons_zero, List.set_cons_succ]; rfl)) (hJ11_14 _ _ hF.s14)
                            · skip
                              rintro ⟨v6, v9, v12, vx, g14⟩ w_ hF
                              have hHeld : w_.cell? ⟨w.heap.size, 0, none⟩ = some (.int .i64 i) ∧ w_.cell? ⟨w.heap.size, 1, none⟩ = some (.int .i64 q) ∧ w_.cell? ⟨w.heap.size, 2, none⟩ = some (.int .i64 m) ∧ w_.cell? ⟨w.heap.size, 3, none⟩ = some (.slice A l.length c) ∧ w_.cell? ⟨w.heap.size + 1, 0, none⟩ = some (.string r.f0) ∧ w_.cell? ⟨w.heap.size + 1, 1, none⟩ = some (.slice A1 r.f1.length c1) ∧ w_.cell? ⟨w.heap.size + 1, 2, none⟩ = some (.slice A2 r.f2.length c2) ∧ w_.cell? ⟨w.heap.size + 1, 3, none⟩ = some (.string r.f3) := ⟨(pw_cell_below (hF).b u0), (pw_cell_below (hF).b u1), (pw_cell_below (hF).b u2), (pw_cell_below (hF).b u3), (pw_cell_below (hF).b u4), (pw_cell_below (hF).b u5), (pw_cell_below (hF).b u6), (pw_cell_below (hF).b u7)⟩
                              refine norm_ (a' := ?_) ?_ ?_
                              rotate_left
                              · simp only [putAll, Act.put, List.setIfInBounds_toArray, List.set_cons_zero, List.set_cons_succ]
                                rfl
                              refine three_ (i := 9) (j := 11) (k := 14) (Ni := some 41) (Nj := some 43) (Nk := some 7) #[true, true, true, true, true, true, true, true, true, true, true, false, false, false, false, false] #[true, true, true, true, true, true, true, true, true, false, true, true, false, false, false, false] #[true, true, true, true, true, true, true, true, true, false, true, false, false, false, true, false] rfl rfl rfl rfl rfl rfl (by kernel_rfl) (by decide) (by decide) (by decide) (fun K hK => ?_) (fun K hK => ?_) (fun K hK => ?_)
                              · skip
                                refine Kd.R_append_rows_step (Kd.fixed kRung w3.drew) (w0 := w3.drew) (w3.drew).heap.size (by rfl) (.tmp 38) (.tmp 40) 22 40 (.agg #[.string ⟨#[]⟩, .slice none 0 0, .slice none 0 0, .string ⟨#[]⟩]) 80 rfl Tryd.underlying22 PPrinterMatchesReference.info40 rfl (Nat.zero_lt_succ 3) (by omega) v6 [] l A l.length c (fun _ => True) (fun _ => False) rfl rfl (hF.o6 rfl rfl) (HR.out _ hF.b) (fun _ _ h => h) (fun _ h => h.elim) (fun _ _ => trivial) hF.b hF.b.size (by simp only [List.length_nil]; omega) ?_
                                intro v1 w1 hr hb hg hat
                                have hN := hF.s9 hr hb hg hat
                                clear hr hb hg hat
                                refine hK.out _ _ ⟨(pw_cell_below (hN).b u0), (pw_cell_below (hN).b u1), (pw_cell_below (hN).b u2), (pw_cell_below (hN).b u3), (pw_cell_below (hN).b u4), (pw_cell_below (hN).b u5), (pw_cell_below (hN).b u6), (pw_cell_below (hN).b u7)⟩ (fun hHeld => ?_)
                                clear hK K
                                refine norm_ (a' := ?_) ?_ ?_
                                rotate_left
                                · show Act.put _ (some 41) _ = _
                                  simp only [Act.put, List.setIfInBounds_toArray, List.set_cons_zero, List.set_cons_succ, i64_w, i32_w]
                                  rfl
                                exact norm_ (by first | (simp only [putAll, Act.put, List.setIfInBounds_toArray, List.set_cons_zero, List.set_cons_succ]; done) | (simp only [putAll, Act.put, List.setIfInBounds_toArray, List.set_cons_zero, List.set_cons_succ]; rfl)) (hJ6_9 _ _ hN)
                              · skip
                                refine value_ (w1 := ?_) (v := ?_) (by rfl) rfl ?_ ?_
                                rotate_left 2
                                · go_simp
                                  constructor
                                  · rfl
                                  · rfl
                                refine hK.out _ _ ⟨(pw_cell_below (hF.s11).b u0), (pw_cell_below (hF.s11).b u1), (pw_cell_below (hF.s11).b u2), (pw_cell_below (hF.s11).b u3), (pw_cell_below (hF.s11).b u4), (pw_cell_below (hF.s11).b u5), (pw_cell_below (hF.s11).b u6), (pw_cell_below (hF.s11).b u7)⟩ (fun hHeld => ?_)
                                clear hK K
                                refine norm_ (a' := ?_) ?_ ?_
                                rotate_left
                                · show Act.put _ (some 43) _ = _
                                  simp only [Act.put, List.setIfInBounds_toArray, List.set_cons_zero, List.set_cons_succ, i64_w, i32_w]
                                  rfl
                                exact norm_ (by first | (simp only [putAll, Act.put, List.setIfInBounds_toArray, List.set_cons_zero, List.set_cons_succ]; done) | (simp only [putAll, Act.put, List.setIfInBounds_toArray, List.set_cons_zero, List.set_cons_succ]; rfl)) (hJ6_11 _ _ hF.s11)
                              · skip
                                refine value_ (w1 := ?_) (v := ?_) (by rfl) rfl ?_ ?_
                                rotate_left 2
                                · go_simp
                                  constructor
                                  · rfl
                                  · rfl
                                refine hK.out _ _ ⟨(pw_cell_below (hF.s14).b u0), (pw_cell_below (hF.s14).b u1), (pw_cell_below (hF.s14).b u2), (pw_cell_below (hF.s14).b u3), (pw_cell_below (hF.s14).b u4), (pw_cell_below (hF.s14).b u5), (pw_cell_below (hF.s14).b u6), (pw_cell_below (hF.s14).b u7)⟩ (fun hHeld => ?_)
                                clear hK K
                                refine norm_ (a' := ?_) ?_ ?_
                                rotate_left
                                · show Act.put _ (some 7) _ = _
                                  simp only [Act.put, List.setIfInBounds_toArray, List.set_cons_zero, List.set_cons_succ, i64_w, i32_w]
                                  rfl
                                exact norm_ (by first | (simp only [putAll, Act.put, List.setIfInBounds_toArray, List.set_cons_zero, List.set_cons_succ]; done) | (simp only [putAll, Act.put, List.setIfInBounds_toArray, List.set_cons_zero, List.set_cons_succ]; rfl)) (hJ6_14 _ _ hF.s14)
                          · skip
                            rintro ⟨v6, v9, v12, vx, g14⟩ w_ hF
                            have hHeld : w_.cell? ⟨w.heap.size, 0, none⟩ = some (.int .i64 i) ∧ w_.cell? ⟨w.heap.size, 1, none⟩ = some (.int .i64 q) ∧ w_.cell? ⟨w.heap.size, 2, none⟩ = some (.int .i64 m) ∧ w_.cell? ⟨w.heap.size, 3, none⟩ = some (.slice A l.length c) ∧ w_.cell? ⟨w.heap.size + 1, 0, none⟩ = some (.string r.f0) ∧ w_.cell? ⟨w.heap.size + 1, 1, none⟩ = some (.slice A1 r.f1.length c1) ∧ w_.cell? ⟨w.heap.size + 1, 2, none⟩ = some (.slice A2 r.f2.length c2) ∧ w_.cell? ⟨w.heap.size + 1, 3, none⟩ = some (.string r.f3) := ⟨(pw_cell_below (hF).b u0), (pw_cell_below (hF).b u1), (pw_cell_below (hF).b u2), (pw_cell_below (hF).b u3), (pw_cell_below (hF).b u4), (pw_cell_below (hF).b u5), (pw_cell_below (hF).b u6), (pw_cell_below (hF).b u7)⟩
                            refine norm_ (a' := ?_) ?_ ?_
                            rotate_left
                            · simp only [putAll, Act.put, List.setIfInBounds_toArray, List.set_cons_zero, List.set_cons_succ]
                              rfl
                            refine one_ (i := 6) (N := some 38) #[true, true, true, true, true, true, true, true, true, false, true, true, false, false, true, false] rfl rfl (by kernel_rfl) (by decide) (fun K hK => ?_)
                            refine value_ (w1 := ?_) (v := ?_) (by rfl) rfl ?_ ?_
                            rotate_left 2
                            · go_simp
                              constructor
                              · rfl
                              · rfl
                            refine hK.out _ _ ⟨(pw_cell_below (hF.s6).b u0), (pw_cell_below (hF.s6).b u1), (pw_cell_below (hF.s6).b u2), (pw_cell_below (hF.s6).b u3), (pw_cell_below (hF.s6).b u4), (pw_cell_below (hF.s6).b u5), (pw_cell_below (hF.s6).b u6), (pw_cell_below (hF.s6).b u7)⟩ (fun hHeld => ?_)
                            clear hK K
                            refine norm_ (a' := ?_) ?_ ?_
                            rotate_left
                            · show Act.put _ (some 38) _ = _
                              simp only [Act.put, List.setIfInBounds_toArray, List.set_cons_zero, List.set_cons_succ, i64_w, i32_w]
                              rfl
                            exact norm_ (by first | (simp only [putAll, Act.put, List.setIfInBounds_toArray, List.set_cons_zero, List.set_cons_succ]; done) | (simp only [putAll, Act.put, List.setIfInBounds_toArray, List.set_cons_zero, List.set_cons_succ]; rfl)) (hJ6_11_14 _ _ hF.s6)
                        · skip
                          rintro ⟨v6, v9, v12, vx, g14⟩ w_ hF
                          have hHeld : w_.cell? ⟨w.heap.size, 0, none⟩ = some (.int .i64 i) ∧ w_.cell? ⟨w.heap.size, 1, none⟩ = some (.int .i64 q) ∧ w_.cell? ⟨w.heap.size, 2, none⟩ = some (.int .i64 m) ∧ w_.cell? ⟨w.heap.size, 3, none⟩ = some (.slice A l.length c) ∧ w_.cell? ⟨w.heap.size + 1, 0, none⟩ = some (.string r.f0) ∧ w_.cell? ⟨w.heap.size + 1, 1, none⟩ = some (.slice A1 r.f1.length c1) ∧ w_.cell? ⟨w.heap.size + 1, 2, none⟩ = some (.slice A2 r.f2.length c2) ∧ w_.cell? ⟨w.heap.size + 1, 3, none⟩ = some (.string r.f3) := ⟨(pw_cell_below (hF).b u0), (pw_cell_below (hF).b u1), (pw_cell_below (hF).b u2), (pw_cell_below (hF).b u3), (pw_cell_below (hF).b u4), (pw_cell_below (hF).b u5), (pw_cell_below (hF).b u6), (pw_cell_below (hF).b u7)⟩
                          refine norm_ (a' := ?_) ?_ ?_
                          rotate_left
                          · simp only [putAll, Act.put, List.setIfInBounds_toArray, List.set_cons_zero, List.set_cons_succ]
                            rfl
                          refine two_ (i := 9) (j := 11) (Ni := some 41) (Nj := some 43) #[true, true, true, true, true, true, true, true, true, true, true, false, false, false, true, false] #[true, true, true, true, true, true, true, true, true, false, true, true, false, false, true, false] rfl rfl rfl rfl (by kernel_rfl) (by decide) (by decide) (fun K hK => ?_) (fun K hK => ?_)
                          · skip
                            refine Kd.R_append_rows_step (Kd.fixed kRung w3.drew) (w0 := w3.drew) (w3.drew).heap.size (by rfl) (.tmp 38) (.tmp 40) 22 40 (.agg #[.string ⟨#[]⟩, .slice none 0 0, .slice none 0 0, .string ⟨#[]⟩]) 80 rfl Tryd.underlying22 PPrinterMatchesReference.info40 rfl (Nat.zero_lt_succ 3) (by omega) v6 [] l A l.length c (fun _ => True) (fun _ => False) rfl rfl (hF.o6 rfl rfl) (HR.out _ hF.b) (fun _ _ h => h) (fun _ h => h.elim) (fun _ _ => trivial) hF.b hF.b.size (by simp only [List.length_nil]; omega) ?_
                            intro v1 w1 hr hb hg hat
                            have hN := hF.s9 hr hb hg hat
                            clear hr hb hg hat
                            refine hK.out _ _ ⟨(pw_cell_below (hN).b u0), (pw_cell_below (hN).b u1), (pw_cell_below (hN).b u2), (pw_cell_below (hN).b u3), (pw_cell_below (hN).b u4), (pw_cell_below (hN).b u5), (pw_cell_below (hN).b u6), (pw_cell_below (hN).b u7)⟩ (fun hHeld => ?_)
                            clear hK K
                            refine norm_ (a' := ?_) ?_ ?_
                            rotate_left
                            · show Act.put _ (some 41) _ = _
                              simp only [Act.put, List.setIfInBounds_toArray, List.set_cons_zero, List.set_cons_succ, i64_w, i32_w]
                              rfl
                            exact norm_ (by first | (simp only [putAll, Act.put, List.setIfInBounds_toArray, List.set_cons_zero, List.set_cons_succ]; done) | (simp only [putAll, Act.put, List.setIfInBounds_toArray, List.set_cons_zero, List.set_cons_succ]; rfl)) (hJ6_9_14 _ _ hN)
                          · skip
                            refine value_ (w1 := ?_) (v := ?_) (by rfl) rfl ?_ ?_
                            rotate_left 2
                            · go_simp
                              constructor
                              · rfl
                              · rfl
                            refine hK.out _ _ ⟨(pw_cell_below (hF.s11).b u0), (pw_cell_below (hF.s11).b u1), (pw_cell_below (hF.s11).b u2), (pw_cell_below (hF.s11).b u3), (pw_cell_below (hF.s11).b u4), (pw_cell_below (hF.s11).b u5), (pw_cell_below (hF.s11).b u6), (pw_cell_below (hF.s11).b u7)⟩ (fun hHeld => ?_)
                            clear hK K
                            refine norm_ (a' := ?_) ?_ ?_
                            rotate_left
                            · show Act.put _ (some 43) _ = _
                              simp only [Act.put, List.setIfInBounds_toArray, List.set_cons_zero, List.set_cons_succ, i64_w, i32_w]
                              rfl
                            exact norm_ (by first | (simp only [putAll, Act.put, List.setIfInBounds_toArray, List.set_cons_zero, List.set_cons_succ]; done) | (simp only [putAll, Act.put, List.setIfInBounds_toArray, List.set_cons_zero, List.set_cons_succ]; rfl)) (hJ6_11_14 _ _ hF.s11)
                      · skip
                        rintro ⟨v6, v9, v12, vx, g14⟩ w_ hF
                        have hHeld : w_.cell? ⟨w.heap.size, 0, none⟩ = some (.int .i64 i) ∧ w_.cell? ⟨w.heap.size, 1, none⟩ = some (.int .i64 q) ∧ w_.cell? ⟨w.heap.size, 2, none⟩ = some (.int .i64 m) ∧ w_.cell? ⟨w.heap.size, 3, none⟩ = some (.slice A l.length c) ∧ w_.cell? ⟨w.heap.size + 1, 0, none⟩ = some (.string r.f0) ∧ w_.cell? ⟨w.heap.size + 1, 1, none⟩ = some (.slice A1 r.f1.length c1) ∧ w_.cell? ⟨w.heap.size + 1, 2, none⟩ = some (.slice A2 r.f2.length c2) ∧ w_.cell? ⟨w.heap.size + 1, 3, none⟩ = some (.string r.f3) := ⟨(pw_cell_below (hF).b u0), (pw_cell_below (hF).b u1), (pw_cell_below (hF).b u2), (pw_cell_below (hF).b u3), (pw_cell_below (hF).b u4), (pw_cell_below (hF).b u5), (pw_cell_below (hF).b u6), (pw_cell_below (hF).b u7)⟩
                        refine norm_ (a' := ?_) ?_ ?_
                        rotate_left
                        · simp only [putAll, Act.put, List.setIfInBounds_toArray, List.set_cons_zero, List.set_cons_succ]
                          rfl
                        refine two_ (i := 9) (j := 14) (Ni := some 41) (Nj := some 7) #[true, true, true, true, true, true, true, true, true, true, true, true, false, false, false, false] #[true, true, true, true, true, true, true, true, true, false, true, true, false, false, true, false] rfl rfl rfl rfl (by kernel_rfl) (by decide) (by decide) (fun K hK => ?_) (fun K hK => ?_)
                        · skip
                          refine Kd.R_append_rows_step (Kd.fixed kRung w3.drew) (w0 := w3.drew) (w3.drew).heap.size (by rfl) (.tmp 38) (.tmp 40) 22 40 (.agg #[.string ⟨#[]⟩, .slice none 0 0, .slice none 0 0, .string ⟨#[]⟩]) 80 rfl Tryd.underlying22 PPrinterMatchesReference.info40 rfl (Nat.zero_lt_succ 3) (by omega) v6 [] l A l.length c (fun _ => True) (fun _ => False) rfl rfl (hF.o6 rfl rfl) (HR.out _ hF.b) (fun _ _ h => h) (fun _ h => h.elim) (fun _ _ => trivial) hF.b hF.b.size (by simp only [List.length_nil]; omega) ?_
                          intro v1 w1 hr hb hg hat
                          have hN := hF.s9 hr hb hg hat
                          clear hr hb hg hat
                          refine hK.out _ _ ⟨(pw_cell_below (hN).b u0), (pw_cell_below (hN).b u1), (pw_cell_below (hN).b u2), (pw_cell_below (hN).b u3), (pw_cell_below (hN).b u4), (pw_cell_below (hN).b u5), (pw_cell_below (hN).b u6), (pw_cell_below (hN).b u7)⟩ (fun hHeld => ?_)
                          clear hK K
                          refine norm_ (a' := ?_) ?_ ?_
                          rotate_left
                          · show Act.put _ (some 41) _ = _
                            simp only [Act.put, List.setIfInBounds_toArray, List.set_cons_zero, List.set_cons_succ, i64_w, i32_w]
                            rfl
                          exact norm_ (by first | (simp only [putAll, Act.put, List.setIfInBounds_toArray, List.set_cons_zero, List.set_cons_succ]; done) | (simp only [putAll, Act.put, List.setIfInBounds_toArray, List.set_cons_zero, List.set_cons_succ]; rfl)) (hJ6_9_11 _ _ hN)
                        · skip
                          refine value_ (w1 := ?_) (v := ?_) (by rfl) rfl ?_ ?_
                          rotate_left 2
                          · go_simp
                            constructor
                            · rfl
                            · rfl
                          refine hK.out _ _ ⟨(pw_cell_below (hF.s14).b u0), (pw_cell_below (hF.s14).b u1), (pw_cell_below (hF.s14).b u2), (pw_cell_below (hF.s14).b u3), (pw_cell_below (hF.s14).b u4), (pw_cell_below (hF.s14).b u5), (pw_cell_below (hF.s14).b u6), (pw_cell_below (hF.s14).b u7)⟩ (fun hHeld => ?_)
                          clear hK K
                          refine norm_ (a' := ?_) ?_ ?_
                          rotate_left
                          · show Act.put _ (some 7) _ = _
                            simp only [Act.put, List.setIfInBounds_toArray, List.set_cons_zero, List.set_cons_succ, i64_w, i32_w]
                            rfl
                          exact norm_ (by first | (simp only [putAll, Act.put, List.setIfInBounds_toArray, List.set_cons_zero, List.set_cons_succ]; done) | (simp only [putAll, Act.put, List.setIfInBounds_toArray, List.set_cons_zero, List.set_cons_succ]; rfl)) (hJ6_11_14 _ _ hF.s14)
                    · skip
                      rintro ⟨v6, v9, v12, vx, g14⟩ w_ hF
                      have hHeld : w_.cell? ⟨w.heap.size, 0, none⟩ = some (.int .i64 i) ∧ w_.cell? ⟨w.heap.size, 1, none⟩ = some (.int .i64 q) ∧ w_.cell? ⟨w.heap.size, 2, none⟩ = some (.int .i64 m) ∧ w_.cell? ⟨w.heap.size, 3, none⟩ = some (.slice A l.length c) ∧ w_.cell? ⟨w.heap.size + 1, 0, none⟩ = some (.string r.f0) ∧ w_.cell? ⟨w.heap.size + 1, 1, none⟩ = some (.slice A1 r.f1.length c1) ∧ w_.cell? ⟨w.heap.size + 1, 2, none⟩ = some (.slice A2 r.f2.length c2) ∧ w_.cell? ⟨w.heap.size + 1, 3, none⟩ = some (.string r.f3) := ⟨(pw_cell_below (hF).b u0), (pw_cell_below (hF).b u1), (pw_cell_below (hF).b u2), (pw_cell_below (hF).b u3), (pw_cell_below (hF).b u4), (pw_cell_below (hF).b u5), (pw_cell_below (hF).b u6), (pw_cell_below (hF).b u7)⟩
                      refine norm_ (a' := ?_) ?_ ?_
                      rotate_left
                      · simp only [putAll, Act.put, List.setIfInBounds_toArray, List.set_cons_zero, List.set_cons_succ]
                        rfl
                      refine two_ (i := 11) (j := 14) (Ni := some 43) (Nj := some 7) #[true, true, true, true, true, true, true, true, true, true, true, true, false, false, false, false] #[true, true, true, true, true, true, true, true, true, true, true, false, false, false, true, false] rfl rfl rfl rfl (by kernel_rfl) (by decide) (by decide) (fun K hK => ?_) (fun K hK => ?_)
                      · skip
                        refine value_ (w1 := ?_) (v := ?_) (by rfl) rfl ?_ ?_
                        rotate_left 2
                        · go_simp
                          constructor
                          · rfl
                          · rfl
                        refine hK.out _ _ ⟨(pw_cell_below (hF.s11).b u0), (pw_cell_below (hF.s11).b u1), (pw_cell_below (hF.s11).b u2), (pw_cell_below (hF.s11).b u3), (pw_cell_below (hF.s11).b u4), (pw_cell_below (hF.s11).b u5), (pw_cell_below (hF.s11).b u6), (pw_cell_below (hF.s11).b u7)⟩ (fun hHeld => ?_)
                        clear hK K
                        refine norm_ (a' := ?_) ?_ ?_
                        rotate_left
                        · show Act.put _ (some 43) _ = _
                          simp only [Act.put, List.setIfInBounds_toArray, List.set_cons_zero, List.set_cons_succ, i64_w, i32_w]
                          rfl
                        exact norm_ (by first | (simp only [putAll, Act.put, List.setIfInBounds_toArray, List.set_cons_zero, List.set_cons_succ]; done) | (simp only [putAll, Act.put, List.setIfInBounds_toArray, List.set_cons_zero, List.set_cons_succ]; rfl)) (hJ6_9_11 _ _ hF.s11)
                      · skip
                        refine value_ (w1 := ?_) (v := ?_) (by rfl) rfl ?_ ?_
                        rotate_left 2
                        · go_simp
                          constructor
                          · rfl
                          · rfl
                        refine hK.out _ _ ⟨(pw_cell_below (hF.s14).b u0), (pw_cell_below (hF.s14).b u1), (pw_cell_below (hF.s14).b u2), (pw_cell_below (hF.s14).b u3), (pw_cell_below (hF.s14).b u4), (pw_cell_below (hF.s14).b u5), (pw_cell_below (hF.s14).b u6), (pw_cell_below (hF.s14).b u7)⟩ (fun hHeld => ?_)
                        clear hK K
                        refine norm_ (a' := ?_) ?_ ?_
                        rotate_left
                        · show Act.put _ (some 7) _ = _
                          simp only [Act.put, List.setIfInBounds_toArray, List.set_cons_zero, List.set_cons_succ, i64_w, i32_w]
                          rfl
                        exact norm_ (by first | (simp only [putAll, Act.put, List.setIfInBounds_toArray, List.set_cons_zero, List.set_cons_succ]; done) | (simp only [putAll, Act.put, List.setIfInBounds_toArray, List.set_cons_zero, List.set_cons_succ]; rfl)) (hJ6_9_14 _ _ hF.s14)
                  · skip
                    rintro ⟨v6, v9, v12, vx, g14⟩ w_ hF
                    have hHeld : w_.cell? ⟨w.heap.size, 0, none⟩ = some (.int .i64 i) ∧ w_.cell? ⟨w.heap.size, 1, none⟩ = some (.int .i64 q) ∧ w_.cell? ⟨w.heap.size, 2, none⟩ = some (.int .i64 m) ∧ w_.cell? ⟨w.heap.size, 3, none⟩ = some (.slice A l.length c) ∧ w_.cell? ⟨w.heap.size + 1, 0, none⟩ = some (.string r.f0) ∧ w_.cell? ⟨w.heap.size + 1, 1, none⟩ = some (.slice A1 r.f1.length c1) ∧ w_.cell? ⟨w.heap.size + 1, 2, none⟩ = some (.slice A2 r.f2.length c2) ∧ w_.cell? ⟨w.heap.size + 1, 3, none⟩ = some (.string r.f3) := ⟨(pw_cell_below (hF).b u0), (pw_cell_below (hF).b u1), (pw_cell_below (hF).b u2), (pw_cell_below (hF).b u3), (pw_cell_below (hF).b u4), (pw_cell_below (hF).b u5), (pw_cell_below (hF).b u6), (pw_cell_below (hF).b u7)⟩
                    refine norm_ (a' := ?_) ?_ ?_
                    rotate_left
                    · simp only [putAll, Act.put, List.setIfInBounds_toArray, List.set_cons_zero, List.set_cons_succ]
                      rfl
                    refine one_ (i := 9) (N := some 41) #[true, true, true, true, true, true, true, true, true, true, true, true, false, false, true, false] rfl rfl (by kernel_rfl) (by decide) (fun K hK => ?_)
                    refine Kd.R_append_rows_step (Kd.fixed kRung w3.drew) (w0 := w3.drew) (w3.drew).heap.size (by rfl) (.tmp 38) (.tmp 40) 22 40 (.agg #[.string ⟨#[]⟩, .slice none 0 0, .slice none 0 0, .string ⟨#[]⟩]) 80 rfl Tryd.underlying22 PPrinterMatchesReference.info40 rfl (Nat.zero_lt_succ 3) (by omega) v6 [] l A l.length c (fun _ => True) (fun _ => False) rfl rfl (hF.o6 rfl rfl) (HR.out _ hF.b) (fun _ _ h => h) (fun _ h => h.elim) (fun _ _ => trivial) hF.b hF.b.size (by simp only [List.length_nil]; omega) ?_
                    intro v1 w1 hr hb hg hat
                    have hN := hF.s9 hr hb hg hat
                    clear hr hb hg hat
                    refine hK.out _ _ ⟨(pw_cell_below (hN).b u0), (pw_cell_below (hN).b u1), (pw_cell_below (hN).b u2), (pw_cell_below (hN).b u3), (pw_cell_below (hN).b u4), (pw_cell_below (hN).b u5), (pw_cell_below (hN).b u6), (pw_cell_below (hN).b u7)⟩ (fun hHeld => ?_)
                    clear hK K
                    refine norm_ (a' := ?_) ?_ ?_
                    rotate_left
                    · show Act.put _ (some 41) _ = _
                      simp only [Act.put, List.setIfInBounds_toArray, List.set_cons_zero, List.set_cons_succ, i64_w, i32_w]
                      rfl
                    exact norm_ (by first | (simp only [putAll, Act.put, List.setIfInBounds_toArray, List.set_cons_zero, List.set_cons_succ]; done) | (simp only [putAll, Act.put, List.setIfInBounds_toArray, List.set_cons_zero, List.set_cons_succ]; rfl)) (hJ6_9_11_14 _ _ hN)
                · skip
                  rintro ⟨v6, v9, v12, vx, g14⟩ w_ hF
                  have hHeld : w_.cell? ⟨w.heap.size, 0, none⟩ = some (.int .i64 i) ∧ w_.cell? ⟨w.heap.size, 1, none⟩ = some (.int .i64 q) ∧ w_.cell? ⟨w.heap.size, 2, none⟩ = some (.int .i64 m) ∧ w_.cell? ⟨w.heap.size, 3, none⟩ = some (.slice A l.length c) ∧ w_.cell? ⟨w.heap.size + 1, 0, none⟩ = some (.string r.f0) ∧ w_.cell? ⟨w.heap.size + 1, 1, none⟩ = some (.slice A1 r.f1.length c1) ∧ w_.cell? ⟨w.heap.size + 1, 2, none⟩ = some (.slice A2 r.f2.length c2) ∧ w_.cell? ⟨w.heap.size + 1, 3, none⟩ = some (.string r.f3) := ⟨(pw_cell_below (hF).b u0), (pw_cell_below (hF).b u1), (pw_cell_below (hF).b u2), (pw_cell_below (hF).b u3), (pw_cell_below (hF).b u4), (pw_cell_below (hF).b u5), (pw_cell_below (hF).b u6), (pw_cell_below (hF).b u7)⟩
                  refine norm_ (a' := ?_) ?_ ?_
                  rotate_left
                  · simp only [putAll, Act.put, List.setIfInBounds_toArray, List.set_cons_zero, List.set_cons_succ]
                    rfl
                  refine one_ (i := 11) (N := some 43) #[true, true, true, true, true, true, true, true, true, true, true, true, false, false, true, false] rfl rfl (by kernel_rfl) (by decide) (fun K hK => ?_)
                  refine value_ (w1 := ?_) (v := ?_) (by rfl) rfl ?_ ?_
                  rotate_left 2
                  · go_simp
                    constructor
                    · rfl
                    · rfl
                  refine hK.out _ _ ⟨(pw_cell_below (hF.s11).b u0), (pw_cell_below (hF.s11).b u1), (pw_cell_below (hF.s11).b u2), (pw_cell_below (hF.s11).b u3), (pw_cell_below (hF.s11).b u4), (pw_cell_below (hF.s11).b u5), (pw_cell_below (hF.s11).b u6), (pw_cell_below (hF.s11).b u7)⟩ (fun hHeld => ?_)
                  clear hK K
                  refine norm_ (a' := ?_) ?_ ?_
                  rotate_left
                  · show Act.put _ (some 43) _ = _
                    simp only [Act.put, List.setIfInBounds_toArray, List.set_cons_zero, List.set_cons_succ, i64_w, i32_w]
                    rfl
                  exact norm_ (by first | (simp only [putAll, Act.put, List.setIfInBounds_toArray, List.set_cons_zero, List.set_cons_succ]; done) | (simp only [putAll, Act.put, List.setIfInBounds_toArray, List.set_cons_zero, List.set_cons_succ]; rfl)) (hJ6_9_11_14 _ _ hF.s11)
              · skip
                rintro ⟨v6, v9, v12, vx, g14⟩ w_ hF
                have hHeld : w_.cell? ⟨w.heap.size, 0, none⟩ = some (.int .i64 i) ∧ w_.cell? ⟨w.heap.size, 1, none⟩ = some (.int .i64 q) ∧ w_.cell? ⟨w.heap.size, 2, none⟩ = some (.int .i64 m) ∧ w_.cell? ⟨w.heap.size, 3, none⟩ = some (.slice A l.length c) ∧ w_.cell? ⟨w.heap.size + 1, 0, none⟩ = some (.string r.f0) ∧ w_.cell? ⟨w.heap.size + 1, 1, none⟩ = some (.slice A1 r.f1.length c1) ∧ w_.cell? ⟨w.heap.size + 1, 2, none⟩ = some (.slice A2 r.f2.length c2) ∧ w_.cell? ⟨w.heap.size + 1, 3, none⟩ = some (.string r.f3) := ⟨(pw_cell_below (hF).b u0), (pw_cell_below (hF).b u1), (pw_cell_below (hF).b u2), (pw_cell_below (hF).b u3), (pw_cell_below (hF).b u4), (pw_cell_below (hF).b u5), (pw_cell_below (hF).b u6), (pw_cell_below (hF).b u7)⟩
                refine norm_ (a' := ?_) ?_ ?_
                rotate_left
                · simp only [putAll, Act.put, List.setIfInBounds_toArray, List.set_cons_zero, List.set_cons_succ]
                  rfl
                refine two_ (i := 12) (j := 14) (Ni := some 44) (Nj := some 7) #[true, true, true, true, true, true, true, true, true, true, true, true, true, false, false, false] #[true, true, true, true, true, true, true, true, true, true, true, true, false, false, true, false] rfl rfl rfl rfl (by kernel_rfl) (by decide) (by decide) (fun K hK => ?_) (fun K hK => ?_)
                · skip
                  obtain ⟨g, ex, hx, _, _⟩ := hF.x rfl rfl
                  obtain rfl : vx = .slice (some ⟨g, 0, none⟩) 1 1 := ex
                  refine Kd.R_append_rows_step (Kd.fixed kRung w3.drew) (w0 := w3.drew) (w3.drew).heap.size (by rfl) (.tmp 41) (.tmp 43) 22 40 (.agg #[.string ⟨#[]⟩, .slice none 0 0, .slice none 0 0, .string ⟨#[]⟩]) 80 rfl Tryd.underlying22 PPrinterMatchesReference.info40 rfl (Nat.zero_lt_succ 3) (by omega) v9 l [r] (some ⟨g, 0, none⟩) 1 1 (fun _ => True) (fun _ => False) rfl rfl (hF.o9 rfl rfl) (row_one rfl HK.out hx) (fun _ _ h => h) (fun _ h => h.elim) (fun _ _ => trivial) hF.b hF.b.size (by omega) ?_
                  intro v1 w1 hr hb hg hat
                  obtain ⟨B, d, rfl, _, _⟩ := RR.reads1 (W := w3.drew) hr hb
                  have hN := hF.s12 hr hb hg
                  clear hr hb hg hat
                  refine hK.out _ _ ⟨(pw_cell_below (hN).b u0), (pw_cell_below (hN).b u1), (pw_cell_below (hN).b u2), (pw_cell_below (hN).b u3), (pw_cell_below (hN).b u4), (pw_cell_below (hN).b u5), (pw_cell_below (hN).b u6), (pw_cell_below (hN).b u7)⟩ (fun hHeld => ?_)
                  clear hK K
                  refine norm_ (a' := ?_) ?_ ?_
                  rotate_left
                  · show Act.put _ (some 44) _ = _
                    simp only [Act.put, List.setIfInBounds_toArray, List.set_cons_zero, List.set_cons_succ, i64_w, i32_w]
                    rfl
                  refine pure_ (i := 13) (N := some 45) (v := ?_) (a' := ?_) #[true, true, true, true, true, true, true, true, true, true, true, true, true, true, false, false] rfl rfl (by kernel_rfl) (fun _ _ _ h => h) (Or.inl ⟨by rfl, ?_⟩) ?_ ?_
                  rotate_left
                  · intro w'
                    go_simp
                    with_reducible rfl
                  rotate_left
                  · simp only [Act.put, List.setIfInBounds_toArray, List.set_cons_zero, List.set_cons_succ, i64_w, i32_w]
                    rfl
                  exact norm_ (by first | (simp only [putAll, Act.put, List.setIfInBounds_toArray, List.set_cons_zero, List.set_cons_succ]; done) | (simp only [putAll, Act.put, List.setIfInBounds_toArray, List.set_cons_zero, List.set_cons_succ]; rfl)) (hJ6_9_11_12 _ _ hN)
                · skip
                  refine value_ (w1 := ?_) (v := ?_) (by rfl) rfl ?_ ?_
                  rotate_left 2
                  · go_simp
                    constructor
                    · rfl
                    · rfl
                  refine hK.out _ _ ⟨(pw_cell_below (hF.s14).b u0), (pw_cell_below (hF.s14).b u1), (pw_cell_below (hF.s14).b u2), (pw_cell_below (hF.s14).b u3), (pw_cell_below (hF.s14).b u4), (pw_cell_below (hF.s14).b u5), (pw_cell_below (hF.s14).b u6), (pw_cell_below (hF.s14).b u7)⟩ (fun hHeld => ?_)
                  clear hK K
                  refine norm_ (a' := ?_) ?_ ?_
                  rotate_left
                  · show Act.put _ (some 7) _ = _
                    simp only [Act.put, List.setIfInBounds_toArray, List.set_cons_zero, List.set_cons_succ, i64_w, i32_w]
                    rfl
                  exact norm_ (by first | (simp only [putAll, Act.put, List.setIfInBounds_toArray, List.set_cons_zero, List.set_cons_succ]; done) | (simp only [putAll, Act.put, List.setIfInBounds_toArray, List.set_cons_zero, List.set_cons_succ]; rfl)) (hJ6_9_11_14 _ _ hF.s14)
            · skip
              rintro ⟨v6, v9, v12, vx, g14⟩ w_ hF
              have hHeld : w_.cell? ⟨w.heap.size, 0, none⟩ = some (.int .i64 i) ∧ w_.cell? ⟨w.heap.size, 1, none⟩ = some (.int .i64 q) ∧ w_.cell? ⟨w.heap.size, 2, none⟩ = some (.int .i64 m) ∧ w_.cell? ⟨w.heap.size, 3, none⟩ = some (.slice A l.length c) ∧ w_.cell? ⟨w.heap.size + 1, 0, none⟩ = some (.string r.f0) ∧ w_.cell? ⟨w.heap.size + 1, 1, none⟩ = some (.slice A1 r.f1.length c1) ∧ w_.cell? ⟨w.heap.size + 1, 2, none⟩ = some (.slice A2 r.f2.length c2) ∧ w_.cell? ⟨w.heap.size + 1, 3, none⟩ = some (.string r.f3) := ⟨(pw_cell_below (hF).b u0), (pw_cell_below (hF).b u1), (pw_cell_below (hF).b u2), (pw_cell_below (hF).b u3), (pw_cell_below (hF).b u4), (pw_cell_below (hF).b u5), (pw_cell_below (hF).b u6), (pw_cell_below (hF).b u7)⟩
              refine norm_ (a' := ?_) ?_ ?_
              rotate_left
              · simp only [putAll, Act.put, List.setIfInBounds_toArray, List.set_cons_zero, List.set_cons_succ]
                rfl
              refine one_ (i := 12) (N := some 44) #[true, true, true, true, true, true, true, true, true, true, true, true, true, false, true, false] rfl rfl (by kernel_rfl) (by decide) (fun K hK => ?_)
              obtain ⟨g, ex, hx, _, _⟩ := hF.x rfl rfl
              obtain rfl : vx = .slice (some ⟨g, 0, none⟩) 1 1 := ex
              refine Kd.R_append_rows_step (Kd.fixed kRung w3.drew) (w0 := w3.drew) (w3.drew).heap.size (by rfl) (.tmp 41) (.tmp 43) 22 40 (.agg #[.string ⟨#[]⟩, .slice none 0 0, .slice none 0 0, .string ⟨#[]⟩]) 80 rfl Tryd.underlying22 PPrinterMatchesReference.info40 rfl (Nat.zero_lt_succ 3) (by omega) v9 l [r] (some ⟨g, 0, none⟩) 1 1 (fun _ => True) (fun _ => False) rfl rfl (hF.o9 rfl rfl) (row_one rfl HK.out hx) (fun _ _ h => h) (fun _ h => h.elim) (fun _ _ => trivial) hF.b hF.b.size (by omega) ?_
              intro v1 w1 hr hb hg hat
              obtain ⟨B, d, rfl, _, _⟩ := RR.reads1 (W := w3.drew) hr hb
              have hN := hF.s12 hr hb hg
              clear hr hb hg hat
              refine hK.out _ _ ⟨(pw_cell_below (hN).b u0), (pw_cell_below (hN).b u1), (pw_cell_below (hN).b u2), (pw_cell_below (hN).b u3), (pw_cell_below (hN).b u4), (pw_cell_below (hN).b u5), (pw_cell_below (hN).b u6), (pw_cell_below (hN).b u7)⟩ (fun hHeld => ?_)
              clear hK K
              refine norm_ (a' := ?_) ?_ ?_
              rotate_left
              · show Act.put _ (some 44) _ = _
                simp only [Act.put, List.setIfInBounds_toArray, List.set_cons_zero, List.set_cons_succ, i64_w, i32_w]
                rfl
              refine pure_ (i := 13) (N := some 45) (v := ?_) (a' := ?_) #[true, true, true, true, true, true, true, true, true, true, true, true, true, true, true, false] rfl rfl (by kernel_rfl) (fun _ _ _ h => h) (Or.inl ⟨by rfl, ?_⟩) ?_ ?_
              rotate_left
              · intro w'
                go_simp
                with_reducible rfl
              rotate_left
              · simp only [Act.put, List.setIfInBounds_toArray, List.set_cons_zero, List.set_cons_succ, i64_w, i32_w]
                rfl
              exact norm_ (by first | (simp only [putAll, Act.put, List.setIfInBounds_toArray, List.set_cons_zero, List.set_cons_succ]; done) | (simp only [putAll, Act.put, List.setIfInBounds_toArray, List.set_cons_zero, List.set_cons_succ]; rfl)) (hJ6_9_11_12_14 _ _ hN)
          · skip
            rintro ⟨v6, v9, v12, vx, g14⟩ w_ hF
            have hHeld : w_.cell? ⟨w.heap.size, 0, none⟩ = some (.int .i64 i) ∧ w_.cell? ⟨w.heap.size, 1, none⟩ = some (.int .i64 q) ∧ w_.cell? ⟨w.heap.size, 2, none⟩ = some (.int .i64 m) ∧ w_.cell? ⟨w.heap.size, 3, none⟩ = some (.slice A l.length c) ∧ w_.cell? ⟨w.heap.size + 1, 0, none⟩ = some (.string r.f0) ∧ w_.cell? ⟨w.heap.size + 1, 1, none⟩ = some (.slice A1 r.f1.length c1) ∧ w_.cell? ⟨w.heap.size + 1, 2, none⟩ = some (.slice A2 r.f2.length c2) ∧ w_.cell? ⟨w.heap.size + 1, 3, none⟩ = some (.string r.f3) := ⟨(pw_cell_below (hF).b u0), (pw_cell_below (hF).b u1), (pw_cell_below (hF).b u2), (pw_cell_below (hF).b u3), (pw_cell_below (hF).b u4), (pw_cell_below (hF).b u5), (pw_cell_below (hF).b u6), (pw_cell_below (hF).b u7)⟩
            refine norm_ (a' := ?_) ?_ ?_
            rotate_left
            · simp only [putAll, Act.put, List.setIfInBounds_toArray, List.set_cons_zero, List.set_cons_succ]
              rfl
            refine one_ (i := 14) (N := some 7) #[true, true, true, true, true, true, true, true, true, true, true, true, true, true, true, false] rfl rfl (by kernel_rfl) (by decide) (fun K hK => ?_)
            refine value_ (w1 := ?_) (v := ?_) (by rfl) rfl ?_ ?_
            rotate_left 2
            · go_simp
              constructor
              · rfl
              · rfl
            refine hK.out _ _ ⟨(pw_cell_below (hF.s14).b u0), (pw_cell_below (hF.s14).b u1), (pw_cell_below (hF.s14).b u2), (pw_cell_below (hF.s14).b u3), (pw_cell_below (hF.s14).b u4), (pw_cell_below (hF.s14).b u5), (pw_cell_below (hF.s14).b u6), (pw_cell_below (hF.s14).b u7)⟩ (fun hHeld => ?_)
            clear hK K
            refine norm_ (a' := ?_) ?_ ?_
            rotate_left
            · show Act.put _ (some 7) _ = _
              simp only [Act.put, List.setIfInBounds_toArray, List.set_cons_zero, List.set_cons_succ, i64_w, i32_w]
              rfl
            exact norm_ (by first | (simp only [putAll, Act.put, List.setIfInBounds_toArray, List.set_cons_zero, List.set_cons_succ]; done) | (simp only [putAll, Act.put, List.setIfInBounds_toArray, List.set_cons_zero, List.set_cons_succ]; rfl)) (hJ6_9_11_12_14 _ _ hF.s14)
        rintro ⟨v6, v9, v12, vx, g14⟩ w_ hF
        have hHeld : w_.cell? ⟨w.heap.size, 0, none⟩ = some (.int .i64 i) ∧ w_.cell? ⟨w.heap.size, 1, none⟩ = some (.int .i64 q) ∧ w_.cell? ⟨w.heap.size, 2, none⟩ = some (.int .i64 m) ∧ w_.cell? ⟨w.heap.size, 3, none⟩ = some (.slice A l.length c) ∧ w_.cell? ⟨w.heap.size + 1, 0, none⟩ = some (.string r.f0) ∧ w_.cell? ⟨w.heap.size + 1, 1, none⟩ = some (.slice A1 r.f1.length c1) ∧ w_.cell? ⟨w.heap.size + 1, 2, none⟩ = some (.slice A2 r.f2.length c2) ∧ w_.cell? ⟨w.heap.size + 1, 3, none⟩ = some (.string r.f3) := ⟨(pw_cell_below (hF).b u0), (pw_cell_below (hF).b u1), (pw_cell_below (hF).b u2), (pw_cell_below (hF).b u3), (pw_cell_below (hF).b u4), (pw_cell_below (hF).b u5), (pw_cell_below (hF).b u6), (pw_cell_below (hF).b u7)⟩
        obtain ⟨B, d, e12, hd, hC⟩ := (hF.o12 rfl).reads1 hF.b
        obtain rfl : v12 = .slice B (l.length + 1) d := e12
        have hp := hF.p rfl
        have p0 := blk_cell hp 0
        have p1 := blk_cell hp 1
        have p2 := blk_cell hp 2
        have p3 := blk_cell hp 3
        have z0 := blk_frozen hp 0
        have z1 := blk_frozen hp 1
        have z2 := blk_frozen hp 2
        have z3 := blk_frozen hp 3
        simp only [] at p0 p1 p2 p3 z0 z1 z2 z3
        refine norm_ (a' := ?_) ?_ ?_
        rotate_left
        · simp only [putAll, Act.put, List.setIfInBounds_toArray, List.set_cons_zero, List.set_cons_succ]
          rfl
        refine last_ (i := 15) (N := none) #[true, true, true, true, true, true, true, true, true, true, true, true, true, true, true, true] rfl rfl (by kernel_rfl) (by decide) (fun K hK => ?_)
        refine skip_ (w1 := ?_) (by rfl) rfl ?_ ?_
        rotate_left
        · go_simp
          rfl
        refine hK.out _ _ ?_
        clear hK K
        refine done_ (by kernel_rfl) ?_
        have KM := hF.done (.int .i64 i) (.int .i64 q) (.int .i64 m) rfl
        have F5 := Aside0.mk (F4.out.below KM.1)
        have H5 := Aside0.mk KM.1
        have KM5 := Aside0.mk KM.2.1
        obtain ⟨B', d', e12, hd', hC5⟩ := KM.2.2.reads1 KM.1
        obtain ⟨rfl, rfl⟩ : B = B' ∧ d = d' := by simpa using e12
        have HC5 := Aside0.mk hC5
        clear KM hF hC hC5 e12 hd' hHeld hp p0 p1 p2 p3 z0 z1 z2 z3 u0 u1 u2 u3 u4 u5 u6 u7 HR
        generalize hw5 : (((w_.setCell ⟨g14, 0, none⟩ (.int .i64 i)).setCell ⟨g14, 1, none⟩ (.int .i64 q)).setCell ⟨g14, 2, none⟩ (.int .i64 m)).setCell ⟨g14, 3, none⟩ (.slice B (l.length + 1) d) = w5 at F5 H5 KM5 HC5 ⊢
        clear hw5 w_
        have hll : (l ++ [r]).length = l.length + 1 := by simp
        replace HPm := Aside0.mk (fun W (hW : Below w5.heap.size w5 W) => HPm.out W B d (Kd.C_below HC5.out hW) (by omega) (below_step F5.out.b hW))
        replace HCm := Aside0.mk (fun W (hW : Below w5.heap.size w5 W) => HCm.out W B d (Kd.C_below HC5.out hW) (by omega))
        replace HEm := Aside0.mk (fun W (hW : Below w5.heap.size w5 W) => HEm.out W B d (Kd.C_below HC5.out hW) (by omega))
        rw [hll] at HPm HCm HEm
        clear hll
        generalize hg1 : (ladPrint i q m (l ++ [r])).1 = ut at HPm HLaw
        generalize hg2 : (ladPrint i q m (l ++ [r])).2 = uf at HPm HLaw
        generalize hg3 : (ladChk i q m (l ++ [r])).1 = cn at HCm HLaw
        generalize hg4 : (ladChk i q m (l ++ [r])).2 = ce at HCm HLaw
        generalize hg5 : edgeN (l ++ [r]) = em at HEm HLaw
        generalize hg6 : edgeN l = el at HE HLaw
        generalize hg7 : edgeN [r] = er at HE1 HLaw
        clear hg1 hg2 hg3 hg4 hg5 hg6 hg7
        obtain ⟨hL1, hL2⟩ := HLaw.out (by first | rfl | trivial)
        have HL1 := Aside0.mk hL1
        have HL2 := Aside0.mk hL2
        clear hL1 hL2 HLaw
        obtain ⟨u0, u1, u2, u3, u4, u5, u6, u7⟩ := F5.out.cells
        have m0 := blk_cell KM5.out 0
        have m1 := blk_cell KM5.out 1
        have m2 := blk_cell KM5.out 2
        have m3 := blk_cell KM5.out 3
        go_wp2_with fail
        refine (HPm.out _ (Below.refl _ _)).mono ?_
        rintro e w6 ⟨rfl, hb⟩
        have B6 := Aside0.mk hb
        clear hb u0 u1 u2 u3 u4 u5 u6 u7 m0 m1 m2 m3
        have m0 := blk_cell (blk_below KM5.out B6.out) 0
        have m1 := blk_cell (blk_below KM5.out B6.out) 1
        have m2 := blk_cell (blk_below KM5.out B6.out) 2
        have m3 := blk_cell (blk_below KM5.out B6.out) 3
        go_wp2_with fail
        refine (HCm.out _ B6.out).mono ?_
        rintro e w7 ⟨rfl, hb⟩
        have B7 := Aside0.mk (below_step B6.out hb)
        clear hb m0 m1 m2 m3
        obtain ⟨u0, u1, u2, u3, u4, u5, u6, u7⟩ := (F5.out.below B7.out).cells
        by_cases huf : uf = 0
        · subst huf
          obtain ⟨rfl, rfl, hpre, hem⟩ := HL2.out (by first | rfl | trivial)
          have HP : Aside0 (∀ W, Calls Tryd.prog 16 #[.string ⟨ut.toArray⟩, .string ⟨pt.toArray⟩] W (RetB W (.bool true))) := ⟨fun W => ((Tryd.strings_HasPrefix _ _ W).mono (by
            rintro e w' ⟨rfl, rfl⟩
            refine ⟨?_, Below.refl _ _⟩
            have : Lib.hasPrefix ut pt = true := List.isPrefixOf_iff_prefix.2 hpre
            rw [this]))⟩
          have HM := Aside0.mk hem
          clear HL1 HL2 hpre hem
          have hwl : wrap64 ((l.length : Int) + 1) = (l.length : Int) + 1 := w64 (by omega) (by omega)
          have hw7 := Aside0.mk (below_drew (below_step F5.out.b B7.out))
          replace HAl := Aside0.mk (fun W (hW : Below w7.drew.heap.size w7.drew W) => HAl.out W (below_step hw7.out hW))
          have HEl := Aside0.mk (fun W (hW : Below w7.drew.heap.size w7.drew W) => HE.out W (below_step hw7.out hW))
          replace HEm := Aside0.mk (fun W (hW : Below w7.drew.heap.size w7.drew W) => HEm.out W (below_step (below_drew B7.out) hW))
          replace HK := Aside0.mk (kRung.K_below (below_step H5.out (below_drew B7.out)) HK.out)
          replace HE1 : Aside0 (∀ W g, Kd.C kRung W (some ⟨g, 0, none⟩) 1 [r] → Calls Tryd.prog 14 #[.agg #[.int .i64 0, .int .i64 0, .int .i64 0, .slice (some ⟨g, 0, none⟩) 1 1]] W (RetB W (.int .i64 er))) := HE1
          have U := Aside0.mk (F5.out.below (below_drew B7.out)).cells
          have UM := Aside0.mk (blk_below KM5.out (below_drew B7.out))
          go_wp2_with fail
          clear u0 u1 u2 u3 u4 u5 u6 u7
          obtain ⟨u0, u1, u2, u3, u4, u5, u6, u7⟩ := U.out
          have u8 := blk_cell UM.out 0
          have u9 := blk_cell UM.out 1
          have u10 := blk_cell UM.out 2
          have u11 := blk_cell UM.out 3
          have hF : EdF w7.drew [.string r.f0, .slice A1 r.f1.length c1, .slice A2 r.f2.length c2, .string r.f3] false 0 w7.drew := ⟨Below.refl _ _, nofun⟩
          refine start_ (n := 31) (S := fun w' => w'.cell? ⟨w.heap.size, 0, none⟩ = some (.int .i64 i) ∧ w'.cell? ⟨w.heap.size, 1, none⟩ = some (.int .i64 q) ∧ w'.cell? ⟨w.heap.size, 2, none⟩ = some (.int .i64 m) ∧ w'.cell? ⟨w.heap.size, 3, none⟩ = some (.slice A l.length c) ∧ w'.cell? ⟨w.heap.size + 1, 0, none⟩ = some (.string r.f0) ∧ w'.cell? ⟨w.heap.size + 1, 1, none⟩ = some (.slice A1 r.f1.length c1) ∧ w'.cell? ⟨w.heap.size + 1, 2, none⟩ = some (.slice A2 r.f2.length c2) ∧ w'.cell? ⟨w.heap.size + 1, 3, none⟩ = some (.string r.f3) ∧ w'.cell? ⟨g14, 0, none⟩ = some (.int .i64 i) ∧ w'.cell? ⟨g14, 1, none⟩ = some (.int .i64 q) ∧ w'.cell? ⟨g14, 2, none⟩ = some (.int .i64 m) ∧ w'.cell? ⟨g14, 3, none⟩ = some (.slice B (l.length + 1) d)) (ds := []) #[false, false, false, false, false, false, false, false, false, false, false, false, false, false, false, false, false, false, false, false, false, false, false, false, false, false, false, false, false, false, false] (by kernel_rfl) rfl rfl ⟨u0, u1, u2, u3, u4, u5, u6, u7, u8, u9, u10, u11⟩ (fun hHeld => ?_)
          refine one_ (i := 0) (N := some 83) #[true, false, false, false, false, false, false, false, false, false, false, false, false, false, false, false, false, false, false, false, false, false, false, false, false, false, false, false, false, false, false] rfl rfl (by kernel_rfl) (by decide) (fun K hK => ?_)
          refine goes_ Tryd.func9 (by kernel_rfl) rfl #[] (by rfl) rfl rfl (by first | (simp only [List.map_toArray, List.map_cons, List.map_nil]; done) | (simp only [List.map_toArray, List.map_cons, List.map_nil]; rfl)) ?_
          with_reducible refine (HAl.out _ hF.b).mono ?_
          rintro e_ w1 ⟨rfl, hb⟩
          refine ⟨_, rfl, ?_⟩
          have n_ := hF.step hb
          clear hF
          have hF := n_
          clear n_
          refine hK.out _ _ ⟨(pw_cell_below hb hHeld.1), (pw_cell_below hb hHeld.2.1), (pw_cell_below hb hHeld.2.2.1), (pw_cell_below hb hHeld.2.2.2.1), (pw_cell_below hb hHeld.2.2.2.2.1), (pw_cell_below hb hHeld.2.2.2.2.2.1), (pw_cell_below hb hHeld.2.2.2.2.2.2.1), (pw_cell_below hb hHeld.2.2.2.2.2.2.2.1), (pw_cell_below hb hHeld.2.2.2.2.2.2.2.2.1), (pw_cell_below hb hHeld.2.2.2.2.2.2.2.2.2.1), (pw_cell_below hb hHeld.2.2.2.2.2.2.2.2.2.2.1), (pw_cell_below hb hHeld.2.2.2.2.2.2.2.2.2.2.2)⟩ (fun hHeld => ?_)
          clear hK K
          refine norm_ (a' := ?_) ?_ ?_
          rotate_left
          · show Act.put _ (some 83) _ = _
            simp only [Act.put, List.setIfInBounds_toArray, List.set_cons_zero, List.set_cons_succ, i64_w, i32_w]
            rfl
          refine pure_ (i := 1) (N := some 84) (v := ?_) (a' := ?_) #[true, true, false, false, false, false, false, false, false, false, false, false, false, false, false, false, false, false, false, false, false, false, false, false, false, false, false, false, false, false, false] rfl rfl (by kernel_rfl) (fun _ _ _ h => h) (Or.inl ⟨by rfl, ?_⟩) ?_ ?_
          rotate_left
          · intro w'
            go_simp
            with_reducible rfl
          rotate_left
          · simp only [Act.put, List.setIfInBounds_toArray, List.set_cons_zero, List.set_cons_succ, i64_w, i32_w]
            rfl
          refine pure_ (i := 2) (N := some 85) (v := ?_) (a' := ?_) #[true, true, true, false, false, false, false, false, false, false, false, false, false, false, false, false, false, false, false, false, false, false, false, false, false, false, false, false, false, false, false] rfl rfl (by kernel_rfl) (fun _ _ _ h => h) (Or.inl ⟨by rfl, ?_⟩) ?_ ?_
          rotate_left
          · intro w'
            go_simp
            with_reducible rfl
          rotate_left
          · simp only [Act.put, List.setIfInBounds_toArray, List.set_cons_zero, List.set_cons_succ, i64_w, i32_w]
            rfl
          refine pure_ (i := 3) (N := some 86) (v := ?_) (a' := ?_) #[true, true, true, true, false, false, false, false, false, false, false, false, false, false, false, false, false, false, false, false, false, false, false, false, false, false, false, false, false, false, false] rfl rfl (by kernel_rfl) (fun _ _ _ h => h) (Or.inl ⟨by rfl, ?_⟩) ?_ ?_
          rotate_left
          · intro w'
            go_simp
            with_reducible rfl
          rotate_left
          · simp only [Act.put, List.setIfInBounds_toArray, List.set_cons_zero, List.set_cons_succ, i64_w, i32_w]
            rfl
          refine pure_ (i := 4) (N := some 87) (v := ?_) (a' := ?_) #[true, true, true, true, true, false, false, false, false, false, false, false, false, false, false, false, false, false, false, false, false, false, false, false, false, false, false, false, false, false, false] rfl rfl (by kernel_rfl) (fun _ _ _ h => h) (Or.inl ⟨by rfl, ?_⟩) ?_ ?_
          rotate_left
          · intro w'
            go_simp
            with_reducible rfl
          rotate_left
          · simp only [Act.put, List.setIfInBounds_toArray, List.set_cons_zero, List.set_cons_succ, i64_w, i32_w]
            rfl
          refine pure_ (i := 5) (N := some 88) (v := ?_) (a' := ?_) #[true, true, true, true, true, true, false, false, false, false, false, false, false, false, false, false, false, false, false, false, false, false, false, false, false, false, false, false, false, false, false] rfl rfl (by kernel_rfl) (fun _ _ _ h => h) (Or.inl ⟨by rfl, ?_⟩) ?_ ?_
          rotate_left
          · intro w'
            go_simp
            with_reducible rfl
          rotate_left
          · simp only [Act.put, List.setIfInBounds_toArray, List.set_cons_zero, List.set_cons_succ, i64_w, i32_w]
            rfl
          refine pure_ (i := 6) (N := some 89) (v := ?_) (a' := ?_) #[true, true, true, true, true, true, true, false, false, false, false, false, false, false, false, false, false, false, false, false, false, false, false, false, false, false, false, false, false, false, false] rfl rfl (by kernel_rfl) (fun _ _ _ h => h) (Or.inl ⟨by rfl, ?_⟩) ?_ ?_
          rotate_left
          · intro w'
            go_simp
            with_reducible rfl
          rotate_left
          · simp only [Act.put, List.setIfInBounds_toArray, List.set_cons_zero, List.set_cons_succ, i64_w, i32_w]
            rfl
          refine pure_ (i := 7) (N := some 90) (v := ?_) (a' := ?_) #[true, true, true, true, true, true, true, true, false, false, false, false, false, false, false, false, false, false, false, false, false, false, false, false, false, false, false, false, false, false, false] rfl rfl (by kernel_rfl) (fun _ _ _ h => h) (Or.inl ⟨by rfl, ?_⟩) ?_ ?_
          rotate_left
          · intro w'
            go_simp
            with_reducible rfl
          rotate_left
          · simp only [Act.put, List.setIfInBounds_toArray, List.set_cons_zero, List.set_cons_succ, i64_w, i32_w]
            rfl
          refine take_ (i := 8) (N := some 91) (v := ?_) (a' := ?_) #[true, true, true, true, true, true, true, true, true, false, false, false, false, false, false, false, false, false, false, false, false, false, false, false, false, false, false, false, false, false, false] rfl rfl (by kernel_rfl) (fun _ _ _ h => h) (Or.inl ⟨by rfl, ?_⟩) hHeld ?_ ?_
          rotate_left
          · rintro w' ⟨s0, s1, s2, s3, s4, s5, s6, s7, s8, s9, s10, s11⟩
            go_simp
            with_reducible rfl
          rotate_left
          · simp only [Act.put, List.setIfInBounds_toArray, List.set_cons_zero, List.set_cons_succ, i64_w, i32_w]
            rfl
          refine pure_ (i := 9) (N := some 92) (v := ?_) (a' := ?_) #[true, true, true, true, true, true, true, true, true, true, false, false, false, false, false, false, false, false, false, false, false, false, false, false, false, false, false, false, false, false, false] rfl rfl (by kernel_rfl) (fun _ _ _ h => h) (Or.inl ⟨by rfl, ?_⟩) ?_ ?_
          rotate_left
          · intro w'
            go_simp
            with_reducible rfl
          rotate_left
          · simp only [Act.put, List.setIfInBounds_toArray, List.set_cons_zero, List.set_cons_succ, i64_w, i32_w]
            rfl
          refine pure_ (i := 10) (N := some 93) (v := ?_) (a' := ?_) #[true, true, true, true, true, true, true, true, true, true, true, false, false, false, false, false, false, false, false, false, false, false, false, false, false, false, false, false, false, false, false] rfl rfl (by kernel_rfl) (fun _ _ _ h => h) (Or.inl ⟨by rfl, ?_⟩) ?_ ?_
          rotate_left
          · intro w'
            go_simp
            with_reducible rfl
          rotate_left
          · simp only [Act.put, List.setIfInBounds_toArray, List.set_cons_zero, List.set_cons_succ, i64_w, i32_w]
            rfl
          refine pure_ (i := 11) (N := some 94) (v := ?_) (a' := ?_) #[true, true, true, true, true, true, true, true, true, true, true, true, false, false, false, false, false, false, false, false, false, false, false, false, false, false, false, false, false, false, false] rfl rfl (by kernel_rfl) (fun _ _ _ h => h) (Or.inl ⟨by rfl, ?_⟩) ?_ ?_
          rotate_left
          · intro w'
            go_simp
            with_reducible rfl
          rotate_left
          · simp only [Act.put, List.setIfInBounds_toArray, List.set_cons_zero, List.set_cons_succ, i64_w, i32_w]
            rfl
          refine pure_ (i := 12) (N := some 95) (v := ?_) (a' := ?_) #[true, true, true, true, true, true, true, true, true, true, true, true, true, false, false, false, false, false, false, false, false, false, false, false, false, false, false, false, false, false, false] rfl rfl (by kernel_rfl) (fun _ _ _ h => h) (Or.inl ⟨by rfl, ?_⟩) ?_ ?_
          rotate_left
          · intro w'
            go_simp
            with_reducible rfl
          rotate_left
          · simp only [Act.put, List.setIfInBounds_toArray, List.set_cons_zero, List.set_cons_succ, i64_w, i32_w]
            rfl
          refine pure_ (i := 13) (N := some 96) (v := ?_) (a' := ?_) #[true, true, true, true, true, true, true, true, true, true, true, true, true, true, false, false, false, false, false, false, false, false, false, false, false, false, false, false, false, false, false] rfl rfl (by kernel_rfl) (fun _ _ _ h => h) (Or.inl ⟨by rfl, ?_⟩) ?_ ?_
          rotate_left
          · intro w'
            go_simp
            with_reducible rfl
          rotate_left
          · simp only [Act.put, List.setIfInBounds_toArray, List.set_cons_zero, List.set_cons_succ, i64_w, i32_w]
            rfl
          refine pure_ (i := 14) (N := some 97) (v := ?_) (a' := ?_) #[true, true, true, true, true, true, true, true, true, true, true, true, true, true, true, false, false, false, false, false, false, false, false, false, false, false, false, false, false, false, false] rfl rfl (by kernel_rfl) (fun _ _ _ h => h) (Or.inl ⟨by rfl, ?_⟩) ?_ ?_
          rotate_left
          · intro w'
            go_simp
            with_reducible rfl
          rotate_left
          · simp only [Act.put, List.setIfInBounds_toArray, List.set_cons_zero, List.set_cons_succ, i64_w, i32_w]
            rfl
          refine pure_ (i := 15) (N := some 98) (v := ?_) (a' := ?_) #[true, true, true, true, true, true, true, true, true, true, true, true, true, true, true, true, false, false, false, false, false, false, false, false, false, false, false, false, false, false, false] rfl rfl (by kernel_rfl) (fun _ _ _ h => h) (Or.inl ⟨by rfl, ?_⟩) ?_ ?_
          rotate_left
          · intro w'
            go_simp
            with_reducible rfl
          rotate_left
          · simp only [Act.put, List.setIfInBounds_toArray, List.set_cons_zero, List.set_cons_succ, i64_w, i32_w]
            rfl
          refine one_ (i := 16) (N := some 99) #[true, true, true, true, true, true, true, true, true, true, true, true, true, true, true, true, true, false, false, false, false, false, false, false, false, false, false, false, false, false, false] rfl rfl (by kernel_rfl) (by decide) (fun K hK => ?_)
          refine goes_ Tryd.func16 (by kernel_rfl) rfl #[.string ⟨ut.toArray⟩, .string ⟨pt.toArray⟩] (by rfl) rfl rfl (by first | (simp only [List.map_toArray, List.map_cons, List.map_nil]; done) | (simp only [List.map_toArray, List.map_cons, List.map_nil]; rfl)) ?_
          with_reducible refine (HP.out _).mono ?_
          rintro e_ w1 ⟨rfl, hb⟩
          refine ⟨_, rfl, ?_⟩
          have n_ := hF.step hb
          clear hF
          have hF := n_
          clear n_
          refine hK.out _ _ ⟨(pw_cell_below hb hHeld.1), (pw_cell_below hb hHeld.2.1), (pw_cell_below hb hHeld.2.2.1), (pw_cell_below hb hHeld.2.2.2.1), (pw_cell_below hb hHeld.2.2.2.2.1), (pw_cell_below hb hHeld.2.2.2.2.2.1), (pw_cell_below hb hHeld.2.2.2.2.2.2.1), (pw_cell_below hb hHeld.2.2.2.2.2.2.2.1), (pw_cell_below hb hHeld.2.2.2.2.2.2.2.2.1), (pw_cell_below hb hHeld.2.2.2.2.2.2.2.2.2.1), (pw_cell_below hb hHeld.2.2.2.2.2.2.2.2.2.2.1), (pw_cell_below hb hHeld.2.2.2.2.2.2.2.2.2.2.2)⟩ (fun hHeld => ?_)
          clear hK K
          refine norm_ (a' := ?_) ?_ ?_
          rotate_left
          · show Act.put _ (some 99) _ = _
            simp only [Act.put, List.setIfInBounds_toArray, List.set_cons_zero, List.set_cons_succ, i64_w, i32_w]
            rfl
          refine pure_ (i := 17) (N := some 100) (v := ?_) (a' := ?_) #[true, true, true, true, true, true, true, true, true, true, true, true, true, true, true, true, true, true, false, false, false, false, false, false, false, false, false, false, false, false, false] rfl rfl (by kernel_rfl) (fun _ _ _ h => h) (Or.inl ⟨by rfl, ?_⟩) ?_ ?_
          rotate_left
          · intro w'
            go_simp
            with_reducible rfl
          rotate_left
          · simp only [Act.put, List.setIfInBounds_toArray, List.set_cons_zero, List.set_cons_succ, i64_w, i32_w]
            rfl
          refine pure_ (i := 18) (N := some 101) (v := ?_) (a' := ?_) #[true, true, true, true, true, true, true, true, true, true, true, true, true, true, true, true, true, true, true, false, false, false, false, false, false, false, false, false, false, false, false] rfl rfl (by kernel_rfl) (fun _ _ _ h => h) (Or.inl ⟨by rfl, ?_⟩) ?_ ?_
          rotate_left
          · intro w'
            go_simp
            with_reducible rfl
          rotate_left
          · simp only [Act.put, List.setIfInBounds_toArray, List.set_cons_zero, List.set_cons_succ, i64_w, i32_w]
            rfl
          refine take_ (i := 19) (N := some 102) (v := ?_) (a' := ?_) #[true, true, true, true, true, true, true, true, true, true, true, true, true, true, true, true, true, true, true, true, false, false, false, false, false, false, false, false, false, false, false] rfl rfl (by kernel_rfl) (fun _ _ _ h => h) (Or.inl ⟨by rfl, ?_⟩) hHeld ?_ ?_
          rotate_left
          · rintro w' ⟨s0, s1, s2, s3, s4, s5, s6, s7, s8, s9, s10, s11⟩
            go_simp
            with_reducible rfl
          rotate_left
          · simp only [Act.put, List.setIfInBounds_toArray, List.set_cons_zero, List.set_cons_succ, i64_w, i32_w]
            rfl
          refine take_ (i := 21) (N := some 104) (v := ?_) (a' := ?_) #[true, true, true, true, true, true, true, true, true, true, true, true, true, true, true, true, true, true, true, true, false, true, false, false, false, false, false, false, false, false, false] rfl rfl (by kernel_rfl) (fun _ _ _ h => h) (Or.inl ⟨by rfl, ?_⟩) hHeld ?_ ?_
          rotate_left
          · rintro w' ⟨s0, s1, s2, s3, s4, s5, s6, s7, s8, s9, s10, s11⟩
            go_simp
            with_reducible rfl
          rotate_left
          · simp only [Act.put, List.setIfInBounds_toArray, List.set_cons_zero, List.set_cons_succ, i64_w, i32_w]
            rfl
          refine take_ (i := 23) (N := some 106) (v := ?_) (a' := ?_) #[true, true, true, true, true, true, true, true, true, true, true, true, true, true, true, true, true, true, true, true, false, true, false, true, false, false, false, false, false, false, false] rfl rfl (by kernel_rfl) (fun _ _ _ h => h) (Or.inl ⟨by rfl, ?_⟩) hHeld ?_ ?_
          rotate_left
          · rintro w' ⟨s0, s1, s2, s3, s4, s5, s6, s7, s8, s9, s10, s11⟩
            go_simp
            with_reducible rfl
          rotate_left
          · simp only [Act.put, List.setIfInBounds_toArray, List.set_cons_zero, List.set_cons_succ, i64_w, i32_w]
            rfl
          refine join_ (σ := Nat) 5 #[true, true, true, true, true, true, true, true, true, true, true, true, true, true, true, true, true, true, true, true, true, true, true, true, true, true, false, false, false, false, false] (fun s => [(103, .int .i64 em), (105, .int .i64 el), (107, .slice (some ⟨s, 0, none⟩) 1 1), (108, .agg #[.int .i64 0, .int .i64 0, .int .i64 0, .slice (some ⟨s, 0, none⟩) 1 1])]) (EdF w7.drew [.string r.f0, .slice A1 r.f1.length c1, .slice A2 r.f2.length c2, .string r.f3] true) ?_ ?_
          rotate_left
          · intro hJ20_22_24
            refine join_ (σ := Nat) 7 #[true, true, true, true, true, true, true, true, true, true, true, true, true, true, true, true, true, true, true, true, true, true, true, true, false, false, false, false, false, false, false] (fun s => [(103, .int .i64 em), (105, .int .i64 el)]) (EdF w7.drew [.string r.f0, .slice A1 r.f1.length c1, .slice A2 r.f2.length c2, .string r.f3] false) ?_ ?_
            rotate_left
            · intro hJ20_22
              refine join_ (σ := Nat) 6 #[true, true, true, true, true, true, true, true, true, true, true, true, true, true, true, true, true, true, true, true, true, true, false, true, true, true, false, false, false, false, false] (fun s => [(103, .int .i64 em), (107, .slice (some ⟨s, 0, none⟩) 1 1), (108, .agg #[.int .i64 0, .int .i64 0, .int .i64 0, .slice (some ⟨s, 0, none⟩) 1 1])]) (EdF w7.drew [.string r.f0, .slice A1 r.f1.length c1, .slice A2 r.f2.length c2, .string r.f3] true) ?_ ?_
              rotate_left
              · intro hJ20_24
                refine join_ (σ := Nat) 8 #[true, true, true, true, true, true, true, true, true, true, true, true, true, true, true, true, true, true, true, true, true, true, false, true, false, false, false, false, false, false, false] (fun s => [(103, .int .i64 em)]) (EdF w7.drew [.string r.f0, .slice A1 r.f1.length c1, .slice A2 r.f2.length c2, .string r.f3] false) ?_ ?_
                rotate_left
                · intro hJ20
                  refine join_ (σ := Nat) 7 #[true, true, true, true, true, true, true, true, true, true, true, true, true, true, true, true, true, true, true, true, false, true, false, true, true, true, false, false, false, false, false] (fun s => [(107, .slice (some ⟨s, 0, none⟩) 1 1), (108, .agg #[.int .i64 0, .int .i64 0, .int .i64 0, .slice (some ⟨s, 0, none⟩) 1 1])]) (EdF w7.drew [.string r.f0, .slice A1 r.f1.length c1, .slice A2 r.f2.length c2, .string r.f3] true) ?_ ?_
                  rotate_left
                  · intro hJ24
                    refine two_ (i := 20) (j := 24) (Ni := some 103) (Nj := some 107) #[true, true, true, true, true, true, true, true, true, true, true, true, true, true, true, true, true, true, true, true, true, true, false, true, false, false, false, false, false, false, false] #[true, true, true, true, true, true, true, true, true, true, true, true, true, true, true, true, true, true, true, true, false, true, false, true, true, false, false, false, false, false, false] rfl rfl rfl rfl (by kernel_rfl) (by decide) (by decide) (fun K hK => ?_) (fun K hK => ?_)
                    · skip
                      refine goes_ Tryd.func14 (by kernel_rfl) rfl #[.agg #[.int .i64 i, .int .i64 q, .int .i64 m, .slice B (l.length + 1) d]] (by rfl) rfl rfl (by first | (simp only [List.map_toArray, List.map_cons, List.map_nil]; done) | (simp only [List.map_toArray, List.map_cons, List.map_nil]; rfl)) ?_
                      with_reducible refine (HEm.out _ hF.b).mono ?_
                      rintro e_ w1 ⟨rfl, hb⟩
                      refine ⟨_, rfl, ?_⟩
                      have hN := hF.step hb
                      clear hb
                      refine hK.out _ _ ⟨(pw_cell_below (hN).b u0), (pw_cell_below (hN).b u1), (pw_cell_below (hN).b u2), (pw_cell_below (hN).b u3), (pw_cell_below (hN).b u4), (pw_cell_below (hN).b u5), (pw_cell_below (hN).b u6), (pw_cell_below (hN).b u7), (pw_cell_below (hN).b u8), (pw_cell_below (hN).b u9), (pw_cell_below (hN).b u10), (pw_cell_below (hN).b u11)⟩ (fun hHeld => ?_)
                      clear hK K
                      refine norm_ (a' := ?_) ?_ ?_
                      rotate_left
                      · show Act.put _ (some 103) _ = _
                        simp only [Act.put, List.setIfInBounds_toArray, List.set_cons_zero, List.set_cons_succ, i64_w, i32_w]
                        rfl
                      exact norm_ (by first | (simp only [putAll, Act.put, List.setIfInBounds_toArray, List.set_cons_zero, List.set_cons_succ]; done) | (simp only [putAll, Act.put, List.setIfInBounds_toArray, List.set_cons_zero, List.set_cons_succ]; rfl)) (hJ20 _ _ hN)
                    · skip
                      refine value_ (w1 := ?_) (v := ?_) (by rfl) rfl ?_ ?_
                      rotate_left 2
                      · go_simp
                        constructor
                        · rfl
                        · rfl
                      refine hK.out _ _ ⟨(pw_cell_below (hF.s24).b u0), (pw_cell_below (hF.s24).b u1), (pw_cell_below (hF.s24).b u2), (pw_cell_below (hF.s24).b u3), (pw_cell_below (hF.s24).b u4), (pw_cell_below (hF.s24).b u5), (pw_cell_below (hF.s24).b u6), (pw_cell_below (hF.s24).b u7), (pw_cell_below (hF.s24).b u8), (pw_cell_below (hF.s24).b u9), (pw_cell_below (hF.s24).b u10), (pw_cell_below (hF.s24).b u11)⟩ (fun hHeld => ?_)
                      clear hK K
                      refine norm_ (a' := ?_) ?_ ?_
                      rotate_left
                      · show Act.put _ (some 107) _ = _
                        simp only [Act.put, List.setIfInBounds_toArray, List.set_cons_zero, List.set_cons_succ, i64_w, i32_w]
                        rfl
                      refine pure_ (i := 25) (N := some 108) (v := ?_) (a' := ?_) #[true, true, true, true, true, true, true, true, true, true, true, true, true, true, true, true, true, true, true, true, false, true, false, true, true, true, false, false, false, false, false] rfl rfl (by kernel_rfl) (fun _ _ _ h => h) (Or.inl ⟨by rfl, ?_⟩) ?_ ?_
                      rotate_left
                      · intro w'
                        go_simp
                        with_reducible rfl
                      rotate_left
                      · simp only [Act.put, List.setIfInBounds_toArray, List.set_cons_zero, List.set_cons_succ, i64_w, i32_w]
                        rfl
                      exact norm_ (by first | (simp only [putAll, Act.put, List.setIfInBounds_toArray, List.set_cons_zero, List.set_cons_succ]; done) | (simp only [putAll, Act.put, List.setIfInBounds_toArray, List.set_cons_zero, List.set_cons_succ]; rfl)) (hJ24 _ _ hF.s24)
                  · skip
                    rintro s w_ hF
                    have hHeld : w_.cell? ⟨w.heap.size, 0, none⟩ = some (.int .i64 i) ∧ w_.cell? ⟨w.heap.size, 1, none⟩ = some (.int .i64 q) ∧ w_.cell? ⟨w.heap.size, 2, none⟩ = some (.int .i64 m) ∧ w_.cell? ⟨w.heap.size, 3, none⟩ = some (.slice A l.length c) ∧ w_.cell? ⟨w.heap.size + 1, 0, none⟩ = some (.string r.f0) ∧ w_.cell? ⟨w.heap.size + 1, 1, none⟩ = some (.slice A1 r.f1.length c1) ∧ w_.cell? ⟨w.heap.size + 1, 2, none⟩ = some (.slice A2 r.f2.length c2) ∧ w_.cell? ⟨w.heap.size + 1, 3, none⟩ = some (.string r.f3) ∧ w_.cell? ⟨g14, 0, none⟩ = some (.int .i64 i) ∧ w_.cell? ⟨g14, 1, none⟩ = some (.int .i64 q) ∧ w_.cell? ⟨g14, 2, none⟩ = some (.int .i64 m) ∧ w_.cell? ⟨g14, 3, none⟩ = some (.slice B (l.length + 1) d) := ⟨(pw_cell_below (hF).b u0), (pw_cell_below (hF).b u1), (pw_cell_below (hF).b u2), (pw_cell_below (hF).b u3), (pw_cell_below (hF).b u4), (pw_cell_below (hF).b u5), (pw_cell_below (hF).b u6), (pw_cell_below (hF).b u7), (pw_cell_below (hF).b u8), (pw_cell_below (hF).b u9), (pw_cell_below (hF).b u10), (pw_cell_below (hF).b u11)⟩
                    refine norm_ (a' := ?_) ?_ ?_
                    rotate_left
                    · simp only [putAll, Act.put, List.setIfInBounds_toArray, List.set_cons_zero, List.set_cons_succ]
                      rfl
                    refine one_ (i := 20) (N := some 103) #[true, true, true, true, true, true, true, true, true, true, true, true, true, true, true, true, true, true, true, true, true, true, false, true, true, true, false, false, false, false, false] rfl rfl (by kernel_rfl) (by decide) (fun K hK => ?_)
                    refine goes_ Tryd.func14 (by kernel_rfl) rfl #[.agg #[.int .i64 i, .int .i64 q, .int .i64 m, .slice B (l.length + 1) d]] (by rfl) rfl rfl (by first | (simp only [List.map_toArray, List.map_cons, List.map_nil]; done) | (simp only [List.map_toArray, List.map_cons, List.map_nil]; rfl)) ?_
                    with_reducible refine (HEm.out _ hF.b).mono ?_
                    rintro e_ w1 ⟨rfl, hb⟩
                    refine ⟨_, rfl, ?_⟩
                    have hN := hF.step hb
                    clear hb
                    refine hK.out _ _ ⟨(pw_cell_below (hN).b u0), (pw_cell_below (hN).b u1), (pw_cell_below (hN).b u2), (pw_cell_below (hN).b u3), (pw_cell_below (hN).b u4), (pw_cell_below (hN).b u5), (pw_cell_below (hN).b u6), (pw_cell_below (hN).b u7), (pw_cell_below (hN).b u8), (pw_cell_below (hN).b u9), (pw_cell_below (hN).b u10), (pw_cell_below (hN).b u11)⟩ (fun hHeld => ?_)
                    clear hK K
                    refine norm_ (a' := ?_) ?_ ?_
                    rotate_left
                    · show Act.put _ (some 103) _ = _
                      simp only [Act.put, List.setIfInBounds_toArray, List.set_cons_zero, List.set_cons_succ, i64_w, i32_w]
                      rfl
                    exact norm_ (by first | (simp only [putAll, Act.put, List.setIfInBounds_toArray, List.set_cons_zero, List.set_cons_succ]; done) | (simp only [putAll, Act.put, List.setIfInBounds_toArray, List.set_cons_zero, List.set_cons_succ]; rfl)) (hJ20_24 _ _ hN)
                · skip
                  rintro s w_ hF
                  have hHeld : w_.cell? ⟨w.heap.size, 0, none⟩ = some (.int .i64 i) ∧ w_.cell? ⟨w.heap.size, 1, none⟩ = some (.int .i64 q) ∧ w_.cell? ⟨w.heap.size, 2, none⟩ = some (.int .i64 m) ∧ w_.cell? ⟨w.heap.size, 3, none⟩ = some (.slice A l.length c) ∧ w_.cell? ⟨w.heap.size + 1, 0, none⟩ = some (.string r.f0) ∧ w_.cell? ⟨w.heap.size + 1, 1, none⟩ = some (.slice A1 r.f1.length c1) ∧ w_.cell? ⟨w.heap.size + 1, 2, none⟩ = some (.slice A2 r.f2.length c2) ∧ w_.cell? ⟨w.heap.size + 1, 3, none⟩ = some (.string r.f3) ∧ w_.cell? ⟨g14, 0, none⟩ = some (.int .i64 i) ∧ w_.cell? ⟨g14, 1, none⟩ = some (.int .i64 q) ∧ w_.cell? ⟨g14, 2, none⟩ = some (.int .i64 m) ∧ w_.cell? ⟨g14, 3, none⟩ = some (.slice B (l.length + 1) d) := ⟨(pw_cell_below (hF).b u0), (pw_cell_below (hF).b u1), (pw_cell_below (hF).b u2), (pw_cell_below (hF).b u3), (pw_cell_below (hF).b u4), (pw_cell_below (hF).b u5), (pw_cell_below (hF).b u6), (pw_cell_below (hF).b u7), (pw_cell_below (hF).b u8), (pw_cell_below (hF).b u9), (pw_cell_below (hF).b u10), (pw_cell_below (hF).b u11)⟩
                  refine norm_ (a' := ?_) ?_ ?_
                  rotate_left
                  · simp only [putAll, Act.put, List.setIfInBounds_toArray, List.set_cons_zero, List.set_cons_succ]
                    rfl
                  refine two_ (i := 22) (j := 24) (Ni := some 105) (Nj := some 107) #[true, true, true, true, true, true, true, true, true, true, true, true, true, true, true, true, true, true, true, true, true, true, true, true, false, false, false, false, false, false, false] #[true, true, true, true, true, true, true, true, true, true, true, true, true, true, true, true, true, true, true, true, true, true, false, true, true, false, false, false, false, false, false] rfl rfl rfl rfl (by kernel_rfl) (by decide) (by decide) (fun K hK => ?_) (fun K hK => ?_)
                  · skip
                    refine goes_ Tryd.func14 (by kernel_rfl) rfl #[.agg #[.int .i64 i, .int .i64 q, .int .i64 m, .slice A l.length c]] (by rfl) rfl rfl (by first | (simp only [List.map_toArray, List.map_cons, List.map_nil]; done) | (simp only [List.map_toArray, List.map_cons, List.map_nil]; rfl)) ?_
                    with_reducible refine (HEl.out _ hF.b).mono ?_
                    rintro e_ w1 ⟨rfl, hb⟩
                    refine ⟨_, rfl, ?_⟩
                    have hN := hF.step hb
                    clear hb
                    refine hK.out _ _ ⟨(pw_cell_below (hN).b u0), (pw_cell_below (hN).b u1), (pw_cell_below (hN).b u2), (pw_cell_below (hN).b u3), (pw_cell_below (hN).b u4), (pw_cell_below (hN).b u5), (pw_cell_below (hN).b u6), (pw_cell_below (hN).b u7), (pw_cell_below (hN).b u8), (pw_cell_below (hN).b u9), (pw_cell_below (hN).b u10), (pw_cell_below (hN).b u11)⟩ (fun hHeld => ?_)
                    clear hK K
                    refine norm_ (a' := ?_) ?_ ?_
                    rotate_left
                    · show Act.put _ (some 105) _ = _
                      simp only [Act.put, List.setIfInBounds_toArray, List.set_cons_zero, List.set_cons_succ, i64_w, i32_w]
                      rfl
                    exact norm_ (by first | (simp only [putAll, Act.put, List.setIfInBounds_toArray, List.set_cons_zero, List.set_cons_succ]; done) | (simp only [putAll, Act.put, List.setIfInBounds_toArray, List.set_cons_zero, List.set_cons_succ]; rfl)) (hJ20_22 _ _ hN)
                  · skip
                    refine value_ (w1 := ?_) (v := ?_) (by rfl) rfl ?_ ?_
                    rotate_left 2
                    · go_simp
                      constructor
                      · rfl
                      · rfl
                    refine hK.out _ _ ⟨(pw_cell_below (hF.s24).b u0), (pw_cell_below (hF.s24).b u1), (pw_cell_below (hF.s24).b u2), (pw_cell_below (hF.s24).b u3), (pw_cell_below (hF.s24).b u4), (pw_cell_below (hF.s24).b u5), (pw_cell_below (hF.s24).b u6), (pw_cell_below (hF.s24).b u7), (pw_cell_below (hF.s24).b u8), (pw_cell_below (hF.s24).b u9), (pw_cell_below (hF.s24).b u10), (pw_cell_below (hF.s24).b u11)⟩ (fun hHeld => ?_)
                    clear hK K
                    refine norm_ (a' := ?_) ?_ ?_
                    rotate_left
                    · show Act.put _ (some 107) _ = _
                      simp only [Act.put, List.setIfInBounds_toArray, List.set_cons_zero, List.set_cons_succ, i64_w, i32_w]
                      rfl
                    refine pure_ (i := 25) (N := some 108) (v := ?_) (a' := ?_) #[true, true, true, true, true, true, true, true, true, true, true, true, true, true, true, true, true, true, true, true, true, true, false, true, true, true, false, false, false, false, false] rfl rfl (by kernel_rfl) (fun _ _ _ h => h) (Or.inl ⟨by rfl, ?_⟩) ?_ ?_
                    rotate_left
                    · intro w'
                      go_simp
                      with_reducible rfl
                    rotate_left
                    · simp only [Act.put, List.setIfInBounds_toArray, List.set_cons_zero, List.set_cons_succ, i64_w, i32_w]
                      rfl
                    exact norm_ (by first | (simp only [putAll, Act.put, List.setIfInBounds_toArray, List.set_cons_zero, List.set_cons_succ]; done) | (simp only [putAll, Act.put, List.setIfInBounds_toArray, List.set_cons_zero, List.set_cons_succ]; rfl)) (hJ20_24 _ _ hF.s24)
              · skip
                rintro s w_ hF
                have hHeld : w_.cell? ⟨w.heap.size, 0, none⟩ = some (.int .i64 i) ∧ w_.cell? ⟨w.heap.size, 1, none⟩ = some (.int .i64 q) ∧ w_.cell? ⟨w.heap.size, 2, none⟩ = some (.int .i64 m) ∧ w_.cell? ⟨w.heap.size, 3, none⟩ = some (.slice A l.length c) ∧ w_.cell? ⟨w.heap.size + 1, 0, none⟩ = some (.string r.f0) ∧ w_.cell? ⟨w.heap.size + 1, 1, none⟩ = some (.slice A1 r.f1.length c1) ∧ w_.cell? ⟨w.heap.size + 1, 2, none⟩ = some (.slice A2 r.f2.length c2) ∧ w_.cell? ⟨w.heap.size + 1, 3, none⟩ = some (.string r.f3) ∧ w_.cell? ⟨g14, 0, none⟩ = some (.int .i64 i) ∧ w_.cell? ⟨g14, 1, none⟩ = some (.int .i64 q) ∧ w_.cell? ⟨g14, 2, none⟩ = some (.int .i64 m) ∧ w_.cell? ⟨g14, 3, none⟩ = some (.slice B (l.length + 1) d) := ⟨(pw_cell_below (hF).b u0), (pw_cell_below (hF).b u1), (pw_cell_below (hF).b u2), (pw_cell_below (hF).b u3), (pw_cell_below (hF).b u4), (pw_cell_below (hF).b u5), (pw_cell_below (hF).b u6), (pw_cell_below (hF).b u7), (pw_cell_below (hF).b u8), (pw_cell_below (hF).b u9), (pw_cell_below (hF).b u10), (pw_cell_below (hF).b u11)⟩
                refine norm_ (a' := ?_) ?_ ?_
                rotate_left
                · simp only [putAll, Act.put, List.setIfInBounds_toArray, List.set_cons_zero, List.set_cons_succ]
                  rfl
                refine one_ (i := 22) (N := some 105) #[true, true, true, true, true, true, true, true, true, true, true, true, true, true, true, true, true, true, true, true, true, true, true, true, true, true, false, false, false, false, false] rfl rfl (by kernel_rfl) (by decide) (fun K hK => ?_)
                refine goes_ Tryd.func14 (by kernel_rfl) rfl #[.agg #[.int .i64 i, .int .i64 q, .int .i64 m, .slice A l.length c]] (by rfl) rfl rfl (by first | (simp only [List.map_toArray, List.map_cons, List.map_nil]; done) | (simp only [List.map_toArray, List.map_cons, List.map_nil]; rfl)) ?_
                with_reducible refine (HEl.out _ hF.b).mono ?_
                rintro e_ w1 ⟨rfl, hb⟩
                refine ⟨_, rfl, ?_⟩
                have hN := hF.step hb
                clear hb
                refine hK.out _ _ ⟨(pw_cell_below (hN).b u0), (pw_cell_below (hN).b u1), (pw_cell_below (hN).b u2), (pw_cell_below (hN).b u3), (pw_cell_below (hN).b u4), (pw_cell_below (hN).b u5), (pw_cell_below (hN).b u6), (pw_cell_below (hN).b u7), (pw_cell_below (hN).b u8), (pw_cell_below (hN).b u9), (pw_cell_below (hN).b u10), (pw_cell_below (hN).b u11)⟩ (fun hHeld => ?_)
                clear hK K
                refine norm_ (a' := ?_) ?_ ?_
                rotate_left
                · show Act.put _ (some 105) _ = _
                  simp only [Act.put, List.setIfInBounds_toArray, List.set_cons_zero, List.set_cons_succ, i64_w, i32_w]
                  rfl
                exact norm_ (by first | (simp only [putAll, Act.put, List.setIfInBounds_toArray, List.set_cons_zero, List.set_cons_succ]; done) | (simp only [putAll, Act.put, List.setIfInBounds_toArray, List.set_cons_zero, List.set_cons_succ]; rfl)) (hJ20_22_24 _ _ hN)
            · skip
              rintro s w_ hF
              have hHeld : w_.cell? ⟨w.heap.size, 0, none⟩ = some (.int .i64 i) ∧ w_.cell? ⟨w.heap.size, 1, none⟩ = some (.int .i64 q) ∧ w_.cell? ⟨w.heap.size, 2, none⟩ = some (.int .i64 m) ∧ w_.cell? ⟨w.heap.size, 3, none⟩ = some (.slice A l.length c) ∧ w_.cell? ⟨w.heap.size + 1, 0, none⟩ = some (.string r.f0) ∧ w_.cell? ⟨w.heap.size + 1, 1, none⟩ = some (.slice A1 r.f1.length c1) ∧ w_.cell? ⟨w.heap.size + 1, 2, none⟩ = some (.slice A2 r.f2.length c2) ∧ w_.cell? ⟨w.heap.size + 1, 3, none⟩ = some (.string r.f3) ∧ w_.cell? ⟨g14, 0, none⟩ = some (.int .i64 i) ∧ w_.cell? ⟨g14, 1, none⟩ = some (.int .i64 q) ∧ w_.cell? ⟨g14, 2, none⟩ = some (.int .i64 m) ∧ w_.cell? ⟨g14, 3, none⟩ = some (.slice B (l.length + 1) d) := ⟨(pw_cell_below (hF).b u0), (pw_cell_below (hF).b u1), (pw_cell_below (hF).b u2), (pw_cell_below (hF).b u3), (pw_cell_below (hF).b u4), (pw_cell_below (hF).b u5), (pw_cell_below (hF).b u6), (pw_cell_below (hF).b u7), (pw_cell_below (hF).b u8), (pw_cell_below (hF).b u9), (pw_cell_below (hF).b u10), (pw_cell_below (hF).b u11)⟩
              refine norm_ (a' := ?_) ?_ ?_
              rotate_left
              · simp only [putAll, Act.put, List.setIfInBounds_toArray, List.set_cons_zero, List.set_cons_succ]
                rfl
              refine one_ (i := 24) (N := some 107) #[true, true, true, true, true, true, true, true, true, true, true, true, true, true, true, true, true, true, true, true, true, true, true, true, true, false, false, false, false, false, false] rfl rfl (by kernel_rfl) (by decide) (fun K hK => ?_)
              refine value_ (w1 := ?_) (v := ?_) (by rfl) rfl ?_ ?_
              rotate_left 2
              · go_simp
                constructor
                · rfl
                · rfl
              refine hK.out _ _ ⟨(pw_cell_below (hF.s24).b u0), (pw_cell_below (hF.s24).b u1), (pw_cell_below (hF.s24).b u2), (pw_cell_below (hF.s24).b u3), (pw_cell_below (hF.s24).b u4), (pw_cell_below (hF.s24).b u5), (pw_cell_below (hF.s24).b u6), (pw_cell_below (hF.s24).b u7), (pw_cell_below (hF.s24).b u8), (pw_cell_below (hF.s24).b u9), (pw_cell_below (hF.s24).b u10), (pw_cell_below (hF.s24).b u11)⟩ (fun hHeld => ?_)
              clear hK K
              refine norm_ (a' := ?_) ?_ ?_
              rotate_left
              · show Act.put _ (some 107) _ = _
                simp only [Act.put, List.setIfInBounds_toArray, List.set_cons_zero, List.set_cons_succ, i64_w, i32_w]
                rfl
              refine pure_ (i := 25) (N := some 108) (v := ?_) (a' := ?_) #[true, true, true, true, true, true, true, true, true, true, true, true, true, true, true, true, true, true, true, true, true, true, true, true, true, true, false, false, false, false, false] rfl rfl (by kernel_rfl) (fun _ _ _ h => h) (Or.inl ⟨by rfl, ?_⟩) ?_ ?_
              rotate_left
              · intro w'
                go_simp
                with_reducible rfl
              rotate_left
              · simp only [Act.put, List.setIfInBounds_toArray, List.set_cons_zero, List.set_cons_succ, i64_w, i32_w]
                rfl
              exact norm_ (by first | (simp only [putAll, Act.put, List.setIfInBounds_toArray, List.set_cons_zero, List.set_cons_succ]; done) | (simp only [putAll, Act.put, List.setIfInBounds_toArray, List.set_cons_zero, List.set_cons_succ]; rfl)) (hJ20_22_24 _ _ hF.s24)
          rintro s w_ hF
          have hHeld : w_.cell? ⟨w.heap.size, 0, none⟩ = some (.int .i64 i) ∧ w_.cell? ⟨w.heap.size, 1, none⟩ = some (.int .i64 q) ∧ w_.cell? ⟨w.heap.size, 2, none⟩ = some (.int .i64 m) ∧ w_.cell? ⟨w.heap.size, 3, none⟩ = some (.slice A l.length c) ∧ w_.cell? ⟨w.heap.size + 1, 0, none⟩ = some (.string r.f0) ∧ w_.cell? ⟨w.heap.size + 1, 1, none⟩ = some (.slice A1 r.f1.length c1) ∧ w_.cell? ⟨w.heap.size + 1, 2, none⟩ = some (.slice A2 r.f2.length c2) ∧ w_.cell? ⟨w.heap.size + 1, 3, none⟩ = some (.string r.f3) ∧ w_.cell? ⟨g14, 0, none⟩ = some (.int .i64 i) ∧ w_.cell? ⟨g14, 1, none⟩ = some (.int .i64 q) ∧ w_.cell? ⟨g14, 2, none⟩ = some (.int .i64 m) ∧ w_.cell? ⟨g14, 3, none⟩ = some (.slice B (l.length + 1) d) := ⟨(pw_cell_below (hF).b u0), (pw_cell_below (hF).b u1), (pw_cell_below (hF).b u2), (pw_cell_below (hF).b u3), (pw_cell_below (hF).b u4), (pw_cell_below (hF).b u5), (pw_cell_below (hF).b u6), (pw_cell_below (hF).b u7), (pw_cell_below (hF).b u8), (pw_cell_below (hF).b u9), (pw_cell_below (hF).b u10), (pw_cell_below (hF).b u11)⟩
          refine norm_ (a' := ?_) ?_ ?_
          rotate_left
          · simp only [putAll, Act.put, List.setIfInBounds_toArray, List.set_cons_zero, List.set_cons_succ]
            rfl
          refine one_ (i := 26) (N := some 109) #[true, true, true, true, true, true, true, true, true, true, true, true, true, true, true, true, true, true, true, true, true, true, true, true, true, true, true, false, false, false, false] rfl rfl (by kernel_rfl) (by decide) (fun K hK => ?_)
          refine goes_ Tryd.func14 (by kernel_rfl) rfl #[.agg #[.int .i64 0, .int .i64 0, .int .i64 0, .slice (some ⟨s, 0, none⟩) 1 1]] (by rfl) rfl rfl (by first | (simp only [List.map_toArray, List.map_cons, List.map_nil]; done) | (simp only [List.map_toArray, List.map_cons, List.map_nil]; rfl)) ?_
          with_reducible refine (HE1.out w_ s (row_oneC rfl (kRung.K_below hF.b HK.out) (hF.x rfl))).mono ?_
          rintro e_ w1 ⟨rfl, hb⟩
          refine ⟨_, rfl, ?_⟩
          have hN := hF.step hb
          clear hb
          refine hK.out _ _ ⟨(pw_cell_below (hN).b u0), (pw_cell_below (hN).b u1), (pw_cell_below (hN).b u2), (pw_cell_below (hN).b u3), (pw_cell_below (hN).b u4), (pw_cell_below (hN).b u5), (pw_cell_below (hN).b u6), (pw_cell_below (hN).b u7), (pw_cell_below (hN).b u8), (pw_cell_below (hN).b u9), (pw_cell_below (hN).b u10), (pw_cell_below (hN).b u11)⟩ (fun hHeld => ?_)
          clear hK K
          refine norm_ (a' := ?_) ?_ ?_
          rotate_left
          · show Act.put _ (some 109) _ = _
            simp only [Act.put, List.setIfInBounds_toArray, List.set_cons_zero, List.set_cons_succ, i64_w, i32_w]
            rfl
          refine pure_ (i := 27) (N := some 110) (v := ?_) (a' := ?_) #[true, true, true, true, true, true, true, true, true, true, true, true, true, true, true, true, true, true, true, true, true, true, true, true, true, true, true, true, false, false, false] rfl rfl (by kernel_rfl) (fun _ _ _ h => h) (Or.inl ⟨by rfl, ?_⟩) ?_ ?_
          rotate_left
          · intro w'
            go_simp
            with_reducible rfl
          rotate_left
          · simp only [Act.put, List.setIfInBounds_toArray, List.set_cons_zero, List.set_cons_succ, i64_w, i32_w]
            rfl
          refine pure_ (i := 28) (N := some 111) (v := ?_) (a' := ?_) #[true, true, true, true, true, true, true, true, true, true, true, true, true, true, true, true, true, true, true, true, true, true, true, true, true, true, true, true, true, false, false] rfl rfl (by kernel_rfl) (fun _ _ _ h => h) (Or.inl ⟨by rfl, ?_⟩) ?_ ?_
          rotate_left
          · intro w'
            go_simp
            with_reducible rfl
          rotate_left
          · simp only [Act.put, List.setIfInBounds_toArray, List.set_cons_zero, List.set_cons_succ, i64_w, i32_w]
            rfl
          refine pure_ (i := 29) (N := some 112) (v := ?_) (a' := ?_) #[true, true, true, true, true, true, true, true, true, true, true, true, true, true, true, true, true, true, true, true, true, true, true, true, true, true, true, true, true, true, false] rfl rfl (by kernel_rfl) (fun _ _ _ h => h) (Or.inl ⟨by rfl, ?_⟩) ?_ ?_
          rotate_left
          · intro w'
            go_simp
            with_reducible rfl
          rotate_left
          · simp only [Act.put, List.setIfInBounds_toArray, List.set_cons_zero, List.set_cons_succ, i64_w, i32_w]
            rfl
          refine pure_ (i := 30) (N := some 4) (v := ?_) (a' := ?_) #[true, true, true, true, true, true, true, true, true, true, true, true, true, true, true, true, true, true, true, true, true, true, true, true, true, true, true, true, true, true, true] rfl rfl (by kernel_rfl) (fun _ _ _ h => h) (Or.inl ⟨by rfl, ?_⟩) ?_ ?_
          rotate_left
          · intro w'
            go_simp
            with_reducible rfl
          rotate_left
          · simp only [Act.put, List.setIfInBounds_toArray, List.set_cons_zero, List.set_cons_succ, i64_w, i32_w]
            rfl
          refine done_ (by kernel_rfl) ?_
          go_wp2
          go_ret
          exact ⟨by simp [HM.out], below_step hw7.out hN.b⟩
        · obtain ⟨rfl, hcase⟩ := HL1.out huf
          clear HL1 HL2
          go_wp2_with fail
          refine (HAl.out _ (below_step F5.out.b B7.out)).mono ?_
          rintro e w8 ⟨rfl, hb⟩
          have FB := below_step (below_step F5.out.b B7.out) hb
          have F8 := F5.out.below (below_step B7.out hb)
          clear hb u0 u1 u2 u3 u4 u5 u6 u7
          obtain ⟨u0, u1, u2, u3, u4, u5, u6, u7⟩ := F8.cells
          clear F8
          rcases hcase with ⟨rfl, h0, h1⟩ | rfl
          · go_wp2
            go_ret
            exact ⟨rfl, FB⟩
          · by_cases hce : ce = 7
            · by_cases h0 : 0 ≤ cn
              · by_cases h1 : cn ≤ l.length
                · go_wp2
                  go_ret
                  exact ⟨rfl, FB⟩
                · go_wp2
                  go_ret
                  exact ⟨rfl, FB⟩
              · go_wp2
                go_ret
                exact ⟨rfl, FB⟩
            · go_wp2
              go_ret
              exact ⟨rfl, FB⟩
    · go_wp2_with fail
      refine (HAl.out _ F2.out.b).mono ?_
      rintro e w3 ⟨rfl, hb⟩
      have FB := below_step F2.out.b hb
      go_wp2
      go_ret
      exact ⟨rfl, FB⟩
end Go.Proofs.YtolmkdhgnganaaaDoor.H
