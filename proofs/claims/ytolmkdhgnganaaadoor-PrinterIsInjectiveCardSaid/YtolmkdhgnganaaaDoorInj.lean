/-
  'busbarlaw11.PrinterIsInjective' answers true.
-/
import Derived.Test.YtolmkdhgnganaaaDoorInjLaw
import Derived.Test.YtolmkdhgnganaaaDoorInjMem
import Derived.Test.YtolmkdhgnganaaaDoorAl
import Derived.Deep.DeepCutAuto
import Derived.Deep.CutBlock
set_option linter.unusedVariables false
set_option linter.unusedSimpArgs false
namespace Go.Proofs.YtolmkdhgnganaaaDoor.H
open Go Go.RowKit Go.Proofs Go.Proofs.YtolmkdhgnganaaaDoorW.PrintWords Go.Proofs.YtolmkdhgnganaaaDoorW.PrintLast Go.Proofs.YtolmkdhgnganaaaDoorW.PrintMore Go.Proofs.YtolmkdhgnganaaaDoor.Sp
theorem take_rd {l : List Rung} {k : Int} (h0 : 0 ≤ k) (h1 : k < l.length) : l.take (k + 1).toNat = l.take k.toNat ++ [rdR l k] := by
  have hn : k.toNat < l.length := by omega
  have e : (k + 1).toNat = k.toNat + 1 := by omega
  rw [e, List.take_add_one, List.getElem?_eq_getElem hn]
  simp [PPrinterMatchesReference.rd_T40, List.getD, hn]
set_option maxHeartbeats 4000000 in
set_option maxRecDepth 100000 in
theorem inj_b (i q m : Int) (A : Option Addr) (c : Nat) (l : List Rung) (a0 a1 which : Int) (w : World) (h1 : Kd.C kRung w A l.length l) (hc1 : l.length ≤ c)
    (ha0 : 0 ≤ a0 ∧ a0 ≤ 255) (ha1 : 0 ≤ a1 ∧ a1 ≤ 255) (hwh : 0 ≤ which ∧ which ≤ 255) (hlt : Lets w) (hpw : Pows w) (hkw : Kws w) :
    Calls Tryd.prog 5 #[.agg #[.int .i64 i, .int .i64 q, .int .i64 m, .slice A l.length c], .agg #[.int .u8 a0, .int .u8 a1], .int .u8 which] w (RetB w (.bool true)) := by
  have HT := Aside0.mk (fun W (hW : Below w.heap.size w W) => large_b i q m A c l W (Kd.C_below h1 hW) hc1)
  have HAl := Aside0.mk (fun W (hW : Below w.heap.size w W) => alive11_b W (hlt.below hW) (hpw.below hW) (hkw.below hW))
  have HPr := Aside0.mk (fun W (hW : Below w.heap.size w W) => print_b i q m A c l W (Kd.C_below h1 hW) hc1 (hlt.below hW) (hpw.below hW) (hkw.below hW))
  have HPm := Aside0.mk (fun i' l' W B d (hC : Kd.C kRung W B l'.length l') (hd : l'.length ≤ d) (hW : Below w.heap.size w W) => print_b i' q m B d l' W hC hd (hlt.below hW) (hpw.below hW) (hkw.below hW))
  have HEq := Aside0.mk (fun i' l' W B d (hC : Kd.C kRung W B l'.length l') (hd : l'.length ≤ d) (hW : Below w.heap.size w W) => equal_b i q m A c l i' q m B d l' W (Kd.C_below h1 hW) hC hc1 hd)
  have HLaw := Aside0.mk (fun h i' l' hc => inj_law (i := i) (q := q) (m := m) (l := l) h (i' := i') (l' := l') hc)
  have HN : Aside0 ((ladPrint i q m l).2 = 0 → OkLad i q m l) := ⟨fun h => (ladChk_okLad (ladPrint_ok h).1).1⟩
  have HC0 := Aside0.mk h1
  have hmax := Kd.C_max h1
  clear h1 hlt hpw hkw
  generalize hp1 : (ladPrint i q m l).1 = pt at HPr HLaw
  generalize hp2 : (ladPrint i q m l).2 = pe at HPr HLaw HN
  clear hp1 hp2
  have HW0 : Aside0 (Below w.heap.size w ((w.alloc (.cells #[.int .i64 i, .int .i64 q, .int .i64 m, .slice A l.length c] 24)).alloc (.cells #[.int .u8 a0, .int .u8 a1] 43))) := ⟨below_alloc (below_alloc (Below.refl _ _) _) _⟩
  have KA := Aside0.mk (blk_alloc (blk_new w (.cells #[.int .i64 i, .int .i64 q, .int .i64 m, .slice A l.length c] 24)) (.cells #[.int .u8 a0, .int .u8 a1] 43))
  have KB : Aside0 (((w.alloc (.cells #[.int .i64 i, .int .i64 q, .int .i64 m, .slice A l.length c] 24)).alloc (.cells #[.int .u8 a0, .int .u8 a1] 43)).heap[w.heap.size + 1]? = some (.cells #[.int .u8 a0, .int .u8 a1] 43 (0, 0))) :=
    ⟨by have := blk_new (w.alloc (.cells #[.int .i64 i, .int .i64 q, .int .i64 m, .slice A l.length c] 24)) (.cells #[.int .u8 a0, .int .u8 a1] 43); simpa using this⟩
  go_enter Tryd.func5, Tryd.ntmps5
  go_wp2_with fail
  refine (HPr.out _ HW0.out).mono ?_
  rintro e w1 ⟨rfl, hb⟩
  have HW1 := Aside0.mk (below_step HW0.out hb)
  have KA1 := Aside0.mk (blk_below KA.out hb)
  have KB1 := Aside0.mk (blk_below KB.out hb)
  clear HW0 KA KB hb
  have b0 := blk_cell KA1.out 0
  have b1 := blk_cell KA1.out 1
  have b2 := blk_cell KA1.out 2
  have b3 := blk_cell KA1.out 3
  go_wp2_with fail
  refine (HT.out _ HW1.out).mono ?_
  rintro e w2 ⟨n1, rfl, hb⟩
  have HW2 := Aside0.mk (below_step HW1.out hb)
  have KA2 := Aside0.mk (blk_below KA1.out hb)
  have KB2 := Aside0.mk (blk_below KB1.out hb)
  clear HW1 KA1 KB1 hb b0 b1 b2 b3
  have b0 := blk_cell KA2.out 0
  have b1 := blk_cell KA2.out 1
  have b2 := blk_cell KA2.out 2
  have b3 := blk_cell KA2.out 3
  by_cases hn1 : (0 : Int) < n1
  · go_wp2_with fail
    refine (HAl.out _ HW2.out).mono ?_
    rintro e w3 ⟨rfl, hb⟩
    have FB := below_step HW2.out hb
    go_wp2
    go_ret
    exact ⟨rfl, FB⟩
  · by_cases hpe : pe = 0
    · subst hpe
      have OK := Aside0.mk (HN.out (by first | rfl | trivial))
      clear HN
      have hn64 := OK.out.n
      by_cases hl0 : (l.length : Int) = 0
      · go_wp2_with fail
        refine (HAl.out _ HW2.out).mono ?_
        rintro e w3 ⟨rfl, hb⟩
        have FB := below_step HW2.out hb
        go_wp2
        go_ret
        exact ⟨rfl, FB⟩
      · skip
        have HL0 : Aside0 (LpF w i q m A l.length c a0 a1 w2.heap.size i [] (.slice none 0 0) (w2.alloc (.cells #[.int .i64 i, .int .i64 q, .int .i64 m, .slice none 0 0] 24))) :=
          ⟨⟨below_alloc HW2.out _, blk_alloc KA2.out _, blk_alloc KB2.out _, by have := blk_lt KB2.out; omega, blk_new _ _, ⟨fun _ => 0, Kd.R_nil _ _ _ _ _⟩⟩⟩
        clear HW2 KA2 KB2
        have gb := HL0.out.gb
        generalize hgm : w2.heap.size = gm at HL0 gb
        have hl1 : ¬ l = [] := fun e => hl0 (by rw [e]; rfl)
        have hl2 : ((l.length : Int) == 0) = false := beq_eq_false_iff_ne.2 hl0
        obtain ⟨-, -, -, y3, -, -, -, -, -, -⟩ := HL0.out.cells
        go_wp2
        clear b0 b1 b2 b3 y3
        go_loopw [48] (fun cv w' => ∃ k : Int, cv = .int .i64 k ∧ 0 ≤ k ∧ k ≤ l.length ∧ ∃ v, ∃ wr : World, wr = w' ∧ Aside0 (LpF w i q m A l.length c a0 a1 gm i (l.take k.toNat) v wr)) (fun cv _ => ((l.length : Int) - intOf cv).toNat)
        case atStart => exact ⟨0, rfl, by omega, by omega, .slice none 0 0, _, rfl, HL0⟩
        case round =>
          obtain ⟨k, rfl, k0, k1, v, wr, rfl, HL⟩ := hrel
          by_cases hk : k < l.length
          · obtain ⟨ad, A1, c1, A2, c2, rfl, x0, x1, x2, x3, hl1, hi1, hl2, hi2⟩ := PPrinterMatchesReference.at_T40 HC0.out k k0 hk
            have HI1 := Aside0.mk hi1
            have HI2 := Aside0.mk hi2
            clear hi1 hi2
            replace x0 := pw_cell_below HL.out.b x0
            replace x1 := pw_cell_below HL.out.b x1
            replace x2 := pw_cell_below HL.out.b x2
            replace x3 := pw_cell_below HL.out.b x3
            have hmem : rdR l k ∈ l := by
              have hn : k.toNat < l.length := by omega
              have : rdR l k = l[k.toNat] := by simp [PPrinterMatchesReference.rd_T40, List.getD, hn]
              rw [this]; exact List.getElem_mem hn
            have hx1 := (OK.out.rung hmem).n1
            have hx2 := (OK.out.rung hmem).n2
            have HTk := Aside0.mk (take_rd k0 hk)
            have hlk64 : (l.take k.toNat).length ≤ 64 := by rw [List.length_take]; omega
            clear hmem
            change wr.cell? _ = some (.string (rdR l k).f0) at x0
            change wr.cell? _ = some (.slice A1 (rdR l k).f1.length c1) at x1
            change wr.cell? _ = some (.slice A2 (rdR l k).f2.length c2) at x2
            change wr.cell? _ = some (.string (rdR l k).f3) at x3
            change Aside0 (Kd.C kCon w A1 (rdR l k).f1.length (rdR l k).f1) at HI1
            change Aside0 (Kd.C kCoil w A2 (rdR l k).f2.length (rdR l k).f2) at HI2
            generalize rdR l k = x at *
            generalize l.take k.toNat = lk at *
            have hwr : wrap64 (k + 1) = k + 1 := w64 (by omega) (by omega)
            have HL5 := Aside0.mk (HL.out.below (below_alloc (Below.refl _ _) (.cells #[.string x.f0, .slice A1 x.f1.length c1, .slice A2 x.f2.length c2, .string x.f3] 40)))
            have K5 := Aside0.mk (blk_new wr (.cells #[.string x.f0, .slice A1 x.f1.length c1, .slice A2 x.f2.length c2, .string x.f3] 40))
            obtain ⟨-, -, -, y3, -, -, -, -, -, -⟩ := HL.out.cells
            go_wp2_with fail
            clear x0 x1 x2 x3 y3
            generalize hw5 : wr.alloc (.cells #[.string x.f0, .slice A1 x.f1.length c1, .slice A2 x.f2.length c2, .string x.f3] 40) = w5 at HL5 K5 ⊢
            generalize hg11 : wr.heap.size = g11 at K5 ⊢
            clear HL
            have HL := Aside0.mk (HL5.out.below (below_drew (Below.refl _ _)))
            have K6 := blk_drew K5.out
            clear HL5 K5 hw5 hg11
            clear wr
            obtain ⟨-, -, -, -, -, -, -, -, -, u0⟩ := HL.out.cells
            have u1 := blk_cell K6 0
            have u2 := blk_cell K6 1
            have u3 := blk_cell K6 2
            have u4 := blk_cell K6 3
            clear K6
            have H1 : Aside0 (∀ w', Below w5.drew.heap.size w5.drew w' → ReadsRow (kCon.K w5.drew) kCon.sz w' A1 x.f1.length x.f1) := ⟨fun w' hb => ReadsRow.imp_ (Kd.C_below HI1.out HL.out.b) hb (fun _ _ h => h)⟩
            have H2 : Aside0 (∀ w', Below w5.drew.heap.size w5.drew w' → ReadsRow (kCoil.K w5.drew) kCoil.sz w' A2 x.f2.length x.f2) := ⟨fun w' hb => ReadsRow.imp_ (Kd.C_below HI2.out HL.out.b) hb (fun _ _ h => h)⟩
            have hF := InjF.start w5.drew x (.slice none 0 0, .slice none 0 0, .slice none 0 0, .slice none 0 0)
            refine start_ (n := 19) (S := fun w' => w'.cell? ⟨gm, 3, none⟩ = some v ∧ w'.cell? ⟨g11, 0, none⟩ = some (.string x.f0) ∧ w'.cell? ⟨g11, 1, none⟩ = some (.slice A1 x.f1.length c1) ∧ w'.cell? ⟨g11, 2, none⟩ = some (.slice A2 x.f2.length c2) ∧ w'.cell? ⟨g11, 3, none⟩ = some (.string x.f3)) (ds := [16, 18]) #[false, false, false, false, false, false, false, false, false, false, false, false, false, false, false, false, false, false, false] (by kernel_rfl) rfl rfl ⟨u0, u1, u2, u3, u4⟩ (fun hHeld => ?_)
            refine pure_ (i := 0) (N := some 52) (v := ?_) (a' := ?_) #[true, false, false, false, false, false, false, false, false, false, false, false, false, false, false, false, false, false, false] rfl rfl (by kernel_rfl) (fun _ _ _ h => h) (Or.inl ⟨by rfl, ?_⟩) ?_ ?_
            rotate_left
            · intro w'
              go_simp
              with_reducible rfl
            rotate_left
            · simp only [Act.put, List.setIfInBounds_toArray, List.set_cons_zero, List.set_cons_succ, i64_w, i32_w]
              rfl
            refine pure_ (i := 2) (N := some 54) (v := ?_) (a' := ?_) #[true, false, true, false, false, false, false, false, false, false, false, false, false, false, false, false, false, false, false] rfl rfl (by kernel_rfl) (fun _ _ _ h => h) (Or.inl ⟨by rfl, ?_⟩) ?_ ?_
            rotate_left
            · intro w'
              go_simp
              with_reducible rfl
            rotate_left
            · simp only [Act.put, List.setIfInBounds_toArray, List.set_cons_zero, List.set_cons_succ, i64_w, i32_w]
              rfl
            refine pure_ (i := 4) (N := some 56) (v := ?_) (a' := ?_) #[true, false, true, false, true, false, false, false, false, false, false, false, false, false, false, false, false, false, false] rfl rfl (by kernel_rfl) (fun _ _ _ h => h) (Or.inl ⟨by rfl, ?_⟩) ?_ ?_
            rotate_left
            · intro w'
              go_simp
              with_reducible rfl
            rotate_left
            · simp only [Act.put, List.setIfInBounds_toArray, List.set_cons_zero, List.set_cons_succ, i64_w, i32_w]
              rfl
            refine pure_ (i := 7) (N := some 59) (v := ?_) (a' := ?_) #[true, false, true, false, true, false, false, true, false, false, false, false, false, false, false, false, false, false, false] rfl rfl (by kernel_rfl) (fun _ _ _ h => h) (Or.inl ⟨by rfl, ?_⟩) ?_ ?_
            rotate_left
            · intro w'
              go_simp
              with_reducible rfl
            rotate_left
            · simp only [Act.put, List.setIfInBounds_toArray, List.set_cons_zero, List.set_cons_succ, i64_w, i32_w]
              rfl
            refine pure_ (i := 11) (N := some 63) (v := ?_) (a' := ?_) #[true, false, true, false, true, false, false, true, false, false, false, true, false, false, false, false, false, false, false] rfl rfl (by kernel_rfl) (fun _ _ _ h => h) (Or.inl ⟨by rfl, ?_⟩) ?_ ?_
            rotate_left
            · intro w'
              go_simp
              with_reducible rfl
            rotate_left
            · simp only [Act.put, List.setIfInBounds_toArray, List.set_cons_zero, List.set_cons_succ, i64_w, i32_w]
              rfl
            refine take_ (i := 1) (N := some 53) (v := ?_) (a' := ?_) #[true, true, true, false, true, false, false, true, false, false, false, true, false, false, false, false, false, false, false] rfl rfl (by kernel_rfl) (fun _ _ _ h => h) (Or.inl ⟨by rfl, ?_⟩) hHeld ?_ ?_
            rotate_left
            · rintro w' ⟨s0, s1, s2, s3, s4⟩
              go_simp
              with_reducible rfl
            rotate_left
            · simp only [Act.put, List.setIfInBounds_toArray, List.set_cons_zero, List.set_cons_succ, i64_w, i32_w]
              rfl
            refine take_ (i := 3) (N := some 55) (v := ?_) (a' := ?_) #[true, true, true, true, true, false, false, true, false, false, false, true, false, false, false, false, false, false, false] rfl rfl (by kernel_rfl) (fun _ _ _ h => h) (Or.inl ⟨by rfl, ?_⟩) hHeld ?_ ?_
            rotate_left
            · rintro w' ⟨s0, s1, s2, s3, s4⟩
              go_simp
              with_reducible rfl
            rotate_left
            · simp only [Act.put, List.setIfInBounds_toArray, List.set_cons_zero, List.set_cons_succ, i64_w, i32_w]
              rfl
            refine take_ (i := 5) (N := some 57) (v := ?_) (a' := ?_) #[true, true, true, true, true, true, false, true, false, false, false, true, false, false, false, false, false, false, false] rfl rfl (by kernel_rfl) (fun _ _ _ h => h) (Or.inl ⟨by rfl, ?_⟩) hHeld ?_ ?_
            rotate_left
            · rintro w' ⟨s0, s1, s2, s3, s4⟩
              go_simp
              with_reducible rfl
            rotate_left
            · simp only [Act.put, List.setIfInBounds_toArray, List.set_cons_zero, List.set_cons_succ, i64_w, i32_w]
              rfl
            refine take_ (i := 8) (N := some 60) (v := ?_) (a' := ?_) #[true, true, true, true, true, true, false, true, true, false, false, true, false, false, false, false, false, false, false] rfl rfl (by kernel_rfl) (fun _ _ _ h => h) (Or.inl ⟨by rfl, ?_⟩) hHeld ?_ ?_
            rotate_left
            · rintro w' ⟨s0, s1, s2, s3, s4⟩
              go_simp
              with_reducible rfl
            rotate_left
            · simp only [Act.put, List.setIfInBounds_toArray, List.set_cons_zero, List.set_cons_succ, i64_w, i32_w]
              rfl
            refine take_ (i := 12) (N := some 64) (v := ?_) (a' := ?_) #[true, true, true, true, true, true, false, true, true, false, false, true, true, false, false, false, false, false, false] rfl rfl (by kernel_rfl) (fun _ _ _ h => h) (Or.inl ⟨by rfl, ?_⟩) hHeld ?_ ?_
            rotate_left
            · rintro w' ⟨s0, s1, s2, s3, s4⟩
              go_simp
              with_reducible rfl
            rotate_left
            · simp only [Act.put, List.setIfInBounds_toArray, List.set_cons_zero, List.set_cons_succ, i64_w, i32_w]
              rfl
            refine join_ (σ := InjS) 6 #[true, true, true, true, true, true, true, true, true, true, true, true, true, false, false, false, false, false, false] (fun s => [(58, s.1), (61, s.2.1), (62, s.2.2.1)]) (InjF w5.drew x true true true false) ?_ ?_
            rotate_left
            · intro hJ6_9_10
              refine join_ (σ := InjS) 7 #[true, true, true, true, true, true, true, true, true, true, false, true, true, false, false, false, false, false, false] (fun s => [(58, s.1), (61, s.2.1)]) (InjF w5.drew x true true false false) ?_ ?_
              rotate_left
              · intro hJ6_9
                refine join_ (σ := InjS) 7 #[true, true, true, true, true, true, true, true, true, false, true, true, true, false, false, false, false, false, false] (fun s => [(58, s.1), (62, s.2.2.1)]) (InjF w5.drew x true false true false) ?_ ?_
                rotate_left
                · intro hJ6_10
                  refine join_ (σ := InjS) 8 #[true, true, true, true, true, true, true, true, true, false, false, true, true, false, false, false, false, false, false] (fun s => [(58, s.1)]) (InjF w5.drew x true false false false) ?_ ?_
                  rotate_left
                  · intro hJ6
                    refine join_ (σ := InjS) 8 #[true, true, true, true, true, true, false, true, true, false, true, true, true, false, false, false, false, false, false] (fun s => [(62, s.2.2.1)]) (InjF w5.drew x false false true false) ?_ ?_
                    rotate_left
                    · intro hJ10
                      refine two_ (i := 6) (j := 10) (Ni := some 58) (Nj := some 62) #[true, true, true, true, true, true, true, true, true, false, false, true, true, false, false, false, false, false, false] #[true, true, true, true, true, true, false, true, true, false, true, true, true, false, false, false, false, false, false] rfl rfl rfl rfl (by kernel_rfl) (by decide) (by decide) (fun K hK => ?_) (fun K hK => ?_)
                      · skip
                        refine value_ (w1 := ?_) (v := ?_) (by rfl) rfl ?_ ?_
                        rotate_left 2
                        · go_simp
                          constructor
                          · rfl
                          · rfl
                        refine hK.out _ _ ⟨(pw_cell_below (hF.s6).b u0), (pw_cell_below (hF.s6).b u1), (pw_cell_below (hF.s6).b u2), (pw_cell_below (hF.s6).b u3), (pw_cell_below (hF.s6).b u4)⟩ (fun hHeld => ?_)
                        clear hK K
                        refine norm_ (a' := ?_) ?_ ?_
                        rotate_left
                        · show Act.put _ (some 58) _ = _
                          simp only [Act.put, List.setIfInBounds_toArray, List.set_cons_zero, List.set_cons_succ, i64_w, i32_w]
                          rfl
                        exact norm_ (by first | (simp only [putAll, Act.put, List.setIfInBounds_toArray, List.set_cons_zero, List.set_cons_succ]; done) | (simp only [putAll, Act.put, List.setIfInBounds_toArray, List.set_cons_zero, List.set_cons_succ]; rfl)) (hJ6 _ _ hF.s6)
                      · skip
                        refine value_ (w1 := ?_) (v := ?_) (by rfl) rfl ?_ ?_
                        rotate_left 2
                        · go_simp
                          constructor
                          · rfl
                          · rfl
                        refine hK.out _ _ ⟨(pw_cell_below (hF.s10).b u0), (pw_cell_below (hF.s10).b u1), (pw_cell_below (hF.s10).b u2), (pw_cell_below (hF.s10).b u3), (pw_cell_below (hF.s10).b u4)⟩ (fun hHeld => ?_)
                        clear hK K
                        refine norm_ (a' := ?_) ?_ ?_
                        rotate_left
                        · show Act.put _ (some 62) _ = _
                          simp only [Act.put, List.setIfInBounds_toArray, List.set_cons_zero, List.set_cons_succ, i64_w, i32_w]
                          rfl
                        exact norm_ (by first | (simp only [putAll, Act.put, List.setIfInBounds_toArray, List.set_cons_zero, List.set_cons_succ]; done) | (simp only [putAll, Act.put, List.setIfInBounds_toArray, List.set_cons_zero, List.set_cons_succ]; rfl)) (hJ10 _ _ hF.s10)
                    · skip
                      rintro ⟨v6, v9, v10, v13⟩ w_ hF
                      have hHeld : w_.cell? ⟨gm, 3, none⟩ = some v ∧ w_.cell? ⟨g11, 0, none⟩ = some (.string x.f0) ∧ w_.cell? ⟨g11, 1, none⟩ = some (.slice A1 x.f1.length c1) ∧ w_.cell? ⟨g11, 2, none⟩ = some (.slice A2 x.f2.length c2) ∧ w_.cell? ⟨g11, 3, none⟩ = some (.string x.f3) := ⟨(pw_cell_below (hF).b u0), (pw_cell_below (hF).b u1), (pw_cell_below (hF).b u2), (pw_cell_below (hF).b u3), (pw_cell_below (hF).b u4)⟩
                      refine norm_ (a' := ?_) ?_ ?_
                      rotate_left
                      · simp only [putAll, Act.put, List.setIfInBounds_toArray, List.set_cons_zero, List.set_cons_succ]
                        rfl
                      refine one_ (i := 6) (N := some 58) #[true, true, true, true, true, true, true, true, true, false, true, true, true, false, false, false, false, false, false] rfl rfl (by kernel_rfl) (by decide) (fun K hK => ?_)
                      refine value_ (w1 := ?_) (v := ?_) (by rfl) rfl ?_ ?_
                      rotate_left 2
                      · go_simp
                        constructor
                        · rfl
                        · rfl
                      refine hK.out _ _ ⟨(pw_cell_below (hF.s6).b u0), (pw_cell_below (hF.s6).b u1), (pw_cell_below (hF.s6).b u2), (pw_cell_below (hF.s6).b u3), (pw_cell_below (hF.s6).b u4)⟩ (fun hHeld => ?_)
                      clear hK K
                      refine norm_ (a' := ?_) ?_ ?_
                      rotate_left
                      · show Act.put _ (some 58) _ = _
                        simp only [Act.put, List.setIfInBounds_toArray, List.set_cons_zero, List.set_cons_succ, i64_w, i32_w]
                        rfl
                      exact norm_ (by first | (simp only [putAll, Act.put, List.setIfInBounds_toArray, List.set_cons_zero, List.set_cons_succ]; done) | (simp only [putAll, Act.put, List.setIfInBounds_toArray, List.set_cons_zero, List.set_cons_succ]; rfl)) (hJ6_10 _ _ hF.s6)
                  · skip
                    rintro ⟨v6, v9, v10, v13⟩ w_ hF
                    have hHeld : w_.cell? ⟨gm, 3, none⟩ = some v ∧ w_.cell? ⟨g11, 0, none⟩ = some (.string x.f0) ∧ w_.cell? ⟨g11, 1, none⟩ = some (.slice A1 x.f1.length c1) ∧ w_.cell? ⟨g11, 2, none⟩ = some (.slice A2 x.f2.length c2) ∧ w_.cell? ⟨g11, 3, none⟩ = some (.string x.f3) := ⟨(pw_cell_below (hF).b u0), (pw_cell_below (hF).b u1), (pw_cell_below (hF).b u2), (pw_cell_below (hF).b u3), (pw_cell_below (hF).b u4)⟩
                    refine norm_ (a' := ?_) ?_ ?_
                    rotate_left
                    · simp only [putAll, Act.put, List.setIfInBounds_toArray, List.set_cons_zero, List.set_cons_succ]
                      rfl
                    refine two_ (i := 9) (j := 10) (Ni := some 61) (Nj := some 62) #[true, true, true, true, true, true, true, true, true, true, false, true, true, false, false, false, false, false, false] #[true, true, true, true, true, true, true, true, true, false, true, true, true, false, false, false, false, false, false] rfl rfl rfl rfl (by kernel_rfl) (by decide) (by decide) (fun K hK => ?_) (fun K hK => ?_)
                    · skip
                      refine Kd.R_append_rows_step kCon (Rr := kCon.K w5.drew) (w0 := w5.drew) (w5.drew).heap.size (by rfl) (.tmp 58) (.tmp 60) 37 49 (.agg #[.int .i64 0, .int .i64 0, .int .i64 0, .string ⟨#[]⟩, .string ⟨#[]⟩]) 56 rfl Tryd.underlying37 PPrinterMatchesReference.info49 rfl (Nat.zero_lt_succ 4) (by omega) v6 [] x.f1 A1 x.f1.length c1 (fun k => (w5.drew).heap.size ≤ k) (fun _ => False) rfl rfl (hF.o6 rfl rfl) (H1.out _ hF.b) (fun _ _ h => h) (fun _ h => h.elim) (fun k hk => Nat.le_trans hF.b.size hk) hF.b hF.b.size (by simp only [List.length_nil]; omega) ?_
                      intro v1 w1 hr hb hg hat
                      have hN := hF.s9 hr hb hg
                      clear hr hb hg hat
                      refine hK.out _ _ ⟨(pw_cell_below (hN).b u0), (pw_cell_below (hN).b u1), (pw_cell_below (hN).b u2), (pw_cell_below (hN).b u3), (pw_cell_below (hN).b u4)⟩ (fun hHeld => ?_)
                      clear hK K
                      refine norm_ (a' := ?_) ?_ ?_
                      rotate_left
                      · show Act.put _ (some 61) _ = _
                        simp only [Act.put, List.setIfInBounds_toArray, List.set_cons_zero, List.set_cons_succ, i64_w, i32_w]
                        rfl
                      exact norm_ (by first | (simp only [putAll, Act.put, List.setIfInBounds_toArray, List.set_cons_zero, List.set_cons_succ]; done) | (simp only [putAll, Act.put, List.setIfInBounds_toArray, List.set_cons_zero, List.set_cons_succ]; rfl)) (hJ6_9 _ _ hN)
                    · skip
                      refine value_ (w1 := ?_) (v := ?_) (by rfl) rfl ?_ ?_
                      rotate_left 2
                      · go_simp
                        constructor
                        · rfl
                        · rfl
                      refine hK.out _ _ ⟨(pw_cell_below (hF.s10).b u0), (pw_cell_below (hF.s10).b u1), (pw_cell_below (hF.s10).b u2), (pw_cell_below (hF.s10).b u3), (pw_cell_below (hF.s10).b u4)⟩ (fun hHeld => ?_)
                      clear hK K
                      refine norm_ (a' := ?_) ?_ ?_
                      rotate_left
                      · show Act.put _ (some 62) _ = _
                        simp only [Act.put, List.setIfInBounds_toArray, List.set_cons_zero, List.set_cons_succ, i64_w, i32_w]
                        rfl
                      exact norm_ (by first | (simp only [putAll, Act.put, List.setIfInBounds_toArray, List.set_cons_zero, List.set_cons_succ]; done) | (simp only [putAll, Act.put, List.setIfInBounds_toArray, List.set_cons_zero, List.set_cons_succ]; rfl)) (hJ6_10 _ _ hF.s10)
                · skip
                  rintro ⟨v6, v9, v10, v13⟩ w_ hF
                  have hHeld : w_.cell? ⟨gm, 3, none⟩ = some v ∧ w_.cell? ⟨g11, 0, none⟩ = some (.string x.f0) ∧ w_.cell? ⟨g11, 1, none⟩ = some (.slice A1 x.f1.length c1) ∧ w_.cell? ⟨g11, 2, none⟩ = some (.slice A2 x.f2.length c2) ∧ w_.cell? ⟨g11, 3, none⟩ = some (.string x.f3) := ⟨(pw_cell_below (hF).b u0), (pw_cell_below (hF).b u1), (pw_cell_below (hF).b u2), (pw_cell_below (hF).b u3), (pw_cell_below (hF).b u4)⟩
                  refine norm_ (a' := ?_) ?_ ?_
                  rotate_left
                  · simp only [putAll, Act.put, List.setIfInBounds_toArray, List.set_cons_zero, List.set_cons_succ]
                    rfl
                  refine one_ (i := 9) (N := some 61) #[true, true, true, true, true, true, true, true, true, true, true, true, true, false, false, false, false, false, false] rfl rfl (by kernel_rfl) (by decide) (fun K hK => ?_)
                  refine Kd.R_append_rows_step kCon (Rr := kCon.K w5.drew) (w0 := w5.drew) (w5.drew).heap.size (by rfl) (.tmp 58) (.tmp 60) 37 49 (.agg #[.int .i64 0, .int .i64 0, .int .i64 0, .string ⟨#[]⟩, .string ⟨#[]⟩]) 56 rfl Tryd.underlying37 PPrinterMatchesReference.info49 rfl (Nat.zero_lt_succ 4) (by omega) v6 [] x.f1 A1 x.f1.length c1 (fun k => (w5.drew).heap.size ≤ k) (fun _ => False) rfl rfl (hF.o6 rfl rfl) (H1.out _ hF.b) (fun _ _ h => h) (fun _ h => h.elim) (fun k hk => Nat.le_trans hF.b.size hk) hF.b hF.b.size (by simp only [List.length_nil]; omega) ?_
                  intro v1 w1 hr hb hg hat
                  have hN := hF.s9 hr hb hg
                  clear hr hb hg hat
                  refine hK.out _ _ ⟨(pw_cell_below (hN).b u0), (pw_cell_below (hN).b u1), (pw_cell_below (hN).b u2), (pw_cell_below (hN).b u3), (pw_cell_below (hN).b u4)⟩ (fun hHeld => ?_)
                  clear hK K
                  refine norm_ (a' := ?_) ?_ ?_
                  rotate_left
                  · show Act.put _ (some 61) _ = _
                    simp only [Act.put, List.setIfInBounds_toArray, List.set_cons_zero, List.set_cons_succ, i64_w, i32_w]
                    rfl
                  exact norm_ (by first | (simp only [putAll, Act.put, List.setIfInBounds_toArray, List.set_cons_zero, List.set_cons_succ]; done) | (simp only [putAll, Act.put, List.setIfInBounds_toArray, List.set_cons_zero, List.set_cons_succ]; rfl)) (hJ6_9_10 _ _ hN)
              · skip
                rintro ⟨v6, v9, v10, v13⟩ w_ hF
                have hHeld : w_.cell? ⟨gm, 3, none⟩ = some v ∧ w_.cell? ⟨g11, 0, none⟩ = some (.string x.f0) ∧ w_.cell? ⟨g11, 1, none⟩ = some (.slice A1 x.f1.length c1) ∧ w_.cell? ⟨g11, 2, none⟩ = some (.slice A2 x.f2.length c2) ∧ w_.cell? ⟨g11, 3, none⟩ = some (.string x.f3) := ⟨(pw_cell_below (hF).b u0), (pw_cell_below (hF).b u1), (pw_cell_below (hF).b u2), (pw_cell_below (hF).b u3), (pw_cell_below (hF).b u4)⟩
                refine norm_ (a' := ?_) ?_ ?_
                rotate_left
                · simp only [putAll, Act.put, List.setIfInBounds_toArray, List.set_cons_zero, List.set_cons_succ]
                  rfl
                refine one_ (i := 10) (N := some 62) #[true, true, true, true, true, true, true, true, true, true, true, true, true, false, false, false, false, false, false] rfl rfl (by kernel_rfl) (by decide) (fun K hK => ?_)
                refine value_ (w1 := ?_) (v := ?_) (by rfl) rfl ?_ ?_
                rotate_left 2
                · go_simp
                  constructor
                  · rfl
                  · rfl
                refine hK.out _ _ ⟨(pw_cell_below (hF.s10).b u0), (pw_cell_below (hF.s10).b u1), (pw_cell_below (hF.s10).b u2), (pw_cell_below (hF.s10).b u3), (pw_cell_below (hF.s10).b u4)⟩ (fun hHeld => ?_)
                clear hK K
                refine norm_ (a' := ?_) ?_ ?_
                rotate_left
                · show Act.put _ (some 62) _ = _
                  simp only [Act.put, List.setIfInBounds_toArray, List.set_cons_zero, List.set_cons_succ, i64_w, i32_w]
                  rfl
                exact norm_ (by first | (simp only [putAll, Act.put, List.setIfInBounds_toArray, List.set_cons_zero, List.set_cons_succ]; done) | (simp only [putAll, Act.put, List.setIfInBounds_toArray, List.set_cons_zero, List.set_cons_succ]; rfl)) (hJ6_9_10 _ _ hF.s10)
            rintro ⟨v6, v9, v10, v13⟩ w_ hF
            have hHeld : w_.cell? ⟨gm, 3, none⟩ = some v ∧ w_.cell? ⟨g11, 0, none⟩ = some (.string x.f0) ∧ w_.cell? ⟨g11, 1, none⟩ = some (.slice A1 x.f1.length c1) ∧ w_.cell? ⟨g11, 2, none⟩ = some (.slice A2 x.f2.length c2) ∧ w_.cell? ⟨g11, 3, none⟩ = some (.string x.f3) := ⟨(pw_cell_below (hF).b u0), (pw_cell_below (hF).b u1), (pw_cell_below (hF).b u2), (pw_cell_below (hF).b u3), (pw_cell_below (hF).b u4)⟩
            obtain ⟨B1, d1, e9⟩ := (hF.o9 rfl).form
            obtain rfl : v9 = .slice B1 x.f1.length d1 := e9
            refine norm_ (a' := ?_) ?_ ?_
            rotate_left
            · simp only [putAll, Act.put, List.setIfInBounds_toArray, List.set_cons_zero, List.set_cons_succ]
              rfl
            refine one_ (i := 13) (N := some 65) #[true, true, true, true, true, true, true, true, true, true, true, true, true, true, false, false, false, false, false] rfl rfl (by kernel_rfl) (by decide) (fun K hK => ?_)
            refine Kd.R_append_rows_step kCoil (Rr := kCoil.K w5.drew) (w0 := w5.drew) (w5.drew).heap.size (by rfl) (.tmp 62) (.tmp 64) 38 52 (.agg #[.int .i64 0, .int .i64 0, .int .i64 0]) 24 rfl Tryd.underlying38 PPrinterMatchesReference.info52 rfl (Nat.zero_lt_succ 2) (by omega) v10 [] x.f2 A2 x.f2.length c2 (fun k => (w5.drew).heap.size ≤ k) (fun _ => False) rfl rfl (hF.o10 rfl rfl) (H2.out _ hF.b) (fun _ _ h => h) (fun _ h => h.elim) (fun k hk => Nat.le_trans hF.b.size hk) hF.b hF.b.size (by simp only [List.length_nil]; omega) ?_
            intro v1 w1 hr hb hg hat
            obtain ⟨B2, d2, rfl⟩ := XR.form hr
            have hN := hF.s13 hr hb hg
            clear hr hb hg hat
            refine hK.out _ _ ⟨(pw_cell_below (hN).b u0), (pw_cell_below (hN).b u1), (pw_cell_below (hN).b u2), (pw_cell_below (hN).b u3), (pw_cell_below (hN).b u4)⟩ (fun hHeld => ?_)
            clear hK K
            refine norm_ (a' := ?_) ?_ ?_
            rotate_left
            · show Act.put _ (some 65) _ = _
              simp only [Act.put, List.setIfInBounds_toArray, List.set_cons_zero, List.set_cons_succ, i64_w, i32_w]
              rfl
            refine pure_ (i := 14) (N := some 66) (v := ?_) (a' := ?_) #[true, true, true, true, true, true, true, true, true, true, true, true, true, true, true, false, false, false, false] rfl rfl (by kernel_rfl) (fun _ _ _ h => h) (Or.inl ⟨by rfl, ?_⟩) ?_ ?_
            rotate_left
            · intro w'
              go_simp
              with_reducible rfl
            rotate_left
            · simp only [Act.put, List.setIfInBounds_toArray, List.set_cons_zero, List.set_cons_succ, i64_w, i32_w]
              rfl
            refine one_ (i := 15) (N := some 67) #[true, true, true, true, true, true, true, true, true, true, true, true, true, true, true, true, false, false, false] rfl rfl (by kernel_rfl) (by decide) (fun K hK => ?_)
            refine value_ (w1 := ?_) (v := ?_) (by rfl) rfl ?_ ?_
            rotate_left 2
            · go_simp
              constructor
              · rfl
              · rfl
            refine hK.out _ _ ⟨(pw_cell_below (hN.below (below_alloc (Below.refl _ _) _)).b u0), (pw_cell_below (hN.below (below_alloc (Below.refl _ _) _)).b u1), (pw_cell_below (hN.below (below_alloc (Below.refl _ _) _)).b u2), (pw_cell_below (hN.below (below_alloc (Below.refl _ _) _)).b u3), (pw_cell_below (hN.below (below_alloc (Below.refl _ _) _)).b u4)⟩ (fun hHeld => ?_)
            clear hK K
            refine norm_ (a' := ?_) ?_ ?_
            rotate_left
            · show Act.put _ (some 67) _ = _
              simp only [Act.put, List.setIfInBounds_toArray, List.set_cons_zero, List.set_cons_succ, i64_w, i32_w]
              rfl
            refine last_ (i := 16) (N := some 68) #[true, true, true, true, true, true, true, true, true, true, true, true, true, true, true, true, true, false, false] rfl rfl (by kernel_rfl) (by decide) (fun K hK => ?_)
            refine Kd.S_append_step kRung (w0 := w) w.heap.size (by rfl) (.tmp 53) (.tmp 67) 22 40 (.agg #[.string ⟨#[]⟩, .slice none 0 0, .slice none 0 0, .string ⟨#[]⟩]) 80 rfl Tryd.underlying22 PPrinterMatchesReference.info40 rfl (Nat.zero_lt_succ 3) (by omega) v lk x [.string x.f0, .slice B1 x.f1.length d1, .slice B2 x.f2.length d2, .string x.f3] (fun _ => True) (fun k => (w5.drew).heap.size ≤ k) rfl rfl (hN.made HL.out.b.size) HL.out.apart (fun _ _ => trivial) (HL.out.elder hN.b) (below_step HL.out.b hN.b) (below_step HL.out.b hN.b).size (by omega) ?_
            intro v1 w2 hs hb hg hat
            obtain ⟨hkm, hLn⟩ := (HL.out.below hN.b).put hs hb hg
            obtain ⟨B3, d3, e, -, -⟩ := Kd.S_reads hs
            obtain rfl : v1 = .slice B3 (lk.length + 1) d3 := by rw [e, List.length_append, List.length_singleton]
            clear e
            have p3 := blk_cell hkm 3
            have z3 := blk_frozen hkm 3
            clear hs hb hg hat
            refine hK.out _ _ ?_
            clear hK K
            refine norm_ (a' := ?_) ?_ ?_
            rotate_left
            · show Act.put _ (some 68) _ = _
              simp only [Act.put, List.setIfInBounds_toArray, List.set_cons_zero, List.set_cons_succ, i64_w, i32_w]
              rfl
            refine pure_ (i := 17) (N := some 69) (v := ?_) (a' := ?_) #[true, true, true, true, true, true, true, true, true, true, true, true, true, true, true, true, true, true, false] rfl rfl (by kernel_rfl) (fun _ _ _ h => h) (Or.inl ⟨by rfl, ?_⟩) ?_ ?_
            rotate_left
            · intro w'
              go_simp
              with_reducible rfl
            rotate_left
            · simp only [Act.put, List.setIfInBounds_toArray, List.set_cons_zero, List.set_cons_succ, i64_w, i32_w]
              rfl
            refine last_ (i := 18) (N := none) #[true, true, true, true, true, true, true, true, true, true, true, true, true, true, true, true, true, true, true] rfl rfl (by kernel_rfl) (by decide) (fun K hK => ?_)
            refine skip_ (w1 := ?_) (by rfl) rfl ?_ ?_
            rotate_left
            · go_simp
              rfl
            refine hK.out _ _ ?_
            clear hK K
            refine done_ (by kernel_rfl) ?_
            clear u0 u1 u2 u3 u4 hF hHeld hN hkm p3 z3
            go_wp2
            go_roundw
            case rel => exact ⟨k + 1, by simp [hwr], by omega, by omega, _, _, rfl, ⟨by rw [HTk.out]; exact hLn⟩⟩
            case measure => simp [intOf, hwr]; omega
          · obtain rfl : k = l.length := by omega
            rw [Int.toNat_natCast, List.take_length] at HL
            have hlp : 0 < l.length := by omega
            obtain ⟨g, cap, rfl, -, -, -⟩ := Kd.S_form HL.out.s hlp
            go_wp2_with fail
            have hwa : IntKind.i64.wrap a0 = a0 := by rw [i64_w]; exact w64 (by omega) (by omega)
            obtain ⟨j, hj⟩ : ∃ j, a0.tmod (l.length : Int) = j := ⟨_, rfl⟩
            have j0 : 0 ≤ j := by rw [← hj]; exact Int.tmod_nonneg _ ha0.1
            have j1 : j < l.length := by rw [← hj]; exact Int.tmod_lt_of_pos _ (by omega)
            obtain ⟨y0, y1, y2, y3, y4, y5, y6, y7, y8, y9⟩ := HL.out.cells
            go_quiet (fail)
            have HL3 := Aside0.mk (HL.out.below (pw_below_drewN (Below.refl _ _) nq))
            clear HL y0 y1 y2 y3 y4 y5 y6 y7 y8 y9
            generalize wr.drewN nq = w3 at HL3 ⊢
            clear wr
            obtain ⟨y0, y1, y2, y3, y4, y5, y6, y7, y8, y9⟩ := HL3.out.cells
            go_upto_block 2 with fail
            go_cut [] (fun wx => ∃ i' l' v', Chg i l i' l' ∧ Aside0 (LpF w i q m A l.length c a0 a1 gm i' l' v' wx))
            case first =>
              obtain ⟨A1, c1, A2, c2, s1, s2, -, -⟩ := S_cells HL3.out.s j j0 j1
              obtain ⟨h5, hh5⟩ : ∃ h5, which.tmod 5 = h5 := ⟨_, rfl⟩
              have r0 : 0 ≤ h5 := by rw [← hh5]; exact Int.tmod_nonneg _ hwh.1
              have r1 : h5 < 5 := by rw [← hh5]; exact Int.tmod_lt_of_pos _ (by omega)
              have hcs : h5 = 0 ∨ h5 = 1 ∨ h5 = 2 ∨ h5 = 3 ∨ h5 = 4 := by omega
              clear r0 r1
              rcases hcs with rfl | rfl | rfl | rfl | rfl
              · by_cases hc0 : (0 : Int) < (rdR l j).f1.length
                · skip
                  obtain ⟨kk, hkk⟩ : ∃ kk, a1.tmod ((rdR l j).f1.length : Int) = kk := ⟨_, rfl⟩
                  have k0 : 0 ≤ kk := by rw [← hkk]; exact Int.tmod_nonneg _ ha1.1
                  have k1 : kk < (rdR l j).f1.length := by rw [← hkk]; exact Int.tmod_lt_of_pos _ (by omega)
                  obtain ⟨a, c1', s1', -⟩ := S_con HL3.out.s j j0 j1 kk k0 k1
                  clear s1 s2
                  go_wp2_with fail
                  go_quiet (fail)
                  have HL5 := Aside0.mk (HL3.out.below (pw_below_drewN (Below.refl _ _) nq))
                  have s1d := pw_cell_below (pw_below_drewN (Below.refl w3.heap.size w3) nq) s1'
                  clear HL3 y0 y1 y2 y3 y4 y5 y6 y7 y8 y9 s1'
                  generalize w3.drewN nq = w4 at HL5 s1d ⊢
                  clear w3
                  obtain ⟨a', c2', s1'', hBa, -, hty, sk, -, -, sfr, hset, -⟩ := S_con HL5.out.s j j0 j1 kk k0 k1
                  obtain ⟨rfl, rfl⟩ : a = a' ∧ c1' = c2' := by simpa using s1d.symm.trans s1''
                  have fz := sfr 0
                  simp only [Nat.add_zero] at fz
                  have okc := (OK.out.rung (List.mem_of_getElem? (rd_at j0 j1))).cs _ (List.mem_of_getElem? (elem_at (z := cz) k0 k1))
                  have o0 := okc.k0
                  have o1 := okc.k1
                  obtain ⟨y, hy⟩ : ∃ y, (((rdR l j).f1.getD kk.toNat cz).f0 + 1).tmod 4 = y := ⟨_, rfl⟩
                  have y0 : 0 ≤ y := by rw [← hy]; exact Int.tmod_nonneg _ (by omega)
                  have y1 : y < 4 := by rw [← hy]; exact Int.tmod_lt_of_pos _ (by omega)
                  have y2 : y ≠ ((rdR l j).f1.getD kk.toNat cz).f0 := by rw [← hy, Int.tmod_eq_emod_of_nonneg (by omega)]; omega
                  have HS := Aside0.mk (⟨i, _, _, .kind (rd_at j0 j1) (elem_at k0 k1) y0 y1 y2, ⟨HL5.out.store hBa hty (by decide) (by decide) (hset y)⟩⟩ : ∃ i' l' v', Chg i l i' l' ∧ Aside0 (LpF w i q m A l.length c a0 a1 gm i' l' v' (w4.setCell ⟨a, kk.toNat * 5, none⟩ (.int .i64 y))))
                  clear hset HL5 okc sfr hty
                  generalize ((rdR l j).f1.getD kk.toNat cz).f0 = f0 at *
                  have hwf : wrap64 (f0 + 1) = f0 + 1 := w64 (by omega) (by omega)
                  go_wp2
                  go_meet
                  case rel => exact HS.out
                · skip
                  go_wp2_with (at_builtin; refine Kd.S_append kRung (w0 := w) w.heap.size rfl (.tmp 85) (.tmp 87) 22 40 (.agg #[.string ⟨#[]⟩, .slice none 0 0, .slice none 0 0, .string ⟨#[]⟩]) 80 rfl Tryd.underlying22 PPrinterMatchesReference.info40 rfl (Nat.zero_lt_succ 3) (by omega) (.slice (some ⟨g, 0, none⟩) l.length cap) l PPrinterMatchesReference.z40 [.string ⟨#[]⟩, .slice none 0 0, .slice none 0 0, .string ⟨#[]⟩] (fun _ => True) (fun k => w3.heap.size ≤ k) rfl rfl (PPrinterMatchesReference.k40_mkM w3 w.heap.size _ PPrinterMatchesReference.z40 (Kd.R_nil _ _ _ _ _) (Kd.R_nil _ _ _ _ _)) HL3.out.apart (fun _ _ => trivial) (HL3.out.elder (Below.refl _ _)) HL3.out.b HL3.out.b.size (by omega) ?_; intro v1 w5 hs hb hg hat; obtain ⟨hkm, hLn⟩ := HL3.out.put hs hb hg; obtain ⟨B3, d3, e, -, -⟩ := Kd.S_reads hs; obtain rfl : v1 = .slice B3 (l.length + 1) d3 := (by rw [e, List.length_append, List.length_singleton]); have p3 := blk_cell hkm 3; have z3 := blk_frozen hkm 3; clear e hs hb hg hat)
                  go_meet
                  case rel => exact ⟨i, _, _, .rung _, ⟨hLn⟩⟩
              · by_cases hc0 : (0 : Int) < (rdR l j).f1.length
                · skip
                  obtain ⟨kk, hkk⟩ : ∃ kk, a1.tmod ((rdR l j).f1.length : Int) = kk := ⟨_, rfl⟩
                  have k0 : 0 ≤ kk := by rw [← hkk]; exact Int.tmod_nonneg _ ha1.1
                  have k1 : kk < (rdR l j).f1.length := by rw [← hkk]; exact Int.tmod_lt_of_pos _ (by omega)
                  obtain ⟨ad, B1, d1, B2, d2, rfl, -, x1, -, -, hl1, hi1, -, -⟩ := PPrinterMatchesReference.at_T40 HC0.out j j0 j1
                  obtain ⟨ad1, rfl, -, -, -, -, e4⟩ := PPrinterMatchesReference.at_T49 hi1 kk k0 k1
                  change w.cell? _ = some (.string ((rdR l j).f1.getD kk.toNat cz).f3) at e4
                  change w.cell? _ = some (.slice (some ad1) (rdR l j).f1.length d1) at x1
                  clear hi1
                  obtain ⟨a, c1', s1', -⟩ := S_con HL3.out.s j j0 j1 kk k0 k1
                  clear s1 s2
                  go_wp2_with fail
                  go_quiet (fail)
                  have HL5 := Aside0.mk (HL3.out.below (pw_below_drewN (Below.refl _ _) nq))
                  have s1d := pw_cell_below (pw_below_drewN (Below.refl w3.heap.size w3) nq) s1'
                  clear HL3 y0 y1 y2 y3 y4 y5 y6 y7 y8 y9 s1'
                  generalize w3.drewN nq = w4 at HL5 s1d ⊢
                  clear w3
                  obtain ⟨a', c2', s1'', hBa, hga, hty, -, -, sto, sfr, -, hsetd⟩ := S_con HL5.out.s j j0 j1 kk k0 k1
                  obtain ⟨rfl, rfl⟩ : a = a' ∧ c1' = c2' := by simpa using s1d.symm.trans s1''
                  have fz := sfr 4
                  have HL6 := Aside0.mk (HL5.out.store hBa hty (by decide) (by decide) (hsetd ⟨#[111, 116, 104, 101, 114]⟩))
                  have s1e : (w4.setCell ⟨a, kk.toNat * 5 + 4, none⟩ (.string ⟨#[111, 116, 104, 101, 114]⟩)).cell? ⟨g, j.toNat * 4 + 1, none⟩ = some (.slice (some ⟨a, 0, none⟩) (rdR l j).f1.length c1') := (World.cell?_of_block (Below.heap_setCell _ _ _ g hga)).trans s1''
                  go_wp2_with fail
                  clear s1d s1'' sto fz sfr hty hsetd HL5
                  generalize w4.setCell ⟨a, kk.toNat * 5 + 4, none⟩ (.string ⟨#[111, 116, 104, 101, 114]⟩) = w5 at HL6 s1e ⊢
                  clear w4
                  replace x1 := pw_cell_below HL6.out.b x1
                  replace e4 := pw_cell_below HL6.out.b e4
                  obtain ⟨y0, y1, y2, y3, y4, y5, y6, y7, y8, y9⟩ := HL6.out.cells
                  have hd4 : 0 < ByteArray.size ⟨#[111, 116, 104, 101, 114]⟩ := by decide
                  have hd5 : 0 < ByteArray.size ⟨#[111, 116, 104, 101, 114, 115]⟩ := by decide
                  by_cases hto : ((rdR l j).f1.getD kk.toNat cz).f3 = ⟨#[111, 116, 104, 101, 114]⟩
                  · rw [hto] at e4
                    go_quiet (fail)
                    have HL7 := Aside0.mk (HL6.out.below (pw_below_drewN (Below.refl _ _) nq))
                    have s1f := pw_cell_below (pw_below_drewN (Below.refl w5.heap.size w5) nq) s1e
                    clear HL6 y0 y1 y2 y3 y4 y5 y6 y7 y8 y9 s1e x1 e4
                    generalize w5.drewN nq = w6 at HL7 s1f ⊢
                    clear w5
                    have j1' : j < (l.set j.toNat ⟨(rdR l j).f0, (rdR l j).f1.set kk.toNat ⟨((rdR l j).f1.getD kk.toNat cz).f0, ((rdR l j).f1.getD kk.toNat cz).f1, ((rdR l j).f1.getD kk.toNat cz).f2, ⟨#[111, 116, 104, 101, 114]⟩⟩, (rdR l j).f2, (rdR l j).f3⟩).length := by rw [List.length_set]; exact j1
                    have k1' : kk < (rdR (l.set j.toNat ⟨(rdR l j).f0, (rdR l j).f1.set kk.toNat ⟨((rdR l j).f1.getD kk.toNat cz).f0, ((rdR l j).f1.getD kk.toNat cz).f1, ((rdR l j).f1.getD kk.toNat cz).f2, ⟨#[111, 116, 104, 101, 114]⟩⟩, (rdR l j).f2, (rdR l j).f3⟩) j).f1.length := by rw [rd_set j0 j1, List.length_set]; exact k1
                    have HS7 := HL7.out.s
                    obtain ⟨a', c2', s1'', hBa', -, hty, -, -, sto, sfr, -, hsetd⟩ := S_con HS7 j j0 j1 kk k0 k1'
                    simp only [rd_set j0 j1, elem_set k0 k1, List.length_set, List.set_set] at s1'' sto hsetd
                    obtain ⟨rfl, rfl⟩ : a = a' ∧ c1' = c2' := by simpa using s1f.symm.trans s1''
                    have fz := sfr 4
                    have HS := Aside0.mk (⟨i, _, _, .dest (rd_at j0 j1) (elem_at k0 k1) hd5 (by rw [hto]; decide), ⟨HL7.out.store hBa hty (by decide) (by decide) (hsetd ⟨#[111, 116, 104, 101, 114, 115]⟩)⟩⟩ : ∃ i' l' v', Chg i l i' l' ∧ Aside0 (LpF w i q m (some ad) l.length c a0 a1 gm i' l' v' (w6.setCell ⟨a, kk.toNat * 5 + 4, none⟩ (.string ⟨#[111, 116, 104, 101, 114, 115]⟩))))
                    clear hsetd HL7 HS7 hty j1' k1' s1f s1''
                    go_wp2
                    go_meet
                    case rel => exact HS.out
                  · have HS := Aside0.mk (fun n => (⟨i, _, _, .dest (rd_at j0 j1) (elem_at k0 k1) hd4 hto, ⟨HL6.out.below (pw_below_drewN (Below.refl _ _) n)⟩⟩ : ∃ i' l' v', Chg i l i' l' ∧ Aside0 (LpF w i q m (some ad) l.length c a0 a1 gm i' l' v' (w5.drewN n))))
                    clear HL6
                    clear hd4 hd5
                    generalize ((rdR l j).f1.getD kk.toNat cz).f3 = f3 at e4 hto
                    have hq2 : (f3.toList == ByteArray.toList ⟨#[111, 116, 104, 101, 114]⟩) = false := by
                      have := seq_dec f3 ⟨#[111, 116, 104, 101, 114]⟩
                      rw [decide_eq_false hto] at this
                      exact this
                    have hq1 : (f3.toList == [111, 116, 104, 101, 114]) = false := by
                      rw [toList_data] at hq2
                      rw [toList_data]
                      simpa using hq2
                    go_quiet (fail)
                    go_wp2
                    go_meet
                    case rel => exact HS.out _
                · skip
                  go_wp2_with (at_builtin; refine Kd.S_append kRung (w0 := w) w.heap.size rfl (.tmp 85) (.tmp 87) 22 40 (.agg #[.string ⟨#[]⟩, .slice none 0 0, .slice none 0 0, .string ⟨#[]⟩]) 80 rfl Tryd.underlying22 PPrinterMatchesReference.info40 rfl (Nat.zero_lt_succ 3) (by omega) (.slice (some ⟨g, 0, none⟩) l.length cap) l PPrinterMatchesReference.z40 [.string ⟨#[]⟩, .slice none 0 0, .slice none 0 0, .string ⟨#[]⟩] (fun _ => True) (fun k => w3.heap.size ≤ k) rfl rfl (PPrinterMatchesReference.k40_mkM w3 w.heap.size _ PPrinterMatchesReference.z40 (Kd.R_nil _ _ _ _ _) (Kd.R_nil _ _ _ _ _)) HL3.out.apart (fun _ _ => trivial) (HL3.out.elder (Below.refl _ _)) HL3.out.b HL3.out.b.size (by omega) ?_; intro v1 w5 hs hb hg hat; obtain ⟨hkm, hLn⟩ := HL3.out.put hs hb hg; obtain ⟨B3, d3, e, -, -⟩ := Kd.S_reads hs; obtain rfl : v1 = .slice B3 (l.length + 1) d3 := (by rw [e, List.length_append, List.length_singleton]); have p3 := blk_cell hkm 3; have z3 := blk_frozen hkm 3; clear e hs hb hg hat)
                  go_meet
                  case rel => exact ⟨i, _, _, .rung _, ⟨hLn⟩⟩
              · by_cases hc0 : (0 : Int) < (rdR l j).f2.length
                · skip
                  obtain ⟨kk, hkk⟩ : ∃ kk, a1.tmod ((rdR l j).f2.length : Int) = kk := ⟨_, rfl⟩
                  have k0 : 0 ≤ kk := by rw [← hkk]; exact Int.tmod_nonneg _ ha1.1
                  have k1 : kk < (rdR l j).f2.length := by rw [← hkk]; exact Int.tmod_lt_of_pos _ (by omega)
                  obtain ⟨a, c1', s1', -⟩ := S_coil HL3.out.s j j0 j1 kk k0 k1
                  clear s1 s2
                  go_wp2_with fail
                  go_quiet (fail)
                  have HL5 := Aside0.mk (HL3.out.below (pw_below_drewN (Below.refl _ _) nq))
                  have s1d := pw_cell_below (pw_below_drewN (Below.refl w3.heap.size w3) nq) s1'
                  clear HL3 y0 y1 y2 y3 y4 y5 y6 y7 y8 y9 s1'
                  generalize w3.drewN nq = w4 at HL5 s1d ⊢
                  clear w3
                  obtain ⟨a', c2', s1'', hBa, -, hty, sk, sfr, hset⟩ := S_coil HL5.out.s j j0 j1 kk k0 k1
                  obtain ⟨rfl, rfl⟩ : a = a' ∧ c1' = c2' := by simpa using s1d.symm.trans s1''
                  have fz := sfr 0
                  simp only [Nat.add_zero] at fz
                  have okc := (OK.out.rung (List.mem_of_getElem? (rd_at j0 j1))).os _ (List.mem_of_getElem? (elem_at (z := oz) k0 k1))
                  have o0 := okc.k0
                  have o1 := okc.k1
                  obtain ⟨y, hy⟩ : ∃ y, (((rdR l j).f2.getD kk.toNat oz).f0 + 1).tmod 4 = y := ⟨_, rfl⟩
                  have y0 : 0 ≤ y := by rw [← hy]; exact Int.tmod_nonneg _ (by omega)
                  have y1 : y < 4 := by rw [← hy]; exact Int.tmod_lt_of_pos _ (by omega)
                  have y2 : y ≠ ((rdR l j).f2.getD kk.toNat oz).f0 := by rw [← hy, Int.tmod_eq_emod_of_nonneg (by omega)]; omega
                  have HS := Aside0.mk (⟨i, _, _, .coil (rd_at j0 j1) (elem_at k0 k1) y0 y1 y2, ⟨HL5.out.store hBa hty (by decide) (by decide) (hset y)⟩⟩ : ∃ i' l' v', Chg i l i' l' ∧ Aside0 (LpF w i q m A l.length c a0 a1 gm i' l' v' (w4.setCell ⟨a, kk.toNat * 3, none⟩ (.int .i64 y))))
                  clear hset HL5 okc sfr hty
                  generalize ((rdR l j).f2.getD kk.toNat oz).f0 = f0 at *
                  have hwf : wrap64 (f0 + 1) = f0 + 1 := w64 (by omega) (by omega)
                  go_wp2
                  go_meet
                  case rel => exact HS.out
                · skip
                  go_wp2_with (at_builtin; refine Kd.S_append kRung (w0 := w) w.heap.size rfl (.tmp 85) (.tmp 87) 22 40 (.agg #[.string ⟨#[]⟩, .slice none 0 0, .slice none 0 0, .string ⟨#[]⟩]) 80 rfl Tryd.underlying22 PPrinterMatchesReference.info40 rfl (Nat.zero_lt_succ 3) (by omega) (.slice (some ⟨g, 0, none⟩) l.length cap) l PPrinterMatchesReference.z40 [.string ⟨#[]⟩, .slice none 0 0, .slice none 0 0, .string ⟨#[]⟩] (fun _ => True) (fun k => w3.heap.size ≤ k) rfl rfl (PPrinterMatchesReference.k40_mkM w3 w.heap.size _ PPrinterMatchesReference.z40 (Kd.R_nil _ _ _ _ _) (Kd.R_nil _ _ _ _ _)) HL3.out.apart (fun _ _ => trivial) (HL3.out.elder (Below.refl _ _)) HL3.out.b HL3.out.b.size (by omega) ?_; intro v1 w5 hs hb hg hat; obtain ⟨hkm, hLn⟩ := HL3.out.put hs hb hg; obtain ⟨B3, d3, e, -, -⟩ := Kd.S_reads hs; obtain rfl : v1 = .slice B3 (l.length + 1) d3 := (by rw [e, List.length_append, List.length_singleton]); have p3 := blk_cell hkm 3; have z3 := blk_frozen hkm 3; clear e hs hb hg hat)
                  go_meet
                  case rel => exact ⟨i, _, _, .rung _, ⟨hLn⟩⟩
              · have hz := size_ok OK.out.sz
                obtain ⟨y, hy⟩ : ∃ y, (i + 1).tmod 300 = y := ⟨_, rfl⟩
                have v0 : 0 ≤ y := by rw [← hy]; exact Int.tmod_nonneg _ (by omega)
                have v2 : y ≠ i := by rw [← hy, Int.tmod_eq_emod_of_nonneg (by omega)]; omega
                have hwf : wrap64 (i + 1) = i + 1 := w64 (by omega) (by omega)
                have HS := Aside0.mk (⟨y, _, _, .inputs v0 v2, ⟨HL3.out.inp y⟩⟩ : ∃ i' l' v', Chg i l i' l' ∧ Aside0 (LpF w i q m A l.length c a0 a1 gm i' l' v' (w3.setCell ⟨gm, 0, none⟩ (.int .i64 y))))
                have fz := blk_frozen HL3.out.km 0
                clear s1 s2
                go_wp2
                go_meet
                case rel => exact HS.out
              · skip
                go_wp2_with (at_builtin; refine Kd.S_append kRung (w0 := w) w.heap.size rfl (.tmp 85) (.tmp 87) 22 40 (.agg #[.string ⟨#[]⟩, .slice none 0 0, .slice none 0 0, .string ⟨#[]⟩]) 80 rfl Tryd.underlying22 PPrinterMatchesReference.info40 rfl (Nat.zero_lt_succ 3) (by omega) (.slice (some ⟨g, 0, none⟩) l.length cap) l PPrinterMatchesReference.z40 [.string ⟨#[]⟩, .slice none 0 0, .slice none 0 0, .string ⟨#[]⟩] (fun _ => True) (fun k => w3.heap.size ≤ k) rfl rfl (PPrinterMatchesReference.k40_mkM w3 w.heap.size _ PPrinterMatchesReference.z40 (Kd.R_nil _ _ _ _ _) (Kd.R_nil _ _ _ _ _)) HL3.out.apart (fun _ _ => trivial) (HL3.out.elder (Below.refl _ _)) HL3.out.b HL3.out.b.size (by omega) ?_; intro v1 w5 hs hb hg hat; obtain ⟨hkm, hLn⟩ := HL3.out.put hs hb hg; obtain ⟨B3, d3, e, -, -⟩ := Kd.S_reads hs; obtain rfl : v1 = .slice B3 (l.length + 1) d3 := (by rw [e, List.length_append, List.length_singleton]); have p3 := blk_cell hkm 3; have z3 := blk_frozen hkm 3; clear e hs hb hg hat)
                go_meet
                case rel => exact ⟨i, _, _, .rung _, ⟨hLn⟩⟩
            case rest =>
              obtain ⟨i', l', v', hchg, HL4⟩ := hcut
              obtain ⟨B, d, rfl, hd, hC⟩ := Kd.S_reads HL4.out.s
              have HC4 := Aside0.mk hC
              obtain ⟨hL1, hL2⟩ := HLaw.out (by first | rfl | trivial) i' l' hchg
              have HB := Aside0.mk (ladPrint_bad (i := i') (q := q) (m := m) (l := l'))
              have HP4 := Aside0.mk (HPm.out i' l' wc B d HC4.out hd HL4.out.b)
              have HE4 := Aside0.mk (fun W (hW : Below wc.heap.size wc W) => HEq.out i' l' W B d (Kd.C_below HC4.out hW) hd (below_step HL4.out.b hW))
              rw [hL1] at HE4
              generalize (ladPrint i' q m l').1 = ut at HP4 hL2 HB
              generalize (ladPrint i' q m l').2 = uf at HP4 hL2 HB
              have HD := Aside0.mk hL2
              clear hC hL1 hL2 HLaw hchg HPm HEq HT HPr y0 y1 y2 y3 y4 y5 y6 y7 y8 y9
              obtain ⟨y0, y1, y2, y3, y4, y5, y6, y7, y8, y9⟩ := HL4.out.cells
              go_wp2_with fail
              refine HP4.out.mono ?_
              rintro e w5 ⟨rfl, hb⟩
              have B5 := Aside0.mk hb
              clear hb HP4 y0 y1 y2 y3 y4 y5 y6 y7 y8 y9
              go_wp2_with fail
              refine (HAl.out _ (below_step HL4.out.b B5.out)).mono ?_
              rintro e w6 ⟨rfl, hb⟩
              have B6 := Aside0.mk (below_step B5.out hb)
              clear hb B5
              obtain ⟨y0, y1, y2, y3, y4, y5, y6, y7, y8, y9⟩ := (HL4.out.below B6.out).cells
              go_wp2_with fail
              refine (HE4.out _ B6.out).mono ?_
              rintro e w7 ⟨rfl, hb⟩
              have FB := below_step (below_step HL4.out.b B6.out) hb
              clear hb y0 y1 y2 y3 y4 y5 y6 y7 y8 y9
              by_cases huf : uf = 0
              · subst huf
                have hne : ut ≠ pt := HD.out (by first | rfl | trivial)
                go_wp2
                go_ret
                exact ⟨by simp [hne], FB⟩
              · obtain ⟨rfl, -⟩ := HB.out huf
                go_wp2
                go_ret
                exact ⟨rfl, FB⟩
    · go_wp2_with fail
      refine (HAl.out _ HW2.out).mono ?_
      rintro e w3 ⟨rfl, hb⟩
      have FB := below_step HW2.out hb
      go_wp2
      go_ret
      exact ⟨rfl, FB⟩
end Go.Proofs.YtolmkdhgnganaaaDoor.H
