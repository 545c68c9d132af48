/-
  The laws of the address layer as calls: AddrRoundTrip and AddrCheckIsMonotone return true at every input, and nothing that was there is changed. Condition: the letters, strconv's table of powers and its two errors are laid as their initialisers lay them.
-/
import Derived.Test.YtihjdjadmofefaaDoorHAddr
import Derived.Test.YtihjdjadmofefaaDoorSpA2
import Derived.Test.YtihjdjadmofefaaDoorWEqStruct
set_option linter.unusedVariables false
set_option linter.unusedSimpArgs false
namespace Go.Proofs.YtihjdjadmofefaaDoor.H
open Go Go.RowKit Go.Proofs Go.Proofs.YtihjdjadmofefaaDoorW.PrintWords Go.Proofs.YtihjdjadmofefaaDoor.Sp

theorem prs_I00 (w : World) (hl : Lets w) (he : Errs w) : Calls Tryd.prog 25 #[.string ⟨#[73, 48, 48]⟩] w (RetB w (.tuple #[.agg #[.int .i64 0, .int .i64 0], .int .i64 6])) :=
  prs_b ⟨#[73, 48, 48]⟩ w (by decide) hl he
theorem prs_Q256 (w : World) (hl : Lets w) (he : Errs w) : Calls Tryd.prog 25 #[.string ⟨#[81, 50, 53, 54]⟩] w (RetB w (.tuple #[.agg #[.int .i64 0, .int .i64 0], .int .i64 3])) := by
  have h : addrParse [81, 50, 53, 54] = (0, 0, 3) := by decide +kernel
  have := prs_b ⟨#[81, 50, 53, 54]⟩ w (by decide) hl he
  rw [show (⟨#[81, 50, 53, 54]⟩ : ByteArray).data.toList = [81, 50, 53, 54] from rfl, h] at this
  exact this
theorem fmt_M12 (w : World) (hl : Lets w) (hp : Pows w) : Calls Tryd.prog 23 #[.agg #[.int .i64 2, .int .i64 12]] w (RetB w (.string ⟨#[77, 49, 50]⟩)) := by
  have h : addrFmt 2 12 = ⟨#[77, 49, 50]⟩ := by
    apply bytes_ext
    rw [fmt_data 2 12 (by omega)]
    decide +kernel
  have := fmt_b 2 12 w hl hp
  rw [h] at this
  exact this

set_option maxHeartbeats 1000000 in
theorem alive_b (w : World) (hl : Lets w) (hp : Pows w) (he : Errs w) : Calls Tryd.prog 22 #[] w (RetB w (.bool true)) := by
  go_enter Tryd.func22, Tryd.ntmps22
  go_wp2_with fail
  refine (prs_I00 _ hl he).mono ?_
  rintro e1 w1 ⟨rfl, hb1⟩
  go_wp2_with fail
  refine (prs_Q256 _ (hl.below (below_alloc hb1 _)) (he.below (below_alloc hb1 _))).mono ?_
  rintro e2 w2 ⟨rfl, hb2⟩
  have hz2 := below_step (below_alloc hb1 _) hb2
  go_wp2_with fail
  refine (fmt_M12 _ (hl.below (below_alloc hz2 _)) (hp.below (below_alloc hz2 _))).mono ?_
  rintro e3 w3 ⟨rfl, hb3⟩
  have hz3 := below_step (below_alloc hz2 _) hb3
  clear hb1 hb2 hb3 hz2
  go_wp2
  go_ret
  exact ⟨rfl, hz3⟩

/-- Two addresses held against each other. -/
theorem eqAddr (d : Nat) (w : World) (x0 y0 : Int) (x1 y1 : Int) :
    (Op.equalIn (d + 2) 48 (.agg #[.int .i64 x0, .int .i64 x1]) (.agg #[.int .i64 y0, .int .i64 y1])).run Tryd.prog w = .ok (x0 == y0 && (x1 == y1)) w := by
  refine eqA_of Tryd.underlying48 (by kernel_rfl) ?_
  refine eqf_cons (by rfl) (by go_simp; rfl) (by go_simp; rfl) (by go_simp) ?_
  exact eqf_last (by rfl) (by go_simp; rfl) (by go_simp; rfl) (by go_simp)

attribute [local go_sem high] eqAddr

set_option maxHeartbeats 2000000 in
theorem round_long (i q m e sp n : Int) (t : ByteArray) (w : World) (hl : Lets w) (hp : Pows w) (he : Errs w) (ht : (1000 : Int) < (t.size : Int)) :
    Calls Tryd.prog 8 #[.agg #[.int .i64 i, .int .i64 q, .int .i64 m, .int .i64 e], .agg #[.int .i64 sp, .int .i64 n], .string t] w (RetB w (.bool true)) := by
  go_enter Tryd.func8, Tryd.ntmps8
  go_wp2_with fail
  have h0 := below_alloc (below_alloc (Below.refl _ w) (.cells #[.int .i64 i, .int .i64 q, .int .i64 m, .int .i64 e] 58)) (.cells #[.int .i64 sp, .int .i64 n] 48)
  refine (alive_b _ (hl.below h0) (hp.below h0) (he.below h0)).mono ?_
  rintro e1 w1 ⟨rfl, hb1⟩
  have hz := below_step h0 hb1
  clear hb1
  go_wp2
  go_ret
  exact ⟨rfl, hz⟩

set_option maxHeartbeats 4000000 in
theorem round_ok (i q m e sp n : Int) (t : ByteArray) (w : World) (hl : Lets w) (hp : Pows w) (he : Errs w) (ht : ¬ (1000 : Int) < (t.size : Int)) (hg : ¬ (sp < 0 ∨ 2 < sp ∨ n < 0 ∨ 255 < n)) :
    Calls Tryd.prog 8 #[.agg #[.int .i64 i, .int .i64 q, .int .i64 m, .int .i64 e], .agg #[.int .i64 sp, .int .i64 n], .string t] w (RetB w (.bool true)) := by
  have hp1 := parse_fmt sp n hg
  have hx : 0 < (addrFmt sp n).size ∧ (addrFmt sp n).size ≤ 5 := by
    have h1 := size_data (addrFmt sp n)
    rw [fmt_data sp n hg] at h1
    have h2 := dec_len ⟨n.toNat, by omega⟩
    simp only [List.length_cons] at h1
    simp only at h2
    omega
  have hf := fmt_parse t
  have hzr := parse_zero t.data.toList
  have F1 := fmt_b sp n
  have F2 := fun w => prs_b (addrFmt sp n) w (by omega)
  rw [hp1] at F2
  have F3 := prs_b t
  generalize hX : addrFmt sp n = X at *
  generalize ha : (addrParse t.data.toList).1 = a at *
  generalize hb : (addrParse t.data.toList).2.1 = b at *
  generalize hc : (addrParse t.data.toList).2.2 = c at *
  have x1 : X.toList.isEmpty = false := by rw [toList_isEmpty]; exact decide_eq_false (by omega)
  have x2 : ¬ X.toList = [] := by rw [toList_nil_iff]; omega
  have G1 := Aside0.mk F1
  have G2 := Aside0.mk F2
  have G3 := Aside0.mk F3
  have HF := Aside0.mk hf
  have HZ := Aside0.mk hzr
  clear F1 F2 F3 hX ha hb hc hx hp1 hf hzr
  have h0 := below_alloc (below_alloc (Below.refl _ w) (.cells #[.int .i64 i, .int .i64 q, .int .i64 m, .int .i64 e] 58)) (.cells #[.int .i64 sp, .int .i64 n] 48)
  have k0 := blk_new (w.alloc (.cells #[.int .i64 i, .int .i64 q, .int .i64 m, .int .i64 e] 58)) (.cells #[.int .i64 sp, .int .i64 n] 48)
  have K0 := Aside0.mk k0
  clear k0
  go_enter Tryd.func8, Tryd.ntmps8
  go_wp2_with fail
  refine (G1.out _ (hl.below h0) (hp.below h0)).mono ?_
  rintro e1 w1 ⟨rfl, hb1⟩
  have hz1 := below_step h0 hb1
  have K1 := Aside0.mk (blk_below K0.out hb1)
  clear hb1
  go_wp2_with fail
  refine (G2.out _ (hl.below hz1) (he.below hz1)).mono ?_
  rintro e2 w2 ⟨rfl, hb2⟩
  have hz2 := below_step hz1 hb2
  have K2 := Aside0.mk (blk_below K1.out hb2)
  have c0 : w2.cell? ⟨w.heap.size + 1, 0, none⟩ = some (.int .i64 sp) := by have := blk_cell K2.out 0; simpa using this
  have c1 : w2.cell? ⟨w.heap.size + 1, 1, none⟩ = some (.int .i64 n) := by have := blk_cell K2.out 1; simpa using this
  have lt2 : w.heap.size + 1 < w2.heap.size := by have := blk_lt K2.out; simpa using this
  clear hb2 K0 K1
  simp only [prsV]
  go_wp2_with fail
  refine (G3.out _ (by omega) (hl.below (below_alloc hz2 _)) (he.below (below_alloc hz2 _))).mono ?_
  rintro e3 w3 ⟨rfl, hb3⟩
  have hz3 := below_step (below_alloc hz2 _) hb3
  clear hb3 c0 c1 lt2 K2
  simp only [prsV]
  by_cases hc0 : c = 0
  · obtain rfl := hc0
    have hft := HF.out rfl
    have FM := Aside0.mk (fmt_b a b)
    rw [hft] at FM
    clear hft
    go_wp2_with fail
    refine (alive_b _ (hl.below (below_alloc hz3 _)) (hp.below (below_alloc hz3 _)) (he.below (below_alloc hz3 _))).mono ?_
    rintro e4 w4 ⟨rfl, hb4⟩
    have hz4 := below_step (below_alloc hz3 _) hb4
    have K4 := blk_below (blk_new w3 _) hb4
    have c0 : w4.cell? ⟨w3.heap.size, 0, none⟩ = some (.int .i64 a) := by have := blk_cell K4 0; simpa using this
    have c1 : w4.cell? ⟨w3.heap.size, 1, none⟩ = some (.int .i64 b) := by have := blk_cell K4 1; simpa using this
    clear hb4 K4
    go_wp2_with fail
    refine (FM.out _ (hl.below hz4) (hp.below hz4)).mono ?_
    rintro e5 w5 ⟨rfl, hb5⟩
    have hz5 := below_step hz4 hb5
    clear hb5
    go_wp2
    go_ret
    exact ⟨by simp, hz5⟩
  · obtain ⟨rfl, rfl⟩ := HZ.out hc0
    have hcb : (c == 0) = false := by simpa using hc0
    go_wp2_with fail
    refine (alive_b _ (hl.below (below_alloc hz3 _)) (hp.below (below_alloc hz3 _)) (he.below (below_alloc hz3 _))).mono ?_
    rintro e4 w4 ⟨rfl, hb4⟩
    have hz4 := below_step (below_alloc hz3 _) hb4
    have K4 := blk_below (blk_new w3 _) hb4
    have c0 : w4.cell? ⟨w3.heap.size, 0, none⟩ = some (.int .i64 0) := by have := blk_cell K4 0; simpa using this
    have c1 : w4.cell? ⟨w3.heap.size, 1, none⟩ = some (.int .i64 0) := by have := blk_cell K4 1; simpa using this
    clear hb4 K4
    go_wp2
    go_ret
    exact ⟨by simp, hz4⟩

set_option maxHeartbeats 4000000 in
theorem round_bad (i q m e sp n : Int) (t : ByteArray) (w : World) (hl : Lets w) (hp : Pows w) (he : Errs w) (ht : ¬ (1000 : Int) < (t.size : Int)) (hg : sp < 0 ∨ 2 < sp ∨ n < 0 ∨ 255 < n) :
    Calls Tryd.prog 8 #[.agg #[.int .i64 i, .int .i64 q, .int .i64 m, .int .i64 e], .agg #[.int .i64 sp, .int .i64 n], .string t] w (RetB w (.bool true)) := by
  have hx := fmt_empty sp n hg
  have hf := fmt_parse t
  have hzr := parse_zero t.data.toList
  have hv := valid_fmt i q m e sp n
  have F1 := fmt_b sp n
  rw [hx] at F1
  have F3 := prs_b t
  have F4 := chkSize_b i q m e
  have F5 := chk_b i q m e sp n
  generalize ha : (addrParse t.data.toList).1 = a at *
  generalize hb : (addrParse t.data.toList).2.1 = b at *
  generalize hc : (addrParse t.data.toList).2.2 = c at *
  generalize hz1 : chkSize i q m e = z1 at *
  generalize hz2 : chkAddr i q m sp n = z2 at *
  have hzz : (z1 == 0) = false ∨ (z1 = 0 ∧ (z2 == 0) = false) := by
    by_cases h1 : z1 = 0
    · refine .inr ⟨h1, ?_⟩
      have h2 : z2 ≠ 0 := fun h2 => hv h1 h2 hg
      simpa using h2
    · exact .inl (by simpa using h1)
  have G1 := Aside0.mk F1
  have G3 := Aside0.mk F3
  have G4 := Aside0.mk F4
  have G5 := Aside0.mk F5
  have HF := Aside0.mk hf
  have HZ := Aside0.mk hzr
  clear F1 F3 F4 F5 hx ha hb hc hf hzr hz1 hz2 hv hg
  have h0 := below_alloc (below_alloc (Below.refl _ w) (.cells #[.int .i64 i, .int .i64 q, .int .i64 m, .int .i64 e] 58)) (.cells #[.int .i64 sp, .int .i64 n] 48)
  have kz := blk_alloc (blk_new w (.cells #[.int .i64 i, .int .i64 q, .int .i64 m, .int .i64 e] 58)) (.cells #[.int .i64 sp, .int .i64 n] 48)
  have ka := blk_new (w.alloc (.cells #[.int .i64 i, .int .i64 q, .int .i64 m, .int .i64 e] 58)) (.cells #[.int .i64 sp, .int .i64 n] 48)
  have KZ := Aside0.mk kz
  have KA := Aside0.mk ka
  clear kz ka
  rcases hzz with hq | ⟨rfl, hq⟩
  · go_enter Tryd.func8, Tryd.ntmps8
    go_wp2_with fail
    refine (G1.out _ (hl.below h0) (hp.below h0)).mono ?_
    rintro e1 w1 ⟨rfl, hb1⟩
    have hz1 := below_step h0 hb1
    have K1 := Aside0.mk (blk_below KZ.out hb1)
    have K2 := Aside0.mk (blk_below KA.out hb1)
    have c0 : w1.cell? ⟨w.heap.size, 0, none⟩ = some (.int .i64 i) := by have := blk_cell K1.out 0; simpa using this
    have c1 : w1.cell? ⟨w.heap.size, 1, none⟩ = some (.int .i64 q) := by have := blk_cell K1.out 1; simpa using this
    have c2 : w1.cell? ⟨w.heap.size, 2, none⟩ = some (.int .i64 m) := by have := blk_cell K1.out 2; simpa using this
    have c3 : w1.cell? ⟨w.heap.size, 3, none⟩ = some (.int .i64 e) := by have := blk_cell K1.out 3; simpa using this
    clear hb1 KZ KA
    go_wp2_with fail
    refine (G4.out _).mono ?_
    rintro e2 w2 ⟨rfl, hb2⟩
    have hz2 := below_step hz1 hb2
    clear hb2 c0 c1 c2 c3 K1 K2
    go_wp2_with fail
    refine (G3.out _ (by omega) (hl.below hz2) (he.below hz2)).mono ?_
    rintro e3 w3 ⟨rfl, hb3⟩
    have hz3 := below_step hz2 hb3
    clear hb3
    simp only [prsV]
    by_cases hc0 : c = 0
    · obtain rfl := hc0
      have hft := HF.out rfl
      have FM := Aside0.mk (fmt_b a b)
      rw [hft] at FM
      clear hft
      go_wp2_with fail
      refine (alive_b _ (hl.below (below_alloc hz3 _)) (hp.below (below_alloc hz3 _)) (he.below (below_alloc hz3 _))).mono ?_
      rintro e4 w4 ⟨rfl, hb4⟩
      have hz4 := below_step (below_alloc hz3 _) hb4
      have K4 := blk_below (blk_new w3 _) hb4
      have c0 : w4.cell? ⟨w3.heap.size, 0, none⟩ = some (.int .i64 a) := by have := blk_cell K4 0; simpa using this
      have c1 : w4.cell? ⟨w3.heap.size, 1, none⟩ = some (.int .i64 b) := by have := blk_cell K4 1; simpa using this
      clear hb4 K4
      go_wp2_with fail
      refine (FM.out _ (hl.below hz4) (hp.below hz4)).mono ?_
      rintro e5 w5 ⟨rfl, hb5⟩
      have hz5 := below_step hz4 hb5
      clear hb5
      go_wp2
      go_ret
      exact ⟨by simp, hz5⟩
    · obtain ⟨rfl, rfl⟩ := HZ.out hc0
      have hcb : (c == 0) = false := by simpa using hc0
      go_wp2_with fail
      refine (alive_b _ (hl.below (below_alloc hz3 _)) (hp.below (below_alloc hz3 _)) (he.below (below_alloc hz3 _))).mono ?_
      rintro e4 w4 ⟨rfl, hb4⟩
      have hz4 := below_step (below_alloc hz3 _) hb4
      have K4 := blk_below (blk_new w3 _) hb4
      have c0 : w4.cell? ⟨w3.heap.size, 0, none⟩ = some (.int .i64 0) := by have := blk_cell K4 0; simpa using this
      have c1 : w4.cell? ⟨w3.heap.size, 1, none⟩ = some (.int .i64 0) := by have := blk_cell K4 1; simpa using this
      clear hb4 K4
      go_wp2
      go_ret
      exact ⟨by simp, hz4⟩
  · go_enter Tryd.func8, Tryd.ntmps8
    go_wp2_with fail
    refine (G1.out _ (hl.below h0) (hp.below h0)).mono ?_
    rintro e1 w1 ⟨rfl, hb1⟩
    have hz1 := below_step h0 hb1
    have K1 := Aside0.mk (blk_below KZ.out hb1)
    have K2 := Aside0.mk (blk_below KA.out hb1)
    have c0 : w1.cell? ⟨w.heap.size, 0, none⟩ = some (.int .i64 i) := by have := blk_cell K1.out 0; simpa using this
    have c1 : w1.cell? ⟨w.heap.size, 1, none⟩ = some (.int .i64 q) := by have := blk_cell K1.out 1; simpa using this
    have c2 : w1.cell? ⟨w.heap.size, 2, none⟩ = some (.int .i64 m) := by have := blk_cell K1.out 2; simpa using this
    have c3 : w1.cell? ⟨w.heap.size, 3, none⟩ = some (.int .i64 e) := by have := blk_cell K1.out 3; simpa using this
    clear hb1 KZ KA
    go_wp2_with fail
    refine (G4.out _).mono ?_
    rintro e2 w2 ⟨rfl, hb2⟩
    have hz2' := below_step hz1 hb2
    have d0 := pw_cell_below hb2 c0
    have d1 := pw_cell_below hb2 c1
    have d2 := pw_cell_below hb2 c2
    have d3 := pw_cell_below hb2 c3
    have K3 := Aside0.mk (blk_below K2.out hb2)
    have d4 : w2.cell? ⟨w.heap.size + 1, 0, none⟩ = some (.int .i64 sp) := by have := blk_cell K3.out 0; simpa using this
    have d5 : w2.cell? ⟨w.heap.size + 1, 1, none⟩ = some (.int .i64 n) := by have := blk_cell K3.out 1; simpa using this
    clear hb2 c0 c1 c2 c3 K1 K2
    go_wp2_with fail
    refine (G5.out _).mono ?_
    rintro e2' w2' ⟨rfl, hb2'⟩
    have hz2 := below_step hz2' hb2'
    clear hb2' d0 d1 d2 d3 d4 d5 K3
    go_wp2_with fail
    refine (G3.out _ (by omega) (hl.below hz2) (he.below hz2)).mono ?_
    rintro e3 w3 ⟨rfl, hb3⟩
    have hz3 := below_step hz2 hb3
    clear hb3
    simp only [prsV]
    by_cases hc0 : c = 0
    · obtain rfl := hc0
      have hft := HF.out rfl
      have FM := Aside0.mk (fmt_b a b)
      rw [hft] at FM
      clear hft
      go_wp2_with fail
      refine (alive_b _ (hl.below (below_alloc hz3 _)) (hp.below (below_alloc hz3 _)) (he.below (below_alloc hz3 _))).mono ?_
      rintro e4 w4 ⟨rfl, hb4⟩
      have hz4 := below_step (below_alloc hz3 _) hb4
      have K4 := blk_below (blk_new w3 _) hb4
      have c0 : w4.cell? ⟨w3.heap.size, 0, none⟩ = some (.int .i64 a) := by have := blk_cell K4 0; simpa using this
      have c1 : w4.cell? ⟨w3.heap.size, 1, none⟩ = some (.int .i64 b) := by have := blk_cell K4 1; simpa using this
      clear hb4 K4
      go_wp2_with fail
      refine (FM.out _ (hl.below hz4) (hp.below hz4)).mono ?_
      rintro e5 w5 ⟨rfl, hb5⟩
      have hz5 := below_step hz4 hb5
      clear hb5
      go_wp2
      go_ret
      exact ⟨by simp, hz5⟩
    · obtain ⟨rfl, rfl⟩ := HZ.out hc0
      have hcb : (c == 0) = false := by simpa using hc0
      go_wp2_with fail
      refine (alive_b _ (hl.below (below_alloc hz3 _)) (hp.below (below_alloc hz3 _)) (he.below (below_alloc hz3 _))).mono ?_
      rintro e4 w4 ⟨rfl, hb4⟩
      have hz4 := below_step (below_alloc hz3 _) hb4
      have K4 := blk_below (blk_new w3 _) hb4
      have c0 : w4.cell? ⟨w3.heap.size, 0, none⟩ = some (.int .i64 0) := by have := blk_cell K4 0; simpa using this
      have c1 : w4.cell? ⟨w3.heap.size, 1, none⟩ = some (.int .i64 0) := by have := blk_cell K4 1; simpa using this
      clear hb4 K4
      go_wp2
      go_ret
      exact ⟨by simp, hz4⟩

/-- AddrRoundTrip returns true. -/
theorem round_b (i q m e sp n : Int) (t : ByteArray) (w : World) (hl : Lets w) (hp : Pows w) (he : Errs w) :
    Calls Tryd.prog 8 #[.agg #[.int .i64 i, .int .i64 q, .int .i64 m, .int .i64 e], .agg #[.int .i64 sp, .int .i64 n], .string t] w (RetB w (.bool true)) := by
  by_cases ht : (1000 : Int) < (t.size : Int)
  · exact round_long i q m e sp n t w hl hp he ht
  · by_cases hg : sp < 0 ∨ 2 < sp ∨ n < 0 ∨ 255 < n
    · exact round_bad i q m e sp n t w hl hp he ht hg
    · exact round_ok i q m e sp n t w hl hp he ht hg
end Go.Proofs.YtihjdjadmofefaaDoor.H
