/-
  What the claim's row leans on, part 2: The parser's jump line. The parser's coil line. The parser's contact line. The two closures of the parser that look a label up (written by mkhas.py out of XLad). (*parser).begin in memory: what holds while its last region runs, whichever of its operations have run. The parser's rung line. A map from strings that the call itself has made: what its block holds, entry by entry. The parser's table of keywords: each with its least and most words, what it asks for, and its method.
-/
import Derived.Test.YtolmkdhgnganaaaGreatDoorMgPMa
set_option linter.unusedVariables false
set_option linter.unusedSimpArgs false
namespace Go.Proofs.YtolmkdhgnganaaaGreatDoor.H
open Go Go.RowKit Go.Proofs Go.Proofs.YtolmkdhgnganaaaGreatDoorW.PrintWords Go.Proofs.YtolmkdhgnganaaaGreatDoorW.PrintLast Go.Proofs.YtolmkdhgnganaaaGreatDoorW.PrintMore Go.Proofs.YtolmkdhgnganaaaGreatDoor.Sp
/-- What a jump line does (n: its number). -/
def jumpS (S : PSt) (n : Int) (ws : List ByteArray) : PSt × Int :=
  if (rdR S.rungs ((S.rungs.length - 1 : Nat) : Int)).f3.toList.isEmpty = false then (S, 9) else
  if isNm (ws.getD 1 ⟨#[]⟩).data.toList = false then (S, 6) else
    (⟨S.i, S.q, S.m, S.sized, S.rungs.set (S.rungs.length - 1) ⟨(rdR S.rungs ((S.rungs.length - 1 : Nat) : Int)).f0, (rdR S.rungs ((S.rungs.length - 1 : Nat) : Int)).f1, (rdR S.rungs ((S.rungs.length - 1 : Nat) : Int)).f2, ws.getD 1 ⟨#[]⟩⟩, S.lines, S.jumps.set (S.rungs.length - 1) n⟩, 0)
set_option maxHeartbeats 4000000 in
set_option maxRecDepth 100000 in
theorem jump_p {B gp : Nat} {S : PSt} {vr vl vj : Value} {w : World} (h : PF B gp S vr vl vj w) (n : Int) (b wc : Nat) (ws : List ByteArray) (hw : Kd.string.R 9 w B (fun _ => True) (.slice (some ⟨b, 0, none⟩) 2 wc) ws)
    (hin : 0 < S.rungs.length) :
    Calls Tryz.prog 65 #[.pointer (some ⟨gp, 0, none⟩), .agg #[.int .i64 n, .slice (some ⟨b, 0, none⟩) 2 wc]] w (ParR B gp w (jumpS S n ws)) := by
  have hn64 := h.n64
  obtain ⟨g, cap, rfl, hgb, _, htg⟩ := Kd.S_form h.r hin
  obtain ⟨gj, cj, rfl, hjb, _, htj⟩ := Kd.R_form h.j (by rw [h.nj]; exact hin)
  have hnj := h.nj
  rw [hnj] at h
  obtain ⟨k, hk⟩ : ∃ k, k = S.rungs.length - 1 := ⟨_, rfl⟩
  generalize hr : jumpS S n ws = r
  have HR := Aside0.mk hr
  clear hr
  have hk1 : k < S.rungs.length := by omega
  have hkl : S.rungs.length = k + 1 := by omega
  generalize hw1 : ws.getD 1 ⟨#[]⟩ = x
  have H := Aside0.mk h
  have HK := Aside0.mk hk
  have HKL := Aside0.mk hkl
  have hki : (S.rungs.length : Int) = (k : Int) + 1 := by omega
  have HB0 := Aside0.mk (below_alloc (Below.refl w.heap.size w) (.cells #[.int .i64 n, .slice (some ⟨b, 0, none⟩) 2 wc] 81))
  have K0 := Aside0.mk (blk_new w (.cells #[.int .i64 n, .slice (some ⟨b, 0, none⟩) 2 wc] 81))
  have HW := Aside0.mk hw
  have q3 := (h.below HB0.out).cells.2.2.2.1
  clear h hw hk hkl hnj htg htj
  go_enter Tryz.func65, Tryz.ntmps65
  go_wp2_with fail
  refine (rungp gp g S.rungs.length cap _ q3 hin (by omega)).mono ?_
  rintro e w1 ⟨rfl, hb⟩
  have hke : S.rungs.length - 1 = k := HK.out.symm
  rw [hke]
  have HB1 := Aside0.mk (below_step HB0.out hb)
  have K1 := Aside0.mk (blk_below K0.out hb)
  have H1 := Aside0.mk (H.out.below HB1.out)
  have HW1 := Aside0.mk (Kd.R_below HW.out HB1.out)
  clear hb K0 HB0 q3 hke
  generalize hgl : w.heap.size = gl at K1 ⊢
  have ⟨v1, v2, x0, x1, x2, x3, xf, _, _⟩ := S_cells4 H1.out.r k hk1
  have y0 : w1.cell? ⟨gl, 0, none⟩ = some (.int .i64 n) := blk_cell K1.out 0
  have y1 : w1.cell? ⟨gl, 1, none⟩ = some (.slice (some ⟨b, 0, none⟩) 2 wc) := blk_cell K1.out 1
  have z1 : w1.cell? ⟨b, 1, none⟩ = some (.string x) := hw1 ▸ words_cell HW1.out 1 (by omega)
  cases hj : (rdR S.rungs (k : Int)).f3.toList.isEmpty with
  | false =>
    obtain rfl : r = (S, 9) := by rw [← HR.out, jumpS, ← HK.out, if_pos hj]
    have hj2 : ¬ (rdR S.rungs (k : Int)).f3.toList = [] := fun e => by rw [e] at hj; cases hj
    generalize (rdR S.rungs (k : Int)).f3 = f3 at x3 hj hj2
    go_wp2
    go_ret
    exact ⟨rfl, KP.of_below H.out.sz HB1.out, fun e => by cases e⟩
  | true =>
    have hj2 : (rdR S.rungs (k : Int)).f3.toList = [] := by simpa using hj
    have HJ := Aside0.mk hj
    have HNm := Aside0.mk (fun W => isName_b x W)
    have x3' : w1.cell? ⟨g, k * 4 + 3, none⟩ = some (.string ⟨#[]⟩) := by
      rw [x3]
      congr 2
      exact bytes_ext (by rw [toList_data] at hj2; rw [hj2])
    clear x3 hj hj2
    cases hx : isNm x.data.toList with
    | false =>
      obtain rfl : r = (S, 6) := by rw [← HR.out, jumpS, ← HK.out, if_neg (by rw [HJ.out]; simp), hw1, if_pos hx]
      rw [hx] at HNm
      go_wp2_with fail
      refine (HNm.out _).mono ?_
      rintro e w2 ⟨rfl, hb⟩
      go_wp2
      go_ret
      exact ⟨rfl, KP.of_below H.out.sz (below_step HB1.out hb), fun e => by cases e⟩
    | true =>
      have HO : Aside0 (r = (⟨S.i, S.q, S.m, S.sized, S.rungs.set k ⟨(rdR S.rungs k).f0, (rdR S.rungs k).f1, (rdR S.rungs k).f2, x⟩, S.lines, S.jumps.set k n⟩, 0)) := ⟨by rw [← HR.out, jumpS, ← HK.out, if_neg (by rw [HJ.out]; simp), hw1, if_neg (by rw [hx]; simp)]⟩
      rw [hx] at HNm
      go_wp2_with fail
      refine (HNm.out _).mono ?_
      rintro e w2 ⟨rfl, hb⟩
      have HB2 := Aside0.mk (below_step HB1.out hb)
      have K2 := Aside0.mk (blk_drew (blk_below K1.out hb))
      have H2 := Aside0.mk ((H1.out.below hb).below (below_drew (Below.refl _ _)))
      have HW2 := Aside0.mk (Kd.R_below (Kd.R_below HW1.out hb) (below_drew (Below.refl _ _)))
      clear hb y0 y1 z1 x0 x1 x2 x3' xf
      go_wp2_with fail
      have u0 : w2.drew.cell? ⟨gp, 6, none⟩ = some (.slice (some ⟨gj, 0, none⟩) S.rungs.length cj) := H2.out.cells.2.2.2.2.2.2
      have u1 : w2.drew.cell? ⟨gl, 0, none⟩ = some (.int .i64 n) := blk_cell K2.out 0
      have u2 : w2.drew.cell? ⟨gl, 1, none⟩ = some (.slice (some ⟨b, 0, none⟩) 2 wc) := blk_cell K2.out 1
      have u3 : w2.drew.cell? ⟨b, 1, none⟩ = some (.string x) := hw1 ▸ words_cell HW2.out 1 (by omega)
      obtain ⟨cg, htg⟩ := Kd.S_typed H2.out.r g rfl
      obtain ⟨cj', htj⟩ := Kd.R_typed H2.out.j gj rfl
      obtain ⟨cb, htb⟩ := Kd.R_typed HW2.out b rfl
      have hn0 : gp ≠ g := fun e => by have := H2.out.p; rw [e, htg] at this; cases this
      have hn1 : gl ≠ g := fun e => by have := K2.out; rw [e, htg] at this; cases this
      have hn2 : gl ≠ g := hn1
      have hn3 : b ≠ g := fun e => by rw [e, htg] at htb; cases htb
      have hgj : ¬ g = gj := fun e => by rw [e] at htg; rw [htg] at htj; cases htj
      have hgj' : ¬ gj = g := fun e => hgj e.symm
      obtain ⟨_, _, _, _, _, t3, tf, _, _⟩ := S_cells4 H2.out.r k hk1
      have tf3 : w2.frozen? ⟨g, k * 4 + 3, none⟩ = false := tf 3
      have t3' : w2.cell? ⟨g, k * 4 + 3, none⟩ = some (.string (rdR S.rungs (k : Int)).f3) := t3
      obtain ⟨z, tz⟩ : ∃ z, w2.cell? ⟨gj, k, none⟩ = some (.int .i64 z) := by
        obtain ⟨ad, e, hc⟩ := Kd.at_int (Kd.R_reads' H2.out.j).2.2 (k : Int) (by omega) (by rw [H2.out.nj]; omega)
        cases e
        have ea : (⟨gj, 0, none⟩ : Addr).add (k : Int).toNat = ⟨gj, k, none⟩ := by unfold Addr.add; split <;> simp_all
        rw [ea] at hc
        exact ⟨_, hc⟩
      have tfz : w2.frozen? ⟨gj, k, none⟩ = false := blk_frozen htj k
      have hwk : wrap64 ((k : Int) + 1 - 1) = k := by unfold wrap64; omega
      have hkk : (k : Int) < (k : Int) + 1 := by omega
      have hwk2 : wrap64 (k : Int) = k := by unfold wrap64; omega
      have HPJ := Aside0.mk (H2.out.jump k hk1 x n)
      clear htg htj htb t3 tf
      generalize (rdR S.rungs (k : Int)).f3 = f3 at t3'
      refine start_ (n := 22) (S := fun w' => w'.cell? ⟨gp, 6, none⟩ = some (.slice (some ⟨gj, 0, none⟩) S.rungs.length cj) ∧ w'.cell? ⟨gl, 0, none⟩ = some (.int .i64 n) ∧ w'.cell? ⟨gl, 1, none⟩ = some (.slice (some ⟨b, 0, none⟩) 2 wc) ∧ w'.cell? ⟨b, 1, none⟩ = some (.string x)) (ds := [21]) #[false, false, false, false, false, false, false, false, false, false, false, false, false, false, false, false, false, false, false, false, false, false] (by kernel_rfl) rfl rfl ⟨u0, u1, u2, u3⟩ (fun hHeld => ?_)
      refine pure_ (i := 0) (N := some 21) (v := ?_) (a' := ?_) #[true, false, false, false, false, false, false, false, false, false, false, false, false, false, false, false, false, false, false, false, false, false] rfl rfl (by kernel_rfl) (fun _ _ _ h => h) (Or.inl ⟨by rfl, ?_⟩) ?_ ?_
      rotate_left
      · intro w'
        go_simp
        with_reducible rfl
      rotate_left
      · simp only [Act.put, List.setIfInBounds_toArray, List.set_cons_zero, List.set_cons_succ, i64_w, i32_w]
        rfl
      refine pure_ (i := 1) (N := some 22) (v := ?_) (a' := ?_) #[true, true, false, false, false, false, false, false, false, false, false, false, false, false, false, false, false, false, false, false, false, false] rfl rfl (by kernel_rfl) (fun _ _ _ h => h) (Or.inl ⟨by rfl, ?_⟩) ?_ ?_
      rotate_left
      · intro w'
        go_simp
        with_reducible rfl
      rotate_left
      · simp only [Act.put, List.setIfInBounds_toArray, List.set_cons_zero, List.set_cons_succ, i64_w, i32_w]
        rfl
      refine pure_ (i := 2) (N := some 23) (v := ?_) (a' := ?_) #[true, true, true, false, false, false, false, false, false, false, false, false, false, false, false, false, false, false, false, false, false, false] rfl rfl (by kernel_rfl) (fun _ _ _ h => h) (Or.inl ⟨by rfl, ?_⟩) ?_ ?_
      rotate_left
      · intro w'
        go_simp
        with_reducible rfl
      rotate_left
      · simp only [Act.put, List.setIfInBounds_toArray, List.set_cons_zero, List.set_cons_succ, i64_w, i32_w]
        rfl
      refine pure_ (i := 3) (N := some 24) (v := ?_) (a' := ?_) #[true, true, true, true, false, false, false, false, false, false, false, false, false, false, false, false, false, false, false, false, false, false] rfl rfl (by kernel_rfl) (fun _ _ _ h => h) (Or.inl ⟨by rfl, ?_⟩) ?_ ?_
      rotate_left
      · intro w'
        go_simp
        with_reducible rfl
      rotate_left
      · simp only [Act.put, List.setIfInBounds_toArray, List.set_cons_zero, List.set_cons_succ, i64_w, i32_w]
        rfl
      refine pure_ (i := 5) (N := some 26) (v := ?_) (a' := ?_) #[true, true, true, true, false, true, false, false, false, false, false, false, false, false, false, false, false, false, false, false, false, false] rfl rfl (by kernel_rfl) (fun _ _ _ h => h) (Or.inl ⟨by rfl, ?_⟩) ?_ ?_
      rotate_left
      · intro w'
        go_simp
        with_reducible rfl
      rotate_left
      · simp only [Act.put, List.setIfInBounds_toArray, List.set_cons_zero, List.set_cons_succ, i64_w, i32_w]
        rfl
      refine pure_ (i := 6) (N := some 27) (v := ?_) (a' := ?_) #[true, true, true, true, false, true, true, false, false, false, false, false, false, false, false, false, false, false, false, false, false, false] rfl rfl (by kernel_rfl) (fun _ _ _ h => h) (Or.inl ⟨by rfl, ?_⟩) ?_ ?_
      rotate_left
      · intro w'
        go_simp
        with_reducible rfl
      rotate_left
      · simp only [Act.put, List.setIfInBounds_toArray, List.set_cons_zero, List.set_cons_succ, i64_w, i32_w]
        rfl
      refine pure_ (i := 7) (N := some 28) (v := ?_) (a' := ?_) #[true, true, true, true, false, true, true, true, false, false, false, false, false, false, false, false, false, false, false, false, false, false] rfl rfl (by kernel_rfl) (fun _ _ _ h => h) (Or.inl ⟨by rfl, ?_⟩) ?_ ?_
      rotate_left
      · intro w'
        go_simp
        with_reducible rfl
      rotate_left
      · simp only [Act.put, List.setIfInBounds_toArray, List.set_cons_zero, List.set_cons_succ, i64_w, i32_w]
        rfl
      refine pure_ (i := 11) (N := some 32) (v := ?_) (a' := ?_) #[true, true, true, true, false, true, true, true, false, false, false, true, false, false, false, false, false, false, false, false, false, false] rfl rfl (by kernel_rfl) (fun _ _ _ h => h) (Or.inl ⟨by rfl, ?_⟩) ?_ ?_
      rotate_left
      · intro w'
        go_simp
        with_reducible rfl
      rotate_left
      · simp only [Act.put, List.setIfInBounds_toArray, List.set_cons_zero, List.set_cons_succ, i64_w, i32_w]
        rfl
      refine pure_ (i := 15) (N := some 36) (v := ?_) (a' := ?_) #[true, true, true, true, false, true, true, true, false, false, false, true, false, false, false, true, false, false, false, false, false, false] rfl rfl (by kernel_rfl) (fun _ _ _ h => h) (Or.inl ⟨by rfl, ?_⟩) ?_ ?_
      rotate_left
      · intro w'
        go_simp
        with_reducible rfl
      rotate_left
      · simp only [Act.put, List.setIfInBounds_toArray, List.set_cons_zero, List.set_cons_succ, i64_w, i32_w]
        rfl
      refine take_ (i := 4) (N := some 25) (v := ?_) (a' := ?_) #[true, true, true, true, true, true, true, true, false, false, false, true, false, false, false, true, false, false, false, false, false, false] rfl rfl (by kernel_rfl) (fun _ _ _ h => h) (Or.inl ⟨by rfl, ?_⟩) hHeld ?_ ?_
      rotate_left
      · rintro w' ⟨s0, s1, s2, s3⟩
        go_simp
        with_reducible rfl
      rotate_left
      · simp only [Act.put, List.setIfInBounds_toArray, List.set_cons_zero, List.set_cons_succ, i64_w, i32_w]
        rfl
      refine take_ (i := 8) (N := some 29) (v := ?_) (a' := ?_) #[true, true, true, true, true, true, true, true, true, false, false, true, false, false, false, true, false, false, false, false, false, false] rfl rfl (by kernel_rfl) (fun _ _ _ h => h) (Or.inl ⟨by rfl, ?_⟩) hHeld ?_ ?_
      rotate_left
      · rintro w' ⟨s0, s1, s2, s3⟩
        go_simp
        with_reducible rfl
      rotate_left
      · simp only [Act.put, List.setIfInBounds_toArray, List.set_cons_zero, List.set_cons_succ, i64_w, i32_w]
        rfl
      refine pure_ (i := 9) (N := some 30) (v := ?_) (a' := ?_) #[true, true, true, true, true, true, true, true, true, true, false, true, false, false, false, true, false, false, false, false, false, false] rfl rfl (by kernel_rfl) (fun _ _ _ h => h) (Or.inl ⟨by rfl, ?_⟩) ?_ ?_
      rotate_left
      · intro w'
        go_simp
        with_reducible rfl
      rotate_left
      · simp only [Act.put, List.setIfInBounds_toArray, List.set_cons_zero, List.set_cons_succ, i64_w, i32_w]
        rfl
      refine pure_ (i := 10) (N := some 31) (v := ?_) (a' := ?_) #[true, true, true, true, true, true, true, true, true, true, true, true, false, false, false, true, false, false, false, false, false, false] rfl rfl (by kernel_rfl) (fun _ _ _ h => h) (Or.inl ⟨by rfl, ?_⟩) ?_ ?_
      rotate_left
      · intro w'
        go_simp
        with_reducible rfl
      rotate_left
      · simp only [Act.put, List.setIfInBounds_toArray, List.set_cons_zero, List.set_cons_succ, i64_w, i32_w]
        rfl
      refine take_ (i := 12) (N := some 33) (v := ?_) (a' := ?_) #[true, true, true, true, true, true, true, true, true, true, true, true, true, false, false, true, false, false, false, false, false, false] rfl rfl (by kernel_rfl) (fun _ _ _ h => h) (Or.inl ⟨by rfl, ?_⟩) hHeld ?_ ?_
      rotate_left
      · rintro w' ⟨s0, s1, s2, s3⟩
        go_simp
        with_reducible rfl
      rotate_left
      · simp only [Act.put, List.setIfInBounds_toArray, List.set_cons_zero, List.set_cons_succ, i64_w, i32_w]
        rfl
      refine pure_ (i := 13) (N := some 34) (v := ?_) (a' := ?_) #[true, true, true, true, true, true, true, true, true, true, true, true, true, true, false, true, false, false, false, false, false, false] rfl rfl (by kernel_rfl) (fun _ _ _ h => h) (Or.inl ⟨by rfl, ?_⟩) ?_ ?_
      rotate_left
      · intro w'
        go_simp
        with_reducible rfl
      rotate_left
      · simp only [Act.put, List.setIfInBounds_toArray, List.set_cons_zero, List.set_cons_succ, i64_w, i32_w]
        rfl
      refine take_ (i := 14) (N := some 35) (v := ?_) (a' := ?_) #[true, true, true, true, true, true, true, true, true, true, true, true, true, true, true, true, false, false, false, false, false, false] rfl rfl (by kernel_rfl) (fun _ _ _ h => h) (Or.inl ⟨by rfl, ?_⟩) hHeld ?_ ?_
      rotate_left
      · rintro w' ⟨s0, s1, s2, s3⟩
        go_simp
        with_reducible rfl
      rotate_left
      · simp only [Act.put, List.setIfInBounds_toArray, List.set_cons_zero, List.set_cons_succ, i64_w, i32_w]
        rfl
      refine pure_ (i := 17) (N := some 38) (v := ?_) (a' := ?_) #[true, true, true, true, true, true, true, true, true, true, true, true, true, true, true, true, false, true, false, false, false, false] rfl rfl (by kernel_rfl) (fun _ _ _ h => h) (Or.inl ⟨by rfl, ?_⟩) ?_ ?_
      rotate_left
      · intro w'
        go_simp
        with_reducible rfl
      rotate_left
      · simp only [Act.put, List.setIfInBounds_toArray, List.set_cons_zero, List.set_cons_succ, i64_w, i32_w]
        rfl
      refine pure_ (i := 18) (N := some 39) (v := ?_) (a' := ?_) #[true, true, true, true, true, true, true, true, true, true, true, true, true, true, true, true, false, true, true, false, false, false] rfl rfl (by kernel_rfl) (fun _ _ _ h => h) (Or.inl ⟨by rfl, ?_⟩) ?_ ?_
      rotate_left
      · intro w'
        go_simp
        with_reducible rfl
      rotate_left
      · simp only [Act.put, List.setIfInBounds_toArray, List.set_cons_zero, List.set_cons_succ, i64_w, i32_w]
        rfl
      refine take_ (i := 16) (N := some 37) (v := ?_) (a' := ?_) #[true, true, true, true, true, true, true, true, true, true, true, true, true, true, true, true, true, true, true, false, false, false] rfl rfl (by kernel_rfl) (fun _ _ _ h => h) (Or.inl ⟨by rfl, ?_⟩) hHeld ?_ ?_
      rotate_left
      · rintro w' ⟨s0, s1, s2, s3⟩
        go_simp
        with_reducible rfl
      rotate_left
      · simp only [Act.put, List.setIfInBounds_toArray, List.set_cons_zero, List.set_cons_succ, i64_w, i32_w]
        rfl
      refine one_ (i := 19) (N := none) #[true, true, true, true, true, true, true, true, true, true, true, true, true, true, true, true, true, true, true, true, false, false] rfl rfl (by kernel_rfl) (by decide) (fun K hK => ?_)
      refine skip_ (w1 := ?_) (by rfl) rfl ?_ ?_
      rotate_left
      · go_simp
        rfl
      refine hK.out _ _ ⟨((World.cell?_of_block (Below.heap_setCell _ ⟨g, k * 4 + 3, none⟩ _ _ hn0)).trans u0), ((World.cell?_of_block (Below.heap_setCell _ ⟨g, k * 4 + 3, none⟩ _ _ hn1)).trans u1), ((World.cell?_of_block (Below.heap_setCell _ ⟨g, k * 4 + 3, none⟩ _ _ hn2)).trans u2), ((World.cell?_of_block (Below.heap_setCell _ ⟨g, k * 4 + 3, none⟩ _ _ hn3)).trans u3)⟩ (fun hHeld => ?_)
      clear hK K
      refine pure_ (i := 20) (N := some 40) (v := ?_) (a' := ?_) #[true, true, true, true, true, true, true, true, true, true, true, true, true, true, true, true, true, true, true, true, true, false] rfl rfl (by kernel_rfl) (fun _ _ _ h => h) (Or.inl ⟨by rfl, ?_⟩) ?_ ?_
      rotate_left
      · intro w'
        go_simp
        with_reducible rfl
      rotate_left
      · simp only [Act.put, List.setIfInBounds_toArray, List.set_cons_zero, List.set_cons_succ, i64_w, i32_w]
        rfl
      refine last_ (i := 21) (N := none) #[true, true, true, true, true, true, true, true, true, true, true, true, true, true, true, true, true, true, true, true, true, true] rfl rfl (by kernel_rfl) (by decide) (fun K hK => ?_)
      refine skip_ (w1 := ?_) (by rfl) rfl ?_ ?_
      rotate_left
      · go_simp
        rfl
      refine hK.out _ _ ?_
      clear hK K
      refine done_ (by kernel_rfl) ?_
      clear hHeld u0 u1 u2 u3 t3' tf3 tz tfz
      go_wp2
      go_ret
      rw [HO.out]
      exact ⟨rfl, (KP.of_below H.out.sz (below_drew HB2.out)).trans HPJ.out.2, fun _ => ⟨_, _, _, HPJ.out.1⟩⟩
end Go.Proofs.YtolmkdhgnganaaaGreatDoor.H
namespace Go.Proofs.YtolmkdhgnganaaaGreatDoor.H
open Go Go.RowKit Go.Proofs Go.Proofs.YtolmkdhgnganaaaGreatDoorW.PrintWords Go.Proofs.YtolmkdhgnganaaaGreatDoorW.PrintLast Go.Proofs.YtolmkdhgnganaaaGreatDoorW.PrintMore Go.Proofs.YtolmkdhgnganaaaGreatDoor.Sp
/-- The last rung. -/
def lastR (S : PSt) : Rung := rdR S.rungs ((S.rungs.length - 1 : Nat) : Int)
/-- Where a keyword stands. -/
def kwIx (kw : List ByteArray) (x : ByteArray) : Int := Lib.idxOfS (kw.take 4) x
/-- What a coil line does. -/
def coilS (S : PSt) (ws : List ByteArray) : PSt × Int :=
  if (lastR S).f3.toList.isEmpty = false then (S, 17) else
  if (lastR S).f2.length = 16 then (S, 10) else
  if adrE S.i S.q S.m (ws.getD 1 ⟨#[]⟩).data.toList ≠ 0 then (S, adrE S.i S.q S.m (ws.getD 1 ⟨#[]⟩).data.toList) else
  if (addrParse (ws.getD 1 ⟨#[]⟩).data.toList).1 = 0 then (S, 2) else
    (⟨S.i, S.q, S.m, S.sized, S.rungs.set (S.rungs.length - 1) ⟨(lastR S).f0, (lastR S).f1, (lastR S).f2 ++ [⟨kwIx kwO (ws.getD 0 ⟨#[]⟩), ⟨(addrParse (ws.getD 1 ⟨#[]⟩).data.toList).1, (addrParse (ws.getD 1 ⟨#[]⟩).data.toList).2.1⟩⟩], (lastR S).f3⟩, S.lines, S.jumps⟩, 0)
set_option maxHeartbeats 4000000 in
set_option maxRecDepth 100000 in
theorem coil_p {B gp : Nat} {S : PSt} {vr vl vj : Value} {w : World} (h : PF B gp S vr vl vj w) (n : Int) (b wc : Nat) (ws : List ByteArray) (hw : Kd.string.R 9 w B (fun _ => True) (.slice (some ⟨b, 0, none⟩) 2 wc) ws)
    (hsz : ∀ j, (ws.getD j ⟨#[]⟩).size ≤ 65536) (hin : 0 < S.rungs.length) (hmx : ∀ r ∈ S.rungs, r.f2.length ≤ 16) (hE : Env B w) :
    Calls Tryz.prog 67 #[.pointer (some ⟨gp, 0, none⟩), .agg #[.int .i64 n, .slice (some ⟨b, 0, none⟩) 2 wc]] w (ParR B gp w (coilS S ws)) := by
  have hn64 := h.n64
  obtain ⟨g, cap, rfl, hgb, _, htg⟩ := Kd.S_form h.r hin
  obtain ⟨k, hk⟩ : ∃ k, k = S.rungs.length - 1 := ⟨_, rfl⟩
  generalize hr : coilS S ws = r
  have HR := Aside0.mk hr
  clear hr
  have hk1 : k < S.rungs.length := by omega
  have hmem : rdR S.rungs (k : Int) ∈ S.rungs := by
    have : rdR S.rungs (k : Int) = S.rungs[k] := by simp [PPrinterRoundTrip.rd_T53, List.getD, hk1]
    rw [this]; exact List.getElem_mem hk1
  have hm16 := hmx _ hmem
  generalize hw1 : ws.getD 1 ⟨#[]⟩ = x
  generalize hw0 : ws.getD 0 ⟨#[]⟩ = x0
  have hx : x.size ≤ 140737488355328 := by have := hsz 1; rw [hw1] at this; omega
  have H := Aside0.mk h
  have HK := Aside0.mk hk
  have HEn := Aside0.mk hE
  have HB0 := Aside0.mk (below_alloc (Below.refl w.heap.size w) (.cells #[.int .i64 n, .slice (some ⟨b, 0, none⟩) 2 wc] 81))
  have K0 := Aside0.mk (blk_new w (.cells #[.int .i64 n, .slice (some ⟨b, 0, none⟩) 2 wc] 81))
  have HW := Aside0.mk hw
  have q3 := (h.below HB0.out).cells.2.2.2.1
  clear h hw hk htg hmx hmem hsz hE
  go_enter Tryz.func67, Tryz.ntmps67
  go_wp2_with fail
  refine (rungp gp g S.rungs.length cap _ q3 hin (by omega)).mono ?_
  rintro e w1 ⟨rfl, hb⟩
  have hke : S.rungs.length - 1 = k := HK.out.symm
  rw [hke]
  have HB1 := Aside0.mk (below_step HB0.out hb)
  have K1 := Aside0.mk (blk_below K0.out hb)
  have H1 := Aside0.mk (H.out.below HB1.out)
  have HW1 := Aside0.mk (Kd.R_below HW.out HB1.out)
  clear hb K0 HB0 q3 hke
  generalize hgl : w.heap.size = gl at K1 ⊢
  obtain ⟨v2, x2, ⟨A2, c2, e2⟩, -, -⟩ := coil_open H1.out.r k hk1
  obtain ⟨_, _, -, -, -, x3, -, -, -⟩ := S_cells4 H1.out.r k hk1
  subst e2
  have HL : Aside0 (lastR S = rdR S.rungs (k : Int)) := ⟨by rw [lastR, ← HK.out]⟩
  have y1 : w1.cell? ⟨gl, 1, none⟩ = some (.slice (some ⟨b, 0, none⟩) 2 wc) := blk_cell K1.out 1
  have z1 : w1.cell? ⟨b, 1, none⟩ = some (.string x) := hw1 ▸ words_cell HW1.out 1 (by omega)
  cases hj : (rdR S.rungs (k : Int)).f3.toList.isEmpty with
  | false =>
    obtain rfl : r = (S, 17) := by rw [← HR.out, coilS, HL.out, if_pos hj]
    have hj2 : ¬ (rdR S.rungs (k : Int)).f3.toList = [] := fun e => by rw [e] at hj; cases hj
    generalize (rdR S.rungs (k : Int)).f3 = f3 at x3 hj hj2
    go_wp2
    go_ret
    exact ⟨rfl, KP.of_below H.out.sz HB1.out, fun e => by cases e⟩
  | true =>
    have hj2 : (rdR S.rungs (k : Int)).f3.toList = [] := by simpa using hj
    have HJ := Aside0.mk hj
    have x3' : w1.cell? ⟨g, k * 4 + 3, none⟩ = some (.string ⟨#[]⟩) := by
      rw [x3]
      congr 2
      exact bytes_ext (by rw [toList_data] at hj2; rw [hj2])
    clear x3 hj hj2
    by_cases h16 : ((rdR S.rungs (k : Int)).f2.length : Int) = 16
    · obtain rfl : r = (S, 10) := by rw [← HR.out, coilS, HL.out, if_neg (by rw [HJ.out]; simp), if_pos (by omega)]
      have h16' : (((rdR S.rungs (k : Int)).f2.length : Int) == 16) = true := by simpa using h16
      clear h16
      go_wp2
      go_ret
      exact ⟨rfl, KP.of_below H.out.sz HB1.out, fun e => by cases e⟩
    · have h16' : (((rdR S.rungs (k : Int)).f2.length : Int) == 16) = false := by simpa using h16
      have H16 := Aside0.mk (show ¬ (rdR S.rungs (k : Int)).f2.length = 16 by omega)
      have HAd := Aside0.mk (address_p gp S.i S.q S.m x w1 hx H1.out.cells.1 H1.out.cells.2.1 H1.out.cells.2.2.1 (HEn.out.l _ (HB1.out.mono H.out.sz)) (HEn.out.e _ (HB1.out.mono H.out.sz)))
      generalize hae : adrE S.i S.q S.m x.data.toList = ae at HAd
      generalize hsp : (addrParse x.data.toList).1 = sp at HAd
      generalize han : (addrParse x.data.toList).2.1 = an at HAd
      have HAE := Aside0.mk hae
      have HSP := Aside0.mk hsp
      have HAN := Aside0.mk han
      clear hae hsp han h16
      go_wp2_with fail
      refine HAd.out.mono ?_
      rintro e w2 ⟨rfl, hb⟩
      unfold prsV
      have HB2 := Aside0.mk (below_step HB1.out hb)
      have K2 := Aside0.mk (blk_below K1.out hb)
      have H2 := Aside0.mk (H1.out.below hb)
      have HW2 := Aside0.mk (Kd.R_below HW1.out hb)
      clear hb x2 x3' y1 z1 h16'
      by_cases hae0 : ae = 0
      · by_cases hsp0 : sp = 0
        · obtain rfl : r = (S, 2) := by
            rw [← HR.out, coilS, HL.out, if_neg (by rw [HJ.out]; simp), if_neg H16.out, hw1, HAE.out, if_neg (by simpa using hae0), HSP.out, if_pos hsp0]
          go_wp2
          go_ret
          exact ⟨rfl, KP.of_below H.out.sz (below_alloc HB2.out _), fun e => by cases e⟩
        · have HO : Aside0 (r = (⟨S.i, S.q, S.m, S.sized, S.rungs.set k ⟨(rdR S.rungs k).f0, (rdR S.rungs k).f1, (rdR S.rungs k).f2 ++ [⟨kwIx kwO x0, ⟨sp, an⟩⟩], (rdR S.rungs k).f3⟩, S.lines, S.jumps⟩, 0)) := ⟨by
            rw [← HR.out, coilS, HL.out, if_neg (by rw [HJ.out]; simp), if_neg H16.out, hw1, hw0, HAE.out, if_neg (by simpa using hae0), HSP.out, HAN.out, if_neg hsp0, ← HK.out]⟩
          subst hae0
          have hbA : Below w2.heap.size w2 ((w2.alloc (.cells #[.int .i64 sp, .int .i64 an] 57)).drew) := below_drew (below_alloc (Below.refl _ _) _)
          have HB4 := Aside0.mk (below_step HB2.out hbA)
          have K4 := Aside0.mk (blk_below K2.out hbA)
          have H4 := Aside0.mk (H2.out.below hbA)
          have HW4 := Aside0.mk (Kd.R_below HW2.out hbA)
          have KA := Aside0.mk (blk_drew (blk_new w2 (.cells #[.int .i64 sp, .int .i64 an] 57)))
          clear hbA H2 K2 HW2
          go_wp2_with fail
          generalize w2.heap.size = ga at KA ⊢
          generalize w2.alloc (.cells #[.int .i64 sp, .int .i64 an] 57) = w4 at HB4 K4 H4 HW4 KA ⊢
          obtain ⟨v2, u0, ⟨A2, c2, e2⟩, hR2, hcl⟩ := coil_open H4.out.r k hk1
          subst e2
          have HR2 := Aside0.mk hR2
          have HCl : Aside0 (∀ (c : Coil) {w1 : World} {v1 : Value}, kCoil.R 69 w1 B (fun _ => True) v1 ((rdR S.rungs (k : Int)).f2 ++ [c]) → w4.drew.grownBy w1 (Value.slice A2 (rdR S.rungs (k : Int)).f2.length c2).ownBlock → (v1.ownBlock = (Value.slice A2 (rdR S.rungs (k : Int)).f2.length c2).ownBlock ∨ ∃ b, v1.ownBlock = some b ∧ w4.drew.heap.size ≤ b) →
            Kd.S kRung 53 (w1.setCell ⟨g, k * 4 + 2, none⟩ v1) B (fun _ => True) (.slice (some ⟨g, 0, none⟩) S.rungs.length cap) (S.rungs.set k ⟨(rdR S.rungs k).f0, (rdR S.rungs k).f1, (rdR S.rungs k).f2 ++ [c], (rdR S.rungs k).f3⟩)) := ⟨fun c {w1} {v1} => hcl (w1 := w1) (v1 := v1) c⟩
          obtain ⟨cg, htg4⟩ := Kd.S_typed H4.out.r g rfl
          have HTg := Aside0.mk htg4
          clear htg4
          have HSz := Aside0.mk H4.out.sz
          clear hR2 hcl
          have u1 : w4.drew.cell? ⟨gl, 1, none⟩ = some (.slice (some ⟨b, 0, none⟩) 2 wc) := blk_cell K4.out 1
          have u2 : w4.drew.cell? ⟨b, 0, none⟩ = some (.string x0) := hw0 ▸ words_cell HW4.out 0 (by omega)
          have u3 : w4.drew.cell? ⟨ga, 0, none⟩ = some (.int .i64 sp) := blk_cell KA.out 0
          have u4 : w4.drew.cell? ⟨ga, 1, none⟩ = some (.int .i64 an) := blk_cell KA.out 1
          have HIx := Aside0.mk (fun W (hW : Below w4.drew.heap.size w4.drew W) => Tryz.slices_Index_string 1 0 4 4 kwO x0 W (by decide) (by decide) (fun j hj => by rw [Nat.zero_add]; exact (HEn.out.k W ((HB4.out.mono H.out.sz).trans (hW.mono H4.out.sz))).o j hj))
          change Aside0 (∀ W, Below w4.drew.heap.size w4.drew W → Calls Tryz.prog 97 #[.slice (some ⟨1, 0, none⟩) 4 4, .string x0] W fun e w' => e = .returned (.int .i64 (kwIx kwO x0)) ∧ w' = W) at HIx
          generalize kwIx kwO x0 = ix at HIx HO
          have HF := Aside0.mk (show ((rdR S.rungs (k : Int)).f2.length + 1) * 24 ≤ 140737488355328 by omega)
          generalize hxs : (rdR S.rungs (k : Int)).f2 = xs at *
          have hl24 := HF.out
          refine start_ (n := 18) (S := fun w' => w'.cell? ⟨g, k * 4 + 2, none⟩ = some (.slice A2 xs.length c2) ∧ w'.cell? ⟨gl, 1, none⟩ = some (.slice (some ⟨b, 0, none⟩) 2 wc) ∧ w'.cell? ⟨b, 0, none⟩ = some (.string x0) ∧ w'.cell? ⟨ga, 0, none⟩ = some (.int .i64 sp) ∧ w'.cell? ⟨ga, 1, none⟩ = some (.int .i64 an)) (ds := [14, 17]) #[false, false, false, false, false, false, false, false, false, false, false, false, false, false, false, false, false, false] (by kernel_rfl) rfl rfl ⟨u0, u1, u2, u3, u4⟩ (fun hHeld => ?_)
          refine pure_ (i := 0) (N := some 40) (v := ?_) (a' := ?_) #[true, false, false, false, false, false, false, false, false, false, false, false, false, false, false, false, false, false] rfl rfl (by kernel_rfl) (fun _ _ _ h => h) (Or.inl ⟨by rfl, ?_⟩) ?_ ?_
          rotate_left
          · intro w'
            go_simp
            with_reducible rfl
          rotate_left
          · simp only [Act.put, List.setIfInBounds_toArray, List.set_cons_zero, List.set_cons_succ, i64_w, i32_w]
            rfl
          refine pure_ (i := 1) (N := some 41) (v := ?_) (a' := ?_) #[true, true, false, false, false, false, false, false, false, false, false, false, false, false, false, false, false, false] rfl rfl (by kernel_rfl) (fun _ _ _ h => h) (Or.inl ⟨by rfl, ?_⟩) ?_ ?_
          rotate_left
          · intro w'
            go_simp
            with_reducible rfl
          rotate_left
          · simp only [Act.put, List.setIfInBounds_toArray, List.set_cons_zero, List.set_cons_succ, i64_w, i32_w]
            rfl
          refine pure_ (i := 2) (N := some 42) (v := ?_) (a' := ?_) #[true, true, true, false, false, false, false, false, false, false, false, false, false, false, false, false, false, false] rfl rfl (by kernel_rfl) (fun _ _ _ h => h) (Or.inl ⟨by rfl, ?_⟩) ?_ ?_
          rotate_left
          · intro w'
            go_simp
            with_reducible rfl
          rotate_left
          · simp only [Act.put, List.setIfInBounds_toArray, List.set_cons_zero, List.set_cons_succ, i64_w, i32_w]
            rfl
          refine pure_ (i := 3) (N := some 43) (v := ?_) (a' := ?_) #[true, true, true, true, false, false, false, false, false, false, false, false, false, false, false, false, false, false] rfl rfl (by kernel_rfl) (fun _ _ _ h => h) (Or.inl ⟨by rfl, ?_⟩) ?_ ?_
          rotate_left
          · intro w'
            go_simp
            with_reducible rfl
          rotate_left
          · simp only [Act.put, List.setIfInBounds_toArray, List.set_cons_zero, List.set_cons_succ, i64_w, i32_w]
            rfl
          refine pure_ (i := 5) (N := some 45) (v := ?_) (a' := ?_) #[true, true, true, true, false, true, false, false, false, false, false, false, false, false, false, false, false, false] rfl rfl (by kernel_rfl) (fun _ _ _ h => h) (Or.inl ⟨by rfl, ?_⟩) ?_ ?_
          rotate_left
          · intro w'
            go_simp
            with_reducible rfl
          rotate_left
          · simp only [Act.put, List.setIfInBounds_toArray, List.set_cons_zero, List.set_cons_succ, i64_w, i32_w]
            rfl
          refine pure_ (i := 6) (N := some 46) (v := ?_) (a' := ?_) #[true, true, true, true, false, true, true, false, false, false, false, false, false, false, false, false, false, false] rfl rfl (by kernel_rfl) (fun _ _ _ h => h) (Or.inl ⟨by rfl, ?_⟩) ?_ ?_
          rotate_left
          · intro w'
            go_simp
            with_reducible rfl
          rotate_left
          · simp only [Act.put, List.setIfInBounds_toArray, List.set_cons_zero, List.set_cons_succ, i64_w, i32_w]
            rfl
          refine take_ (i := 4) (N := some 44) (v := ?_) (a' := ?_) #[true, true, true, true, true, true, true, false, false, false, false, false, false, false, false, false, false, false] rfl rfl (by kernel_rfl) (fun _ _ _ h => h) (Or.inl ⟨by rfl, ?_⟩) hHeld ?_ ?_
          rotate_left
          · rintro w' ⟨s0, s1, s2, s3, s4⟩
            go_simp
            with_reducible rfl
          rotate_left
          · simp only [Act.put, List.setIfInBounds_toArray, List.set_cons_zero, List.set_cons_succ, i64_w, i32_w]
            rfl
          refine take_ (i := 7) (N := some 47) (v := ?_) (a' := ?_) #[true, true, true, true, true, true, true, true, false, false, false, false, false, false, false, false, false, false] rfl rfl (by kernel_rfl) (fun _ _ _ h => h) (Or.inl ⟨by rfl, ?_⟩) hHeld ?_ ?_
          rotate_left
          · rintro w' ⟨s0, s1, s2, s3, s4⟩
            go_simp
            with_reducible rfl
          rotate_left
          · simp only [Act.put, List.setIfInBounds_toArray, List.set_cons_zero, List.set_cons_succ, i64_w, i32_w]
            rfl
          refine pure_ (i := 8) (N := some 48) (v := ?_) (a' := ?_) #[true, true, true, true, true, true, true, true, true, false, false, false, false, false, false, false, false, false] rfl rfl (by kernel_rfl) (fun _ _ _ h => h) (Or.inl ⟨by rfl, ?_⟩) ?_ ?_
          rotate_left
          · intro w'
            go_simp
            with_reducible rfl
          rotate_left
          · simp only [Act.put, List.setIfInBounds_toArray, List.set_cons_zero, List.set_cons_succ, i64_w, i32_w]
            rfl
          refine take_ (i := 9) (N := some 49) (v := ?_) (a' := ?_) #[true, true, true, true, true, true, true, true, true, true, false, false, false, false, false, false, false, false] rfl rfl (by kernel_rfl) (fun _ _ _ h => h) (Or.inl ⟨by rfl, ?_⟩) hHeld ?_ ?_
          rotate_left
          · rintro w' ⟨s0, s1, s2, s3, s4⟩
            go_simp
            with_reducible rfl
          rotate_left
          · simp only [Act.put, List.setIfInBounds_toArray, List.set_cons_zero, List.set_cons_succ, i64_w, i32_w]
            rfl
          refine take_ (i := 11) (N := some 51) (v := ?_) (a' := ?_) #[true, true, true, true, true, true, true, true, true, true, false, true, false, false, false, false, false, false] rfl rfl (by kernel_rfl) (fun _ _ _ h => h) (Or.inl ⟨by rfl, ?_⟩) hHeld ?_ ?_
          rotate_left
          · rintro w' ⟨s0, s1, s2, s3, s4⟩
            go_simp
            with_reducible rfl
          rotate_left
          · simp only [Act.put, List.setIfInBounds_toArray, List.set_cons_zero, List.set_cons_succ, i64_w, i32_w]
            rfl
          refine one_ (i := 10) (N := some 50) #[true, true, true, true, true, true, true, true, true, true, true, true, false, false, false, false, false, false] rfl rfl (by kernel_rfl) (by decide) (fun K hK => ?_)
          refine goes_ Tryz.func97 (by kernel_rfl) rfl #[.slice (some ⟨1, 0, none⟩) 4 4, .string x0] (by rfl) rfl rfl (by first | (simp only [List.map_toArray, List.map_cons, List.map_nil]; done) | (simp only [List.map_toArray, List.map_cons, List.map_nil]; rfl)) ?_
          with_reducible refine (HIx.out _ (Below.refl _ _)).mono ?_
          rintro e_ w_ ⟨rfl, rfl⟩
          refine ⟨_, rfl, ?_⟩
          refine hK.out _ _ ⟨u0, u1, u2, u3, u4⟩ (fun hHeld => ?_)
          clear hK K
          refine norm_ (a' := ?_) ?_ ?_
          rotate_left
          · show Act.put _ (some 50) _ = _
            simp only [Act.put, List.setIfInBounds_toArray, List.set_cons_zero, List.set_cons_succ, i64_w, i32_w]
            rfl
          refine pure_ (i := 12) (N := some 52) (v := ?_) (a' := ?_) #[true, true, true, true, true, true, true, true, true, true, true, true, true, false, false, false, false, false] rfl rfl (by kernel_rfl) (fun _ _ _ h => h) (Or.inl ⟨by rfl, ?_⟩) ?_ ?_
          rotate_left
          · intro w'
            go_simp
            with_reducible rfl
          rotate_left
          · simp only [Act.put, List.setIfInBounds_toArray, List.set_cons_zero, List.set_cons_succ, i64_w, i32_w]
            rfl
          refine one_ (i := 13) (N := some 53) #[true, true, true, true, true, true, true, true, true, true, true, true, true, true, false, false, false, false] rfl rfl (by kernel_rfl) (by decide) (fun K hK => ?_)
          refine value_ (w1 := ?_) (v := ?_) (by rfl) rfl ?_ ?_
          rotate_left 2
          · go_simp
            constructor
            · rfl
            · rfl
          refine hK.out _ _ ⟨(pw_cell_below (below_alloc (Below.refl _ _) _) u0), (pw_cell_below (below_alloc (Below.refl _ _) _) u1), (pw_cell_below (below_alloc (Below.refl _ _) _) u2), (pw_cell_below (below_alloc (Below.refl _ _) _) u3), (pw_cell_below (below_alloc (Below.refl _ _) _) u4)⟩ (fun hHeld => ?_)
          clear hK K
          refine norm_ (a' := ?_) ?_ ?_
          rotate_left
          · show Act.put _ (some 53) _ = _
            simp only [Act.put, List.setIfInBounds_toArray, List.set_cons_zero, List.set_cons_succ, i64_w, i32_w]
            rfl
          refine last_ (i := 14) (N := some 54) #[true, true, true, true, true, true, true, true, true, true, true, true, true, true, true, false, false, false] rfl rfl (by kernel_rfl) (by decide) (fun K hK => ?_)
          refine Kd.R_append_step kCoil (w0 := w4.drew) (W := w4.drew) B (by rfl) (.tmp 44) (.tmp 53) 51 69 (.agg #[.int .i64 0, .int .i64 0, .int .i64 0]) 24 rfl Tryz.underlying51 PPrinterRoundTrip.info69 rfl (Nat.zero_lt_succ 2) (by omega) (.slice A2 xs.length c2) xs ⟨ix, ⟨sp, an⟩⟩ [.int .i64 ix, .int .i64 sp, .int .i64 an] (fun _ => True) (fun _ => False) rfl rfl (PPrinterRoundTrip.k69_mkM (w4.drew) B _ ⟨ix, ⟨sp, an⟩⟩) (fun _ h => h.elim) (fun _ _ => trivial) HR2.out (Below.refl _ _) HSz.out (by omega) ?_
          intro v1 w5 hr _ hgr hat
          obtain ⟨A3, d3, e3, -, -⟩ := Kd.R_reads hr
          obtain rfl : v1 = .slice A3 (xs.length + 1) d3 := by rw [e3, List.length_append, List.length_singleton]
          clear e3
          have HC := Aside0.mk (HCl.out ⟨ix, ⟨sp, an⟩⟩ hr hgr hat)
          have HGr := Aside0.mk hgr
          have htg5 := (hgr.block g (blk_lt HTg.out) (fun e => by obtain ⟨cells, hc⟩ := Kd.R_typed HR2.out g e.symm; have h2 := HTg.out; rw [hc] at h2; cases h2)).trans HTg.out
          have t5 := (World.cell?_of_block (a := ⟨g, k * 4 + 2, none⟩) (htg5.trans HTg.out.symm)).trans u0
          have f5 := blk_frozen htg5 (k * 4 + 2)
          clear hr hgr hat htg5
          refine hK.out _ _ ?_
          clear hK K
          refine norm_ (a' := ?_) ?_ ?_
          rotate_left
          · show Act.put _ (some 54) _ = _
            simp only [Act.put, List.setIfInBounds_toArray, List.set_cons_zero, List.set_cons_succ, i64_w, i32_w]
            rfl
          refine pure_ (i := 15) (N := some 55) (v := ?_) (a' := ?_) #[true, true, true, true, true, true, true, true, true, true, true, true, true, true, true, true, false, false] rfl rfl (by kernel_rfl) (fun _ _ _ h => h) (Or.inl ⟨by rfl, ?_⟩) ?_ ?_
          rotate_left
          · intro w'
            go_simp
            with_reducible rfl
          rotate_left
          · simp only [Act.put, List.setIfInBounds_toArray, List.set_cons_zero, List.set_cons_succ, i64_w, i32_w]
            rfl
          refine pure_ (i := 16) (N := some 56) (v := ?_) (a' := ?_) #[true, true, true, true, true, true, true, true, true, true, true, true, true, true, true, true, true, false] rfl rfl (by kernel_rfl) (fun _ _ _ h => h) (Or.inl ⟨by rfl, ?_⟩) ?_ ?_
          rotate_left
          · intro w'
            go_simp
            with_reducible rfl
          rotate_left
          · simp only [Act.put, List.setIfInBounds_toArray, List.set_cons_zero, List.set_cons_succ, i64_w, i32_w]
            rfl
          refine last_ (i := 17) (N := none) #[true, true, true, true, true, true, true, true, true, true, true, true, true, true, true, true, true, true] rfl rfl (by kernel_rfl) (by decide) (fun K hK => ?_)
          refine skip_ (w1 := ?_) (by rfl) rfl ?_ ?_
          rotate_left
          · go_simp
            rfl
          refine hK.out _ _ ?_
          clear hK K
          refine done_ (by kernel_rfl) ?_
          have HPF := Aside0.mk (H4.out.row (t := 69) (fun i e => ⟨Kd.R_base HR2.out i e, Kd.R_typed HR2.out i e⟩) (by rfl) (by decide) (by decide) (by decide) HGr.out HC.out (by rw [List.length_set]))
          clear u0 u1 u2 u3 u4 t5 f5
          go_wp2
          go_ret
          rw [HO.out]
          exact ⟨rfl, (KP.of_below H.out.sz HB4.out).trans HPF.out.2, fun _ => ⟨_, _, _, HPF.out.1⟩⟩
      · obtain rfl : r = (S, ae) := by
          rw [← HR.out, coilS, HL.out, if_neg (by rw [HJ.out]; simp), if_neg H16.out, hw1, HAE.out, if_pos (by simpa using hae0)]
        go_wp2
        go_ret
        exact ⟨rfl, KP.of_below H.out.sz (below_alloc HB2.out _), fun e => absurd e hae0⟩
end Go.Proofs.YtolmkdhgnganaaaGreatDoor.H
namespace Go.Proofs.YtolmkdhgnganaaaGreatDoor.H
open Go Go.RowKit Go.Proofs Go.Proofs.YtolmkdhgnganaaaGreatDoorW.PrintWords Go.Proofs.YtolmkdhgnganaaaGreatDoorW.PrintLast Go.Proofs.YtolmkdhgnganaaaGreatDoorW.PrintMore Go.Proofs.YtolmkdhgnganaaaGreatDoor.Sp
/-- What a contact line does. -/
def conS (S : PSt) (ws : List ByteArray) : PSt × Int :=
  if 0 < (lastR S).f2.length ∨ (lastR S).f3.toList.isEmpty = false then (S, 17) else
  if (lastR S).f1.length = 256 then (S, 10) else
  if adrE S.i S.q S.m (ws.getD 1 ⟨#[]⟩).data.toList ≠ 0 then (S, adrE S.i S.q S.m (ws.getD 1 ⟨#[]⟩).data.toList) else
  if isNm (ws.getD 2 ⟨#[]⟩).data.toList = false ∨ isNm (ws.getD 3 ⟨#[]⟩).data.toList = false then (S, 6) else
    (⟨S.i, S.q, S.m, S.sized, S.rungs.set (S.rungs.length - 1) ⟨(lastR S).f0, (lastR S).f1 ++ [⟨kwIx kwC (ws.getD 0 ⟨#[]⟩), ⟨(addrParse (ws.getD 1 ⟨#[]⟩).data.toList).1, (addrParse (ws.getD 1 ⟨#[]⟩).data.toList).2.1⟩, ws.getD 2 ⟨#[]⟩, ws.getD 3 ⟨#[]⟩⟩], (lastR S).f2, (lastR S).f3⟩, S.lines, S.jumps⟩, 0)
set_option maxHeartbeats 4000000 in
set_option maxRecDepth 100000 in
theorem con_p {B gp : Nat} {S : PSt} {vr vl vj : Value} {w : World} (h : PF B gp S vr vl vj w) (n : Int) (b wc : Nat) (ws : List ByteArray) (hw : Kd.string.R 9 w B (fun _ => True) (.slice (some ⟨b, 0, none⟩) 4 wc) ws)
    (hsz : ∀ j, (ws.getD j ⟨#[]⟩).size ≤ 65536) (hin : 0 < S.rungs.length) (hmx : ∀ r ∈ S.rungs, r.f1.length ≤ 256) (hE : Env B w) :
    Calls Tryz.prog 66 #[.pointer (some ⟨gp, 0, none⟩), .agg #[.int .i64 n, .slice (some ⟨b, 0, none⟩) 4 wc]] w (ParR B gp w (conS S ws)) := by
  have hn64 := h.n64
  obtain ⟨g, cap, rfl, hgb, _, htg⟩ := Kd.S_form h.r hin
  obtain ⟨k, hk⟩ : ∃ k, k = S.rungs.length - 1 := ⟨_, rfl⟩
  generalize hr : conS S ws = r
  have HR := Aside0.mk hr
  clear hr
  have hk1 : k < S.rungs.length := by omega
  have hmem : rdR S.rungs (k : Int) ∈ S.rungs := by
    have : rdR S.rungs (k : Int) = S.rungs[k] := by simp [PPrinterRoundTrip.rd_T53, List.getD, hk1]
    rw [this]; exact List.getElem_mem hk1
  have hm256 := hmx _ hmem
  generalize hw1 : ws.getD 1 ⟨#[]⟩ = x
  generalize hw0 : ws.getD 0 ⟨#[]⟩ = x0
  generalize hw2 : ws.getD 2 ⟨#[]⟩ = x2
  generalize hw3 : ws.getD 3 ⟨#[]⟩ = x3
  have hx : x.size ≤ 140737488355328 := by have := hsz 1; rw [hw1] at this; omega
  have H := Aside0.mk h
  have HK := Aside0.mk hk
  have HEn := Aside0.mk hE
  have HB0 := Aside0.mk (below_alloc (Below.refl w.heap.size w) (.cells #[.int .i64 n, .slice (some ⟨b, 0, none⟩) 4 wc] 81))
  have K0 := Aside0.mk (blk_new w (.cells #[.int .i64 n, .slice (some ⟨b, 0, none⟩) 4 wc] 81))
  have HW := Aside0.mk hw
  have q3 := (h.below HB0.out).cells.2.2.2.1
  clear h hw hk htg hmx hmem hsz hE
  go_enter Tryz.func66, Tryz.ntmps66
  go_wp2_with fail
  refine (rungp gp g S.rungs.length cap _ q3 hin (by omega)).mono ?_
  rintro e w1 ⟨rfl, hb⟩
  have hke : S.rungs.length - 1 = k := HK.out.symm
  rw [hke]
  have HB1 := Aside0.mk (below_step HB0.out hb)
  have K1 := Aside0.mk (blk_below K0.out hb)
  have H1 := Aside0.mk (H.out.below HB1.out)
  have HW1 := Aside0.mk (Kd.R_below HW.out HB1.out)
  clear hb K0 HB0 q3 hke
  generalize hgl : w.heap.size = gl at K1 ⊢
  obtain ⟨v1, vv1, ⟨A1, c1, e1⟩, -, -⟩ := con_open H1.out.r k hk1
  obtain ⟨v2, vv2, ⟨A2, c2, e2⟩, -, -⟩ := coil_open H1.out.r k hk1
  obtain ⟨_, _, -, -, -, vv3, -, -, -⟩ := S_cells4 H1.out.r k hk1
  subst e1
  subst e2
  have HL : Aside0 (lastR S = rdR S.rungs (k : Int)) := ⟨by rw [lastR, ← HK.out]⟩
  have y1 : w1.cell? ⟨gl, 1, none⟩ = some (.slice (some ⟨b, 0, none⟩) 4 wc) := blk_cell K1.out 1
  have z1 : w1.cell? ⟨b, 1, none⟩ = some (.string x) := hw1 ▸ words_cell HW1.out 1 (by omega)
  by_cases hc0 : 0 < (rdR S.rungs (k : Int)).f2.length
  · obtain rfl : r = (S, 17) := by rw [← HR.out, conS, HL.out, if_pos (.inl hc0)]
    have hc1 : decide (0 < (rdR S.rungs (k : Int)).f2.length) = true := by simpa using hc0
    go_wp2
    go_ret
    exact ⟨rfl, KP.of_below H.out.sz HB1.out, fun e => by cases e⟩
  have HC0 := Aside0.mk hc0
  have hc1 : decide (0 < (rdR S.rungs (k : Int)).f2.length) = false := by simpa using hc0
  clear hc0
  cases hj : (rdR S.rungs (k : Int)).f3.toList.isEmpty with
  | false =>
    obtain rfl : r = (S, 17) := by rw [← HR.out, conS, HL.out, if_pos (.inr hj)]
    have hj2 : ¬ (rdR S.rungs (k : Int)).f3.toList = [] := fun e => by rw [e] at hj; cases hj
    generalize (rdR S.rungs (k : Int)).f3 = f3 at vv3 hj hj2
    go_wp2
    go_ret
    exact ⟨rfl, KP.of_below H.out.sz HB1.out, fun e => by cases e⟩
  | true =>
    have hj2 : (rdR S.rungs (k : Int)).f3.toList = [] := by simpa using hj
    have HJ : Aside0 (¬ (0 < (rdR S.rungs (k : Int)).f2.length ∨ (rdR S.rungs (k : Int)).f3.toList.isEmpty = false)) := ⟨fun e => e.elim HC0.out (fun e => by rw [hj] at e; cases e)⟩
    have vv3' : w1.cell? ⟨g, k * 4 + 3, none⟩ = some (.string ⟨#[]⟩) := by
      rw [vv3]
      congr 2
      exact bytes_ext (by rw [toList_data] at hj2; rw [hj2])
    clear vv3 hj hj2
    by_cases h16 : ((rdR S.rungs (k : Int)).f1.length : Int) = 256
    · obtain rfl : r = (S, 10) := by rw [← HR.out, conS, HL.out, if_neg HJ.out, if_pos (by omega)]
      have h16' : (((rdR S.rungs (k : Int)).f1.length : Int) == 256) = true := by simpa using h16
      clear h16
      go_wp2
      go_ret
      exact ⟨rfl, KP.of_below H.out.sz HB1.out, fun e => by cases e⟩
    · have h16' : (((rdR S.rungs (k : Int)).f1.length : Int) == 256) = false := by simpa using h16
      have H16 := Aside0.mk (show ¬ (rdR S.rungs (k : Int)).f1.length = 256 by omega)
      have HAd := Aside0.mk (address_p gp S.i S.q S.m x w1 hx H1.out.cells.1 H1.out.cells.2.1 H1.out.cells.2.2.1 (HEn.out.l _ (HB1.out.mono H.out.sz)) (HEn.out.e _ (HB1.out.mono H.out.sz)))
      generalize hae : adrE S.i S.q S.m x.data.toList = ae at HAd
      generalize hsp : (addrParse x.data.toList).1 = sp at HAd
      generalize han : (addrParse x.data.toList).2.1 = an at HAd
      have HAE := Aside0.mk hae
      have HSP := Aside0.mk hsp
      have HAN := Aside0.mk han
      clear hae hsp han h16
      go_wp2_with fail
      refine HAd.out.mono ?_
      rintro e w2 ⟨rfl, hb⟩
      unfold prsV
      have HB2 := Aside0.mk (below_step HB1.out hb)
      have K2 := Aside0.mk (blk_below K1.out hb)
      have H2 := Aside0.mk (H1.out.below hb)
      have HW2 := Aside0.mk (Kd.R_below HW1.out hb)
      clear hb vv1 vv2 vv3' y1 z1 h16'
      by_cases hae0 : ae = 0
      · subst hae0
        have HI2 := Aside0.mk (fun W => isName_b x2 W)
        have HI3 := Aside0.mk (fun W => isName_b x3 W)
        have hbA : Below w2.heap.size w2 (w2.alloc (.cells #[.int .i64 sp, .int .i64 an] 57)) := below_alloc (Below.refl _ _) _
        have HB3 := Aside0.mk (below_step HB2.out hbA)
        have K3 := Aside0.mk (blk_below K2.out hbA)
        have H3 := Aside0.mk (H2.out.below hbA)
        have HW3 := Aside0.mk (Kd.R_below HW2.out hbA)
        have KA3 := Aside0.mk (blk_new w2 (.cells #[.int .i64 sp, .int .i64 an] 57))
        have y1 : (w2.alloc (.cells #[.int .i64 sp, .int .i64 an] 57)).cell? ⟨gl, 1, none⟩ = some (.slice (some ⟨b, 0, none⟩) 4 wc) := blk_cell K3.out 1
        have z2 : (w2.alloc (.cells #[.int .i64 sp, .int .i64 an] 57)).cell? ⟨b, 2, none⟩ = some (.string x2) := hw2 ▸ words_cell HW3.out 2 (by omega)
        clear hbA H2
        cases hn2 : isNm x2.data.toList with
        | false =>
          obtain rfl : r = (S, 6) := by
            rw [← HR.out, conS, HL.out, if_neg HJ.out, if_neg H16.out, hw1, HAE.out, if_neg (by simp), hw2, if_pos (.inl hn2)]
          rw [hn2] at HI2
          go_wp2_with fail
          refine (HI2.out _).mono ?_
          rintro e w5 ⟨rfl, hb⟩
          go_wp2
          go_ret
          exact ⟨rfl, KP.of_below H.out.sz (below_step HB3.out hb), fun e => by cases e⟩
        | true =>
          rw [hn2] at HI2
          go_wp2_with fail
          refine (HI2.out _).mono ?_
          rintro e w5 ⟨rfl, hb⟩
          generalize hga : w2.heap.size = ga at KA3 ⊢
          have HB5 := Aside0.mk (below_step HB3.out hb)
          have K5 := Aside0.mk (blk_below K3.out hb)
          have H5 := Aside0.mk (H3.out.below hb)
          have HW5 := Aside0.mk (Kd.R_below HW3.out hb)
          have KA5 := Aside0.mk (blk_below KA3.out hb)
          clear hb H3 K3 HW3 KA3 HB3 y1 z2 hga
          have y1 : w5.cell? ⟨gl, 1, none⟩ = some (.slice (some ⟨b, 0, none⟩) 4 wc) := blk_cell K5.out 1
          have z3 : w5.cell? ⟨b, 3, none⟩ = some (.string x3) := hw3 ▸ words_cell HW5.out 3 (by omega)
          cases hn3 : isNm x3.data.toList with
          | false =>
            obtain rfl : r = (S, 6) := by
              rw [← HR.out, conS, HL.out, if_neg HJ.out, if_neg H16.out, hw1, HAE.out, if_neg (by simp), hw3, if_pos (.inr hn3)]
            rw [hn3] at HI3
            go_wp2_with fail
            refine (HI3.out _).mono ?_
            rintro e w6 ⟨rfl, hb⟩
            go_wp2
            go_ret
            exact ⟨rfl, KP.of_below H.out.sz (below_step HB5.out hb), fun e => by cases e⟩
          | true =>
          rw [hn3] at HI3
          go_wp2_with fail
          refine (HI3.out _).mono ?_
          rintro e w4 ⟨rfl, hb0⟩
          have hb : Below w5.heap.size w5 w4.drew := below_drew hb0
          have HO : Aside0 (r = (⟨S.i, S.q, S.m, S.sized, S.rungs.set k ⟨(rdR S.rungs k).f0, (rdR S.rungs k).f1 ++ [⟨kwIx kwC x0, ⟨sp, an⟩, x2, x3⟩], (rdR S.rungs k).f2, (rdR S.rungs k).f3⟩, S.lines, S.jumps⟩, 0)) := ⟨by
            rw [← HR.out, conS, HL.out, if_neg HJ.out, if_neg H16.out, hw1, hw0, hw2, hw3, HAE.out, if_neg (by simp), HSP.out, HAN.out, if_neg (by rw [hn2, hn3]; simp), ← HK.out]⟩
          have HB4 := Aside0.mk (below_step HB5.out hb)
          have K4 := Aside0.mk (blk_below K5.out hb)
          have H4 := Aside0.mk (H5.out.below hb)
          have HW4 := Aside0.mk (Kd.R_below HW5.out hb)
          have KA := Aside0.mk (blk_below KA5.out hb)
          clear hb0 hb H5 K5 HW5 KA5 y1 z3
          go_wp2_with fail
          obtain ⟨v2, u0, ⟨A2, c2, e2⟩, hR2, hcl⟩ := con_open H4.out.r k hk1
          subst e2
          have HR2 := Aside0.mk hR2
          have HCl : Aside0 (∀ (c : Con) {w1 : World} {v1 : Value}, kCon.R 59 w1 B (fun _ => True) v1 ((rdR S.rungs (k : Int)).f1 ++ [c]) → w4.drew.grownBy w1 (Value.slice A2 (rdR S.rungs (k : Int)).f1.length c2).ownBlock → (v1.ownBlock = (Value.slice A2 (rdR S.rungs (k : Int)).f1.length c2).ownBlock ∨ ∃ b, v1.ownBlock = some b ∧ w4.drew.heap.size ≤ b) →
            Kd.S kRung 53 (w1.setCell ⟨g, k * 4 + 1, none⟩ v1) B (fun _ => True) (.slice (some ⟨g, 0, none⟩) S.rungs.length cap) (S.rungs.set k ⟨(rdR S.rungs k).f0, (rdR S.rungs k).f1 ++ [c], (rdR S.rungs k).f2, (rdR S.rungs k).f3⟩)) := ⟨fun c {w1} {v1} => hcl (w1 := w1) (v1 := v1) c⟩
          obtain ⟨cg, htg4⟩ := Kd.S_typed H4.out.r g rfl
          have HTg := Aside0.mk htg4
          clear htg4
          have HSz := Aside0.mk H4.out.sz
          clear hR2 hcl
          have u1 : w4.drew.cell? ⟨gl, 1, none⟩ = some (.slice (some ⟨b, 0, none⟩) 4 wc) := blk_cell K4.out 1
          have u2 : w4.drew.cell? ⟨b, 0, none⟩ = some (.string x0) := hw0 ▸ words_cell HW4.out 0 (by omega)
          have u3 : w4.drew.cell? ⟨ga, 0, none⟩ = some (.int .i64 sp) := blk_cell KA.out 0
          have u4 : w4.drew.cell? ⟨ga, 1, none⟩ = some (.int .i64 an) := blk_cell KA.out 1
          have u5 : w4.drew.cell? ⟨b, 2, none⟩ = some (.string x2) := hw2 ▸ words_cell HW4.out 2 (by omega)
          have u6 : w4.drew.cell? ⟨b, 3, none⟩ = some (.string x3) := hw3 ▸ words_cell HW4.out 3 (by omega)
          have HIx := Aside0.mk (fun W (hW : Below w4.drew.heap.size w4.drew W) => Tryz.slices_Index_string 0 0 4 4 kwC x0 W (by decide) (by decide) (fun j hj => by rw [Nat.zero_add]; exact (HEn.out.k W ((HB4.out.mono H.out.sz).trans (hW.mono H4.out.sz))).c j hj))
          change Aside0 (∀ W, Below w4.drew.heap.size w4.drew W → Calls Tryz.prog 97 #[.slice (some ⟨0, 0, none⟩) 4 4, .string x0] W fun e w' => e = .returned (.int .i64 (kwIx kwC x0)) ∧ w' = W) at HIx
          generalize kwIx kwC x0 = ix at HIx HO
          have HF := Aside0.mk (show ((rdR S.rungs (k : Int)).f1.length + 1) * 56 ≤ 140737488355328 by omega)
          generalize hxs : (rdR S.rungs (k : Int)).f1 = xs at *
          have hl56 := HF.out
          refine start_ (n := 26) (S := fun w' => w'.cell? ⟨g, k * 4 + 1, none⟩ = some (.slice A2 xs.length c2) ∧ w'.cell? ⟨gl, 1, none⟩ = some (.slice (some ⟨b, 0, none⟩) 4 wc) ∧ w'.cell? ⟨b, 0, none⟩ = some (.string x0) ∧ w'.cell? ⟨ga, 0, none⟩ = some (.int .i64 sp) ∧ w'.cell? ⟨ga, 1, none⟩ = some (.int .i64 an) ∧ w'.cell? ⟨b, 2, none⟩ = some (.string x2) ∧ w'.cell? ⟨b, 3, none⟩ = some (.string x3)) (ds := [22, 25]) #[false, false, false, false, false, false, false, false, false, false, false, false, false, false, false, false, false, false, false, false, false, false, false, false, false, false] (by kernel_rfl) rfl rfl ⟨u0, u1, u2, u3, u4, u5, u6⟩ (fun hHeld => ?_)
          refine pure_ (i := 0) (N := some 59) (v := ?_) (a' := ?_) #[true, false, false, false, false, false, false, false, false, false, false, false, false, false, false, false, false, false, false, false, false, false, false, false, false, false] rfl rfl (by kernel_rfl) (fun _ _ _ h => h) (Or.inl ⟨by rfl, ?_⟩) ?_ ?_
          rotate_left
          · intro w'
            go_simp
            with_reducible rfl
          rotate_left
          · simp only [Act.put, List.setIfInBounds_toArray, List.set_cons_zero, List.set_cons_succ, i64_w, i32_w]
            rfl
          refine pure_ (i := 1) (N := some 60) (v := ?_) (a' := ?_) #[true, true, false, false, false, false, false, false, false, false, false, false, false, false, false, false, false, false, false, false, false, false, false, false, false, false] rfl rfl (by kernel_rfl) (fun _ _ _ h => h) (Or.inl ⟨by rfl, ?_⟩) ?_ ?_
          rotate_left
          · intro w'
            go_simp
            with_reducible rfl
          rotate_left
          · simp only [Act.put, List.setIfInBounds_toArray, List.set_cons_zero, List.set_cons_succ, i64_w, i32_w]
            rfl
          refine pure_ (i := 2) (N := some 61) (v := ?_) (a' := ?_) #[true, true, true, false, false, false, false, false, false, false, false, false, false, false, false, false, false, false, false, false, false, false, false, false, false, false] rfl rfl (by kernel_rfl) (fun _ _ _ h => h) (Or.inl ⟨by rfl, ?_⟩) ?_ ?_
          rotate_left
          · intro w'
            go_simp
            with_reducible rfl
          rotate_left
          · simp only [Act.put, List.setIfInBounds_toArray, List.set_cons_zero, List.set_cons_succ, i64_w, i32_w]
            rfl
          refine pure_ (i := 3) (N := some 62) (v := ?_) (a' := ?_) #[true, true, true, true, false, false, false, false, false, false, false, false, false, false, false, false, false, false, false, false, false, false, false, false, false, false] rfl rfl (by kernel_rfl) (fun _ _ _ h => h) (Or.inl ⟨by rfl, ?_⟩) ?_ ?_
          rotate_left
          · intro w'
            go_simp
            with_reducible rfl
          rotate_left
          · simp only [Act.put, List.setIfInBounds_toArray, List.set_cons_zero, List.set_cons_succ, i64_w, i32_w]
            rfl
          refine pure_ (i := 5) (N := some 64) (v := ?_) (a' := ?_) #[true, true, true, true, false, true, false, false, false, false, false, false, false, false, false, false, false, false, false, false, false, false, false, false, false, false] rfl rfl (by kernel_rfl) (fun _ _ _ h => h) (Or.inl ⟨by rfl, ?_⟩) ?_ ?_
          rotate_left
          · intro w'
            go_simp
            with_reducible rfl
          rotate_left
          · simp only [Act.put, List.setIfInBounds_toArray, List.set_cons_zero, List.set_cons_succ, i64_w, i32_w]
            rfl
          refine pure_ (i := 6) (N := some 65) (v := ?_) (a' := ?_) #[true, true, true, true, false, true, true, false, false, false, false, false, false, false, false, false, false, false, false, false, false, false, false, false, false, false] rfl rfl (by kernel_rfl) (fun _ _ _ h => h) (Or.inl ⟨by rfl, ?_⟩) ?_ ?_
          rotate_left
          · intro w'
            go_simp
            with_reducible rfl
          rotate_left
          · simp only [Act.put, List.setIfInBounds_toArray, List.set_cons_zero, List.set_cons_succ, i64_w, i32_w]
            rfl
          refine pure_ (i := 12) (N := some 71) (v := ?_) (a' := ?_) #[true, true, true, true, false, true, true, false, false, false, false, false, true, false, false, false, false, false, false, false, false, false, false, false, false, false] rfl rfl (by kernel_rfl) (fun _ _ _ h => h) (Or.inl ⟨by rfl, ?_⟩) ?_ ?_
          rotate_left
          · intro w'
            go_simp
            with_reducible rfl
          rotate_left
          · simp only [Act.put, List.setIfInBounds_toArray, List.set_cons_zero, List.set_cons_succ, i64_w, i32_w]
            rfl
          refine pure_ (i := 16) (N := some 75) (v := ?_) (a' := ?_) #[true, true, true, true, false, true, true, false, false, false, false, false, true, false, false, false, true, false, false, false, false, false, false, false, false, false] rfl rfl (by kernel_rfl) (fun _ _ _ h => h) (Or.inl ⟨by rfl, ?_⟩) ?_ ?_
          rotate_left
          · intro w'
            go_simp
            with_reducible rfl
          rotate_left
          · simp only [Act.put, List.setIfInBounds_toArray, List.set_cons_zero, List.set_cons_succ, i64_w, i32_w]
            rfl
          refine take_ (i := 4) (N := some 63) (v := ?_) (a' := ?_) #[true, true, true, true, true, true, true, false, false, false, false, false, true, false, false, false, true, false, false, false, false, false, false, false, false, false] rfl rfl (by kernel_rfl) (fun _ _ _ h => h) (Or.inl ⟨by rfl, ?_⟩) hHeld ?_ ?_
          rotate_left
          · rintro w' ⟨s0, s1, s2, s3, s4, s5, s6⟩
            go_simp
            with_reducible rfl
          rotate_left
          · simp only [Act.put, List.setIfInBounds_toArray, List.set_cons_zero, List.set_cons_succ, i64_w, i32_w]
            rfl
          refine take_ (i := 7) (N := some 66) (v := ?_) (a' := ?_) #[true, true, true, true, true, true, true, true, false, false, false, false, true, false, false, false, true, false, false, false, false, false, false, false, false, false] rfl rfl (by kernel_rfl) (fun _ _ _ h => h) (Or.inl ⟨by rfl, ?_⟩) hHeld ?_ ?_
          rotate_left
          · rintro w' ⟨s0, s1, s2, s3, s4, s5, s6⟩
            go_simp
            with_reducible rfl
          rotate_left
          · simp only [Act.put, List.setIfInBounds_toArray, List.set_cons_zero, List.set_cons_succ, i64_w, i32_w]
            rfl
          refine pure_ (i := 8) (N := some 67) (v := ?_) (a' := ?_) #[true, true, true, true, true, true, true, true, true, false, false, false, true, false, false, false, true, false, false, false, false, false, false, false, false, false] rfl rfl (by kernel_rfl) (fun _ _ _ h => h) (Or.inl ⟨by rfl, ?_⟩) ?_ ?_
          rotate_left
          · intro w'
            go_simp
            with_reducible rfl
          rotate_left
          · simp only [Act.put, List.setIfInBounds_toArray, List.set_cons_zero, List.set_cons_succ, i64_w, i32_w]
            rfl
          refine take_ (i := 9) (N := some 68) (v := ?_) (a' := ?_) #[true, true, true, true, true, true, true, true, true, true, false, false, true, false, false, false, true, false, false, false, false, false, false, false, false, false] rfl rfl (by kernel_rfl) (fun _ _ _ h => h) (Or.inl ⟨by rfl, ?_⟩) hHeld ?_ ?_
          rotate_left
          · rintro w' ⟨s0, s1, s2, s3, s4, s5, s6⟩
            go_simp
            with_reducible rfl
          rotate_left
          · simp only [Act.put, List.setIfInBounds_toArray, List.set_cons_zero, List.set_cons_succ, i64_w, i32_w]
            rfl
          refine take_ (i := 11) (N := some 70) (v := ?_) (a' := ?_) #[true, true, true, true, true, true, true, true, true, true, false, true, true, false, false, false, true, false, false, false, false, false, false, false, false, false] rfl rfl (by kernel_rfl) (fun _ _ _ h => h) (Or.inl ⟨by rfl, ?_⟩) hHeld ?_ ?_
          rotate_left
          · rintro w' ⟨s0, s1, s2, s3, s4, s5, s6⟩
            go_simp
            with_reducible rfl
          rotate_left
          · simp only [Act.put, List.setIfInBounds_toArray, List.set_cons_zero, List.set_cons_succ, i64_w, i32_w]
            rfl
          refine take_ (i := 13) (N := some 72) (v := ?_) (a' := ?_) #[true, true, true, true, true, true, true, true, true, true, false, true, true, true, false, false, true, false, false, false, false, false, false, false, false, false] rfl rfl (by kernel_rfl) (fun _ _ _ h => h) (Or.inl ⟨by rfl, ?_⟩) hHeld ?_ ?_
          rotate_left
          · rintro w' ⟨s0, s1, s2, s3, s4, s5, s6⟩
            go_simp
            with_reducible rfl
          rotate_left
          · simp only [Act.put, List.setIfInBounds_toArray, List.set_cons_zero, List.set_cons_succ, i64_w, i32_w]
            rfl
          refine pure_ (i := 14) (N := some 73) (v := ?_) (a' := ?_) #[true, true, true, true, true, true, true, true, true, true, false, true, true, true, true, false, true, false, false, false, false, false, false, false, false, false] rfl rfl (by kernel_rfl) (fun _ _ _ h => h) (Or.inl ⟨by rfl, ?_⟩) ?_ ?_
          rotate_left
          · intro w'
            go_simp
            with_reducible rfl
          rotate_left
          · simp only [Act.put, List.setIfInBounds_toArray, List.set_cons_zero, List.set_cons_succ, i64_w, i32_w]
            rfl
          refine take_ (i := 15) (N := some 74) (v := ?_) (a' := ?_) #[true, true, true, true, true, true, true, true, true, true, false, true, true, true, true, true, true, false, false, false, false, false, false, false, false, false] rfl rfl (by kernel_rfl) (fun _ _ _ h => h) (Or.inl ⟨by rfl, ?_⟩) hHeld ?_ ?_
          rotate_left
          · rintro w' ⟨s0, s1, s2, s3, s4, s5, s6⟩
            go_simp
            with_reducible rfl
          rotate_left
          · simp only [Act.put, List.setIfInBounds_toArray, List.set_cons_zero, List.set_cons_succ, i64_w, i32_w]
            rfl
          refine take_ (i := 17) (N := some 76) (v := ?_) (a' := ?_) #[true, true, true, true, true, true, true, true, true, true, false, true, true, true, true, true, true, true, false, false, false, false, false, false, false, false] rfl rfl (by kernel_rfl) (fun _ _ _ h => h) (Or.inl ⟨by rfl, ?_⟩) hHeld ?_ ?_
          rotate_left
          · rintro w' ⟨s0, s1, s2, s3, s4, s5, s6⟩
            go_simp
            with_reducible rfl
          rotate_left
          · simp only [Act.put, List.setIfInBounds_toArray, List.set_cons_zero, List.set_cons_succ, i64_w, i32_w]
            rfl
          refine pure_ (i := 18) (N := some 77) (v := ?_) (a' := ?_) #[true, true, true, true, true, true, true, true, true, true, false, true, true, true, true, true, true, true, true, false, false, false, false, false, false, false] rfl rfl (by kernel_rfl) (fun _ _ _ h => h) (Or.inl ⟨by rfl, ?_⟩) ?_ ?_
          rotate_left
          · intro w'
            go_simp
            with_reducible rfl
          rotate_left
          · simp only [Act.put, List.setIfInBounds_toArray, List.set_cons_zero, List.set_cons_succ, i64_w, i32_w]
            rfl
          refine take_ (i := 19) (N := some 78) (v := ?_) (a' := ?_) #[true, true, true, true, true, true, true, true, true, true, false, true, true, true, true, true, true, true, true, true, false, false, false, false, false, false] rfl rfl (by kernel_rfl) (fun _ _ _ h => h) (Or.inl ⟨by rfl, ?_⟩) hHeld ?_ ?_
          rotate_left
          · rintro w' ⟨s0, s1, s2, s3, s4, s5, s6⟩
            go_simp
            with_reducible rfl
          rotate_left
          · simp only [Act.put, List.setIfInBounds_toArray, List.set_cons_zero, List.set_cons_succ, i64_w, i32_w]
            rfl
          refine one_ (i := 10) (N := some 69) #[true, true, true, true, true, true, true, true, true, true, true, true, true, true, true, true, true, true, true, true, false, false, false, false, false, false] rfl rfl (by kernel_rfl) (by decide) (fun K hK => ?_)
          refine goes_ Tryz.func97 (by kernel_rfl) rfl #[.slice (some ⟨0, 0, none⟩) 4 4, .string x0] (by rfl) rfl rfl (by first | (simp only [List.map_toArray, List.map_cons, List.map_nil]; done) | (simp only [List.map_toArray, List.map_cons, List.map_nil]; rfl)) ?_
          with_reducible refine (HIx.out _ (Below.refl _ _)).mono ?_
          rintro e_ w_ ⟨rfl, rfl⟩
          refine ⟨_, rfl, ?_⟩
          refine hK.out _ _ ⟨u0, u1, u2, u3, u4, u5, u6⟩ (fun hHeld => ?_)
          clear hK K
          refine norm_ (a' := ?_) ?_ ?_
          rotate_left
          · show Act.put _ (some 69) _ = _
            simp only [Act.put, List.setIfInBounds_toArray, List.set_cons_zero, List.set_cons_succ, i64_w, i32_w]
            rfl
          refine pure_ (i := 20) (N := some 79) (v := ?_) (a' := ?_) #[true, true, true, true, true, true, true, true, true, true, true, true, true, true, true, true, true, true, true, true, true, false, false, false, false, false] rfl rfl (by kernel_rfl) (fun _ _ _ h => h) (Or.inl ⟨by rfl, ?_⟩) ?_ ?_
          rotate_left
          · intro w'
            go_simp
            with_reducible rfl
          rotate_left
          · simp only [Act.put, List.setIfInBounds_toArray, List.set_cons_zero, List.set_cons_succ, i64_w, i32_w]
            rfl
          refine one_ (i := 21) (N := some 80) #[true, true, true, true, true, true, true, true, true, true, true, true, true, true, true, true, true, true, true, true, true, true, false, false, false, false] rfl rfl (by kernel_rfl) (by decide) (fun K hK => ?_)
          refine value_ (w1 := ?_) (v := ?_) (by rfl) rfl ?_ ?_
          rotate_left 2
          · go_simp
            constructor
            · rfl
            · rfl
          refine hK.out _ _ ⟨(pw_cell_below (below_alloc (Below.refl _ _) _) u0), (pw_cell_below (below_alloc (Below.refl _ _) _) u1), (pw_cell_below (below_alloc (Below.refl _ _) _) u2), (pw_cell_below (below_alloc (Below.refl _ _) _) u3), (pw_cell_below (below_alloc (Below.refl _ _) _) u4), (pw_cell_below (below_alloc (Below.refl _ _) _) u5), (pw_cell_below (below_alloc (Below.refl _ _) _) u6)⟩ (fun hHeld => ?_)
          clear hK K
          refine norm_ (a' := ?_) ?_ ?_
          rotate_left
          · show Act.put _ (some 80) _ = _
            simp only [Act.put, List.setIfInBounds_toArray, List.set_cons_zero, List.set_cons_succ, i64_w, i32_w]
            rfl
          refine last_ (i := 22) (N := some 81) #[true, true, true, true, true, true, true, true, true, true, true, true, true, true, true, true, true, true, true, true, true, true, true, false, false, false] rfl rfl (by kernel_rfl) (by decide) (fun K hK => ?_)
          refine Kd.R_append_step kCon (w0 := w4.drew) (W := w4.drew) B (by rfl) (.tmp 63) (.tmp 80) 50 59 (.agg #[.int .i64 0, .int .i64 0, .int .i64 0, .string ⟨#[]⟩, .string ⟨#[]⟩]) 56 rfl Tryz.underlying50 PPrinterRoundTrip.info59 rfl (Nat.zero_lt_succ 4) (by omega) (.slice A2 xs.length c2) xs ⟨ix, ⟨sp, an⟩, x2, x3⟩ [.int .i64 ix, .int .i64 sp, .int .i64 an, .string x2, .string x3] (fun _ => True) (fun _ => False) rfl rfl (PPrinterRoundTrip.k59_mkM (w4.drew) B _ ⟨ix, ⟨sp, an⟩, x2, x3⟩) (fun _ h => h.elim) (fun _ _ => trivial) HR2.out (Below.refl _ _) HSz.out (by omega) ?_
          intro v1 w5 hr _ hgr hat
          obtain ⟨A3, d3, e3, -, -⟩ := Kd.R_reads hr
          obtain rfl : v1 = .slice A3 (xs.length + 1) d3 := by rw [e3, List.length_append, List.length_singleton]
          clear e3
          have HC := Aside0.mk (HCl.out ⟨ix, ⟨sp, an⟩, x2, x3⟩ hr hgr hat)
          have HGr := Aside0.mk hgr
          have htg5 := (hgr.block g (blk_lt HTg.out) (fun e => by obtain ⟨cells, hc⟩ := Kd.R_typed HR2.out g e.symm; have h2 := HTg.out; rw [hc] at h2; cases h2)).trans HTg.out
          have t5 := (World.cell?_of_block (a := ⟨g, k * 4 + 1, none⟩) (htg5.trans HTg.out.symm)).trans u0
          have f5 := blk_frozen htg5 (k * 4 + 1)
          clear hr hgr hat htg5
          refine hK.out _ _ ?_
          clear hK K
          refine norm_ (a' := ?_) ?_ ?_
          rotate_left
          · show Act.put _ (some 81) _ = _
            simp only [Act.put, List.setIfInBounds_toArray, List.set_cons_zero, List.set_cons_succ, i64_w, i32_w]
            rfl
          refine pure_ (i := 23) (N := some 82) (v := ?_) (a' := ?_) #[true, true, true, true, true, true, true, true, true, true, true, true, true, true, true, true, true, true, true, true, true, true, true, true, false, false] rfl rfl (by kernel_rfl) (fun _ _ _ h => h) (Or.inl ⟨by rfl, ?_⟩) ?_ ?_
          rotate_left
          · intro w'
            go_simp
            with_reducible rfl
          rotate_left
          · simp only [Act.put, List.setIfInBounds_toArray, List.set_cons_zero, List.set_cons_succ, i64_w, i32_w]
            rfl
          refine pure_ (i := 24) (N := some 83) (v := ?_) (a' := ?_) #[true, true, true, true, true, true, true, true, true, true, true, true, true, true, true, true, true, true, true, true, true, true, true, true, true, false] rfl rfl (by kernel_rfl) (fun _ _ _ h => h) (Or.inl ⟨by rfl, ?_⟩) ?_ ?_
          rotate_left
          · intro w'
            go_simp
            with_reducible rfl
          rotate_left
          · simp only [Act.put, List.setIfInBounds_toArray, List.set_cons_zero, List.set_cons_succ, i64_w, i32_w]
            rfl
          refine last_ (i := 25) (N := none) #[true, true, true, true, true, true, true, true, true, true, true, true, true, true, true, true, true, true, true, true, true, true, true, true, true, true] rfl rfl (by kernel_rfl) (by decide) (fun K hK => ?_)
          refine skip_ (w1 := ?_) (by rfl) rfl ?_ ?_
          rotate_left
          · go_simp
            rfl
          refine hK.out _ _ ?_
          clear hK K
          refine done_ (by kernel_rfl) ?_
          have HPF := Aside0.mk (H4.out.row (t := 59) (fun i e => ⟨Kd.R_base HR2.out i e, Kd.R_typed HR2.out i e⟩) (by rfl) (by decide) (by decide) (by decide) HGr.out HC.out (by rw [List.length_set]))
          clear u0 u1 u2 u3 u4 u5 u6 t5 f5
          go_wp2
          go_ret
          rw [HO.out]
          exact ⟨rfl, (KP.of_below H.out.sz HB4.out).trans HPF.out.2, fun _ => ⟨_, _, _, HPF.out.1⟩⟩
      · obtain rfl : r = (S, ae) := by
          rw [← HR.out, conS, HL.out, if_neg HJ.out, if_neg H16.out, hw1, HAE.out, if_pos (by simpa using hae0)]
        go_wp2
        go_ret
        exact ⟨rfl, KP.of_below H.out.sz (below_alloc HB2.out _), fun e => absurd e hae0⟩
end Go.Proofs.YtolmkdhgnganaaaGreatDoor.H
namespace Go.Proofs.YtolmkdhgnganaaaGreatDoor.H
open Go Go.RowKit Go.Proofs Go.Proofs.YtolmkdhgnganaaaGreatDoorW.PrintWords Go.Proofs.YtolmkdhgnganaaaGreatDoor.Sp
set_option maxRecDepth 100000 in
theorem clo_c (x : Rung) (A1 : Option Addr) (c1 : Nat) (A2 : Option Addr) (c2 : Nat) (L : ByteArray) (g : Nat) (w : World) (h : w.cell? ⟨g, 0, none⟩ = some (.string L)) :
    Calls Tryz.prog 94 #[.agg #[.string x.f0, .slice A1 x.f1.length c1, .slice A2 x.f2.length c2, .string x.f3], .pointer (some ⟨g, 0, none⟩)] w (RetB w (.bool (seq x.f0 L))) := by
  have lt : g < w.heap.size := World.block_lt_of_cell? w _ h
  go_enter Tryz.func94, Tryz.ntmps94
  go_wp2
  go_ret
  exact ⟨rfl, below_alloc (Below.refl _ _) _⟩
set_option maxRecDepth 100000 in
theorem clo_d (x : Rung) (A1 : Option Addr) (c1 : Nat) (A2 : Option Addr) (c2 : Nat) (L : ByteArray) (g : Nat) (w : World) (h : w.cell? ⟨g, 3, none⟩ = some (.string L)) :
    Calls Tryz.prog 35 #[.agg #[.string x.f0, .slice A1 x.f1.length c1, .slice A2 x.f2.length c2, .string x.f3], .pointer (some ⟨g, 0, none⟩)] w (RetB w (.bool (seq x.f0 L))) := by
  have lt : g < w.heap.size := World.block_lt_of_cell? w _ h
  go_enter Tryz.func35, Tryz.ntmps35
  go_wp2
  go_ret
  exact ⟨rfl, below_alloc (Below.refl _ _) _⟩
set_option maxRecDepth 100000 in
theorem idxL_c (A : Option Addr) (c : Nat) (l : List Rung) (L : ByteArray) (g : Nat) (w : World) (hr : Kd.C kRung w A l.length l) (hc : l.length ≤ c) (h : w.cell? ⟨g, 0, none⟩ = some (.string L)) :
    Calls Tryz.prog 68 #[.slice A l.length c, .func (.func 94) #[] #[.pointer (some ⟨g, 0, none⟩)]] w (FoundB w (hasLab l L)) := by
  have hmax := Kd.C_max hr
  have HR := Aside0.mk hr
  have HG := Aside0.mk h
  have HT := fun {b : Bool} (hb : hasLab l L = b) => hb
  clear hr h
  generalize hV : hasLab l L = V
  have HV := Aside0.mk hV
  clear hV HT
  go_enter Tryz.func68, Tryz.ntmps68
  go_wp2
  go_loopw [8] (fun cv w' => ∃ k : Int, cv = .int .i64 k ∧ 0 ≤ k ∧ k ≤ l.length ∧ Aside0 (Below w.heap.size w w') ∧ Aside0 (∀ j : Int, 0 ≤ j → j < k → seq (PPrinterRoundTrip.rd_T53 l j).f0 L = false)) (fun cv _ => l.length - (intOf cv).toNat)
  case atStart => exact ⟨0, rfl, by omega, by omega, ⟨Below.refl _ _⟩, ⟨fun j h1 h2 => by omega⟩⟩
  case round =>
    obtain ⟨k, rfl, h0, h1, HB, HA⟩ := hrel
    by_cases hk : k < l.length
    · obtain ⟨ad, A1, c1, A2, c2, rfl, x0, x1, x2, x3, hl1, hi1, hl2, hi2⟩ := PPrinterRoundTrip.at_T53 HR.out k h0 hk
      clear hl1 hi1 hl2 hi2
      replace x0 := pw_cell_below HB.out x0
      replace x1 := pw_cell_below HB.out x1
      replace x2 := pw_cell_below HB.out x2
      replace x3 := pw_cell_below HB.out x3
      have hwr : wrap64 (k + 1) = k + 1 := w64 (by omega) (by omega)
      cases hs : seq (PPrinterRoundTrip.rd_T53 l k).f0 L with
      | true =>
        obtain rfl : V = true := HV.out ▸ hasLab_some h0 hk hs
        have HS := Aside0.mk hs
        clear hs
        go_wp2_with (go_at_call 94; (with_reducible refine (clo_c _ _ _ _ _ L g _ (pw_cell_below HB.out HG.out)).mono ?_); rintro e_ w1 ⟨rfl, hb⟩; rw [HS.out])
        go_ret
        exact ⟨k, rfl, decide_eq_true h0, below_step HB.out hb⟩
      | false =>
        have HS := Aside0.mk hs
        clear hs
        go_wp2_with (go_at_call 94; (with_reducible refine (clo_c _ _ _ _ _ L g _ (pw_cell_below HB.out HG.out)).mono ?_); rintro e_ w1 ⟨rfl, hb⟩; rw [HS.out])
        go_roundw
        case rel =>
          refine ⟨k + 1, by simp [hwr], by omega, by omega, ⟨below_step HB.out hb⟩, ⟨fun j j0 j1 => ?_⟩⟩
          by_cases hj : j < k
          · exact HA.out j j0 hj
          · obtain rfl : j = k := by omega
            exact HS.out
        case measure => simp [intOf, hwr]; omega
    · obtain rfl : k = l.length := by omega
      obtain rfl : V = false := HV.out ▸ hasLab_none (fun j j0 j1 => HA.out j j0 j1)
      go_wp2
      go_ret
      exact ⟨-1, rfl, rfl, HB.out⟩
set_option maxRecDepth 100000 in
theorem idxL_d (A : Option Addr) (c : Nat) (l : List Rung) (L : ByteArray) (g : Nat) (w : World) (hr : Kd.C kRung w A l.length l) (hc : l.length ≤ c) (h : w.cell? ⟨g, 3, none⟩ = some (.string L)) :
    Calls Tryz.prog 68 #[.slice A l.length c, .func (.func 35) #[] #[.pointer (some ⟨g, 0, none⟩)]] w (FoundB w (hasLab l L)) := by
  have hmax := Kd.C_max hr
  have HR := Aside0.mk hr
  have HG := Aside0.mk h
  have HT := fun {b : Bool} (hb : hasLab l L = b) => hb
  clear hr h
  generalize hV : hasLab l L = V
  have HV := Aside0.mk hV
  clear hV HT
  go_enter Tryz.func68, Tryz.ntmps68
  go_wp2
  go_loopw [8] (fun cv w' => ∃ k : Int, cv = .int .i64 k ∧ 0 ≤ k ∧ k ≤ l.length ∧ Aside0 (Below w.heap.size w w') ∧ Aside0 (∀ j : Int, 0 ≤ j → j < k → seq (PPrinterRoundTrip.rd_T53 l j).f0 L = false)) (fun cv _ => l.length - (intOf cv).toNat)
  case atStart => exact ⟨0, rfl, by omega, by omega, ⟨Below.refl _ _⟩, ⟨fun j h1 h2 => by omega⟩⟩
  case round =>
    obtain ⟨k, rfl, h0, h1, HB, HA⟩ := hrel
    by_cases hk : k < l.length
    · obtain ⟨ad, A1, c1, A2, c2, rfl, x0, x1, x2, x3, hl1, hi1, hl2, hi2⟩ := PPrinterRoundTrip.at_T53 HR.out k h0 hk
      clear hl1 hi1 hl2 hi2
      replace x0 := pw_cell_below HB.out x0
      replace x1 := pw_cell_below HB.out x1
      replace x2 := pw_cell_below HB.out x2
      replace x3 := pw_cell_below HB.out x3
      have hwr : wrap64 (k + 1) = k + 1 := w64 (by omega) (by omega)
      cases hs : seq (PPrinterRoundTrip.rd_T53 l k).f0 L with
      | true =>
        obtain rfl : V = true := HV.out ▸ hasLab_some h0 hk hs
        have HS := Aside0.mk hs
        clear hs
        go_wp2_with (go_at_call 35; (with_reducible refine (clo_d _ _ _ _ _ L g _ (pw_cell_below HB.out HG.out)).mono ?_); rintro e_ w1 ⟨rfl, hb⟩; rw [HS.out])
        go_ret
        exact ⟨k, rfl, decide_eq_true h0, below_step HB.out hb⟩
      | false =>
        have HS := Aside0.mk hs
        clear hs
        go_wp2_with (go_at_call 35; (with_reducible refine (clo_d _ _ _ _ _ L g _ (pw_cell_below HB.out HG.out)).mono ?_); rintro e_ w1 ⟨rfl, hb⟩; rw [HS.out])
        go_roundw
        case rel =>
          refine ⟨k + 1, by simp [hwr], by omega, by omega, ⟨below_step HB.out hb⟩, ⟨fun j j0 j1 => ?_⟩⟩
          by_cases hj : j < k
          · exact HA.out j j0 hj
          · obtain rfl : j = k := by omega
            exact HS.out
        case measure => simp [intOf, hwr]; omega
    · obtain rfl : k = l.length := by omega
      obtain rfl : V = false := HV.out ▸ hasLab_none (fun j j0 j1 => HA.out j j0 j1)
      go_wp2
      go_ret
      exact ⟨-1, rfl, rfl, HB.out⟩
theorem has_c (A : Option Addr) (c : Nat) (l : List Rung) (L : ByteArray) (g : Nat) (w : World) (hr : Kd.C kRung w A l.length l) (hc : l.length ≤ c) (h : w.cell? ⟨g, 0, none⟩ = some (.string L)) :
    Calls Tryz.prog 34 #[.slice A l.length c, .func (.func 94) #[] #[.pointer (some ⟨g, 0, none⟩)]] w (RetB w (.bool (hasLab l L))) := by
  have c1 := idxL_c A c l L g w hr hc h
  go_enter Tryz.func34, Tryz.ntmps34
  go_wp2_with fail
  refine c1.mono ?_
  rintro e w1 ⟨v, rfl, hv, hb⟩
  go_wp2
  go_ret
  rw [← hv]
  exact ⟨rfl, hb⟩
theorem has_d (A : Option Addr) (c : Nat) (l : List Rung) (L : ByteArray) (g : Nat) (w : World) (hr : Kd.C kRung w A l.length l) (hc : l.length ≤ c) (h : w.cell? ⟨g, 3, none⟩ = some (.string L)) :
    Calls Tryz.prog 34 #[.slice A l.length c, .func (.func 35) #[] #[.pointer (some ⟨g, 0, none⟩)]] w (RetB w (.bool (hasLab l L))) := by
  have c1 := idxL_d A c l L g w hr hc h
  go_enter Tryz.func34, Tryz.ntmps34
  go_wp2_with fail
  refine c1.mono ?_
  rintro e w1 ⟨v, rfl, hv, hb⟩
  go_wp2
  go_ret
  rw [← hv]
  exact ⟨rfl, hb⟩
end Go.Proofs.YtolmkdhgnganaaaGreatDoor.H
namespace Go.Proofs.YtolmkdhgnganaaaGreatDoor.H
open Go Go.RowKit Go.Proofs Go.Proofs.YtolmkdhgnganaaaGreatDoorW.PrintWords Go.Proofs.YtolmkdhgnganaaaGreatDoorW.PrintLast Go.Proofs.YtolmkdhgnganaaaGreatDoorW.PrintMore Go.Proofs.YtolmkdhgnganaaaGreatDoor.Sp
/-- A block that holds one element, as a row. -/
theorem row_oneG {α : Type} {K : α → List Value → Prop} {n g t : Nat} {r : α} {cs : List Value} {w' : World} (hc : cs.length = n) (hk : K r cs) (hb : w'.heap[g]? = some (.cells cs.toArray t (0, 0))) : ReadsRow K n w' (some ⟨g, 0, none⟩) 1 [r] := by
  refine ⟨rfl, by decide, fun _ => ⟨⟨g, 0, none⟩, rfl, fun j p hj => ?_⟩⟩
  match j, hj with
  | 0, hj =>
    obtain rfl : r = p := by simpa using hj
    refine ⟨cs, hc, hk, fun i u hu => ?_⟩
    rw [Nat.zero_mul, Nat.zero_add]
    exact World.news_of_block hb i u (by simpa using hu)
section
variable {P : Program} {ops : Array Oper} {o : Oper} {a : Act} {Q : Exit → Act → World → Prop} {Kc : Act → World → Prop} {α : Type}
/-- One element, laid in a block of its own, put behind a row whose elements own rows. -/
theorem S_append_one_step (d : Kd α) {w0 W : World} (base : Nat) (hw : Region.wanted o (yielded ops a.tmps) = true) (s x : Operand) (t e : TypeId) (z : Value) (bytes : Nat)
    (ho : o.op = .call { callee := .builtin .append, args := #[s, x], argTypes := #[t, t] })
    (ht : P.underlying t = some (.slice e)) (hinfo : (P.info? e).map (fun i => (i.zero, i.size, i.bytes)) = some (some z, d.sz, bytes)) (hz : z.cells.size = d.sz) (hs0 : 0 < d.sz) (hb0 : 0 < bytes)
    (v : Value) (xs : List α) (p : α) (cs : List Value) (g u : Nat) (ok okp : Nat → Prop) (hs : a.eval s = v) (hx : a.eval x = .slice (some ⟨g, 0, none⟩) 1 1) (hp : d.M W base okp p cs) (hcl : cs.length = d.sz) (hg : W.heap[g]? = some (.cells cs.toArray u (0, 0)))
    (hokp : ∀ k, okp k → ok k ∧ some k ≠ v.ownBlock) (hfresh : ∀ k, W.heap.size ≤ k → ok k)
    (HO : Kd.S d e W base (fun k => ok k ∧ ¬ okp k) v xs) (HB : Below base w0 W) (hbase : base ≤ W.heap.size) (hl : (xs.length + 1) * bytes ≤ 140737488355328)
    (h : ∀ v1 w1, Kd.S d e w1 base ok v1 (xs ++ [p]) → Below base w0 w1 → W.grownBy w1 v.ownBlock → (v1.ownBlock = v.ownBlock ∨ ∃ b, v1.ownBlock = some b ∧ W.heap.size ≤ b) → Kc (a.put o.dst v1) w1) :
    if Region.wanted o (yielded ops a.tmps) = true then Oper.wp P o a W Kc Q else Kc (a.put o.dst undef) W := by
  obtain ⟨f, hf, hR⟩ := Kd.S_tag HO xs.length okp (fun _ hk h2 => h2.2 hk)
  refine Kd.R_append_rows_step (Kd.tag f d) (Rr := fun q c => q = (p, xs.length) ∧ c = cs) base hw s x t e z bytes ho ht hinfo hz hs0 hb0 v xs.zipIdx [(p, xs.length)] (some ⟨g, 0, none⟩) 1 1 ok okp hs hx (Kd.R_mono hR (fun _ hk => hk.1))
    (row_oneG hcl ⟨rfl, rfl⟩ hg) (fun q c hq => ?_) hokp hfresh HB hbase (by rw [List.length_zipIdx]; exact hl) ?_
  · obtain ⟨rfl, rfl⟩ := hq
    exact d.M_mono (fun k hk => ⟨hk, hf k hk⟩) hp
  intro v1 w1 hr
  rw [← Kd.zip_snoc] at hr
  exact h v1 w1 ⟨f, hr⟩
end
theorem R_int_grown {w w1 : World} {B : Nat} {u v : Value} {l : List Int} (h : (Kd.int .i64).R 3 w B (fun _ => True) u l) (hg : w.grownBy w1 v.ownBlock) (hne : ∀ k, u.ownBlock = some k → v.ownBlock ≠ some k) : (Kd.int .i64).R 3 w1 B (fun _ => True) u l :=
  Kd.R_mono (Kd.R_move (Kd.R_bound (Kd.R_tight rfl h)) (fun k hk => hg.block k hk.2.2.1 (fun e => hne k hk.1.symm e.symm))) (fun _ _ => trivial)
theorem grown_blk {w w1 : World} {v : Value} {t u g : Nat} {cs : Array Value} (hg : w.grownBy w1 v.ownBlock) (hty : ∀ k, v.ownBlock = some k → ∃ cells, w.heap[k]? = some (.cells cells t (0, 0))) (hb : w.heap[g]? = some (.cells cs u (0, 0))) (hne : u ≠ t) : w1.heap[g]? = some (.cells cs u (0, 0)) :=
  (hg.block g (blk_lt hb) (fun e => by
    obtain ⟨cells, hc⟩ := hty g e.symm
    rw [hb] at hc
    cases hc
    exact hne rfl)).trans hb
theorem grown_at {w w1 : World} {v : Value} {u g : Nat} {cs : Array Value} (hg : w.grownBy w1 v.ownBlock) (hb : w.heap[g]? = some (.cells cs u (0, 0))) (hne : v.ownBlock ≠ some g) : w1.heap[g]? = some (.cells cs u (0, 0)) :=
  (hg.block g (blk_lt hb) (fun e => hne e.symm)).trans hb
/-- An empty rung with the label x. -/
def newR (x : ByteArray) : Rung := ⟨x, [], [], ⟨#[]⟩⟩
abbrev newC (x : ByteArray) : List Value := [.string x, .slice none 0 0, .slice none 0 0, .string ⟨#[]⟩]
abbrev BegS := Nat × Value × Nat × Value × Nat × Value
/-- Which operations have run: 9, 10 (the rung laid, put behind the rungs), 17, 18 (the line's number), 23, 24 (the jump's). -/
structure BegF (B gp gr gl : Nat) (S : PSt) (vr vl vj : Value) (x : ByteArray) (n : Int) (lv : Value) (W : World) (d9 d10 d17 d18 d23 d24 : Bool) (s : BegS) (w' : World) : Prop where
  k : KP B W w'
  sz : B ≤ w'.heap.size
  p : w'.heap[gp]? = some (.cells #[.int .i64 S.i, .int .i64 S.q, .int .i64 S.m, vr, .bool S.sized, vl, vj] 77 (0, 0))
  r : w'.heap[gr]? = some (.cells #[.string x, .slice none 0 0, .slice none 0 0, .string ⟨#[]⟩] 53 (0, 0))
  l : w'.heap[gl]? = some (.cells #[.int .i64 n, lv] 81 (0, 0))
  nr : vr.ownBlock ≠ some gr
  r0 : d10 = false → Kd.S kRung 53 w' B (fun _ => True) vr S.rungs
  r1 : d10 = true → Kd.S kRung 53 w' B (fun _ => True) s.2.1 (S.rungs ++ [newR x])
  l0 : d18 = false → (Kd.int .i64).R 3 w' B (fun _ => True) vl S.lines
  l1 : d18 = true → (Kd.int .i64).R 3 w' B (fun _ => True) s.2.2.2.1 (S.lines ++ [n])
  j0 : d24 = false → (Kd.int .i64).R 3 w' B (fun _ => True) vj S.jumps
  j1 : d24 = true → (Kd.int .i64).R 3 w' B (fun _ => True) s.2.2.2.2.2 (S.jumps ++ [0])
  x9 : d9 = true → d10 = false → w'.heap[s.1]? = some (.cells (newC x).toArray 53 (0, 0)) ∧ vr.ownBlock ≠ some s.1
  x17 : d17 = true → d18 = false → w'.heap[s.2.2.1]? = some (.cells [Value.int .i64 n].toArray 3 (0, 0)) ∧ vl.ownBlock ≠ some s.2.2.1
  x23 : d23 = true → d24 = false → w'.heap[s.2.2.2.2.1]? = some (.cells [Value.int .i64 0].toArray 3 (0, 0)) ∧ (d18 = false → vl.ownBlock ≠ some s.2.2.2.2.1) ∧ vj.ownBlock ≠ some s.2.2.2.2.1
  lj : ∀ k, vl.ownBlock = some k → vj.ownBlock ≠ some k
  lj1 : d18 = true → d24 = false → ∀ k, s.2.2.2.1.ownBlock = some k → vj.ownBlock ≠ some k
  lj2 : d24 = true → ∀ k, s.2.2.2.1.ownBlock = some k → s.2.2.2.2.2.ownBlock ≠ some k
section
variable {B gp gr gl : Nat} {S : PSt} {vr vl vj : Value} {x : ByteArray} {n : Int} {lv : Value} {W w' w1 : World} {d9 d10 d17 d18 d23 d24 : Bool} {g9 g17 g23 : Nat} {v10 v18 v24 : Value}
theorem KP.below_ (h : KP B W w') (hs : B ≤ w'.heap.size) (hb : Below w'.heap.size w' w1) : KP B W w1 := h.trans (KP.of_below hs hb)
theorem lt_ne {v : Value} {m : Nat} (h : ∀ k, v.ownBlock = some k → k < m) : v.ownBlock ≠ some m := fun e => Nat.lt_irrefl _ (h _ e)
theorem BegF.s9 (h : BegF B gp gr gl S vr vl vj x n lv W false false d17 false d23 false (g9, v10, g17, v18, g23, v24) w') :
    BegF B gp gr gl S vr vl vj x n lv W true false d17 false d23 false (w'.heap.size, v10, g17, v18, g23, v24) (w'.alloc (.cells (newC x).toArray 53)) where
  k := h.k.below_ h.sz (below_alloc (Below.refl _ _) _)
  sz := Nat.le_trans h.sz (below_alloc (Below.refl _ _) _).size
  p := blk_alloc h.p _
  r := blk_alloc h.r _
  l := blk_alloc h.l _
  nr := h.nr
  r0 := fun e => Kd.S_alloc (h.r0 e) _
  r1 := nofun
  l0 := fun e => Kd.R_below (h.l0 e) (below_alloc (Below.refl _ _) _)
  l1 := nofun
  j0 := fun e => Kd.R_below (h.j0 e) (below_alloc (Below.refl _ _) _)
  j1 := nofun
  x9 := fun _ _ => ⟨blk_new _ _, lt_ne (Kd.S_lt (h.r0 rfl))⟩
  x17 := fun e e2 => ⟨blk_alloc (h.x17 e e2).1 _, (h.x17 e e2).2⟩
  x23 := fun e e2 => ⟨blk_alloc (h.x23 e e2).1 _, (h.x23 e e2).2⟩
  lj := h.lj
  lj1 := nofun
  lj2 := nofun
theorem BegF.s17 (h : BegF B gp gr gl S vr vl vj x n lv W d9 d10 false false d23 false (g9, v10, g17, v18, g23, v24) w') :
    BegF B gp gr gl S vr vl vj x n lv W d9 d10 true false d23 false (g9, v10, w'.heap.size, v18, g23, v24) (w'.alloc (.cells [Value.int .i64 n].toArray 3)) where
  k := h.k.below_ h.sz (below_alloc (Below.refl _ _) _)
  sz := Nat.le_trans h.sz (below_alloc (Below.refl _ _) _).size
  p := blk_alloc h.p _
  r := blk_alloc h.r _
  l := blk_alloc h.l _
  nr := h.nr
  r0 := fun e => Kd.S_alloc (h.r0 e) _
  r1 := fun e => Kd.S_alloc (h.r1 e) _
  l0 := fun e => Kd.R_below (h.l0 e) (below_alloc (Below.refl _ _) _)
  l1 := nofun
  j0 := fun e => Kd.R_below (h.j0 e) (below_alloc (Below.refl _ _) _)
  j1 := nofun
  x9 := fun e e2 => ⟨blk_alloc (h.x9 e e2).1 _, (h.x9 e e2).2⟩
  x17 := fun _ _ => ⟨blk_new _ _, lt_ne (Kd.R_lt (h.l0 rfl))⟩
  x23 := fun e e2 => ⟨blk_alloc (h.x23 e e2).1 _, (h.x23 e e2).2⟩
  lj := h.lj
  lj1 := nofun
  lj2 := nofun
theorem BegF.s23 (h : BegF B gp gr gl S vr vl vj x n lv W d9 d10 d17 d18 false false (g9, v10, g17, v18, g23, v24) w'):
    BegF B gp gr gl S vr vl vj x n lv W d9 d10 d17 d18 true false (g9, v10, g17, v18, w'.heap.size, v24) (w'.alloc (.cells [Value.int .i64 0].toArray 3)) where
  k := h.k.below_ h.sz (below_alloc (Below.refl _ _) _)
  sz := Nat.le_trans h.sz (below_alloc (Below.refl _ _) _).size
  p := blk_alloc h.p _
  r := blk_alloc h.r _
  l := blk_alloc h.l _
  nr := h.nr
  r0 := fun e => Kd.S_alloc (h.r0 e) _
  r1 := fun e => Kd.S_alloc (h.r1 e) _
  l0 := fun e => Kd.R_below (h.l0 e) (below_alloc (Below.refl _ _) _)
  l1 := fun e => Kd.R_below (h.l1 e) (below_alloc (Below.refl _ _) _)
  j0 := fun e => Kd.R_below (h.j0 e) (below_alloc (Below.refl _ _) _)
  j1 := nofun
  x9 := fun e e2 => ⟨blk_alloc (h.x9 e e2).1 _, (h.x9 e e2).2⟩
  x17 := fun e e2 => ⟨blk_alloc (h.x17 e e2).1 _, (h.x17 e e2).2⟩
  x23 := fun _ _ => ⟨blk_new _ _, fun e => lt_ne (Kd.R_lt (h.l0 e)), lt_ne (Kd.R_lt (h.j0 rfl))⟩
  lj := h.lj
  lj1 := h.lj1
  lj2 := nofun
theorem int_rung : ∀ q, q ∈ 3 :: (Kd.int .i64).E → q ≠ 53 := by decide
theorem rung_int : ∀ q, q ∈ 53 :: kRung.E → q ≠ 3 := by decide
theorem BegF.s10 (h : BegF B gp gr gl S vr vl vj x n lv W true false d17 false d23 false (g9, v10, g17, v18, g23, v24) w') {v1 : Value} (hs : Kd.S kRung 53 w1 B (fun _ => True) v1 (S.rungs ++ [newR x])) (hg : w'.grownBy w1 vr.ownBlock) :
    BegF B gp gr gl S vr vl vj x n lv W true true d17 false d23 false (g9, v1, g17, v18, g23, v24) w1 where
  k := h.k.trans (KP.grown h.sz hg (fun k e => ⟨Kd.S_base (h.r0 rfl) k e, Kd.S_typed (h.r0 rfl) k e⟩) (by rfl))
  sz := Nat.le_trans h.sz hg.size
  p := grown_blk hg (Kd.S_typed (h.r0 rfl)) h.p (by decide)
  r := grown_at hg h.r h.nr
  l := grown_blk hg (Kd.S_typed (h.r0 rfl)) h.l (by decide)
  nr := h.nr
  r0 := nofun
  r1 := fun _ => hs
  l0 := fun e => Kd.R_over' (h.l0 e) (Kd.S_typed (h.r0 rfl)) int_rung hg
  l1 := nofun
  j0 := fun e => Kd.R_over' (h.j0 e) (Kd.S_typed (h.r0 rfl)) int_rung hg
  j1 := nofun
  x9 := nofun
  x17 := fun e e2 => ⟨grown_blk hg (Kd.S_typed (h.r0 rfl)) (h.x17 e e2).1 (by decide), (h.x17 e e2).2⟩
  x23 := fun e e2 => ⟨grown_blk hg (Kd.S_typed (h.r0 rfl)) (h.x23 e e2).1 (by decide), (h.x23 e e2).2⟩
  lj := h.lj
  lj1 := nofun
  lj2 := nofun
theorem BegF.s18 (h : BegF B gp gr gl S vr vl vj x n lv W true true true false d23 false (g9, v10, g17, v18, g23, v24) w') {v1 : Value} (hs : (Kd.int .i64).R 3 w1 B (fun _ => True) v1 (S.lines ++ [n])) (hg : w'.grownBy w1 vl.ownBlock)
    (hat : v1.ownBlock = vl.ownBlock ∨ ∃ b, v1.ownBlock = some b ∧ w'.heap.size ≤ b) :
    BegF B gp gr gl S vr vl vj x n lv W true true true true d23 false (g9, v10, g17, v1, g23, v24) w1 where
  k := h.k.trans (KP.grown h.sz hg (fun k e => ⟨Kd.R_base (h.l0 rfl) k e, Kd.R_typed (h.l0 rfl) k e⟩) (by rfl))
  sz := Nat.le_trans h.sz hg.size
  p := grown_blk hg (Kd.R_typed (h.l0 rfl)) h.p (by decide)
  r := grown_blk hg (Kd.R_typed (h.l0 rfl)) h.r (by decide)
  l := grown_blk hg (Kd.R_typed (h.l0 rfl)) h.l (by decide)
  nr := h.nr
  r0 := nofun
  r1 := fun e => Kd.S_over' (h.r1 e) (Kd.R_typed (h.l0 rfl)) rung_int hg
  l0 := nofun
  l1 := fun _ => hs
  j0 := fun e => R_int_grown (h.j0 e) hg (fun k e e2 => h.lj k e2 e)
  j1 := nofun
  x9 := nofun
  x17 := nofun
  x23 := fun e e2 => ⟨grown_at hg (h.x23 e e2).1 ((h.x23 e e2).2.1 rfl), nofun, (h.x23 e e2).2.2⟩
  lj := h.lj
  lj1 := fun _ _ k e e2 => by
    rcases hat with h1 | ⟨b, h1, h2⟩
    · exact h.lj k (by rw [← h1]; exact e) e2
    · have e : v1.ownBlock = some k := e
      rw [h1] at e
      cases e
      have := Kd.R_lt (h.j0 rfl) _ e2
      omega
  lj2 := nofun
theorem BegF.s24 (h : BegF B gp gr gl S vr vl vj x n lv W true true true true true false (g9, v10, g17, v18, g23, v24) w') {v1 : Value} (hs : (Kd.int .i64).R 3 w1 B (fun _ => True) v1 (S.jumps ++ [0])) (hg : w'.grownBy w1 vj.ownBlock)
    (hat : v1.ownBlock = vj.ownBlock ∨ ∃ b, v1.ownBlock = some b ∧ w'.heap.size ≤ b) :
    BegF B gp gr gl S vr vl vj x n lv W true true true true true true (g9, v10, g17, v18, g23, v1) w1 where
  k := h.k.trans (KP.grown h.sz hg (fun k e => ⟨Kd.R_base (h.j0 rfl) k e, Kd.R_typed (h.j0 rfl) k e⟩) (by rfl))
  sz := Nat.le_trans h.sz hg.size
  p := grown_blk hg (Kd.R_typed (h.j0 rfl)) h.p (by decide)
  r := grown_blk hg (Kd.R_typed (h.j0 rfl)) h.r (by decide)
  l := grown_blk hg (Kd.R_typed (h.j0 rfl)) h.l (by decide)
  nr := h.nr
  r0 := nofun
  r1 := fun e => Kd.S_over' (h.r1 e) (Kd.R_typed (h.j0 rfl)) rung_int hg
  l0 := nofun
  l1 := fun e => R_int_grown (h.l1 e) hg (h.lj1 rfl rfl)
  j0 := nofun
  j1 := fun _ => hs
  x9 := nofun
  x17 := nofun
  x23 := nofun
  lj := h.lj
  lj1 := nofun
  lj2 := fun _ k e e2 => by
    rcases hat with h1 | ⟨b, h1, h2⟩
    · exact h.lj1 rfl rfl k e (by rw [← h1]; exact e2)
    · have e2 : v1.ownBlock = some k := e2
      rw [h1] at e2
      cases e2
      have := Kd.R_lt (h.l1 rfl) _ e
      omega
/-- The three rows are stored. -/
theorem BegF.done (h : BegF B gp gr gl S vr vl vj x n lv W true true true true true true (g9, v10, g17, v18, g23, v24) w') (hgb : B ≤ gp) (hnl : S.lines.length = S.rungs.length) (hnj : S.jumps.length = S.rungs.length) (h64 : S.rungs.length < 64) :
    PF B gp ⟨S.i, S.q, S.m, S.sized, S.rungs ++ [newR x], S.lines ++ [n], S.jumps ++ [0]⟩ v10 v18 v24 (((w'.setCell ⟨gp, 3, none⟩ v10).setCell ⟨gp, 5, none⟩ v18).setCell ⟨gp, 6, none⟩ v24) ∧ KP B W (((w'.setCell ⟨gp, 3, none⟩ v10).setCell ⟨gp, 5, none⟩ v18).setCell ⟨gp, 6, none⟩ v24) := by
  have p1 := blk_set h.p 3 v10
  have p2 := blk_set p1 5 v18
  have p3 := blk_set p2 6 v24
  have tyi : ∀ q, q ∈ 3 :: (Kd.int .i64).E → q ≠ 77 := by decide
  refine ⟨⟨hgb, by have := h.sz; simpa using this, by simpa using p3, Kd.S_set (Kd.S_set (Kd.S_set (h.r1 rfl) h.p types_par 3 _) p1 types_par 5 _) p2 types_par 6 _, Kd.R_set (Kd.R_set (Kd.R_set (h.l1 rfl) h.p tyi 3 _) p1 tyi 5 _) p2 tyi 6 _,
    Kd.R_set (Kd.R_set (Kd.R_set (h.j1 rfl) h.p tyi 3 _) p1 tyi 5 _) p2 tyi 6 _, h.lj2 rfl, by simp [hnl], by simp [hnj], by simp; omega⟩, ?_⟩
  exact ((h.k.trans (KP.set hgb h.p (by rfl) _)).trans (KP.set hgb p1 (by rfl) _)).trans (KP.set hgb p2 (by rfl) _)
theorem BegF.start {w : World} (h : PF B gp S vr vl vj w) (hr : w.heap[gr]? = some (.cells #[.string x, .slice none 0 0, .slice none 0 0, .string ⟨#[]⟩] 53 (0, 0))) (hl : w.heap[gl]? = some (.cells #[.int .i64 n, lv] 81 (0, 0))) (nr : vr.ownBlock ≠ some gr) (s : BegS) :
    BegF B gp gr gl S vr vl vj x n lv w false false false false false false s w where
  k := KP.of_below h.sz (Below.refl _ _)
  sz := h.sz
  p := h.p
  r := hr
  l := hl
  nr := nr
  r0 := fun _ => h.r
  r1 := nofun
  l0 := fun _ => h.l
  l1 := nofun
  j0 := fun _ => h.j
  j1 := nofun
  x9 := nofun
  x17 := nofun
  x23 := nofun
  lj := h.lj
  lj1 := nofun
  lj2 := nofun
end
end Go.Proofs.YtolmkdhgnganaaaGreatDoor.H
namespace Go.Proofs.YtolmkdhgnganaaaGreatDoor.H
open Go Go.RowKit Go.Proofs Go.Proofs.YtolmkdhgnganaaaGreatDoorW.PrintWords Go.Proofs.YtolmkdhgnganaaaGreatDoorW.PrintLast Go.Proofs.YtolmkdhgnganaaaGreatDoorW.PrintMore Go.Proofs.YtolmkdhgnganaaaGreatDoor.Sp
/-- The label of a rung line. -/
def labOf (ws : List ByteArray) : ByteArray := if 1 < ws.length then ws.getD 1 ⟨#[]⟩ else ⟨#[]⟩
/-- A rung is put behind the others. -/
def beginT (S : PSt) (n : Int) (x : ByteArray) : PSt × Int :=
  if S.rungs.length = 64 then (S, 10) else (⟨S.i, S.q, S.m, S.sized, S.rungs ++ [newR x], S.lines ++ [n], S.jumps ++ [0]⟩, 0)
/-- What a rung line does. -/
def beginS (S : PSt) (n : Int) (ws : List ByteArray) : PSt × Int :=
  if 1 < ws.length ∧ isNm (labOf ws).data.toList = false then (S, 6) else
  if 1 < ws.length ∧ hasLab S.rungs (labOf ws) = true then (S, 9) else beginT S n (labOf ws)
/-- The call's two boxes and the parser. -/
structure BgF (B gp gr gl : Nat) (S : PSt) (vr vl vj : Value) (x : ByteArray) (n : Int) (lv : Value) (w wr : World) : Prop where
  b : Below w.heap.size w wr
  p : PF B gp S vr vl vj wr
  r : wr.heap[gr]? = some (.cells #[.string x, .slice none 0 0, .slice none 0 0, .string ⟨#[]⟩] 53 (0, 0))
  l : wr.heap[gl]? = some (.cells #[.int .i64 n, lv] 81 (0, 0))
  g : w.heap.size ≤ gr
theorem BgF.below {B gp gr gl : Nat} {S : PSt} {vr vl vj : Value} {x : ByteArray} {n : Int} {lv : Value} {w wr w1 : World} (h : BgF B gp gr gl S vr vl vj x n lv w wr) (hb : Below wr.heap.size wr w1) : BgF B gp gr gl S vr vl vj x n lv w w1 :=
  ⟨below_step h.b hb, h.p.below hb, blk_below h.r hb, blk_below h.l hb, h.g⟩
theorem BgF.lab {B gp gr gl : Nat} {S : PSt} {vr vl vj : Value} {x : ByteArray} {n : Int} {lv : Value} {w wr : World} (h : BgF B gp gr gl S vr vl vj x n lv w wr) (h0 : PF B gp S vr vl vj w) (hne : gl ≠ gr) (y : ByteArray) : BgF B gp gr gl S vr vl vj y n lv w (wr.setCell ⟨gr, 0, none⟩ (.string y)) :=
  ⟨below_set h.b h.g, h0.below (below_set h.b h.g), by have := blk_set h.r 0 (.string y); simpa using this, blk_far h.l (p := ⟨gr, 0, none⟩) hne _, h.g⟩
set_option maxHeartbeats 4000000 in
set_option maxRecDepth 100000 in
theorem begin_p {B gp : Nat} {S : PSt} {vr vl vj : Value} {w : World} (h : PF B gp S vr vl vj w) (n : Int) (b nw wc : Nat) (ws : List ByteArray) (hw : Kd.string.R 9 w B (fun _ => True) (.slice (some ⟨b, 0, none⟩) nw wc) ws)
    (hsz : ∀ j, (ws.getD j ⟨#[]⟩).size ≤ 65536) (hE : Env B w) :
    Calls Tryz.prog 64 #[.pointer (some ⟨gp, 0, none⟩), .agg #[.int .i64 n, .slice (some ⟨b, 0, none⟩) nw wc]] w (ParR B gp w (beginS S n ws)) := by
  have hn64 := h.n64
  have hlen : nw = ws.length := (Kd.R_reads' hw).1
  have HLen := Aside0.mk hlen
  obtain ⟨A, c, rfl, hcap, hC⟩ := Kd.S_reads h.r
  generalize hr : beginS S n ws = r
  have HR := Aside0.mk hr
  have H := Aside0.mk h
  have HW := Aside0.mk hw
  have HEn := Aside0.mk hE
  have F0 : Aside0 (BgF B gp (w.heap.size + 1) w.heap.size S (.slice A S.rungs.length c) vl vj ⟨#[]⟩ n (.slice (some ⟨b, 0, none⟩) nw wc) w ((w.alloc (.cells #[.int .i64 n, .slice (some ⟨b, 0, none⟩) nw wc] 81)).alloc (.cells #[.string ⟨#[]⟩, .slice none 0 0, .slice none 0 0, .string ⟨#[]⟩] 53))) := ⟨by
    have hb := below_alloc (below_alloc (Below.refl w.heap.size w) (.cells #[.int .i64 n, .slice (some ⟨b, 0, none⟩) nw wc] 81)) (.cells #[.string ⟨#[]⟩, .slice none 0 0, .slice none 0 0, .string ⟨#[]⟩] 53)
    exact ⟨hb, h.below hb, by have := blk_new (w.alloc (.cells #[.int .i64 n, .slice (some ⟨b, 0, none⟩) nw wc] 81)) (.cells #[.string ⟨#[]⟩, .slice none 0 0, .slice none 0 0, .string ⟨#[]⟩] 53); simpa using this, blk_alloc (blk_new _ _) _, by omega⟩⟩
  clear h hw hsz hE hC hlen hr
  go_enter Tryz.func64, Tryz.ntmps64
  go_upto_if 9 with fail
  generalize hgr : w.heap.size + 1 = gr at F0 ⊢
  generalize hgl : w.heap.size = gl at F0 ⊢
  have HNE : Aside0 (gl ≠ gr) := ⟨by omega⟩
  generalize (w.alloc (.cells #[.int .i64 n, .slice (some ⟨b, 0, none⟩) nw wc] 81)).alloc (.cells #[.string ⟨#[]⟩, .slice none 0 0, .slice none 0 0, .string ⟨#[]⟩] 53) = w1 at F0 ⊢
  clear hgr hgl
  go_cut [] (fun wx => ∃ x wr, wr = wx ∧ Aside0 (r = beginT S n x) ∧ Aside0 (BgF B gp gr gl S (.slice A S.rungs.length c) vl vj x n (.slice (some ⟨b, 0, none⟩) nw wc) w wr))
  case first =>
    by_cases h1 : (1 : Int) < nw
    · have hl1 : labOf ws = ws.getD 1 ⟨#[]⟩ := by rw [labOf, if_pos (by rw [← HLen.out]; omega)]
      generalize hx : ws.getD 1 ⟨#[]⟩ = x at hl1
      have hw1 := Kd.R_below HW.out F0.out.b
      have y1 : w1.cell? ⟨gl, 1, none⟩ = some (.slice (some ⟨b, 0, none⟩) nw wc) := blk_cell F0.out.l 1
      have z1 : w1.cell? ⟨b, 1, none⟩ = some (.string x) := hx ▸ words_cell hw1 1 (by omega)
      have u0 : w1.cell? ⟨gr, 0, none⟩ = some (.string ⟨#[]⟩) := blk_cell F0.out.r 0
      have v0 := blk_frozen F0.out.r 0
      have F1 := Aside0.mk (F0.out.lab H.out HNE.out x)
      have HI := Aside0.mk (fun W => isName_b x W)
      have HX := Aside0.mk hl1
      have p3 : (w1.setCell ⟨gr, 0, none⟩ (.string x)).cell? ⟨gp, 3, none⟩ = some (.slice A S.rungs.length c) := blk_cell F1.out.p.p 3
      have u1 : (w1.setCell ⟨gr, 0, none⟩ (.string x)).cell? ⟨gr, 0, none⟩ = some (.string x) := blk_cell F1.out.r 0
      clear hw1 hl1 hx
      go_upto_block 0 with fail
      generalize w1.setCell ⟨gr, 0, none⟩ (.string x) = w2 at F1 p3 u1 ⊢
      clear y1 z1 u0 v0
      cases hn : isNm x.data.toList with
      | false =>
        obtain rfl : r = (S, 6) := by rw [← HR.out, beginS, if_pos ⟨by rw [← HLen.out]; omega, by rw [HX.out]; exact hn⟩]
        rw [hn] at HI
        go_wp2_with fail
        refine (HI.out _).mono ?_
        rintro e w3 ⟨rfl, hb⟩
        go_wp2
        go_ret
        exact ⟨rfl, KP.of_below H.out.sz (below_step F1.out.b hb), fun e => by cases e⟩
      | true =>
        have HN := Aside0.mk hn
        rw [hn] at HI
        clear hn
        go_wp2_with fail
        refine (HI.out _).mono ?_
        rintro e w3 ⟨rfl, hb⟩
        have F3 := Aside0.mk (F1.out.below hb)
        have p3' := pw_cell_below hb p3
        clear hb p3 u1 F1
        obtain ⟨A2, c2, eA, hcap2, hC2⟩ := Kd.S_reads F3.out.p.r
        cases eA
        have HH := Aside0.mk (has_c A c S.rungs x gr w3 hC2 hcap2 (blk_cell F3.out.r 0))
        clear hcap2 hC2
        generalize hhl : hasLab S.rungs x = hl at HH
        have HHl := Aside0.mk hhl
        clear hhl
        cases hl with
        | true =>
          obtain rfl : r = (S, 9) := by rw [← HR.out, beginS, if_neg (by rw [HX.out, HN.out]; simp), if_pos ⟨by rw [← HLen.out]; omega, by rw [HX.out]; exact HHl.out⟩]
          go_wp2_with fail
          refine HH.out.mono ?_
          rintro e w4 ⟨rfl, hb⟩
          go_wp2
          go_ret
          exact ⟨rfl, KP.of_below H.out.sz (below_step F3.out.b hb), fun e => by cases e⟩
        | false =>
          go_wp2_with fail
          refine HH.out.mono ?_
          rintro e w4 ⟨rfl, hb⟩
          go_wp2
          go_meet
          case rel => exact ⟨x, _, rfl, ⟨by rw [← HR.out, beginS, if_neg (by rw [HX.out, HN.out]; simp), if_neg (by rw [HX.out, HHl.out]; simp), HX.out]⟩, ⟨F3.out.below hb⟩⟩
    · have hl1 : labOf ws = ⟨#[]⟩ := by rw [labOf, if_neg (by rw [← HLen.out]; omega)]
      have HX := Aside0.mk hl1
      clear hl1
      go_wp2
      go_meet
      case rel => exact ⟨⟨#[]⟩, _, rfl, ⟨by rw [← HR.out, beginS, if_neg (by rw [← HLen.out]; omega), if_neg (by rw [← HLen.out]; omega), HX.out]⟩, F0⟩
  case rest =>
    obtain ⟨x, wr, rfl, HO, F⟩ := hcut
    clear F0
    have p3 : wr.cell? ⟨gp, 3, none⟩ = some (.slice A S.rungs.length c) := blk_cell F.out.p.p 3
    by_cases h64 : (S.rungs.length : Int) = 64
    · obtain rfl : r = (S, 10) := by rw [HO.out, beginT, if_pos (by omega)]
      have h64' : ((S.rungs.length : Int) == 64) = true := by simpa using h64
      clear h64
      go_wp2
      go_ret
      exact ⟨rfl, KP.of_below H.out.sz F.out.b, fun e => by cases e⟩
    · have h64' : ((S.rungs.length : Int) == 64) = false := by simpa using h64
      have h65 : S.rungs.length < 64 := by omega
      have HT : Aside0 (r = (⟨S.i, S.q, S.m, S.sized, S.rungs ++ [newR x], S.lines ++ [n], S.jumps ++ [0]⟩, 0)) := ⟨by rw [HO.out, beginT, if_neg (by omega)]⟩
      go_wp2_with fail
      have FD := Aside0.mk (F.out.below (below_drew (Below.refl _ _)))
      have hl64 : S.lines.length < 64 := by have := FD.out.p.nl; omega
      have hj64 : S.jumps.length < 64 := by have := FD.out.p.nj; omega
      obtain ⟨vr, hvr⟩ : ∃ v, Value.slice A S.rungs.length c = v := ⟨_, rfl⟩
      rw [hvr] at FD p3
      have hnr : vr.ownBlock ≠ some gr := fun e => by
        have h1 := Kd.S_lt H.out.r gr (by rw [hvr]; exact e)
        have h2 := FD.out.g
        omega
      have HVr := Aside0.mk hvr
      have HDone := Aside0.mk FD.out.b
      have hF := BegF.start FD.out.p FD.out.r FD.out.l hnr (0, .slice none 0 0, 0, .slice none 0 0, 0, .slice none 0 0)
      have u0 : wr.drew.cell? ⟨gp, 3, none⟩ = some vr := blk_cell hF.p 3
      have u1 : wr.drew.cell? ⟨gp, 5, none⟩ = some vl := blk_cell hF.p 5
      have u2 : wr.drew.cell? ⟨gp, 6, none⟩ = some vj := blk_cell hF.p 6
      have u3 : wr.drew.cell? ⟨gl, 0, none⟩ = some (.int .i64 n) := blk_cell hF.l 0
      have u4 : wr.drew.cell? ⟨gr, 0, none⟩ = some (.string x) := blk_cell hF.r 0
      have u5 : wr.drew.cell? ⟨gr, 1, none⟩ = some (.slice none 0 0) := blk_cell hF.r 1
      have u6 : wr.drew.cell? ⟨gr, 2, none⟩ = some (.slice none 0 0) := blk_cell hF.r 2
      have u7 : wr.drew.cell? ⟨gr, 3, none⟩ = some (.string ⟨#[]⟩) := blk_cell hF.r 3
      clear h64 h64' p3 hvr hnr
      try rw [HVr.out]
      refine start_ (n := 35) (S := fun w' => w'.cell? ⟨gp, 3, none⟩ = some vr ∧ w'.cell? ⟨gp, 5, none⟩ = some vl ∧ w'.cell? ⟨gp, 6, none⟩ = some vj ∧ w'.cell? ⟨gl, 0, none⟩ = some (.int .i64 n) ∧ w'.cell? ⟨gr, 0, none⟩ = some (.string x) ∧ w'.cell? ⟨gr, 1, none⟩ = some (.slice none 0 0) ∧ w'.cell? ⟨gr, 2, none⟩ = some (.slice none 0 0) ∧ w'.cell? ⟨gr, 3, none⟩ = some (.string ⟨#[]⟩)) (ds := [28, 31, 34]) #[false, false, false, false, false, false, false, false, false, false, false, false, false, false, false, false, false, false, false, false, false, false, false, false, false, false, false, false, false, false, false, false, false, false, false] (by kernel_rfl) rfl rfl ⟨u0, u1, u2, u3, u4, u5, u6, u7⟩ (fun hHeld => ?_)
      refine pure_ (i := 0) (N := some 35) (v := ?_) (a' := ?_) #[true, false, false, false, false, false, false, false, false, false, false, false, false, false, false, false, false, false, false, false, false, false, false, false, false, false, false, false, false, false, false, false, false, false, false] rfl rfl (by kernel_rfl) (fun _ _ _ h => h) (Or.inl ⟨by rfl, ?_⟩) ?_ ?_
      rotate_left
      · intro w'
        go_simp
        with_reducible rfl
      rotate_left
      · simp only [Act.put, List.setIfInBounds_toArray, List.set_cons_zero, List.set_cons_succ, i64_w, i32_w]
        rfl
      refine pure_ (i := 1) (N := some 36) (v := ?_) (a' := ?_) #[true, true, false, false, false, false, false, false, false, false, false, false, false, false, false, false, false, false, false, false, false, false, false, false, false, false, false, false, false, false, false, false, false, false, false] rfl rfl (by kernel_rfl) (fun _ _ _ h => h) (Or.inl ⟨by rfl, ?_⟩) ?_ ?_
      rotate_left
      · intro w'
        go_simp
        with_reducible rfl
      rotate_left
      · simp only [Act.put, List.setIfInBounds_toArray, List.set_cons_zero, List.set_cons_succ, i64_w, i32_w]
        rfl
      refine pure_ (i := 2) (N := some 37) (v := ?_) (a' := ?_) #[true, true, true, false, false, false, false, false, false, false, false, false, false, false, false, false, false, false, false, false, false, false, false, false, false, false, false, false, false, false, false, false, false, false, false] rfl rfl (by kernel_rfl) (fun _ _ _ h => h) (Or.inl ⟨by rfl, ?_⟩) ?_ ?_
      rotate_left
      · intro w'
        go_simp
        with_reducible rfl
      rotate_left
      · simp only [Act.put, List.setIfInBounds_toArray, List.set_cons_zero, List.set_cons_succ, i64_w, i32_w]
        rfl
      refine pure_ (i := 3) (N := some 38) (v := ?_) (a' := ?_) #[true, true, true, true, false, false, false, false, false, false, false, false, false, false, false, false, false, false, false, false, false, false, false, false, false, false, false, false, false, false, false, false, false, false, false] rfl rfl (by kernel_rfl) (fun _ _ _ h => h) (Or.inl ⟨by rfl, ?_⟩) ?_ ?_
      rotate_left
      · intro w'
        go_simp
        with_reducible rfl
      rotate_left
      · simp only [Act.put, List.setIfInBounds_toArray, List.set_cons_zero, List.set_cons_succ, i64_w, i32_w]
        rfl
      refine pure_ (i := 4) (N := some 39) (v := ?_) (a' := ?_) #[true, true, true, true, true, false, false, false, false, false, false, false, false, false, false, false, false, false, false, false, false, false, false, false, false, false, false, false, false, false, false, false, false, false, false] rfl rfl (by kernel_rfl) (fun _ _ _ h => h) (Or.inl ⟨by rfl, ?_⟩) ?_ ?_
      rotate_left
      · intro w'
        go_simp
        with_reducible rfl
      rotate_left
      · simp only [Act.put, List.setIfInBounds_toArray, List.set_cons_zero, List.set_cons_succ, i64_w, i32_w]
        rfl
      refine pure_ (i := 5) (N := some 40) (v := ?_) (a' := ?_) #[true, true, true, true, true, true, false, false, false, false, false, false, false, false, false, false, false, false, false, false, false, false, false, false, false, false, false, false, false, false, false, false, false, false, false] rfl rfl (by kernel_rfl) (fun _ _ _ h => h) (Or.inl ⟨by rfl, ?_⟩) ?_ ?_
      rotate_left
      · intro w'
        go_simp
        with_reducible rfl
      rotate_left
      · simp only [Act.put, List.setIfInBounds_toArray, List.set_cons_zero, List.set_cons_succ, i64_w, i32_w]
        rfl
      refine pure_ (i := 6) (N := some 41) (v := ?_) (a' := ?_) #[true, true, true, true, true, true, true, false, false, false, false, false, false, false, false, false, false, false, false, false, false, false, false, false, false, false, false, false, false, false, false, false, false, false, false] rfl rfl (by kernel_rfl) (fun _ _ _ h => h) (Or.inl ⟨by rfl, ?_⟩) ?_ ?_
      rotate_left
      · intro w'
        go_simp
        with_reducible rfl
      rotate_left
      · simp only [Act.put, List.setIfInBounds_toArray, List.set_cons_zero, List.set_cons_succ, i64_w, i32_w]
        rfl
      refine pure_ (i := 11) (N := some 46) (v := ?_) (a' := ?_) #[true, true, true, true, true, true, true, false, false, false, false, true, false, false, false, false, false, false, false, false, false, false, false, false, false, false, false, false, false, false, false, false, false, false, false] rfl rfl (by kernel_rfl) (fun _ _ _ h => h) (Or.inl ⟨by rfl, ?_⟩) ?_ ?_
      rotate_left
      · intro w'
        go_simp
        with_reducible rfl
      rotate_left
      · simp only [Act.put, List.setIfInBounds_toArray, List.set_cons_zero, List.set_cons_succ, i64_w, i32_w]
        rfl
      refine pure_ (i := 12) (N := some 47) (v := ?_) (a' := ?_) #[true, true, true, true, true, true, true, false, false, false, false, true, true, false, false, false, false, false, false, false, false, false, false, false, false, false, false, false, false, false, false, false, false, false, false] rfl rfl (by kernel_rfl) (fun _ _ _ h => h) (Or.inl ⟨by rfl, ?_⟩) ?_ ?_
      rotate_left
      · intro w'
        go_simp
        with_reducible rfl
      rotate_left
      · simp only [Act.put, List.setIfInBounds_toArray, List.set_cons_zero, List.set_cons_succ, i64_w, i32_w]
        rfl
      refine pure_ (i := 13) (N := some 48) (v := ?_) (a' := ?_) #[true, true, true, true, true, true, true, false, false, false, false, true, true, true, false, false, false, false, false, false, false, false, false, false, false, false, false, false, false, false, false, false, false, false, false] rfl rfl (by kernel_rfl) (fun _ _ _ h => h) (Or.inl ⟨by rfl, ?_⟩) ?_ ?_
      rotate_left
      · intro w'
        go_simp
        with_reducible rfl
      rotate_left
      · simp only [Act.put, List.setIfInBounds_toArray, List.set_cons_zero, List.set_cons_succ, i64_w, i32_w]
        rfl
      refine pure_ (i := 15) (N := some 50) (v := ?_) (a' := ?_) #[true, true, true, true, true, true, true, false, false, false, false, true, true, true, false, true, false, false, false, false, false, false, false, false, false, false, false, false, false, false, false, false, false, false, false] rfl rfl (by kernel_rfl) (fun _ _ _ h => h) (Or.inl ⟨by rfl, ?_⟩) ?_ ?_
      rotate_left
      · intro w'
        go_simp
        with_reducible rfl
      rotate_left
      · simp only [Act.put, List.setIfInBounds_toArray, List.set_cons_zero, List.set_cons_succ, i64_w, i32_w]
        rfl
      refine pure_ (i := 19) (N := some 54) (v := ?_) (a' := ?_) #[true, true, true, true, true, true, true, false, false, false, false, true, true, true, false, true, false, false, false, true, false, false, false, false, false, false, false, false, false, false, false, false, false, false, false] rfl rfl (by kernel_rfl) (fun _ _ _ h => h) (Or.inl ⟨by rfl, ?_⟩) ?_ ?_
      rotate_left
      · intro w'
        go_simp
        with_reducible rfl
      rotate_left
      · simp only [Act.put, List.setIfInBounds_toArray, List.set_cons_zero, List.set_cons_succ, i64_w, i32_w]
        rfl
      refine pure_ (i := 20) (N := some 55) (v := ?_) (a' := ?_) #[true, true, true, true, true, true, true, false, false, false, false, true, true, true, false, true, false, false, false, true, true, false, false, false, false, false, false, false, false, false, false, false, false, false, false] rfl rfl (by kernel_rfl) (fun _ _ _ h => h) (Or.inl ⟨by rfl, ?_⟩) ?_ ?_
      rotate_left
      · intro w'
        go_simp
        with_reducible rfl
      rotate_left
      · simp only [Act.put, List.setIfInBounds_toArray, List.set_cons_zero, List.set_cons_succ, i64_w, i32_w]
        rfl
      refine pure_ (i := 21) (N := some 56) (v := ?_) (a' := ?_) #[true, true, true, true, true, true, true, false, false, false, false, true, true, true, false, true, false, false, false, true, true, true, false, false, false, false, false, false, false, false, false, false, false, false, false] rfl rfl (by kernel_rfl) (fun _ _ _ h => h) (Or.inl ⟨by rfl, ?_⟩) ?_ ?_
      rotate_left
      · intro w'
        go_simp
        with_reducible rfl
      rotate_left
      · simp only [Act.put, List.setIfInBounds_toArray, List.set_cons_zero, List.set_cons_succ, i64_w, i32_w]
        rfl
      refine take_ (i := 7) (N := some 42) (v := ?_) (a' := ?_) #[true, true, true, true, true, true, true, true, false, false, false, true, true, true, false, true, false, false, false, true, true, true, false, false, false, false, false, false, false, false, false, false, false, false, false] rfl rfl (by kernel_rfl) (fun _ _ _ h => h) (Or.inl ⟨by rfl, ?_⟩) hHeld ?_ ?_
      rotate_left
      · rintro w' ⟨s0, s1, s2, s3, s4, s5, s6, s7⟩
        go_simp
        with_reducible rfl
      rotate_left
      · simp only [Act.put, List.setIfInBounds_toArray, List.set_cons_zero, List.set_cons_succ, i64_w, i32_w]
        rfl
      refine take_ (i := 8) (N := some 43) (v := ?_) (a' := ?_) #[true, true, true, true, true, true, true, true, true, false, false, true, true, true, false, true, false, false, false, true, true, true, false, false, false, false, false, false, false, false, false, false, false, false, false] rfl rfl (by kernel_rfl) (fun _ _ _ h => h) (Or.inl ⟨by rfl, ?_⟩) hHeld ?_ ?_
      rotate_left
      · rintro w' ⟨s0, s1, s2, s3, s4, s5, s6, s7⟩
        go_simp
        with_reducible rfl
      rotate_left
      · simp only [Act.put, List.setIfInBounds_toArray, List.set_cons_zero, List.set_cons_succ, i64_w, i32_w]
        rfl
      refine take_ (i := 14) (N := some 49) (v := ?_) (a' := ?_) #[true, true, true, true, true, true, true, true, true, false, false, true, true, true, true, true, false, false, false, true, true, true, false, false, false, false, false, false, false, false, false, false, false, false, false] rfl rfl (by kernel_rfl) (fun _ _ _ h => h) (Or.inl ⟨by rfl, ?_⟩) hHeld ?_ ?_
      rotate_left
      · rintro w' ⟨s0, s1, s2, s3, s4, s5, s6, s7⟩
        go_simp
        with_reducible rfl
      rotate_left
      · simp only [Act.put, List.setIfInBounds_toArray, List.set_cons_zero, List.set_cons_succ, i64_w, i32_w]
        rfl
      refine take_ (i := 16) (N := some 51) (v := ?_) (a' := ?_) #[true, true, true, true, true, true, true, true, true, false, false, true, true, true, true, true, true, false, false, true, true, true, false, false, false, false, false, false, false, false, false, false, false, false, false] rfl rfl (by kernel_rfl) (fun _ _ _ h => h) (Or.inl ⟨by rfl, ?_⟩) hHeld ?_ ?_
      rotate_left
      · rintro w' ⟨s0, s1, s2, s3, s4, s5, s6, s7⟩
        go_simp
        with_reducible rfl
      rotate_left
      · simp only [Act.put, List.setIfInBounds_toArray, List.set_cons_zero, List.set_cons_succ, i64_w, i32_w]
        rfl
      refine take_ (i := 22) (N := some 57) (v := ?_) (a' := ?_) #[true, true, true, true, true, true, true, true, true, false, false, true, true, true, true, true, true, false, false, true, true, true, true, false, false, false, false, false, false, false, false, false, false, false, false] rfl rfl (by kernel_rfl) (fun _ _ _ h => h) (Or.inl ⟨by rfl, ?_⟩) hHeld ?_ ?_
      rotate_left
      · rintro w' ⟨s0, s1, s2, s3, s4, s5, s6, s7⟩
        go_simp
        with_reducible rfl
      rotate_left
      · simp only [Act.put, List.setIfInBounds_toArray, List.set_cons_zero, List.set_cons_succ, i64_w, i32_w]
        rfl
      refine join_ (σ := BegS) 11 #[true, true, true, true, true, true, true, true, true, true, true, true, true, true, true, true, true, true, true, true, true, true, true, true, false, false, false, false, false, false, false, false, false, false, false] (fun s => [(44, .slice (some ⟨s.1, 0, none⟩) 1 1), (45, s.2.1), (52, .slice (some ⟨s.2.2.1, 0, none⟩) 1 1), (53, s.2.2.2.1), (58, .slice (some ⟨s.2.2.2.2.1, 0, none⟩) 1 1)]) (BegF B gp gr gl S vr vl vj x n (.slice (some ⟨b, 0, none⟩) nw wc) wr.drew true true true true true false) ?_ ?_
      rotate_left
      · intro hJ9_10_17_18_23
        refine join_ (σ := BegS) 12 #[true, true, true, true, true, true, true, true, true, true, true, true, true, true, true, true, true, true, true, true, true, true, true, false, false, false, false, false, false, false, false, false, false, false, false] (fun s => [(44, .slice (some ⟨s.1, 0, none⟩) 1 1), (45, s.2.1), (52, .slice (some ⟨s.2.2.1, 0, none⟩) 1 1), (53, s.2.2.2.1)]) (BegF B gp gr gl S vr vl vj x n (.slice (some ⟨b, 0, none⟩) nw wc) wr.drew true true true true false false) ?_ ?_
        rotate_left
        · intro hJ9_10_17_18
          refine join_ (σ := BegS) 12 #[true, true, true, true, true, true, true, true, true, true, true, true, true, true, true, true, true, true, false, true, true, true, true, true, false, false, false, false, false, false, false, false, false, false, false] (fun s => [(44, .slice (some ⟨s.1, 0, none⟩) 1 1), (45, s.2.1), (52, .slice (some ⟨s.2.2.1, 0, none⟩) 1 1), (58, .slice (some ⟨s.2.2.2.2.1, 0, none⟩) 1 1)]) (BegF B gp gr gl S vr vl vj x n (.slice (some ⟨b, 0, none⟩) nw wc) wr.drew true true true false true false) ?_ ?_
          rotate_left
          · intro hJ9_10_17_23
            refine join_ (σ := BegS) 13 #[true, true, true, true, true, true, true, true, true, true, true, true, true, true, true, true, true, true, false, true, true, true, true, false, false, false, false, false, false, false, false, false, false, false, false] (fun s => [(44, .slice (some ⟨s.1, 0, none⟩) 1 1), (45, s.2.1), (52, .slice (some ⟨s.2.2.1, 0, none⟩) 1 1)]) (BegF B gp gr gl S vr vl vj x n (.slice (some ⟨b, 0, none⟩) nw wc) wr.drew true true true false false false) ?_ ?_
            rotate_left
            · intro hJ9_10_17
              refine join_ (σ := BegS) 13 #[true, true, true, true, true, true, true, true, true, true, true, true, true, true, true, true, true, false, false, true, true, true, true, true, false, false, false, false, false, false, false, false, false, false, false] (fun s => [(44, .slice (some ⟨s.1, 0, none⟩) 1 1), (45, s.2.1), (58, .slice (some ⟨s.2.2.2.2.1, 0, none⟩) 1 1)]) (BegF B gp gr gl S vr vl vj x n (.slice (some ⟨b, 0, none⟩) nw wc) wr.drew true true false false true false) ?_ ?_
              rotate_left
              · intro hJ9_10_23
                refine join_ (σ := BegS) 13 #[true, true, true, true, true, true, true, true, true, true, false, true, true, true, true, true, true, true, false, true, true, true, true, true, false, false, false, false, false, false, false, false, false, false, false] (fun s => [(44, .slice (some ⟨s.1, 0, none⟩) 1 1), (52, .slice (some ⟨s.2.2.1, 0, none⟩) 1 1), (58, .slice (some ⟨s.2.2.2.2.1, 0, none⟩) 1 1)]) (BegF B gp gr gl S vr vl vj x n (.slice (some ⟨b, 0, none⟩) nw wc) wr.drew true false true false true false) ?_ ?_
                rotate_left
                · intro hJ9_17_23
                  refine join_ (σ := BegS) 14 #[true, true, true, true, true, true, true, true, true, true, true, true, true, true, true, true, true, false, false, true, true, true, true, false, false, false, false, false, false, false, false, false, false, false, false] (fun s => [(44, .slice (some ⟨s.1, 0, none⟩) 1 1), (45, s.2.1)]) (BegF B gp gr gl S vr vl vj x n (.slice (some ⟨b, 0, none⟩) nw wc) wr.drew true true false false false false) ?_ ?_
                  rotate_left
                  · intro hJ9_10
                    refine join_ (σ := BegS) 14 #[true, true, true, true, true, true, true, true, true, true, false, true, true, true, true, true, true, true, false, true, true, true, true, false, false, false, false, false, false, false, false, false, false, false, false] (fun s => [(44, .slice (some ⟨s.1, 0, none⟩) 1 1), (52, .slice (some ⟨s.2.2.1, 0, none⟩) 1 1)]) (BegF B gp gr gl S vr vl vj x n (.slice (some ⟨b, 0, none⟩) nw wc) wr.drew true false true false false false) ?_ ?_
                    rotate_left
                    · intro hJ9_17
                      refine join_ (σ := BegS) 14 #[true, true, true, true, true, true, true, true, true, true, false, true, true, true, true, true, true, false, false, true, true, true, true, true, false, false, false, false, false, false, false, false, false, false, false] (fun s => [(44, .slice (some ⟨s.1, 0, none⟩) 1 1), (58, .slice (some ⟨s.2.2.2.2.1, 0, none⟩) 1 1)]) (BegF B gp gr gl S vr vl vj x n (.slice (some ⟨b, 0, none⟩) nw wc) wr.drew true false false false true false) ?_ ?_
                      rotate_left
                      · intro hJ9_23
                        refine join_ (σ := BegS) 14 #[true, true, true, true, true, true, true, true, true, false, false, true, true, true, true, true, true, true, false, true, true, true, true, true, false, false, false, false, false, false, false, false, false, false, false] (fun s => [(52, .slice (some ⟨s.2.2.1, 0, none⟩) 1 1), (58, .slice (some ⟨s.2.2.2.2.1, 0, none⟩) 1 1)]) (BegF B gp gr gl S vr vl vj x n (.slice (some ⟨b, 0, none⟩) nw wc) wr.drew false false true false true false) ?_ ?_
                        rotate_left
                        · intro hJ17_23
                          refine join_ (σ := BegS) 15 #[true, true, true, true, true, true, true, true, true, true, false, true, true, true, true, true, true, false, false, true, true, true, true, false, false, false, false, false, false, false, false, false, false, false, false] (fun s => [(44, .slice (some ⟨s.1, 0, none⟩) 1 1)]) (BegF B gp gr gl S vr vl vj x n (.slice (some ⟨b, 0, none⟩) nw wc) wr.drew true false false false false false) ?_ ?_
                          rotate_left
                          · intro hJ9
                            refine join_ (σ := BegS) 15 #[true, true, true, true, true, true, true, true, true, false, false, true, true, true, true, true, true, true, false, true, true, true, true, false, false, false, false, false, false, false, false, false, false, false, false] (fun s => [(52, .slice (some ⟨s.2.2.1, 0, none⟩) 1 1)]) (BegF B gp gr gl S vr vl vj x n (.slice (some ⟨b, 0, none⟩) nw wc) wr.drew false false true false false false) ?_ ?_
                            rotate_left
                            · intro hJ17
                              refine join_ (σ := BegS) 15 #[true, true, true, true, true, true, true, true, true, false, false, true, true, true, true, true, true, false, false, true, true, true, true, true, false, false, false, false, false, false, false, false, false, false, false] (fun s => [(58, .slice (some ⟨s.2.2.2.2.1, 0, none⟩) 1 1)]) (BegF B gp gr gl S vr vl vj x n (.slice (some ⟨b, 0, none⟩) nw wc) wr.drew false false false false true false) ?_ ?_
                              rotate_left
                              · intro hJ23
                                refine three_ (i := 9) (j := 17) (k := 23) (Ni := some 44) (Nj := some 52) (Nk := some 58) #[true, true, true, true, true, true, true, true, true, true, false, true, true, true, true, true, true, false, false, true, true, true, true, false, false, false, false, false, false, false, false, false, false, false, false] #[true, true, true, true, true, true, true, true, true, false, false, true, true, true, true, true, true, true, false, true, true, true, true, false, false, false, false, false, false, false, false, false, false, false, false] #[true, true, true, true, true, true, true, true, true, false, false, true, true, true, true, true, true, false, false, true, true, true, true, true, false, false, false, false, false, false, false, false, false, false, false] rfl rfl rfl rfl rfl rfl (by kernel_rfl) (by decide) (by decide) (by decide) (fun K hK => ?_) (fun K hK => ?_) (fun K hK => ?_)
                                · skip
                                  refine value_ (w1 := ?_) (v := ?_) (by rfl) rfl ?_ ?_
                                  rotate_left 2
                                  · go_simp
                                    constructor
                                    · rfl
                                    · rfl
                                  refine hK.out _ _ ⟨blk_cell (hF.s9).p 3, blk_cell (hF.s9).p 5, blk_cell (hF.s9).p 6, blk_cell (hF.s9).l 0, blk_cell (hF.s9).r 0, blk_cell (hF.s9).r 1, blk_cell (hF.s9).r 2, blk_cell (hF.s9).r 3⟩ (fun hHeld => ?_)
                                  clear hK K
                                  refine norm_ (a' := ?_) ?_ ?_
                                  rotate_left
                                  · show Act.put _ (some 44) _ = _
                                    simp only [Act.put, List.setIfInBounds_toArray, List.set_cons_zero, List.set_cons_succ, i64_w, i32_w]
                                    rfl
                                  exact norm_ (by first | (simp only [putAll, Act.put, List.setIfInBounds_toArray, List.set_cons_zero, List.set_cons_succ]; done) | (simp only [putAll, Act.put, List.setIfInBounds_toArray, List.set_cons_zero, List.set_cons_succ]; rfl)) (hJ9 _ _ hF.s9)
                                · skip
                                  refine value_ (w1 := ?_) (v := ?_) (by rfl) rfl ?_ ?_
                                  rotate_left 2
                                  · go_simp
                                    constructor
                                    · rfl
                                    · rfl
                                  refine hK.out _ _ ⟨blk_cell (hF.s17).p 3, blk_cell (hF.s17).p 5, blk_cell (hF.s17).p 6, blk_cell (hF.s17).l 0, blk_cell (hF.s17).r 0, blk_cell (hF.s17).r 1, blk_cell (hF.s17).r 2, blk_cell (hF.s17).r 3⟩ (fun hHeld => ?_)
                                  clear hK K
                                  refine norm_ (a' := ?_) ?_ ?_
                                  rotate_left
                                  · show Act.put _ (some 52) _ = _
                                    simp only [Act.put, List.setIfInBounds_toArray, List.set_cons_zero, List.set_cons_succ, i64_w, i32_w]
                                    rfl
                                  exact norm_ (by first | (simp only [putAll, Act.put, List.setIfInBounds_toArray, List.set_cons_zero, List.set_cons_succ]; done) | (simp only [putAll, Act.put, List.setIfInBounds_toArray, List.set_cons_zero, List.set_cons_succ]; rfl)) (hJ17 _ _ hF.s17)
                                · skip
                                  refine value_ (w1 := ?_) (v := ?_) (by rfl) rfl ?_ ?_
                                  rotate_left 2
                                  · go_simp
                                    constructor
                                    · rfl
                                    · rfl
                                  refine hK.out _ _ ⟨blk_cell (hF.s23).p 3, blk_cell (hF.s23).p 5, blk_cell (hF.s23).p 6, blk_cell (hF.s23).l 0, blk_cell (hF.s23).r 0, blk_cell (hF.s23).r 1, blk_cell (hF.s23).r 2, blk_cell (hF.s23).r 3⟩ (fun hHeld => ?_)
                                  clear hK K
                                  refine norm_ (a' := ?_) ?_ ?_
                                  rotate_left
                                  · show Act.put _ (some 58) _ = _
                                    simp only [Act.put, List.setIfInBounds_toArray, List.set_cons_zero, List.set_cons_succ, i64_w, i32_w]
                                    rfl
                                  exact norm_ (by first | (simp only [putAll, Act.put, List.setIfInBounds_toArray, List.set_cons_zero, List.set_cons_succ]; done) | (simp only [putAll, Act.put, List.setIfInBounds_toArray, List.set_cons_zero, List.set_cons_succ]; rfl)) (hJ23 _ _ hF.s23)
                              · skip
                                rintro ⟨g9, v10, g17, v18, g23, v24⟩ w_ hF
                                have hHeld : w_.cell? ⟨gp, 3, none⟩ = some vr ∧ w_.cell? ⟨gp, 5, none⟩ = some vl ∧ w_.cell? ⟨gp, 6, none⟩ = some vj ∧ w_.cell? ⟨gl, 0, none⟩ = some (.int .i64 n) ∧ w_.cell? ⟨gr, 0, none⟩ = some (.string x) ∧ w_.cell? ⟨gr, 1, none⟩ = some (.slice none 0 0) ∧ w_.cell? ⟨gr, 2, none⟩ = some (.slice none 0 0) ∧ w_.cell? ⟨gr, 3, none⟩ = some (.string ⟨#[]⟩) := ⟨blk_cell (hF).p 3, blk_cell (hF).p 5, blk_cell (hF).p 6, blk_cell (hF).l 0, blk_cell (hF).r 0, blk_cell (hF).r 1, blk_cell (hF).r 2, blk_cell (hF).r 3⟩
                                refine norm_ (a' := ?_) ?_ ?_
                                rotate_left
                                · simp only [putAll, Act.put, List.setIfInBounds_toArray, List.set_cons_zero, List.set_cons_succ]
                                  rfl
                                refine two_ (i := 9) (j := 17) (Ni := some 44) (Nj := some 52) #[true, true, true, true, true, true, true, true, true, true, false, true, true, true, true, true, true, false, false, true, true, true, true, true, false, false, false, false, false, false, false, false, false, false, false] #[true, true, true, true, true, true, true, true, true, false, false, true, true, true, true, true, true, true, false, true, true, true, true, true, false, false, false, false, false, false, false, false, false, false, false] rfl rfl rfl rfl (by kernel_rfl) (by decide) (by decide) (fun K hK => ?_) (fun K hK => ?_)
                                · skip
                                  refine value_ (w1 := ?_) (v := ?_) (by rfl) rfl ?_ ?_
                                  rotate_left 2
                                  · go_simp
                                    constructor
                                    · rfl
                                    · rfl
                                  refine hK.out _ _ ⟨blk_cell (hF.s9).p 3, blk_cell (hF.s9).p 5, blk_cell (hF.s9).p 6, blk_cell (hF.s9).l 0, blk_cell (hF.s9).r 0, blk_cell (hF.s9).r 1, blk_cell (hF.s9).r 2, blk_cell (hF.s9).r 3⟩ (fun hHeld => ?_)
                                  clear hK K
                                  refine norm_ (a' := ?_) ?_ ?_
                                  rotate_left
                                  · show Act.put _ (some 44) _ = _
                                    simp only [Act.put, List.setIfInBounds_toArray, List.set_cons_zero, List.set_cons_succ, i64_w, i32_w]
                                    rfl
                                  exact norm_ (by first | (simp only [putAll, Act.put, List.setIfInBounds_toArray, List.set_cons_zero, List.set_cons_succ]; done) | (simp only [putAll, Act.put, List.setIfInBounds_toArray, List.set_cons_zero, List.set_cons_succ]; rfl)) (hJ9_23 _ _ hF.s9)
                                · skip
                                  refine value_ (w1 := ?_) (v := ?_) (by rfl) rfl ?_ ?_
                                  rotate_left 2
                                  · go_simp
                                    constructor
                                    · rfl
                                    · rfl
                                  refine hK.out _ _ ⟨blk_cell (hF.s17).p 3, blk_cell (hF.s17).p 5, blk_cell (hF.s17).p 6, blk_cell (hF.s17).l 0, blk_cell (hF.s17).r 0, blk_cell (hF.s17).r 1, blk_cell (hF.s17).r 2, blk_cell (hF.s17).r 3⟩ (fun hHeld => ?_)
                                  clear hK K
                                  refine norm_ (a' := ?_) ?_ ?_
                                  rotate_left
                                  · show Act.put _ (some 52) _ = _
                                    simp only [Act.put, List.setIfInBounds_toArray, List.set_cons_zero, List.set_cons_succ, i64_w, i32_w]
                                    rfl
                                  exact norm_ (by first | (simp only [putAll, Act.put, List.setIfInBounds_toArray, List.set_cons_zero, List.set_cons_succ]; done) | (simp only [putAll, Act.put, List.setIfInBounds_toArray, List.set_cons_zero, List.set_cons_succ]; rfl)) (hJ17_23 _ _ hF.s17)
                            · skip
                              rintro ⟨g9, v10, g17, v18, g23, v24⟩ w_ hF
                              have hHeld : w_.cell? ⟨gp, 3, none⟩ = some vr ∧ w_.cell? ⟨gp, 5, none⟩ = some vl ∧ w_.cell? ⟨gp, 6, none⟩ = some vj ∧ w_.cell? ⟨gl, 0, none⟩ = some (.int .i64 n) ∧ w_.cell? ⟨gr, 0, none⟩ = some (.string x) ∧ w_.cell? ⟨gr, 1, none⟩ = some (.slice none 0 0) ∧ w_.cell? ⟨gr, 2, none⟩ = some (.slice none 0 0) ∧ w_.cell? ⟨gr, 3, none⟩ = some (.string ⟨#[]⟩) := ⟨blk_cell (hF).p 3, blk_cell (hF).p 5, blk_cell (hF).p 6, blk_cell (hF).l 0, blk_cell (hF).r 0, blk_cell (hF).r 1, blk_cell (hF).r 2, blk_cell (hF).r 3⟩
                              refine norm_ (a' := ?_) ?_ ?_
                              rotate_left
                              · simp only [putAll, Act.put, List.setIfInBounds_toArray, List.set_cons_zero, List.set_cons_succ]
                                rfl
                              refine two_ (i := 9) (j := 23) (Ni := some 44) (Nj := some 58) #[true, true, true, true, true, true, true, true, true, true, false, true, true, true, true, true, true, true, false, true, true, true, true, false, false, false, false, false, false, false, false, false, false, false, false] #[true, true, true, true, true, true, true, true, true, false, false, true, true, true, true, true, true, true, false, true, true, true, true, true, false, false, false, false, false, false, false, false, false, false, false] rfl rfl rfl rfl (by kernel_rfl) (by decide) (by decide) (fun K hK => ?_) (fun K hK => ?_)
                              · skip
                                refine value_ (w1 := ?_) (v := ?_) (by rfl) rfl ?_ ?_
                                rotate_left 2
                                · go_simp
                                  constructor
                                  · rfl
                                  · rfl
                                refine hK.out _ _ ⟨blk_cell (hF.s9).p 3, blk_cell (hF.s9).p 5, blk_cell (hF.s9).p 6, blk_cell (hF.s9).l 0, blk_cell (hF.s9).r 0, blk_cell (hF.s9).r 1, blk_cell (hF.s9).r 2, blk_cell (hF.s9).r 3⟩ (fun hHeld => ?_)
                                clear hK K
                                refine norm_ (a' := ?_) ?_ ?_
                                rotate_left
                                · show Act.put _ (some 44) _ = _
                                  simp only [Act.put, List.setIfInBounds_toArray, List.set_cons_zero, List.set_cons_succ, i64_w, i32_w]
                                  rfl
                                exact norm_ (by first | (simp only [putAll, Act.put, List.setIfInBounds_toArray, List.set_cons_zero, List.set_cons_succ]; done) | (simp only [putAll, Act.put, List.setIfInBounds_toArray, List.set_cons_zero, List.set_cons_succ]; rfl)) (hJ9_17 _ _ hF.s9)
                              · skip
                                refine value_ (w1 := ?_) (v := ?_) (by rfl) rfl ?_ ?_
                                rotate_left 2
                                · go_simp
                                  constructor
                                  · rfl
                                  · rfl
                                refine hK.out _ _ ⟨blk_cell (hF.s23).p 3, blk_cell (hF.s23).p 5, blk_cell (hF.s23).p 6, blk_cell (hF.s23).l 0, blk_cell (hF.s23).r 0, blk_cell (hF.s23).r 1, blk_cell (hF.s23).r 2, blk_cell (hF.s23).r 3⟩ (fun hHeld => ?_)
                                clear hK K
                                refine norm_ (a' := ?_) ?_ ?_
                                rotate_left
                                · show Act.put _ (some 58) _ = _
                                  simp only [Act.put, List.setIfInBounds_toArray, List.set_cons_zero, List.set_cons_succ, i64_w, i32_w]
                                  rfl
                                exact norm_ (by first | (simp only [putAll, Act.put, List.setIfInBounds_toArray, List.set_cons_zero, List.set_cons_succ]; done) | (simp only [putAll, Act.put, List.setIfInBounds_toArray, List.set_cons_zero, List.set_cons_succ]; rfl)) (hJ17_23 _ _ hF.s23)
                          · skip
                            rintro ⟨g9, v10, g17, v18, g23, v24⟩ w_ hF
                            have hHeld : w_.cell? ⟨gp, 3, none⟩ = some vr ∧ w_.cell? ⟨gp, 5, none⟩ = some vl ∧ w_.cell? ⟨gp, 6, none⟩ = some vj ∧ w_.cell? ⟨gl, 0, none⟩ = some (.int .i64 n) ∧ w_.cell? ⟨gr, 0, none⟩ = some (.string x) ∧ w_.cell? ⟨gr, 1, none⟩ = some (.slice none 0 0) ∧ w_.cell? ⟨gr, 2, none⟩ = some (.slice none 0 0) ∧ w_.cell? ⟨gr, 3, none⟩ = some (.string ⟨#[]⟩) := ⟨blk_cell (hF).p 3, blk_cell (hF).p 5, blk_cell (hF).p 6, blk_cell (hF).l 0, blk_cell (hF).r 0, blk_cell (hF).r 1, blk_cell (hF).r 2, blk_cell (hF).r 3⟩
                            refine norm_ (a' := ?_) ?_ ?_
                            rotate_left
                            · simp only [putAll, Act.put, List.setIfInBounds_toArray, List.set_cons_zero, List.set_cons_succ]
                              rfl
                            refine three_ (i := 10) (j := 17) (k := 23) (Ni := some 45) (Nj := some 52) (Nk := some 58) #[true, true, true, true, true, true, true, true, true, true, true, true, true, true, true, true, true, false, false, true, true, true, true, false, false, false, false, false, false, false, false, false, false, false, false] #[true, true, true, true, true, true, true, true, true, true, false, true, true, true, true, true, true, true, false, true, true, true, true, false, false, false, false, false, false, false, false, false, false, false, false] #[true, true, true, true, true, true, true, true, true, true, false, true, true, true, true, true, true, false, false, true, true, true, true, true, false, false, false, false, false, false, false, false, false, false, false] rfl rfl rfl rfl rfl rfl (by kernel_rfl) (by decide) (by decide) (by decide) (fun K hK => ?_) (fun K hK => ?_) (fun K hK => ?_)
                            · skip
                              refine S_append_one_step kRung (w0 := w_) B (by rfl) (.tmp 42) (.tmp 44) 22 53 (.agg #[.string ⟨#[]⟩, .slice none 0 0, .slice none 0 0, .string ⟨#[]⟩]) 80 rfl Tryz.underlying22 PPrinterRoundTrip.info53 rfl (Nat.zero_lt_succ 3) (by omega) vr S.rungs (newR x) (newC x) g9 53 (fun _ => True) (fun _ => False) rfl rfl (PPrinterRoundTrip.k53_mkM w_ B _ (newR x) (Kd.R_nil _ _ _ _ _) (Kd.R_nil _ _ _ _ _)) rfl (hF.x9 rfl rfl).1 (fun _ h => h.elim) (fun _ _ => trivial) (Kd.S_mono (hF.r0 rfl) (fun _ _ => ⟨trivial, fun h => h⟩)) (Below.refl _ _) hF.sz (by omega) ?_
                              intro v1 w1 hr hb hg hat
                              have hN := hF.s10 hr hg
                              clear hr hb hg hat
                              refine hK.out _ _ ⟨blk_cell (hN).p 3, blk_cell (hN).p 5, blk_cell (hN).p 6, blk_cell (hN).l 0, blk_cell (hN).r 0, blk_cell (hN).r 1, blk_cell (hN).r 2, blk_cell (hN).r 3⟩ (fun hHeld => ?_)
                              clear hK K
                              refine norm_ (a' := ?_) ?_ ?_
                              rotate_left
                              · show Act.put _ (some 45) _ = _
                                simp only [Act.put, List.setIfInBounds_toArray, List.set_cons_zero, List.set_cons_succ, i64_w, i32_w]
                                rfl
                              exact norm_ (by first | (simp only [putAll, Act.put, List.setIfInBounds_toArray, List.set_cons_zero, List.set_cons_succ]; done) | (simp only [putAll, Act.put, List.setIfInBounds_toArray, List.set_cons_zero, List.set_cons_succ]; rfl)) (hJ9_10 _ _ hN)
                            · skip
                              refine value_ (w1 := ?_) (v := ?_) (by rfl) rfl ?_ ?_
                              rotate_left 2
                              · go_simp
                                constructor
                                · rfl
                                · rfl
                              refine hK.out _ _ ⟨blk_cell (hF.s17).p 3, blk_cell (hF.s17).p 5, blk_cell (hF.s17).p 6, blk_cell (hF.s17).l 0, blk_cell (hF.s17).r 0, blk_cell (hF.s17).r 1, blk_cell (hF.s17).r 2, blk_cell (hF.s17).r 3⟩ (fun hHeld => ?_)
                              clear hK K
                              refine norm_ (a' := ?_) ?_ ?_
                              rotate_left
                              · show Act.put _ (some 52) _ = _
                                simp only [Act.put, List.setIfInBounds_toArray, List.set_cons_zero, List.set_cons_succ, i64_w, i32_w]
                                rfl
                              exact norm_ (by first | (simp only [putAll, Act.put, List.setIfInBounds_toArray, List.set_cons_zero, List.set_cons_succ]; done) | (simp only [putAll, Act.put, List.setIfInBounds_toArray, List.set_cons_zero, List.set_cons_succ]; rfl)) (hJ9_17 _ _ hF.s17)
                            · skip
                              refine value_ (w1 := ?_) (v := ?_) (by rfl) rfl ?_ ?_
                              rotate_left 2
                              · go_simp
                                constructor
                                · rfl
                                · rfl
                              refine hK.out _ _ ⟨blk_cell (hF.s23).p 3, blk_cell (hF.s23).p 5, blk_cell (hF.s23).p 6, blk_cell (hF.s23).l 0, blk_cell (hF.s23).r 0, blk_cell (hF.s23).r 1, blk_cell (hF.s23).r 2, blk_cell (hF.s23).r 3⟩ (fun hHeld => ?_)
                              clear hK K
                              refine norm_ (a' := ?_) ?_ ?_
                              rotate_left
                              · show Act.put _ (some 58) _ = _
                                simp only [Act.put, List.setIfInBounds_toArray, List.set_cons_zero, List.set_cons_succ, i64_w, i32_w]
                                rfl
                              exact norm_ (by first | (simp only [putAll, Act.put, List.setIfInBounds_toArray, List.set_cons_zero, List.set_cons_succ]; done) | (simp only [putAll, Act.put, List.setIfInBounds_toArray, List.set_cons_zero, List.set_cons_succ]; rfl)) (hJ9_23 _ _ hF.s23)
                        · skip
                          rintro ⟨g9, v10, g17, v18, g23, v24⟩ w_ hF
                          have hHeld : w_.cell? ⟨gp, 3, none⟩ = some vr ∧ w_.cell? ⟨gp, 5, none⟩ = some vl ∧ w_.cell? ⟨gp, 6, none⟩ = some vj ∧ w_.cell? ⟨gl, 0, none⟩ = some (.int .i64 n) ∧ w_.cell? ⟨gr, 0, none⟩ = some (.string x) ∧ w_.cell? ⟨gr, 1, none⟩ = some (.slice none 0 0) ∧ w_.cell? ⟨gr, 2, none⟩ = some (.slice none 0 0) ∧ w_.cell? ⟨gr, 3, none⟩ = some (.string ⟨#[]⟩) := ⟨blk_cell (hF).p 3, blk_cell (hF).p 5, blk_cell (hF).p 6, blk_cell (hF).l 0, blk_cell (hF).r 0, blk_cell (hF).r 1, blk_cell (hF).r 2, blk_cell (hF).r 3⟩
                          refine norm_ (a' := ?_) ?_ ?_
                          rotate_left
                          · simp only [putAll, Act.put, List.setIfInBounds_toArray, List.set_cons_zero, List.set_cons_succ]
                            rfl
                          refine one_ (i := 9) (N := some 44) #[true, true, true, true, true, true, true, true, true, true, false, true, true, true, true, true, true, true, false, true, true, true, true, true, false, false, false, false, false, false, false, false, false, false, false] rfl rfl (by kernel_rfl) (by decide) (fun K hK => ?_)
                          refine value_ (w1 := ?_) (v := ?_) (by rfl) rfl ?_ ?_
                          rotate_left 2
                          · go_simp
                            constructor
                            · rfl
                            · rfl
                          refine hK.out _ _ ⟨blk_cell (hF.s9).p 3, blk_cell (hF.s9).p 5, blk_cell (hF.s9).p 6, blk_cell (hF.s9).l 0, blk_cell (hF.s9).r 0, blk_cell (hF.s9).r 1, blk_cell (hF.s9).r 2, blk_cell (hF.s9).r 3⟩ (fun hHeld => ?_)
                          clear hK K
                          refine norm_ (a' := ?_) ?_ ?_
                          rotate_left
                          · show Act.put _ (some 44) _ = _
                            simp only [Act.put, List.setIfInBounds_toArray, List.set_cons_zero, List.set_cons_succ, i64_w, i32_w]
                            rfl
                          exact norm_ (by first | (simp only [putAll, Act.put, List.setIfInBounds_toArray, List.set_cons_zero, List.set_cons_succ]; done) | (simp only [putAll, Act.put, List.setIfInBounds_toArray, List.set_cons_zero, List.set_cons_succ]; rfl)) (hJ9_17_23 _ _ hF.s9)
                      · skip
                        rintro ⟨g9, v10, g17, v18, g23, v24⟩ w_ hF
                        have hHeld : w_.cell? ⟨gp, 3, none⟩ = some vr ∧ w_.cell? ⟨gp, 5, none⟩ = some vl ∧ w_.cell? ⟨gp, 6, none⟩ = some vj ∧ w_.cell? ⟨gl, 0, none⟩ = some (.int .i64 n) ∧ w_.cell? ⟨gr, 0, none⟩ = some (.string x) ∧ w_.cell? ⟨gr, 1, none⟩ = some (.slice none 0 0) ∧ w_.cell? ⟨gr, 2, none⟩ = some (.slice none 0 0) ∧ w_.cell? ⟨gr, 3, none⟩ = some (.string ⟨#[]⟩) := ⟨blk_cell (hF).p 3, blk_cell (hF).p 5, blk_cell (hF).p 6, blk_cell (hF).l 0, blk_cell (hF).r 0, blk_cell (hF).r 1, blk_cell (hF).r 2, blk_cell (hF).r 3⟩
                        refine norm_ (a' := ?_) ?_ ?_
                        rotate_left
                        · simp only [putAll, Act.put, List.setIfInBounds_toArray, List.set_cons_zero, List.set_cons_succ]
                          rfl
                        refine two_ (i := 10) (j := 17) (Ni := some 45) (Nj := some 52) #[true, true, true, true, true, true, true, true, true, true, true, true, true, true, true, true, true, false, false, true, true, true, true, true, false, false, false, false, false, false, false, false, false, false, false] #[true, true, true, true, true, true, true, true, true, true, false, true, true, true, true, true, true, true, false, true, true, true, true, true, false, false, false, false, false, false, false, false, false, false, false] rfl rfl rfl rfl (by kernel_rfl) (by decide) (by decide) (fun K hK => ?_) (fun K hK => ?_)
                        · skip
                          refine S_append_one_step kRung (w0 := w_) B (by rfl) (.tmp 42) (.tmp 44) 22 53 (.agg #[.string ⟨#[]⟩, .slice none 0 0, .slice none 0 0, .string ⟨#[]⟩]) 80 rfl Tryz.underlying22 PPrinterRoundTrip.info53 rfl (Nat.zero_lt_succ 3) (by omega) vr S.rungs (newR x) (newC x) g9 53 (fun _ => True) (fun _ => False) rfl rfl (PPrinterRoundTrip.k53_mkM w_ B _ (newR x) (Kd.R_nil _ _ _ _ _) (Kd.R_nil _ _ _ _ _)) rfl (hF.x9 rfl rfl).1 (fun _ h => h.elim) (fun _ _ => trivial) (Kd.S_mono (hF.r0 rfl) (fun _ _ => ⟨trivial, fun h => h⟩)) (Below.refl _ _) hF.sz (by omega) ?_
                          intro v1 w1 hr hb hg hat
                          have hN := hF.s10 hr hg
                          clear hr hb hg hat
                          refine hK.out _ _ ⟨blk_cell (hN).p 3, blk_cell (hN).p 5, blk_cell (hN).p 6, blk_cell (hN).l 0, blk_cell (hN).r 0, blk_cell (hN).r 1, blk_cell (hN).r 2, blk_cell (hN).r 3⟩ (fun hHeld => ?_)
                          clear hK K
                          refine norm_ (a' := ?_) ?_ ?_
                          rotate_left
                          · show Act.put _ (some 45) _ = _
                            simp only [Act.put, List.setIfInBounds_toArray, List.set_cons_zero, List.set_cons_succ, i64_w, i32_w]
                            rfl
                          exact norm_ (by first | (simp only [putAll, Act.put, List.setIfInBounds_toArray, List.set_cons_zero, List.set_cons_succ]; done) | (simp only [putAll, Act.put, List.setIfInBounds_toArray, List.set_cons_zero, List.set_cons_succ]; rfl)) (hJ9_10_23 _ _ hN)
                        · skip
                          refine value_ (w1 := ?_) (v := ?_) (by rfl) rfl ?_ ?_
                          rotate_left 2
                          · go_simp
                            constructor
                            · rfl
                            · rfl
                          refine hK.out _ _ ⟨blk_cell (hF.s17).p 3, blk_cell (hF.s17).p 5, blk_cell (hF.s17).p 6, blk_cell (hF.s17).l 0, blk_cell (hF.s17).r 0, blk_cell (hF.s17).r 1, blk_cell (hF.s17).r 2, blk_cell (hF.s17).r 3⟩ (fun hHeld => ?_)
                          clear hK K
                          refine norm_ (a' := ?_) ?_ ?_
                          rotate_left
                          · show Act.put _ (some 52) _ = _
                            simp only [Act.put, List.setIfInBounds_toArray, List.set_cons_zero, List.set_cons_succ, i64_w, i32_w]
                            rfl
                          exact norm_ (by first | (simp only [putAll, Act.put, List.setIfInBounds_toArray, List.set_cons_zero, List.set_cons_succ]; done) | (simp only [putAll, Act.put, List.setIfInBounds_toArray, List.set_cons_zero, List.set_cons_succ]; rfl)) (hJ9_17_23 _ _ hF.s17)
                    · skip
                      rintro ⟨g9, v10, g17, v18, g23, v24⟩ w_ hF
                      have hHeld : w_.cell? ⟨gp, 3, none⟩ = some vr ∧ w_.cell? ⟨gp, 5, none⟩ = some vl ∧ w_.cell? ⟨gp, 6, none⟩ = some vj ∧ w_.cell? ⟨gl, 0, none⟩ = some (.int .i64 n) ∧ w_.cell? ⟨gr, 0, none⟩ = some (.string x) ∧ w_.cell? ⟨gr, 1, none⟩ = some (.slice none 0 0) ∧ w_.cell? ⟨gr, 2, none⟩ = some (.slice none 0 0) ∧ w_.cell? ⟨gr, 3, none⟩ = some (.string ⟨#[]⟩) := ⟨blk_cell (hF).p 3, blk_cell (hF).p 5, blk_cell (hF).p 6, blk_cell (hF).l 0, blk_cell (hF).r 0, blk_cell (hF).r 1, blk_cell (hF).r 2, blk_cell (hF).r 3⟩
                      refine norm_ (a' := ?_) ?_ ?_
                      rotate_left
                      · simp only [putAll, Act.put, List.setIfInBounds_toArray, List.set_cons_zero, List.set_cons_succ]
                        rfl
                      refine two_ (i := 10) (j := 23) (Ni := some 45) (Nj := some 58) #[true, true, true, true, true, true, true, true, true, true, true, true, true, true, true, true, true, true, false, true, true, true, true, false, false, false, false, false, false, false, false, false, false, false, false] #[true, true, true, true, true, true, true, true, true, true, false, true, true, true, true, true, true, true, false, true, true, true, true, true, false, false, false, false, false, false, false, false, false, false, false] rfl rfl rfl rfl (by kernel_rfl) (by decide) (by decide) (fun K hK => ?_) (fun K hK => ?_)
                      · skip
                        refine S_append_one_step kRung (w0 := w_) B (by rfl) (.tmp 42) (.tmp 44) 22 53 (.agg #[.string ⟨#[]⟩, .slice none 0 0, .slice none 0 0, .string ⟨#[]⟩]) 80 rfl Tryz.underlying22 PPrinterRoundTrip.info53 rfl (Nat.zero_lt_succ 3) (by omega) vr S.rungs (newR x) (newC x) g9 53 (fun _ => True) (fun _ => False) rfl rfl (PPrinterRoundTrip.k53_mkM w_ B _ (newR x) (Kd.R_nil _ _ _ _ _) (Kd.R_nil _ _ _ _ _)) rfl (hF.x9 rfl rfl).1 (fun _ h => h.elim) (fun _ _ => trivial) (Kd.S_mono (hF.r0 rfl) (fun _ _ => ⟨trivial, fun h => h⟩)) (Below.refl _ _) hF.sz (by omega) ?_
                        intro v1 w1 hr hb hg hat
                        have hN := hF.s10 hr hg
                        clear hr hb hg hat
                        refine hK.out _ _ ⟨blk_cell (hN).p 3, blk_cell (hN).p 5, blk_cell (hN).p 6, blk_cell (hN).l 0, blk_cell (hN).r 0, blk_cell (hN).r 1, blk_cell (hN).r 2, blk_cell (hN).r 3⟩ (fun hHeld => ?_)
                        clear hK K
                        refine norm_ (a' := ?_) ?_ ?_
                        rotate_left
                        · show Act.put _ (some 45) _ = _
                          simp only [Act.put, List.setIfInBounds_toArray, List.set_cons_zero, List.set_cons_succ, i64_w, i32_w]
                          rfl
                        exact norm_ (by first | (simp only [putAll, Act.put, List.setIfInBounds_toArray, List.set_cons_zero, List.set_cons_succ]; done) | (simp only [putAll, Act.put, List.setIfInBounds_toArray, List.set_cons_zero, List.set_cons_succ]; rfl)) (hJ9_10_17 _ _ hN)
                      · skip
                        refine value_ (w1 := ?_) (v := ?_) (by rfl) rfl ?_ ?_
                        rotate_left 2
                        · go_simp
                          constructor
                          · rfl
                          · rfl
                        refine hK.out _ _ ⟨blk_cell (hF.s23).p 3, blk_cell (hF.s23).p 5, blk_cell (hF.s23).p 6, blk_cell (hF.s23).l 0, blk_cell (hF.s23).r 0, blk_cell (hF.s23).r 1, blk_cell (hF.s23).r 2, blk_cell (hF.s23).r 3⟩ (fun hHeld => ?_)
                        clear hK K
                        refine norm_ (a' := ?_) ?_ ?_
                        rotate_left
                        · show Act.put _ (some 58) _ = _
                          simp only [Act.put, List.setIfInBounds_toArray, List.set_cons_zero, List.set_cons_succ, i64_w, i32_w]
                          rfl
                        exact norm_ (by first | (simp only [putAll, Act.put, List.setIfInBounds_toArray, List.set_cons_zero, List.set_cons_succ]; done) | (simp only [putAll, Act.put, List.setIfInBounds_toArray, List.set_cons_zero, List.set_cons_succ]; rfl)) (hJ9_17_23 _ _ hF.s23)
                  · skip
                    rintro ⟨g9, v10, g17, v18, g23, v24⟩ w_ hF
                    have hHeld : w_.cell? ⟨gp, 3, none⟩ = some vr ∧ w_.cell? ⟨gp, 5, none⟩ = some vl ∧ w_.cell? ⟨gp, 6, none⟩ = some vj ∧ w_.cell? ⟨gl, 0, none⟩ = some (.int .i64 n) ∧ w_.cell? ⟨gr, 0, none⟩ = some (.string x) ∧ w_.cell? ⟨gr, 1, none⟩ = some (.slice none 0 0) ∧ w_.cell? ⟨gr, 2, none⟩ = some (.slice none 0 0) ∧ w_.cell? ⟨gr, 3, none⟩ = some (.string ⟨#[]⟩) := ⟨blk_cell (hF).p 3, blk_cell (hF).p 5, blk_cell (hF).p 6, blk_cell (hF).l 0, blk_cell (hF).r 0, blk_cell (hF).r 1, blk_cell (hF).r 2, blk_cell (hF).r 3⟩
                    refine norm_ (a' := ?_) ?_ ?_
                    rotate_left
                    · simp only [putAll, Act.put, List.setIfInBounds_toArray, List.set_cons_zero, List.set_cons_succ]
                      rfl
                    refine two_ (i := 17) (j := 23) (Ni := some 52) (Nj := some 58) #[true, true, true, true, true, true, true, true, true, true, true, true, true, true, true, true, true, true, false, true, true, true, true, false, false, false, false, false, false, false, false, false, false, false, false] #[true, true, true, true, true, true, true, true, true, true, true, true, true, true, true, true, true, false, false, true, true, true, true, true, false, false, false, false, false, false, false, false, false, false, false] rfl rfl rfl rfl (by kernel_rfl) (by decide) (by decide) (fun K hK => ?_) (fun K hK => ?_)
                    · skip
                      refine value_ (w1 := ?_) (v := ?_) (by rfl) rfl ?_ ?_
                      rotate_left 2
                      · go_simp
                        constructor
                        · rfl
                        · rfl
                      refine hK.out _ _ ⟨blk_cell (hF.s17).p 3, blk_cell (hF.s17).p 5, blk_cell (hF.s17).p 6, blk_cell (hF.s17).l 0, blk_cell (hF.s17).r 0, blk_cell (hF.s17).r 1, blk_cell (hF.s17).r 2, blk_cell (hF.s17).r 3⟩ (fun hHeld => ?_)
                      clear hK K
                      refine norm_ (a' := ?_) ?_ ?_
                      rotate_left
                      · show Act.put _ (some 52) _ = _
                        simp only [Act.put, List.setIfInBounds_toArray, List.set_cons_zero, List.set_cons_succ, i64_w, i32_w]
                        rfl
                      exact norm_ (by first | (simp only [putAll, Act.put, List.setIfInBounds_toArray, List.set_cons_zero, List.set_cons_succ]; done) | (simp only [putAll, Act.put, List.setIfInBounds_toArray, List.set_cons_zero, List.set_cons_succ]; rfl)) (hJ9_10_17 _ _ hF.s17)
                    · skip
                      refine value_ (w1 := ?_) (v := ?_) (by rfl) rfl ?_ ?_
                      rotate_left 2
                      · go_simp
                        constructor
                        · rfl
                        · rfl
                      refine hK.out _ _ ⟨blk_cell (hF.s23).p 3, blk_cell (hF.s23).p 5, blk_cell (hF.s23).p 6, blk_cell (hF.s23).l 0, blk_cell (hF.s23).r 0, blk_cell (hF.s23).r 1, blk_cell (hF.s23).r 2, blk_cell (hF.s23).r 3⟩ (fun hHeld => ?_)
                      clear hK K
                      refine norm_ (a' := ?_) ?_ ?_
                      rotate_left
                      · show Act.put _ (some 58) _ = _
                        simp only [Act.put, List.setIfInBounds_toArray, List.set_cons_zero, List.set_cons_succ, i64_w, i32_w]
                        rfl
                      exact norm_ (by first | (simp only [putAll, Act.put, List.setIfInBounds_toArray, List.set_cons_zero, List.set_cons_succ]; done) | (simp only [putAll, Act.put, List.setIfInBounds_toArray, List.set_cons_zero, List.set_cons_succ]; rfl)) (hJ9_10_23 _ _ hF.s23)
                · skip
                  rintro ⟨g9, v10, g17, v18, g23, v24⟩ w_ hF
                  have hHeld : w_.cell? ⟨gp, 3, none⟩ = some vr ∧ w_.cell? ⟨gp, 5, none⟩ = some vl ∧ w_.cell? ⟨gp, 6, none⟩ = some vj ∧ w_.cell? ⟨gl, 0, none⟩ = some (.int .i64 n) ∧ w_.cell? ⟨gr, 0, none⟩ = some (.string x) ∧ w_.cell? ⟨gr, 1, none⟩ = some (.slice none 0 0) ∧ w_.cell? ⟨gr, 2, none⟩ = some (.slice none 0 0) ∧ w_.cell? ⟨gr, 3, none⟩ = some (.string ⟨#[]⟩) := ⟨blk_cell (hF).p 3, blk_cell (hF).p 5, blk_cell (hF).p 6, blk_cell (hF).l 0, blk_cell (hF).r 0, blk_cell (hF).r 1, blk_cell (hF).r 2, blk_cell (hF).r 3⟩
                  refine norm_ (a' := ?_) ?_ ?_
                  rotate_left
                  · simp only [putAll, Act.put, List.setIfInBounds_toArray, List.set_cons_zero, List.set_cons_succ]
                    rfl
                  refine one_ (i := 10) (N := some 45) #[true, true, true, true, true, true, true, true, true, true, true, true, true, true, true, true, true, true, false, true, true, true, true, true, false, false, false, false, false, false, false, false, false, false, false] rfl rfl (by kernel_rfl) (by decide) (fun K hK => ?_)
                  refine S_append_one_step kRung (w0 := w_) B (by rfl) (.tmp 42) (.tmp 44) 22 53 (.agg #[.string ⟨#[]⟩, .slice none 0 0, .slice none 0 0, .string ⟨#[]⟩]) 80 rfl Tryz.underlying22 PPrinterRoundTrip.info53 rfl (Nat.zero_lt_succ 3) (by omega) vr S.rungs (newR x) (newC x) g9 53 (fun _ => True) (fun _ => False) rfl rfl (PPrinterRoundTrip.k53_mkM w_ B _ (newR x) (Kd.R_nil _ _ _ _ _) (Kd.R_nil _ _ _ _ _)) rfl (hF.x9 rfl rfl).1 (fun _ h => h.elim) (fun _ _ => trivial) (Kd.S_mono (hF.r0 rfl) (fun _ _ => ⟨trivial, fun h => h⟩)) (Below.refl _ _) hF.sz (by omega) ?_
                  intro v1 w1 hr hb hg hat
                  have hN := hF.s10 hr hg
                  clear hr hb hg hat
                  refine hK.out _ _ ⟨blk_cell (hN).p 3, blk_cell (hN).p 5, blk_cell (hN).p 6, blk_cell (hN).l 0, blk_cell (hN).r 0, blk_cell (hN).r 1, blk_cell (hN).r 2, blk_cell (hN).r 3⟩ (fun hHeld => ?_)
                  clear hK K
                  refine norm_ (a' := ?_) ?_ ?_
                  rotate_left
                  · show Act.put _ (some 45) _ = _
                    simp only [Act.put, List.setIfInBounds_toArray, List.set_cons_zero, List.set_cons_succ, i64_w, i32_w]
                    rfl
                  exact norm_ (by first | (simp only [putAll, Act.put, List.setIfInBounds_toArray, List.set_cons_zero, List.set_cons_succ]; done) | (simp only [putAll, Act.put, List.setIfInBounds_toArray, List.set_cons_zero, List.set_cons_succ]; rfl)) (hJ9_10_17_23 _ _ hN)
              · skip
                rintro ⟨g9, v10, g17, v18, g23, v24⟩ w_ hF
                have hHeld : w_.cell? ⟨gp, 3, none⟩ = some vr ∧ w_.cell? ⟨gp, 5, none⟩ = some vl ∧ w_.cell? ⟨gp, 6, none⟩ = some vj ∧ w_.cell? ⟨gl, 0, none⟩ = some (.int .i64 n) ∧ w_.cell? ⟨gr, 0, none⟩ = some (.string x) ∧ w_.cell? ⟨gr, 1, none⟩ = some (.slice none 0 0) ∧ w_.cell? ⟨gr, 2, none⟩ = some (.slice none 0 0) ∧ w_.cell? ⟨gr, 3, none⟩ = some (.string ⟨#[]⟩) := ⟨blk_cell (hF).p 3, blk_cell (hF).p 5, blk_cell (hF).p 6, blk_cell (hF).l 0, blk_cell (hF).r 0, blk_cell (hF).r 1, blk_cell (hF).r 2, blk_cell (hF).r 3⟩
                refine norm_ (a' := ?_) ?_ ?_
                rotate_left
                · simp only [putAll, Act.put, List.setIfInBounds_toArray, List.set_cons_zero, List.set_cons_succ]
                  rfl
                refine one_ (i := 17) (N := some 52) #[true, true, true, true, true, true, true, true, true, true, true, true, true, true, true, true, true, true, false, true, true, true, true, true, false, false, false, false, false, false, false, false, false, false, false] rfl rfl (by kernel_rfl) (by decide) (fun K hK => ?_)
                refine value_ (w1 := ?_) (v := ?_) (by rfl) rfl ?_ ?_
                rotate_left 2
                · go_simp
                  constructor
                  · rfl
                  · rfl
                refine hK.out _ _ ⟨blk_cell (hF.s17).p 3, blk_cell (hF.s17).p 5, blk_cell (hF.s17).p 6, blk_cell (hF.s17).l 0, blk_cell (hF.s17).r 0, blk_cell (hF.s17).r 1, blk_cell (hF.s17).r 2, blk_cell (hF.s17).r 3⟩ (fun hHeld => ?_)
                clear hK K
                refine norm_ (a' := ?_) ?_ ?_
                rotate_left
                · show Act.put _ (some 52) _ = _
                  simp only [Act.put, List.setIfInBounds_toArray, List.set_cons_zero, List.set_cons_succ, i64_w, i32_w]
                  rfl
                exact norm_ (by first | (simp only [putAll, Act.put, List.setIfInBounds_toArray, List.set_cons_zero, List.set_cons_succ]; done) | (simp only [putAll, Act.put, List.setIfInBounds_toArray, List.set_cons_zero, List.set_cons_succ]; rfl)) (hJ9_10_17_23 _ _ hF.s17)
            · skip
              rintro ⟨g9, v10, g17, v18, g23, v24⟩ w_ hF
              have hHeld : w_.cell? ⟨gp, 3, none⟩ = some vr ∧ w_.cell? ⟨gp, 5, none⟩ = some vl ∧ w_.cell? ⟨gp, 6, none⟩ = some vj ∧ w_.cell? ⟨gl, 0, none⟩ = some (.int .i64 n) ∧ w_.cell? ⟨gr, 0, none⟩ = some (.string x) ∧ w_.cell? ⟨gr, 1, none⟩ = some (.slice none 0 0) ∧ w_.cell? ⟨gr, 2, none⟩ = some (.slice none 0 0) ∧ w_.cell? ⟨gr, 3, none⟩ = some (.string ⟨#[]⟩) := ⟨blk_cell (hF).p 3, blk_cell (hF).p 5, blk_cell (hF).p 6, blk_cell (hF).l 0, blk_cell (hF).r 0, blk_cell (hF).r 1, blk_cell (hF).r 2, blk_cell (hF).r 3⟩
              refine norm_ (a' := ?_) ?_ ?_
              rotate_left
              · simp only [putAll, Act.put, List.setIfInBounds_toArray, List.set_cons_zero, List.set_cons_succ]
                rfl
              refine two_ (i := 18) (j := 23) (Ni := some 53) (Nj := some 58) #[true, true, true, true, true, true, true, true, true, true, true, true, true, true, true, true, true, true, true, true, true, true, true, false, false, false, false, false, false, false, false, false, false, false, false] #[true, true, true, true, true, true, true, true, true, true, true, true, true, true, true, true, true, true, false, true, true, true, true, true, false, false, false, false, false, false, false, false, false, false, false] rfl rfl rfl rfl (by kernel_rfl) (by decide) (by decide) (fun K hK => ?_) (fun K hK => ?_)
              · skip
                refine Kd.R_append_rows_step (Kd.int .i64) (Rr := fun q c => q = (n : Int) ∧ c = [Value.int .i64 n]) (w0 := w_) B (by rfl) (.tmp 49) (.tmp 52) 30 3 (.int .i64 0) 8 rfl Tryz.underlying30 (by rfl) rfl (Nat.zero_lt_succ 0) (by omega) vl S.lines [(n : Int)] (some ⟨g17, 0, none⟩) 1 1 (fun _ => True) (fun _ => False) rfl rfl (hF.l0 rfl) (row_oneG rfl ⟨rfl, rfl⟩ (hF.x17 rfl rfl).1) (fun q c h => by obtain ⟨rfl, rfl⟩ := h; exact rfl) (fun _ h => h.elim) (fun _ _ => trivial) (Below.refl _ _) hF.sz (by omega) ?_
                intro v1 w1 hr hb hg hat
                have hN := hF.s18 hr hg hat
                clear hr hb hg hat
                refine hK.out _ _ ⟨blk_cell (hN).p 3, blk_cell (hN).p 5, blk_cell (hN).p 6, blk_cell (hN).l 0, blk_cell (hN).r 0, blk_cell (hN).r 1, blk_cell (hN).r 2, blk_cell (hN).r 3⟩ (fun hHeld => ?_)
                clear hK K
                refine norm_ (a' := ?_) ?_ ?_
                rotate_left
                · show Act.put _ (some 53) _ = _
                  simp only [Act.put, List.setIfInBounds_toArray, List.set_cons_zero, List.set_cons_succ, i64_w, i32_w]
                  rfl
                exact norm_ (by first | (simp only [putAll, Act.put, List.setIfInBounds_toArray, List.set_cons_zero, List.set_cons_succ]; done) | (simp only [putAll, Act.put, List.setIfInBounds_toArray, List.set_cons_zero, List.set_cons_succ]; rfl)) (hJ9_10_17_18 _ _ hN)
              · skip
                refine value_ (w1 := ?_) (v := ?_) (by rfl) rfl ?_ ?_
                rotate_left 2
                · go_simp
                  constructor
                  · rfl
                  · rfl
                refine hK.out _ _ ⟨blk_cell (hF.s23).p 3, blk_cell (hF.s23).p 5, blk_cell (hF.s23).p 6, blk_cell (hF.s23).l 0, blk_cell (hF.s23).r 0, blk_cell (hF.s23).r 1, blk_cell (hF.s23).r 2, blk_cell (hF.s23).r 3⟩ (fun hHeld => ?_)
                clear hK K
                refine norm_ (a' := ?_) ?_ ?_
                rotate_left
                · show Act.put _ (some 58) _ = _
                  simp only [Act.put, List.setIfInBounds_toArray, List.set_cons_zero, List.set_cons_succ, i64_w, i32_w]
                  rfl
                exact norm_ (by first | (simp only [putAll, Act.put, List.setIfInBounds_toArray, List.set_cons_zero, List.set_cons_succ]; done) | (simp only [putAll, Act.put, List.setIfInBounds_toArray, List.set_cons_zero, List.set_cons_succ]; rfl)) (hJ9_10_17_23 _ _ hF.s23)
          · skip
            rintro ⟨g9, v10, g17, v18, g23, v24⟩ w_ hF
            have hHeld : w_.cell? ⟨gp, 3, none⟩ = some vr ∧ w_.cell? ⟨gp, 5, none⟩ = some vl ∧ w_.cell? ⟨gp, 6, none⟩ = some vj ∧ w_.cell? ⟨gl, 0, none⟩ = some (.int .i64 n) ∧ w_.cell? ⟨gr, 0, none⟩ = some (.string x) ∧ w_.cell? ⟨gr, 1, none⟩ = some (.slice none 0 0) ∧ w_.cell? ⟨gr, 2, none⟩ = some (.slice none 0 0) ∧ w_.cell? ⟨gr, 3, none⟩ = some (.string ⟨#[]⟩) := ⟨blk_cell (hF).p 3, blk_cell (hF).p 5, blk_cell (hF).p 6, blk_cell (hF).l 0, blk_cell (hF).r 0, blk_cell (hF).r 1, blk_cell (hF).r 2, blk_cell (hF).r 3⟩
            refine norm_ (a' := ?_) ?_ ?_
            rotate_left
            · simp only [putAll, Act.put, List.setIfInBounds_toArray, List.set_cons_zero, List.set_cons_succ]
              rfl
            refine one_ (i := 18) (N := some 53) #[true, true, true, true, true, true, true, true, true, true, true, true, true, true, true, true, true, true, true, true, true, true, true, true, false, false, false, false, false, false, false, false, false, false, false] rfl rfl (by kernel_rfl) (by decide) (fun K hK => ?_)
            refine Kd.R_append_rows_step (Kd.int .i64) (Rr := fun q c => q = (n : Int) ∧ c = [Value.int .i64 n]) (w0 := w_) B (by rfl) (.tmp 49) (.tmp 52) 30 3 (.int .i64 0) 8 rfl Tryz.underlying30 (by rfl) rfl (Nat.zero_lt_succ 0) (by omega) vl S.lines [(n : Int)] (some ⟨g17, 0, none⟩) 1 1 (fun _ => True) (fun _ => False) rfl rfl (hF.l0 rfl) (row_oneG rfl ⟨rfl, rfl⟩ (hF.x17 rfl rfl).1) (fun q c h => by obtain ⟨rfl, rfl⟩ := h; exact rfl) (fun _ h => h.elim) (fun _ _ => trivial) (Below.refl _ _) hF.sz (by omega) ?_
            intro v1 w1 hr hb hg hat
            have hN := hF.s18 hr hg hat
            clear hr hb hg hat
            refine hK.out _ _ ⟨blk_cell (hN).p 3, blk_cell (hN).p 5, blk_cell (hN).p 6, blk_cell (hN).l 0, blk_cell (hN).r 0, blk_cell (hN).r 1, blk_cell (hN).r 2, blk_cell (hN).r 3⟩ (fun hHeld => ?_)
            clear hK K
            refine norm_ (a' := ?_) ?_ ?_
            rotate_left
            · show Act.put _ (some 53) _ = _
              simp only [Act.put, List.setIfInBounds_toArray, List.set_cons_zero, List.set_cons_succ, i64_w, i32_w]
              rfl
            exact norm_ (by first | (simp only [putAll, Act.put, List.setIfInBounds_toArray, List.set_cons_zero, List.set_cons_succ]; done) | (simp only [putAll, Act.put, List.setIfInBounds_toArray, List.set_cons_zero, List.set_cons_succ]; rfl)) (hJ9_10_17_18_23 _ _ hN)
        · skip
          rintro ⟨g9, v10, g17, v18, g23, v24⟩ w_ hF
          have hHeld : w_.cell? ⟨gp, 3, none⟩ = some vr ∧ w_.cell? ⟨gp, 5, none⟩ = some vl ∧ w_.cell? ⟨gp, 6, none⟩ = some vj ∧ w_.cell? ⟨gl, 0, none⟩ = some (.int .i64 n) ∧ w_.cell? ⟨gr, 0, none⟩ = some (.string x) ∧ w_.cell? ⟨gr, 1, none⟩ = some (.slice none 0 0) ∧ w_.cell? ⟨gr, 2, none⟩ = some (.slice none 0 0) ∧ w_.cell? ⟨gr, 3, none⟩ = some (.string ⟨#[]⟩) := ⟨blk_cell (hF).p 3, blk_cell (hF).p 5, blk_cell (hF).p 6, blk_cell (hF).l 0, blk_cell (hF).r 0, blk_cell (hF).r 1, blk_cell (hF).r 2, blk_cell (hF).r 3⟩
          refine norm_ (a' := ?_) ?_ ?_
          rotate_left
          · simp only [putAll, Act.put, List.setIfInBounds_toArray, List.set_cons_zero, List.set_cons_succ]
            rfl
          refine one_ (i := 23) (N := some 58) #[true, true, true, true, true, true, true, true, true, true, true, true, true, true, true, true, true, true, true, true, true, true, true, true, false, false, false, false, false, false, false, false, false, false, false] rfl rfl (by kernel_rfl) (by decide) (fun K hK => ?_)
          refine value_ (w1 := ?_) (v := ?_) (by rfl) rfl ?_ ?_
          rotate_left 2
          · go_simp
            constructor
            · rfl
            · rfl
          refine hK.out _ _ ⟨blk_cell (hF.s23).p 3, blk_cell (hF.s23).p 5, blk_cell (hF.s23).p 6, blk_cell (hF.s23).l 0, blk_cell (hF.s23).r 0, blk_cell (hF.s23).r 1, blk_cell (hF.s23).r 2, blk_cell (hF.s23).r 3⟩ (fun hHeld => ?_)
          clear hK K
          refine norm_ (a' := ?_) ?_ ?_
          rotate_left
          · show Act.put _ (some 58) _ = _
            simp only [Act.put, List.setIfInBounds_toArray, List.set_cons_zero, List.set_cons_succ, i64_w, i32_w]
            rfl
          exact norm_ (by first | (simp only [putAll, Act.put, List.setIfInBounds_toArray, List.set_cons_zero, List.set_cons_succ]; done) | (simp only [putAll, Act.put, List.setIfInBounds_toArray, List.set_cons_zero, List.set_cons_succ]; rfl)) (hJ9_10_17_18_23 _ _ hF.s23)
      rintro ⟨g9, v10, g17, v18, g23, v24⟩ w_ hF
      have hHeld : w_.cell? ⟨gp, 3, none⟩ = some vr ∧ w_.cell? ⟨gp, 5, none⟩ = some vl ∧ w_.cell? ⟨gp, 6, none⟩ = some vj ∧ w_.cell? ⟨gl, 0, none⟩ = some (.int .i64 n) ∧ w_.cell? ⟨gr, 0, none⟩ = some (.string x) ∧ w_.cell? ⟨gr, 1, none⟩ = some (.slice none 0 0) ∧ w_.cell? ⟨gr, 2, none⟩ = some (.slice none 0 0) ∧ w_.cell? ⟨gr, 3, none⟩ = some (.string ⟨#[]⟩) := ⟨blk_cell (hF).p 3, blk_cell (hF).p 5, blk_cell (hF).p 6, blk_cell (hF).l 0, blk_cell (hF).r 0, blk_cell (hF).r 1, blk_cell (hF).r 2, blk_cell (hF).r 3⟩
      refine norm_ (a' := ?_) ?_ ?_
      rotate_left
      · simp only [putAll, Act.put, List.setIfInBounds_toArray, List.set_cons_zero, List.set_cons_succ]
        rfl
      refine one_ (i := 24) (N := some 59) #[true, true, true, true, true, true, true, true, true, true, true, true, true, true, true, true, true, true, true, true, true, true, true, true, true, false, false, false, false, false, false, false, false, false, false] rfl rfl (by kernel_rfl) (by decide) (fun K hK => ?_)
      refine Kd.R_append_rows_step (Kd.int .i64) (Rr := fun q c => q = (0 : Int) ∧ c = [Value.int .i64 0]) (w0 := w_) B (by rfl) (.tmp 57) (.tmp 58) 30 3 (.int .i64 0) 8 rfl Tryz.underlying30 (by rfl) rfl (Nat.zero_lt_succ 0) (by omega) vj S.jumps [(0 : Int)] (some ⟨g23, 0, none⟩) 1 1 (fun _ => True) (fun _ => False) rfl rfl (hF.j0 rfl) (row_oneG rfl ⟨rfl, rfl⟩ (hF.x23 rfl rfl).1) (fun q c h => by obtain ⟨rfl, rfl⟩ := h; exact rfl) (fun _ h => h.elim) (fun _ _ => trivial) (Below.refl _ _) hF.sz (by omega) ?_
      intro v1 w1 hr hb hg hat
      have hN := hF.s24 hr hg hat
      clear hr hb hg hat
      obtain ⟨B1, d1, e, -, -⟩ := Kd.S_reads (hN.r1 rfl)
      obtain rfl : v10 = .slice B1 (S.rungs.length + 1) d1 := Eq.trans e (by rw [List.length_append, List.length_singleton])
      clear e
      obtain ⟨B2, d2, e, -, -⟩ := Kd.R_reads (hN.l1 rfl)
      obtain rfl : v18 = .slice B2 (S.lines.length + 1) d2 := Eq.trans e (by rw [List.length_append, List.length_singleton])
      clear e
      obtain ⟨B3, d3, e, -, -⟩ := Kd.R_reads (hN.j1 rfl)
      obtain rfl : v1 = .slice B3 (S.jumps.length + 1) d3 := Eq.trans e (by rw [List.length_append, List.length_singleton])
      clear e
      have p3 : w1.cell? ⟨gp, 3, none⟩ = some vr := blk_cell hN.p 3
      have p5 : w1.cell? ⟨gp, 5, none⟩ = some vl := blk_cell hN.p 5
      have p6 : w1.cell? ⟨gp, 6, none⟩ = some vj := blk_cell hN.p 6
      have z3 : w1.frozen? ⟨gp, 3, none⟩ = false := blk_frozen hN.p 3
      have z5 : w1.frozen? ⟨gp, 5, none⟩ = false := blk_frozen hN.p 5
      have z6 : w1.frozen? ⟨gp, 6, none⟩ = false := blk_frozen hN.p 6
      refine hK.out _ _ ⟨blk_cell (hN).p 3, blk_cell (hN).p 5, blk_cell (hN).p 6, blk_cell (hN).l 0, blk_cell (hN).r 0, blk_cell (hN).r 1, blk_cell (hN).r 2, blk_cell (hN).r 3⟩ (fun hHeld => ?_)
      clear hK K
      refine norm_ (a' := ?_) ?_ ?_
      rotate_left
      · show Act.put _ (some 59) _ = _
        simp only [Act.put, List.setIfInBounds_toArray, List.set_cons_zero, List.set_cons_succ, i64_w, i32_w]
        rfl
      refine pure_ (i := 25) (N := some 60) (v := ?_) (a' := ?_) #[true, true, true, true, true, true, true, true, true, true, true, true, true, true, true, true, true, true, true, true, true, true, true, true, true, true, false, false, false, false, false, false, false, false, false] rfl rfl (by kernel_rfl) (fun _ _ _ h => h) (Or.inl ⟨by rfl, ?_⟩) ?_ ?_
      rotate_left
      · intro w'
        go_simp
        with_reducible rfl
      rotate_left
      · simp only [Act.put, List.setIfInBounds_toArray, List.set_cons_zero, List.set_cons_succ, i64_w, i32_w]
        rfl
      refine pure_ (i := 26) (N := some 61) (v := ?_) (a' := ?_) #[true, true, true, true, true, true, true, true, true, true, true, true, true, true, true, true, true, true, true, true, true, true, true, true, true, true, true, false, false, false, false, false, false, false, false] rfl rfl (by kernel_rfl) (fun _ _ _ h => h) (Or.inl ⟨by rfl, ?_⟩) ?_ ?_
      rotate_left
      · intro w'
        go_simp
        with_reducible rfl
      rotate_left
      · simp only [Act.put, List.setIfInBounds_toArray, List.set_cons_zero, List.set_cons_succ, i64_w, i32_w]
        rfl
      refine pure_ (i := 27) (N := some 62) (v := ?_) (a' := ?_) #[true, true, true, true, true, true, true, true, true, true, true, true, true, true, true, true, true, true, true, true, true, true, true, true, true, true, true, true, false, false, false, false, false, false, false] rfl rfl (by kernel_rfl) (fun _ _ _ h => h) (Or.inl ⟨by rfl, ?_⟩) ?_ ?_
      rotate_left
      · intro w'
        go_simp
        with_reducible rfl
      rotate_left
      · simp only [Act.put, List.setIfInBounds_toArray, List.set_cons_zero, List.set_cons_succ, i64_w, i32_w]
        rfl
      refine last_ (i := 28) (N := none) #[true, true, true, true, true, true, true, true, true, true, true, true, true, true, true, true, true, true, true, true, true, true, true, true, true, true, true, true, true, false, false, false, false, false, false] rfl rfl (by kernel_rfl) (by decide) (fun K hK => ?_)
      refine skip_ (w1 := ?_) (by rfl) rfl ?_ ?_
      rotate_left
      · go_simp
        rfl
      refine hK.out _ _ ?_
      clear hK K
      refine pure_ (i := 29) (N := some 63) (v := ?_) (a' := ?_) #[true, true, true, true, true, true, true, true, true, true, true, true, true, true, true, true, true, true, true, true, true, true, true, true, true, true, true, true, true, true, false, false, false, false, false] rfl rfl (by kernel_rfl) (fun _ _ _ h => h) (Or.inl ⟨by rfl, ?_⟩) ?_ ?_
      rotate_left
      · intro w'
        go_simp
        with_reducible rfl
      rotate_left
      · simp only [Act.put, List.setIfInBounds_toArray, List.set_cons_zero, List.set_cons_succ, i64_w, i32_w]
        rfl
      refine pure_ (i := 30) (N := some 64) (v := ?_) (a' := ?_) #[true, true, true, true, true, true, true, true, true, true, true, true, true, true, true, true, true, true, true, true, true, true, true, true, true, true, true, true, true, true, true, false, false, false, false] rfl rfl (by kernel_rfl) (fun _ _ _ h => h) (Or.inl ⟨by rfl, ?_⟩) ?_ ?_
      rotate_left
      · intro w'
        go_simp
        with_reducible rfl
      rotate_left
      · simp only [Act.put, List.setIfInBounds_toArray, List.set_cons_zero, List.set_cons_succ, i64_w, i32_w]
        rfl
      refine last_ (i := 31) (N := none) #[true, true, true, true, true, true, true, true, true, true, true, true, true, true, true, true, true, true, true, true, true, true, true, true, true, true, true, true, true, true, true, true, false, false, false] rfl rfl (by kernel_rfl) (by decide) (fun K hK => ?_)
      refine skip_ (w1 := ?_) (by rfl) rfl ?_ ?_
      rotate_left
      · go_simp
        rfl
      refine hK.out _ _ ?_
      clear hK K
      refine pure_ (i := 32) (N := some 65) (v := ?_) (a' := ?_) #[true, true, true, true, true, true, true, true, true, true, true, true, true, true, true, true, true, true, true, true, true, true, true, true, true, true, true, true, true, true, true, true, true, false, false] rfl rfl (by kernel_rfl) (fun _ _ _ h => h) (Or.inl ⟨by rfl, ?_⟩) ?_ ?_
      rotate_left
      · intro w'
        go_simp
        with_reducible rfl
      rotate_left
      · simp only [Act.put, List.setIfInBounds_toArray, List.set_cons_zero, List.set_cons_succ, i64_w, i32_w]
        rfl
      refine pure_ (i := 33) (N := some 66) (v := ?_) (a' := ?_) #[true, true, true, true, true, true, true, true, true, true, true, true, true, true, true, true, true, true, true, true, true, true, true, true, true, true, true, true, true, true, true, true, true, true, false] rfl rfl (by kernel_rfl) (fun _ _ _ h => h) (Or.inl ⟨by rfl, ?_⟩) ?_ ?_
      rotate_left
      · intro w'
        go_simp
        with_reducible rfl
      rotate_left
      · simp only [Act.put, List.setIfInBounds_toArray, List.set_cons_zero, List.set_cons_succ, i64_w, i32_w]
        rfl
      refine last_ (i := 34) (N := none) #[true, true, true, true, true, true, true, true, true, true, true, true, true, true, true, true, true, true, true, true, true, true, true, true, true, true, true, true, true, true, true, true, true, true, true] rfl rfl (by kernel_rfl) (by decide) (fun K hK => ?_)
      refine skip_ (w1 := ?_) (by rfl) rfl ?_ ?_
      rotate_left
      · go_simp
        rfl
      refine hK.out _ _ ?_
      clear hK K
      refine done_ (by kernel_rfl) ?_
      have HPF := Aside0.mk (hN.done H.out.gb H.out.nl H.out.nj h65)
      go_wp2
      go_ret
      rw [HT.out]
      exact ⟨rfl, (KP.of_below H.out.sz HDone.out).trans HPF.out.2, fun _ => ⟨_, _, _, HPF.out.1⟩⟩
end Go.Proofs.YtolmkdhgnganaaaGreatDoor.H
namespace Go.Proofs.YtolmkdhgnganaaaGreatDoor.H
open Go Go.RowKit Go.Proofs Go.Proofs.YtolmkdhgnganaaaGreatDoorW.PrintWords Go.Proofs.YtolmkdhgnganaaaGreatDoor.Sp
open Go.ChangeMaps (setBlock)
/-- Block b is a map whose entries are l, in this order. -/
def MapIs (w : World) (b : Nat) (l : List (ByteArray × Value)) : Prop := ∃ es clock, w.heap[b]? = some (.map es clock) ∧ es.toList.map (fun e => (e.key, e.val)) = l.map (fun p => (Value.string p.1, p.2))
theorem MapIs.below {w w1 : World} {b : Nat} {l : List (ByteArray × Value)} (h : MapIs w b l) (hb : Below w.heap.size w w1) : MapIs w1 b l := by
  obtain ⟨es, clock, h1, h2⟩ := h
  exact ⟨es, clock, (hb.block b (by have := (Array.getElem?_eq_some_iff.1 h1).1; exact this)).trans h1, h2⟩
theorem MapIs.new (w : World) : MapIs (w.alloc (.map #[] 0)) w.heap.size [] := ⟨#[], 0, (MapKept.heap_alloc w _).1, rfl⟩
theorem MapIs.kp {B : Nat} {w w1 : World} {b : Nat} {l : List (ByteArray × Value)} (h : MapIs w b l) (hk : KP B w w1) : MapIs w1 b l := by
  obtain ⟨es, clock, h1, h2⟩ := h
  exact ⟨es, clock, hk.k b _ h1 (fun _ _ _ e => by cases e), h2⟩
theorem findNow_is {s : ByteArray} : ∀ (es : List MapEntry) (l : List (ByteArray × Value)) (i : Nat), es.map (fun e => (e.key, e.val)) = l.map (fun p => (Value.string p.1, p.2)) →
    (l.find? (fun p => s == p.1) = none ∧ Instr.findNow .string (.string s) es i = some none) ∨ ∃ p j, l.find? (fun p => s == p.1) = some p ∧ Instr.findNow .string (.string s) es i = some (some (j, p.2))
  | [], [], i, _ => .inl ⟨rfl, rfl⟩
  | [], q :: l, i, h => by simp at h
  | e :: es, [], i, h => by simp at h
  | e :: es, q :: l, i, h => by
    simp only [List.map_cons, List.cons.injEq, Prod.mk.injEq] at h
    obtain ⟨⟨h1, h2⟩, h3⟩ := h
    cases hq : s == q.1 with
    | true => exact .inr ⟨q, i, by simp [List.find?, hq], by simp [Instr.findNow, h1, Instr.sameNow, hq, h2]⟩
    | false =>
      rcases findNow_is es l (i + 1) h3 with ⟨a, b⟩ | ⟨p, j, a, b⟩
      · exact .inl ⟨by rw [List.find?_cons, hq]; exact a, by simp only [Instr.findNow, h1, Instr.sameNow, hq]; exact b⟩
      · exact .inr ⟨p, j, by rw [List.find?_cons, hq]; exact a, by simp only [Instr.findNow, h1, Instr.sameNow, hq]; exact b⟩
section
variable {P : Program} {k e t : TypeId} {w : World} {b : Nat} {l : List (ByteArray × Value)} {s : ByteArray}
theorem checkKey_s (hk : P.underlying k = some .string) (w : World) (c : Bool) (s : ByteArray) : (Instr.checkKey c 10000 k (.string s)).run P w = .ok () w := by
  unfold Instr.checkKey
  simp [run_underlying hk, Result.andThen]
/-- An entry at a new key. -/
theorem MapIs.put (h : MapIs w b l) (hk : P.underlying k = some .string) (ht : P.underlying t = some (.map k e)) (hn : l.find? (fun p => s == p.1) = none) (v : Value) :
    ∃ w', (Instr.mapUpdate t (.map (some b)) (.string s) v).run P w = .ok () w' ∧ MapIs w' b (l ++ [(s, v)]) ∧ w.grownBy w' (some b) := by
  obtain ⟨es, clock, hb, hl⟩ := h
  rcases findNow_is (s := s) es.toList l 0 hl with ⟨_, hf⟩ | ⟨p, j, hp, _⟩
  · refine ⟨setBlock w b (.map (es.push ⟨.string s, v, clock⟩) (clock + 1)), ?_, ⟨_, _, Go.ChangeMaps.heap_setBlock_same hb _, ?_⟩, ⟨rfl, rfl, rfl, by simp [setBlock], fun i _ hi => Go.ChangeMaps.heap_setBlock_other hb _ (fun e => hi (by rw [e]))⟩⟩
    · simp [Instr.mapUpdate, run_underlying ht, MapKept.run_getObj_map hb, checkKey_s hk, Instr.findKey, run_underlying hk, hf, MapKept.run_setObj_map _ hb, Result.andThen, setBlock]
    · simp only [Array.toList_push, List.map_append, hl, List.map_cons, List.map_nil]
  · rw [hn] at hp; cases hp
/-- A key is looked up. -/
theorem MapIs.look (h : MapIs w b l) (hk : P.underlying k = some .string) (ht : P.underlying t = some (.map k e)) {z : Value} (hz : (zeroValue e).run P w = .ok z w) (s : ByteArray) :
    (Instr.lookup t (.map (some b)) (.string s) true).run P w = .ok (match l.find? (fun p => s == p.1) with | some p => .tuple #[p.2, .bool true] | none => .tuple #[z, .bool false]) w := by
  obtain ⟨es, clock, hb, hl⟩ := h
  rcases findNow_is (s := s) es.toList l 0 hl with ⟨a, hf⟩ | ⟨p, j, a, hf⟩
  · simp [Instr.lookup, run_underlying ht, MapKept.run_getObj_map hb, checkKey_s hk, Instr.findKey, run_underlying hk, hf, hz, a, Result.andThen]
  · simp [Instr.lookup, run_underlying ht, MapKept.run_getObj_map hb, checkKey_s hk, Instr.findKey, run_underlying hk, hf, a, Result.andThen]
end
/-- A store at a new key, at the operation. -/
theorem wpList_put {P : Program} (w : World) {ops : Array Oper} {rest : List Oper} {o : Oper} {a : Act} {Q : Exit → Act → World → Prop} (hg : o.guard = none) (m x v : Operand) (t : TypeId) (hop : o.op = Op.mapUpdate t m x v ∨ o.op = Op.insert t m x v)
    (k e : TypeId) (hk : P.underlying k = some .string) (ht : P.underlying t = some (.map k e)) (b : Nat) (l : List (ByteArray × Value)) (hm : a.eval m = .map (some b)) (hown : MapIs w b l) (s : ByteArray) (val : Value) (hx : a.eval x = .string s) (hv : a.eval v = val)
    (hn : l.find? (fun p => s == p.1) = none) (hK : ∀ w', MapIs w' b (l ++ [(s, val)]) → w.grownBy w' (some b) → wpList P ops Q rest (a.put o.dst undef) w') : wpList P ops Q (o :: rest) a w := by
  refine wpList_plain hg fun K' hK' => ?_
  obtain ⟨w', hrun, r1, r2⟩ := hown.put hk ht hn val
  unfold Oper.wp
  rcases hop with hop | hop
  · simp [execOp, hop, hm, hx, hv, hrun, Result.andThen]
    exact hK' _ _ (hK w' r1 r2)
  · simp [execOp, hop, hm, hx, hv, hrun, Result.andThen]
    exact hK' _ _ (hK w' r1 r2)
end Go.Proofs.YtolmkdhgnganaaaGreatDoor.H
namespace Go.Proofs.YtolmkdhgnganaaaGreatDoor.H
open Go Go.RowKit Go.Proofs Go.Proofs.YtolmkdhgnganaaaGreatDoorW.PrintWords Go.Proofs.YtolmkdhgnganaaaGreatDoor.Sp
/-- A keyword's entry: f, the method, bound to the parser at gp. -/
def wordV (gp : Nat) (a b : Int) (c d : Bool) (f : Nat) : Value := .agg #[.int .i64 a, .int .i64 b, .bool c, .bool d, .func (.func f) #[.pointer (some ⟨gp, 0, none⟩)] #[]]
def tabW (gp : Nat) : List (ByteArray × Value) :=
  [(⟨#[115, 105, 122, 101]⟩, wordV gp 4 4 false false 63), (⟨#[114, 117, 110, 103]⟩, wordV gp 1 2 true false 64), (⟨#[106, 117, 109, 112]⟩, wordV gp 2 2 true true 65),
   (⟨#[110, 111]⟩, wordV gp 4 4 true true 66), (⟨#[110, 99]⟩, wordV gp 4 4 true true 66), (⟨#[117, 112]⟩, wordV gp 4 4 true true 66), (⟨#[100, 111, 119, 110]⟩, wordV gp 4 4 true true 66),
   (⟨#[111, 117, 116]⟩, wordV gp 2 2 true true 67), (⟨#[110, 111, 116]⟩, wordV gp 2 2 true true 67), (⟨#[115, 101, 116]⟩, wordV gp 2 2 true true 67), (⟨#[114, 101, 115, 101, 116]⟩, wordV gp 2 2 true true 67)]
theorem tab_new (gp : Nat) (k : Nat) (hk : k < 11) : ((tabW gp).take k).find? (fun p => ((tabW gp).getD k (⟨#[]⟩, undef)).1 == p.1) = none := by
  have : k = 0 ∨ k = 1 ∨ k = 2 ∨ k = 3 ∨ k = 4 ∨ k = 5 ∨ k = 6 ∨ k = 7 ∨ k = 8 ∨ k = 9 ∨ k = 10 := by omega
  rcases this with rfl | rfl | rfl | rfl | rfl | rfl | rfl | rfl | rfl | rfl | rfl <;> rfl
theorem tab_put {w : World} {b gp k : Nat} (hk : k < 11) (h : MapIs w b ((tabW gp).take k ++ [(tabW gp).getD k (⟨#[]⟩, undef)])) : MapIs w b ((tabW gp).take (k + 1)) := by
  have : (tabW gp).take (k + 1) = (tabW gp).take k ++ [(tabW gp).getD k (⟨#[]⟩, undef)] := by
    rw [List.take_add_one, List.getD, List.getElem?_eq_getElem (by show k < 11; exact hk)]
    rfl
  rw [this]; exact h
/-- The table at gm while it is filled. -/
structure TbF (w : World) (gp gm k : Nat) (wr : World) : Prop where
  b : Below w.heap.size w wr
  m : MapIs wr gm ((tabW gp).take k)
  g : w.heap.size ≤ gm
theorem TbF.put {w wr w1 : World} {gp gm k : Nat} (h : TbF w gp gm k wr) (hk : k < 11) (hm : MapIs w1 gm ((tabW gp).take k ++ [(tabW gp).getD k (⟨#[]⟩, undef)])) (hg : wr.grownBy w1 (some gm)) : TbF w gp gm (k + 1) w1 :=
  ⟨h.b.trans ((Below.refl w.heap.size wr).grown hg h.b.size (fun k e => by cases e; exact h.g)), tab_put hk hm, h.g⟩
set_option maxHeartbeats 4000000 in
set_option maxRecDepth 100000 in
theorem words_p (gp : Nat) (w : World) (hk : Kws w) : Calls Tryz.prog 32 #[.pointer (some ⟨gp, 0, none⟩)] w (fun e w' => ∃ gm, e = .returned (.map (some gm)) ∧ TbF w gp gm 11 w') := by
  have hmm := @run_makeMap Tryz.prog
  have HK := Aside0.mk hk
  have ic0 : ∀ w : World, (Instr.index 112 (.agg #[.string ⟨#[110, 111]⟩, .string ⟨#[110, 99]⟩, .string ⟨#[117, 112]⟩, .string ⟨#[100, 111, 119, 110]⟩]) (.int .i64 0)).run Tryz.prog w = .ok (.string ⟨#[110, 111]⟩) w := fun _ => by kernel_rfl
  have ic1 : ∀ w : World, (Instr.index 112 (.agg #[.string ⟨#[110, 111]⟩, .string ⟨#[110, 99]⟩, .string ⟨#[117, 112]⟩, .string ⟨#[100, 111, 119, 110]⟩]) (.int .i64 1)).run Tryz.prog w = .ok (.string ⟨#[110, 99]⟩) w := fun _ => by kernel_rfl
  have ic2 : ∀ w : World, (Instr.index 112 (.agg #[.string ⟨#[110, 111]⟩, .string ⟨#[110, 99]⟩, .string ⟨#[117, 112]⟩, .string ⟨#[100, 111, 119, 110]⟩]) (.int .i64 2)).run Tryz.prog w = .ok (.string ⟨#[117, 112]⟩) w := fun _ => by kernel_rfl
  have ic3 : ∀ w : World, (Instr.index 112 (.agg #[.string ⟨#[110, 111]⟩, .string ⟨#[110, 99]⟩, .string ⟨#[117, 112]⟩, .string ⟨#[100, 111, 119, 110]⟩]) (.int .i64 3)).run Tryz.prog w = .ok (.string ⟨#[100, 111, 119, 110]⟩) w := fun _ => by kernel_rfl
  have io0 : ∀ w : World, (Instr.index 112 (.agg #[.string ⟨#[111, 117, 116]⟩, .string ⟨#[110, 111, 116]⟩, .string ⟨#[115, 101, 116]⟩, .string ⟨#[114, 101, 115, 101, 116]⟩]) (.int .i64 0)).run Tryz.prog w = .ok (.string ⟨#[111, 117, 116]⟩) w := fun _ => by kernel_rfl
  have io1 : ∀ w : World, (Instr.index 112 (.agg #[.string ⟨#[111, 117, 116]⟩, .string ⟨#[110, 111, 116]⟩, .string ⟨#[115, 101, 116]⟩, .string ⟨#[114, 101, 115, 101, 116]⟩]) (.int .i64 1)).run Tryz.prog w = .ok (.string ⟨#[110, 111, 116]⟩) w := fun _ => by kernel_rfl
  have io2 : ∀ w : World, (Instr.index 112 (.agg #[.string ⟨#[111, 117, 116]⟩, .string ⟨#[110, 111, 116]⟩, .string ⟨#[115, 101, 116]⟩, .string ⟨#[114, 101, 115, 101, 116]⟩]) (.int .i64 2)).run Tryz.prog w = .ok (.string ⟨#[115, 101, 116]⟩) w := fun _ => by kernel_rfl
  have io3 : ∀ w : World, (Instr.index 112 (.agg #[.string ⟨#[111, 117, 116]⟩, .string ⟨#[110, 111, 116]⟩, .string ⟨#[115, 101, 116]⟩, .string ⟨#[114, 101, 115, 101, 116]⟩]) (.int .i64 3)).run Tryz.prog w = .ok (.string ⟨#[114, 101, 115, 101, 116]⟩) w := fun _ => by kernel_rfl
  have F0 := Aside0.mk (TbF.mk (gp := gp) (k := 0) (below_alloc (Below.refl w.heap.size w) (.map #[] 0)) (MapIs.new w) (Nat.le_refl _))
  clear hk
  go_enter Tryz.func32, Tryz.ntmps32
  go_wp2_with (first
    | (refine wpList_put _ rfl _ _ _ 78 (.inr rfl) 9 126 Tryz.underlying9 Tryz.underlying78 w.heap.size _ rfl F0.out.m _ _ rfl rfl (tab_new gp 0 (by omega)) ?_; intro w1 hm hg; have F1 := Aside0.mk (F0.out.put (by omega) hm hg); clear hm hg)
    | (refine wpList_put _ rfl _ _ _ 78 (.inr rfl) 9 126 Tryz.underlying9 Tryz.underlying78 w.heap.size _ rfl F1.out.m _ _ rfl rfl (tab_new gp 1 (by omega)) ?_; intro w2 hm hg; have F2 := Aside0.mk (F1.out.put (by omega) hm hg); clear hm hg)
    | (refine wpList_put _ rfl _ _ _ 78 (.inr rfl) 9 126 Tryz.underlying9 Tryz.underlying78 w.heap.size _ rfl F2.out.m _ _ rfl rfl (tab_new gp 2 (by omega)) ?_; intro w3 hm hg; have F3 := Aside0.mk (F2.out.put (by omega) hm hg); clear hm hg; have c0 : w3.cell? ⟨0, 0, none⟩ = some (.string ⟨#[110, 111]⟩) := (HK.out.below F3.out.b).c 0 (by omega); have c1 : w3.cell? ⟨0, 1, none⟩ = some (.string ⟨#[110, 99]⟩) := (HK.out.below F3.out.b).c 1 (by omega); have c2 : w3.cell? ⟨0, 2, none⟩ = some (.string ⟨#[117, 112]⟩) := (HK.out.below F3.out.b).c 2 (by omega); have c3 : w3.cell? ⟨0, 3, none⟩ = some (.string ⟨#[100, 111, 119, 110]⟩) := (HK.out.below F3.out.b).c 3 (by omega); clear F1 F2))
  go_loopw [20] (fun cv w' => ∃ k : Int, ∃ wr, wr = w' ∧ cv = .int .i64 k ∧ 0 ≤ k ∧ k ≤ 4 ∧ Aside0 (TbF w gp w.heap.size (3 + k.toNat) wr)) (fun cv _ => 4 - (intOf cv).toNat)
  case atStart => exact ⟨0, _, rfl, rfl, by omega, by omega, F3⟩
  case round =>
    obtain ⟨k, wr, rfl, rfl, hk0, hk4, F⟩ := hrel
    have hcs : k = 0 ∨ k = 1 ∨ k = 2 ∨ k = 3 ∨ k = 4 := by omega
    clear hk0 hk4
    rcases hcs with rfl | rfl | rfl | rfl | rfl
    · go_wp2_with (refine wpList_put _ rfl _ _ _ 78 (.inl rfl) 9 126 Tryz.underlying9 Tryz.underlying78 w.heap.size _ rfl F.out.m _ _ rfl rfl (tab_new gp 3 (by omega)) ?_; intro wq hm hg; have G := Aside0.mk (F.out.put (by omega) hm hg); clear hm hg)
      go_roundw
      case rel => exact ⟨1, _, rfl, by rfl, by omega, by omega, G⟩
      case measure => simp [intOf]; try decide
    · go_wp2_with (refine wpList_put _ rfl _ _ _ 78 (.inl rfl) 9 126 Tryz.underlying9 Tryz.underlying78 w.heap.size _ rfl F.out.m _ _ rfl rfl (tab_new gp 4 (by omega)) ?_; intro wq hm hg; have G := Aside0.mk (F.out.put (by omega) hm hg); clear hm hg)
      go_roundw
      case rel => exact ⟨2, _, rfl, by rfl, by omega, by omega, G⟩
      case measure => simp [intOf]; try decide
    · go_wp2_with (refine wpList_put _ rfl _ _ _ 78 (.inl rfl) 9 126 Tryz.underlying9 Tryz.underlying78 w.heap.size _ rfl F.out.m _ _ rfl rfl (tab_new gp 5 (by omega)) ?_; intro wq hm hg; have G := Aside0.mk (F.out.put (by omega) hm hg); clear hm hg)
      go_roundw
      case rel => exact ⟨3, _, rfl, by rfl, by omega, by omega, G⟩
      case measure => simp [intOf]; try decide
    · go_wp2_with (refine wpList_put _ rfl _ _ _ 78 (.inl rfl) 9 126 Tryz.underlying9 Tryz.underlying78 w.heap.size _ rfl F.out.m _ _ rfl rfl (tab_new gp 6 (by omega)) ?_; intro wq hm hg; have G := Aside0.mk (F.out.put (by omega) hm hg); clear hm hg)
      go_roundw
      case rel => exact ⟨4, _, rfl, by rfl, by omega, by omega, G⟩
      case measure => simp [intOf]; try decide
    · skip
      clear c0 c1 c2 c3
      have c0 : wr.cell? ⟨1, 0, none⟩ = some (.string ⟨#[111, 117, 116]⟩) := (HK.out.below F.out.b).o 0 (by omega)
      have c1 : wr.cell? ⟨1, 1, none⟩ = some (.string ⟨#[110, 111, 116]⟩) := (HK.out.below F.out.b).o 1 (by omega)
      have c2 : wr.cell? ⟨1, 2, none⟩ = some (.string ⟨#[115, 101, 116]⟩) := (HK.out.below F.out.b).o 2 (by omega)
      have c3 : wr.cell? ⟨1, 3, none⟩ = some (.string ⟨#[114, 101, 115, 101, 116]⟩) := (HK.out.below F.out.b).o 3 (by omega)
      clear F0 F3
      go_wp2
      go_loopw [30] (fun cv w' => ∃ k : Int, ∃ wr, wr = w' ∧ cv = .int .i64 k ∧ 0 ≤ k ∧ k ≤ 4 ∧ Aside0 (TbF w gp w.heap.size (7 + k.toNat) wr)) (fun cv _ => 4 - (intOf cv).toNat)
      case atStart => exact ⟨0, _, rfl, rfl, by omega, by omega, F⟩
      case round =>
        clear c0 c1 c2 c3 F
        obtain ⟨k, wr, rfl, rfl, hk0, hk4, F⟩ := hrel
        have hcs : k = 0 ∨ k = 1 ∨ k = 2 ∨ k = 3 ∨ k = 4 := by omega
        clear hk0 hk4
        rcases hcs with rfl | rfl | rfl | rfl | rfl
        · go_wp2_with (refine wpList_put _ rfl _ _ _ 78 (.inl rfl) 9 126 Tryz.underlying9 Tryz.underlying78 w.heap.size _ rfl F.out.m _ _ rfl rfl (tab_new gp 7 (by omega)) ?_; intro wq hm hg; have G := Aside0.mk (F.out.put (by omega) hm hg); clear hm hg)
          go_roundw
          case rel => exact ⟨1, _, rfl, by rfl, by omega, by omega, G⟩
          case measure => simp [intOf]; try decide
        · go_wp2_with (refine wpList_put _ rfl _ _ _ 78 (.inl rfl) 9 126 Tryz.underlying9 Tryz.underlying78 w.heap.size _ rfl F.out.m _ _ rfl rfl (tab_new gp 8 (by omega)) ?_; intro wq hm hg; have G := Aside0.mk (F.out.put (by omega) hm hg); clear hm hg)
          go_roundw
          case rel => exact ⟨2, _, rfl, by rfl, by omega, by omega, G⟩
          case measure => simp [intOf]; try decide
        · go_wp2_with (refine wpList_put _ rfl _ _ _ 78 (.inl rfl) 9 126 Tryz.underlying9 Tryz.underlying78 w.heap.size _ rfl F.out.m _ _ rfl rfl (tab_new gp 9 (by omega)) ?_; intro wq hm hg; have G := Aside0.mk (F.out.put (by omega) hm hg); clear hm hg)
          go_roundw
          case rel => exact ⟨3, _, rfl, by rfl, by omega, by omega, G⟩
          case measure => simp [intOf]; try decide
        · go_wp2_with (refine wpList_put _ rfl _ _ _ 78 (.inl rfl) 9 126 Tryz.underlying9 Tryz.underlying78 w.heap.size _ rfl F.out.m _ _ rfl rfl (tab_new gp 10 (by omega)) ?_; intro wq hm hg; have G := Aside0.mk (F.out.put (by omega) hm hg); clear hm hg)
          go_roundw
          case rel => exact ⟨4, _, rfl, by rfl, by omega, by omega, G⟩
          case measure => simp [intOf]; try decide
        · go_wp2
          go_ret
          exact ⟨_, rfl, F.out⟩
end Go.Proofs.YtolmkdhgnganaaaGreatDoor.H
