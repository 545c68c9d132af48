/-
  What the claim's row leans on, part 4: The reference's parser: its coil line. The reference's parser: its contact line. The reference's parser: a rung, a line's number, a jump's put behind its rows, in memory. The reference's parser: its rung line. The reference's parser: what it finds of a line's first word. The reference's parser: a line. Texts, line by line: the lines of a text as lists of bytes, what of them lies ahead of a comment, and what Parse answers told over them. The reference's lines and words, in plain words: where a line is cut, where a word ends. The reference's Cut and words: the walks. The reference's Lines: the walk. busbarref10.Parse.
-/
import Derived.Test.YtolmkdhgnganaaaGreatDoorMgPMc
set_option linter.unusedVariables false
set_option linter.unusedSimpArgs false
namespace Go.Proofs.YtolmkdhgnganaaaGreatDoor.H
open Go Go.RowKit Go.Proofs Go.Proofs.YtolmkdhgnganaaaGreatDoorW.PrintWords Go.Proofs.YtolmkdhgnganaaaGreatDoorW.PrintLast Go.Proofs.YtolmkdhgnganaaaGreatDoorW.PrintMore Go.Proofs.YtolmkdhgnganaaaGreatDoor.Sp
set_option maxHeartbeats 4000000 in
set_option maxRecDepth 100000 in
theorem coil9_p {B gp g cap : Nat} {S : PSt} {vl vj : Value} {w : World} (h : PG B gp S (.slice (some ⟨g, 0, none⟩) S.rungs.length cap) vl vj w) (ix : Int) (b wc : Nat) (ws : List ByteArray) (hw : Kd.string.R 9 w B (fun _ => True) (.slice (some ⟨b, 0, none⟩) 2 wc) ws)
    (hix : ix = kwIx kwO (ws.getD 0 ⟨#[]⟩)) (hsz : ∀ j, (ws.getD j ⟨#[]⟩).size ≤ 65536) (hin : 0 < S.rungs.length) (hmx : ∀ r ∈ S.rungs, r.f2.length ≤ 16) :
    Calls Tryz.prog 80 #[.pointer (some ⟨gp, 0, none⟩), .pointer (some ⟨g, (S.rungs.length - 1) * 4, none⟩), .int .i64 ix, .slice (some ⟨b, 0, none⟩) 2 wc] w (ParQ B gp w (coilS S ws)) := by
  have hn64 := h.n64
  obtain ⟨k, hk⟩ : ∃ k, k = S.rungs.length - 1 := ⟨_, rfl⟩
  rw [← hk]
  generalize hr : coilS S ws = r
  have HR := Aside0.mk hr
  clear hr
  have hk1 : k < S.rungs.length := by omega
  have hmem : rdR S.rungs (k : Int) ∈ S.rungs := by
    have : rdR S.rungs (k : Int) = S.rungs[k] := by simp [PPrinterRoundTrip.rd_T53, List.getD, hk1]
    rw [this]; exact List.getElem_mem hk1
  have hm16 := hmx _ hmem
  generalize hw1 : ws.getD 1 ⟨#[]⟩ = x
  generalize hw0 : ws.getD 0 ⟨#[]⟩ = x0 at hix
  have hx : x.size ≤ 140737488355328 := by have := hsz 1; rw [hw1] at this; omega
  have H := Aside0.mk h
  have HK := Aside0.mk hk
  have HW := Aside0.mk hw
  have HIX := Aside0.mk hix
  clear h hw hk hmx hmem hsz hix
  obtain ⟨v2, x2, ⟨A2, c2, e2⟩, -, -⟩ := coil_open H.out.r k hk1
  obtain ⟨_, _, -, -, -, x3, -, -, -⟩ := S_cells4 H.out.r k hk1
  subst e2
  have HL : Aside0 (lastR S = rdR S.rungs (k : Int)) := ⟨by rw [lastR, ← HK.out]⟩
  have z1 : w.cell? ⟨b, 1, none⟩ = some (.string x) := hw1 ▸ words_cell HW.out 1 (by omega)
  have hB : B ≤ w.heap.size := H.out.sz
  cases hj : (rdR S.rungs (k : Int)).f3.toList.isEmpty with
  | false =>
    obtain rfl : r = (S, 17) := by rw [← HR.out, coilS, HL.out, if_pos hj]
    have hj2 : ¬ (rdR S.rungs (k : Int)).f3.toList = [] := fun e => by rw [e] at hj; cases hj
    generalize (rdR S.rungs (k : Int)).f3 = f3 at x3 hj hj2
    go_enter Tryz.func80, Tryz.ntmps80
    go_wp2
    go_ret
    exact ⟨rfl, KQ.of_below H.out.sz (Below.refl _ _), fun e => by cases e⟩
  | true =>
    have hj2 : (rdR S.rungs (k : Int)).f3.toList = [] := by simpa using hj
    have HJ := Aside0.mk hj
    have x3' : w.cell? ⟨g, k * 4 + 3, none⟩ = some (.string ⟨#[]⟩) := by
      rw [x3]
      congr 2
      exact bytes_ext (by rw [toList_data] at hj2; rw [hj2])
    clear x3 hj hj2
    by_cases h16 : ((rdR S.rungs (k : Int)).f2.length : Int) = 16
    · obtain rfl : r = (S, 10) := by rw [← HR.out, coilS, HL.out, if_neg (by rw [HJ.out]; simp), if_pos (by omega)]
      have h16' : decide ((16 : Int) ≤ ((rdR S.rungs (k : Int)).f2.length : Int)) = true := decide_eq_true (by omega)
      go_enter Tryz.func80, Tryz.ntmps80
      go_wp2
      go_ret
      exact ⟨rfl, KQ.of_below H.out.sz (Below.refl _ _), fun e => by cases e⟩
    · have h16' : decide ((16 : Int) ≤ ((rdR S.rungs (k : Int)).f2.length : Int)) = false := decide_eq_false (by omega)
      have H16 := Aside0.mk (show ¬ (rdR S.rungs (k : Int)).f2.length = 16 by omega)
      have HAd := Aside0.mk (address9_p gp S.i S.q S.m x w hx H.out.cells.1 H.out.cells.2.1 H.out.cells.2.2.1)
      generalize hae : adrE S.i S.q S.m x.data.toList = ae at HAd
      generalize hsp : (addrParse x.data.toList).1 = sp at HAd
      generalize han : (addrParse x.data.toList).2.1 = an at HAd
      have HAE := Aside0.mk hae
      have HSP := Aside0.mk hsp
      have HAN := Aside0.mk han
      clear hae hsp han
      go_enter Tryz.func80, Tryz.ntmps80
      go_wp2_with fail
      refine HAd.out.mono ?_
      rintro e w2 ⟨rfl, hb⟩
      unfold prsV
      have HB2 := Aside0.mk hb
      have H2 := Aside0.mk (H.out.below hb)
      clear hb x2 x3' z1 h16'
      by_cases hae0 : ae = 0
      · by_cases hsp0 : sp = 0
        · obtain rfl : r = (S, 2) := by
            rw [← HR.out, coilS, HL.out, if_neg (by rw [HJ.out]; simp), if_neg H16.out, hw1, HAE.out, if_neg (by simpa using hae0), HSP.out, if_pos hsp0]
          go_wp2
          go_ret
          exact ⟨rfl, KQ.of_below H.out.sz (below_alloc HB2.out _), fun e => by cases e⟩
        · have HO : Aside0 (r = (⟨S.i, S.q, S.m, S.sized, S.rungs.set k ⟨(rdR S.rungs k).f0, (rdR S.rungs k).f1, (rdR S.rungs k).f2 ++ [⟨ix, ⟨sp, an⟩⟩], (rdR S.rungs k).f3⟩, S.lines, S.jumps⟩, 0)) := ⟨by
            rw [← HR.out, coilS, HL.out, if_neg (by rw [HJ.out]; simp), if_neg H16.out, hw1, hw0, HAE.out, if_neg (by simpa using hae0), HSP.out, HAN.out, if_neg hsp0, ← HK.out, HIX.out]⟩
          subst hae0
          have hbA : Below w2.heap.size w2 ((w2.alloc (.cells #[.int .i64 sp, .int .i64 an] 57)).drew) := below_drew (below_alloc (Below.refl _ _) _)
          have HB4 := Aside0.mk (below_step HB2.out hbA)
          have H4 := Aside0.mk (H2.out.below hbA)
          have KA := Aside0.mk (blk_drew (blk_new w2 (.cells #[.int .i64 sp, .int .i64 an] 57)))
          clear hbA H2
          go_wp2_with fail
          generalize w2.heap.size = ga at KA ⊢
          generalize w2.alloc (.cells #[.int .i64 sp, .int .i64 an] 57) = w4 at HB4 H4 KA ⊢
          obtain ⟨v2, u0, ⟨A2, c2, e2⟩, hR2, hcl⟩ := coil_open H4.out.r k hk1
          subst e2
          have HR2 := Aside0.mk hR2
          have HCl : Aside0 (∀ (c : Coil) {w1 : World} {v1 : Value}, kCoil.R 69 w1 B (fun _ => True) v1 ((rdR S.rungs (k : Int)).f2 ++ [c]) → w4.drew.grownBy w1 (Value.slice A2 (rdR S.rungs (k : Int)).f2.length c2).ownBlock → (v1.ownBlock = (Value.slice A2 (rdR S.rungs (k : Int)).f2.length c2).ownBlock ∨ ∃ b, v1.ownBlock = some b ∧ w4.drew.heap.size ≤ b) →
            Kd.S kRung 53 (w1.setCell ⟨g, k * 4 + 2, none⟩ v1) B (fun _ => True) (.slice (some ⟨g, 0, none⟩) S.rungs.length cap) (S.rungs.set k ⟨(rdR S.rungs k).f0, (rdR S.rungs k).f1, (rdR S.rungs k).f2 ++ [c], (rdR S.rungs k).f3⟩)) := ⟨fun c {w1} {v1} => hcl (w1 := w1) (v1 := v1) c⟩
          obtain ⟨cg, htg4⟩ := Kd.S_typed H4.out.r g rfl
          have HTg := Aside0.mk htg4
          clear htg4
          have HSz := Aside0.mk H4.out.sz
          clear hR2 hcl
          have u1 : w4.drew.cell? ⟨ga, 0, none⟩ = some (.int .i64 sp) := blk_cell KA.out 0
          have u2 : w4.drew.cell? ⟨ga, 1, none⟩ = some (.int .i64 an) := blk_cell KA.out 1
          have HF := Aside0.mk (show ((rdR S.rungs (k : Int)).f2.length + 1) * 24 ≤ 140737488355328 by omega)
          generalize hxs : (rdR S.rungs (k : Int)).f2 = xs at *
          have hl24 := HF.out
          refine start_ (n := 13) (S := fun w' => w'.cell? ⟨g, k * 4 + 2, none⟩ = some (.slice A2 xs.length c2) ∧ w'.cell? ⟨ga, 0, none⟩ = some (.int .i64 sp) ∧ w'.cell? ⟨ga, 1, none⟩ = some (.int .i64 an)) (ds := [9, 12]) #[false, false, false, false, false, false, false, false, false, false, false, false, false] (by kernel_rfl) rfl rfl ⟨u0, u1, u2⟩ (fun hHeld => ?_)
          refine pure_ (i := 0) (N := some 36) (v := ?_) (a' := ?_) #[true, false, false, false, false, false, false, false, false, false, false, false, false] rfl rfl (by kernel_rfl) (fun _ _ _ h => h) (Or.inl ⟨by rfl, ?_⟩) ?_ ?_
          rotate_left
          · intro w'
            go_simp
            with_reducible rfl
          rotate_left
          · simp only [Act.put, List.setIfInBounds_toArray, List.set_cons_zero, List.set_cons_succ, i64_w, i32_w]
            rfl
          refine pure_ (i := 1) (N := some 37) (v := ?_) (a' := ?_) #[true, true, false, false, false, false, false, false, false, false, false, false, false] rfl rfl (by kernel_rfl) (fun _ _ _ h => h) (Or.inl ⟨by rfl, ?_⟩) ?_ ?_
          rotate_left
          · intro w'
            go_simp
            with_reducible rfl
          rotate_left
          · simp only [Act.put, List.setIfInBounds_toArray, List.set_cons_zero, List.set_cons_succ, i64_w, i32_w]
            rfl
          refine pure_ (i := 2) (N := some 38) (v := ?_) (a' := ?_) #[true, true, true, false, false, false, false, false, false, false, false, false, false] rfl rfl (by kernel_rfl) (fun _ _ _ h => h) (Or.inl ⟨by rfl, ?_⟩) ?_ ?_
          rotate_left
          · intro w'
            go_simp
            with_reducible rfl
          rotate_left
          · simp only [Act.put, List.setIfInBounds_toArray, List.set_cons_zero, List.set_cons_succ, i64_w, i32_w]
            rfl
          refine pure_ (i := 3) (N := some 39) (v := ?_) (a' := ?_) #[true, true, true, true, false, false, false, false, false, false, false, false, false] rfl rfl (by kernel_rfl) (fun _ _ _ h => h) (Or.inl ⟨by rfl, ?_⟩) ?_ ?_
          rotate_left
          · intro w'
            go_simp
            with_reducible rfl
          rotate_left
          · simp only [Act.put, List.setIfInBounds_toArray, List.set_cons_zero, List.set_cons_succ, i64_w, i32_w]
            rfl
          refine pure_ (i := 5) (N := some 41) (v := ?_) (a' := ?_) #[true, true, true, true, false, true, false, false, false, false, false, false, false] rfl rfl (by kernel_rfl) (fun _ _ _ h => h) (Or.inl ⟨by rfl, ?_⟩) ?_ ?_
          rotate_left
          · intro w'
            go_simp
            with_reducible rfl
          rotate_left
          · simp only [Act.put, List.setIfInBounds_toArray, List.set_cons_zero, List.set_cons_succ, i64_w, i32_w]
            rfl
          refine take_ (i := 4) (N := some 40) (v := ?_) (a' := ?_) #[true, true, true, true, true, true, false, false, false, false, false, false, false] rfl rfl (by kernel_rfl) (fun _ _ _ h => h) (Or.inl ⟨by rfl, ?_⟩) hHeld ?_ ?_
          rotate_left
          · rintro w' ⟨s0, s1, s2⟩
            go_simp
            with_reducible rfl
          rotate_left
          · simp only [Act.put, List.setIfInBounds_toArray, List.set_cons_zero, List.set_cons_succ, i64_w, i32_w]
            rfl
          refine take_ (i := 6) (N := some 42) (v := ?_) (a' := ?_) #[true, true, true, true, true, true, true, false, false, false, false, false, false] rfl rfl (by kernel_rfl) (fun _ _ _ h => h) (Or.inl ⟨by rfl, ?_⟩) hHeld ?_ ?_
          rotate_left
          · rintro w' ⟨s0, s1, s2⟩
            go_simp
            with_reducible rfl
          rotate_left
          · simp only [Act.put, List.setIfInBounds_toArray, List.set_cons_zero, List.set_cons_succ, i64_w, i32_w]
            rfl
          refine pure_ (i := 7) (N := some 43) (v := ?_) (a' := ?_) #[true, true, true, true, true, true, true, true, false, false, false, false, false] rfl rfl (by kernel_rfl) (fun _ _ _ h => h) (Or.inl ⟨by rfl, ?_⟩) ?_ ?_
          rotate_left
          · intro w'
            go_simp
            with_reducible rfl
          rotate_left
          · simp only [Act.put, List.setIfInBounds_toArray, List.set_cons_zero, List.set_cons_succ, i64_w, i32_w]
            rfl
          refine one_ (i := 8) (N := some 44) #[true, true, true, true, true, true, true, true, true, false, false, false, false] rfl rfl (by kernel_rfl) (by decide) (fun K hK => ?_)
          refine value_ (w1 := ?_) (v := ?_) (by rfl) rfl ?_ ?_
          rotate_left 2
          · go_simp
            constructor
            · rfl
            · rfl
          refine hK.out _ _ ⟨(pw_cell_below (below_alloc (Below.refl _ _) _) u0), (pw_cell_below (below_alloc (Below.refl _ _) _) u1), (pw_cell_below (below_alloc (Below.refl _ _) _) u2)⟩ (fun hHeld => ?_)
          clear hK K
          refine norm_ (a' := ?_) ?_ ?_
          rotate_left
          · show Act.put _ (some 44) _ = _
            simp only [Act.put, List.setIfInBounds_toArray, List.set_cons_zero, List.set_cons_succ, i64_w, i32_w]
            rfl
          refine last_ (i := 9) (N := some 45) #[true, true, true, true, true, true, true, true, true, true, false, false, false] rfl rfl (by kernel_rfl) (by decide) (fun K hK => ?_)
          refine Kd.R_append_step kCoil (w0 := w4.drew) (W := w4.drew) B (by rfl) (.tmp 40) (.tmp 44) 51 69 (.agg #[.int .i64 0, .int .i64 0, .int .i64 0]) 24 rfl Tryz.underlying51 PPrinterRoundTrip.info69 rfl (Nat.zero_lt_succ 2) (by omega) (.slice A2 xs.length c2) xs ⟨ix, ⟨sp, an⟩⟩ [.int .i64 ix, .int .i64 sp, .int .i64 an] (fun _ => True) (fun _ => False) rfl rfl (PPrinterRoundTrip.k69_mkM (w4.drew) B _ ⟨ix, ⟨sp, an⟩⟩) (fun _ h => h.elim) (fun _ _ => trivial) HR2.out (Below.refl _ _) HSz.out (by omega) ?_
          intro v1 w5 hr _ hgr hat
          obtain ⟨A3, d3, e3, -, -⟩ := Kd.R_reads hr
          obtain rfl : v1 = .slice A3 (xs.length + 1) d3 := by rw [e3, List.length_append, List.length_singleton]
          clear e3
          have HC := Aside0.mk (HCl.out ⟨ix, ⟨sp, an⟩⟩ hr hgr hat)
          have HGr := Aside0.mk hgr
          have htg5 := (hgr.block g (blk_lt HTg.out) (fun e => by obtain ⟨cells, hc⟩ := Kd.R_typed HR2.out g e.symm; have h2 := HTg.out; rw [hc] at h2; cases h2)).trans HTg.out
          have t5 := (World.cell?_of_block (a := ⟨g, k * 4 + 2, none⟩) (htg5.trans HTg.out.symm)).trans u0
          have f5 := blk_frozen htg5 (k * 4 + 2)
          clear hr hgr hat htg5
          refine hK.out _ _ ?_
          clear hK K
          refine norm_ (a' := ?_) ?_ ?_
          rotate_left
          · show Act.put _ (some 45) _ = _
            simp only [Act.put, List.setIfInBounds_toArray, List.set_cons_zero, List.set_cons_succ, i64_w, i32_w]
            rfl
          refine pure_ (i := 10) (N := some 46) (v := ?_) (a' := ?_) #[true, true, true, true, true, true, true, true, true, true, true, false, false] rfl rfl (by kernel_rfl) (fun _ _ _ h => h) (Or.inl ⟨by rfl, ?_⟩) ?_ ?_
          rotate_left
          · intro w'
            go_simp
            with_reducible rfl
          rotate_left
          · simp only [Act.put, List.setIfInBounds_toArray, List.set_cons_zero, List.set_cons_succ, i64_w, i32_w]
            rfl
          refine pure_ (i := 11) (N := some 47) (v := ?_) (a' := ?_) #[true, true, true, true, true, true, true, true, true, true, true, true, false] rfl rfl (by kernel_rfl) (fun _ _ _ h => h) (Or.inl ⟨by rfl, ?_⟩) ?_ ?_
          rotate_left
          · intro w'
            go_simp
            with_reducible rfl
          rotate_left
          · simp only [Act.put, List.setIfInBounds_toArray, List.set_cons_zero, List.set_cons_succ, i64_w, i32_w]
            rfl
          refine last_ (i := 12) (N := none) #[true, true, true, true, true, true, true, true, true, true, true, true, true] rfl rfl (by kernel_rfl) (by decide) (fun K hK => ?_)
          refine skip_ (w1 := ?_) (by rfl) rfl ?_ ?_
          rotate_left
          · go_simp
            rfl
          refine hK.out _ _ ?_
          clear hK K
          refine done_ (by kernel_rfl) ?_
          have HPF := Aside0.mk (H4.out.row (t := 69) (fun i e => ⟨Kd.R_base HR2.out i e, Kd.R_typed HR2.out i e⟩) (by rfl) (by decide) (by decide) (by decide) HGr.out HC.out (by rw [List.length_set]))
          clear u0 u1 u2 t5 f5
          go_wp2
          go_ret
          rw [HO.out]
          exact ⟨rfl, (KQ.of_below H.out.sz HB4.out).trans HPF.out.2, fun _ => ⟨_, _, _, HPF.out.1⟩⟩
      · obtain rfl : r = (S, ae) := by
          rw [← HR.out, coilS, HL.out, if_neg (by rw [HJ.out]; simp), if_neg H16.out, hw1, HAE.out, if_pos (by simpa using hae0)]
        go_wp2
        go_ret
        exact ⟨rfl, KQ.of_below H.out.sz (below_alloc HB2.out _), fun e => absurd e hae0⟩
end Go.Proofs.YtolmkdhgnganaaaGreatDoor.H
namespace Go.Proofs.YtolmkdhgnganaaaGreatDoor.H
open Go Go.RowKit Go.Proofs Go.Proofs.YtolmkdhgnganaaaGreatDoorW.PrintWords Go.Proofs.YtolmkdhgnganaaaGreatDoorW.PrintLast Go.Proofs.YtolmkdhgnganaaaGreatDoorW.PrintMore Go.Proofs.YtolmkdhgnganaaaGreatDoor.Sp
set_option maxHeartbeats 4000000 in
set_option maxRecDepth 100000 in
theorem con9_p {B gp g cap : Nat} {S : PSt} {vl vj : Value} {w : World} (h : PG B gp S (.slice (some ⟨g, 0, none⟩) S.rungs.length cap) vl vj w) (ix : Int) (b wc : Nat) (ws : List ByteArray) (hw : Kd.string.R 9 w B (fun _ => True) (.slice (some ⟨b, 0, none⟩) 4 wc) ws)
    (hix : ix = kwIx kwC (ws.getD 0 ⟨#[]⟩)) (hsz : ∀ j, (ws.getD j ⟨#[]⟩).size ≤ 65536) (hin : 0 < S.rungs.length) (hmx : ∀ r ∈ S.rungs, r.f1.length ≤ 256) :
    Calls Tryz.prog 79 #[.pointer (some ⟨gp, 0, none⟩), .pointer (some ⟨g, (S.rungs.length - 1) * 4, none⟩), .int .i64 ix, .slice (some ⟨b, 0, none⟩) 4 wc] w (ParQ B gp w (conS S ws)) := by
  have hn64 := h.n64
  obtain ⟨k, hk⟩ : ∃ k, k = S.rungs.length - 1 := ⟨_, rfl⟩
  rw [← hk]
  generalize hr : conS S ws = r
  have HR := Aside0.mk hr
  clear hr
  have hk1 : k < S.rungs.length := by omega
  have hmem : rdR S.rungs (k : Int) ∈ S.rungs := by
    have : rdR S.rungs (k : Int) = S.rungs[k] := by simp [PPrinterRoundTrip.rd_T53, List.getD, hk1]
    rw [this]; exact List.getElem_mem hk1
  have hm256 := hmx _ hmem
  generalize hw1 : ws.getD 1 ⟨#[]⟩ = x
  generalize hw0 : ws.getD 0 ⟨#[]⟩ = x0 at hix
  generalize hw2 : ws.getD 2 ⟨#[]⟩ = x2
  generalize hw3 : ws.getD 3 ⟨#[]⟩ = x3
  have hx : x.size ≤ 140737488355328 := by have := hsz 1; rw [hw1] at this; omega
  have H := Aside0.mk h
  have HK := Aside0.mk hk
  have HW := Aside0.mk hw
  have HIX := Aside0.mk hix
  clear h hw hk hmx hmem hsz hix
  obtain ⟨v1, vv1, ⟨A1, c1, e1⟩, -, -⟩ := con_open H.out.r k hk1
  obtain ⟨v2, vv2, ⟨A2, c2, e2⟩, -, -⟩ := coil_open H.out.r k hk1
  obtain ⟨_, _, -, -, -, vv3, -, -, -⟩ := S_cells4 H.out.r k hk1
  subst e1
  subst e2
  have HL : Aside0 (lastR S = rdR S.rungs (k : Int)) := ⟨by rw [lastR, ← HK.out]⟩
  have z1 : w.cell? ⟨b, 1, none⟩ = some (.string x) := hw1 ▸ words_cell HW.out 1 (by omega)
  have hB : B ≤ w.heap.size := H.out.sz
  by_cases hc0 : 0 < (rdR S.rungs (k : Int)).f2.length
  · obtain rfl : r = (S, 17) := by rw [← HR.out, conS, HL.out, if_pos (.inl hc0)]
    have hc1 : decide (0 < (rdR S.rungs (k : Int)).f2.length) = true := by simpa using hc0
    have hc2 : decide ((0 : Int) < ((rdR S.rungs (k : Int)).f2.length : Int)) = true := decide_eq_true (by omega)
    go_enter Tryz.func79, Tryz.ntmps79
    go_wp2
    go_ret
    exact ⟨rfl, KQ.of_below H.out.sz (Below.refl _ _), fun e => by cases e⟩
  have HC0 := Aside0.mk hc0
  have hc1 : decide (0 < (rdR S.rungs (k : Int)).f2.length) = false := by simpa using hc0
  have hc2 : decide ((0 : Int) < ((rdR S.rungs (k : Int)).f2.length : Int)) = false := decide_eq_false (by omega)
  clear hc0
  cases hj : (rdR S.rungs (k : Int)).f3.toList.isEmpty with
  | false =>
    obtain rfl : r = (S, 17) := by rw [← HR.out, conS, HL.out, if_pos (.inr hj)]
    have hj2 : ¬ (rdR S.rungs (k : Int)).f3.toList = [] := fun e => by rw [e] at hj; cases hj
    generalize (rdR S.rungs (k : Int)).f3 = f3 at vv3 hj hj2
    go_enter Tryz.func79, Tryz.ntmps79
    go_wp2
    go_ret
    exact ⟨rfl, KQ.of_below H.out.sz (Below.refl _ _), fun e => by cases e⟩
  | true =>
    have hj2 : (rdR S.rungs (k : Int)).f3.toList = [] := by simpa using hj
    have HJ : Aside0 (¬ (0 < (rdR S.rungs (k : Int)).f2.length ∨ (rdR S.rungs (k : Int)).f3.toList.isEmpty = false)) := ⟨fun e => e.elim HC0.out (fun e => by rw [hj] at e; cases e)⟩
    have vv3' : w.cell? ⟨g, k * 4 + 3, none⟩ = some (.string ⟨#[]⟩) := by
      rw [vv3]
      congr 2
      exact bytes_ext (by rw [toList_data] at hj2; rw [hj2])
    clear vv3 hj hj2
    by_cases h16 : ((rdR S.rungs (k : Int)).f1.length : Int) = 256
    · obtain rfl : r = (S, 10) := by rw [← HR.out, conS, HL.out, if_neg HJ.out, if_pos (by omega)]
      have h16' : decide ((256 : Int) ≤ ((rdR S.rungs (k : Int)).f1.length : Int)) = true := decide_eq_true (by omega)
      go_enter Tryz.func79, Tryz.ntmps79
      go_wp2
      go_ret
      exact ⟨rfl, KQ.of_below H.out.sz (Below.refl _ _), fun e => by cases e⟩
    · have h16' : decide ((256 : Int) ≤ ((rdR S.rungs (k : Int)).f1.length : Int)) = false := decide_eq_false (by omega)
      have H16 := Aside0.mk (show ¬ (rdR S.rungs (k : Int)).f1.length = 256 by omega)
      have HAd := Aside0.mk (address9_p gp S.i S.q S.m x w hx H.out.cells.1 H.out.cells.2.1 H.out.cells.2.2.1)
      generalize hae : adrE S.i S.q S.m x.data.toList = ae at HAd
      generalize hsp : (addrParse x.data.toList).1 = sp at HAd
      generalize han : (addrParse x.data.toList).2.1 = an at HAd
      have HAE := Aside0.mk hae
      have HSP := Aside0.mk hsp
      have HAN := Aside0.mk han
      clear hae hsp han
      go_enter Tryz.func79, Tryz.ntmps79
      go_wp2_with fail
      refine HAd.out.mono ?_
      rintro e w2 ⟨rfl, hb⟩
      unfold prsV
      have HB2 := Aside0.mk hb
      have H2 := Aside0.mk (H.out.below hb)
      have HW2 := Aside0.mk (Kd.R_below HW.out hb)
      clear hb vv1 vv2 vv3' z1 h16'
      by_cases hae0 : ae = 0
      · subst hae0
        have HI2 := Aside0.mk (fun W => isName9_b x2 W)
        have HI3 := Aside0.mk (fun W => isName9_b x3 W)
        have hbA : Below w2.heap.size w2 (w2.alloc (.cells #[.int .i64 sp, .int .i64 an] 57)) := below_alloc (Below.refl _ _) _
        have HB3 := Aside0.mk (below_step HB2.out hbA)
        have H3 := Aside0.mk (H2.out.below hbA)
        have HW3 := Aside0.mk (Kd.R_below HW2.out hbA)
        have KA3 := Aside0.mk (blk_new w2 (.cells #[.int .i64 sp, .int .i64 an] 57))
        have z2 : (w2.alloc (.cells #[.int .i64 sp, .int .i64 an] 57)).cell? ⟨b, 2, none⟩ = some (.string x2) := hw2 ▸ words_cell HW3.out 2 (by omega)
        clear hbA H2
        cases hn2 : isNm x2.data.toList with
        | false =>
          obtain rfl : r = (S, 6) := by
            rw [← HR.out, conS, HL.out, if_neg HJ.out, if_neg H16.out, hw1, HAE.out, if_neg (by simp), hw2, if_pos (.inl hn2)]
          rw [hn2] at HI2
          go_wp2_with fail
          refine (HI2.out _).mono ?_
          rintro e w5 ⟨rfl, hb⟩
          go_wp2
          go_ret
          exact ⟨rfl, KQ.of_below H.out.sz (below_step HB3.out hb), fun e => by cases e⟩
        | true =>
          rw [hn2] at HI2
          go_wp2_with fail
          refine (HI2.out _).mono ?_
          rintro e w5 ⟨rfl, hb⟩
          generalize hga : w2.heap.size = ga at KA3 ⊢
          have HB5 := Aside0.mk (below_step HB3.out hb)
          have H5 := Aside0.mk (H3.out.below hb)
          have HW5 := Aside0.mk (Kd.R_below HW3.out hb)
          have KA5 := Aside0.mk (blk_below KA3.out hb)
          clear hb H3 HW3 KA3 HB3 z2 hga
          have z3 : w5.cell? ⟨b, 3, none⟩ = some (.string x3) := hw3 ▸ words_cell HW5.out 3 (by omega)
          cases hn3 : isNm x3.data.toList with
          | false =>
            obtain rfl : r = (S, 6) := by
              rw [← HR.out, conS, HL.out, if_neg HJ.out, if_neg H16.out, hw1, HAE.out, if_neg (by simp), hw3, if_pos (.inr hn3)]
            rw [hn3] at HI3
            go_wp2_with fail
            refine (HI3.out _).mono ?_
            rintro e w6 ⟨rfl, hb⟩
            go_wp2
            go_ret
            exact ⟨rfl, KQ.of_below H.out.sz (below_step HB5.out hb), fun e => by cases e⟩
          | true =>
          rw [hn3] at HI3
          go_wp2_with fail
          refine (HI3.out _).mono ?_
          rintro e w4 ⟨rfl, hb0⟩
          have hb : Below w5.heap.size w5 w4.drew := below_drew hb0
          have HO : Aside0 (r = (⟨S.i, S.q, S.m, S.sized, S.rungs.set k ⟨(rdR S.rungs k).f0, (rdR S.rungs k).f1 ++ [⟨ix, ⟨sp, an⟩, x2, x3⟩], (rdR S.rungs k).f2, (rdR S.rungs k).f3⟩, S.lines, S.jumps⟩, 0)) := ⟨by
            rw [← HR.out, conS, HL.out, if_neg HJ.out, if_neg H16.out, hw1, hw0, hw2, hw3, HAE.out, if_neg (by simp), HSP.out, HAN.out, if_neg (by rw [hn2, hn3]; simp), ← HK.out, HIX.out]⟩
          have HB4 := Aside0.mk (below_step HB5.out hb)
          have H4 := Aside0.mk (H5.out.below hb)
          have HW4 := Aside0.mk (Kd.R_below HW5.out hb)
          have KA := Aside0.mk (blk_below KA5.out hb)
          clear hb0 hb H5 HW5 KA5 z3
          go_wp2_with fail
          obtain ⟨v2, u0, ⟨A2, c2, e2⟩, hR2, hcl⟩ := con_open H4.out.r k hk1
          subst e2
          have HR2 := Aside0.mk hR2
          have HCl : Aside0 (∀ (c : Con) {w1 : World} {v1 : Value}, kCon.R 59 w1 B (fun _ => True) v1 ((rdR S.rungs (k : Int)).f1 ++ [c]) → w4.drew.grownBy w1 (Value.slice A2 (rdR S.rungs (k : Int)).f1.length c2).ownBlock → (v1.ownBlock = (Value.slice A2 (rdR S.rungs (k : Int)).f1.length c2).ownBlock ∨ ∃ b, v1.ownBlock = some b ∧ w4.drew.heap.size ≤ b) →
            Kd.S kRung 53 (w1.setCell ⟨g, k * 4 + 1, none⟩ v1) B (fun _ => True) (.slice (some ⟨g, 0, none⟩) S.rungs.length cap) (S.rungs.set k ⟨(rdR S.rungs k).f0, (rdR S.rungs k).f1 ++ [c], (rdR S.rungs k).f2, (rdR S.rungs k).f3⟩)) := ⟨fun c {w1} {v1} => hcl (w1 := w1) (v1 := v1) c⟩
          obtain ⟨cg, htg4⟩ := Kd.S_typed H4.out.r g rfl
          have HTg := Aside0.mk htg4
          clear htg4
          have HSz := Aside0.mk H4.out.sz
          clear hR2 hcl
          have u1 : w4.drew.cell? ⟨ga, 0, none⟩ = some (.int .i64 sp) := blk_cell KA.out 0
          have u2 : w4.drew.cell? ⟨ga, 1, none⟩ = some (.int .i64 an) := blk_cell KA.out 1
          have u3 : w4.drew.cell? ⟨b, 2, none⟩ = some (.string x2) := hw2 ▸ words_cell HW4.out 2 (by omega)
          have u4 : w4.drew.cell? ⟨b, 3, none⟩ = some (.string x3) := hw3 ▸ words_cell HW4.out 3 (by omega)
          have HF := Aside0.mk (show ((rdR S.rungs (k : Int)).f1.length + 1) * 56 ≤ 140737488355328 by omega)
          generalize hxs : (rdR S.rungs (k : Int)).f1 = xs at *
          have hl56 := HF.out
          refine start_ (n := 19) (S := fun w' => w'.cell? ⟨g, k * 4 + 1, none⟩ = some (.slice A2 xs.length c2) ∧ w'.cell? ⟨ga, 0, none⟩ = some (.int .i64 sp) ∧ w'.cell? ⟨ga, 1, none⟩ = some (.int .i64 an) ∧ w'.cell? ⟨b, 2, none⟩ = some (.string x2) ∧ w'.cell? ⟨b, 3, none⟩ = some (.string x3)) (ds := [15, 18]) #[false, false, false, false, false, false, false, false, false, false, false, false, false, false, false, false, false, false, false] (by kernel_rfl) rfl rfl ⟨u0, u1, u2, u3, u4⟩ (fun hHeld => ?_)
          refine pure_ (i := 0) (N := some 53) (v := ?_) (a' := ?_) #[true, false, false, false, false, false, false, false, false, false, false, false, false, false, false, false, false, false, false] rfl rfl (by kernel_rfl) (fun _ _ _ h => h) (Or.inl ⟨by rfl, ?_⟩) ?_ ?_
          rotate_left
          · intro w'
            go_simp
            with_reducible rfl
          rotate_left
          · simp only [Act.put, List.setIfInBounds_toArray, List.set_cons_zero, List.set_cons_succ, i64_w, i32_w]
            rfl
          refine pure_ (i := 1) (N := some 54) (v := ?_) (a' := ?_) #[true, true, false, false, false, false, false, false, false, false, false, false, false, false, false, false, false, false, false] rfl rfl (by kernel_rfl) (fun _ _ _ h => h) (Or.inl ⟨by rfl, ?_⟩) ?_ ?_
          rotate_left
          · intro w'
            go_simp
            with_reducible rfl
          rotate_left
          · simp only [Act.put, List.setIfInBounds_toArray, List.set_cons_zero, List.set_cons_succ, i64_w, i32_w]
            rfl
          refine pure_ (i := 2) (N := some 55) (v := ?_) (a' := ?_) #[true, true, true, false, false, false, false, false, false, false, false, false, false, false, false, false, false, false, false] rfl rfl (by kernel_rfl) (fun _ _ _ h => h) (Or.inl ⟨by rfl, ?_⟩) ?_ ?_
          rotate_left
          · intro w'
            go_simp
            with_reducible rfl
          rotate_left
          · simp only [Act.put, List.setIfInBounds_toArray, List.set_cons_zero, List.set_cons_succ, i64_w, i32_w]
            rfl
          refine pure_ (i := 3) (N := some 56) (v := ?_) (a' := ?_) #[true, true, true, true, false, false, false, false, false, false, false, false, false, false, false, false, false, false, false] rfl rfl (by kernel_rfl) (fun _ _ _ h => h) (Or.inl ⟨by rfl, ?_⟩) ?_ ?_
          rotate_left
          · intro w'
            go_simp
            with_reducible rfl
          rotate_left
          · simp only [Act.put, List.setIfInBounds_toArray, List.set_cons_zero, List.set_cons_succ, i64_w, i32_w]
            rfl
          refine pure_ (i := 5) (N := some 58) (v := ?_) (a' := ?_) #[true, true, true, true, false, true, false, false, false, false, false, false, false, false, false, false, false, false, false] rfl rfl (by kernel_rfl) (fun _ _ _ h => h) (Or.inl ⟨by rfl, ?_⟩) ?_ ?_
          rotate_left
          · intro w'
            go_simp
            with_reducible rfl
          rotate_left
          · simp only [Act.put, List.setIfInBounds_toArray, List.set_cons_zero, List.set_cons_succ, i64_w, i32_w]
            rfl
          refine pure_ (i := 7) (N := some 60) (v := ?_) (a' := ?_) #[true, true, true, true, false, true, false, true, false, false, false, false, false, false, false, false, false, false, false] rfl rfl (by kernel_rfl) (fun _ _ _ h => h) (Or.inl ⟨by rfl, ?_⟩) ?_ ?_
          rotate_left
          · intro w'
            go_simp
            with_reducible rfl
          rotate_left
          · simp only [Act.put, List.setIfInBounds_toArray, List.set_cons_zero, List.set_cons_succ, i64_w, i32_w]
            rfl
          refine pure_ (i := 8) (N := some 61) (v := ?_) (a' := ?_) #[true, true, true, true, false, true, false, true, true, false, false, false, false, false, false, false, false, false, false] rfl rfl (by kernel_rfl) (fun _ _ _ h => h) (Or.inl ⟨by rfl, ?_⟩) ?_ ?_
          rotate_left
          · intro w'
            go_simp
            with_reducible rfl
          rotate_left
          · simp only [Act.put, List.setIfInBounds_toArray, List.set_cons_zero, List.set_cons_succ, i64_w, i32_w]
            rfl
          refine pure_ (i := 10) (N := some 63) (v := ?_) (a' := ?_) #[true, true, true, true, false, true, false, true, true, false, true, false, false, false, false, false, false, false, false] rfl rfl (by kernel_rfl) (fun _ _ _ h => h) (Or.inl ⟨by rfl, ?_⟩) ?_ ?_
          rotate_left
          · intro w'
            go_simp
            with_reducible rfl
          rotate_left
          · simp only [Act.put, List.setIfInBounds_toArray, List.set_cons_zero, List.set_cons_succ, i64_w, i32_w]
            rfl
          refine pure_ (i := 11) (N := some 64) (v := ?_) (a' := ?_) #[true, true, true, true, false, true, false, true, true, false, true, true, false, false, false, false, false, false, false] rfl rfl (by kernel_rfl) (fun _ _ _ h => h) (Or.inl ⟨by rfl, ?_⟩) ?_ ?_
          rotate_left
          · intro w'
            go_simp
            with_reducible rfl
          rotate_left
          · simp only [Act.put, List.setIfInBounds_toArray, List.set_cons_zero, List.set_cons_succ, i64_w, i32_w]
            rfl
          refine take_ (i := 4) (N := some 57) (v := ?_) (a' := ?_) #[true, true, true, true, true, true, false, true, true, false, true, true, false, false, false, false, false, false, false] rfl rfl (by kernel_rfl) (fun _ _ _ h => h) (Or.inl ⟨by rfl, ?_⟩) hHeld ?_ ?_
          rotate_left
          · rintro w' ⟨s0, s1, s2, s3, s4⟩
            go_simp
            with_reducible rfl
          rotate_left
          · simp only [Act.put, List.setIfInBounds_toArray, List.set_cons_zero, List.set_cons_succ, i64_w, i32_w]
            rfl
          refine take_ (i := 6) (N := some 59) (v := ?_) (a' := ?_) #[true, true, true, true, true, true, true, true, true, false, true, true, false, false, false, false, false, false, false] rfl rfl (by kernel_rfl) (fun _ _ _ h => h) (Or.inl ⟨by rfl, ?_⟩) hHeld ?_ ?_
          rotate_left
          · rintro w' ⟨s0, s1, s2, s3, s4⟩
            go_simp
            with_reducible rfl
          rotate_left
          · simp only [Act.put, List.setIfInBounds_toArray, List.set_cons_zero, List.set_cons_succ, i64_w, i32_w]
            rfl
          refine take_ (i := 9) (N := some 62) (v := ?_) (a' := ?_) #[true, true, true, true, true, true, true, true, true, true, true, true, false, false, false, false, false, false, false] rfl rfl (by kernel_rfl) (fun _ _ _ h => h) (Or.inl ⟨by rfl, ?_⟩) hHeld ?_ ?_
          rotate_left
          · rintro w' ⟨s0, s1, s2, s3, s4⟩
            go_simp
            with_reducible rfl
          rotate_left
          · simp only [Act.put, List.setIfInBounds_toArray, List.set_cons_zero, List.set_cons_succ, i64_w, i32_w]
            rfl
          refine take_ (i := 12) (N := some 65) (v := ?_) (a' := ?_) #[true, true, true, true, true, true, true, true, true, true, true, true, true, false, false, false, false, false, false] rfl rfl (by kernel_rfl) (fun _ _ _ h => h) (Or.inl ⟨by rfl, ?_⟩) hHeld ?_ ?_
          rotate_left
          · rintro w' ⟨s0, s1, s2, s3, s4⟩
            go_simp
            with_reducible rfl
          rotate_left
          · simp only [Act.put, List.setIfInBounds_toArray, List.set_cons_zero, List.set_cons_succ, i64_w, i32_w]
            rfl
          refine pure_ (i := 13) (N := some 66) (v := ?_) (a' := ?_) #[true, true, true, true, true, true, true, true, true, true, true, true, true, true, false, false, false, false, false] rfl rfl (by kernel_rfl) (fun _ _ _ h => h) (Or.inl ⟨by rfl, ?_⟩) ?_ ?_
          rotate_left
          · intro w'
            go_simp
            with_reducible rfl
          rotate_left
          · simp only [Act.put, List.setIfInBounds_toArray, List.set_cons_zero, List.set_cons_succ, i64_w, i32_w]
            rfl
          refine one_ (i := 14) (N := some 67) #[true, true, true, true, true, true, true, true, true, true, true, true, true, true, true, false, false, false, false] rfl rfl (by kernel_rfl) (by decide) (fun K hK => ?_)
          refine value_ (w1 := ?_) (v := ?_) (by rfl) rfl ?_ ?_
          rotate_left 2
          · go_simp
            constructor
            · rfl
            · rfl
          refine hK.out _ _ ⟨(pw_cell_below (below_alloc (Below.refl _ _) _) u0), (pw_cell_below (below_alloc (Below.refl _ _) _) u1), (pw_cell_below (below_alloc (Below.refl _ _) _) u2), (pw_cell_below (below_alloc (Below.refl _ _) _) u3), (pw_cell_below (below_alloc (Below.refl _ _) _) u4)⟩ (fun hHeld => ?_)
          clear hK K
          refine norm_ (a' := ?_) ?_ ?_
          rotate_left
          · show Act.put _ (some 67) _ = _
            simp only [Act.put, List.setIfInBounds_toArray, List.set_cons_zero, List.set_cons_succ, i64_w, i32_w]
            rfl
          refine last_ (i := 15) (N := some 68) #[true, true, true, true, true, true, true, true, true, true, true, true, true, true, true, true, false, false, false] rfl rfl (by kernel_rfl) (by decide) (fun K hK => ?_)
          refine Kd.R_append_step kCon (w0 := w4.drew) (W := w4.drew) B (by rfl) (.tmp 57) (.tmp 67) 50 59 (.agg #[.int .i64 0, .int .i64 0, .int .i64 0, .string ⟨#[]⟩, .string ⟨#[]⟩]) 56 rfl Tryz.underlying50 PPrinterRoundTrip.info59 rfl (Nat.zero_lt_succ 4) (by omega) (.slice A2 xs.length c2) xs ⟨ix, ⟨sp, an⟩, x2, x3⟩ [.int .i64 ix, .int .i64 sp, .int .i64 an, .string x2, .string x3] (fun _ => True) (fun _ => False) rfl rfl (PPrinterRoundTrip.k59_mkM (w4.drew) B _ ⟨ix, ⟨sp, an⟩, x2, x3⟩) (fun _ h => h.elim) (fun _ _ => trivial) HR2.out (Below.refl _ _) HSz.out (by omega) ?_
          intro v1 w5 hr _ hgr hat
          obtain ⟨A3, d3, e3, -, -⟩ := Kd.R_reads hr
          obtain rfl : v1 = .slice A3 (xs.length + 1) d3 := by rw [e3, List.length_append, List.length_singleton]
          clear e3
          have HC := Aside0.mk (HCl.out ⟨ix, ⟨sp, an⟩, x2, x3⟩ hr hgr hat)
          have HGr := Aside0.mk hgr
          have htg5 := (hgr.block g (blk_lt HTg.out) (fun e => by obtain ⟨cells, hc⟩ := Kd.R_typed HR2.out g e.symm; have h2 := HTg.out; rw [hc] at h2; cases h2)).trans HTg.out
          have t5 := (World.cell?_of_block (a := ⟨g, k * 4 + 1, none⟩) (htg5.trans HTg.out.symm)).trans u0
          have f5 := blk_frozen htg5 (k * 4 + 1)
          clear hr hgr hat htg5
          refine hK.out _ _ ?_
          clear hK K
          refine norm_ (a' := ?_) ?_ ?_
          rotate_left
          · show Act.put _ (some 68) _ = _
            simp only [Act.put, List.setIfInBounds_toArray, List.set_cons_zero, List.set_cons_succ, i64_w, i32_w]
            rfl
          refine pure_ (i := 16) (N := some 69) (v := ?_) (a' := ?_) #[true, true, true, true, true, true, true, true, true, true, true, true, true, true, true, true, true, false, false] rfl rfl (by kernel_rfl) (fun _ _ _ h => h) (Or.inl ⟨by rfl, ?_⟩) ?_ ?_
          rotate_left
          · intro w'
            go_simp
            with_reducible rfl
          rotate_left
          · simp only [Act.put, List.setIfInBounds_toArray, List.set_cons_zero, List.set_cons_succ, i64_w, i32_w]
            rfl
          refine pure_ (i := 17) (N := some 70) (v := ?_) (a' := ?_) #[true, true, true, true, true, true, true, true, true, true, true, true, true, true, true, true, true, true, false] rfl rfl (by kernel_rfl) (fun _ _ _ h => h) (Or.inl ⟨by rfl, ?_⟩) ?_ ?_
          rotate_left
          · intro w'
            go_simp
            with_reducible rfl
          rotate_left
          · simp only [Act.put, List.setIfInBounds_toArray, List.set_cons_zero, List.set_cons_succ, i64_w, i32_w]
            rfl
          refine last_ (i := 18) (N := none) #[true, true, true, true, true, true, true, true, true, true, true, true, true, true, true, true, true, true, true] rfl rfl (by kernel_rfl) (by decide) (fun K hK => ?_)
          refine skip_ (w1 := ?_) (by rfl) rfl ?_ ?_
          rotate_left
          · go_simp
            rfl
          refine hK.out _ _ ?_
          clear hK K
          refine done_ (by kernel_rfl) ?_
          have HPF := Aside0.mk (H4.out.row (t := 59) (fun i e => ⟨Kd.R_base HR2.out i e, Kd.R_typed HR2.out i e⟩) (by rfl) (by decide) (by decide) (by decide) HGr.out HC.out (by rw [List.length_set]))
          clear u0 u1 u2 u3 u4 t5 f5
          go_wp2
          go_ret
          rw [HO.out]
          exact ⟨rfl, (KQ.of_below H.out.sz HB4.out).trans HPF.out.2, fun _ => ⟨_, _, _, HPF.out.1⟩⟩
      · obtain rfl : r = (S, ae) := by
          rw [← HR.out, conS, HL.out, if_neg HJ.out, if_neg H16.out, hw1, HAE.out, if_pos (by simpa using hae0)]
        go_wp2
        go_ret
        exact ⟨rfl, KQ.of_below H.out.sz (below_alloc HB2.out _), fun e => absurd e hae0⟩
end Go.Proofs.YtolmkdhgnganaaaGreatDoor.H
namespace Go.Proofs.YtolmkdhgnganaaaGreatDoor.H
open Go Go.RowKit Go.Proofs Go.Proofs.YtolmkdhgnganaaaGreatDoorW.PrintWords Go.Proofs.YtolmkdhgnganaaaGreatDoorW.PrintLast Go.Proofs.YtolmkdhgnganaaaGreatDoorW.PrintMore Go.Proofs.YtolmkdhgnganaaaGreatDoor.Sp
/-- The parser at gp, its rows, whatever their lengths. -/
structure PH (B gp : Nat) (S : PSt) (vr vl vj : Value) (wr : World) : Prop where
  gb : B ≤ gp
  sz : B ≤ wr.heap.size
  p : wr.heap[gp]? = some (.cells #[.int .i64 S.i, .int .i64 S.q, .int .i64 S.m, vr, vl, vj, .bool S.sized] 102 (0, 0))
  r : Kd.S kRung 53 wr B (fun _ => True) vr S.rungs
  l : (Kd.int .i64).R 3 wr B (fun _ => True) vl S.lines
  j : (Kd.int .i64).R 3 wr B (fun _ => True) vj S.jumps
  lj : ∀ k, vl.ownBlock = some k → vj.ownBlock ≠ some k
section
variable {B gp : Nat} {S : PSt} {vr vl vj v1 : Value} {W w1 : World}
theorem PG.ph (h : PG B gp S vr vl vj W) : PH B gp S vr vl vj W := ⟨h.gb, h.sz, h.p, h.r, h.l, h.j, h.lj⟩
theorem PH.pg (h : PH B gp S vr vl vj W) (nl : S.lines.length = S.rungs.length) (nj : S.jumps.length = S.rungs.length) (n64 : S.rungs.length ≤ 64) : PG B gp S vr vl vj W := ⟨h.gb, h.sz, h.p, h.r, h.l, h.j, h.lj, nl, nj, n64⟩
theorem PH.below (h : PH B gp S vr vl vj W) (hb : Below W.heap.size W w1) : PH B gp S vr vl vj w1 :=
  ⟨h.gb, Nat.le_trans h.sz hb.size, blk_below h.p hb, Kd.S_below h.r hb, Kd.R_below h.l hb, Kd.R_below h.j hb, h.lj⟩
theorem tyi9 : ∀ q, q ∈ 3 :: (Kd.int .i64).E → q ≠ 102 := by decide
theorem PH.pushR (h : PH B gp S vr vl vj W) {rs : List Rung} (hs : Kd.S kRung 53 w1 B (fun _ => True) v1 rs) (hg : W.grownBy w1 vr.ownBlock) :
    PH B gp ⟨S.i, S.q, S.m, S.sized, rs, S.lines, S.jumps⟩ v1 vl vj (w1.setCell ⟨gp, 3, none⟩ v1) ∧ KQ B W (w1.setCell ⟨gp, 3, none⟩ v1) ∧ w1.cell? ⟨gp, 3, none⟩ = some vr ∧ w1.frozen? ⟨gp, 3, none⟩ = false := by
  have p0 := grown_blk hg (Kd.S_typed h.r) h.p (by decide)
  have p1 := blk_set p0 3 v1
  have hk := KQ.grown h.sz hg (fun k e => ⟨Kd.S_base h.r k e, Kd.S_typed h.r k e⟩) (by rfl)
  refine ⟨⟨h.gb, by have := h.sz; have := hg.size; simp; omega, by simpa using p1, Kd.S_set hs p0 types_par9 3 _, Kd.R_set (Kd.R_over' h.l (Kd.S_typed h.r) int_rung hg) p0 tyi9 3 _, Kd.R_set (Kd.R_over' h.j (Kd.S_typed h.r) int_rung hg) p0 tyi9 3 _, h.lj⟩, hk.trans (KQ.set h.gb p0 (by rfl) _), blk_cell p0 3, blk_frozen p0 3⟩
theorem PH.pushL (h : PH B gp S vr vl vj W) {ls : List Int} (hs : (Kd.int .i64).R 3 w1 B (fun _ => True) v1 ls) (hg : W.grownBy w1 vl.ownBlock) (hat : v1.ownBlock = vl.ownBlock ∨ ∃ b, v1.ownBlock = some b ∧ W.heap.size ≤ b) :
    PH B gp ⟨S.i, S.q, S.m, S.sized, S.rungs, ls, S.jumps⟩ vr v1 vj (w1.setCell ⟨gp, 4, none⟩ v1) ∧ KQ B W (w1.setCell ⟨gp, 4, none⟩ v1) ∧ w1.cell? ⟨gp, 4, none⟩ = some vl ∧ w1.frozen? ⟨gp, 4, none⟩ = false := by
  have p0 := grown_blk hg (Kd.R_typed h.l) h.p (by decide)
  have p1 := blk_set p0 4 v1
  have hk := KQ.grown h.sz hg (fun k e => ⟨Kd.R_base h.l k e, Kd.R_typed h.l k e⟩) (by rfl)
  refine ⟨⟨h.gb, by have := h.sz; have := hg.size; simp; omega, by simpa using p1, Kd.S_set (Kd.S_over' h.r (Kd.R_typed h.l) rung_int hg) p0 types_par9 4 _, Kd.R_set hs p0 tyi9 4 _, Kd.R_set (R_int_grown h.j hg (fun k e e2 => h.lj k e2 e)) p0 tyi9 4 _, fun k e e2 => ?_⟩, hk.trans (KQ.set h.gb p0 (by rfl) _), blk_cell p0 4, blk_frozen p0 4⟩
  rcases hat with h1 | ⟨b, h1, h2⟩
  · exact h.lj k (by rw [← h1]; exact e) e2
  · rw [h1] at e
    cases e
    have := Kd.R_lt h.j _ e2
    omega
theorem PH.pushJ (h : PH B gp S vr vl vj W) {ls : List Int} (hs : (Kd.int .i64).R 3 w1 B (fun _ => True) v1 ls) (hg : W.grownBy w1 vj.ownBlock) (hat : v1.ownBlock = vj.ownBlock ∨ ∃ b, v1.ownBlock = some b ∧ W.heap.size ≤ b) :
    PH B gp ⟨S.i, S.q, S.m, S.sized, S.rungs, S.lines, ls⟩ vr vl v1 (w1.setCell ⟨gp, 5, none⟩ v1) ∧ KQ B W (w1.setCell ⟨gp, 5, none⟩ v1) ∧ w1.cell? ⟨gp, 5, none⟩ = some vj ∧ w1.frozen? ⟨gp, 5, none⟩ = false := by
  have p0 := grown_blk hg (Kd.R_typed h.j) h.p (by decide)
  have p1 := blk_set p0 5 v1
  have hk := KQ.grown h.sz hg (fun k e => ⟨Kd.R_base h.j k e, Kd.R_typed h.j k e⟩) (by rfl)
  refine ⟨⟨h.gb, by have := h.sz; have := hg.size; simp; omega, by simpa using p1, Kd.S_set (Kd.S_over' h.r (Kd.R_typed h.j) rung_int hg) p0 types_par9 5 _, Kd.R_set (R_int_grown h.l hg (fun k e e2 => h.lj k e e2)) p0 tyi9 5 _, Kd.R_set hs p0 tyi9 5 _, fun k e e2 => ?_⟩, hk.trans (KQ.set h.gb p0 (by rfl) _), blk_cell p0 5, blk_frozen p0 5⟩
  rcases hat with h1 | ⟨b, h1, h2⟩
  · exact h.lj k e (by rw [← h1]; exact e2)
  · rw [h1] at e2
    cases e2
    have := Kd.R_lt h.l _ e
    omega
end
end Go.Proofs.YtolmkdhgnganaaaGreatDoor.H
namespace Go.Proofs.YtolmkdhgnganaaaGreatDoor.H
open Go Go.RowKit Go.Proofs Go.Proofs.YtolmkdhgnganaaaGreatDoorW.PrintWords Go.Proofs.YtolmkdhgnganaaaGreatDoorW.PrintLast Go.Proofs.YtolmkdhgnganaaaGreatDoorW.PrintMore Go.Proofs.YtolmkdhgnganaaaGreatDoor.Sp
theorem nblk_setC (w : World) (a : Addr) (v : Value) : (w.setCell a v).heap.size = w.heap.size := by simp [World.setCell]
/-- The call's box and the parser. -/
structure BgG (B gp gr : Nat) (S : PSt) (vr vl vj : Value) (x : ByteArray) (w wr : World) : Prop where
  b : Below w.heap.size w wr
  p : PG B gp S vr vl vj wr
  r : wr.heap[gr]? = some (.cells #[.string x, .slice none 0 0, .slice none 0 0, .string ⟨#[]⟩] 53 (0, 0))
  g : w.heap.size ≤ gr
theorem BgG.below {B gp gr : Nat} {S : PSt} {vr vl vj : Value} {x : ByteArray} {w wr w1 : World} (h : BgG B gp gr S vr vl vj x w wr) (hb : Below wr.heap.size wr w1) : BgG B gp gr S vr vl vj x w w1 :=
  ⟨below_step h.b hb, h.p.below hb, blk_below h.r hb, h.g⟩
theorem BgG.lab {B gp gr : Nat} {S : PSt} {vr vl vj : Value} {x : ByteArray} {w wr : World} (h : BgG B gp gr S vr vl vj x w wr) (h0 : PG B gp S vr vl vj w) (y : ByteArray) : BgG B gp gr S vr vl vj y w (wr.setCell ⟨gr, 0, none⟩ (.string y)) :=
  ⟨below_set h.b h.g, h0.below (below_set h.b h.g), by have := blk_set h.r 0 (.string y); simpa using this, h.g⟩
theorem hasL9_none {l : List Rung} {L : ByteArray} (h : ∀ k : Nat, k < l.length → seq (rdR l (k : Int)).f0 L = false) : hasLab l L = false := by
  have := hasLab_take_none (l := l) (L := L) (n := l.length) (by omega) (fun k k0 k1 => by
    have := h k.toNat (by omega)
    rwa [show ((k.toNat : Nat) : Int) = k by omega] at this)
  simpa using this
theorem hasL9_some {l : List Rung} {L : ByteArray} {k : Nat} (hk : k < l.length) (h : seq (rdR l (k : Int)).f0 L = true) : hasLab l L = true := by
  have := hasLab_take_some (l := l) (L := L) (n := l.length) (k := k) (by omega) (by omega) (by omega) h
  simpa using this
set_option maxHeartbeats 4000000 in
set_option maxRecDepth 100000 in
theorem rung9_p {B gp : Nat} {S : PSt} {vr vl vj : Value} {w : World} (h : PG B gp S vr vl vj w) (n : Int) (b nw wc : Nat) (ws : List ByteArray) (hw : Kd.string.R 9 w B (fun _ => True) (.slice (some ⟨b, 0, none⟩) nw wc) ws) :
    Calls Tryz.prog 78 #[.pointer (some ⟨gp, 0, none⟩), .slice (some ⟨b, 0, none⟩) nw wc, .int .i64 n] w (ParQ B gp w (beginS S n ws)) := by
  have hn64 := h.n64
  have hlen : nw = ws.length := (Kd.R_reads' hw).1
  have HLen := Aside0.mk hlen
  obtain ⟨A, c, rfl, hcap, hC⟩ := Kd.S_reads h.r
  generalize hr : beginS S n ws = r
  have HR := Aside0.mk hr
  have H := Aside0.mk h
  have HW := Aside0.mk hw
  have F0 : Aside0 (BgG B gp w.heap.size S (.slice A S.rungs.length c) vl vj ⟨#[]⟩ w (w.alloc (.cells #[.string ⟨#[]⟩, .slice none 0 0, .slice none 0 0, .string ⟨#[]⟩] 53))) := ⟨by
    have hb := below_alloc (Below.refl w.heap.size w) (.cells #[.string ⟨#[]⟩, .slice none 0 0, .slice none 0 0, .string ⟨#[]⟩] 53)
    exact ⟨hb, h.below hb, blk_new _ _, by omega⟩⟩
  clear h hw hC hlen hr hcap
  go_enter Tryz.func78, Tryz.ntmps78
  go_upto_if 12 with fail
  generalize w.alloc (.cells #[.string ⟨#[]⟩, .slice none 0 0, .slice none 0 0, .string ⟨#[]⟩] 53) = w1 at F0 ⊢
  generalize hgr : w.heap.size = gr at F0 ⊢
  clear hgr
  go_cut [] (fun wx => ∃ x wr, wr = wx ∧ Aside0 (r = beginT S n x) ∧ Aside0 (BgG B gp gr S (.slice A S.rungs.length c) vl vj x w wr))
  case first =>
    by_cases h1 : (1 : Int) < nw
    · have hl1 : labOf ws = ws.getD 1 ⟨#[]⟩ := by rw [labOf, if_pos (by rw [← HLen.out]; omega)]
      generalize hx : ws.getD 1 ⟨#[]⟩ = x at hl1
      have hw1 := Kd.R_below HW.out F0.out.b
      have z1 : w1.cell? ⟨b, 1, none⟩ = some (.string x) := hx ▸ words_cell hw1 1 (by omega)
      have HI := Aside0.mk (fun W => isName9_b x W)
      have HX := Aside0.mk hl1
      have HXX := Aside0.mk hx
      clear hw1 hl1 hx
      cases hn : isNm x.data.toList with
      | false =>
        obtain rfl : r = (S, 6) := by rw [← HR.out, beginS, if_pos ⟨by rw [← HLen.out]; omega, by rw [HX.out]; exact hn⟩]
        rw [hn] at HI
        go_wp2_with fail
        refine (HI.out _).mono ?_
        rintro e w3 ⟨rfl, hb⟩
        go_wp2
        go_ret
        exact ⟨rfl, KQ.of_below H.out.sz (below_step F0.out.b hb), fun e => by cases e⟩
      | true =>
        have HN := Aside0.mk hn
        rw [hn] at HI
        clear hn
        go_wp2_with fail
        refine (HI.out _).mono ?_
        rintro e w3 ⟨rfl, hb⟩
        have F3 := Aside0.mk (F0.out.below hb)
        clear hb z1
        go_wp2_with fail
        go_loopw [8] (fun cv w' => ∃ k : Nat, cv = .int .i64 k ∧ k ≤ S.rungs.length ∧ ∃ wr : World, wr = w' ∧ Aside0 (BgG B gp gr S (.slice A S.rungs.length c) vl vj ⟨#[]⟩ w wr) ∧ Aside0 (∀ j : Nat, j < k → seq (rdR S.rungs (j : Int)).f0 x = false)) (fun cv _ => ((S.rungs.length : Int) - intOf cv).toNat)
        case atStart => exact ⟨0, rfl, by omega, _, rfl, F3, ⟨fun j hj => by omega⟩⟩
        case round =>
          clear F3
          obtain ⟨k, rfl, hk, wr, rfl, HF, HJ⟩ := hrel
          have p3 : wr.cell? ⟨gp, 3, none⟩ = some (.slice A S.rungs.length c) := blk_cell HF.out.p.p 3
          have ltg : gp < wr.heap.size := blk_lt HF.out.p.p
          have z1 : wr.cell? ⟨b, 1, none⟩ = some (.string x) := HXX.out ▸ words_cell (Kd.R_below HW.out HF.out.b) 1 (by omega)
          by_cases hlt : k < S.rungs.length
          · have hwr : wrap64 ((k : Int) + 1) = ((k + 1 : Nat) : Int) := by rw [w64 (by omega) (by omega)]; rfl
            have hki : (k : Int) < S.rungs.length := by omega
            obtain ⟨g, cap, eA, -, -, -⟩ := Kd.S_form HF.out.p.r (by omega)
            cases eA
            obtain ⟨-, -, q0, -, -, -, -, -, -⟩ := S_cells4 HF.out.p.r k hlt
            cases hsq : seq (rdR S.rungs (k : Int)).f0 x with
            | true =>
              obtain rfl : r = (S, 9) := by rw [← HR.out, beginS, if_neg (by rw [HX.out, HN.out]; simp), if_pos ⟨by rw [← HLen.out]; omega, by rw [HX.out]; exact hasL9_some hlt hsq⟩]
              have hq2 : ((rdR S.rungs (k : Int)).f0.toList == x.toList) = true := hsq
              generalize (rdR S.rungs (k : Int)).f0 = y at q0 hq2
              clear hsq
              go_wp2_with fail
              go_quiet (fail)
              rename_i nq
              have HF1 := Aside0.mk (HF.out.below (pw_below_drewN (Below.refl wr.heap.size wr) nq))
              generalize wr.drewN nq = wr1 at HF1 ⊢
              go_wp2_with fail
              go_ret
              exact ⟨rfl, KQ.of_below H.out.sz HF1.out.b, fun e => by cases e⟩
            | false =>
              have HJ2 : Aside0 (∀ j : Nat, j < k + 1 → seq (rdR S.rungs (j : Int)).f0 x = false) := ⟨fun j hj => by
                by_cases hjk : j < k
                · exact HJ.out j hjk
                · obtain rfl : j = k := by omega
                  exact hsq⟩
              have hq2 : ((rdR S.rungs (k : Int)).f0.toList == x.toList) = false := hsq
              generalize (rdR S.rungs (k : Int)).f0 = y at q0 hq2
              clear hsq
              go_wp2_with fail
              go_quiet (fail)
              rename_i nq
              have HF1 := Aside0.mk (HF.out.below (pw_below_drewN (Below.refl wr.heap.size wr) nq))
              generalize wr.drewN nq = wr1 at HF1 ⊢
              clear HF p3 ltg z1 q0
              go_wp2_with fail
              go_roundw
              case rel => exact ⟨k + 1, by simp [hwr], by omega, _, rfl, HF1, HJ2⟩
              case measure => simp [intOf, hwr]; omega
          · obtain rfl : k = S.rungs.length := by omega
            have HNo : Aside0 (hasLab S.rungs x = false) := ⟨hasL9_none HJ.out⟩
            have u0 : wr.cell? ⟨gr, 0, none⟩ = some (.string ⟨#[]⟩) := blk_cell HF.out.r 0
            have v0 := blk_frozen HF.out.r 0
            have F1 := Aside0.mk (HF.out.lab H.out x)
            clear HF HJ
            go_wp2_with fail
            go_meet
            case rel => exact ⟨x, _, rfl, ⟨by rw [← HR.out, beginS, if_neg (by rw [HX.out, HN.out]; simp), if_neg (by rw [HX.out, HNo.out]; simp), HX.out]⟩, F1⟩
    · have hl1 : labOf ws = ⟨#[]⟩ := by rw [labOf, if_neg (by rw [← HLen.out]; omega)]
      have HX := Aside0.mk hl1
      clear hl1
      go_wp2
      go_meet
      case rel => exact ⟨⟨#[]⟩, _, rfl, ⟨by rw [← HR.out, beginS, if_neg (by rw [← HLen.out]; omega), if_neg (by rw [← HLen.out]; omega), HX.out]⟩, F0⟩
  case rest =>
    obtain ⟨x, wr, rfl, HO, F⟩ := hcut
    clear F0
    have p3 : wr.cell? ⟨gp, 3, none⟩ = some (.slice A S.rungs.length c) := blk_cell F.out.p.p 3
    have ltg : gp < wr.heap.size := blk_lt F.out.p.p
    by_cases h64 : (S.rungs.length : Int) = 64
    · obtain rfl : r = (S, 10) := by rw [HO.out, beginT, if_pos (by omega)]
      have h64' : decide ((64 : Int) ≤ (S.rungs.length : Int)) = true := decide_eq_true (by omega)
      go_wp2
      go_ret
      exact ⟨rfl, KQ.of_below H.out.sz F.out.b, fun e => by cases e⟩
    · have h64' : decide ((64 : Int) ≤ (S.rungs.length : Int)) = false := decide_eq_false (by omega)
      have h65 : S.rungs.length < 64 := by omega
      have HT : Aside0 (r = (⟨S.i, S.q, S.m, S.sized, S.rungs ++ [newR x], S.lines ++ [n], S.jumps ++ [0]⟩, 0)) := ⟨by rw [HO.out, beginT, if_neg (by omega)]⟩
      go_wp2_with fail
      obtain ⟨vr, hvr⟩ : ∃ v, Value.slice A S.rungs.length c = v := ⟨_, rfl⟩
      rw [hvr] at F p3
      have FD := Aside0.mk (F.out.below (below_drew (Below.refl _ _)))
      have HPA := Aside0.mk (FD.out.p.ph.below (below_alloc (Below.refl _ _) (.cells (newC x).toArray 53)))
      have HKA := Aside0.mk (KQ.of_below (B := B) FD.out.p.sz (below_alloc (Below.refl _ _) (.cells (newC x).toArray 53)))
      have HKD := Aside0.mk (KQ.of_below (B := B) H.out.sz FD.out.b)
      have HVr := Aside0.mk hvr
      have HNl := Aside0.mk H.out.nl
      have HNj := Aside0.mk H.out.nj
      have u0 : wr.drew.cell? ⟨gp, 3, none⟩ = some vr := blk_cell FD.out.p.p 3
      have u1 : wr.drew.cell? ⟨gr, 0, none⟩ = some (.string x) := blk_cell FD.out.r 0
      have u2 : wr.drew.cell? ⟨gr, 1, none⟩ = some (.slice none 0 0) := blk_cell FD.out.r 1
      have u3 : wr.drew.cell? ⟨gr, 2, none⟩ = some (.slice none 0 0) := blk_cell FD.out.r 2
      have u4 : wr.drew.cell? ⟨gr, 3, none⟩ = some (.string ⟨#[]⟩) := blk_cell FD.out.r 3
      clear h64 h64' p3 hvr FD
      refine start_ (n := 13) (S := fun w' => w'.cell? ⟨gp, 3, none⟩ = some vr ∧ w'.cell? ⟨gr, 0, none⟩ = some (.string x) ∧ w'.cell? ⟨gr, 1, none⟩ = some (.slice none 0 0) ∧ w'.cell? ⟨gr, 2, none⟩ = some (.slice none 0 0) ∧ w'.cell? ⟨gr, 3, none⟩ = some (.string ⟨#[]⟩)) (ds := [8, 12]) #[false, false, false, false, false, false, false, false, false, false, false, false, false] (by kernel_rfl) rfl rfl ⟨u0, u1, u2, u3, u4⟩ (fun hHeld => ?_)
      refine pure_ (i := 0) (N := some 52) (v := ?_) (a' := ?_) #[true, false, false, false, false, false, false, false, false, false, false, false, false] rfl rfl (by kernel_rfl) (fun _ _ _ h => h) (Or.inl ⟨by rfl, ?_⟩) ?_ ?_
      rotate_left
      · intro w'
        go_simp
        with_reducible rfl
      rotate_left
      · simp only [Act.put, List.setIfInBounds_toArray, List.set_cons_zero, List.set_cons_succ, i64_w, i32_w]
        rfl
      refine pure_ (i := 1) (N := some 53) (v := ?_) (a' := ?_) #[true, true, false, false, false, false, false, false, false, false, false, false, false] rfl rfl (by kernel_rfl) (fun _ _ _ h => h) (Or.inl ⟨by rfl, ?_⟩) ?_ ?_
      rotate_left
      · intro w'
        go_simp
        with_reducible rfl
      rotate_left
      · simp only [Act.put, List.setIfInBounds_toArray, List.set_cons_zero, List.set_cons_succ, i64_w, i32_w]
        rfl
      refine pure_ (i := 2) (N := some 54) (v := ?_) (a' := ?_) #[true, true, true, false, false, false, false, false, false, false, false, false, false] rfl rfl (by kernel_rfl) (fun _ _ _ h => h) (Or.inl ⟨by rfl, ?_⟩) ?_ ?_
      rotate_left
      · intro w'
        go_simp
        with_reducible rfl
      rotate_left
      · simp only [Act.put, List.setIfInBounds_toArray, List.set_cons_zero, List.set_cons_succ, i64_w, i32_w]
        rfl
      refine pure_ (i := 3) (N := some 55) (v := ?_) (a' := ?_) #[true, true, true, true, false, false, false, false, false, false, false, false, false] rfl rfl (by kernel_rfl) (fun _ _ _ h => h) (Or.inl ⟨by rfl, ?_⟩) ?_ ?_
      rotate_left
      · intro w'
        go_simp
        with_reducible rfl
      rotate_left
      · simp only [Act.put, List.setIfInBounds_toArray, List.set_cons_zero, List.set_cons_succ, i64_w, i32_w]
        rfl
      refine pure_ (i := 4) (N := some 56) (v := ?_) (a' := ?_) #[true, true, true, true, true, false, false, false, false, false, false, false, false] rfl rfl (by kernel_rfl) (fun _ _ _ h => h) (Or.inl ⟨by rfl, ?_⟩) ?_ ?_
      rotate_left
      · intro w'
        go_simp
        with_reducible rfl
      rotate_left
      · simp only [Act.put, List.setIfInBounds_toArray, List.set_cons_zero, List.set_cons_succ, i64_w, i32_w]
        rfl
      refine take_ (i := 5) (N := some 57) (v := ?_) (a' := ?_) #[true, true, true, true, true, true, false, false, false, false, false, false, false] rfl rfl (by kernel_rfl) (fun _ _ _ h => h) (Or.inl ⟨by rfl, ?_⟩) hHeld ?_ ?_
      rotate_left
      · rintro w' ⟨s0, s1, s2, s3, s4⟩
        go_simp
        with_reducible rfl
      rotate_left
      · simp only [Act.put, List.setIfInBounds_toArray, List.set_cons_zero, List.set_cons_succ, i64_w, i32_w]
        rfl
      refine take_ (i := 6) (N := some 58) (v := ?_) (a' := ?_) #[true, true, true, true, true, true, true, false, false, false, false, false, false] rfl rfl (by kernel_rfl) (fun _ _ _ h => h) (Or.inl ⟨by rfl, ?_⟩) hHeld ?_ ?_
      rotate_left
      · rintro w' ⟨s0, s1, s2, s3, s4⟩
        go_simp
        with_reducible rfl
      rotate_left
      · simp only [Act.put, List.setIfInBounds_toArray, List.set_cons_zero, List.set_cons_succ, i64_w, i32_w]
        rfl
      refine one_ (i := 7) (N := some 59) #[true, true, true, true, true, true, true, true, false, false, false, false, false] rfl rfl (by kernel_rfl) (by decide) (fun K hK => ?_)
      refine value_ (w1 := ?_) (v := ?_) (by rfl) rfl ?_ ?_
      rotate_left 2
      · go_simp
        constructor
        · rfl
        · rfl
      refine hK.out _ _ ⟨(pw_cell_below (below_alloc (Below.refl _ _) _) u0), (pw_cell_below (below_alloc (Below.refl _ _) _) u1), (pw_cell_below (below_alloc (Below.refl _ _) _) u2), (pw_cell_below (below_alloc (Below.refl _ _) _) u3), (pw_cell_below (below_alloc (Below.refl _ _) _) u4)⟩ (fun hHeld => ?_)
      clear hK K
      refine norm_ (a' := ?_) ?_ ?_
      rotate_left
      · show Act.put _ (some 59) _ = _
        simp only [Act.put, List.setIfInBounds_toArray, List.set_cons_zero, List.set_cons_succ, i64_w, i32_w]
        rfl
      refine last_ (i := 8) (N := some 60) #[true, true, true, true, true, true, true, true, true, false, false, false, false] rfl rfl (by kernel_rfl) (by decide) (fun K hK => ?_)
      refine S_append_one_step kRung (w0 := (wr.drew.alloc (.cells (newC x).toArray 53))) (W := (wr.drew.alloc (.cells (newC x).toArray 53))) B (by rfl) (.tmp 57) (.tmp 59) 22 53 (.agg #[.string ⟨#[]⟩, .slice none 0 0, .slice none 0 0, .string ⟨#[]⟩]) 80 rfl Tryz.underlying22 PPrinterRoundTrip.info53 rfl (Nat.zero_lt_succ 3) (by omega) vr S.rungs (newR x) (newC x) wr.drew.heap.size 53 (fun _ => True) (fun _ => False) (by rfl) (by rfl) (PPrinterRoundTrip.k53_mkM (wr.drew.alloc (.cells (newC x).toArray 53)) B _ (newR x) (Kd.R_nil _ _ _ _ _) (Kd.R_nil _ _ _ _ _)) rfl (blk_new _ _) (fun _ h => h.elim) (fun _ _ => trivial) (Kd.S_mono HPA.out.r (fun _ _ => ⟨trivial, fun h => h⟩)) (Below.refl _ _) HPA.out.sz (by omega) ?_
      intro v1 w5 hr _ hgr _
      obtain ⟨A3, d3, e3, -, -⟩ := Kd.S_reads hr
      obtain rfl : v1 = .slice A3 (S.rungs.length + 1) d3 := by rw [e3, List.length_append, List.length_singleton]
      clear e3
      have HC := Aside0.mk (HPA.out.pushR hr hgr)
      have t5 := HC.out.2.2.1
      have f5 := HC.out.2.2.2
      clear hr hgr
      refine hK.out _ _ ?_
      clear hK K
      refine norm_ (a' := ?_) ?_ ?_
      rotate_left
      · show Act.put _ (some 60) _ = _
        simp only [Act.put, List.setIfInBounds_toArray, List.set_cons_zero, List.set_cons_succ, i64_w, i32_w]
        rfl
      refine pure_ (i := 9) (N := some 61) (v := ?_) (a' := ?_) #[true, true, true, true, true, true, true, true, true, true, false, false, false] rfl rfl (by kernel_rfl) (fun _ _ _ h => h) (Or.inl ⟨by rfl, ?_⟩) ?_ ?_
      rotate_left
      · intro w'
        go_simp
        with_reducible rfl
      rotate_left
      · simp only [Act.put, List.setIfInBounds_toArray, List.set_cons_zero, List.set_cons_succ, i64_w, i32_w]
        rfl
      refine pure_ (i := 10) (N := some 62) (v := ?_) (a' := ?_) #[true, true, true, true, true, true, true, true, true, true, true, false, false] rfl rfl (by kernel_rfl) (fun _ _ _ h => h) (Or.inl ⟨by rfl, ?_⟩) ?_ ?_
      rotate_left
      · intro w'
        go_simp
        with_reducible rfl
      rotate_left
      · simp only [Act.put, List.setIfInBounds_toArray, List.set_cons_zero, List.set_cons_succ, i64_w, i32_w]
        rfl
      refine pure_ (i := 11) (N := some 63) (v := ?_) (a' := ?_) #[true, true, true, true, true, true, true, true, true, true, true, true, false] rfl rfl (by kernel_rfl) (fun _ _ _ h => h) (Or.inl ⟨by rfl, ?_⟩) ?_ ?_
      rotate_left
      · intro w'
        go_simp
        with_reducible rfl
      rotate_left
      · simp only [Act.put, List.setIfInBounds_toArray, List.set_cons_zero, List.set_cons_succ, i64_w, i32_w]
        rfl
      refine last_ (i := 12) (N := none) #[true, true, true, true, true, true, true, true, true, true, true, true, true] rfl rfl (by kernel_rfl) (by decide) (fun K hK => ?_)
      refine skip_ (w1 := ?_) (by rfl) rfl ?_ ?_
      rotate_left
      · go_simp
        rfl
      refine hK.out _ _ ?_
      clear hK K
      refine done_ (by kernel_rfl) ?_
      have HP1 := Aside0.mk HC.out.1
      have HK1 := Aside0.mk (HKD.out.trans (HKA.out.trans HC.out.2.1))
      clear u0 u1 u2 u3 u4 t5 f5 HPA HKA HKD HC
      generalize w5.setCell ⟨gp, 3, none⟩ (.slice A3 (S.rungs.length + 1) d3) = w6 at HP1 HK1 ⊢
      have hl64 : S.lines.length < 64 := by have := HNl.out; omega
      have hj64 : S.jumps.length < 64 := by have := HNj.out; omega
      have p4 : w6.cell? ⟨gp, 4, none⟩ = some vl := blk_cell HP1.out.p 4
      have ltg6 : gp < w6.heap.size := blk_lt HP1.out.p
      go_wp2_with (first
        | ((with_reducible refine gate_builtin (b := .append) (xs := #[.tmp 68, .tmp 70]) rfl ?_)
           at_builtin
           refine Kd.R_append (Kd.int .i64) (w0 := w6) B rfl (.tmp 68) (.tmp 70) 30 3 (.int .i64 0) 8 rfl Tryz.underlying30 (by rfl) rfl (Nat.zero_lt_succ 0) (by omega) vl S.lines n [.int .i64 n] (fun _ => True) (fun _ => False) rfl rfl rfl (fun _ h => h.elim) (fun _ _ => trivial) HP1.out.l (Below.refl _ _) HP1.out.sz (by omega) ?_
           intro v2 w7 hr2 _ hgr2 hat2
           obtain ⟨A4, d4, e4, -, -⟩ := Kd.R_reads hr2
           obtain rfl : v2 = .slice A4 (S.lines.length + 1) d4 := by rw [e4, List.length_append, List.length_singleton]
           clear e4
           have HC2 := Aside0.mk (HP1.out.pushL hr2 hgr2 hat2)
           have t6 := HC2.out.2.2.1
           have f6 := HC2.out.2.2.2
           have p5 : (w7.setCell ⟨gp, 4, none⟩ (.slice A4 (S.lines.length + 1) d4)).cell? ⟨gp, 5, none⟩ = some vj := blk_cell HC2.out.1.p 5
           clear hr2 hgr2 hat2)
        | ((with_reducible refine gate_builtin (b := .append) (xs := #[.tmp 78, .tmp 79]) rfl ?_)
           at_builtin
           refine Kd.R_append (Kd.int .i64) (w0 := w7.setCell ⟨gp, 4, none⟩ (.slice A4 (S.lines.length + 1) d4)) B rfl (.tmp 78) (.tmp 79) 30 3 (.int .i64 0) 8 rfl Tryz.underlying30 (by rfl) rfl (Nat.zero_lt_succ 0) (by omega) vj S.jumps 0 [.int .i64 0] (fun _ => True) (fun _ => False) rfl (by rw [nblk_setC]; rfl) rfl (fun _ h => h.elim) (fun _ _ => trivial) HC2.out.1.j (Below.refl _ _) HC2.out.1.sz (by omega) ?_
           intro v3 w8 hr3 _ hgr3 hat3
           obtain ⟨A5, d5, e5, -, -⟩ := Kd.R_reads hr3
           obtain rfl : v3 = .slice A5 (S.jumps.length + 1) d5 := by rw [e5, List.length_append, List.length_singleton]
           clear e5
           have HC3 := Aside0.mk (HC2.out.1.pushJ hr3 hgr3 hat3)
           have t7 := HC3.out.2.2.1
           have f7 := HC3.out.2.2.2
           clear hr3 hgr3 hat3))
      go_ret
      rw [HT.out]
      exact ⟨rfl, HK1.out.trans (HC2.out.2.1.trans HC3.out.2.1), fun _ => ⟨_, _, _, HC3.out.1.pg (by simp [HNl.out]) (by simp [HNj.out]) (by simp; omega)⟩⟩
end Go.Proofs.YtolmkdhgnganaaaGreatDoor.H
namespace Go.Proofs.YtolmkdhgnganaaaGreatDoor.H
open Go Go.RowKit Go.Proofs Go.Proofs.YtolmkdhgnganaaaGreatDoorW.PrintWords Go.Proofs.YtolmkdhgnganaaaGreatDoorW.PrintLast Go.Proofs.YtolmkdhgnganaaaGreatDoorW.PrintMore Go.Proofs.YtolmkdhgnganaaaGreatDoor.Sp
theorem ba_beq (a b : ByteArray) : (a == b) = (a.data == b.data) := by
  cases a; cases b; rfl
theorem ba_eq {a b : ByteArray} (h : (a == b) = true) : a = b := by
  rw [ba_beq] at h
  exact ByteArray.ext (eq_of_beq h)
theorem ba_refl (a : ByteArray) : (a == a) = true := by
  rw [ba_beq]; exact beq_self_eq_true _
/-- What the reference sees of a line's first word. -/
structure KwFacts (x : ByteArray) (bs br bj : Bool) (c o : Int) : Prop where
  s : (x.toList == [115, 105, 122, 101]) = bs
  r : (x.toList == [114, 117, 110, 103]) = br
  j : (x.toList == [106, 117, 109, 112]) = bj
  c : findL kwC x = c
  o : findL kwO x = o
theorem beq_ne {x y : ByteArray} (h : ¬ (x == y) = true) : (x.toList == y.toList) = false := by
  rw [beq_eq_false_iff_ne]
  intro e
  apply h
  rw [toList_data, toList_data] at e
  rw [bytes_ext e]
  exact ba_refl y
theorem beq_ne' {x y : ByteArray} (h : ¬ (x == y) = true) : (y.toList == x.toList) = false := by
  have := beq_ne h
  rw [beq_eq_false_iff_ne] at this ⊢
  exact fun e => this e.symm
theorem beqL_ne {x : ByteArray} {l : List UInt8} (h : ¬ (x == ⟨l.toArray⟩) = true) : (x.toList == l) = false := by
  have := beq_ne h
  rw [toList_data ⟨l.toArray⟩] at this
  exact this
theorem kind_no {x : ByteArray} (h : kindOf x = none) : KwFacts x false false false (-1) (-1) := by
  unfold kindOf at h
  repeat' split at h
  all_goals (first | cases h | skip)
  rename_i h0 h1 h2 h3 h4 h5 h6 h7 h8 h9 h10
  refine ⟨beqL_ne h0, beqL_ne h1, beqL_ne h2, findL_none fun j hj => ?_, findL_none fun j hj => ?_⟩
  · have hj : j < 4 := hj
    match j, hj with
    | 0, _ => exact beq_ne' h3
    | 1, _ => exact beq_ne' h4
    | 2, _ => exact beq_ne' h5
    | 3, _ => exact beq_ne' h6
  · have hj : j < 4 := hj
    match j, hj with
    | 0, _ => exact beq_ne' h7
    | 1, _ => exact beq_ne' h8
    | 2, _ => exact beq_ne' h9
    | 3, _ => exact beq_ne' h10
theorem kind_is {x : ByteArray} {k : Nat} (h : kindOf x = some k) :
    (k = 0 ∧ KwFacts x true false false (-1) (-1)) ∨ (k = 1 ∧ KwFacts x false true false (-1) (-1)) ∨ (k = 2 ∧ KwFacts x false false true (-1) (-1)) ∨
    (k = 3 ∧ 0 ≤ kwIx kwC x ∧ KwFacts x false false false (kwIx kwC x) (-1)) ∨ (k = 4 ∧ 0 ≤ kwIx kwO x ∧ KwFacts x false false false (-1) (kwIx kwO x)) := by
  unfold kindOf at h
  split at h
  · rename_i hq; cases h; obtain rfl := ba_eq hq
    exact .inl ⟨rfl, ⟨by decide +kernel, by decide +kernel, by decide +kernel, by decide +kernel, by decide +kernel⟩⟩
  split at h
  · rename_i hq; cases h; obtain rfl := ba_eq hq
    exact .inr (.inl ⟨rfl, ⟨by decide +kernel, by decide +kernel, by decide +kernel, by decide +kernel, by decide +kernel⟩⟩)
  split at h
  · rename_i hq; cases h; obtain rfl := ba_eq hq
    exact .inr (.inr (.inl ⟨rfl, ⟨by decide +kernel, by decide +kernel, by decide +kernel, by decide +kernel, by decide +kernel⟩⟩))
  iterate 4
    split at h
    · rename_i hq; cases h; obtain rfl := ba_eq hq
      exact .inr (.inr (.inr (.inl ⟨rfl, by decide +kernel, ⟨by decide +kernel, by decide +kernel, by decide +kernel, by decide +kernel, by decide +kernel⟩⟩)))
  iterate 4
    split at h
    · rename_i hq; cases h; obtain rfl := ba_eq hq
      exact .inr (.inr (.inr (.inr ⟨rfl, by decide +kernel, ⟨by decide +kernel, by decide +kernel, by decide +kernel, by decide +kernel, by decide +kernel⟩⟩)))
  cases h
end Go.Proofs.YtolmkdhgnganaaaGreatDoor.H
namespace Go.Proofs.YtolmkdhgnganaaaGreatDoor.H
open Go Go.RowKit Go.Proofs Go.Proofs.YtolmkdhgnganaaaGreatDoorW.PrintWords Go.Proofs.YtolmkdhgnganaaaGreatDoorW.PrintLast Go.Proofs.YtolmkdhgnganaaaGreatDoorW.PrintMore Go.Proofs.YtolmkdhgnganaaaGreatDoor.Sp
/-- The call's box and the parser. -/
structure DoG (B gp gl : Nat) (S : PSt) (vr vl vj : Value) (n : Int) (lv : Value) (w wr : World) : Prop where
  b : Below w.heap.size w wr
  p : PG B gp S vr vl vj wr
  l : wr.heap[gl]? = some (.cells #[.int .i64 n, lv] 104 (0, 0))
theorem DoG.below {B gp gl : Nat} {S : PSt} {vr vl vj : Value} {n : Int} {lv : Value} {w wr w1 : World} (h : DoG B gp gl S vr vl vj n lv w wr) (hb : Below wr.heap.size wr w1) : DoG B gp gl S vr vl vj n lv w w1 :=
  ⟨below_step h.b hb, h.p.below hb, blk_below h.l hb⟩
theorem KwRow.at {base : Nat} {kw : List ByteArray} {g cap : Nat} {w : World} (h : KwRow base kw g cap w) (j : Nat) (hj : j < 4) : w.cell? ⟨g, j, none⟩ = some (.string (kw.getD j ⟨#[]⟩)) := by
  obtain ⟨_, _, cur, h1, h2⟩ := h
  rw [show w.cell? ⟨g, j, none⟩ = cur[j]? from blk_cell h1 j]
  exact h2 j hj
/-- Behind the store of a rung's jump. -/
theorem PG.jumpR {B gp g n cap : Nat} {S : PSt} {vl vj : Value} {w : World} (h : PG B gp S (.slice (some ⟨g, 0, none⟩) n cap) vl vj w) (k : Nat) (hk : k < n) (s : ByteArray) :
    PG B gp ⟨S.i, S.q, S.m, S.sized, S.rungs.set k ⟨(rdR S.rungs k).f0, (rdR S.rungs k).f1, (rdR S.rungs k).f2, s⟩, S.lines, S.jumps⟩ (.slice (some ⟨g, 0, none⟩) n cap) vl vj (w.setCell ⟨g, k * 4 + 3, none⟩ (.string s)) ∧ KQ B w (w.setCell ⟨g, k * 4 + 3, none⟩ (.string s)) := by
  obtain ⟨hS, hg⟩ := S_jump h.r k hk s
  have hgb : B ≤ g := Kd.S_base h.r g rfl
  obtain ⟨cg, htg⟩ := Kd.S_typed h.r g rfl
  have ngp : gp ≠ g := fun e => by have := h.p; rw [e, htg] at this; cases this
  have hp1 := blk_far h.p (p := ⟨g, k * 4 + 3, none⟩) ngp (.string s)
  exact ⟨⟨h.gb, by have := h.sz; simpa using this, hp1, hS, Kd.R_set h.l htg (by decide) (k * 4 + 3) (.string s), Kd.R_set h.j htg (by decide) (k * 4 + 3) (.string s), h.lj, by rw [List.length_set]; exact h.nl, by rw [List.length_set]; exact h.nj, by rw [List.length_set]; exact h.n64⟩, KQ.set hgb htg (by rfl) _⟩
/-- Behind the store of a jump's line. -/
theorem PG.jumpJ {B gp gj nj cj : Nat} {S : PSt} {vr vl : Value} {w : World} (h : PG B gp S vr vl (.slice (some ⟨gj, 0, none⟩) nj cj) w) (k : Nat) (hk : k < nj) (x : Int) :
    PG B gp ⟨S.i, S.q, S.m, S.sized, S.rungs, S.lines, S.jumps.set k x⟩ vr vl (.slice (some ⟨gj, 0, none⟩) nj cj) (w.setCell ⟨gj, k, none⟩ (.int .i64 x)) ∧ KQ B w (w.setCell ⟨gj, k, none⟩ (.int .i64 x)) := by
  have hjb : B ≤ gj := Kd.R_base h.j gj rfl
  obtain ⟨cj', htj⟩ := Kd.R_typed h.j gj rfl
  have ngj : gp ≠ gj := fun e => by have := h.p; rw [e, htj] at this; cases this
  have hnj : nj = S.jumps.length := (Kd.R_reads' h.j).1
  subst hnj
  have hj2 := Kd.R_put h.j (k : Int) x
  exact ⟨⟨h.gb, by have := h.sz; simpa using this, blk_far h.p (p := ⟨gj, k, none⟩) ngj _, Kd.S_set h.r htj (by decide) k _, R_int_far h.l (fun i hi e => h.lj i hi (by rw [e]; rfl)) _, hj2.1, h.lj, h.nl, by rw [List.length_set]; exact h.nj, h.n64⟩, KQ.set hjb htj (by rfl) _⟩
set_option maxHeartbeats 4000000 in
set_option maxRecDepth 100000 in
theorem do9_p {B gp : Nat} {S : PSt} {vr vl vj : Value} {w : World} (h : PG B gp S vr vl vj w) (n : Int) (b nw wc : Nat) (ws : List ByteArray) (hw : Kd.string.R 9 w B (fun _ => True) (.slice (some ⟨b, 0, none⟩) nw wc) ws)
    (hsz : ∀ j, (ws.getD j ⟨#[]⟩).size ≤ 65536) (hnw : 0 < nw) (hc : Caps S) :
    Calls Tryz.prog 50 #[.pointer (some ⟨gp, 0, none⟩), .agg #[.int .i64 n, .slice (some ⟨b, 0, none⟩) nw wc]] w (ParQ B gp w (lineS S n ws)) := by
  have hlen : nw = ws.length := (Kd.R_reads' hw).1
  have HLen := Aside0.mk hlen
  generalize hr : lineS S n ws = r
  have HR := Aside0.mk hr
  have H := Aside0.mk h
  have HW := Aside0.mk hw
  have HSz := Aside0.mk hsz
  have HCp := Aside0.mk hc
  generalize hx0 : ws.getD 0 ⟨#[]⟩ = x0
  have HX0 := Aside0.mk hx0
  have F0 : Aside0 (DoG B gp w.heap.size S vr vl vj n (.slice (some ⟨b, 0, none⟩) nw wc) w (w.alloc (.cells #[.int .i64 n, .slice (some ⟨b, 0, none⟩) nw wc] 104))) := ⟨by
    have hb := below_alloc (Below.refl w.heap.size w) (.cells #[.int .i64 n, .slice (some ⟨b, 0, none⟩) nw wc] 104)
    exact ⟨hb, h.below hb, blk_new _ _⟩⟩
  have hnw' : (0 : Int) < nw := by omega
  clear h hw hlen hr hsz hc hx0
  go_enter Tryz.func50, Tryz.ntmps50
  go_wp2_with fail
  generalize hgl : w.heap.size = gl at F0 ⊢
  generalize w.alloc (.cells #[.int .i64 n, .slice (some ⟨b, 0, none⟩) nw wc] 104) = w1 at F0 ⊢
  clear hgl
  have F1 := Aside0.mk (F0.out.below (below_drew (Below.refl _ _)))
  have u0 : w1.drew.cell? ⟨b, 0, none⟩ = some (.string x0) := HX0.out ▸ words_cell (Kd.R_below HW.out F1.out.b) 0 (by omega)
  have HK := Aside0.mk (fun W => conKw9_b W)
  refine start_ (n := 6) (S := fun w' => w'.cell? ⟨b, 0, none⟩ = some (.string x0)) (ds := []) #[false, false, false, false, false, false] (by kernel_rfl) rfl rfl (u0) (fun hHeld => ?_)
  refine pure_ (i := 1) (N := some 14) (v := ?_) (a' := ?_) #[false, true, false, false, false, false] rfl rfl (by kernel_rfl) (fun _ _ _ h => h) (Or.inl ⟨by rfl, ?_⟩) ?_ ?_
  rotate_left
  · intro w'
    go_simp
    with_reducible rfl
  rotate_left
  · simp only [Act.put, List.setIfInBounds_toArray, List.set_cons_zero, List.set_cons_succ, i64_w, i32_w]
    rfl
  refine pure_ (i := 2) (N := some 15) (v := ?_) (a' := ?_) #[false, true, true, false, false, false] rfl rfl (by kernel_rfl) (fun _ _ _ h => h) (Or.inl ⟨by rfl, ?_⟩) ?_ ?_
  rotate_left
  · intro w'
    go_simp
    with_reducible rfl
  rotate_left
  · simp only [Act.put, List.setIfInBounds_toArray, List.set_cons_zero, List.set_cons_succ, i64_w, i32_w]
    rfl
  refine take_ (i := 3) (N := some 16) (v := ?_) (a' := ?_) #[false, true, true, true, false, false] rfl rfl (by kernel_rfl) (fun _ _ _ h => h) (Or.inl ⟨by rfl, ?_⟩) hHeld ?_ ?_
  rotate_left
  · intro w' s0
    go_simp
    with_reducible rfl
  rotate_left
  · simp only [Act.put, List.setIfInBounds_toArray, List.set_cons_zero, List.set_cons_succ, i64_w, i32_w]
    rfl
  refine one_ (i := 0) (N := some 13) #[true, true, true, true, false, false] rfl rfl (by kernel_rfl) (by decide) (fun K hK => ?_)
  refine goes_ Tryz.func21 (by kernel_rfl) rfl #[] (by rfl) rfl rfl (by first | (simp only [List.map_toArray, List.map_cons, List.map_nil]; done) | (simp only [List.map_toArray, List.map_cons, List.map_nil]; rfl)) ?_
  with_reducible refine (HK.out _).mono ?_
  rintro e_ w2 ⟨gk, ck, rfl, hrow, hb⟩
  refine ⟨_, rfl, ?_⟩
  have F2 := Aside0.mk (F1.out.below hb)
  have HRow := Aside0.mk hrow
  refine hK.out _ _ ((pw_cell_below hb hHeld)) (fun hHeld => ?_)
  clear hK K
  refine norm_ (a' := ?_) ?_ ?_
  rotate_left
  · show Act.put _ (some 13) _ = _
    simp only [Act.put, List.setIfInBounds_toArray, List.set_cons_zero, List.set_cons_succ, i64_w, i32_w]
    rfl
  refine one_ (i := 4) (N := some 17) #[true, true, true, true, true, false] rfl rfl (by kernel_rfl) (by decide) (fun K hK => ?_)
  refine goes_ Tryz.func76 (by kernel_rfl) rfl #[.slice (some ⟨gk, 0, none⟩) 4 ck, .string x0] (by rfl) rfl rfl (by first | (simp only [List.map_toArray, List.map_cons, List.map_nil]; done) | (simp only [List.map_toArray, List.map_cons, List.map_nil]; rfl)) ?_
  with_reducible refine (find_b gk 4 ck kwC rfl (by omega) x0 _ (fun j hj => HRow.out.at j hj)).mono ?_
  rintro e_ w3 ⟨rfl, hb⟩
  refine ⟨_, rfl, ?_⟩
  have F3 := Aside0.mk (F2.out.below hb)
  refine hK.out _ _ ((pw_cell_below hb hHeld)) (fun hHeld => ?_)
  clear hK K
  refine norm_ (a' := ?_) ?_ ?_
  rotate_left
  · show Act.put _ (some 17) _ = _
    simp only [Act.put, List.setIfInBounds_toArray, List.set_cons_zero, List.set_cons_succ, i64_w, i32_w]
    rfl
  refine pure_ (i := 5) (N := some 6) (v := ?_) (a' := ?_) #[true, true, true, true, true, true] rfl rfl (by kernel_rfl) (fun _ _ _ h => h) (Or.inl ⟨by rfl, ?_⟩) ?_ ?_
  rotate_left
  · intro w'
    go_simp
    with_reducible rfl
  rotate_left
  · simp only [Act.put, List.setIfInBounds_toArray, List.set_cons_zero, List.set_cons_succ, i64_w, i32_w]
    rfl
  refine done_ (by kernel_rfl) ?_
  clear hHeld u0 F1 HRow HK
  generalize hcI : findL kwC x0 = cI
  have HCI := Aside0.mk hcI
  clear hcI
  go_wp2_with fail
  have F4 := Aside0.mk (F3.out.below (below_drew (Below.refl _ _)))
  have u0 : w3.drew.cell? ⟨b, 0, none⟩ = some (.string x0) := HX0.out ▸ words_cell (Kd.R_below HW.out F4.out.b) 0 (by omega)
  have HK := Aside0.mk (fun W => coilKw9_b W)
  refine start_ (n := 6) (S := fun w' => w'.cell? ⟨b, 0, none⟩ = some (.string x0)) (ds := []) #[false, false, false, false, false, false] (by kernel_rfl) rfl rfl (u0) (fun hHeld => ?_)
  refine pure_ (i := 1) (N := some 19) (v := ?_) (a' := ?_) #[false, true, false, false, false, false] rfl rfl (by kernel_rfl) (fun _ _ _ h => h) (Or.inl ⟨by rfl, ?_⟩) ?_ ?_
  rotate_left
  · intro w'
    go_simp
    with_reducible rfl
  rotate_left
  · simp only [Act.put, List.setIfInBounds_toArray, List.set_cons_zero, List.set_cons_succ, i64_w, i32_w]
    rfl
  refine pure_ (i := 2) (N := some 20) (v := ?_) (a' := ?_) #[false, true, true, false, false, false] rfl rfl (by kernel_rfl) (fun _ _ _ h => h) (Or.inl ⟨by rfl, ?_⟩) ?_ ?_
  rotate_left
  · intro w'
    go_simp
    with_reducible rfl
  rotate_left
  · simp only [Act.put, List.setIfInBounds_toArray, List.set_cons_zero, List.set_cons_succ, i64_w, i32_w]
    rfl
  refine take_ (i := 3) (N := some 21) (v := ?_) (a' := ?_) #[false, true, true, true, false, false] rfl rfl (by kernel_rfl) (fun _ _ _ h => h) (Or.inl ⟨by rfl, ?_⟩) hHeld ?_ ?_
  rotate_left
  · intro w' s0
    go_simp
    with_reducible rfl
  rotate_left
  · simp only [Act.put, List.setIfInBounds_toArray, List.set_cons_zero, List.set_cons_succ, i64_w, i32_w]
    rfl
  refine one_ (i := 0) (N := some 18) #[true, true, true, true, false, false] rfl rfl (by kernel_rfl) (by decide) (fun K hK => ?_)
  refine goes_ Tryz.func23 (by kernel_rfl) rfl #[] (by rfl) rfl rfl (by first | (simp only [List.map_toArray, List.map_cons, List.map_nil]; done) | (simp only [List.map_toArray, List.map_cons, List.map_nil]; rfl)) ?_
  with_reducible refine (HK.out _).mono ?_
  rintro e_ w5 ⟨gk2, ck2, rfl, hrow, hb⟩
  refine ⟨_, rfl, ?_⟩
  have F5 := Aside0.mk (F4.out.below hb)
  have HRow := Aside0.mk hrow
  refine hK.out _ _ ((pw_cell_below hb hHeld)) (fun hHeld => ?_)
  clear hK K
  refine norm_ (a' := ?_) ?_ ?_
  rotate_left
  · show Act.put _ (some 18) _ = _
    simp only [Act.put, List.setIfInBounds_toArray, List.set_cons_zero, List.set_cons_succ, i64_w, i32_w]
    rfl
  refine one_ (i := 4) (N := some 22) #[true, true, true, true, true, false] rfl rfl (by kernel_rfl) (by decide) (fun K hK => ?_)
  refine goes_ Tryz.func76 (by kernel_rfl) rfl #[.slice (some ⟨gk2, 0, none⟩) 4 ck2, .string x0] (by rfl) rfl rfl (by first | (simp only [List.map_toArray, List.map_cons, List.map_nil]; done) | (simp only [List.map_toArray, List.map_cons, List.map_nil]; rfl)) ?_
  with_reducible refine (find_b gk2 4 ck2 kwO rfl (by omega) x0 _ (fun j hj => HRow.out.at j hj)).mono ?_
  rintro e_ w6 ⟨rfl, hb⟩
  refine ⟨_, rfl, ?_⟩
  have F6 := Aside0.mk (F5.out.below hb)
  refine hK.out _ _ ((pw_cell_below hb hHeld)) (fun hHeld => ?_)
  clear hK K
  refine norm_ (a' := ?_) ?_ ?_
  rotate_left
  · show Act.put _ (some 22) _ = _
    simp only [Act.put, List.setIfInBounds_toArray, List.set_cons_zero, List.set_cons_succ, i64_w, i32_w]
    rfl
  refine pure_ (i := 5) (N := some 7) (v := ?_) (a' := ?_) #[true, true, true, true, true, true] rfl rfl (by kernel_rfl) (fun _ _ _ h => h) (Or.inl ⟨by rfl, ?_⟩) ?_ ?_
  rotate_left
  · intro w'
    go_simp
    with_reducible rfl
  rotate_left
  · simp only [Act.put, List.setIfInBounds_toArray, List.set_cons_zero, List.set_cons_succ, i64_w, i32_w]
    rfl
  refine done_ (by kernel_rfl) ?_
  clear hHeld u0 F4 HRow HK F0 F2 F3 F5
  generalize hoI : findL kwO x0 = oI
  have HOI := Aside0.mk hoI
  clear hoI
  have z0 : w6.cell? ⟨b, 0, none⟩ = some (.string x0) := HX0.out ▸ words_cell (Kd.R_below HW.out F6.out.b) 0 (by omega)
  have p6 : w6.cell? ⟨gp, 6, none⟩ = some (.bool S.sized) := blk_cell F6.out.p.p 6
  have p3 : w6.cell? ⟨gp, 3, none⟩ = some vr := blk_cell F6.out.p.p 3
  have ltg : gp < w6.heap.size := blk_lt F6.out.p.p
  cases hk : kindOf x0 with
  | none =>
    obtain rfl : r = (S, 8) := by rw [← HR.out, lineS, HX0.out, hk]
    have hf := kind_no hk
    obtain rfl : cI = -1 := by rw [← HCI.out]; exact hf.c
    obtain rfl : oI = -1 := by rw [← HOI.out]; exact hf.o
    have s1 := hf.s
    have s2 : ¬ x0.toList = [115, 105, 122, 101] := by simpa using s1
    have r1 := hf.r
    have r2 : ¬ x0.toList = [114, 117, 110, 103] := by simpa using r1
    have j1 := hf.j
    have j2 : ¬ x0.toList = [106, 117, 109, 112] := by simpa using j1
    clear hf hk
    go_wp2_with fail
    go_ret
    exact ⟨rfl, KQ.of_below H.out.sz F6.out.b, fun e => by cases e⟩
  | some k =>
    have HKd := Aside0.mk hk
    rcases kind_is hk with ⟨rfl, hf⟩ | ⟨rfl, hf⟩ | ⟨rfl, hf⟩ | ⟨rfl, hc0, hf⟩ | ⟨rfl, ho0, hf⟩
    · obtain rfl : cI = -1 := by rw [← HCI.out]; exact hf.c
      obtain rfl : oI = -1 := by rw [← HOI.out]; exact hf.o
      have s1 := hf.s
      have s2 : x0.toList = [115, 105, 122, 101] := by simpa using s1
      clear hf hk
      by_cases h4 : nw = 4
      · subst h4
        have HCall := Aside0.mk (size9_p F6.out.p b wc ws (Kd.R_below HW.out F6.out.b) HSz.out)
        rw [show sizeS S ws = r by rw [← HR.out, lineS, HX0.out, HKd.out]; simp only []; rw [if_neg (by rw [← HLen.out]; simp)]] at HCall
        go_wp2_with fail
        refine HCall.out.mono ?_
        rintro e w2 ⟨rfl, hk, hp⟩
        go_wp2
        go_ret
        exact ⟨rfl, (KQ.of_below H.out.sz F6.out.b).trans hk, hp⟩
      · obtain rfl : r = (S, 6) := by rw [← HR.out, lineS, HX0.out, HKd.out]; simp only []; rw [if_pos (by rw [← HLen.out]; exact h4)]
        have h4i : ¬ (nw : Int) = 4 := by omega
        have h4b : ((nw : Int) != 4) = true := by simpa using h4i
        go_wp2_with fail
        go_ret
        exact ⟨rfl, KQ.of_below H.out.sz F6.out.b, fun e => by cases e⟩
    · obtain rfl : cI = -1 := by rw [← HCI.out]; exact hf.c
      obtain rfl : oI = -1 := by rw [← HOI.out]; exact hf.o
      have s1 := hf.s
      have s2 : ¬ x0.toList = [115, 105, 122, 101] := by simpa using s1
      have r1 := hf.r
      have r2 : x0.toList = [114, 117, 110, 103] := by simpa using r1
      clear hf hk
      by_cases h3 : 2 < nw
      · obtain rfl : r = (S, 6) := by rw [← HR.out, lineS, HX0.out, HKd.out]; simp only []; rw [if_pos (by rw [← HLen.out]; exact h3)]
        have n1 : ((nw : Int) == 1) = false := by simp; omega
        have n1i : ¬ (nw : Int) = 1 := by omega
        have n2 : ((nw : Int) != 2) = true := by simp; omega
        have n2i : ¬ (nw : Int) = 2 := by omega
        go_wp2_with fail
        go_ret
        exact ⟨rfl, KQ.of_below H.out.sz F6.out.b, fun e => by cases e⟩
      · cases hsz : S.sized with
        | false =>
          obtain rfl : r = (S, 11) := by rw [← HR.out, lineS, HX0.out, HKd.out]; simp only []; rw [if_neg (by rw [← HLen.out]; exact h3), if_pos hsz]
          rw [hsz] at p6
          have : nw = 1 ∨ nw = 2 := by omega
          rcases this with rfl | rfl <;> (go_wp2_with fail) <;> go_ret <;> exact ⟨rfl, KQ.of_below H.out.sz F6.out.b, fun e => by cases e⟩
        | true =>
          have HCall := Aside0.mk (rung9_p F6.out.p n b nw wc ws (Kd.R_below HW.out F6.out.b))
          rw [show beginS S n ws = r by rw [← HR.out, lineS, HX0.out, HKd.out]; simp only []; rw [if_neg (by rw [← HLen.out]; exact h3), if_neg (by rw [hsz]; simp)]] at HCall
          rw [hsz] at p6
          have l0 : w6.cell? ⟨gl, 0, none⟩ = some (.int .i64 n) := blk_cell F6.out.l 0
          have : nw = 1 ∨ nw = 2 := by omega
          rcases this with rfl | rfl
          all_goals
            go_wp2_with fail
            refine HCall.out.mono ?_
            rintro e w2 ⟨rfl, hk, hp⟩
            go_wp2
            go_ret
            exact ⟨rfl, (KQ.of_below H.out.sz F6.out.b).trans hk, hp⟩
    · obtain rfl : cI = -1 := by rw [← HCI.out]; exact hf.c
      obtain rfl : oI = -1 := by rw [← HOI.out]; exact hf.o
      have s1 := hf.s
      have s2 : ¬ x0.toList = [115, 105, 122, 101] := by simpa using s1
      have r1 := hf.r
      have r2 : ¬ x0.toList = [114, 117, 110, 103] := by simpa using r1
      have j1 := hf.j
      have j2 : x0.toList = [106, 117, 109, 112] := by simpa using j1
      clear hf hk
      by_cases h4 : nw = 2
      · subst h4
        cases hsz : S.sized with
        | false =>
          obtain rfl : r = (S, 11) := by rw [← HR.out, lineS, HX0.out, HKd.out]; simp only []; rw [if_neg (by rw [← HLen.out]; simp), if_pos (.inl hsz)]
          rw [hsz] at p6
          go_wp2_with fail
          go_ret
          exact ⟨rfl, KQ.of_below H.out.sz F6.out.b, fun e => by cases e⟩
        | true =>
          rw [hsz] at p6
          by_cases hn0 : S.rungs.length = 0
          · obtain rfl : r = (S, 11) := by rw [← HR.out, lineS, HX0.out, HKd.out]; simp only []; rw [if_neg (by rw [← HLen.out]; simp), if_pos (.inr hn0)]
            obtain ⟨A, c, rfl, -, -⟩ := Kd.S_reads F6.out.p.r
            rw [hn0] at p3
            go_wp2_with fail
            go_ret
            exact ⟨rfl, KQ.of_below H.out.sz F6.out.b, fun e => by cases e⟩
          · obtain ⟨g, cap, rfl, -, -, -⟩ := Kd.S_form F6.out.p.r (by omega)
            have hJS : jumpS S n ws = r := by rw [← HR.out, lineS, HX0.out, HKd.out]; simp only []; rw [if_neg (by rw [← HLen.out]; simp), if_neg (by rw [hsz]; simp; exact fun e => hn0 (by rw [e]; rfl))]
            obtain ⟨k, hkk⟩ : ∃ k, k = S.rungs.length - 1 := ⟨_, rfl⟩
            have hk1 : k < S.rungs.length := by omega
            have HKK := Aside0.mk hkk
            have HJS := Aside0.mk hJS
            have hn64 := F6.out.p.n64
            have hnl : (S.rungs.length : Int) = (k : Int) + 1 := by omega
            have hw1 : wrap64 ((k : Int) + 1 - 1) = (k : Int) := by rw [show (k : Int) + 1 - 1 = k by omega]; exact w64 (by omega) (by omega)
            have hnj := F6.out.p.nj
            obtain ⟨gj, cj, ej, -, -, -⟩ := Kd.R_form F6.out.p.j (by omega)
            subst ej
            generalize hx1 : ws.getD 1 ⟨#[]⟩ = x1
            have HX1 := Aside0.mk hx1
            obtain ⟨_, _, -, -, -, q3, -, -, -⟩ := S_cells4 F6.out.p.r k hk1
            have z1 : w6.cell? ⟨b, 1, none⟩ = some (.string x1) := hx1 ▸ words_cell (Kd.R_below HW.out F6.out.b) 1 (by omega)
            clear hx1 hJS hkk hnj
            have hw2 : wrap64 ((S.rungs.length : Int) - 1) = (S.rungs.length : Int) - 1 := w64 (by omega) (by omega)
            have hn1 : (1 : Int) ≤ S.rungs.length := by omega
            have hn0b : ((S.rungs.length : Int) == 0) = false := by simp; exact fun e => hn0 (by rw [e]; rfl)
            have hn0i : ¬ (S.rungs.length : Int) = 0 := by omega
            have q3' : w6.cell? ⟨g, (S.rungs.length - 1) * 4 + 3, none⟩ = some (.string (rdR S.rungs (k : Int)).f3) := HKK.out ▸ q3
            clear q3 hw1 hnl
            cases hjf : (rdR S.rungs (k : Int)).f3.toList.isEmpty with
            | false =>
              obtain rfl : r = (S, 9) := by rw [← HJS.out, jumpS, ← HKK.out, if_pos hjf]
              have hj2 : ¬ (rdR S.rungs (k : Int)).f3.toList = [] := fun e => by rw [e] at hjf; cases hjf
              generalize (rdR S.rungs (k : Int)).f3 = f3 at q3' hjf hj2
              go_wp2_with fail
              go_ret
              exact ⟨rfl, KQ.of_below H.out.sz F6.out.b, fun e => by cases e⟩
            | true =>
              have hj2 : (rdR S.rungs (k : Int)).f3.toList = [] := by simpa using hjf
              have HJf := Aside0.mk hjf
              have q4 : w6.cell? ⟨g, (S.rungs.length - 1) * 4 + 3, none⟩ = some (.string ⟨#[]⟩) := by
                rw [q3']
                congr 2
                exact bytes_ext (by rw [toList_data] at hj2; rw [hj2])
              clear q3' hj2 hjf
              have HNm := Aside0.mk (fun W => isName9_b x1 W)
              cases hx : isNm x1.data.toList with
              | false =>
                obtain rfl : r = (S, 6) := by rw [← HJS.out, jumpS, ← HKK.out, if_neg (by rw [HJf.out]; simp), HX1.out, if_pos hx]
                rw [hx] at HNm
                go_wp2_with fail
                refine (HNm.out _).mono ?_
                rintro e w7 ⟨rfl, hb⟩
                go_wp2
                go_ret
                exact ⟨rfl, KQ.of_below H.out.sz (below_step F6.out.b hb), fun e => by cases e⟩
              | true =>
                have HO : Aside0 (r = (⟨S.i, S.q, S.m, S.sized, S.rungs.set k ⟨(rdR S.rungs k).f0, (rdR S.rungs k).f1, (rdR S.rungs k).f2, x1⟩, S.lines, S.jumps.set k n⟩, 0)) := ⟨by rw [← HJS.out, jumpS, ← HKK.out, if_neg (by rw [HJf.out]; simp), HX1.out, if_neg (by rw [hx]; simp)]⟩
                rw [hx] at HNm
                go_wp2_with fail
                refine (HNm.out _).mono ?_
                rintro e w7 ⟨rfl, hb⟩
                have F7 := Aside0.mk (F6.out.below hb)
                clear hb F6 q4 z1 z0 p6 p3 ltg
                have z1 : w7.cell? ⟨b, 1, none⟩ = some (.string x1) := HX1.out ▸ words_cell (Kd.R_below HW.out F7.out.b) 1 (by omega)
                obtain ⟨_, _, -, -, -, q3, xf, -, -⟩ := S_cells4 F7.out.p.r k hk1
                have q4 : w7.cell? ⟨g, (S.rungs.length - 1) * 4 + 3, none⟩ = some (.string (rdR S.rungs (k : Int)).f3) := HKK.out ▸ q3
                have q5 : w7.frozen? ⟨g, (S.rungs.length - 1) * 4 + 3, none⟩ = false := HKK.out ▸ xf 3
                generalize (rdR S.rungs (k : Int)).f3 = f3 at q4
                have HP1 := Aside0.mk (F7.out.p.jumpR k hk1 x1)
                clear q3 xf
                go_wp2_with fail
                have KD := below_drew (Below.refl (w7.setCell ⟨g, (S.rungs.length - 1) * 4 + 3, none⟩ (.string x1)).heap.size (w7.setCell ⟨g, (S.rungs.length - 1) * 4 + 3, none⟩ (.string x1)))
                have HP1' := Aside0.mk (show PG B gp _ _ _ _ (w7.setCell ⟨g, (S.rungs.length - 1) * 4 + 3, none⟩ (.string x1)) from HKK.out ▸ HP1.out.1)
                have HK1' := Aside0.mk (show KQ B w7 (w7.setCell ⟨g, (S.rungs.length - 1) * 4 + 3, none⟩ (.string x1)) from HKK.out ▸ HP1.out.2)
                have HL1 := Aside0.mk (HK1'.out.blk F7.out.l (by rfl))
                generalize w7.setCell ⟨g, (S.rungs.length - 1) * 4 + 3, none⟩ (.string x1) = w8 at KD HP1' HK1' HL1 ⊢
                have HP2 := Aside0.mk (HP1'.out.below KD)
                have HL2 := Aside0.mk (blk_below HL1.out KD)
                have hnj := HP2.out.nj
                simp only [List.length_set] at hnj
                have hnjx : ((S.rungs.length : Int) - 1) < S.jumps.length := by have := F7.out.p.nj; omega
                have u0 : w8.drew.cell? ⟨gp, 5, none⟩ = some (.slice (some ⟨gj, 0, none⟩) S.jumps.length cj) := blk_cell HP2.out.p 5
                have u1 : w8.drew.cell? ⟨gl, 0, none⟩ = some (.int .i64 n) := blk_cell HL2.out 0
                have ltg : gp < w8.drew.heap.size := blk_lt HP2.out.p
                obtain ⟨ad, ea, hcj⟩ := Kd.at_int (Kd.R_reads' HP2.out.j).2.2 (S.rungs.length - 1 : Nat) (by omega) (by have := F7.out.p.nj; show ((S.rungs.length - 1 : Nat) : Int) < S.jumps.length; omega)
                cases ea
                have v0 : w8.drew.cell? ⟨gj, S.rungs.length - 1, none⟩ = some (.int .i64 (S.jumps.getD (S.rungs.length - 1) 0)) := by
                  have e : (⟨gj, 0, none⟩ : Addr).add ((S.rungs.length - 1 : Nat) : Int).toNat = ⟨gj, S.rungs.length - 1, none⟩ := by unfold Addr.add; split <;> simp_all
                  rw [e] at hcj
                  exact hcj
                obtain ⟨cb, htj⟩ := Kd.R_typed HP2.out.j gj rfl
                have vf := blk_frozen htj (S.rungs.length - 1)
                have HP3 := Aside0.mk (HP2.out.jumpJ (S.rungs.length - 1) (by have := F7.out.p.nj; omega) n)
                generalize S.jumps.getD (S.rungs.length - 1) 0 = y at v0
                clear hcj htj hnj
                refine start_ (n := 10) (S := fun w' => w'.cell? ⟨gp, 5, none⟩ = some (.slice (some ⟨gj, 0, none⟩) S.jumps.length cj) ∧ w'.cell? ⟨gl, 0, none⟩ = some (.int .i64 n)) (ds := [9]) #[false, false, false, false, false, false, false, false, false, false] (by kernel_rfl) rfl rfl ⟨u0, u1⟩ (fun hHeld => ?_)
                refine pure_ (i := 0) (N := some 128) (v := ?_) (a' := ?_) #[true, false, false, false, false, false, false, false, false, false] rfl rfl (by kernel_rfl) (fun _ _ _ h => h) (Or.inl ⟨by rfl, ?_⟩) ?_ ?_
                rotate_left
                · intro w'
                  go_simp
                  with_reducible rfl
                rotate_left
                · simp only [Act.put, List.setIfInBounds_toArray, List.set_cons_zero, List.set_cons_succ, i64_w, i32_w]
                  rfl
                refine pure_ (i := 1) (N := some 129) (v := ?_) (a' := ?_) #[true, true, false, false, false, false, false, false, false, false] rfl rfl (by kernel_rfl) (fun _ _ _ h => h) (Or.inl ⟨by rfl, ?_⟩) ?_ ?_
                rotate_left
                · intro w'
                  go_simp
                  with_reducible rfl
                rotate_left
                · simp only [Act.put, List.setIfInBounds_toArray, List.set_cons_zero, List.set_cons_succ, i64_w, i32_w]
                  rfl
                refine pure_ (i := 2) (N := some 130) (v := ?_) (a' := ?_) #[true, true, true, false, false, false, false, false, false, false] rfl rfl (by kernel_rfl) (fun _ _ _ h => h) (Or.inl ⟨by rfl, ?_⟩) ?_ ?_
                rotate_left
                · intro w'
                  go_simp
                  with_reducible rfl
                rotate_left
                · simp only [Act.put, List.setIfInBounds_toArray, List.set_cons_zero, List.set_cons_succ, i64_w, i32_w]
                  rfl
                refine pure_ (i := 4) (N := some 132) (v := ?_) (a' := ?_) #[true, true, true, false, true, false, false, false, false, false] rfl rfl (by kernel_rfl) (fun _ _ _ h => h) (Or.inl ⟨by rfl, ?_⟩) ?_ ?_
                rotate_left
                · intro w'
                  go_simp
                  with_reducible rfl
                rotate_left
                · simp only [Act.put, List.setIfInBounds_toArray, List.set_cons_zero, List.set_cons_succ, i64_w, i32_w]
                  rfl
                refine pure_ (i := 5) (N := some 133) (v := ?_) (a' := ?_) #[true, true, true, false, true, true, false, false, false, false] rfl rfl (by kernel_rfl) (fun _ _ _ h => h) (Or.inl ⟨by rfl, ?_⟩) ?_ ?_
                rotate_left
                · intro w'
                  go_simp
                  with_reducible rfl
                rotate_left
                · simp only [Act.put, List.setIfInBounds_toArray, List.set_cons_zero, List.set_cons_succ, i64_w, i32_w]
                  rfl
                refine pure_ (i := 6) (N := some 134) (v := ?_) (a' := ?_) #[true, true, true, false, true, true, true, false, false, false] rfl rfl (by kernel_rfl) (fun _ _ _ h => h) (Or.inl ⟨by rfl, ?_⟩) ?_ ?_
                rotate_left
                · intro w'
                  go_simp
                  with_reducible rfl
                rotate_left
                · simp only [Act.put, List.setIfInBounds_toArray, List.set_cons_zero, List.set_cons_succ, i64_w, i32_w]
                  rfl
                refine take_ (i := 3) (N := some 131) (v := ?_) (a' := ?_) #[true, true, true, true, true, true, true, false, false, false] rfl rfl (by kernel_rfl) (fun _ _ _ h => h) (Or.inl ⟨by rfl, ?_⟩) hHeld ?_ ?_
                rotate_left
                · rintro w' ⟨s0, s1⟩
                  go_simp
                  with_reducible rfl
                rotate_left
                · simp only [Act.put, List.setIfInBounds_toArray, List.set_cons_zero, List.set_cons_succ, i64_w, i32_w]
                  rfl
                refine take_ (i := 7) (N := some 135) (v := ?_) (a' := ?_) #[true, true, true, true, true, true, true, true, false, false] rfl rfl (by kernel_rfl) (fun _ _ _ h => h) (Or.inl ⟨by rfl, ?_⟩) hHeld ?_ ?_
                rotate_left
                · rintro w' ⟨s0, s1⟩
                  go_simp
                  with_reducible rfl
                rotate_left
                · simp only [Act.put, List.setIfInBounds_toArray, List.set_cons_zero, List.set_cons_succ, i64_w, i32_w]
                  rfl
                refine pure_ (i := 8) (N := some 136) (v := ?_) (a' := ?_) #[true, true, true, true, true, true, true, true, true, false] rfl rfl (by kernel_rfl) (fun _ _ _ h => h) (Or.inl ⟨by rfl, ?_⟩) ?_ ?_
                rotate_left
                · intro w'
                  go_simp
                  with_reducible rfl
                rotate_left
                · simp only [Act.put, List.setIfInBounds_toArray, List.set_cons_zero, List.set_cons_succ, i64_w, i32_w]
                  rfl
                refine last_ (i := 9) (N := none) #[true, true, true, true, true, true, true, true, true, true] rfl rfl (by kernel_rfl) (by decide) (fun K hK => ?_)
                refine skip_ (w1 := ?_) (by rfl) rfl ?_ ?_
                rotate_left
                · go_simp
                  rfl
                refine hK.out _ _ ?_
                clear hK K
                refine done_ (by kernel_rfl) ?_
                go_wp2_with fail
                go_ret
                rw [HO.out]
                have e3 := HP3.out.1
                have e4 := HKK.out
                refine ⟨rfl, (KQ.of_below H.out.sz F7.out.b).trans (HK1'.out.trans ((KQ.of_below HP1'.out.sz KD).trans HP3.out.2)), fun _ => ?_⟩
                rw [e4]
                exact ⟨_, _, _, e3⟩
      · obtain rfl : r = (S, 6) := by rw [← HR.out, lineS, HX0.out, HKd.out]; simp only []; rw [if_pos (by rw [← HLen.out]; exact h4)]
        have h4i : ¬ (nw : Int) = 2 := by omega
        have h4b : ((nw : Int) != 2) = true := by simpa using h4i
        go_wp2_with fail
        go_ret
        exact ⟨rfl, KQ.of_below H.out.sz F6.out.b, fun e => by cases e⟩
    · generalize hcv : kwIx kwC x0 = cv at hc0 hf
      obtain rfl : cI = cv := by rw [← HCI.out]; exact hf.c
      obtain rfl : oI = -1 := by rw [← HOI.out]; exact hf.o
      have s1 := hf.s
      have s2 : ¬ x0.toList = [115, 105, 122, 101] := by simpa using s1
      have r1 := hf.r
      have r2 : ¬ x0.toList = [114, 117, 110, 103] := by simpa using r1
      have c1 : decide (0 ≤ cI) = true := decide_eq_true hc0
      have HCv := Aside0.mk hcv
      clear hf hk hcv
      by_cases h4 : nw = 4
      · subst h4
        cases hsz : S.sized with
        | false =>
          obtain rfl : r = (S, 11) := by rw [← HR.out, lineS, HX0.out, HKd.out]; simp only []; rw [if_neg (by rw [← HLen.out]; simp), if_pos (.inl hsz)]
          rw [hsz] at p6
          go_wp2_with fail
          go_ret
          exact ⟨rfl, KQ.of_below H.out.sz F6.out.b, fun e => by cases e⟩
        | true =>
          rw [hsz] at p6
          by_cases hn0 : S.rungs.length = 0
          · obtain rfl : r = (S, 11) := by rw [← HR.out, lineS, HX0.out, HKd.out]; simp only []; rw [if_neg (by rw [← HLen.out]; simp), if_pos (.inr hn0)]
            obtain ⟨A, c, rfl, -, -⟩ := Kd.S_reads F6.out.p.r
            rw [hn0] at p3
            go_wp2_with fail
            go_ret
            exact ⟨rfl, KQ.of_below H.out.sz F6.out.b, fun e => by cases e⟩
          · obtain ⟨g, cap, rfl, -, -, -⟩ := Kd.S_form F6.out.p.r (by omega)
            have HCall := Aside0.mk (con9_p F6.out.p cI b wc ws (Kd.R_below HW.out F6.out.b) (by rw [HX0.out]; exact HCv.out.symm) HSz.out (by omega) (fun r hr => (HCp.out r hr).1))
            rw [show conS S ws = r by rw [← HR.out, lineS, HX0.out, HKd.out]; simp only []; rw [if_neg (by rw [← HLen.out]; simp), if_neg (by rw [hsz]; simp; exact fun e => hn0 (by rw [e]; rfl))]] at HCall
            have hn64 := F6.out.p.n64
            have hw1 : wrap64 ((S.rungs.length : Int) - 1) = (S.rungs.length : Int) - 1 := w64 (by omega) (by omega)
            have hn1 : (1 : Int) ≤ S.rungs.length := by omega
            have hn0b : ((S.rungs.length : Int) == 0) = false := by simp; exact fun e => hn0 (by rw [e]; rfl)
            have hn0i : ¬ (S.rungs.length : Int) = 0 := by omega
            go_wp2_with fail
            refine HCall.out.mono ?_
            rintro e w2 ⟨rfl, hk, hp⟩
            go_wp2
            go_ret
            exact ⟨rfl, (KQ.of_below H.out.sz F6.out.b).trans hk, hp⟩
      · obtain rfl : r = (S, 6) := by rw [← HR.out, lineS, HX0.out, HKd.out]; simp only []; rw [if_pos (by rw [← HLen.out]; exact h4)]
        have h4i : ¬ (nw : Int) = 4 := by omega
        have h4b : ((nw : Int) != 4) = true := by simpa using h4i
        go_wp2_with fail
        go_ret
        exact ⟨rfl, KQ.of_below H.out.sz F6.out.b, fun e => by cases e⟩
    · generalize hcv : kwIx kwO x0 = cv at ho0 hf
      obtain rfl : cI = -1 := by rw [← HCI.out]; exact hf.c
      obtain rfl : oI = cv := by rw [← HOI.out]; exact hf.o
      have s1 := hf.s
      have s2 : ¬ x0.toList = [115, 105, 122, 101] := by simpa using s1
      have r1 := hf.r
      have r2 : ¬ x0.toList = [114, 117, 110, 103] := by simpa using r1
      have j1 := hf.j
      have j2 : ¬ x0.toList = [106, 117, 109, 112] := by simpa using j1
      have c1 : decide (0 ≤ oI) = true := decide_eq_true ho0
      have HCv := Aside0.mk hcv
      clear hf hk hcv
      by_cases h4 : nw = 2
      · subst h4
        cases hsz : S.sized with
        | false =>
          obtain rfl : r = (S, 11) := by rw [← HR.out, lineS, HX0.out, HKd.out]; simp only []; rw [if_neg (by rw [← HLen.out]; simp), if_pos (.inl hsz)]
          rw [hsz] at p6
          go_wp2_with fail
          go_ret
          exact ⟨rfl, KQ.of_below H.out.sz F6.out.b, fun e => by cases e⟩
        | true =>
          rw [hsz] at p6
          by_cases hn0 : S.rungs.length = 0
          · obtain rfl : r = (S, 11) := by rw [← HR.out, lineS, HX0.out, HKd.out]; simp only []; rw [if_neg (by rw [← HLen.out]; simp), if_pos (.inr hn0)]
            obtain ⟨A, c, rfl, -, -⟩ := Kd.S_reads F6.out.p.r
            rw [hn0] at p3
            go_wp2_with fail
            go_ret
            exact ⟨rfl, KQ.of_below H.out.sz F6.out.b, fun e => by cases e⟩
          · obtain ⟨g, cap, rfl, -, -, -⟩ := Kd.S_form F6.out.p.r (by omega)
            have HCall := Aside0.mk (coil9_p F6.out.p oI b wc ws (Kd.R_below HW.out F6.out.b) (by rw [HX0.out]; exact HCv.out.symm) HSz.out (by omega) (fun r hr => (HCp.out r hr).2))
            rw [show coilS S ws = r by rw [← HR.out, lineS, HX0.out, HKd.out]; simp only []; rw [if_neg (by rw [← HLen.out]; simp), if_neg (by rw [hsz]; simp; exact fun e => hn0 (by rw [e]; rfl))]] at HCall
            have hn64 := F6.out.p.n64
            have hw1 : wrap64 ((S.rungs.length : Int) - 1) = (S.rungs.length : Int) - 1 := w64 (by omega) (by omega)
            have hn1 : (1 : Int) ≤ S.rungs.length := by omega
            have hn0b : ((S.rungs.length : Int) == 0) = false := by simp; exact fun e => hn0 (by rw [e]; rfl)
            have hn0i : ¬ (S.rungs.length : Int) = 0 := by omega
            go_wp2_with fail
            refine HCall.out.mono ?_
            rintro e w2 ⟨rfl, hk, hp⟩
            go_wp2
            go_ret
            exact ⟨rfl, (KQ.of_below H.out.sz F6.out.b).trans hk, hp⟩
      · obtain rfl : r = (S, 6) := by rw [← HR.out, lineS, HX0.out, HKd.out]; simp only []; rw [if_pos (by rw [← HLen.out]; exact h4)]
        have h4i : ¬ (nw : Int) = 2 := by omega
        have h4b : ((nw : Int) != 2) = true := by simpa using h4i
        go_wp2_with fail
        go_ret
        exact ⟨rfl, KQ.of_below H.out.sz F6.out.b, fun e => by cases e⟩
end Go.Proofs.YtolmkdhgnganaaaGreatDoor.H
namespace Go.Proofs.YtolmkdhgnganaaaGreatDoor.H
open Go Go.RowKit Go.Proofs Go.Proofs.YtolmkdhgnganaaaGreatDoorW.PrintWords Go.Proofs.YtolmkdhgnganaaaGreatDoor.Sp
/-- A byte put ahead of the first line. -/
def hd (b : UInt8) : List (List UInt8) → List (List UInt8)
  | [] => [[b]]
  | p :: r => (b :: p) :: r
/-- A text's lines. -/
def spl : List UInt8 → List (List UInt8)
  | [] => [[]]
  | b :: l => if b = 10 then [] :: spl l else hd b (spl l)
theorem spl_ne : ∀ l, spl l ≠ []
  | [] => by simp [spl]
  | b :: l => by
    unfold spl
    split
    · simp
    · cases spl l <;> simp [hd]
theorem index_hit (c : UInt8) (l : List UInt8) : Lib.index (c :: l) [c] = 0 := by
  unfold Lib.index
  rw [if_pos (by simp)]
theorem index_skip {b c : UInt8} (l : List UInt8) (h : b ≠ c) : Lib.index (b :: l) [c] = if Lib.index l [c] = -1 then -1 else Lib.index l [c] + 1 := by
  rw [Lib.index]
  have : ([c] : List UInt8).isPrefixOf (b :: l) = false := by
    simp [List.isPrefixOf, Ne.symm h]
  rw [this]
  by_cases hm : Lib.index l [c] = -1
  · simp [hm]
  · have : (Lib.index l [c] == -1) = false := by simpa using hm
    simp [this, hm]
theorem splitK_skip {b c : UInt8} (h : b ≠ c) (k : Nat) (l : List UInt8) : Lib.splitK [c] 0 k (b :: l) = hd b (Lib.splitK [c] 0 k l) := by
  cases k with
  | zero => rfl
  | succ k =>
    rw [Lib.splitK, Lib.splitK, index_skip l h]
    have hge := Lib.index_ge l [c]
    by_cases hm : Lib.index l [c] = -1
    · simp [hm, hd]
    · have h1 : (Lib.index l [c] == -1) = false := by simpa using hm
      have h2 : ((Lib.index l [c] + 1) == -1) = false := by rw [beq_eq_false_iff_ne]; omega
      have h3 : (Lib.index l [c] + 1).toNat = (Lib.index l [c]).toNat + 1 := by omega
      rw [if_neg hm, h1, h2, h3]
      simp [hd]
theorem splitK_hit (c : UInt8) (k : Nat) (l : List UInt8) : Lib.splitK [c] 0 (k + 1) (c :: l) = [] :: Lib.splitK [c] 0 k l := by
  rw [Lib.splitK, index_hit]
  simp
theorem splitK_spl : ∀ l : List UInt8, Lib.splitK [10] 0 (Lib.count l [10]) l = spl l
  | [] => by rfl
  | b :: l => by
    by_cases h : b = 10
    · subst h
      rw [Lib.count_cons_eq, Nat.add_comm, splitK_hit, splitK_spl l, spl, if_pos rfl]
    · rw [Lib.count_cons_ne _ _ _ h, splitK_skip h, splitK_spl l, spl, if_neg h]
theorem pieces_spl (s : ByteArray) : (pieces s).map (·.data.toList) = spl s.data.toList := by
  unfold pieces
  rw [Lib.splitB_data]
  exact splitK_spl _
/-- What lies ahead of the comment. -/
def bareL (l : List UInt8) : List UInt8 := l.takeWhile (fun b => b != 59)
theorem cut_bare : ∀ l : List UInt8, (Lib.cut l [59]).1 = bareL l
  | [] => by rfl
  | b :: l => by
    have ih := cut_bare l
    unfold Lib.cut at ih ⊢
    by_cases h : b = 59
    · subst h
      rw [index_hit]
      simp [bareL]
    · have hge := Lib.index_ge l [59]
      have hb : bareL (b :: l) = b :: bareL l := by simp [bareL, h]
      rw [index_skip l h, hb, ← ih]
      by_cases hm : Lib.index l [59] = -1
      · simp [hm]
      · have h3 : (Lib.index l [59] + 1).toNat = (Lib.index l [59]).toNat + 1 := by omega
        rw [if_neg hm, if_pos (by omega), if_pos (by omega)]
        simp [h3]
/-- The words of a line. -/
def wds (p : List UInt8) : List ByteArray := (Lib.fields (bareL p)).map fun l => (⟨l.toArray⟩ : ByteArray)
/-- The lines that hold words; the first has the number n. -/
def linesFrom (n : Int) : List (List UInt8) → List Ln
  | [] => []
  | p :: r => (if (wds p).isEmpty then [] else [⟨n, wds p⟩]) ++ linesFrom (n + 1) r
/-- The first line that holds a byte that is not permitted. -/
def badFrom (n : Int) : List (List UInt8) → Option Int
  | [] => none
  | p :: r => if isPl (bareL p) then badFrom (n + 1) r else some n
/-- What Parse answers, told over the lines. -/
def parseL (ps : List (List UInt8)) : PSt × Int × Int :=
  match badFrom 1 ps with
  | some n => (S0, n, 6)
  | none => if (runS S0 (linesFrom 1 ps)).2.2 = 0 then endS (runS S0 (linesFrom 1 ps)).1 else runS S0 (linesFrom 1 ps)
theorem spl_append (a b : List UInt8) : spl (a ++ 10 :: b) = spl a ++ spl b := by
  induction a with
  | nil => simp [spl]
  | cons x a ih =>
    rw [List.cons_append, spl, spl, ih]
    split
    · rfl
    · cases h : spl a with
      | nil => exact absurd h (spl_ne a)
      | cons p r => rfl
theorem spl_one {a : List UInt8} (h : ∀ b ∈ a, b ≠ 10) : spl a = [a] := by
  induction a with
  | nil => rfl
  | cons x a ih =>
    rw [spl, if_neg (h x List.mem_cons_self), ih (fun b hb => h b (List.mem_cons_of_mem _ hb))]
    rfl
/-- The words and the line's number, over the pieces. -/
theorem getD_map {α β : Type} (f : α → β) (l : List α) (k : Nat) (d : α) : (l[k]?.map f).getD (f d) = f (l[k]?.getD d) := by cases l[k]? <;> rfl
theorem cntAt_bytes (s : ByteArray) (k : Nat) : (cntAt s k).2.data.toList = bareL ((spl s.data.toList)[k]?.getD []) := by
  unfold cntAt bare
  dsimp only
  rw [cut_bare, ← pieces_spl, List.getElem?_map]
  exact congrArg bareL (getD_map (fun x : ByteArray => x.data.toList) (pieces s) k ByteArray.empty).symm
theorem bytes_of (x : ByteArray) (l : List UInt8) (h : x.data.toList = l) : x = ⟨l.toArray⟩ := by
  cases x with
  | mk d => subst h; simp
theorem wordsOf_cnt (s : ByteArray) (k : Nat) : wordsOf (cntAt s k).2 = wds ((spl s.data.toList)[k]?.getD []) := by
  unfold wordsOf wds
  rw [cntAt_bytes]
theorem spl_length (s : ByteArray) : (spl s.data.toList).length = (pieces s).length := by rw [← pieces_spl, List.length_map]
theorem lnsOf_from (ps : List (List UInt8)) : ∀ (f : Nat → Int × ByteArray) (n : Int), (∀ k, k < ps.length → (f k).1 = n + k) → (∀ k, k < ps.length → wordsOf (f k).2 = wds (ps[k]?.getD [])) → lnsOf (upN f ps.length) = linesFrom n ps := by
  induction ps with
  | nil => intro f n _ _; rfl
  | cons p r ih =>
    intro f n h1 h2
    have e : upN f (p :: r).length = f 0 :: upN (fun k => f (k + 1)) r.length := by
      unfold upN
      rw [List.length_cons, List.range_succ_eq_map, List.map_cons, List.map_map]
      rfl
    have ih' := ih (fun k => f (k + 1)) (n + 1) (fun k hk => by
      have := h1 (k + 1) (by rw [List.length_cons]; omega)
      show (f (k + 1)).1 = _
      rw [this]; push_cast; omega) (fun k hk => by
      have := h2 (k + 1) (by rw [List.length_cons]; omega)
      show wordsOf (f (k + 1)).2 = _
      rw [this]; rfl)
    have hw : wordsOf (f 0).2 = wds p := by
      have := h2 0 (by rw [List.length_cons]; omega)
      rw [this]; rfl
    have hn : (f 0).1 = n := by
      have := h1 0 (by rw [List.length_cons]; omega)
      rw [this]; simp
    rw [e, linesFrom, ← ih']
    unfold lnsOf
    rw [List.filterMap_cons]
    unfold toLn
    rw [hw, hn]
    cases hq : (wds p).isEmpty with
    | true => simp
    | false => simp
theorem lnsOf_cnts (s : ByteArray) : lnsOf (cnts s) = linesFrom 1 (spl s.data.toList) := by
  unfold cnts
  rw [← spl_length]
  exact lnsOf_from _ _ 1 (fun k _ => by show (k : Int) + 1 = 1 + k; omega) (fun k _ => wordsOf_cnt s k)
theorem badFrom_is (ps : List (List UInt8)) : ∀ n : Int, badFrom n ps = (firstN (fun k => !isPl (bareL (ps[k]?.getD []))) ps.length).map (fun k : Nat => n + (k : Int)) := by
  induction ps with
  | nil => intro n; rfl
  | cons p r ih =>
    intro n
    have e : ∀ g : Nat → Bool, firstN g (p :: r).length = if g 0 then some 0 else (firstN (fun k => g (k + 1)) r.length).map (· + 1) := by
      intro g
      unfold firstN
      rw [List.length_cons, List.range_succ_eq_map, List.find?_cons]
      cases g 0 with
      | true => rfl
      | false =>
        simp only [Bool.false_eq_true, if_false]
        rw [List.find?_map]
        rfl
    rw [e, badFrom]
    have e0 : ((p :: r)[0]?.getD []) = p := rfl
    rw [e0]
    cases hp : isPl (bareL p) with
    | false => simp
    | true =>
      simp only [Bool.not_true, Bool.false_eq_true, if_false, if_true, Option.map_map]
      rw [ih]
      congr 1
      funext k
      show n + 1 + (k : Int) = n + ((k + 1 : Nat) : Int)
      omega
theorem badLine_spl (s : ByteArray) : (badLine s).map (fun k : Nat => (k : Int) + 1) = badFrom 1 (spl s.data.toList) := by
  rw [badFrom_is]
  unfold badLine
  rw [spl_length]
  have : (fun k => !isPl (cntAt s k).2.data.toList) = fun k => !isPl (bareL ((spl s.data.toList)[k]?.getD [])) := by
    funext k
    rw [cntAt_bytes]
  rw [this]
  congr 1
  funext k
  omega
theorem parseP_spl {s : ByteArray} (hs : s.size ≤ 65536) : parseP s = parseL (spl s.data.toList) := by
  unfold parseP parseL
  rw [if_neg (by omega), ← badLine_spl, lnsOf_cnts]
  cases badLine s <;> rfl
end Go.Proofs.YtolmkdhgnganaaaGreatDoor.H
namespace Go.Proofs.YtolmkdhgnganaaaGreatDoor.H
open Go Go.RowKit Go.Proofs Go.Proofs.YtolmkdhgnganaaaGreatDoorW.PrintWords Go.Proofs.YtolmkdhgnganaaaGreatDoor.Sp
def mkB (l : List UInt8) : ByteArray := ⟨l.toArray⟩
theorem mkB_data (l : List UInt8) : (mkB l).data.toList = l := by simp [mkB]
theorem ext_list (s : ByteArray) (a b : Nat) : s.extract a b = mkB ((s.data.toList.drop a).take (b - a)) := bytes_of _ _ (by rw [ByteArray.data_extract, Array.toList_extract, List.extract_eq_take_drop])
theorem drop_at {L : List UInt8} {i : Nat} (hi : i < L.length) : L.drop i = L.getD i 0 :: L.drop (i + 1) := by
  rw [List.drop_eq_getElem_cons hi, List.getD, List.getElem?_eq_getElem hi, Option.getD_some]
theorem seg_split {L : List UInt8} {f i : Nat} (hf : f ≤ i) (hi : i < L.length) : L.drop f = (L.drop f).take (i - f) ++ L.getD i 0 :: L.drop (i + 1) := by
  have e : (L.drop f).drop (i - f) = L.drop i := by rw [List.drop_drop, show f + (i - f) = i by omega]
  rw [← drop_at hi, ← e, List.take_append_drop]
theorem seg_no {L : List UInt8} {f i : Nat} (hi : i ≤ L.length) (no : ∀ j, f ≤ j → j < i → L.getD j 0 ≠ 10) : ∀ b ∈ (L.drop f).take (i - f), b ≠ 10 := by
  intro b hb
  obtain ⟨n, hn, rfl⟩ := List.getElem_of_mem hb
  have hn2 := hn
  rw [List.length_take, List.length_drop] at hn2
  have := no (f + n) (by omega) (by omega)
  rw [List.getD, List.getElem?_eq_getElem (by omega), Option.getD_some] at this
  rw [List.getElem_take, List.getElem_drop]
  exact this
/-- A text's lines. -/
def pcs (s : ByteArray) : List ByteArray := (spl s.data.toList).map mkB
theorem spl_len : ∀ l : List UInt8, (spl l).length ≤ l.length + 1
  | [] => by simp [spl]
  | b :: l => by
    have ih := spl_len l
    unfold spl
    split
    · simp only [List.length_cons]; omega
    · cases h : spl l with
      | nil => exact absurd h (spl_ne l)
      | cons p r => rw [h] at ih; simp only [hd, List.length_cons] at ih ⊢; omega
/-- Where Cut is: the line began at f, i is the next byte, out is what is cut off. -/
structure CutI (s : ByteArray) (f i : Nat) (out : List ByteArray) : Prop where
  fi : f ≤ i
  is : i ≤ s.size
  eq : pcs s = out ++ (spl (s.data.toList.drop f)).map mkB
  no : ∀ j, f ≤ j → j < i → s.data.toList.getD j 0 ≠ 10
  le : out.length ≤ i
theorem CutI.zero (s : ByteArray) : CutI s 0 0 [] := ⟨Nat.le_refl _, Nat.zero_le _, by rw [List.drop_zero]; rfl, fun j h1 h2 => by omega, Nat.zero_le _⟩
section
variable {s : ByteArray} {f i : Nat} {out : List ByteArray}
theorem CutI.skip (h : CutI s f i out) (hi : i < s.size) (hb : s.data.toList.getD i 0 ≠ 10) : CutI s f (i + 1) out :=
  ⟨by have := h.fi; omega, hi, h.eq, fun j h1 h2 => by
    by_cases e : j = i
    · subst e; exact hb
    · exact h.no j h1 (by omega), by have := h.le; omega⟩
theorem CutI.hit (h : CutI s f i out) (hi : i < s.size) (hb : s.data.toList.getD i 0 = 10) : CutI s (i + 1) (i + 1) (out ++ [s.extract f i]) := by
  have hL : s.data.toList.length = s.size := size_data s
  refine ⟨Nat.le_refl _, hi, ?_, fun j h1 h2 => by omega, by rw [List.length_append, List.length_singleton]; have := h.le; omega⟩
  have e := seg_split h.fi (show i < s.data.toList.length by omega)
  rw [hb] at e
  have e2 : spl (s.data.toList.drop f) = (s.data.toList.drop f).take (i - f) :: spl (s.data.toList.drop (i + 1)) := by
    conv => lhs; rw [e]
    rw [spl_append, spl_one (seg_no (by omega) h.no)]
    rfl
  rw [h.eq, e2, List.append_assoc, ext_list]
  rfl
theorem CutI.done (h : CutI s f s.size out) : pcs s = out ++ [s.extract f s.size] := by
  have hL : s.data.toList.length = s.size := size_data s
  have e : (s.data.toList.drop f).take (s.size - f) = s.data.toList.drop f := List.take_of_length_le (by rw [List.length_drop]; omega)
  have e1 := spl_one (seg_no (by omega) h.no)
  rw [e] at e1
  rw [h.eq, e1, ext_list, e]
  rfl
end
theorem bareL_hit (l : List UInt8) : bareL (59 :: l) = [] := by simp [bareL]
theorem bareL_more {b : UInt8} (hb : b ≠ 59) (l : List UInt8) : bareL (b :: l) = b :: bareL l := by simp [bareL, hb]
theorem isSp_no {b : UInt8} (h : 33 ≤ b.toNat) : Lib.isSp b = false := by
  have e : ∀ n : Fin 256, 33 ≤ n.val → Lib.isSp (UInt8.ofNat n.val) = false := by decide +kernel
  simpa using e ⟨b.toNat, b.toNat_lt⟩ h
theorem isSp_yes {b : UInt8} (h : b.toNat = 32 ∨ b.toNat = 9) : Lib.isSp b = true := by
  have e : ∀ n : Fin 256, (n.val = 32 ∨ n.val = 9) → Lib.isSp (UInt8.ofNat n.val) = true := by decide +kernel
  simpa using e ⟨b.toNat, b.toNat_lt⟩ h
/-- The word that is being read: it began at fr (-1: none). -/
def curW (s : ByteArray) (fr : Int) (i : Nat) : List UInt8 := if fr < 0 then [] else (s.data.toList.drop fr.toNat).take (i - fr.toNat)
/-- What is appended where a word may end. -/
def endW (s : ByteArray) (fr : Int) (i : Nat) : List ByteArray := if fr < 0 then [] else [s.extract fr.toNat i]
structure WdI (s : ByteArray) (fr : Int) (i : Nat) (out : List ByteArray) : Prop where
  is : i ≤ s.size
  lo : -1 ≤ fr
  fi : fr < i
  pl : isPl (bareL s.data.toList) = isPl (bareL (s.data.toList.drop i))
  eq : wds s.data.toList = out ++ (Lib.fieldsGo (curW s fr i) (bareL (s.data.toList.drop i))).map mkB
  le : out.length ≤ i
theorem WdI.zero (s : ByteArray) : WdI s (-1) 0 [] := ⟨Nat.zero_le _, by omega, by omega, by rw [List.drop_zero], by rw [List.drop_zero]; rfl, Nat.zero_le _⟩
section
variable {s : ByteArray} {fr : Int} {i : Nat} {out : List ByteArray}
theorem curW_len (hi : i ≤ s.size) (h0 : 0 ≤ fr) (hf : fr < i) : (curW s fr i).isEmpty = false := by
  have hL : s.data.toList.length = s.size := size_data s
  unfold curW
  rw [if_neg (by omega)]
  cases hc : (s.data.toList.drop fr.toNat).take (i - fr.toNat) with
  | cons _ _ => rfl
  | nil =>
    have := congrArg List.length hc
    rw [List.length_take, List.length_drop, List.length_nil] at this
    omega
theorem WdI.stop (h : WdI s fr i out) : (if (curW s fr i).isEmpty then [] else [curW s fr i]).map mkB = endW s fr i := by
  by_cases h0 : fr < 0
  · unfold endW curW
    rw [if_pos h0, if_pos h0]; rfl
  · rw [curW_len h.is (by omega) h.fi, endW, if_neg h0, ext_list]
    unfold curW
    rw [if_neg h0]; rfl
theorem WdI.last (h : WdI s fr i out) (he : bareL (s.data.toList.drop i) = []) : isPl (bareL s.data.toList) = true ∧ wds s.data.toList = out ++ endW s fr i := by
  refine ⟨by rw [h.pl, he]; rfl, ?_⟩
  rw [h.eq, he, Lib.fieldsGo, h.stop]
theorem WdI.at (h : WdI s fr i out) (hi : i < s.size) (hb : (s.data.toList.getD i 0).toNat ≠ 59) : bareL (s.data.toList.drop i) = s.data.toList.getD i 0 :: bareL (s.data.toList.drop (i + 1)) := by
  have hL : s.data.toList.length = s.size := size_data s
  rw [drop_at (by omega), bareL_more (fun e => hb (by rw [e]; rfl))]
theorem WdI.end_at (hi : i = s.size ∨ (i < s.size ∧ (s.data.toList.getD i 0).toNat = 59)) : bareL (s.data.toList.drop i) = [] := by
  have hL : s.data.toList.length = s.size := size_data s
  rcases hi with rfl | ⟨hi, hb⟩
  · rw [List.drop_eq_nil_of_le (by omega)]; rfl
  · rw [drop_at (by omega), show s.data.toList.getD i 0 = 59 from UInt8.toNat_inj.1 hb, bareL_hit]
theorem WdI.bad (h : WdI s fr i out) (hi : i < s.size) (hb : (s.data.toList.getD i 0).toNat ≠ 59) (hp : plB (s.data.toList.getD i 0) = false) : isPl (bareL s.data.toList) = false := by
  rw [h.pl, h.at hi hb, isPl, List.all_cons, hp]; rfl
theorem WdI.space (h : WdI s fr i out) (hi : i < s.size) (hb : (s.data.toList.getD i 0).toNat = 32 ∨ (s.data.toList.getD i 0).toNat = 9) : WdI s (-1) (i + 1) (out ++ endW s fr i) := by
  have hp : plB (s.data.toList.getD i 0) = true := by unfold plB; exact decide_eq_true (by omega)
  have ha := h.at hi (by omega)
  refine ⟨hi, by omega, by omega, ?_, ?_, ?_⟩
  · rw [h.pl, ha, isPl, List.all_cons, hp, Bool.true_and]; rfl
  · rw [h.eq, ha, Lib.fieldsGo, isSp_yes hb, ← h.stop, List.append_assoc]
    show out ++ List.map mkB (if (curW s fr i).isEmpty = true then _ else _) = _
    cases hc : (curW s fr i).isEmpty <;> rfl
  · rw [List.length_append]
    have : (endW s fr i).length ≤ 1 := by unfold endW; split <;> simp
    have := h.le
    omega
theorem WdI.more (h : WdI s fr i out) (hi : i < s.size) (hb : (s.data.toList.getD i 0).toNat ≠ 59) (h1 : 33 ≤ (s.data.toList.getD i 0).toNat) (h2 : (s.data.toList.getD i 0).toNat ≤ 126) : WdI s (if fr < 0 then (i : Int) else fr) (i + 1) out := by
  have hL : s.data.toList.length = s.size := size_data s
  have hp : plB (s.data.toList.getD i 0) = true := by unfold plB; exact decide_eq_true (by omega)
  have ha := h.at hi hb
  have hlo := h.lo
  have hfi := h.fi
  refine ⟨hi, by split <;> omega, by split <;> omega, ?_, ?_, by have := h.le; omega⟩
  · rw [h.pl, ha, isPl, List.all_cons, hp, Bool.true_and]; rfl
  · rw [h.eq, ha, Lib.fieldsGo, isSp_no h1]
    have e : curW s (if fr < 0 then (i : Int) else fr) (i + 1) = curW s fr i ++ [s.data.toList.getD i 0] := by
      unfold curW
      by_cases h0 : fr < 0
      · rw [if_pos h0, if_pos h0, if_neg (by omega), Int.toNat_natCast, show i + 1 - i = 1 by omega, drop_at (by omega)]
        rfl
      · rw [if_neg h0, if_neg h0, if_neg h0]
        have hs := seg_split (f := fr.toNat) (i := i) (by omega) (show i < s.data.toList.length by omega)
        have hlen : ((s.data.toList.drop fr.toNat).take (i - fr.toNat)).length = i - fr.toNat := by rw [List.length_take, List.length_drop]; omega
        conv => lhs; rw [hs]
        rw [List.take_append, hlen, List.take_of_length_le (by rw [hlen]; omega), show i + 1 - fr.toNat - (i - fr.toNat) = 1 by omega]
        rfl
    rw [e]
    rfl
end
/-- Where Lines is: k lines are read, out is what they hold. -/
structure L9I (ps : List (List UInt8)) (k : Nat) (out : List Ln) : Prop where
  is : k ≤ ps.length
  ln : linesFrom 1 ps = out ++ linesFrom ((k : Int) + 1) (ps.drop k)
  bd : badFrom 1 ps = badFrom ((k : Int) + 1) (ps.drop k)
  le : out.length ≤ k
theorem L9I.zero (ps : List (List UInt8)) : L9I ps 0 [] := ⟨Nat.zero_le _, rfl, rfl, Nat.zero_le _⟩
section
variable {ps : List (List UInt8)} {k : Nat} {out : List Ln}
theorem drop9 (hk : k < ps.length) : ps.drop k = ps.getD k [] :: ps.drop (k + 1) := by
  rw [List.drop_eq_getElem_cons hk, List.getD, List.getElem?_eq_getElem hk, Option.getD_some]
theorem L9I.bad (h : L9I ps k out) (hk : k < ps.length) (hp : isPl (bareL (ps.getD k [])) = false) : badFrom 1 ps = some ((k : Int) + 1) := by
  rw [h.bd, drop9 hk, badFrom, hp]; rfl
theorem L9I.skip (h : L9I ps k out) (hk : k < ps.length) (hp : isPl (bareL (ps.getD k [])) = true) (hw : (wds (ps.getD k [])).length = 0) : L9I ps (k + 1) out := by
  have hw' : (wds (ps.getD k [])).isEmpty = true := by rw [List.length_eq_zero_iff.1 hw]; rfl
  refine ⟨hk, ?_, ?_, by have := h.le; omega⟩
  · rw [h.ln, drop9 hk, linesFrom, hw']; rfl
  · rw [h.bd, drop9 hk, badFrom, hp]; rfl
theorem L9I.keep (h : L9I ps k out) (hk : k < ps.length) (hp : isPl (bareL (ps.getD k [])) = true) (hw : 0 < (wds (ps.getD k [])).length) : L9I ps (k + 1) (out ++ [⟨(k : Int) + 1, wds (ps.getD k [])⟩]) := by
  have hw' : (wds (ps.getD k [])).isEmpty = false := by
    cases hc : wds (ps.getD k []) with
    | nil => rw [hc] at hw; simp at hw
    | cons _ _ => rfl
  refine ⟨hk, ?_, ?_, by rw [List.length_append, List.length_singleton]; have := h.le; omega⟩
  · rw [h.ln, drop9 hk, linesFrom, hw', List.append_assoc]; rfl
  · rw [h.bd, drop9 hk, badFrom, hp]; rfl
theorem L9I.done (h : L9I ps ps.length out) : linesFrom 1 ps = out ∧ badFrom 1 ps = Option.none := by
  refine ⟨?_, ?_⟩
  · rw [h.ln, List.drop_eq_nil_of_le (Nat.le_refl _), linesFrom, List.append_nil]
  · rw [h.bd, List.drop_eq_nil_of_le (Nat.le_refl _)]; rfl
end
theorem pcs_getD (s : ByteArray) (k : Nat) : ((pcs s).getD k ⟨#[]⟩).data.toList = (spl s.data.toList).getD k [] := by
  unfold pcs
  simp only [List.getD, List.getElem?_map]
  cases (spl s.data.toList)[k]? with
  | none => rfl
  | some l => exact mkB_data l
theorem pcs_len (s : ByteArray) : (pcs s).length = (spl s.data.toList).length := by rw [pcs, List.length_map]
theorem spl_sum : ∀ (l : List UInt8) (p : List UInt8), p ∈ spl l → p.length ≤ l.length
  | [], p, hp => by
    have : p = [] := by simpa [spl] using hp
    rw [this]; exact Nat.zero_le _
  | b :: l, p, hp => by
    unfold spl at hp
    split at hp
    · rcases List.mem_cons.1 hp with rfl | hp
      · exact Nat.zero_le _
      · have := spl_sum l p hp; simp only [List.length_cons]; omega
    · cases h : spl l with
      | nil => exact absurd h (spl_ne l)
      | cons q r =>
        rw [h] at hp
        rcases List.mem_cons.1 hp with rfl | hp
        · have := spl_sum l q (by rw [h]; exact List.mem_cons_self); simp only [List.length_cons]; omega
        · have := spl_sum l p (by rw [h]; exact List.mem_cons_of_mem _ hp); simp only [List.length_cons]; omega
theorem pcs_size (s : ByteArray) (k : Nat) : ((pcs s).getD k ⟨#[]⟩).size ≤ s.size := by
  rw [← size_data, pcs_getD, ← size_data s]
  simp only [List.getD]
  cases h : (spl s.data.toList)[k]? with
  | none => exact Nat.zero_le _
  | some p => exact spl_sum _ _ (List.mem_of_getElem? h)
end Go.Proofs.YtolmkdhgnganaaaGreatDoor.H
namespace Go.Proofs.YtolmkdhgnganaaaGreatDoor.H
open Go Go.RowKit Go.Proofs Go.Proofs.YtolmkdhgnganaaaGreatDoorW.PrintWords Go.Proofs.YtolmkdhgnganaaaGreatDoorW.PrintLast Go.Proofs.YtolmkdhgnganaaaGreatDoorW.PrintMore Go.Proofs.YtolmkdhgnganaaaGreatDoor.Sp
/-- A row of strings of the call's own. -/
def StrR (l : List ByteArray) (w : World) (e : Ending) (w' : World) : Prop := Below w.heap.size w w' ∧ ∃ A c, e = .returned (.slice A l.length c) ∧ Kd.string.R 9 w' w.heap.size (fun _ => True) (.slice A l.length c) l
set_option maxHeartbeats 4000000 in
set_option maxRecDepth 100000 in
theorem cut9_b (s : ByteArray) (w : World) (hs : s.size ≤ 65536) : Calls Tryz.prog 74 #[.string s, .int .u8 10] w (StrR (pcs s) w) := by
  generalize hV : pcs s = V
  have HV := Aside0.mk hV
  clear hV
  go_enter Tryz.func74, Tryz.ntmps74
  go_wp2
  go_loopw [5, 6, 7] (fun ov fv cv w' => ∃ (vo : Value) (f k : Int) (out : List ByteArray) (wr : World), vo = ov ∧ fv = .int .i64 f ∧ cv = .int .i64 k ∧ 0 ≤ f ∧ f ≤ k ∧ k ≤ s.size ∧ out.length ≤ k.toNat ∧ wr = w' ∧ Aside0 (Below w.heap.size w wr) ∧ Aside0 (Kd.string.R 9 wr w.heap.size (fun _ => True) vo out) ∧ Aside0 (CutI s f.toNat k.toNat out)) (fun _ _ cv _ => ((s.size : Int) - intOf cv).toNat)
  case atStart => exact ⟨_, 0, 0, [], _, rfl, rfl, rfl, by omega, by omega, by omega, Nat.zero_le _, rfl, ⟨Below.refl _ _⟩, ⟨Kd.R_nil _ _ _ _ _⟩, ⟨CutI.zero s⟩⟩
  case round =>
    obtain ⟨vo, f, k, out, wr, rfl, rfl, rfl, f0, hfk, hks, hol, rfl, HB, HO, HI⟩ := hrel
    have hbs := HB.out.size
    by_cases hk : k < s.size
    · have hkn : k.toNat < s.size := by omega
      have hwr : wrap64 (k + 1) = k + 1 := w64 (by omega) (by omega)
      have hgd := getD_at s k.toNat hkn
      have e1 : (k + 1).toNat = k.toNat + 1 := by omega
      by_cases h10 : (s[k.toNat].toNat : Int) = 10
      · have q : ((s[k.toNat].toNat : Int) == 10) = true := by simp [h10]
        have HI2 := Aside0.mk (HI.out.hit hkn (by rw [hgd]; exact UInt8.toNat_inj.1 (by show s[k.toNat].toNat = 10; omega)))
        clear hgd h10
        go_wp2_with ((with_reducible refine gate_builtin (b := .append) (xs := #[.tmp 19, .tmp 24]) rfl ?_)
                     at_builtin
                     refine Kd.R_append Kd.string (w0 := w) w.heap.size rfl (.tmp 19) (.tmp 24) 38 9 (.string ⟨#[]⟩) 16 rfl Tryz.underlying38 (by rfl) rfl (Nat.zero_lt_succ 0) (by omega) vo out (s.extract f.toNat k.toNat) [.string (s.extract f.toNat k.toNat)] (fun _ => True) (fun _ => False) rfl rfl rfl (fun _ h => h.elim) (fun _ _ => trivial) HO.out HB.out hbs (by omega) ?_
                     intro v2 w7 hr2 hb2 hgr2 hat2
                     have HB2 := Aside0.mk hb2
                     have HO2 := Aside0.mk hr2
                     clear hr2 hb2 hgr2 hat2)
        go_roundw
        case rel => exact ⟨v2, k + 1, k + 1, _, _, rfl, by simp [hwr], by simp [hwr], by omega, by omega, by omega, by rw [List.length_append, List.length_singleton]; omega, rfl, HB2, HO2, ⟨e1 ▸ HI2.out⟩⟩
        case measure => simp [intOf, hwr]; omega
      · have q : ((s[k.toNat].toNat : Int) == 10) = false := by simpa using h10
        have HI2 := Aside0.mk (HI.out.skip hkn (by rw [hgd]; exact fun e => h10 (by rw [e]; rfl)))
        clear hgd
        go_wp2
        go_roundw
        case rel => exact ⟨vo, f, k + 1, out, _, rfl, rfl, by simp [hwr], by omega, by omega, by omega, by omega, rfl, HB, HO, ⟨e1 ▸ HI2.out⟩⟩
        case measure => simp [intOf, hwr]; omega
    · obtain rfl : k = s.size := by omega
      have HD := Aside0.mk (HV.out.symm.trans (HI.out.done))
      go_wp2_with ((with_reducible refine gate_builtin (b := .append) (xs := #[.tmp 28, .tmp 32]) rfl ?_)
                   at_builtin
                   refine Kd.R_append Kd.string (w0 := w) w.heap.size rfl (.tmp 28) (.tmp 32) 38 9 (.string ⟨#[]⟩) 16 rfl Tryz.underlying38 (by rfl) rfl (Nat.zero_lt_succ 0) (by omega) vo out (s.extract f.toNat s.size) [.string (s.extract f.toNat s.size)] (fun _ => True) (fun _ => False) rfl rfl rfl (fun _ h => h.elim) (fun _ _ => trivial) HO.out HB.out hbs (by omega) ?_
                   intro v2 w7 hr2 hb2 hgr2 hat2
                   have HB2 := Aside0.mk hb2
                   have HO2 := Aside0.mk hr2
                   clear hr2 hb2 hgr2 hat2)
      go_ret
      rw [HD.out]
      obtain ⟨A, c, rfl, -, -⟩ := Kd.R_reads HO2.out
      exact ⟨HB2.out, A, c, rfl, HO2.out⟩
/-- What words answers. -/
def WordsR (s : ByteArray) (w : World) (e : Ending) (w' : World) : Prop :=
  Below w.heap.size w w' ∧ ((isPl (bareL s.data.toList) = false ∧ e = .returned (.tuple #[.slice none 0 0, .bool false])) ∨
    (isPl (bareL s.data.toList) = true ∧ ∃ A c, e = .returned (.tuple #[.slice A (wds s.data.toList).length c, .bool true]) ∧ Kd.string.R 9 w' w.heap.size (fun _ => True) (.slice A (wds s.data.toList).length c) (wds s.data.toList)))
theorem WordsR.last {s : ByteArray} {w w1 : World} {v : Value} {fr : Int} {i : Nat} {out l : List ByteArray} (h : WdI s fr i out) (he : bareL (s.data.toList.drop i) = []) (hl : out ++ endW s fr i = l) (hb : Below w.heap.size w w1) (hr : Kd.string.R 9 w1 w.heap.size (fun _ => True) v l) : WordsR s w (.returned (.tuple #[v, .bool true])) w1 := by
  obtain ⟨h1, h2⟩ := h.last he
  rw [hl] at h2
  subst h2
  obtain ⟨A, c, rfl, -, -⟩ := Kd.R_reads hr
  exact ⟨hb, .inr ⟨h1, A, c, rfl, hr⟩⟩
theorem endW_no {s : ByteArray} {fr : Int} {i : Nat} {out : List ByteArray} (h : fr < 0) : out ++ endW s fr i = out := by rw [endW, if_pos h, List.append_nil]
theorem endW_at {s : ByteArray} {fr : Int} {i : Nat} {out : List ByteArray} (h : 0 ≤ fr) : out ++ endW s fr i = out ++ [s.extract fr.toNat i] := by rw [endW, if_neg (by omega)]
set_option maxHeartbeats 8000000 in
set_option maxRecDepth 100000 in
theorem words9_b (s : ByteArray) (w : World) (hs : s.size ≤ 65536) : Calls Tryz.prog 75 #[.string s] w (WordsR s w) := by
  go_enter Tryz.func75, Tryz.ntmps75
  go_wp2
  go_loopw [4, 5, 6] (fun ov fv cv w' => ∃ (vo : Value) (f k : Int) (out : List ByteArray) (wr : World), vo = ov ∧ fv = .int .i64 f ∧ cv = .int .i64 k ∧ -1 ≤ f ∧ f < k ∧ 0 ≤ k ∧ k ≤ s.size ∧ out.length ≤ k.toNat ∧ wr = w' ∧ Aside0 (Below w.heap.size w wr) ∧ Aside0 (Kd.string.R 9 wr w.heap.size (fun _ => True) vo out) ∧ Aside0 (WdI s f k.toNat out)) (fun _ _ cv _ => ((s.size : Int) + 1 - intOf cv).toNat)
  case atStart => exact ⟨_, -1, 0, [], _, rfl, rfl, rfl, by omega, by omega, by omega, by omega, Nat.zero_le _, rfl, ⟨Below.refl _ _⟩, ⟨Kd.R_nil _ _ _ _ _⟩, ⟨WdI.zero s⟩⟩
  case round =>
    obtain ⟨vo, f, k, out, wr, rfl, rfl, rfl, f1, hfk, k0, hks, hol, rfl, HB, HO, HI⟩ := hrel
    have hbs := HB.out.size
    have hle : decide (k ≤ (s.size : Int)) = true := decide_eq_true hks
    by_cases hk : k = s.size
    · subst hk
      have HE := Aside0.mk (WdI.end_at (s := s) (i := s.size) (.inl rfl))
      have hn : ((s.size : Int)).toNat = s.size := by omega
      by_cases hf : 0 ≤ f
      · have HL := Aside0.mk (fun {v : Value} {w1 : World} (hb : Below w.heap.size w w1) (hr : Kd.string.R 9 w1 w.heap.size (fun _ => True) v (out ++ [s.extract f.toNat s.size])) => WordsR.last (w := w) (i := s.size) (hn ▸ HI.out) HE.out (endW_at hf) hb hr)
        go_wp2_with ((with_reducible refine gate_builtin (b := .append) (xs := #[.tmp 59, .tmp 64]) rfl ?_)
                     at_builtin
                     refine Kd.R_append Kd.string (w0 := w) w.heap.size rfl (.tmp 59) (.tmp 64) 38 9 (.string ⟨#[]⟩) 16 rfl Tryz.underlying38 (by rfl) rfl (Nat.zero_lt_succ 0) (by omega) vo out (s.extract f.toNat s.size) [.string (s.extract f.toNat s.size)] (fun _ => True) (fun _ => False) rfl rfl rfl (fun _ h => h.elim) (fun _ _ => trivial) HO.out HB.out hbs (by omega) ?_
                     intro v2 w7 hr2 hb2 hgr2 hat2
                     have HB2 := Aside0.mk hb2
                     have HO2 := Aside0.mk hr2
                     clear hr2 hb2 hgr2 hat2)
        go_ret2
        exact HL.out HB2.out HO2.out
      · have HL := Aside0.mk (WordsR.last (w := w) (i := s.size) (hn ▸ HI.out) HE.out (endW_no (by omega)) HB.out HO.out)
        go_wp2
        go_ret2
        exact HL.out
    · have hkn : k.toNat < s.size := by omega
      have hwr : wrap64 (k + 1) = k + 1 := w64 (by omega) (by omega)
      have hgd := getD_at s k.toNat hkn
      have e1 : (k + 1).toNat = k.toNat + 1 := by omega
      have hkb : (k == (s.size : Int)) = false := by simpa using hk
      by_cases h59 : (s[k.toNat].toNat : Int) = 59
      · have q59 : ((s[k.toNat].toNat : Int) == 59) = true := by simp [h59]
        have HE := Aside0.mk (WdI.end_at (s := s) (i := k.toNat) (.inr ⟨hkn, by rw [hgd]; omega⟩))
        by_cases hf : 0 ≤ f
        · have HL := Aside0.mk (fun {v : Value} {w1 : World} (hb : Below w.heap.size w w1) (hr : Kd.string.R 9 w1 w.heap.size (fun _ => True) v (out ++ [s.extract f.toNat k.toNat])) => WordsR.last (w := w) HI.out HE.out (endW_at hf) hb hr)
          clear hgd
          go_wp2_with ((with_reducible refine gate_builtin (b := .append) (xs := #[.tmp 59, .tmp 64]) rfl ?_)
                       at_builtin
                       refine Kd.R_append Kd.string (w0 := w) w.heap.size rfl (.tmp 59) (.tmp 64) 38 9 (.string ⟨#[]⟩) 16 rfl Tryz.underlying38 (by rfl) rfl (Nat.zero_lt_succ 0) (by omega) vo out (s.extract f.toNat k.toNat) [.string (s.extract f.toNat k.toNat)] (fun _ => True) (fun _ => False) rfl rfl rfl (fun _ h => h.elim) (fun _ _ => trivial) HO.out HB.out hbs (by omega) ?_
                       intro v2 w7 hr2 hb2 hgr2 hat2
                       have HB2 := Aside0.mk hb2
                       have HO2 := Aside0.mk hr2
                       clear hr2 hb2 hgr2 hat2)
          go_ret2
          exact HL.out HB2.out HO2.out
        · have HL := Aside0.mk (WordsR.last (w := w) HI.out HE.out (endW_no (by omega)) HB.out HO.out)
          clear hgd
          go_wp2
          go_ret2
          exact HL.out
      · have q59 : ((s[k.toNat].toNat : Int) == 59) = false := by simpa using h59
        have n59 : (s.data.toList.getD k.toNat 0).toNat ≠ 59 := by rw [hgd]; omega
        by_cases h9 : (s[k.toNat].toNat : Int) = 9
        · have HI2 := Aside0.mk (HI.out.space hkn (.inr (by rw [hgd]; omega)))
          have q9 : ((s[k.toNat].toNat : Int) != 9) = false := by simp [h9]
          clear hgd n59
          by_cases hf : 0 ≤ f
          · rw [endW_at hf] at HI2
            go_wp2_with ((with_reducible refine gate_builtin (b := .append) (xs := #[.tmp 59, .tmp 64]) rfl ?_)
                         at_builtin
                         refine Kd.R_append Kd.string (w0 := w) w.heap.size rfl (.tmp 59) (.tmp 64) 38 9 (.string ⟨#[]⟩) 16 rfl Tryz.underlying38 (by rfl) rfl (Nat.zero_lt_succ 0) (by omega) vo out (s.extract f.toNat k.toNat) [.string (s.extract f.toNat k.toNat)] (fun _ => True) (fun _ => False) rfl rfl rfl (fun _ h => h.elim) (fun _ _ => trivial) HO.out HB.out hbs (by omega) ?_
                         intro v2 w7 hr2 hb2 hgr2 hat2
                         have HB2 := Aside0.mk hb2
                         have HO2 := Aside0.mk hr2
                         clear hr2 hb2 hgr2 hat2)
            go_roundw
            case rel => exact ⟨v2, -1, k + 1, _, _, rfl, rfl, by simp [hwr], by omega, by omega, by omega, by omega, by rw [List.length_append, List.length_singleton]; omega, rfl, HB2, HO2, ⟨e1 ▸ HI2.out⟩⟩
            case measure => simp [intOf, hwr]; omega
          · rw [endW_no (by omega)] at HI2
            go_wp2
            go_roundw
            case rel => exact ⟨vo, -1, k + 1, _, _, rfl, rfl, by simp [hwr], by omega, by omega, by omega, by omega, by omega, rfl, HB, HO, ⟨e1 ▸ HI2.out⟩⟩
            case measure => simp [intOf, hwr]; omega
        · have q9 : ((s[k.toNat].toNat : Int) != 9) = true := by simpa using h9
          by_cases h32 : (s[k.toNat].toNat : Int) < 32
          · have HP := Aside0.mk (HI.out.bad hkn n59 (by rw [hgd]; unfold plB; exact decide_eq_false (by omega)))
            clear hgd n59
            go_wp2
            go_ret2
            exact ⟨HB.out, .inl ⟨HP.out, rfl⟩⟩
          · by_cases h126 : 126 < (s[k.toNat].toNat : Int)
            · have HP := Aside0.mk (HI.out.bad hkn n59 (by rw [hgd]; unfold plB; exact decide_eq_false (by omega)))
              clear hgd n59
              go_wp2
              go_ret2
              exact ⟨HB.out, .inl ⟨HP.out, rfl⟩⟩
            · by_cases hb32 : (s[k.toNat].toNat : Int) = 32
              · have HI2 := Aside0.mk (HI.out.space hkn (.inl (by rw [hgd]; omega)))
                clear hgd n59
                by_cases hf : 0 ≤ f
                · rw [endW_at hf] at HI2
                  go_wp2_with ((with_reducible refine gate_builtin (b := .append) (xs := #[.tmp 59, .tmp 64]) rfl ?_)
                               at_builtin
                               refine Kd.R_append Kd.string (w0 := w) w.heap.size rfl (.tmp 59) (.tmp 64) 38 9 (.string ⟨#[]⟩) 16 rfl Tryz.underlying38 (by rfl) rfl (Nat.zero_lt_succ 0) (by omega) vo out (s.extract f.toNat k.toNat) [.string (s.extract f.toNat k.toNat)] (fun _ => True) (fun _ => False) rfl rfl rfl (fun _ h => h.elim) (fun _ _ => trivial) HO.out HB.out hbs (by omega) ?_
                               intro v2 w7 hr2 hb2 hgr2 hat2
                               have HB2 := Aside0.mk hb2
                               have HO2 := Aside0.mk hr2
                               clear hr2 hb2 hgr2 hat2)
                  go_roundw
                  case rel => exact ⟨v2, -1, k + 1, _, _, rfl, rfl, by simp [hwr], by omega, by omega, by omega, by omega, by rw [List.length_append, List.length_singleton]; omega, rfl, HB2, HO2, ⟨e1 ▸ HI2.out⟩⟩
                  case measure => simp [intOf, hwr]; omega
                · rw [endW_no (by omega)] at HI2
                  go_wp2
                  go_roundw
                  case rel => exact ⟨vo, -1, k + 1, _, _, rfl, rfl, by simp [hwr], by omega, by omega, by omega, by omega, by omega, rfl, HB, HO, ⟨e1 ▸ HI2.out⟩⟩
                  case measure => simp [intOf, hwr]; omega
              · have HI2 := Aside0.mk (HI.out.more hkn n59 (by rw [hgd]; omega) (by rw [hgd]; omega))
                have qb : ((s[k.toNat].toNat : Int) == 32) = false := by simpa using hb32
                clear hgd n59
                by_cases hf : f < 0
                · rw [if_pos hf, Int.toNat_of_nonneg k0] at HI2
                  go_wp2
                  go_roundw
                  case rel => exact ⟨vo, k, k + 1, _, _, rfl, rfl, by simp [hwr], by omega, by omega, by omega, by omega, by omega, rfl, HB, HO, ⟨e1 ▸ HI2.out⟩⟩
                  case measure => simp [intOf, hwr]; omega
                · rw [if_neg hf] at HI2
                  go_wp2
                  go_roundw
                  case rel => exact ⟨vo, f, k + 1, _, _, rfl, rfl, by simp [hwr], by omega, by omega, by omega, by omega, by omega, rfl, HB, HO, ⟨e1 ▸ HI2.out⟩⟩
                  case measure => simp [intOf, hwr]; omega
end Go.Proofs.YtolmkdhgnganaaaGreatDoor.H
namespace Go.Proofs.YtolmkdhgnganaaaGreatDoor.H
open Go Go.RowKit Go.Proofs Go.Proofs.YtolmkdhgnganaaaGreatDoorW.PrintWords Go.Proofs.YtolmkdhgnganaaaGreatDoorW.PrintLast Go.Proofs.YtolmkdhgnganaaaGreatDoorW.PrintMore Go.Proofs.YtolmkdhgnganaaaGreatDoor.Sp
theorem infoLn9 : (Tryz.prog.info? 104).map (fun i => (i.zero, i.size, i.bytes)) = some (some (.agg #[.int .i64 0, .slice none 0 0]), 2, 32) := by kernel_rfl
/-- What Lines answers for a text that is not too long. -/
def Lines9R (s : ByteArray) (w : World) (e : Ending) (w' : World) : Prop :=
  Below w.heap.size w w' ∧
    ((badFrom 1 (spl s.data.toList) = none ∧ ∃ A c, e = .returned (.tuple #[.slice A (linesFrom 1 (spl s.data.toList)).length c, .int .i64 0, .int .i64 0]) ∧ kLine.R 104 w' w.heap.size (fun _ => True) (.slice A (linesFrom 1 (spl s.data.toList)).length c) (linesFrom 1 (spl s.data.toList))) ∨
     (∃ k, badFrom 1 (spl s.data.toList) = some k ∧ e = .returned (.tuple #[.slice none 0 0, .int .i64 k, .int .i64 6])))
theorem lines9_long (s : ByteArray) (w : World) (hs : 65536 < s.size) : Calls Tryz.prog 49 #[.string s] w (RetB w (.tuple #[.slice none 0 0, .int .i64 0, .int .i64 7])) := by
  have h : (65536 : Int) < (s.size : Int) := by omega
  go_enter Tryz.func49, Tryz.ntmps49
  go_wp2
  refine bodyPost_ret (v := .tuple #[.slice none 0 0, .int .i64 0, .int .i64 7]) ?_ rfl ⟨rfl, Below.refl _ _⟩
  simp [results, Tryz.f49, go_sem]
/-- What holds while Lines runs. -/
structure Ln9F (w : World) (s : ByteArray) (g5 c5 : Nat) (vo : Value) (out : List Ln) (k : Nat) (wr : World) : Prop where
  b : Below w.heap.size w wr
  p : Kd.string.R 9 wr w.heap.size (fun _ => True) (.slice (some ⟨g5, 0, none⟩) (pcs s).length c5) (pcs s)
  o : kLine.R 104 wr w.heap.size (fun _ => True) vo out
  i : L9I (spl s.data.toList) k out
theorem Ln9F.below {w wr w1 : World} {s : ByteArray} {g5 c5 k : Nat} {vo : Value} {out : List Ln} (h : Ln9F w s g5 c5 vo out k wr) (hb : Below wr.heap.size wr w1) : Ln9F w s g5 c5 vo out k w1 :=
  ⟨below_step h.b hb, Kd.R_below h.p hb, Kd.R_below h.o hb, h.i⟩
theorem str_ln : ∀ q, q ∈ 9 :: Kd.string.E → q ≠ 104 := by decide
set_option maxHeartbeats 4000000 in
set_option maxRecDepth 100000 in
theorem lines9_b (s : ByteArray) (w : World) (hs : s.size ≤ 65536) : Calls Tryz.prog 49 #[.string s] w (Lines9R s w) := by
  have hsz : ¬ (65536 : Int) < (s.size : Int) := by omega
  have hsd : decide ((65536 : Int) < (s.size : Int)) = false := decide_eq_false hsz
  have HS := Aside0.mk hs
  have hpl : (pcs s).length ≤ 65537 := by rw [pcs_len]; have := spl_len s.data.toList; have := size_data s; omega
  have hp1 : 0 < (pcs s).length := by rw [pcs_len]; exact List.length_pos_iff.2 (spl_ne _)
  go_enter Tryz.func49, Tryz.ntmps49
  go_wp2_with fail
  refine (cut9_b s w HS.out).mono ?_
  rintro e w1 ⟨hb, A5, c5, rfl, hp⟩
  obtain ⟨g5, _, e5, -, -, -⟩ := Kd.R_form hp hp1
  cases e5
  have HF0 : Aside0 (Ln9F w s g5 c5 (.slice none 0 0) [] 0 w1) := ⟨⟨hb, hp, Kd.R_nil _ _ _ _ _, L9I.zero _⟩⟩
  have HPL := Aside0.mk (pcs_len s)
  have HPZ := Aside0.mk (fun k => Nat.le_trans (pcs_size s k) HS.out)
  have HPG := Aside0.mk (pcs_getD s)
  clear hb hp hs
  generalize hn : (pcs s).length = n at hpl hp1 HPL ⊢
  have HN := Aside0.mk hn
  clear hn
  go_wp2_with fail
  go_loopw [6, 7] (fun ov cv w' => ∃ (vo : Value) (k : Int) (out : List Ln) (wr : World), vo = ov ∧ cv = .int .i64 k ∧ 0 ≤ k ∧ k ≤ n ∧ out.length ≤ k.toNat ∧ wr = w' ∧ Aside0 (Ln9F w s g5 c5 vo out k.toNat wr)) (fun _ cv _ => ((n : Int) - intOf cv).toNat)
  case atStart => exact ⟨_, 0, [], _, rfl, rfl, by omega, by omega, Nat.zero_le _, rfl, HF0⟩
  case round =>
    clear HF0
    obtain ⟨vo, k, out, wr, rfl, rfl, k0, k1, hol, rfl, HF⟩ := hrel
    by_cases hk : k < n
    · have hkn : k.toNat < (spl s.data.toList).length := by have := HPL.out; omega
      have hwr : wrap64 (k + 1) = k + 1 := w64 (by omega) (by omega)
      have e1 : (k + 1).toNat = k.toNat + 1 := by omega
      have ek : ((k.toNat : Nat) : Int) = k := by omega
      have z0 : wr.cell? ⟨g5, k.toNat, none⟩ = some (.string ((pcs s).getD k.toNat ⟨#[]⟩)) := words_cell HF.out.p k.toNat (by have := HN.out; omega)
      have HW := Aside0.mk (words9_b ((pcs s).getD k.toNat ⟨#[]⟩) wr (HPZ.out _))
      unfold WordsR at HW
      rw [HPG.out] at HW
      generalize (pcs s).getD k.toNat ⟨#[]⟩ = y at z0 HW
      go_wp2_with fail
      refine HW.out.mono ?_
      rintro e w3 ⟨hb, hr⟩
      clear HW z0
      rcases hr with ⟨hpl2, rfl⟩ | ⟨hpl2, A, c, rfl, hws⟩
      · have HD := Aside0.mk (HF.out.i.bad hkn hpl2)
        have HB3 := Aside0.mk (below_step HF.out.b hb)
        clear hpl2 hb
        go_wp2
        refine bodyPost_ret (v := .tuple #[.slice none 0 0, .int .i64 (k + 1), .int .i64 6]) ?_ rfl ⟨HB3.out, .inr ⟨k + 1, by rw [HD.out, ek], rfl⟩⟩
        simp [results, Tryz.f49, go_sem, hwr]
      · have HF3 := Aside0.mk (HF.out.below hb)
        have hbs := hb.size
        have hws0 := HF.out.b.size
        by_cases hz : (wds ((spl s.data.toList).getD k.toNat [])).length = 0
        · have HI := Aside0.mk (HF.out.i.skip hkn hpl2 hz)
          clear hpl2 hb hws HF
          rw [hz]
          go_wp2
          go_roundw
          case rel => exact ⟨vo, k + 1, out, _, rfl, by simp [hwr], by omega, by omega, by omega, rfl, ⟨⟨HF3.out.b, HF3.out.p, HF3.out.o, e1 ▸ HI.out⟩⟩⟩
          case measure => simp [intOf, hwr]; omega
        · have HI := Aside0.mk (HF.out.i.keep hkn hpl2 (by omega))
          rw [ek] at HI
          have HLt := Aside0.mk (fun i e => Kd.R_lt HF.out.o i e)
          have HWt := Aside0.mk (Kd.R_lower (Kd.R_mono (Kd.R_tight rfl hws) (ok' := fun i => wr.heap.size ≤ i) (fun i hi => Kd.R_base hws i hi.symm)) hws0)
          clear hpl2 hb hws HF
          generalize wds ((spl s.data.toList).getD k.toNat []) = ws at hz HI HWt ⊢
          have hz0 : (0 : Int) < ws.length := by omega
          go_wp2_with ((with_reducible refine gate_builtin (b := .append) (xs := #[.tmp 36, .tmp 41]) rfl ?_)
                       at_builtin
                       refine Kd.R_append kLine (w0 := w) w.heap.size rfl (.tmp 36) (.tmp 41) 97 104 (.agg #[.int .i64 0, .slice none 0 0]) 32 rfl Tryz.underlying97 infoLn9 rfl (Nat.zero_lt_succ 1) (by omega) vo out ⟨k + 1, ws⟩ [.int .i64 (k + 1), .slice A ws.length c] (fun _ => True) (fun i => wr.heap.size ≤ i) rfl rfl (kLine_mkM w3 w.heap.size _ ⟨k + 1, ws⟩ HWt.out) (fun i hi => ⟨trivial, fun e => by have := HLt.out i e.symm; omega⟩) (fun _ _ => trivial) HF3.out.o HF3.out.b HF3.out.b.size (by omega) ?_
                       intro v2 w7 hr2 hb2 hgr2 hat2
                       have HF7 : Aside0 (Ln9F w s g5 c5 v2 (out ++ [⟨k + 1, ws⟩]) (k.toNat + 1) w7) := ⟨⟨hb2, Kd.R_over' HF3.out.p (Kd.R_typed HF3.out.o) str_ln hgr2, hr2, HI.out⟩⟩
                       clear hr2 hb2 hgr2 hat2)
          go_roundw
          case rel => exact ⟨v2, k + 1, _, _, rfl, by simp [hwr], by omega, by omega, by rw [List.length_append, List.length_singleton]; omega, rfl, e1 ▸ HF7⟩
          case measure => simp [intOf, hwr]; omega
    · obtain rfl : k = n := by omega
      have hD : linesFrom 1 (spl s.data.toList) = out ∧ badFrom 1 (spl s.data.toList) = none := by
        have := HF.out.i
        rw [Int.toNat_natCast, HPL.out] at this
        exact this.done
      have HD := Aside0.mk hD
      clear hD
      obtain ⟨A, c, rfl, -, -⟩ := Kd.R_reads HF.out.o
      go_wp2
      refine bodyPost_ret (v := .tuple #[.slice A out.length c, .int .i64 0, .int .i64 0]) ?_ rfl ⟨HF.out.b, .inl ⟨HD.out.2, A, c, by rw [HD.out.1], by rw [HD.out.1]; exact HF.out.o⟩⟩
      simp [results, Tryz.f49, go_sem]
end Go.Proofs.YtolmkdhgnganaaaGreatDoor.H
namespace Go.Proofs.YtolmkdhgnganaaaGreatDoor.H
open Go Go.RowKit Go.Proofs Go.Proofs.YtolmkdhgnganaaaGreatDoorW.PrintWords Go.Proofs.YtolmkdhgnganaaaGreatDoorW.PrintLast Go.Proofs.YtolmkdhgnganaaaGreatDoorW.PrintMore Go.Proofs.YtolmkdhgnganaaaGreatDoor.Sp
/-- A line in memory. -/
theorem ln9_at {w : World} {B n c : Nat} {A : Option Addr} {l : List Ln} (h : kLine.R 104 w B (fun _ => True) (.slice A n c) l) (k : Int) (h0 : 0 ≤ k) (h1 : k < n) (hp : 0 < (l.getD k.toNat zLn).ws.length) :
    ∃ g b wc, A = some ⟨g, 0, none⟩ ∧ w.cell? ⟨g, k.toNat * 2, none⟩ = some (.int .i64 (l.getD k.toNat zLn).n) ∧ w.cell? ⟨g, k.toNat * 2 + 1, none⟩ = some (.slice (some ⟨b, 0, none⟩) (l.getD k.toNat zLn).ws.length wc) ∧
      Kd.string.R 9 w B (fun _ => True) (.slice (some ⟨b, 0, none⟩) (l.getD k.toNat zLn).ws.length wc) (l.getD k.toNat zLn).ws := by
  have hn : n = l.length := (Kd.R_reads' h).1
  subst hn
  obtain ⟨g, cap, e, -, -, -⟩ := Kd.R_form h (by omega)
  cases e
  obtain ⟨cs, _, hM, hcc0, _⟩ := Kd.R_elem h zLn k h0 h1
  have hcc : ∀ j u, cs[j]? = some u → w.cell? ⟨g, k.toNat * 2 + j, none⟩ = some u := hcc0
  obtain ⟨_, _, rfl, rfl, ⟨v, rfl, hR⟩⟩ := hM
  have hR' := Kd.R_mono hR (ok' := fun _ => True) (fun _ _ => trivial)
  obtain ⟨b, wc, rfl, -, -, -⟩ := Kd.R_form hR' hp
  exact ⟨g, b, wc, rfl, hcc 0 _ rfl, hcc 1 _ rfl, hR'⟩
/-- What holds while Parse runs. -/
structure PzG (w : World) (gp : Nat) (S : PSt) (lns : List Ln) (A : Option Addr) (c : Nat) (wr : World) : Prop where
  b : Below w.heap.size w wr
  p : ∃ vr vl vj, PG w.heap.size gp S vr vl vj wr
  r : wr.heap[w.heap.size]? = some (.cells #[.int .i64 0, .int .i64 0, .int .i64 0, .slice none 0 0] 24 (0, 0))
  l : kLine.R 104 wr w.heap.size (fun _ => True) (.slice A lns.length c) lns
section
variable {w wr w1 : World} {gp : Nat} {S : PSt} {lns : List Ln} {A : Option Addr} {c : Nat}
theorem PzG.below (h : PzG w gp S lns A c wr) (hb : Below wr.heap.size wr w1) : PzG w gp S lns A c w1 := by
  obtain ⟨vr, vl, vj, hp⟩ := h.p
  exact ⟨below_step h.b hb, ⟨vr, vl, vj, hp.below hb⟩, blk_below h.r hb, Kd.R_below h.l hb⟩
theorem PzG.step (h : PzG w gp S lns A c wr) {T : PSt} (hk : KQ w.heap.size wr w1) (hp : ∃ vr vl vj, PG w.heap.size gp T vr vl vj w1) : PzG w gp T lns A c w1 :=
  ⟨h.b.trans hk.b, hp, hk.blk h.r (by rfl), hk.lines h.l⟩
end
/-- While the jumps are looked at. -/
structure PeG (w : World) (gp : Nat) (S : PSt) (A : Option Addr) (c : Nat) (vl vj : Value) (wr : World) : Prop where
  b : Below w.heap.size w wr
  p : PG w.heap.size gp S (.slice A S.rungs.length c) vl vj wr
  r : wr.heap[w.heap.size]? = some (.cells #[.int .i64 0, .int .i64 0, .int .i64 0, .slice none 0 0] 24 (0, 0))
theorem PeG.below {w wr w1 : World} {gp : Nat} {S : PSt} {A : Option Addr} {c : Nat} {vl vj : Value} (h : PeG w gp S A c vl vj wr) (hb : Below wr.heap.size wr w1) : PeG w gp S A c vl vj w1 :=
  ⟨below_step h.b hb, h.p.below hb, blk_below h.r hb⟩
set_option maxHeartbeats 4000000 in
set_option maxRecDepth 100000 in
theorem parse9_b (s : ByteArray) (w : World) : Calls Tryz.prog 17 #[.string s] w (ParseR s w) := by
  generalize hV : parseP s = V
  have HV := Aside0.mk hV
  clear hV
  have HB0 := Aside0.mk (below_alloc (Below.refl w.heap.size w) (.cells #[.int .i64 0, .int .i64 0, .int .i64 0, .slice none 0 0] 24))
  have K0 := Aside0.mk (blk_new w (.cells #[.int .i64 0, .int .i64 0, .int .i64 0, .slice none 0 0] 24))
  go_enter Tryz.func17, Tryz.ntmps17
  go_wp2_with fail
  generalize w.alloc (.cells #[.int .i64 0, .int .i64 0, .int .i64 0, .slice none 0 0] 24) = w1 at HB0 K0 ⊢
  by_cases hs : 65536 < s.size
  · refine (lines9_long s w1 hs).mono ?_
    rintro e w2 ⟨rfl, hb⟩
    have hp : parseP s = (S0, 0, 7) := by rw [parseP, if_pos hs]
    have HP := Aside0.mk hp
    have HB := Aside0.mk (below_step HB0.out hb)
    have k2 := blk_below K0.out hb
    have r0 := blk_cell k2 0
    have r1 := blk_cell k2 1
    have r2 := blk_cell k2 2
    have r3 := blk_cell k2 3
    have f0 := blk_frozen k2 0
    have f1 := blk_frozen k2 1
    have f2 := blk_frozen k2 2
    have f3 := blk_frozen k2 3
    have K2 := Aside0.mk k2
    clear hp hb k2
    go_wp2
    have KZ : Aside0 (((((w2.setCell ⟨w.heap.size, 0, none⟩ (.int .i64 0)).setCell ⟨w.heap.size, 1, none⟩ (.int .i64 0)).setCell ⟨w.heap.size, 2, none⟩ (.int .i64 0)).setCell ⟨w.heap.size, 3, none⟩ (.slice none 0 0)).heap[w.heap.size]? = some (.cells #[.int .i64 0, .int .i64 0, .int .i64 0, .slice none 0 0] 24 (0, 0))) := ⟨set4_blk (K2.out)⟩
    have FB : Aside0 (Below w.heap.size w (((((w2.setCell ⟨w.heap.size, 0, none⟩ (.int .i64 0)).setCell ⟨w.heap.size, 1, none⟩ (.int .i64 0)).setCell ⟨w.heap.size, 2, none⟩ (.int .i64 0)).setCell ⟨w.heap.size, 3, none⟩ (.slice none 0 0)))) := ⟨set4_below (HB.out) (Nat.le_refl _)⟩
    generalize ((((w2.setCell ⟨w.heap.size, 0, none⟩ (.int .i64 0)).setCell ⟨w.heap.size, 1, none⟩ (.int .i64 0)).setCell ⟨w.heap.size, 2, none⟩ (.int .i64 0)).setCell ⟨w.heap.size, 3, none⟩ (.slice none 0 0)) = wz at KZ FB ⊢
    have z0 : wz.cell? ⟨w.heap.size, 0, none⟩ = some (.int .i64 0) := blk_cell KZ.out 0
    have z1 : wz.cell? ⟨w.heap.size, 1, none⟩ = some (.int .i64 0) := blk_cell KZ.out 1
    have z2 : wz.cell? ⟨w.heap.size, 2, none⟩ = some (.int .i64 0) := blk_cell KZ.out 2
    have z3 : wz.cell? ⟨w.heap.size, 3, none⟩ = some (.slice none 0 0) := blk_cell KZ.out 3
    refine bodyPost_ret (v := .tuple #[.agg #[.int .i64 0, .int .i64 0, .int .i64 0, .slice none 0 0], .slice none 0 0, .int .i64 0, .int .i64 7]) ?_ rfl (ParseR.bad HP.out (by decide) FB.out)
    simp [results, Tryz.f17, go_sem, z0, z1, z2, z3]
  · have hs' : s.size ≤ 65536 := by omega
    have HPP : Aside0 (parseP s = match badFrom 1 (spl s.data.toList) with
      | some n => (S0, n, 6)
      | none => if (runS S0 (linesFrom 1 (spl s.data.toList))).2.2 = 0 then endS (runS S0 (linesFrom 1 (spl s.data.toList))).1 else runS S0 (linesFrom 1 (spl s.data.toList))) := ⟨by rw [parseP_spl hs'] <;> rfl⟩
    clear hs HV V
    refine (lines9_b s w1 hs').mono ?_
    rintro e w2 ⟨hb, hr⟩
    have HB := Aside0.mk (below_step HB0.out hb)
    have K2 := Aside0.mk (blk_below K0.out hb)
    have hbs := HB0.out.size
    clear hb
    rcases hr with ⟨hbl, A, c, rfl, hl⟩ | ⟨k, hbl, rfl⟩
    · rw [hbl] at HPP
      dsimp only at HPP
      have HLn := Aside0.mk (fun x (hx : x ∈ linesFrom 1 (spl s.data.toList)) => lns_ok hs' (lnsOf_cnts s ▸ hx))
      have HL := Aside0.mk (Kd.R_lower hl hbs)
      have hlen : (linesFrom 1 (spl s.data.toList)).length ≤ 65537 := by
        rw [← lnsOf_cnts]
        exact Nat.le_trans (lnsOf_le _) (by unfold cnts; rw [upN_length]; exact pieces_le s hs')
      clear hl hbl hs' hbs
      generalize linesFrom 1 (spl s.data.toList) = lns at HPP HLn HL hlen ⊢
      have HB3 := Aside0.mk (below_alloc HB.out (.cells #[.int .i64 0, .int .i64 0, .int .i64 0, .slice none 0 0, .slice none 0 0, .slice none 0 0, .bool false] 102))
      have K3 := Aside0.mk (blk_alloc K2.out (.cells #[.int .i64 0, .int .i64 0, .int .i64 0, .slice none 0 0, .slice none 0 0, .slice none 0 0, .bool false] 102))
      have KP3 := Aside0.mk (blk_new w2 (.cells #[.int .i64 0, .int .i64 0, .int .i64 0, .slice none 0 0, .slice none 0 0, .slice none 0 0, .bool false] 102))
      have HL3 := Aside0.mk (Kd.R_alloc HL.out (.cells #[.int .i64 0, .int .i64 0, .int .i64 0, .slice none 0 0, .slice none 0 0, .slice none 0 0, .bool false] 102))
      have hgp : w.heap.size ≤ w2.heap.size := HB.out.size
      clear HB K2 HL
      go_wp2_with fail
      generalize w2.alloc (.cells #[.int .i64 0, .int .i64 0, .int .i64 0, .slice none 0 0, .slice none 0 0, .slice none 0 0, .bool false] 102) = w3 at HB3 K3 KP3 HL3 ⊢
      generalize w2.heap.size = gp at KP3 hgp ⊢
      have HF0 : Aside0 (PzG w gp S0 lns A c w3) := ⟨⟨HB3.out, ⟨.slice none 0 0, .slice none 0 0, .slice none 0 0, ⟨hgp, HB3.out.size, KP3.out, Kd.S_nil _ _ _ _ _, Kd.R_nil _ _ _ _ _, Kd.R_nil _ _ _ _ _, (fun k e => by cases e), rfl, rfl, Nat.zero_le _⟩⟩, K3.out, HL3.out⟩⟩
      clear HB3 K3 KP3 HL3
      go_loopw [10] (fun cv w' => ∃ k : Int, cv = .int .i64 k ∧ 0 ≤ k ∧ k ≤ lns.length ∧ ∃ S, ∃ wr : World, wr = w' ∧ Aside0 (PzG w gp S lns A c wr) ∧ Aside0 (Caps S) ∧ Aside0 (runS S0 lns = runS S (lns.drop k.toNat))) (fun cv _ => ((lns.length : Int) - intOf cv).toNat)
      case atStart => exact ⟨0, rfl, by omega, by omega, S0, _, rfl, HF0, ⟨fun r hr => by cases hr⟩, ⟨rfl⟩⟩
      case round =>
        clear HF0
        obtain ⟨k, rfl, k0, k1, S, wr, rfl, HF, HC, HR⟩ := hrel
        by_cases hk : k < lns.length
        · have hkn : k.toNat < lns.length := by omega
          have hmem : lns.getD k.toNat zLn ∈ lns := by
            have : lns.getD k.toNat zLn = lns[k.toNat] := by simp [List.getD, hkn]
            rw [this]; exact List.getElem_mem hkn
          obtain ⟨hw0, hwsz⟩ := HLn.out _ hmem
          have HSz := Aside0.mk hwsz
          obtain ⟨g, b, wc, rfl, x0, x1, hws⟩ := ln9_at HF.out.l k k0 (by omega) hw0
          have HR2 := Aside0.mk (HR.out.trans (run_drop (S := S) k0 hk))
          clear hmem hwsz HR
          obtain ⟨n, ws, hx⟩ : ∃ n ws, lns.getD k.toNat zLn = ⟨n, ws⟩ := ⟨_, _, rfl⟩
          have HX := Aside0.mk hx
          rw [hx] at HSz HR2 hw0 x0 x1 hws
          dsimp only at HSz HR2 hw0 x0 x1 hws
          clear hx
          have hwr : wrap64 (k + 1) = k + 1 := w64 (by omega) (by omega)
          have HW5 := Aside0.mk hws
          obtain ⟨vr, vl, vj, hpf⟩ := HF.out.p
          have HCall := Aside0.mk (do9_p hpf n b ws.length wc ws hws HSz.out hw0 HC.out)
          clear hws hpf
          go_wp2_with fail
          clear x0 x1
          refine HCall.out.mono ?_
          clear HCall
          rintro e w6 ⟨rfl, hkp, hp6⟩
          have HCl := Aside0.mk (HC.out.line n ws)
          generalize hq : lineS S n ws = q at HR2 HCl hp6 ⊢
          clear hq
          obtain ⟨T, x⟩ := q
          dsimp only at *
          by_cases hx : x = 0
          · subst hx
            have HF6 := Aside0.mk (HF.out.step hkp (hp6 rfl))
            have HR6 := Aside0.mk (HR2.out.trans (if_pos rfl))
            clear HF HW5 hkp hp6 HR2
            go_wp2
            go_roundw
            case rel => exact ⟨k + 1, by simp [hwr], by omega, by omega, T, _, rfl, HF6, HCl, HR6⟩
            case measure => simp [intOf, hwr]; omega
          · have HB6 := Aside0.mk (HF.out.b.trans hkp.b)
            have KL6 := Aside0.mk (hkp.blk HF.out.r (by rfl))
            have HLR := hkp.lines HF.out.l
            obtain ⟨_, _, _, eg, u0, -, -⟩ := ln9_at HLR k k0 (by omega) (by rw [HX.out]; exact hw0)
            cases eg
            rw [HX.out] at u0
            change w6.cell? ⟨g, k.toNat * 2, none⟩ = some (.int .i64 n) at u0
            obtain ⟨_, htl⟩ := Kd.R_typed HLR g rfl
            have hn0 : g ≠ w.heap.size := fun e => by have h2 := KL6.out; rw [e, h2] at htl; cases htl
            clear HLR htl
            have hP := HPP.out
            rw [HR2.out, if_neg hx] at hP
            dsimp only at hP
            rw [if_neg hx] at hP
            have HP := Aside0.mk hP
            clear HF HW5 hkp hp6 HR2 hP
            have hxb : (x == 0) = false := beq_eq_false_iff_ne.2 hx
            have r0 := blk_cell KL6.out 0
            have r1 := blk_cell KL6.out 1
            have r2 := blk_cell KL6.out 2
            have r3 := blk_cell KL6.out 3
            have f0 := blk_frozen KL6.out 0
            have f1 := blk_frozen KL6.out 1
            have f2 := blk_frozen KL6.out 2
            have f3 := blk_frozen KL6.out 3
            go_wp2
            refine start_ (n := 11) (S := fun w' => w'.cell? ⟨g, k.toNat * 2, none⟩ = some (.int .i64 n)) (ds := []) #[false, false, false, false, false, false, false, false, false, false, false] (by kernel_rfl) rfl rfl (u0) (fun hHeld => ?_)
            refine pure_ (i := 0) (N := some 40) (v := ?_) (a' := ?_) #[true, false, false, false, false, false, false, false, false, false, false] rfl rfl (by kernel_rfl) (fun _ _ _ h => h) (Or.inl ⟨by rfl, ?_⟩) ?_ ?_
            rotate_left
            · intro w'
              go_simp
              with_reducible rfl
            rotate_left
            · simp only [Act.put, List.setIfInBounds_toArray, List.set_cons_zero, List.set_cons_succ, i64_w, i32_w]
              rfl
            refine pure_ (i := 1) (N := some 41) (v := ?_) (a' := ?_) #[true, true, false, false, false, false, false, false, false, false, false] rfl rfl (by kernel_rfl) (fun _ _ _ h => h) (Or.inl ⟨by rfl, ?_⟩) ?_ ?_
            rotate_left
            · intro w'
              go_simp
              with_reducible rfl
            rotate_left
            · simp only [Act.put, List.setIfInBounds_toArray, List.set_cons_zero, List.set_cons_succ, i64_w, i32_w]
              rfl
            refine pure_ (i := 2) (N := some 42) (v := ?_) (a' := ?_) #[true, true, true, false, false, false, false, false, false, false, false] rfl rfl (by kernel_rfl) (fun _ _ _ h => h) (Or.inl ⟨by rfl, ?_⟩) ?_ ?_
            rotate_left
            · intro w'
              go_simp
              with_reducible rfl
            rotate_left
            · simp only [Act.put, List.setIfInBounds_toArray, List.set_cons_zero, List.set_cons_succ, i64_w, i32_w]
              rfl
            refine pure_ (i := 3) (N := some 43) (v := ?_) (a' := ?_) #[true, true, true, true, false, false, false, false, false, false, false] rfl rfl (by kernel_rfl) (fun _ _ _ h => h) (Or.inl ⟨by rfl, ?_⟩) ?_ ?_
            rotate_left
            · intro w'
              go_simp
              with_reducible rfl
            rotate_left
            · simp only [Act.put, List.setIfInBounds_toArray, List.set_cons_zero, List.set_cons_succ, i64_w, i32_w]
              rfl
            refine pure_ (i := 4) (N := some 44) (v := ?_) (a' := ?_) #[true, true, true, true, true, false, false, false, false, false, false] rfl rfl (by kernel_rfl) (fun _ _ _ h => h) (Or.inl ⟨by rfl, ?_⟩) ?_ ?_
            rotate_left
            · intro w'
              go_simp
              with_reducible rfl
            rotate_left
            · simp only [Act.put, List.setIfInBounds_toArray, List.set_cons_zero, List.set_cons_succ, i64_w, i32_w]
              rfl
            refine pure_ (i := 6) (N := some 46) (v := ?_) (a' := ?_) #[true, true, true, true, true, false, true, false, false, false, false] rfl rfl (by kernel_rfl) (fun _ _ _ h => h) (Or.inl ⟨by rfl, ?_⟩) ?_ ?_
            rotate_left
            · intro w'
              go_simp
              with_reducible rfl
            rotate_left
            · simp only [Act.put, List.setIfInBounds_toArray, List.set_cons_zero, List.set_cons_succ, i64_w, i32_w]
              rfl
            refine take_ (i := 5) (N := some 45) (v := ?_) (a' := ?_) #[true, true, true, true, true, true, true, false, false, false, false] rfl rfl (by kernel_rfl) (fun _ _ _ h => h) (Or.inl ⟨by rfl, ?_⟩) hHeld ?_ ?_
            rotate_left
            · intro w' s0
              go_simp
              with_reducible rfl
            rotate_left
            · simp only [Act.put, List.setIfInBounds_toArray, List.set_cons_zero, List.set_cons_succ, i64_w, i32_w]
              rfl
            refine one_ (i := 7) (N := none) #[true, true, true, true, true, true, true, true, false, false, false] rfl rfl (by kernel_rfl) (by decide) (fun K hK => ?_)
            refine skip_ (w1 := ?_) (by rfl) rfl ?_ ?_
            rotate_left
            · go_simp
              rfl
            refine hK.out _ _ ((set4_far hn0 u0)) (fun hHeld => ?_)
            clear hK K
            refine pure_ (i := 8) (N := some 3) (v := ?_) (a' := ?_) #[true, true, true, true, true, true, true, true, true, false, false] rfl rfl (by kernel_rfl) (fun _ _ _ h => h) (Or.inl ⟨by rfl, ?_⟩) ?_ ?_
            rotate_left
            · intro w'
              go_simp
              with_reducible rfl
            rotate_left
            · simp only [Act.put, List.setIfInBounds_toArray, List.set_cons_zero, List.set_cons_succ, i64_w, i32_w]
              rfl
            refine pure_ (i := 9) (N := some 4) (v := ?_) (a' := ?_) #[true, true, true, true, true, true, true, true, true, true, false] rfl rfl (by kernel_rfl) (fun _ _ _ h => h) (Or.inl ⟨by rfl, ?_⟩) ?_ ?_
            rotate_left
            · intro w'
              go_simp
              with_reducible rfl
            rotate_left
            · simp only [Act.put, List.setIfInBounds_toArray, List.set_cons_zero, List.set_cons_succ, i64_w, i32_w]
              rfl
            refine pure_ (i := 10) (N := some 5) (v := ?_) (a' := ?_) #[true, true, true, true, true, true, true, true, true, true, true] rfl rfl (by kernel_rfl) (fun _ _ _ h => h) (Or.inl ⟨by rfl, ?_⟩) ?_ ?_
            rotate_left
            · intro w'
              go_simp
              with_reducible rfl
            rotate_left
            · simp only [Act.put, List.setIfInBounds_toArray, List.set_cons_zero, List.set_cons_succ, i64_w, i32_w]
              rfl
            refine done_ (by kernel_rfl) ?_
            clear u0 r0 r1 r2 r3 f0 f1 f2 f3
            have KZ := Aside0.mk (blk_drew (set4_blk (a := .int .i64 0) (b := .int .i64 0) (c := .int .i64 0) (d := .slice none 0 0) KL6.out))
            have FB := Aside0.mk (below_drew (set4_below (a := .int .i64 0) (b := .int .i64 0) (c := .int .i64 0) (d := .slice none 0 0) HB6.out (Nat.le_refl _)))
            generalize (set4 w6 w.heap.size (.int .i64 0) (.int .i64 0) (.int .i64 0) (.slice none 0 0)).drew = wz at KZ FB ⊢
            have z0 : wz.cell? ⟨w.heap.size, 0, none⟩ = some (.int .i64 0) := blk_cell KZ.out 0
            have z1 : wz.cell? ⟨w.heap.size, 1, none⟩ = some (.int .i64 0) := blk_cell KZ.out 1
            have z2 : wz.cell? ⟨w.heap.size, 2, none⟩ = some (.int .i64 0) := blk_cell KZ.out 2
            have z3 : wz.cell? ⟨w.heap.size, 3, none⟩ = some (.slice none 0 0) := blk_cell KZ.out 3
            go_wp2
            refine bodyPost_ret (v := .tuple #[.agg #[.int .i64 0, .int .i64 0, .int .i64 0, .slice none 0 0], .slice none 0 0, .int .i64 n, .int .i64 x]) ?_ rfl (ParseR.bad HP.out hx FB.out)
            simp [results, Tryz.f17, go_sem, z0, z1, z2, z3]
        · obtain rfl : k = lns.length := by omega
          have HE0 : Aside0 (runS S0 lns = (S, 0, 0)) := ⟨by rw [HR.out, Int.toNat_natCast, List.drop_length]; rfl⟩
          have HPE : Aside0 (parseP s = endS S) := ⟨by rw [HPP.out, HE0.out]; rfl⟩
          clear HR HE0 HPP
          obtain ⟨vr, vl, vj, hpf⟩ := HF.out.p
          obtain ⟨Al, cl, rfl, -, -⟩ := Kd.R_reads hpf.l
          obtain ⟨Aj, cj, rfl, -, -⟩ := Kd.R_reads hpf.j
          have HPF := Aside0.mk hpf
          have KL := Aside0.mk HF.out.r
          have HB := Aside0.mk HF.out.b
          obtain ⟨Ar, cr, rfl, hcr, hCr⟩ := Kd.S_reads hpf.r
          have p3 := hpf.cells.2.2.2.1
          have p4 := hpf.cells.2.2.2.2.2.2
          have h64 := hpf.n64
          clear hpf HF
          cases hsz : S.sized with
          | false =>
            rw [hsz] at p4
            have hP : parseP s = (S, 0, 5) := by rw [HPE.out, endS, if_pos hsz]
            have HP := Aside0.mk hP
            have r0 := blk_cell KL.out 0
            have r1 := blk_cell KL.out 1
            have r2 := blk_cell KL.out 2
            have r3 := blk_cell KL.out 3
            have f0 := blk_frozen KL.out 0
            have f1 := blk_frozen KL.out 1
            have f2 := blk_frozen KL.out 2
            have f3 := blk_frozen KL.out 3
            clear hP p3 hCr
            go_wp2
            clear r0 r1 r2 r3 f0 f1 f2 f3 p4
            have KZ : Aside0 (((((wr.setCell ⟨w.heap.size, 0, none⟩ (.int .i64 0)).setCell ⟨w.heap.size, 1, none⟩ (.int .i64 0)).setCell ⟨w.heap.size, 2, none⟩ (.int .i64 0)).setCell ⟨w.heap.size, 3, none⟩ (.slice none 0 0)).heap[w.heap.size]? = some (.cells #[.int .i64 0, .int .i64 0, .int .i64 0, .slice none 0 0] 24 (0, 0))) := ⟨set4_blk KL.out⟩
            have FB : Aside0 (Below w.heap.size w ((((wr.setCell ⟨w.heap.size, 0, none⟩ (.int .i64 0)).setCell ⟨w.heap.size, 1, none⟩ (.int .i64 0)).setCell ⟨w.heap.size, 2, none⟩ (.int .i64 0)).setCell ⟨w.heap.size, 3, none⟩ (.slice none 0 0))) := ⟨set4_below HB.out (Nat.le_refl _)⟩
            generalize ((((wr.setCell ⟨w.heap.size, 0, none⟩ (.int .i64 0)).setCell ⟨w.heap.size, 1, none⟩ (.int .i64 0)).setCell ⟨w.heap.size, 2, none⟩ (.int .i64 0)).setCell ⟨w.heap.size, 3, none⟩ (.slice none 0 0)) = wz at KZ FB ⊢
            have z0 : wz.cell? ⟨w.heap.size, 0, none⟩ = some (.int .i64 0) := blk_cell KZ.out 0
            have z1 : wz.cell? ⟨w.heap.size, 1, none⟩ = some (.int .i64 0) := blk_cell KZ.out 1
            have z2 : wz.cell? ⟨w.heap.size, 2, none⟩ = some (.int .i64 0) := blk_cell KZ.out 2
            have z3 : wz.cell? ⟨w.heap.size, 3, none⟩ = some (.slice none 0 0) := blk_cell KZ.out 3
            refine bodyPost_ret (v := .tuple #[.agg #[.int .i64 0, .int .i64 0, .int .i64 0, .slice none 0 0], .slice none 0 0, .int .i64 0, .int .i64 5]) ?_ rfl (ParseR.bad HP.out (by decide) FB.out)
            simp [results, Tryz.f17, go_sem, z0, z1, z2, z3]
          | true =>
            rw [hsz] at p4
            have HSz := Aside0.mk hsz
            go_wp2
            go_loopw [11] (fun cv w' => ∃ k : Int, cv = .int .i64 k ∧ 0 ≤ k ∧ k ≤ S.rungs.length ∧ ∃ wx : World, wx = w' ∧ Aside0 (PeG w gp S Ar cr (.slice Al S.lines.length cl) (.slice Aj S.jumps.length cj) wx) ∧ Aside0 (∀ j : Nat, (j : Int) < k → jbAt S.rungs (j : Int) = false)) (fun cv _ => ((S.rungs.length : Int) - intOf cv).toNat)
            case atStart => exact ⟨0, rfl, by omega, by omega, _, rfl, ⟨⟨HB.out, HPF.out, KL.out⟩⟩, ⟨fun j hj => by omega⟩⟩
            case round =>
              clear HB HPF KL hCr p3 p4
              obtain ⟨k, rfl, k0, k1, wx, rfl, HF, HJ⟩ := hrel
              have hCr := (Kd.S_reads' HF.out.p.r).2.2
              have p3 := HF.out.p.cells.2.2.2.1
              have ltg : gp < wx.heap.size := blk_lt HF.out.p.p
              by_cases hk : k < S.rungs.length
              · obtain ⟨ad, A1, c1, A2, c2, rfl, x0, x1, x2, x3, hl1, hi1, hl2, hi2⟩ := PPrinterRoundTrip.at_T53 hCr k k0 hk
                clear hl1 hi1 hl2 hi2
                change wx.cell? _ = some (.string (rdR S.rungs k).f0) at x0
                change wx.cell? _ = some (.slice A1 (rdR S.rungs k).f1.length c1) at x1
                change wx.cell? _ = some (.slice A2 (rdR S.rungs k).f2.length c2) at x2
                change wx.cell? _ = some (.string (rdR S.rungs k).f3) at x3
                have hwr : wrap64 (k + 1) = k + 1 := w64 (by omega) (by omega)
                have hjb : jbAt S.rungs k = (!(rdR S.rungs k).f3.toList.isEmpty && !hasLab (S.rungs.drop (k + 1).toNat) (rdR S.rungs k).f3) := rfl
                have HStep : Aside0 (jbAt S.rungs k = false → ∀ j : Nat, (j : Int) < k + 1 → jbAt S.rungs (j : Int) = false) := ⟨fun h j hj => by
                  by_cases hj2 : (j : Int) < k
                  · exact HJ.out j hj2
                  · obtain rfl : (j : Int) = k := by omega
                    exact h⟩
                by_cases j0 : (rdR S.rungs k).f3.toList = []
                · have j1 : (rdR S.rungs k).f3.toList.isEmpty = true := by rw [j0]; rfl
                  have HJ2 := Aside0.mk (HStep.out (by rw [hjb, j1]; rfl))
                  clear hjb HStep hCr
                  go_wp2
                  go_roundw
                  case rel => exact ⟨k + 1, by simp [hwr], by omega, by omega, _, rfl, HF, HJ2⟩
                  case measure => simp [intOf, hwr]; omega
                · have j1 : (rdR S.rungs k).f3.toList.isEmpty = false := by simpa using j0
                  have HHas := Aside0.mk (behind_b S.i S.q S.m (some ad) cr S.rungs k (rdR S.rungs k).f3 wx hCr hcr k0 hk)
                  obtain ⟨p0, p1, p2, -, -, -, -⟩ := HF.out.p.cells
                  generalize hasLab (S.rungs.drop (k + 1).toNat) (rdR S.rungs k).f3 = hl at HHas hjb
                  have HJB := Aside0.mk hjb
                  clear hjb hCr
                  go_wp2_with fail
                  refine HHas.out.mono ?_
                  rintro e1 w3 ⟨rfl, hb⟩
                  have HF3 := Aside0.mk (HF.out.below hb)
                  clear HHas hb HF
                  cases hl with
                  | true =>
                    have HJ2 := Aside0.mk (HStep.out (by rw [HJB.out, j1]; rfl))
                    go_wp2
                    go_roundw
                    case rel => exact ⟨k + 1, by simp [hwr], by omega, by omega, _, rfl, HF3, HJ2⟩
                    case measure => simp [intOf, hwr]; omega
                  | false =>
                    have hN : parseP s = (S, S.jumps.getD k.toNat 0, 15) := by
                      rw [HPE.out, endS, if_neg (by rw [HSz.out]; simp), firstN_some (k := k.toNat) (by omega) (by rw [show ((k.toNat : Nat) : Int) = k by omega, HJB.out, j1]; rfl) (fun j hj => HJ.out j (by omega))]
                    have HN := Aside0.mk hN
                    have hjl := HF3.out.p.nj
                    obtain ⟨gj, cj', ej, -, -, -⟩ := Kd.R_form HF3.out.p.j (by omega)
                    cases ej
                    obtain ⟨cb, htj⟩ := Kd.R_typed HF3.out.p.j gj rfl
                    have hn0 : gp ≠ w.heap.size := fun e => by have h1 := HF3.out.p.p; have h2 := HF3.out.r; rw [e, h2] at h1; simp at h1
                    have hn1 : gj ≠ w.heap.size := fun e => by have h2 := HF3.out.r; rw [e, h2] at htj; cases htj
                    have u0 := HF3.out.p.cells.2.2.2.2.2.1
                    have u1 : w3.cell? ⟨gj, k.toNat, none⟩ = some (.int .i64 (S.jumps.getD k.toNat 0)) := by
                      obtain ⟨ad, e, hc⟩ := Kd.at_int (Kd.R_reads' HF3.out.p.j).2.2 k (by omega) (by omega)
                      cases e
                      have ea : (⟨gj, 0, none⟩ : Addr).add k.toNat = ⟨gj, k.toNat, none⟩ := by unfold Addr.add; split <;> simp_all
                      rw [ea] at hc
                      exact hc
                    have KL := Aside0.mk HF3.out.r
                    have HB := Aside0.mk HF3.out.b
                    have r0 := blk_cell KL.out 0
                    have r1 := blk_cell KL.out 1
                    have r2 := blk_cell KL.out 2
                    have r3 := blk_cell KL.out 3
                    have f0 := blk_frozen KL.out 0
                    have f1 := blk_frozen KL.out 1
                    have f2 := blk_frozen KL.out 2
                    have f3 := blk_frozen KL.out 3
                    have hjk : k < (S.jumps.length : Int) := by omega
                    clear hN htj hjl x0 x1 x2 x3 p0 p1 p2 p3 HF3 ltg
                    generalize S.jumps.getD k.toNat 0 = y at u1 HN
                    go_wp2
                    refine start_ (n := 12) (S := fun w' => w'.cell? ⟨gp, 5, none⟩ = some (.slice (some ⟨gj, 0, none⟩) S.jumps.length cj) ∧ w'.cell? ⟨gj, k.toNat, none⟩ = some (.int .i64 y)) (ds := []) #[false, false, false, false, false, false, false, false, false, false, false, false] (by kernel_rfl) rfl rfl ⟨u0, u1⟩ (fun hHeld => ?_)
                    refine pure_ (i := 0) (N := some 84) (v := ?_) (a' := ?_) #[true, false, false, false, false, false, false, false, false, false, false, false] rfl rfl (by kernel_rfl) (fun _ _ _ h => h) (Or.inl ⟨by rfl, ?_⟩) ?_ ?_
                    rotate_left
                    · intro w'
                      go_simp
                      with_reducible rfl
                    rotate_left
                    · simp only [Act.put, List.setIfInBounds_toArray, List.set_cons_zero, List.set_cons_succ, i64_w, i32_w]
                      rfl
                    refine pure_ (i := 1) (N := some 85) (v := ?_) (a' := ?_) #[true, true, false, false, false, false, false, false, false, false, false, false] rfl rfl (by kernel_rfl) (fun _ _ _ h => h) (Or.inl ⟨by rfl, ?_⟩) ?_ ?_
                    rotate_left
                    · intro w'
                      go_simp
                      with_reducible rfl
                    rotate_left
                    · simp only [Act.put, List.setIfInBounds_toArray, List.set_cons_zero, List.set_cons_succ, i64_w, i32_w]
                      rfl
                    refine pure_ (i := 2) (N := some 86) (v := ?_) (a' := ?_) #[true, true, true, false, false, false, false, false, false, false, false, false] rfl rfl (by kernel_rfl) (fun _ _ _ h => h) (Or.inl ⟨by rfl, ?_⟩) ?_ ?_
                    rotate_left
                    · intro w'
                      go_simp
                      with_reducible rfl
                    rotate_left
                    · simp only [Act.put, List.setIfInBounds_toArray, List.set_cons_zero, List.set_cons_succ, i64_w, i32_w]
                      rfl
                    refine pure_ (i := 3) (N := some 87) (v := ?_) (a' := ?_) #[true, true, true, true, false, false, false, false, false, false, false, false] rfl rfl (by kernel_rfl) (fun _ _ _ h => h) (Or.inl ⟨by rfl, ?_⟩) ?_ ?_
                    rotate_left
                    · intro w'
                      go_simp
                      with_reducible rfl
                    rotate_left
                    · simp only [Act.put, List.setIfInBounds_toArray, List.set_cons_zero, List.set_cons_succ, i64_w, i32_w]
                      rfl
                    refine pure_ (i := 5) (N := some 89) (v := ?_) (a' := ?_) #[true, true, true, true, false, true, false, false, false, false, false, false] rfl rfl (by kernel_rfl) (fun _ _ _ h => h) (Or.inl ⟨by rfl, ?_⟩) ?_ ?_
                    rotate_left
                    · intro w'
                      go_simp
                      with_reducible rfl
                    rotate_left
                    · simp only [Act.put, List.setIfInBounds_toArray, List.set_cons_zero, List.set_cons_succ, i64_w, i32_w]
                      rfl
                    refine take_ (i := 4) (N := some 88) (v := ?_) (a' := ?_) #[true, true, true, true, true, true, false, false, false, false, false, false] rfl rfl (by kernel_rfl) (fun _ _ _ h => h) (Or.inl ⟨by rfl, ?_⟩) hHeld ?_ ?_
                    rotate_left
                    · rintro w' ⟨s0, s1⟩
                      go_simp
                      with_reducible rfl
                    rotate_left
                    · simp only [Act.put, List.setIfInBounds_toArray, List.set_cons_zero, List.set_cons_succ, i64_w, i32_w]
                      rfl
                    refine pure_ (i := 6) (N := some 90) (v := ?_) (a' := ?_) #[true, true, true, true, true, true, true, false, false, false, false, false] rfl rfl (by kernel_rfl) (fun _ _ _ h => h) (Or.inl ⟨by rfl, ?_⟩) ?_ ?_
                    rotate_left
                    · intro w'
                      go_simp
                      with_reducible rfl
                    rotate_left
                    · simp only [Act.put, List.setIfInBounds_toArray, List.set_cons_zero, List.set_cons_succ, i64_w, i32_w]
                      rfl
                    refine take_ (i := 7) (N := some 91) (v := ?_) (a' := ?_) #[true, true, true, true, true, true, true, true, false, false, false, false] rfl rfl (by kernel_rfl) (fun _ _ _ h => h) (Or.inl ⟨by rfl, ?_⟩) hHeld ?_ ?_
                    rotate_left
                    · rintro w' ⟨s0, s1⟩
                      go_simp
                      with_reducible rfl
                    rotate_left
                    · simp only [Act.put, List.setIfInBounds_toArray, List.set_cons_zero, List.set_cons_succ, i64_w, i32_w]
                      rfl
                    refine one_ (i := 8) (N := none) #[true, true, true, true, true, true, true, true, true, false, false, false] rfl rfl (by kernel_rfl) (by decide) (fun K hK => ?_)
                    refine skip_ (w1 := ?_) (by rfl) rfl ?_ ?_
                    rotate_left
                    · go_simp
                      rfl
                    refine hK.out _ _ ⟨(set4_far hn0 u0), (set4_far hn1 u1)⟩ (fun hHeld => ?_)
                    clear hK K
                    refine pure_ (i := 9) (N := some 3) (v := ?_) (a' := ?_) #[true, true, true, true, true, true, true, true, true, true, false, false] rfl rfl (by kernel_rfl) (fun _ _ _ h => h) (Or.inl ⟨by rfl, ?_⟩) ?_ ?_
                    rotate_left
                    · intro w'
                      go_simp
                      with_reducible rfl
                    rotate_left
                    · simp only [Act.put, List.setIfInBounds_toArray, List.set_cons_zero, List.set_cons_succ, i64_w, i32_w]
                      rfl
                    refine pure_ (i := 10) (N := some 4) (v := ?_) (a' := ?_) #[true, true, true, true, true, true, true, true, true, true, true, false] rfl rfl (by kernel_rfl) (fun _ _ _ h => h) (Or.inl ⟨by rfl, ?_⟩) ?_ ?_
                    rotate_left
                    · intro w'
                      go_simp
                      with_reducible rfl
                    rotate_left
                    · simp only [Act.put, List.setIfInBounds_toArray, List.set_cons_zero, List.set_cons_succ, i64_w, i32_w]
                      rfl
                    refine pure_ (i := 11) (N := some 5) (v := ?_) (a' := ?_) #[true, true, true, true, true, true, true, true, true, true, true, true] rfl rfl (by kernel_rfl) (fun _ _ _ h => h) (Or.inl ⟨by rfl, ?_⟩) ?_ ?_
                    rotate_left
                    · intro w'
                      go_simp
                      with_reducible rfl
                    rotate_left
                    · simp only [Act.put, List.setIfInBounds_toArray, List.set_cons_zero, List.set_cons_succ, i64_w, i32_w]
                      rfl
                    refine done_ (by kernel_rfl) ?_
                    clear u0 u1 r0 r1 r2 r3 f0 f1 f2 f3
                    have KZ := Aside0.mk (blk_drew (set4_blk (a := .int .i64 0) (b := .int .i64 0) (c := .int .i64 0) (d := .slice none 0 0) KL.out))
                    have FB := Aside0.mk (below_drew (set4_below (a := .int .i64 0) (b := .int .i64 0) (c := .int .i64 0) (d := .slice none 0 0) HB.out (Nat.le_refl _)))
                    generalize (set4 w3 w.heap.size (.int .i64 0) (.int .i64 0) (.int .i64 0) (.slice none 0 0)).drew = wz at KZ FB ⊢
                    have z0 : wz.cell? ⟨w.heap.size, 0, none⟩ = some (.int .i64 0) := blk_cell KZ.out 0
                    have z1 : wz.cell? ⟨w.heap.size, 1, none⟩ = some (.int .i64 0) := blk_cell KZ.out 1
                    have z2 : wz.cell? ⟨w.heap.size, 2, none⟩ = some (.int .i64 0) := blk_cell KZ.out 2
                    have z3 : wz.cell? ⟨w.heap.size, 3, none⟩ = some (.slice none 0 0) := blk_cell KZ.out 3
                    go_wp2
                    refine bodyPost_ret (v := .tuple #[.agg #[.int .i64 0, .int .i64 0, .int .i64 0, .slice none 0 0], .slice none 0 0, .int .i64 y, .int .i64 15]) ?_ rfl (ParseR.bad HN.out (by decide) FB.out)
                    simp [results, Tryz.f17, go_sem, z0, z1, z2, z3]
              · obtain rfl : k = S.rungs.length := by omega
                have hN : parseP s = (S, 0, 0) := by
                  rw [HPE.out, endS, if_neg (by rw [HSz.out]; simp), firstN_none (fun j hj => HJ.out j (by omega))]
                have HN := Aside0.mk hN
                obtain ⟨u0, u1, u2, u3, u4, -, -⟩ := HF.out.p.cells
                have hn0 : gp ≠ w.heap.size := fun e => by have h1 := HF.out.p.p; have h2 := HF.out.r; rw [e, h2] at h1; simp at h1
                have hn1 := hn0
                have hn2 := hn0
                have hn3 := hn0
                have hn4 := hn0
                have KL := Aside0.mk HF.out.r
                have HB := Aside0.mk HF.out.b
                have r0 := blk_cell KL.out 0
                have r1 := blk_cell KL.out 1
                have r2 := blk_cell KL.out 2
                have r3 := blk_cell KL.out 3
                have f0 := blk_frozen KL.out 0
                have f1 := blk_frozen KL.out 1
                have f2 := blk_frozen KL.out 2
                have f3 := blk_frozen KL.out 3
                have FS := Aside0.mk (Kd.S_drew (set4_S (a := .int .i64 S.i) (b := .int .i64 S.q) (c := .int .i64 S.m) (d := .slice Ar S.rungs.length cr) KL.out HF.out.p.r))
                have FL := Aside0.mk (Kd.R_drew (set4_R (a := .int .i64 S.i) (b := .int .i64 S.q) (c := .int .i64 S.m) (d := .slice Ar S.rungs.length cr) KL.out HF.out.p.l))
                have hnl := Aside0.mk HF.out.p.nl
                have hn64 := Aside0.mk HF.out.p.n64
                clear hN hCr HF
                go_wp2
                refine start_ (n := 12) (S := fun w' => w'.cell? ⟨gp, 0, none⟩ = some (.int .i64 S.i) ∧ w'.cell? ⟨gp, 1, none⟩ = some (.int .i64 S.q) ∧ w'.cell? ⟨gp, 2, none⟩ = some (.int .i64 S.m) ∧ w'.cell? ⟨gp, 3, none⟩ = some (.slice Ar S.rungs.length cr) ∧ w'.cell? ⟨gp, 4, none⟩ = some (.slice Al S.lines.length cl)) (ds := []) #[false, false, false, false, false, false, false, false, false, false, false, false] (by kernel_rfl) rfl rfl ⟨u0, u1, u2, u3, u4⟩ (fun hHeld => ?_)
                refine pure_ (i := 0) (N := some 92) (v := ?_) (a' := ?_) #[true, false, false, false, false, false, false, false, false, false, false, false] rfl rfl (by kernel_rfl) (fun _ _ _ h => h) (Or.inl ⟨by rfl, ?_⟩) ?_ ?_
                rotate_left
                · intro w'
                  go_simp
                  with_reducible rfl
                rotate_left
                · simp only [Act.put, List.setIfInBounds_toArray, List.set_cons_zero, List.set_cons_succ, i64_w, i32_w]
                  rfl
                refine pure_ (i := 1) (N := some 93) (v := ?_) (a' := ?_) #[true, true, false, false, false, false, false, false, false, false, false, false] rfl rfl (by kernel_rfl) (fun _ _ _ h => h) (Or.inl ⟨by rfl, ?_⟩) ?_ ?_
                rotate_left
                · intro w'
                  go_simp
                  with_reducible rfl
                rotate_left
                · simp only [Act.put, List.setIfInBounds_toArray, List.set_cons_zero, List.set_cons_succ, i64_w, i32_w]
                  rfl
                refine pure_ (i := 2) (N := some 94) (v := ?_) (a' := ?_) #[true, true, true, false, false, false, false, false, false, false, false, false] rfl rfl (by kernel_rfl) (fun _ _ _ h => h) (Or.inl ⟨by rfl, ?_⟩) ?_ ?_
                rotate_left
                · intro w'
                  go_simp
                  with_reducible rfl
                rotate_left
                · simp only [Act.put, List.setIfInBounds_toArray, List.set_cons_zero, List.set_cons_succ, i64_w, i32_w]
                  rfl
                refine pure_ (i := 4) (N := some 96) (v := ?_) (a' := ?_) #[true, true, true, false, true, false, false, false, false, false, false, false] rfl rfl (by kernel_rfl) (fun _ _ _ h => h) (Or.inl ⟨by rfl, ?_⟩) ?_ ?_
                rotate_left
                · intro w'
                  go_simp
                  with_reducible rfl
                rotate_left
                · simp only [Act.put, List.setIfInBounds_toArray, List.set_cons_zero, List.set_cons_succ, i64_w, i32_w]
                  rfl
                refine pure_ (i := 5) (N := some 97) (v := ?_) (a' := ?_) #[true, true, true, false, true, true, false, false, false, false, false, false] rfl rfl (by kernel_rfl) (fun _ _ _ h => h) (Or.inl ⟨by rfl, ?_⟩) ?_ ?_
                rotate_left
                · intro w'
                  go_simp
                  with_reducible rfl
                rotate_left
                · simp only [Act.put, List.setIfInBounds_toArray, List.set_cons_zero, List.set_cons_succ, i64_w, i32_w]
                  rfl
                refine pure_ (i := 6) (N := some 98) (v := ?_) (a' := ?_) #[true, true, true, false, true, true, true, false, false, false, false, false] rfl rfl (by kernel_rfl) (fun _ _ _ h => h) (Or.inl ⟨by rfl, ?_⟩) ?_ ?_
                rotate_left
                · intro w'
                  go_simp
                  with_reducible rfl
                rotate_left
                · simp only [Act.put, List.setIfInBounds_toArray, List.set_cons_zero, List.set_cons_succ, i64_w, i32_w]
                  rfl
                refine take_ (i := 3) (N := some 95) (v := ?_) (a' := ?_) #[true, true, true, true, true, true, true, false, false, false, false, false] rfl rfl (by kernel_rfl) (fun _ _ _ h => h) (Or.inl ⟨by rfl, ?_⟩) hHeld ?_ ?_
                rotate_left
                · rintro w' ⟨s0, s1, s2, s3, s4⟩
                  go_simp
                  with_reducible rfl
                rotate_left
                · simp only [Act.put, List.setIfInBounds_toArray, List.set_cons_zero, List.set_cons_succ, i64_w, i32_w]
                  rfl
                refine take_ (i := 7) (N := some 99) (v := ?_) (a' := ?_) #[true, true, true, true, true, true, true, true, false, false, false, false] rfl rfl (by kernel_rfl) (fun _ _ _ h => h) (Or.inl ⟨by rfl, ?_⟩) hHeld ?_ ?_
                rotate_left
                · rintro w' ⟨s0, s1, s2, s3, s4⟩
                  go_simp
                  with_reducible rfl
                rotate_left
                · simp only [Act.put, List.setIfInBounds_toArray, List.set_cons_zero, List.set_cons_succ, i64_w, i32_w]
                  rfl
                refine one_ (i := 8) (N := none) #[true, true, true, true, true, true, true, true, true, false, false, false] rfl rfl (by kernel_rfl) (by decide) (fun K hK => ?_)
                refine skip_ (w1 := ?_) (by rfl) rfl ?_ ?_
                rotate_left
                · go_simp
                  rfl
                refine hK.out _ _ ⟨(set4_far hn0 u0), (set4_far hn1 u1), (set4_far hn2 u2), (set4_far hn3 u3), (set4_far hn4 u4)⟩ (fun hHeld => ?_)
                clear hK K
                refine pure_ (i := 9) (N := some 3) (v := ?_) (a' := ?_) #[true, true, true, true, true, true, true, true, true, true, false, false] rfl rfl (by kernel_rfl) (fun _ _ _ h => h) (Or.inl ⟨by rfl, ?_⟩) ?_ ?_
                rotate_left
                · intro w'
                  go_simp
                  with_reducible rfl
                rotate_left
                · simp only [Act.put, List.setIfInBounds_toArray, List.set_cons_zero, List.set_cons_succ, i64_w, i32_w]
                  rfl
                refine pure_ (i := 10) (N := some 4) (v := ?_) (a' := ?_) #[true, true, true, true, true, true, true, true, true, true, true, false] rfl rfl (by kernel_rfl) (fun _ _ _ h => h) (Or.inl ⟨by rfl, ?_⟩) ?_ ?_
                rotate_left
                · intro w'
                  go_simp
                  with_reducible rfl
                rotate_left
                · simp only [Act.put, List.setIfInBounds_toArray, List.set_cons_zero, List.set_cons_succ, i64_w, i32_w]
                  rfl
                refine pure_ (i := 11) (N := some 5) (v := ?_) (a' := ?_) #[true, true, true, true, true, true, true, true, true, true, true, true] rfl rfl (by kernel_rfl) (fun _ _ _ h => h) (Or.inl ⟨by rfl, ?_⟩) ?_ ?_
                rotate_left
                · intro w'
                  go_simp
                  with_reducible rfl
                rotate_left
                · simp only [Act.put, List.setIfInBounds_toArray, List.set_cons_zero, List.set_cons_succ, i64_w, i32_w]
                  rfl
                refine done_ (by kernel_rfl) ?_
                clear u0 u1 u2 u3 u4 r0 r1 r2 r3 f0 f1 f2 f3
                have KZ := Aside0.mk (blk_drew (set4_blk (a := .int .i64 S.i) (b := .int .i64 S.q) (c := .int .i64 S.m) (d := .slice Ar S.rungs.length cr) KL.out))
                have FB := Aside0.mk (below_drew (set4_below (a := .int .i64 S.i) (b := .int .i64 S.q) (c := .int .i64 S.m) (d := .slice Ar S.rungs.length cr) HB.out (Nat.le_refl _)))
                generalize (set4 wx w.heap.size (.int .i64 S.i) (.int .i64 S.q) (.int .i64 S.m) (.slice Ar S.rungs.length cr)).drew = wz at KZ FB FS FL ⊢
                have z0 : wz.cell? ⟨w.heap.size, 0, none⟩ = some (.int .i64 S.i) := blk_cell KZ.out 0
                have z1 : wz.cell? ⟨w.heap.size, 1, none⟩ = some (.int .i64 S.q) := blk_cell KZ.out 1
                have z2 : wz.cell? ⟨w.heap.size, 2, none⟩ = some (.int .i64 S.m) := blk_cell KZ.out 2
                have z3 : wz.cell? ⟨w.heap.size, 3, none⟩ = some (.slice Ar S.rungs.length cr) := blk_cell KZ.out 3
                go_wp2
                refine bodyPost_ret (v := .tuple #[.agg #[.int .i64 S.i, .int .i64 S.q, .int .i64 S.m, .slice Ar S.rungs.length cr], .slice Al S.lines.length cl, .int .i64 0, .int .i64 0]) ?_ rfl ⟨FB.out, .inr ⟨by rw [HN.out], _, _, by rw [HN.out], by rw [HN.out]; exact FS.out, by rw [HN.out]; exact FL.out, by rw [HN.out]; exact hnl.out, by rw [HN.out]; exact hn64.out, by rw [HN.out]; exact HC.out⟩⟩
                simp [results, Tryz.f17, go_sem, z0, z1, z2, z3]
    · have hp : parseP s = (S0, k, 6) := by rw [HPP.out, hbl]
      have HP := Aside0.mk hp
      have k2 := K2.out
      have r0 := blk_cell k2 0
      have r1 := blk_cell k2 1
      have r2 := blk_cell k2 2
      have r3 := blk_cell k2 3
      have f0 := blk_frozen k2 0
      have f1 := blk_frozen k2 1
      have f2 := blk_frozen k2 2
      have f3 := blk_frozen k2 3
      clear hp k2
      go_wp2
      have KZ : Aside0 (((((w2.setCell ⟨w.heap.size, 0, none⟩ (.int .i64 0)).setCell ⟨w.heap.size, 1, none⟩ (.int .i64 0)).setCell ⟨w.heap.size, 2, none⟩ (.int .i64 0)).setCell ⟨w.heap.size, 3, none⟩ (.slice none 0 0)).heap[w.heap.size]? = some (.cells #[.int .i64 0, .int .i64 0, .int .i64 0, .slice none 0 0] 24 (0, 0))) := ⟨set4_blk (K2.out)⟩
      have FB : Aside0 (Below w.heap.size w (((((w2.setCell ⟨w.heap.size, 0, none⟩ (.int .i64 0)).setCell ⟨w.heap.size, 1, none⟩ (.int .i64 0)).setCell ⟨w.heap.size, 2, none⟩ (.int .i64 0)).setCell ⟨w.heap.size, 3, none⟩ (.slice none 0 0)))) := ⟨set4_below (HB.out) (Nat.le_refl _)⟩
      generalize ((((w2.setCell ⟨w.heap.size, 0, none⟩ (.int .i64 0)).setCell ⟨w.heap.size, 1, none⟩ (.int .i64 0)).setCell ⟨w.heap.size, 2, none⟩ (.int .i64 0)).setCell ⟨w.heap.size, 3, none⟩ (.slice none 0 0)) = wz at KZ FB ⊢
      have z0 : wz.cell? ⟨w.heap.size, 0, none⟩ = some (.int .i64 0) := blk_cell KZ.out 0
      have z1 : wz.cell? ⟨w.heap.size, 1, none⟩ = some (.int .i64 0) := blk_cell KZ.out 1
      have z2 : wz.cell? ⟨w.heap.size, 2, none⟩ = some (.int .i64 0) := blk_cell KZ.out 2
      have z3 : wz.cell? ⟨w.heap.size, 3, none⟩ = some (.slice none 0 0) := blk_cell KZ.out 3
      refine bodyPost_ret (v := .tuple #[.agg #[.int .i64 0, .int .i64 0, .int .i64 0, .slice none 0 0], .slice none 0 0, .int .i64 k, .int .i64 6]) ?_ rfl (ParseR.bad HP.out (by decide) FB.out)
      simp [results, Tryz.f17, go_sem, z0, z1, z2, z3]
end Go.Proofs.YtolmkdhgnganaaaGreatDoor.H
