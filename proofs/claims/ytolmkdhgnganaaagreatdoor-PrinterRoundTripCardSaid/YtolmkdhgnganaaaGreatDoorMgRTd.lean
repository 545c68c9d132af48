/-
  What the claim's row leans on, part 4: The parser's line: the keyword is looked up, the line is checked, its method is called. lex.Lines: the walk. Parse, in plain words. Texts, line by line: the lines of a text as lists of bytes, what of them lies ahead of a comment, and what Parse answers told over them. Parse's lines one by one, over the pieces of a text. Words joined to a line and read back; the lines of a ladder, told for any words. A printed ladder is read back as it was. A ladder that Parse lets in passes Check, and its printed text is hardly longer than the text that was parsed. parse.Parse. PrinterAppendRung in plain words: what Check, Print and EdgeCount answer where a rung is put behind a ladder that Print lets in. 'busbarlaw11.PrinterRoundTrip' answers true. From a row's listed variables to what the contracts ask of the world; and arguments laid open. No law in sight.
-/
import Derived.Test.YtolmkdhgnganaaaGreatDoorMgRTc
set_option linter.unusedVariables false
set_option linter.unusedSimpArgs false
namespace Go.Proofs.YtolmkdhgnganaaaGreatDoor.H
open Go Go.RowKit Go.Proofs Go.Proofs.YtolmkdhgnganaaaGreatDoorW.PrintWords Go.Proofs.YtolmkdhgnganaaaGreatDoor.Sp
/-- Which method a keyword has: 0 size, 1 rung, 2 jump, 3 a contact, 4 a coil. -/
def kindOf (x : ByteArray) : Option Nat :=
  if (x == ⟨#[115, 105, 122, 101]⟩) = true then some 0 else
  if (x == ⟨#[114, 117, 110, 103]⟩) = true then some 1 else
  if (x == ⟨#[106, 117, 109, 112]⟩) = true then some 2 else
  if (x == ⟨#[110, 111]⟩) = true then some 3 else
  if (x == ⟨#[110, 99]⟩) = true then some 3 else
  if (x == ⟨#[117, 112]⟩) = true then some 3 else
  if (x == ⟨#[100, 111, 119, 110]⟩) = true then some 3 else
  if (x == ⟨#[111, 117, 116]⟩) = true then some 4 else
  if (x == ⟨#[110, 111, 116]⟩) = true then some 4 else
  if (x == ⟨#[115, 101, 116]⟩) = true then some 4 else
  if (x == ⟨#[114, 101, 115, 101, 116]⟩) = true then some 4 else none
def wordK (gp : Nat) : Nat → Value
  | 0 => wordV gp 4 4 false false 63
  | 1 => wordV gp 1 2 true false 64
  | 2 => wordV gp 2 2 true true 65
  | 3 => wordV gp 4 4 true true 66
  | _ => wordV gp 2 2 true true 67
theorem tab_find (gp : Nat) (x : ByteArray) : ((tabW gp).find? (fun p => x == p.1)).map (·.2) = (kindOf x).map (wordK gp) := by
  unfold kindOf tabW
  simp only [List.find?_cons]
  repeat (split; · rename_i hq; simp only [hq, if_true]; rfl
          rename_i hq; simp only [hq, Bool.false_eq_true, if_false])
  rfl
theorem tab_look (gp : Nat) (x : ByteArray) (z : Value) : (match (tabW gp).find? (fun p => x == p.1) with | some p => Value.tuple #[p.2, .bool true] | none => Value.tuple #[z, .bool false]) =
    match kindOf x with | some k => Value.tuple #[wordK gp k, .bool true] | none => Value.tuple #[z, .bool false] := by
  have h := tab_find gp x
  cases hf : (tabW gp).find? (fun p => x == p.1) with
  | none => rw [hf] at h; cases hk : kindOf x with
    | none => rfl
    | some k => rw [hk] at h; cases h
  | some p => rw [hf] at h; cases hk : kindOf x with
    | none => rw [hk] at h; cases h
    | some k => rw [hk] at h; simp only [Option.map_some, Option.some.injEq] at h; simp only [h]
theorem kind_cases {x : ByteArray} {k : Nat} (h : kindOf x = some k) : k = 0 ∨ k = 1 ∨ k = 2 ∨ k = 3 ∨ k = 4 := by
  unfold kindOf at h
  repeat' split at h
  all_goals cases h
  all_goals simp
/-- What a line does. -/
def lineS (S : PSt) (n : Int) (ws : List ByteArray) : PSt × Int :=
  match kindOf (ws.getD 0 ⟨#[]⟩) with
  | none => (S, 8)
  | some 0 => if ws.length ≠ 4 then (S, 6) else sizeS S ws
  | some 1 => if 2 < ws.length then (S, 6) else if S.sized = false then (S, 11) else beginS S n ws
  | some 2 => if ws.length ≠ 2 then (S, 6) else if S.sized = false ∨ S.rungs.length = 0 then (S, 11) else jumpS S n ws
  | some 3 => if ws.length ≠ 4 then (S, 6) else if S.sized = false ∨ S.rungs.length = 0 then (S, 11) else conS S ws
  | some _ => if ws.length ≠ 2 then (S, 6) else if S.sized = false ∨ S.rungs.length = 0 then (S, 11) else coilS S ws
/-- No rung has too much. -/
def Caps (S : PSt) : Prop := ∀ r ∈ S.rungs, r.f1.length ≤ 256 ∧ r.f2.length ≤ 16
set_option maxHeartbeats 4000000 in
set_option maxRecDepth 100000 in
theorem line_p {B gp gm : Nat} {S : PSt} {vr vl vj : Value} {w : World} (h : PF B gp S vr vl vj w) (hm : MapIs w gm (tabW gp)) (n : Int) (b nw wc : Nat) (ws : List ByteArray) (hw : Kd.string.R 9 w B (fun _ => True) (.slice (some ⟨b, 0, none⟩) nw wc) ws)
    (hsz : ∀ j, (ws.getD j ⟨#[]⟩).size ≤ 65536) (hnw : 0 < nw) (hc : Caps S) (hE : Env B w) :
    Calls Tryz.prog 33 #[.pointer (some ⟨gp, 0, none⟩), .map (some gm), .agg #[.int .i64 n, .slice (some ⟨b, 0, none⟩) nw wc]] w (ParR B gp w (lineS S n ws)) := by
  have hlen : nw = ws.length := (Kd.R_reads' hw).1
  have HLen := Aside0.mk hlen
  generalize hr : lineS S n ws = r
  have HR := Aside0.mk hr
  have H := Aside0.mk h
  have HW := Aside0.mk hw
  have HEn := Aside0.mk hE
  have hb0 := below_alloc (Below.refl w.heap.size w) (.cells #[.int .i64 n, .slice (some ⟨b, 0, none⟩) nw wc] 81)
  have HB0 := Aside0.mk hb0
  have hlk := (hm.below hb0).look (s := ws.getD 0 ⟨#[]⟩) Tryz.underlying9 Tryz.underlying78 (z := .agg #[.int .i64 0, .int .i64 0, .bool false, .bool false, .nilFunc]) (by rfl)
  replace hlk := hlk.trans (congrArg (fun v => Result.ok v _) (tab_look gp (ws.getD 0 ⟨#[]⟩) _))
  have hz0 : (w.alloc (.cells #[.int .i64 n, .slice (some ⟨b, 0, none⟩) nw wc] 81)).cell? ⟨b, 0, none⟩ = some (.string (ws.getD 0 ⟨#[]⟩)) := words_cell (Kd.R_below hw hb0) 0 (by omega)
  have hnw' : (0 : Int) < nw := by omega
  cases hk : kindOf (ws.getD 0 ⟨#[]⟩) with
  | none =>
    rw [hk] at hlk
    obtain rfl : r = (S, 8) := by rw [← HR.out, lineS, hk]
    have HK := Aside0.mk hk
    generalize ws.getD 0 ⟨#[]⟩ = x0 at hz0 hlk
    clear h hw hE hlen hsz hc hk hr hm hb0
    go_enter Tryz.func33, Tryz.ntmps33
    go_wp2
    go_ret
    exact ⟨rfl, KP.of_below H.out.sz (below_alloc HB0.out _), fun e => by cases e⟩
  | some k =>
    rw [hk] at hlk
    have HK := Aside0.mk hk
    have hcs := kind_cases hk
    generalize ws.getD 0 ⟨#[]⟩ = x0 at hz0 hlk
    clear h hw hE hlen hk hr hm hb0
    have HSz := Aside0.mk hsz
    have HC := Aside0.mk hc
    clear hsz hc
    rcases hcs with rfl | rfl | rfl | rfl | rfl
    · simp only [wordK, wordV] at hlk
      have hb1 := below_alloc HB0.out (.cells #[.int .i64 4, .int .i64 4, .bool false, .bool false, .func (.func 63) #[.pointer (some ⟨gp, 0, none⟩)] #[]] 126)
      have HB1 := Aside0.mk hb1
      have KL := Aside0.mk (blk_alloc (blk_new w (.cells #[.int .i64 n, .slice (some ⟨b, 0, none⟩) nw wc] 81)) (.cells #[.int .i64 4, .int .i64 4, .bool false, .bool false, .func (.func 63) #[.pointer (some ⟨gp, 0, none⟩)] #[]] 126))
      have KW := Aside0.mk (blk_new (w.alloc (.cells #[.int .i64 n, .slice (some ⟨b, 0, none⟩) nw wc] 81)) (.cells #[.int .i64 4, .int .i64 4, .bool false, .bool false, .func (.func 63) #[.pointer (some ⟨gp, 0, none⟩)] #[]] 126))
      have H1 := Aside0.mk (H.out.below hb1)
      have HW1 := Aside0.mk (Kd.R_below HW.out hb1)
      have HE1 := Aside0.mk (HEn.out.step (hb1.mono H.out.sz))
      clear hb1
      go_enter Tryz.func33, Tryz.ntmps33
      go_upto_block 0 with fail
      generalize hw1 : ((w.alloc (.cells #[.int .i64 n, .slice (some ⟨b, 0, none⟩) nw wc] 81)).alloc (.cells #[.int .i64 4, .int .i64 4, .bool false, .bool false, .func (.func 63) #[.pointer (some ⟨gp, 0, none⟩)] #[]] 126)) = w1 at HB1 KL KW H1 HW1 HE1 ⊢
      have hgx : (w.alloc (.cells #[.int .i64 n, .slice (some ⟨b, 0, none⟩) nw wc] 81)).heap.size = w.heap.size + 1 := by simp
      rw [hgx] at KW
      generalize w.heap.size + 1 = gx at KW ⊢
      generalize hgl : w.heap.size = gl at KL ⊢
      clear hw1 hgx hlk hz0 HB0
      have a1 : w1.cell? ⟨gl, 1, none⟩ = some (.slice (some ⟨b, 0, none⟩) nw wc) := blk_cell KL.out 1
      have a0 : w1.cell? ⟨gl, 0, none⟩ = some (.int .i64 n) := blk_cell KL.out 0
      have b0 : w1.cell? ⟨gx, 0, none⟩ = some (.int .i64 4) := blk_cell KW.out 0
      have b1 : w1.cell? ⟨gx, 1, none⟩ = some (.int .i64 4) := blk_cell KW.out 1
      have b2 : w1.cell? ⟨gx, 2, none⟩ = some (.bool false) := blk_cell KW.out 2
      have b3 : w1.cell? ⟨gx, 3, none⟩ = some (.bool false) := blk_cell KW.out 3
      have b4 : w1.cell? ⟨gx, 4, none⟩ = some (.func (.func 63) #[.pointer (some ⟨gp, 0, none⟩)] #[]) := blk_cell KW.out 4
      have p3 := H1.out.cells.2.2.2.1
      have p4 := H1.out.cells.2.2.2.2.1
      clear hgl
      by_cases h4 : nw = 4
      · subst h4
        have HCall := Aside0.mk (size_p H1.out n b wc ws HW1.out HSz.out HE1.out)
        rw [show sizeS S ws = r by rw [← HR.out, lineS, HK.out]; simp only []; rw [if_neg (by rw [← HLen.out]; simp)]] at HCall
        go_wp2_with fail
        refine HCall.out.mono ?_
        rintro e w2 ⟨rfl, hk, hp⟩
        go_wp2
        go_ret
        exact ⟨rfl, (KP.of_below H.out.sz HB1.out).trans hk, hp⟩
      · by_cases hlt : (nw : Int) < 4
        · have hltb : decide ((nw : Int) < 4) = true := by simpa using hlt
          obtain rfl : r = (S, 6) := by rw [← HR.out, lineS, HK.out]; simp only []; rw [if_pos (by rw [← HLen.out]; omega)]
          go_wp2
          go_ret
          exact ⟨rfl, KP.of_below H.out.sz HB1.out, fun e => by cases e⟩
        · have hltb : decide ((nw : Int) < 4) = false := by simpa using hlt
          have hgtb : decide ((4 : Int) < nw) = true := by simp; omega
          obtain rfl : r = (S, 6) := by rw [← HR.out, lineS, HK.out]; simp only []; rw [if_pos (by rw [← HLen.out]; omega)]
          go_wp2
          go_ret
          exact ⟨rfl, KP.of_below H.out.sz HB1.out, fun e => by cases e⟩
    · simp only [wordK, wordV] at hlk
      have hb1 := below_alloc HB0.out (.cells #[.int .i64 1, .int .i64 2, .bool true, .bool false, .func (.func 64) #[.pointer (some ⟨gp, 0, none⟩)] #[]] 126)
      have HB1 := Aside0.mk hb1
      have KL := Aside0.mk (blk_alloc (blk_new w (.cells #[.int .i64 n, .slice (some ⟨b, 0, none⟩) nw wc] 81)) (.cells #[.int .i64 1, .int .i64 2, .bool true, .bool false, .func (.func 64) #[.pointer (some ⟨gp, 0, none⟩)] #[]] 126))
      have KW := Aside0.mk (blk_new (w.alloc (.cells #[.int .i64 n, .slice (some ⟨b, 0, none⟩) nw wc] 81)) (.cells #[.int .i64 1, .int .i64 2, .bool true, .bool false, .func (.func 64) #[.pointer (some ⟨gp, 0, none⟩)] #[]] 126))
      have H1 := Aside0.mk (H.out.below hb1)
      have HW1 := Aside0.mk (Kd.R_below HW.out hb1)
      have HE1 := Aside0.mk (HEn.out.step (hb1.mono H.out.sz))
      clear hb1
      go_enter Tryz.func33, Tryz.ntmps33
      go_upto_block 0 with fail
      generalize hw1 : ((w.alloc (.cells #[.int .i64 n, .slice (some ⟨b, 0, none⟩) nw wc] 81)).alloc (.cells #[.int .i64 1, .int .i64 2, .bool true, .bool false, .func (.func 64) #[.pointer (some ⟨gp, 0, none⟩)] #[]] 126)) = w1 at HB1 KL KW H1 HW1 HE1 ⊢
      have hgx : (w.alloc (.cells #[.int .i64 n, .slice (some ⟨b, 0, none⟩) nw wc] 81)).heap.size = w.heap.size + 1 := by simp
      rw [hgx] at KW
      generalize w.heap.size + 1 = gx at KW ⊢
      generalize hgl : w.heap.size = gl at KL ⊢
      clear hw1 hgx hlk hz0 HB0
      have a1 : w1.cell? ⟨gl, 1, none⟩ = some (.slice (some ⟨b, 0, none⟩) nw wc) := blk_cell KL.out 1
      have a0 : w1.cell? ⟨gl, 0, none⟩ = some (.int .i64 n) := blk_cell KL.out 0
      have b0 : w1.cell? ⟨gx, 0, none⟩ = some (.int .i64 1) := blk_cell KW.out 0
      have b1 : w1.cell? ⟨gx, 1, none⟩ = some (.int .i64 2) := blk_cell KW.out 1
      have b2 : w1.cell? ⟨gx, 2, none⟩ = some (.bool true) := blk_cell KW.out 2
      have b3 : w1.cell? ⟨gx, 3, none⟩ = some (.bool false) := blk_cell KW.out 3
      have b4 : w1.cell? ⟨gx, 4, none⟩ = some (.func (.func 64) #[.pointer (some ⟨gp, 0, none⟩)] #[]) := blk_cell KW.out 4
      have p3 := H1.out.cells.2.2.2.1
      have p4 := H1.out.cells.2.2.2.2.1
      clear hgl
      have hltb : decide ((nw : Int) < 1) = false := by simp; omega
      by_cases h4 : (2 : Int) < nw
      · have hgtb : decide ((2 : Int) < nw) = true := by simpa using h4
        obtain rfl : r = (S, 6) := by rw [← HR.out, lineS, HK.out]; simp only []; rw [if_pos (by rw [← HLen.out]; omega)]
        go_wp2
        go_ret
        exact ⟨rfl, KP.of_below H.out.sz HB1.out, fun e => by cases e⟩
      · have hgtb : decide ((2 : Int) < nw) = false := by simpa using h4
        have H4 := Aside0.mk h4
        clear h4
        cases hs : S.sized with
        | false =>
          rw [hs] at p4
          obtain rfl : r = (S, 11) := by rw [← HR.out, lineS, HK.out]; simp only []; rw [if_neg (by rw [← HLen.out]; have := H4.out; omega), if_pos hs]
          go_wp2
          go_ret
          exact ⟨rfl, KP.of_below H.out.sz HB1.out, fun e => by cases e⟩
        | true =>
          rw [hs] at p4
          have HS := Aside0.mk hs
          clear hs
          have HCall := Aside0.mk (begin_p H1.out n b nw wc ws HW1.out HSz.out HE1.out)
          rw [show beginS S n ws = r by rw [← HR.out, lineS, HK.out]; simp only []; rw [if_neg (by rw [← HLen.out]; have := H4.out; omega), if_neg (by rw [HS.out]; simp)]] at HCall
          go_wp2_with fail
          refine HCall.out.mono ?_
          rintro e w2 ⟨rfl, hk, hp⟩
          go_wp2
          go_ret
          exact ⟨rfl, (KP.of_below H.out.sz HB1.out).trans hk, hp⟩
    · simp only [wordK, wordV] at hlk
      have hb1 := below_alloc HB0.out (.cells #[.int .i64 2, .int .i64 2, .bool true, .bool true, .func (.func 65) #[.pointer (some ⟨gp, 0, none⟩)] #[]] 126)
      have HB1 := Aside0.mk hb1
      have KL := Aside0.mk (blk_alloc (blk_new w (.cells #[.int .i64 n, .slice (some ⟨b, 0, none⟩) nw wc] 81)) (.cells #[.int .i64 2, .int .i64 2, .bool true, .bool true, .func (.func 65) #[.pointer (some ⟨gp, 0, none⟩)] #[]] 126))
      have KW := Aside0.mk (blk_new (w.alloc (.cells #[.int .i64 n, .slice (some ⟨b, 0, none⟩) nw wc] 81)) (.cells #[.int .i64 2, .int .i64 2, .bool true, .bool true, .func (.func 65) #[.pointer (some ⟨gp, 0, none⟩)] #[]] 126))
      have H1 := Aside0.mk (H.out.below hb1)
      have HW1 := Aside0.mk (Kd.R_below HW.out hb1)
      have HE1 := Aside0.mk (HEn.out.step (hb1.mono H.out.sz))
      clear hb1
      go_enter Tryz.func33, Tryz.ntmps33
      go_upto_block 0 with fail
      generalize hw1 : ((w.alloc (.cells #[.int .i64 n, .slice (some ⟨b, 0, none⟩) nw wc] 81)).alloc (.cells #[.int .i64 2, .int .i64 2, .bool true, .bool true, .func (.func 65) #[.pointer (some ⟨gp, 0, none⟩)] #[]] 126)) = w1 at HB1 KL KW H1 HW1 HE1 ⊢
      have hgx : (w.alloc (.cells #[.int .i64 n, .slice (some ⟨b, 0, none⟩) nw wc] 81)).heap.size = w.heap.size + 1 := by simp
      rw [hgx] at KW
      generalize w.heap.size + 1 = gx at KW ⊢
      generalize hgl : w.heap.size = gl at KL ⊢
      clear hw1 hgx hlk hz0 HB0
      have a1 : w1.cell? ⟨gl, 1, none⟩ = some (.slice (some ⟨b, 0, none⟩) nw wc) := blk_cell KL.out 1
      have a0 : w1.cell? ⟨gl, 0, none⟩ = some (.int .i64 n) := blk_cell KL.out 0
      have b0 : w1.cell? ⟨gx, 0, none⟩ = some (.int .i64 2) := blk_cell KW.out 0
      have b1 : w1.cell? ⟨gx, 1, none⟩ = some (.int .i64 2) := blk_cell KW.out 1
      have b2 : w1.cell? ⟨gx, 2, none⟩ = some (.bool true) := blk_cell KW.out 2
      have b3 : w1.cell? ⟨gx, 3, none⟩ = some (.bool true) := blk_cell KW.out 3
      have b4 : w1.cell? ⟨gx, 4, none⟩ = some (.func (.func 65) #[.pointer (some ⟨gp, 0, none⟩)] #[]) := blk_cell KW.out 4
      have p3 := H1.out.cells.2.2.2.1
      have p4 := H1.out.cells.2.2.2.2.1
      clear hgl
      by_cases h4 : nw = 2
      · subst h4
        cases hs : S.sized with
        | false =>
          rw [hs] at p4
          obtain rfl : r = (S, 11) := by rw [← HR.out, lineS, HK.out]; simp only []; rw [if_neg (by rw [← HLen.out]; simp), if_pos (.inl hs)]
          go_wp2
          go_ret
          exact ⟨rfl, KP.of_below H.out.sz HB1.out, fun e => by cases e⟩
        | true =>
          rw [hs] at p4
          have HS := Aside0.mk hs
          clear hs
          obtain ⟨A, c, e, -, -⟩ := Kd.S_reads H1.out.r
          subst e
          by_cases h0 : (S.rungs.length : Int) = 0
          · have h0b : ((S.rungs.length : Int) == 0) = true := by simpa using h0
            have H0 := Aside0.mk h0
            clear h0
            obtain rfl : r = (S, 11) := by rw [← HR.out, lineS, HK.out]; simp only []; rw [if_neg (by rw [← HLen.out]; simp), if_pos (.inr (by have := H0.out; omega))]
            go_wp2
            go_ret
            exact ⟨rfl, KP.of_below H.out.sz HB1.out, fun e => by cases e⟩
          · have h0b : ((S.rungs.length : Int) == 0) = false := by simpa using h0
            have hin : Aside0 (0 < S.rungs.length) := ⟨by omega⟩
            clear h0
            have HCall := Aside0.mk (jump_p H1.out n b wc ws HW1.out hin.out)
            rw [show jumpS S n ws = r by rw [← HR.out, lineS, HK.out]; simp only []; rw [if_neg (by rw [← HLen.out]; simp), if_neg (by rw [HS.out]; simp; have := hin.out; intro h; rw [h] at this; simp at this)]] at HCall
            go_wp2_with fail
            refine HCall.out.mono ?_
            rintro e w2 ⟨rfl, hk, hp⟩
            go_wp2
            go_ret
            exact ⟨rfl, (KP.of_below H.out.sz HB1.out).trans hk, hp⟩
      · by_cases hlt : (nw : Int) < 2
        · have hltb : decide ((nw : Int) < 2) = true := by simpa using hlt
          obtain rfl : r = (S, 6) := by rw [← HR.out, lineS, HK.out]; simp only []; rw [if_pos (by rw [← HLen.out]; omega)]
          go_wp2
          go_ret
          exact ⟨rfl, KP.of_below H.out.sz HB1.out, fun e => by cases e⟩
        · have hltb : decide ((nw : Int) < 2) = false := by simpa using hlt
          have hgtb : decide ((2 : Int) < nw) = true := by simp; omega
          obtain rfl : r = (S, 6) := by rw [← HR.out, lineS, HK.out]; simp only []; rw [if_pos (by rw [← HLen.out]; omega)]
          go_wp2
          go_ret
          exact ⟨rfl, KP.of_below H.out.sz HB1.out, fun e => by cases e⟩
    · simp only [wordK, wordV] at hlk
      have hb1 := below_alloc HB0.out (.cells #[.int .i64 4, .int .i64 4, .bool true, .bool true, .func (.func 66) #[.pointer (some ⟨gp, 0, none⟩)] #[]] 126)
      have HB1 := Aside0.mk hb1
      have KL := Aside0.mk (blk_alloc (blk_new w (.cells #[.int .i64 n, .slice (some ⟨b, 0, none⟩) nw wc] 81)) (.cells #[.int .i64 4, .int .i64 4, .bool true, .bool true, .func (.func 66) #[.pointer (some ⟨gp, 0, none⟩)] #[]] 126))
      have KW := Aside0.mk (blk_new (w.alloc (.cells #[.int .i64 n, .slice (some ⟨b, 0, none⟩) nw wc] 81)) (.cells #[.int .i64 4, .int .i64 4, .bool true, .bool true, .func (.func 66) #[.pointer (some ⟨gp, 0, none⟩)] #[]] 126))
      have H1 := Aside0.mk (H.out.below hb1)
      have HW1 := Aside0.mk (Kd.R_below HW.out hb1)
      have HE1 := Aside0.mk (HEn.out.step (hb1.mono H.out.sz))
      clear hb1
      go_enter Tryz.func33, Tryz.ntmps33
      go_upto_block 0 with fail
      generalize hw1 : ((w.alloc (.cells #[.int .i64 n, .slice (some ⟨b, 0, none⟩) nw wc] 81)).alloc (.cells #[.int .i64 4, .int .i64 4, .bool true, .bool true, .func (.func 66) #[.pointer (some ⟨gp, 0, none⟩)] #[]] 126)) = w1 at HB1 KL KW H1 HW1 HE1 ⊢
      have hgx : (w.alloc (.cells #[.int .i64 n, .slice (some ⟨b, 0, none⟩) nw wc] 81)).heap.size = w.heap.size + 1 := by simp
      rw [hgx] at KW
      generalize w.heap.size + 1 = gx at KW ⊢
      generalize hgl : w.heap.size = gl at KL ⊢
      clear hw1 hgx hlk hz0 HB0
      have a1 : w1.cell? ⟨gl, 1, none⟩ = some (.slice (some ⟨b, 0, none⟩) nw wc) := blk_cell KL.out 1
      have a0 : w1.cell? ⟨gl, 0, none⟩ = some (.int .i64 n) := blk_cell KL.out 0
      have b0 : w1.cell? ⟨gx, 0, none⟩ = some (.int .i64 4) := blk_cell KW.out 0
      have b1 : w1.cell? ⟨gx, 1, none⟩ = some (.int .i64 4) := blk_cell KW.out 1
      have b2 : w1.cell? ⟨gx, 2, none⟩ = some (.bool true) := blk_cell KW.out 2
      have b3 : w1.cell? ⟨gx, 3, none⟩ = some (.bool true) := blk_cell KW.out 3
      have b4 : w1.cell? ⟨gx, 4, none⟩ = some (.func (.func 66) #[.pointer (some ⟨gp, 0, none⟩)] #[]) := blk_cell KW.out 4
      have p3 := H1.out.cells.2.2.2.1
      have p4 := H1.out.cells.2.2.2.2.1
      clear hgl
      by_cases h4 : nw = 4
      · subst h4
        cases hs : S.sized with
        | false =>
          rw [hs] at p4
          obtain rfl : r = (S, 11) := by rw [← HR.out, lineS, HK.out]; simp only []; rw [if_neg (by rw [← HLen.out]; simp), if_pos (.inl hs)]
          go_wp2
          go_ret
          exact ⟨rfl, KP.of_below H.out.sz HB1.out, fun e => by cases e⟩
        | true =>
          rw [hs] at p4
          have HS := Aside0.mk hs
          clear hs
          obtain ⟨A, c, e, -, -⟩ := Kd.S_reads H1.out.r
          subst e
          by_cases h0 : (S.rungs.length : Int) = 0
          · have h0b : ((S.rungs.length : Int) == 0) = true := by simpa using h0
            have H0 := Aside0.mk h0
            clear h0
            obtain rfl : r = (S, 11) := by rw [← HR.out, lineS, HK.out]; simp only []; rw [if_neg (by rw [← HLen.out]; simp), if_pos (.inr (by have := H0.out; omega))]
            go_wp2
            go_ret
            exact ⟨rfl, KP.of_below H.out.sz HB1.out, fun e => by cases e⟩
          · have h0b : ((S.rungs.length : Int) == 0) = false := by simpa using h0
            have hin : Aside0 (0 < S.rungs.length) := ⟨by omega⟩
            clear h0
            have HCall := Aside0.mk (con_p H1.out n b wc ws HW1.out HSz.out hin.out (fun r hr => (HC.out r hr).1) HE1.out)
            rw [show conS S ws = r by rw [← HR.out, lineS, HK.out]; simp only []; rw [if_neg (by rw [← HLen.out]; simp), if_neg (by rw [HS.out]; simp; have := hin.out; intro h; rw [h] at this; simp at this)]] at HCall
            go_wp2_with fail
            refine HCall.out.mono ?_
            rintro e w2 ⟨rfl, hk, hp⟩
            go_wp2
            go_ret
            exact ⟨rfl, (KP.of_below H.out.sz HB1.out).trans hk, hp⟩
      · by_cases hlt : (nw : Int) < 4
        · have hltb : decide ((nw : Int) < 4) = true := by simpa using hlt
          obtain rfl : r = (S, 6) := by rw [← HR.out, lineS, HK.out]; simp only []; rw [if_pos (by rw [← HLen.out]; omega)]
          go_wp2
          go_ret
          exact ⟨rfl, KP.of_below H.out.sz HB1.out, fun e => by cases e⟩
        · have hltb : decide ((nw : Int) < 4) = false := by simpa using hlt
          have hgtb : decide ((4 : Int) < nw) = true := by simp; omega
          obtain rfl : r = (S, 6) := by rw [← HR.out, lineS, HK.out]; simp only []; rw [if_pos (by rw [← HLen.out]; omega)]
          go_wp2
          go_ret
          exact ⟨rfl, KP.of_below H.out.sz HB1.out, fun e => by cases e⟩
    · simp only [wordK, wordV] at hlk
      have hb1 := below_alloc HB0.out (.cells #[.int .i64 2, .int .i64 2, .bool true, .bool true, .func (.func 67) #[.pointer (some ⟨gp, 0, none⟩)] #[]] 126)
      have HB1 := Aside0.mk hb1
      have KL := Aside0.mk (blk_alloc (blk_new w (.cells #[.int .i64 n, .slice (some ⟨b, 0, none⟩) nw wc] 81)) (.cells #[.int .i64 2, .int .i64 2, .bool true, .bool true, .func (.func 67) #[.pointer (some ⟨gp, 0, none⟩)] #[]] 126))
      have KW := Aside0.mk (blk_new (w.alloc (.cells #[.int .i64 n, .slice (some ⟨b, 0, none⟩) nw wc] 81)) (.cells #[.int .i64 2, .int .i64 2, .bool true, .bool true, .func (.func 67) #[.pointer (some ⟨gp, 0, none⟩)] #[]] 126))
      have H1 := Aside0.mk (H.out.below hb1)
      have HW1 := Aside0.mk (Kd.R_below HW.out hb1)
      have HE1 := Aside0.mk (HEn.out.step (hb1.mono H.out.sz))
      clear hb1
      go_enter Tryz.func33, Tryz.ntmps33
      go_upto_block 0 with fail
      generalize hw1 : ((w.alloc (.cells #[.int .i64 n, .slice (some ⟨b, 0, none⟩) nw wc] 81)).alloc (.cells #[.int .i64 2, .int .i64 2, .bool true, .bool true, .func (.func 67) #[.pointer (some ⟨gp, 0, none⟩)] #[]] 126)) = w1 at HB1 KL KW H1 HW1 HE1 ⊢
      have hgx : (w.alloc (.cells #[.int .i64 n, .slice (some ⟨b, 0, none⟩) nw wc] 81)).heap.size = w.heap.size + 1 := by simp
      rw [hgx] at KW
      generalize w.heap.size + 1 = gx at KW ⊢
      generalize hgl : w.heap.size = gl at KL ⊢
      clear hw1 hgx hlk hz0 HB0
      have a1 : w1.cell? ⟨gl, 1, none⟩ = some (.slice (some ⟨b, 0, none⟩) nw wc) := blk_cell KL.out 1
      have a0 : w1.cell? ⟨gl, 0, none⟩ = some (.int .i64 n) := blk_cell KL.out 0
      have b0 : w1.cell? ⟨gx, 0, none⟩ = some (.int .i64 2) := blk_cell KW.out 0
      have b1 : w1.cell? ⟨gx, 1, none⟩ = some (.int .i64 2) := blk_cell KW.out 1
      have b2 : w1.cell? ⟨gx, 2, none⟩ = some (.bool true) := blk_cell KW.out 2
      have b3 : w1.cell? ⟨gx, 3, none⟩ = some (.bool true) := blk_cell KW.out 3
      have b4 : w1.cell? ⟨gx, 4, none⟩ = some (.func (.func 67) #[.pointer (some ⟨gp, 0, none⟩)] #[]) := blk_cell KW.out 4
      have p3 := H1.out.cells.2.2.2.1
      have p4 := H1.out.cells.2.2.2.2.1
      clear hgl
      by_cases h4 : nw = 2
      · subst h4
        cases hs : S.sized with
        | false =>
          rw [hs] at p4
          obtain rfl : r = (S, 11) := by rw [← HR.out, lineS, HK.out]; simp only []; rw [if_neg (by rw [← HLen.out]; simp), if_pos (.inl hs)]
          go_wp2
          go_ret
          exact ⟨rfl, KP.of_below H.out.sz HB1.out, fun e => by cases e⟩
        | true =>
          rw [hs] at p4
          have HS := Aside0.mk hs
          clear hs
          obtain ⟨A, c, e, -, -⟩ := Kd.S_reads H1.out.r
          subst e
          by_cases h0 : (S.rungs.length : Int) = 0
          · have h0b : ((S.rungs.length : Int) == 0) = true := by simpa using h0
            have H0 := Aside0.mk h0
            clear h0
            obtain rfl : r = (S, 11) := by rw [← HR.out, lineS, HK.out]; simp only []; rw [if_neg (by rw [← HLen.out]; simp), if_pos (.inr (by have := H0.out; omega))]
            go_wp2
            go_ret
            exact ⟨rfl, KP.of_below H.out.sz HB1.out, fun e => by cases e⟩
          · have h0b : ((S.rungs.length : Int) == 0) = false := by simpa using h0
            have hin : Aside0 (0 < S.rungs.length) := ⟨by omega⟩
            clear h0
            have HCall := Aside0.mk (coil_p H1.out n b wc ws HW1.out HSz.out hin.out (fun r hr => (HC.out r hr).2) HE1.out)
            rw [show coilS S ws = r by rw [← HR.out, lineS, HK.out]; simp only []; rw [if_neg (by rw [← HLen.out]; simp), if_neg (by rw [HS.out]; simp; have := hin.out; intro h; rw [h] at this; simp at this)]] at HCall
            go_wp2_with fail
            refine HCall.out.mono ?_
            rintro e w2 ⟨rfl, hk, hp⟩
            go_wp2
            go_ret
            exact ⟨rfl, (KP.of_below H.out.sz HB1.out).trans hk, hp⟩
      · by_cases hlt : (nw : Int) < 2
        · have hltb : decide ((nw : Int) < 2) = true := by simpa using hlt
          obtain rfl : r = (S, 6) := by rw [← HR.out, lineS, HK.out]; simp only []; rw [if_pos (by rw [← HLen.out]; omega)]
          go_wp2
          go_ret
          exact ⟨rfl, KP.of_below H.out.sz HB1.out, fun e => by cases e⟩
        · have hltb : decide ((nw : Int) < 2) = false := by simpa using hlt
          have hgtb : decide ((2 : Int) < nw) = true := by simp; omega
          obtain rfl : r = (S, 6) := by rw [← HR.out, lineS, HK.out]; simp only []; rw [if_pos (by rw [← HLen.out]; omega)]
          go_wp2
          go_ret
          exact ⟨rfl, KP.of_below H.out.sz HB1.out, fun e => by cases e⟩
end Go.Proofs.YtolmkdhgnganaaaGreatDoor.H
namespace Go.Proofs.YtolmkdhgnganaaaGreatDoor.H
open Go Go.RowKit Go.Shelf Go.Proofs Go.Proofs.YtolmkdhgnganaaaGreatDoorW.PrintWords Go.Proofs.YtolmkdhgnganaaaGreatDoor.Sp
attribute [local go_sem] Oper.semAt_some
def cnts (s : ByteArray) : List (Int × ByteArray) := upN (cntAt s) (pieces s).length
/-- What Lines answers for a text that is not too long. -/
def LinesR (s : ByteArray) (w : World) (e : Ending) (w' : World) : Prop :=
  Below w.heap.size w w' ∧
    ((allPl (cnts s) ∧ ∃ A c, e = .returned (.tuple #[.slice A (lnsOf (cnts s)).length c, .int .i64 0, .int .i64 0]) ∧ kLine.R 81 w' w.heap.size (fun _ => True) (.slice A (lnsOf (cnts s)).length c) (lnsOf (cnts s))) ∨
     (∃ k, k < (pieces s).length ∧ allPl (upN (cntAt s) k) ∧ isPl (cntAt s k).2.data.toList = false ∧ e = .returned (.tuple #[.slice none 0 0, .int .i64 (k + 1), .int .i64 6])))
theorem upN_val (s : ByteArray) (hs : s.size ≤ 65536) (k : Nat) : (upN (cntX s hs) k).map (·.1) = upN (cntAt s) k := by
  simp [upN, Function.comp_def, cntX]
/-- Behind the loop: its block for deferred calls is taken down. -/
theorem R_put_obj {W : World} {B D : Nat} {v : Value} {xs : List Ln} (h : kLine.R 81 W B (fun _ => True) v xs) {o o' : Obj} (hK : W.heap[D]? = some o) (hc : o.isCells = false) : kLine.R 81 (W.putObj D o') B (fun _ => True) v xs := by
  refine Kd.R_mono (Kd.R_move (Kd.R_bound h) (fun k hk => (grownBy_putObj' W D o').block k hk.2.2.1 (fun e => ?_))) (fun _ _ => trivial)
  cases e
  obtain ⟨q, _, cells, hq⟩ := hk.2.2.2
  rw [hK] at hq
  cases hq
  cases hc
set_option maxRecDepth 100000 in
set_option maxHeartbeats 4000000 in
theorem lines_in (s : ByteArray) (w : World) (hs : s.size ≤ 65536) (hG : LexG w) : CallsIn Fence.wide 6 Tryz.prog 31 #[.string s] w (LinesR s w) := by
  have HG := Aside0.mk hG
  obtain ⟨m, hm⟩ := hG.mx
  have hmB := World.block_lt_of_cell? w _ hm
  have HM := Aside0.mk hm
  have hsz : ¬ (65536 : Int) < (s.size : Int) := by omega
  have h3 : 3 < w.heap.size := hmB
  clear hm hG hmB
  refine callsIn_of_wp_marks Tryz.func31 rfl trivial ?_ rfl
  simp only [Tryz.ntmps31, List.size_toArray, List.length_cons, List.length_nil, Nat.reduceAdd, Nat.reduceSub, Array.replicate_succ, Array.replicate_zero, List.push_toArray, List.append_toArray, List.nil_append, List.cons_append]
  gi_wp2
  refine ⟨trivial, ?_⟩
  refine (callsIn_wide.2 (counts_b s _)).mono ?_
  rintro e w' ⟨rfl, rfl⟩
  have HI0 : LnI w [] (((((w.alloc (.cells #[.slice none 0 0] 72)).alloc (.cells #[.int .i64 0] 3)).alloc (.cells #[.int .i64 0] 27)).alloc (.cells #[.slice none 0 0] 72)).alloc (.cells #[.string s] 9)) := by
    refine ⟨below_alloc (below_alloc (below_alloc (below_alloc (below_alloc (Below.refl _ _) _) _) _) _) _, blk_alloc (blk_alloc (blk_alloc (blk_alloc (blk_new _ _) _) _) _) _, ?_, ?_, ⟨.slice none 0 0, ?_, Kd.R_nil _ _ _ _ _⟩, fun p hp => by cases hp⟩
    · have := blk_new (w.alloc (.cells #[.slice none 0 0] 72)) (.cells #[.int .i64 0] 3)
      rw [World.size_alloc] at this
      exact blk_alloc (blk_alloc (blk_alloc this _) _) _
    · have := blk_new ((w.alloc (.cells #[.slice none 0 0] 72)).alloc (.cells #[.int .i64 0] 3)) (.cells #[.int .i64 0] 27)
      rw [World.size_alloc, World.size_alloc] at this
      exact blk_alloc (blk_alloc this _) _
    · have := blk_new (((w.alloc (.cells #[.slice none 0 0] 72)).alloc (.cells #[.int .i64 0] 3)).alloc (.cells #[.int .i64 0] 27)) (.cells #[.slice none 0 0] 72)
      rw [World.size_alloc, World.size_alloc, World.size_alloc] at this
      exact blk_alloc this _
  have hbx := blk_new ((((w.alloc (.cells #[.slice none 0 0] 72)).alloc (.cells #[.int .i64 0] 3)).alloc (.cells #[.int .i64 0] 27)).alloc (.cells #[.slice none 0 0] 72)) (.cells #[.string s] 9)
  gi_wp2
  generalize hW0 : ((((w.alloc (.cells #[.slice none 0 0] 72)).alloc (.cells #[.int .i64 0] 3)).alloc (.cells #[.int .i64 0] 27)).alloc (.cells #[.slice none 0 0] 72)).alloc (.cells #[.string s] 9) = W0 at HI0 hbx ⊢
  have hsW : W0.heap.size = w.heap.size + 5 := by rw [← hW0]; simp only [World.size_alloc]
  simp only [World.size_alloc] at hbx
  clear hW0
  have HM0 := pw_cell_below HI0.b HM.out
  refine wpIn_rangeFunc_ownF (w := W0) rfl (by decide) (gf := 88) (lb := #[.pointer (some ⟨w.heap.size + 1 + 1 + 1 + 1, 0, none⟩)]) rfl trivial (enters_of Tryz.func88 (by kernel_rfl) rfl)
    (counts_stops w.heap.size (w.heap.size + 1 + 1 + 1 + 1) 5 s m W0 (by omega) h3 hs HM0 hbx) Kr.trans (Kr.put (by omega)) (Below.refl _ _) (fun _ => rfl)
    (LnI w) (fun c pre W => c = .ret ∧ LnX w pre W)
    (fun s W W' row h hg hr => LnI.own w s W W' row h hg (fun r e => ⟨by have := (hr r e).1; omega, (hr r e).2⟩))
    (fun c s W W' row h hg hr => ⟨h.1, LnX.own w s W W' row h.2 hg (fun r e => ⟨by have := (hr r e).1; omega, (hr r e).2⟩)⟩)
    HI0
    (fun x => { tmps := #[.string s, undef, .pointer (some ⟨w.heap.size, 0, none⟩), .pointer (some ⟨w.heap.size + 1, 0, none⟩), .pointer (some ⟨w.heap.size + 1 + 1, 0, none⟩), .pointer (some ⟨w.heap.size + 1 + 1 + 1, 0, none⟩), .int .i64 x.1.1, .string x.1.2, undef, .string s, .int .i64 s.size, .bool false, .string s, .func (.func 88) #[] #[.pointer (some ⟨w.heap.size + 1 + 1 + 1 + 1, 0, none⟩)], .int .i64 x.1.1, .string x.1.2, undef, undef, undef, undef, undef, undef, undef, undef, undef, undef, undef, undef, undef, undef, undef, undef], defers := [] }) ?assign ?body ?done ?stop
  case assign =>
    intro l x W K hK
    gi_wp2
    exact hK
  case body =>
    rintro l pre ⟨⟨n, x⟩, hx⟩ W hI hlen
    dsimp only at hx ⊢
    have HI := Aside0.mk hI
    clear hI
    cases hpl : isPl x.data.toList with
    | false =>
      gi_wp2
      refine ⟨trivial, ?_⟩
      refine (CallsIn.inRound l (callsIn_wide.2 (plain_b x W))).mono ?_
      rintro e W2 ⟨rfl, hb⟩
      rw [hpl]
      have HI2 := Aside0.mk (HI.out.below hb)
      have HKo := Aside0.mk (keeps_of hb)
      clear hb
      have q2 : W2.cell? ⟨w.heap.size, 0, none⟩ = some (.slice none 0 0) := blk_cell HI2.out.r2 0
      have q3 : W2.cell? ⟨w.heap.size + 1, 0, none⟩ = some (.int .i64 0) := blk_cell HI2.out.r3 0
      have q4 : W2.cell? ⟨w.heap.size + 1 + 1, 0, none⟩ = some (.int .i64 0) := blk_cell HI2.out.r4 0
      have f2 : W2.frozen? ⟨w.heap.size, 0, none⟩ = false := blk_frozen HI2.out.r2 0
      have f3 : W2.frozen? ⟨w.heap.size + 1, 0, none⟩ = false := blk_frozen HI2.out.r3 0
      have f4 : W2.frozen? ⟨w.heap.size + 1 + 1, 0, none⟩ = false := blk_frozen HI2.out.r4 0
      gi_wp2
      exact ⟨((HKo.out.trans (KeepsOthers.setCell _ _ _)).trans (KeepsOthers.setCell _ _ _)).trans (KeepsOthers.setCell _ _ _), rfl, LnI.bad (x := ⟨(n, x), hx⟩) HI2.out hpl⟩
    | true =>
      gi_wp2
      refine ⟨trivial, ?_⟩
      refine (CallsIn.inRound l (callsIn_wide.2 (plain_b x W))).mono ?_
      rintro e W2 ⟨rfl, hb⟩
      rw [hpl]
      have HI2 := Aside0.mk (HI.out.below hb)
      have HB2 := Aside0.mk hb
      clear hb
      gi_wp2
      refine ⟨trivial, ?_⟩
      refine (CallsIn.inRound l (callsIn_wide.2 (fields_b x W2 hpl hx (HG.out.below HI2.out.b).tab))).mono ?_
      rintro e W3 ⟨rfl, rfl⟩
      have HI3 := Aside0.mk (HI2.out.below (below_alloc (Below.refl _ _) (.cells ((wordsOf x).map Value.string).toArray 9)))
      have HB3 := Aside0.mk (below_step HB2.out (below_alloc (Below.refl _ _) (.cells ((wordsOf x).map Value.string).toArray 9)))
      by_cases he : (wordsOf x).isEmpty = true
      · have h0 : wordsOf x = [] := by simpa using he
        have HE := Aside0.mk he
        clear he
        have FK := Aside0.mk (⟨keeps_of HB3.out, Kr.of_below HB3.out HI.out.b.size, HI3.out.skip (x := ⟨(n, x), hx⟩) HE.out hpl⟩ : KeepsOthers W _ ∧ Kr w.heap.size W _ ∧ LnI w (pre ++ [⟨(n, x), hx⟩]) _)
        have h01 : ((wordsOf x).length : Int) = 0 := by rw [h0]; rfl
        clear h0
        gi_wp2
        exact FK.out
      · have hp : (0 : Int) < ((wordsOf x).length : Int) := by
          have : (wordsOf x).length ≠ 0 := fun e => he (by simpa using e)
          omega
        have hwl : (wordsOf x).length ≤ 65536 := words_le hx
        obtain ⟨i0, hi, hzz⟩ := Option.map_eq_some_iff.1 infoLn
        simp only [Prod.mk.injEq] at hzz
        obtain ⟨hz0, hz1, hz2⟩ := hzz
        obtain ⟨v, hl2, hR2⟩ := HI2.out.l
        have hgv := Kd.R_lt hR2
        have hb34 : Below W2.heap.size W2 ((W2.alloc (.cells ((wordsOf x).map Value.string).toArray 9)).alloc (.cells #[.int .i64 n, .slice (some ⟨W2.heap.size, 0, none⟩) (wordsOf x).length (wordsOf x).length] 81)) := below_alloc (below_alloc (Below.refl _ _) _) _
        have h4 := Aside0.mk (HI2.out.below hb34)
        have hl4 := Aside0.mk (blk_below hl2 hb34)
        have hw4 := Aside0.mk (Kd.R_below (str_row W2 w.heap.size HI2.out.b.size (wordsOf x) (by omega)) (below_alloc (Below.refl _ _) (.cells #[.int .i64 n, .slice (some ⟨W2.heap.size, 0, none⟩) (wordsOf x).length (wordsOf x).length] 81)))
        obtain ⟨_, inner, ho, hr⟩ := Kd.R_below hR2 hb34
        have HR4 := Aside0.mk hr
        have ho2 : ((W2.alloc (.cells ((wordsOf x).map Value.string).toArray 9)).alloc (.cells #[.int .i64 n, .slice (some ⟨W2.heap.size, 0, none⟩) (wordsOf x).length (wordsOf x).length] 81)).ownsRow w.heap.size 81 2 v (lnsOf (pre.map (·.1))).length inner := ho
        clear ho
        have HGV := Aside0.mk hgv
        have HK4 := Aside0.mk (below_step HB2.out hb34)
        have q5 : (W2.alloc (.cells ((wordsOf x).map Value.string).toArray 9)).cell? ⟨w.heap.size + 1 + 1 + 1, 0, none⟩ = some v := blk_cell (blk_alloc hl2 _) 0
        have hnews := World.news_of_block (blk_new (W2.alloc (.cells ((wordsOf x).map Value.string).toArray 9)) (.cells #[.int .i64 n, .slice (some ⟨W2.heap.size, 0, none⟩) (wordsOf x).length (wordsOf x).length] 81))
        rw [World.size_alloc] at hnews
        have hcnt : (lnsOf (pre.map (·.1))).length ≤ 65537 := by
          have h1 := lnsOf_le (pre.map (·.1))
          rw [List.length_map] at h1
          have := pieces_le s hs
          omega
        clear hr hgv hl2 hR2
        gi_wp2_with (gi_at_builtin; refine wpListIn_append_own_at _ rfl _ _ 72 rfl w.heap.size 81 i0 (.agg #[.int .i64 0, .slice none 0 0]) 2 32 Tryz.underlying72 hi hz0 hz1 hz2 rfl (by decide) v _ inner rfl ho2 ⟨W2.heap.size + 1, 0, none⟩ 1 1 [.int .i64 n, .slice (some ⟨W2.heap.size, 0, none⟩) (wordsOf x).length (wordsOf x).length] rfl rfl hnews (by simp [Value.oneCell']) (by unfold maxLen; omega) (by omega) h4.out.b.size ?_; intro v1 W5 hown hg hnil hat; obtain ⟨g5, cap5, rfl⟩ := ownsRow_succ hown; obtain ⟨hl5, hLn, hKO, hKr⟩ := LnI.push (x := ⟨(n, x), hx⟩) h4.out hl4.out ho2 HR4.out hw4.out HGV.out he hpl hown hg hat; have q6 : W5.cell? ⟨w.heap.size + 1 + 1 + 1, 0, none⟩ = some v := blk_cell hl5 0; have f6 : W5.frozen? ⟨w.heap.size + 1 + 1 + 1, 0, none⟩ = false := blk_frozen hl5 0)
        exact ⟨(keeps_of HK4.out).trans hKO, (Kr.of_below HK4.out HI.out.b.size).trans hKr, hLn⟩
  case done =>
    rintro D ys W hD rfl hI hK
    have HI := Aside0.mk hI
    obtain ⟨v, hl0, hR⟩ := hI.l
    have q2 : W.cell? ⟨w.heap.size, 0, none⟩ = some (.slice none 0 0) := blk_cell hI.r2 0
    have q3 : W.cell? ⟨w.heap.size + 1, 0, none⟩ = some (.int .i64 0) := blk_cell hI.r3 0
    have q4 : W.cell? ⟨w.heap.size + 1 + 1, 0, none⟩ = some (.int .i64 0) := blk_cell hI.r4 0
    have q5 : W.cell? ⟨w.heap.size + 1 + 1 + 1, 0, none⟩ = some v := blk_cell hl0 0
    have f2 : W.frozen? ⟨w.heap.size, 0, none⟩ = false := blk_frozen hI.r2 0
    have f3 : W.frozen? ⟨w.heap.size + 1, 0, none⟩ = false := blk_frozen hI.r3 0
    have f4 : W.frozen? ⟨w.heap.size + 1 + 1, 0, none⟩ = false := blk_frozen hI.r4 0
    obtain ⟨A, c, rfl, -, -⟩ := Kd.R_reads hR
    have HR := Aside0.mk hR
    have HL0 := Aside0.mk hl0
    clear hI hR hl0
    rw [upN_val] at HR HL0 q5
    change Aside0 (kLine.R 81 W w.heap.size (fun _ => True) (.slice A (lnsOf (cnts s)).length c) (lnsOf (cnts s))) at HR
    change W.cell? _ = some (.slice A (lnsOf (cnts s)).length c) at q5
    gi_wp2
    clear q2 q3 q4 q5 f2 f3 f4
    have e2 := HI.out.r2
    have e3 := HI.out.r3
    have e4 := HI.out.r4
    have k2 : ∀ {X : World}, X.heap[w.heap.size]? = some (.cells #[.slice none 0 0] 72 (0, 0)) → (X.setCell ⟨w.heap.size, 0, none⟩ (.slice A (lnsOf (cnts s)).length c)).heap[w.heap.size]? = some (.cells #[.slice A (lnsOf (cnts s)).length c] 72 (0, 0)) := fun h => by
      have := blk_set h 0 (.slice A (lnsOf (cnts s)).length c)
      simpa using this
    have a2 := k2 e2
    have a3 := blk_far e3 (p := ⟨w.heap.size, 0, none⟩) (by show w.heap.size + 1 ≠ w.heap.size; omega) (.slice A (lnsOf (cnts s)).length c)
    have a4 := blk_far e4 (p := ⟨w.heap.size, 0, none⟩) (by show w.heap.size + 2 ≠ w.heap.size; omega) (.slice A (lnsOf (cnts s)).length c)
    have aR := Kd.R_set HR.out e2 types_ln 0 (.slice A (lnsOf (cnts s)).length c)
    have aK := (KeepsOthers.setCell W ⟨w.heap.size, 0, none⟩ (.slice A (lnsOf (cnts s)).length c)).same D _ hK rfl
    have aB : Below w.heap.size w (W.setCell ⟨w.heap.size, 0, none⟩ (.slice A (lnsOf (cnts s)).length c)) := below_set HI.out.b (by omega)
    generalize W.setCell ⟨w.heap.size, 0, none⟩ (.slice A (lnsOf (cnts s)).length c) = X at *
    have b2 := blk_far a2 (p := ⟨w.heap.size + 1, 0, none⟩) (by show w.heap.size ≠ w.heap.size + 1; omega) (.int .i64 0)
    have b3 : (X.setCell ⟨w.heap.size + 1, 0, none⟩ (.int .i64 0)).heap[w.heap.size + 1]? = some (.cells #[.int .i64 0] 3 (0, 0)) := by
      have := blk_set a3 0 (.int .i64 0)
      simpa using this
    have b4 := blk_far a4 (p := ⟨w.heap.size + 1, 0, none⟩) (by show w.heap.size + 2 ≠ w.heap.size + 1; omega) (.int .i64 0)
    have bR := Kd.R_set aR a3 (by decide) 0 (.int .i64 0)
    have bK := (KeepsOthers.setCell X ⟨w.heap.size + 1, 0, none⟩ (.int .i64 0)).same D _ aK rfl
    have bB : Below w.heap.size w (X.setCell ⟨w.heap.size + 1, 0, none⟩ (.int .i64 0)) := below_set aB (by omega)
    generalize X.setCell ⟨w.heap.size + 1, 0, none⟩ (.int .i64 0) = Y at *
    have c2 := blk_far b2 (p := ⟨w.heap.size + 1 + 1, 0, none⟩) (by show w.heap.size ≠ w.heap.size + 1 + 1; omega) (.int .i64 0)
    have c3 := blk_far b3 (p := ⟨w.heap.size + 1 + 1, 0, none⟩) (by show w.heap.size + 1 ≠ w.heap.size + 1 + 1; omega) (.int .i64 0)
    have c4 : (Y.setCell ⟨w.heap.size + 1 + 1, 0, none⟩ (.int .i64 0)).heap[w.heap.size + 1 + 1]? = some (.cells #[.int .i64 0] 27 (0, 0)) := by
      have := blk_set b4 0 (.int .i64 0)
      simpa using this
    have cR := Kd.R_set bR b4 (by decide) 0 (.int .i64 0)
    have cK := (KeepsOthers.setCell Y ⟨w.heap.size + 1 + 1, 0, none⟩ (.int .i64 0)).same D _ bK rfl
    have cB : Below w.heap.size w (Y.setCell ⟨w.heap.size + 1 + 1, 0, none⟩ (.int .i64 0)) := below_set bB (by omega)
    change (Y.setCell ⟨w.heap.size + 1 + 1, 0, none⟩ (.int .i64 0)).heap[D]? = some (.deferred (some [])) at cK
    generalize Y.setCell ⟨w.heap.size + 1 + 1, 0, none⟩ (.int .i64 0) = Z at *
    refine ⟨by simp, .inl ⟨_, _, rfl, run_takeDeferred cK, ?_⟩⟩
    have hr : ∀ r, some D = some r → ∃ o : Obj, Z.heap[r]? = some o ∧ o.isCells = false := fun r e => by cases e; exact ⟨_, cK, rfl⟩
    have d2 : (Z.putObj D (.deferred none)).cell? ⟨w.heap.size, 0, none⟩ = some (.slice A (lnsOf (cnts s)).length c) := blk_cell (blk_own c2 (grownBy_putObj' _ D (.deferred none)) hr) 0
    have d3 : (Z.putObj D (.deferred none)).cell? ⟨w.heap.size + 1, 0, none⟩ = some (.int .i64 0) := blk_cell (blk_own c3 (grownBy_putObj' _ D (.deferred none)) hr) 0
    have d4 : (Z.putObj D (.deferred none)).cell? ⟨w.heap.size + 1 + 1, 0, none⟩ = some (.int .i64 0) := blk_cell (blk_own c4 (grownBy_putObj' _ D (.deferred none)) hr) 0
    have hRz := R_put_obj cR (o' := .deferred none) cK rfl
    refine ⟨.tuple #[.slice A (lnsOf (cnts s)).length c, .int .i64 0, .int .i64 0], ?_, cB.grown (grownBy_putObj' _ D (.deferred none)) cB.size (fun k e => by cases e; omega), .inl ⟨?_, A, c, rfl, hRz⟩⟩
    · simp [results, Tryz.f31, go_sem, d2, d3, d4]
    · have := HI.out.ok
      rw [upN_val] at this
      exact this
  case stop =>
    rintro D c pre W hD ⟨k, hk, rfl⟩ ⟨rfl, hX⟩ hK
    gi_wp2
    refine ⟨by simp, .inl ⟨_, _, rfl, run_takeDeferred hK, ?_⟩⟩
    obtain ⟨ini, last, e, h1, h2, e3⟩ := hX.p
    obtain ⟨k', rfl⟩ : ∃ k', k = k' + 1 := by
      cases k with
      | zero => simp [upN] at e
      | succ k' => exact ⟨k', rfl⟩
    rw [upN_succ] at e
    obtain ⟨rfl, e5⟩ := List.append_inj' e rfl
    obtain rfl : cntX s hs k' = last := by simpa using e5
    have hr : ∀ r, some D = some r → ∃ o : Obj, W.heap[r]? = some o ∧ o.isCells = false := fun r e => by cases e; exact ⟨_, hK, rfl⟩
    have d2 : (W.putObj D (.deferred none)).cell? ⟨w.heap.size, 0, none⟩ = some (.slice none 0 0) := blk_cell (blk_own hX.r2 (grownBy_putObj' _ D (.deferred none)) hr) 0
    have d3 : (W.putObj D (.deferred none)).cell? ⟨w.heap.size + 1, 0, none⟩ = some (.int .i64 ((k' : Int) + 1)) := blk_cell (blk_own e3 (grownBy_putObj' _ D (.deferred none)) hr) 0
    have d4 : (W.putObj D (.deferred none)).cell? ⟨w.heap.size + 1 + 1, 0, none⟩ = some (.int .i64 6) := blk_cell (blk_own hX.r4 (grownBy_putObj' _ D (.deferred none)) hr) 0
    rw [upN_val] at h1
    refine ⟨.tuple #[.slice none 0 0, .int .i64 ((k' : Int) + 1), .int .i64 6], ?_, hX.b.grown (grownBy_putObj' _ D (.deferred none)) hX.b.size (fun k e => by cases e; omega), .inr ⟨k', by omega, h1, h2, rfl⟩⟩
    simp [results, Tryz.f31, go_sem, d2, d3, d4]
theorem lines_b (s : ByteArray) (w : World) (hs : s.size ≤ 65536) (hG : LexG w) : Calls Tryz.prog 31 #[.string s] w (LinesR s w) := callsIn_wide.1 (lines_in s w hs hG)
set_option maxRecDepth 100000 in
theorem lines_long (s : ByteArray) (w : World) (hs : 65536 < s.size) : Calls Tryz.prog 31 #[.string s] w (RetB w (.tuple #[.slice none 0 0, .int .i64 0, .int .i64 7])) := by
  have hsz : (65536 : Int) < (s.size : Int) := by omega
  go_enter Tryz.func31, Tryz.ntmps31
  go_wp2
  refine bodyPost_ret (v := .tuple #[.slice none 0 0, .int .i64 0, .int .i64 7]) ?_ rfl ⟨rfl, ?_⟩
  · simp [results, Tryz.f31, go_sem]
  · exact below_alloc (below_alloc (below_alloc (Below.refl _ _) _) _) _
end Go.Proofs.YtolmkdhgnganaaaGreatDoor.H
namespace Go.Proofs.YtolmkdhgnganaaaGreatDoor.H
open Go Go.RowKit Go.Proofs Go.Proofs.YtolmkdhgnganaaaGreatDoorW.PrintWords Go.Proofs.YtolmkdhgnganaaaGreatDoor.Sp
def S0 : PSt := ⟨0, 0, 0, false, [], [], []⟩
/-- The lines, one after the other: what is held behind the last one, or the line that is refused and why. -/
def runS : PSt → List Ln → PSt × Int × Int
  | S, [] => (S, 0, 0)
  | S, l :: r => if (lineS S l.n l.ws).2 = 0 then runS (lineS S l.n l.ws).1 r else (S, l.n, (lineS S l.n l.ws).2)
/-- The first of n that is so. -/
def firstN (p : Nat → Bool) (n : Nat) : Option Nat := (List.range n).find? p
theorem firstN_some {p : Nat → Bool} {n k : Nat} (hk : k < n) (h : p k = true) (hl : ∀ j, j < k → p j = false) : firstN p n = some k := by
  unfold firstN
  rw [List.find?_range_eq_some]
  exact ⟨h, by simpa using hk, fun j hj => by rw [hl j hj]; rfl⟩
theorem firstN_none {p : Nat → Bool} {n : Nat} (h : ∀ j, j < n → p j = false) : firstN p n = none := by
  unfold firstN
  rw [List.find?_eq_none]
  intro x hx
  rw [h x (by simpa using hx)]; simp
theorem firstN_not {p : Nat → Bool} {n : Nat} (h : firstN p n = none) (j : Nat) (hj : j < n) : p j = false := by
  unfold firstN at h
  rw [List.find?_eq_none] at h
  simpa using h j (by simpa using hj)
/-- The first line that holds a byte that is not permitted. -/
def badLine (s : ByteArray) : Option Nat := firstN (fun k => !isPl (cntAt s k).2.data.toList) (pieces s).length
/-- Behind the lines: the sizes, the jumps. -/
def endS (S : PSt) : PSt × Int × Int :=
  if S.sized = false then (S, 0, 5) else
  match firstN (fun k => jbAt S.rungs (k : Int)) S.rungs.length with
  | some k => (S, S.jumps.getD k 0, 15)
  | none => (S, 0, 0)
/-- What Parse answers: what is held, the line's number, the error's. -/
def parseP (s : ByteArray) : PSt × Int × Int :=
  if 65536 < s.size then (S0, 0, 7) else
  match badLine s with
  | some k => (S0, (k : Int) + 1, 6)
  | none => if (runS S0 (lnsOf (cnts s))).2.2 = 0 then endS (runS S0 (lnsOf (cnts s))).1 else runS S0 (lnsOf (cnts s))
theorem mem_set {α : Type} {l : List α} {k : Nat} {x y : α} (h : y ∈ l.set k x) : y ∈ l ∨ y = x := List.mem_or_eq_of_mem_set h
theorem lastR_mem {S : PSt} (h : 0 < S.rungs.length) : lastR S ∈ S.rungs := by
  have : lastR S = S.rungs[S.rungs.length - 1] := by
    have hl : S.rungs.length - 1 < S.rungs.length := by omega
    simp [lastR, PPrinterRoundTrip.rd_T53, List.getD, hl]
  rw [this]; exact List.getElem_mem _
theorem Caps.set {S T : PSt} {x : Rung} {k : Nat} (h : Caps S) (e : T.rungs = S.rungs.set k x) (h1 : x.f1.length ≤ 256) (h2 : x.f2.length ≤ 16) : Caps T := fun r hr => by
  rw [e] at hr
  rcases mem_set hr with hr | rfl
  · exact h r hr
  · exact ⟨h1, h2⟩
theorem Caps.line {S : PSt} (h : Caps S) (n : Int) (ws : List ByteArray) : Caps (lineS S n ws).1 := by
  unfold lineS
  split
  · exact h
  · split
    · exact h
    · unfold sizeS; (repeat' split) <;> exact h
  · split
    · exact h
    · split
      · exact h
      · unfold beginS beginT
        (repeat' split) <;> first | exact h | (intro r hr; rcases List.mem_append.1 hr with hr | hr; exact h r hr; obtain rfl := List.mem_singleton.1 hr; exact ⟨Nat.zero_le _, Nat.zero_le _⟩)
  · split
    · exact h
    · split
      · exact h
      · rename_i h0
        have hm := h _ (lastR_mem (S := S) (by omega))
        unfold jumpS
        (repeat' split) <;> first | exact h | exact h.set rfl hm.1 hm.2
  · split
    · exact h
    · split
      · exact h
      · rename_i h0
        have hm := h _ (lastR_mem (S := S) (by omega))
        unfold conS
        (repeat' split) <;> first | exact h | exact h.set rfl (by rw [List.length_append, List.length_singleton]; omega) hm.2
  · split
    · exact h
    · split
      · exact h
      · rename_i h0
        have hm := h _ (lastR_mem (S := S) (by omega))
        unfold coilS
        (repeat' split) <;> first | exact h | exact h.set rfl hm.1 (by rw [List.length_append, List.length_singleton]; omega)
theorem fieldsGo_le : ∀ (l cur : List UInt8), ∀ x ∈ Lib.fieldsGo cur l, x.length ≤ cur.length + l.length
  | [], cur, x, hx => by
    unfold Lib.fieldsGo at hx
    split at hx
    · cases hx
    · obtain rfl := List.mem_singleton.1 hx; simp
  | b :: l, cur, x, hx => by
    unfold Lib.fieldsGo at hx
    split at hx
    · split at hx
      · have := fieldsGo_le l [] x hx; simp at this ⊢; omega
      · rcases List.mem_cons.1 hx with rfl | hx
        · omega
        · have := fieldsGo_le l [] x hx; simp at this ⊢; omega
    · have := fieldsGo_le l (cur ++ [b]) x hx; simp at this ⊢; omega
theorem words_size {x y : ByteArray} (h : y ∈ wordsOf x) : y.size ≤ x.size := by
  unfold wordsOf at h
  obtain ⟨l, hl, rfl⟩ := List.mem_map.1 h
  have := fieldsGo_le _ [] l hl
  have e : x.data.toList.length = x.size := by rw [Array.length_toList]; rfl
  show l.toArray.size ≤ x.size
  simp only [List.length_nil, Nat.zero_add] at this
  rw [List.size_toArray, ← e]
  exact this
theorem lns_ok {s : ByteArray} (hs : s.size ≤ 65536) {x : Ln} (h : x ∈ lnsOf (cnts s)) : 0 < x.ws.length ∧ ∀ j, (x.ws.getD j ⟨#[]⟩).size ≤ 65536 := by
  unfold lnsOf at h
  obtain ⟨p, hp, hx⟩ := List.mem_filterMap.1 h
  unfold toLn at hx
  split at hx
  · cases hx
  · rename_i hne
    cases hx
    refine ⟨List.length_pos_iff.2 (fun e => hne (by have e : wordsOf p.2 = [] := e; rw [e]; rfl)), fun j => ?_⟩
    unfold cnts upN at hp
    obtain ⟨k, hk, rfl⟩ := List.mem_map.1 hp
    have hsz := Nat.le_trans (bare_size _) (piece_at_size hs k)
    by_cases hj : j < (wordsOf (cntAt s k).2).length
    · have := words_size (List.getElem_mem hj)
      rw [List.getD, List.getElem?_eq_getElem hj, Option.getD_some]
      exact Nat.le_trans this hsz
    · show (((wordsOf (cntAt s k).2)).getD j ⟨#[]⟩).size ≤ 65536
      rw [List.getD, List.getElem?_eq_none (by omega), Option.getD_none]
      exact Nat.zero_le _
end Go.Proofs.YtolmkdhgnganaaaGreatDoor.H
namespace Go.Proofs.YtolmkdhgnganaaaGreatDoor.H
open Go Go.RowKit Go.Proofs Go.Proofs.YtolmkdhgnganaaaGreatDoorW.PrintWords Go.Proofs.YtolmkdhgnganaaaGreatDoor.Sp
/-- A byte put ahead of the first line. -/
def hd (b : UInt8) : List (List UInt8) → List (List UInt8)
  | [] => [[b]]
  | p :: r => (b :: p) :: r
/-- A text's lines. -/
def spl : List UInt8 → List (List UInt8)
  | [] => [[]]
  | b :: l => if b = 10 then [] :: spl l else hd b (spl l)
theorem spl_ne : ∀ l, spl l ≠ []
  | [] => by simp [spl]
  | b :: l => by
    unfold spl
    split
    · simp
    · cases spl l <;> simp [hd]
theorem index_hit (c : UInt8) (l : List UInt8) : Lib.index (c :: l) [c] = 0 := by
  unfold Lib.index
  rw [if_pos (by simp)]
theorem index_skip {b c : UInt8} (l : List UInt8) (h : b ≠ c) : Lib.index (b :: l) [c] = if Lib.index l [c] = -1 then -1 else Lib.index l [c] + 1 := by
  rw [Lib.index]
  have : ([c] : List UInt8).isPrefixOf (b :: l) = false := by
    simp [List.isPrefixOf, Ne.symm h]
  rw [this]
  by_cases hm : Lib.index l [c] = -1
  · simp [hm]
  · have : (Lib.index l [c] == -1) = false := by simpa using hm
    simp [this, hm]
theorem splitK_skip {b c : UInt8} (h : b ≠ c) (k : Nat) (l : List UInt8) : Lib.splitK [c] 0 k (b :: l) = hd b (Lib.splitK [c] 0 k l) := by
  cases k with
  | zero => rfl
  | succ k =>
    rw [Lib.splitK, Lib.splitK, index_skip l h]
    have hge := Lib.index_ge l [c]
    by_cases hm : Lib.index l [c] = -1
    · simp [hm, hd]
    · have h1 : (Lib.index l [c] == -1) = false := by simpa using hm
      have h2 : ((Lib.index l [c] + 1) == -1) = false := by rw [beq_eq_false_iff_ne]; omega
      have h3 : (Lib.index l [c] + 1).toNat = (Lib.index l [c]).toNat + 1 := by omega
      rw [if_neg hm, h1, h2, h3]
      simp [hd]
theorem splitK_hit (c : UInt8) (k : Nat) (l : List UInt8) : Lib.splitK [c] 0 (k + 1) (c :: l) = [] :: Lib.splitK [c] 0 k l := by
  rw [Lib.splitK, index_hit]
  simp
theorem splitK_spl : ∀ l : List UInt8, Lib.splitK [10] 0 (Lib.count l [10]) l = spl l
  | [] => by rfl
  | b :: l => by
    by_cases h : b = 10
    · subst h
      rw [Lib.count_cons_eq, Nat.add_comm, splitK_hit, splitK_spl l, spl, if_pos rfl]
    · rw [Lib.count_cons_ne _ _ _ h, splitK_skip h, splitK_spl l, spl, if_neg h]
theorem pieces_spl (s : ByteArray) : (pieces s).map (·.data.toList) = spl s.data.toList := by
  unfold pieces
  rw [Lib.splitB_data]
  exact splitK_spl _
/-- What lies ahead of the comment. -/
def bareL (l : List UInt8) : List UInt8 := l.takeWhile (fun b => b != 59)
theorem cut_bare : ∀ l : List UInt8, (Lib.cut l [59]).1 = bareL l
  | [] => by rfl
  | b :: l => by
    have ih := cut_bare l
    unfold Lib.cut at ih ⊢
    by_cases h : b = 59
    · subst h
      rw [index_hit]
      simp [bareL]
    · have hge := Lib.index_ge l [59]
      have hb : bareL (b :: l) = b :: bareL l := by simp [bareL, h]
      rw [index_skip l h, hb, ← ih]
      by_cases hm : Lib.index l [59] = -1
      · simp [hm]
      · have h3 : (Lib.index l [59] + 1).toNat = (Lib.index l [59]).toNat + 1 := by omega
        rw [if_neg hm, if_pos (by omega), if_pos (by omega)]
        simp [h3]
/-- The words of a line. -/
def wds (p : List UInt8) : List ByteArray := (Lib.fields (bareL p)).map fun l => (⟨l.toArray⟩ : ByteArray)
/-- The lines that hold words; the first has the number n. -/
def linesFrom (n : Int) : List (List UInt8) → List Ln
  | [] => []
  | p :: r => (if (wds p).isEmpty then [] else [⟨n, wds p⟩]) ++ linesFrom (n + 1) r
/-- The first line that holds a byte that is not permitted. -/
def badFrom (n : Int) : List (List UInt8) → Option Int
  | [] => none
  | p :: r => if isPl (bareL p) then badFrom (n + 1) r else some n
/-- What Parse answers, told over the lines. -/
def parseL (ps : List (List UInt8)) : PSt × Int × Int :=
  match badFrom 1 ps with
  | some n => (S0, n, 6)
  | none => if (runS S0 (linesFrom 1 ps)).2.2 = 0 then endS (runS S0 (linesFrom 1 ps)).1 else runS S0 (linesFrom 1 ps)
theorem spl_append (a b : List UInt8) : spl (a ++ 10 :: b) = spl a ++ spl b := by
  induction a with
  | nil => simp [spl]
  | cons x a ih =>
    rw [List.cons_append, spl, spl, ih]
    split
    · rfl
    · cases h : spl a with
      | nil => exact absurd h (spl_ne a)
      | cons p r => rfl
theorem spl_one {a : List UInt8} (h : ∀ b ∈ a, b ≠ 10) : spl a = [a] := by
  induction a with
  | nil => rfl
  | cons x a ih =>
    rw [spl, if_neg (h x List.mem_cons_self), ih (fun b hb => h b (List.mem_cons_of_mem _ hb))]
    rfl
/-- The words and the line's number, over the pieces. -/
theorem getD_map {α β : Type} (f : α → β) (l : List α) (k : Nat) (d : α) : (l[k]?.map f).getD (f d) = f (l[k]?.getD d) := by cases l[k]? <;> rfl
theorem cntAt_bytes (s : ByteArray) (k : Nat) : (cntAt s k).2.data.toList = bareL ((spl s.data.toList)[k]?.getD []) := by
  unfold cntAt bare
  dsimp only
  rw [cut_bare, ← pieces_spl, List.getElem?_map]
  exact congrArg bareL (getD_map (fun x : ByteArray => x.data.toList) (pieces s) k ByteArray.empty).symm
theorem wordsOf_cnt (s : ByteArray) (k : Nat) : wordsOf (cntAt s k).2 = wds ((spl s.data.toList)[k]?.getD []) := by
  unfold wordsOf wds
  rw [cntAt_bytes]
theorem spl_length (s : ByteArray) : (spl s.data.toList).length = (pieces s).length := by rw [← pieces_spl, List.length_map]
theorem lnsOf_from (ps : List (List UInt8)) : ∀ (f : Nat → Int × ByteArray) (n : Int), (∀ k, k < ps.length → (f k).1 = n + k) → (∀ k, k < ps.length → wordsOf (f k).2 = wds (ps[k]?.getD [])) → lnsOf (upN f ps.length) = linesFrom n ps := by
  induction ps with
  | nil => intro f n _ _; rfl
  | cons p r ih =>
    intro f n h1 h2
    have e : upN f (p :: r).length = f 0 :: upN (fun k => f (k + 1)) r.length := by
      unfold upN
      rw [List.length_cons, List.range_succ_eq_map, List.map_cons, List.map_map]
      rfl
    have ih' := ih (fun k => f (k + 1)) (n + 1) (fun k hk => by
      have := h1 (k + 1) (by rw [List.length_cons]; omega)
      show (f (k + 1)).1 = _
      rw [this]; push_cast; omega) (fun k hk => by
      have := h2 (k + 1) (by rw [List.length_cons]; omega)
      show wordsOf (f (k + 1)).2 = _
      rw [this]; rfl)
    have hw : wordsOf (f 0).2 = wds p := by
      have := h2 0 (by rw [List.length_cons]; omega)
      rw [this]; rfl
    have hn : (f 0).1 = n := by
      have := h1 0 (by rw [List.length_cons]; omega)
      rw [this]; simp
    rw [e, linesFrom, ← ih']
    unfold lnsOf
    rw [List.filterMap_cons]
    unfold toLn
    rw [hw, hn]
    cases hq : (wds p).isEmpty with
    | true => simp
    | false => simp
theorem lnsOf_cnts (s : ByteArray) : lnsOf (cnts s) = linesFrom 1 (spl s.data.toList) := by
  unfold cnts
  rw [← spl_length]
  exact lnsOf_from _ _ 1 (fun k _ => by show (k : Int) + 1 = 1 + k; omega) (fun k _ => wordsOf_cnt s k)
theorem badFrom_is (ps : List (List UInt8)) : ∀ n : Int, badFrom n ps = (firstN (fun k => !isPl (bareL (ps[k]?.getD []))) ps.length).map (fun k : Nat => n + (k : Int)) := by
  induction ps with
  | nil => intro n; rfl
  | cons p r ih =>
    intro n
    have e : ∀ g : Nat → Bool, firstN g (p :: r).length = if g 0 then some 0 else (firstN (fun k => g (k + 1)) r.length).map (· + 1) := by
      intro g
      unfold firstN
      rw [List.length_cons, List.range_succ_eq_map, List.find?_cons]
      cases g 0 with
      | true => rfl
      | false =>
        simp only [Bool.false_eq_true, if_false]
        rw [List.find?_map]
        rfl
    rw [e, badFrom]
    have e0 : ((p :: r)[0]?.getD []) = p := rfl
    rw [e0]
    cases hp : isPl (bareL p) with
    | false => simp
    | true =>
      simp only [Bool.not_true, Bool.false_eq_true, if_false, if_true, Option.map_map]
      rw [ih]
      congr 1
      funext k
      show n + 1 + (k : Int) = n + ((k + 1 : Nat) : Int)
      omega
theorem badLine_spl (s : ByteArray) : (badLine s).map (fun k : Nat => (k : Int) + 1) = badFrom 1 (spl s.data.toList) := by
  rw [badFrom_is]
  unfold badLine
  rw [spl_length]
  have : (fun k => !isPl (cntAt s k).2.data.toList) = fun k => !isPl (bareL ((spl s.data.toList)[k]?.getD [])) := by
    funext k
    rw [cntAt_bytes]
  rw [this]
  congr 1
  funext k
  omega
theorem parseP_spl {s : ByteArray} (hs : s.size ≤ 65536) : parseP s = parseL (spl s.data.toList) := by
  unfold parseP parseL
  rw [if_neg (by omega), ← badLine_spl, lnsOf_cnts]
  cases badLine s <;> rfl
end Go.Proofs.YtolmkdhgnganaaaGreatDoor.H
namespace Go.Proofs.YtolmkdhgnganaaaGreatDoor.H
open Go Go.RowKit Go.Proofs Go.Proofs.YtolmkdhgnganaaaGreatDoorW.PrintWords Go.Proofs.YtolmkdhgnganaaaGreatDoor.Sp
theorem isE0 : (⟨#[]⟩ : ByteArray).toList.isEmpty = true := by rw [toList_data]; rfl
def runP (S : PSt) (n : Int) (ps : List (List UInt8)) : PSt × Int × Int := runS S (linesFrom n ps)
theorem runP_nil (S : PSt) (n : Int) : runP S n [] = (S, 0, 0) := rfl
theorem runP_blank {S : PSt} {n : Int} {p : List UInt8} {r : List (List UInt8)} (h : wds p = []) : runP S n (p :: r) = runP S (n + 1) r := by
  unfold runP
  rw [linesFrom, h]
  rfl
theorem runP_end (S : PSt) (n : Int) : runP S n [[]] = (S, 0, 0) := by
  rw [runP_blank (by decide), runP_nil]
theorem runP_ok {S T : PSt} {n : Int} {p : List UInt8} {r : List (List UInt8)} {ws : List ByteArray} (h : wds p = ws) (h0 : ws ≠ []) (hl : lineS S n ws = (T, 0)) : runP S n (p :: r) = runP T (n + 1) r := by
  unfold runP
  rw [linesFrom, h, if_neg (by simpa using h0), List.cons_append, List.nil_append, runS]
  dsimp only
  rw [hl, if_pos rfl]
theorem badFrom_all : ∀ {ps : List (List UInt8)} (n : Int), (∀ p ∈ ps, isPl (bareL p) = true) → badFrom n ps = none
  | [], n, _ => rfl
  | p :: r, n, h => by
    rw [badFrom, if_pos (h p List.mem_cons_self)]
    exact badFrom_all (n + 1) (fun q hq => h q (List.mem_cons_of_mem _ hq))
theorem parseL_run {ps : List (List UInt8)} (hb : ∀ p ∈ ps, isPl (bareL p) = true) : parseL ps = if (runP S0 1 ps).2.2 = 0 then endS (runP S0 1 ps).1 else runP S0 1 ps := by
  unfold parseL
  rw [badFrom_all 1 hb]
  rfl
/-- Lines, each with its end. -/
def unl (ps : List (List UInt8)) : List UInt8 := ps.flatMap (· ++ [10])
theorem unl_append (a b : List (List UInt8)) : unl (a ++ b) = unl a ++ unl b := by simp [unl]
theorem unl_cons (p : List UInt8) (r : List (List UInt8)) : unl (p :: r) = p ++ [10] ++ unl r := by simp [unl]
theorem spl_unl (t : List UInt8) : ∀ ps : List (List UInt8), (∀ p ∈ ps, ∀ b ∈ p, b ≠ 10) → spl (unl ps ++ t) = ps ++ spl t
  | [], _ => rfl
  | p :: r, h => by
    have e : unl (p :: r) ++ t = p ++ 10 :: (unl r ++ t) := by simp [unl]
    rw [e, spl_append, spl_unl t r (fun q hq => h q (List.mem_cons_of_mem _ hq)), spl_one (h p List.mem_cons_self)]
    rfl
theorem lastR_append (S : PSt) (l : List Rung) (x : Rung) (h : S.rungs = l ++ [x]) : lastR S = x := by
  unfold lastR
  rw [h]
  simp [PPrinterRoundTrip.rd_T53, List.getD]
/-- rung, rung x -/
def wRung : List ByteArray := [⟨#[114, 117, 110, 103]⟩]
def wRungL (x : ByteArray) : List ByteArray := [⟨#[114, 117, 110, 103]⟩, x]
theorem line_rung {S : PSt} (n : Int) (hs : S.sized = true) (h : S.rungs.length < 64) : lineS S n wRung = (⟨S.i, S.q, S.m, S.sized, S.rungs ++ [newR ⟨#[]⟩], S.lines ++ [n], S.jumps ++ [0]⟩, 0) := by
  have e : kindOf (wRung.getD 0 ⟨#[]⟩) = some 1 := by decide
  rw [lineS, e]
  simp only []
  rw [if_neg (by simp [wRung]), if_neg (by simp [hs]), beginS, if_neg (by simp [wRung]), if_neg (by simp [wRung]), beginT, if_neg (by omega)]
  simp [labOf, wRung]
theorem line_rungL {S : PSt} (n : Int) (x : ByteArray) (hs : S.sized = true) (h : S.rungs.length < 64) (hx : isNm x.data.toList = true) (hn : hasLab S.rungs x = false) :
    lineS S n (wRungL x) = (⟨S.i, S.q, S.m, S.sized, S.rungs ++ [newR x], S.lines ++ [n], S.jumps ++ [0]⟩, 0) := by
  have e : kindOf ((wRungL x).getD 0 ⟨#[]⟩) = some 1 := by
    show kindOf ⟨#[114, 117, 110, 103]⟩ = some 1
    decide
  have el : labOf (wRungL x) = x := by simp [labOf, wRungL]
  rw [lineS, e]
  simp only []
  rw [if_neg (by simp [wRungL]), if_neg (by simp [hs]), beginS, el, if_neg (by simp [hx]), if_neg (by simp [hn]), beginT, if_neg (by omega)]
/-- jump x -/
def wJump (x : ByteArray) : List ByteArray := [⟨#[106, 117, 109, 112]⟩, x]
theorem line_jump {S : PSt} (n : Int) (y : ByteArray) {l : List Rung} {x : Rung} (hs : S.sized = true) (h : S.rungs = l ++ [x]) (h3 : x.f3.toList.isEmpty = true) (hy : isNm y.data.toList = true) :
    lineS S n (wJump y) = (⟨S.i, S.q, S.m, S.sized, l ++ [⟨x.f0, x.f1, x.f2, y⟩], S.lines, S.jumps.set l.length n⟩, 0) := by
  have e : kindOf ((wJump y).getD 0 ⟨#[]⟩) = some 2 := by
    show kindOf ⟨#[106, 117, 109, 112]⟩ = some 2
    decide
  have hl := lastR_append S l x h
  unfold lastR at hl
  have hlen : S.rungs.length = l.length + 1 := by rw [h]; simp
  have hset : ∀ y, S.rungs.set (S.rungs.length - 1) y = l ++ [y] := fun y => by
    rw [hlen, h]
    simp
  have el : (wJump y).getD 1 ⟨#[]⟩ = y := rfl
  rw [lineS, e]
  simp only []
  rw [if_neg (by simp [wJump]), if_neg (by simp [hs, hlen]), jumpS, hl]
  rw [if_neg (by simp [h3]), el, if_neg (by simp [hy]), hset, hlen]
  simp
end Go.Proofs.YtolmkdhgnganaaaGreatDoor.H
namespace Go.Proofs.YtolmkdhgnganaaaGreatDoor.H
open Go Go.RowKit Go.Proofs Go.Proofs.YtolmkdhgnganaaaGreatDoorW.PrintWords Go.Proofs.YtolmkdhgnganaaaGreatDoor.Sp
/-- A byte of a word. -/
def wB (b : UInt8) : Bool := decide (33 ≤ b.toNat ∧ b.toNat ≤ 126 ∧ b.toNat ≠ 59)
def okW (w : List UInt8) : Bool := !w.isEmpty && w.all wB
theorem wB_ok {b : UInt8} (h : wB b = true) : Lib.isSp b = false ∧ plB b = true ∧ (b != 59) = true ∧ b ≠ 10 := by
  unfold wB at h
  simp only [decide_eq_true_eq] at h
  refine ⟨?_, ?_, ?_, ?_⟩
  · cases hb : Lib.isSp b with
    | false => rfl
    | true =>
      unfold Lib.isSp at hb
      simp only [Bool.or_eq_true, beq_iff_eq] at hb
      have : b.toNat ≤ 32 := by
        rcases hb with ((((rfl | rfl) | rfl) | rfl) | rfl) | rfl <;> decide
      omega
  · unfold plB
    simp only [decide_eq_true_eq]
    omega
  · simp only [bne_iff_ne, ne_eq]
    rintro rfl
    exact h.2.2 (by decide)
  · rintro rfl
    have : (10 : UInt8).toNat = 10 := by decide
    omega
theorem okW_all {w : List UInt8} (h : okW w = true) : w ≠ [] ∧ ∀ b ∈ w, wB b = true := by
  unfold okW at h
  rw [Bool.and_eq_true, List.all_eq_true] at h
  exact ⟨by rintro rfl; simp at h, h.2⟩
def joinL : List (List UInt8) → List UInt8
  | [] => []
  | [w] => w
  | w :: v :: r => w ++ 32 :: joinL (v :: r)
theorem fieldsGo_word : ∀ (w cur rest : List UInt8), (∀ b ∈ w, wB b = true) → Lib.fieldsGo cur (w ++ rest) = Lib.fieldsGo (cur ++ w) rest
  | [], cur, rest, _ => by simp
  | b :: w, cur, rest, h => by
    rw [List.cons_append, Lib.fieldsGo, if_neg (by rw [(wB_ok (h b List.mem_cons_self)).1]; simp), fieldsGo_word w _ rest (fun x hx => h x (List.mem_cons_of_mem _ hx)), List.append_assoc]
    rfl
theorem fields_join : ∀ ws : List (List UInt8), (∀ w ∈ ws, okW w = true) → Lib.fields (joinL ws) = ws
  | [], _ => rfl
  | [w], h => by
    have hw := okW_all (h w List.mem_cons_self)
    unfold Lib.fields
    have := fieldsGo_word w [] [] hw.2
    rw [List.append_nil] at this
    show Lib.fieldsGo [] w = [w]
    rw [this, List.nil_append, Lib.fieldsGo, if_neg (by simpa using hw.1)]
  | w :: v :: r, h => by
    have hw := okW_all (h w List.mem_cons_self)
    have ih := fields_join (v :: r) (fun x hx => h x (List.mem_cons_of_mem _ hx))
    unfold Lib.fields at ih ⊢
    rw [joinL, fieldsGo_word w [] _ hw.2, List.nil_append, Lib.fieldsGo_end w 32 _ (by decide) hw.1, ih]
theorem join_bytes (q : UInt8 → Bool) (h32 : q 32 = true) : ∀ ws : List (List UInt8), (∀ w ∈ ws, w.all q = true) → (joinL ws).all q = true
  | [], _ => rfl
  | [w], h => h w List.mem_cons_self
  | w :: v :: r, h => by
    rw [joinL, List.all_append, List.all_cons, h w List.mem_cons_self, h32, join_bytes q h32 (v :: r) (fun x hx => h x (List.mem_cons_of_mem _ hx))]
    rfl
theorem takeWhile_all {q : UInt8 → Bool} : ∀ {l : List UInt8}, l.all q = true → l.takeWhile q = l
  | [], _ => rfl
  | b :: l, h => by
    rw [List.all_cons, Bool.and_eq_true] at h
    rw [List.takeWhile_cons, if_pos h.1, takeWhile_all h.2]
theorem all_of {w : List UInt8} (h : okW w = true) {q : UInt8 → Bool} (hq : ∀ b, wB b = true → q b = true) : w.all q = true := by
  rw [List.all_eq_true]
  exact fun b hb => hq b ((okW_all h).2 b hb)
theorem bare_join {ws : List (List UInt8)} (h : ∀ w ∈ ws, okW w = true) : bareL (joinL ws) = joinL ws :=
  takeWhile_all (join_bytes _ (by decide) ws (fun w hw => all_of (h w hw) fun b hb => (wB_ok hb).2.2.1))
theorem wds_join {ws : List (List UInt8)} (h : ∀ w ∈ ws, okW w = true) : wds (joinL ws) = ws.map fun l => (⟨l.toArray⟩ : ByteArray) := by
  unfold wds
  rw [bare_join h, fields_join ws h]
theorem plain_join {ws : List (List UInt8)} (h : ∀ w ∈ ws, okW w = true) : isPl (bareL (joinL ws)) = true := by
  rw [bare_join h]
  exact join_bytes plB (by decide) ws (fun w hw => all_of (h w hw) fun b hb => (wB_ok hb).2.1)
theorem no10_join {ws : List (List UInt8)} (h : ∀ w ∈ ws, okW w = true) : ∀ b ∈ joinL ws, b ≠ 10 := by
  have := join_bytes (fun b => b != 10) (by decide) ws (fun w hw => all_of (h w hw) fun b hb => by simpa using (wB_ok hb).2.2.2)
  rw [List.all_eq_true] at this
  intro b hb
  simpa using this b hb
/-- Numerals, names. -/
theorem dig_wB {b : UInt8} (h : isDig b = true) : wB b = true := by
  unfold isDig at h
  unfold wB
  rw [Bool.and_eq_true, decide_eq_true_eq, decide_eq_true_eq] at h
  have h1 : 48 ≤ b.toNat := UInt8.le_iff_toNat_le.1 h.1
  have h2 : b.toNat ≤ 57 := UInt8.le_iff_toNat_le.1 h.2
  simp only [decide_eq_true_eq]
  omega
theorem dec_okW (n : Nat) : okW (Lib.decDigits n) = true := by
  have h := (num_of_dec n).1
  unfold numSyn at h
  rw [Bool.and_eq_true, Bool.and_eq_true] at h
  unfold okW
  rw [Bool.and_eq_true]
  refine ⟨h.1.1, ?_⟩
  rw [List.all_eq_true]
  exact fun b hb => dig_wB (List.all_eq_true.1 h.1.2 b hb)
theorem dec_num (n : Nat) : numParse (Lib.decDigits n) 256 = if n ≤ 256 then ((n : Int), 0) else (0, 3) := by
  obtain ⟨h1, h2⟩ := num_of_dec n
  unfold numParse
  rw [if_pos h1, h2]
theorem nm_okW {l : List UInt8} (h : isNm l = true) : okW l = true := by
  unfold isNm at h
  rw [Bool.and_eq_true, Bool.and_eq_true, decide_eq_true_eq] at h
  obtain ⟨⟨h1, _⟩, h2⟩ := h
  unfold okW
  rw [Bool.and_eq_true]
  refine ⟨by cases l with | nil => simp at h1 | cons _ _ => rfl, ?_⟩
  rw [List.all_eq_true] at h2 ⊢
  intro b hb
  obtain ⟨j, hj, rfl⟩ := List.getElem_of_mem hb
  have := h2 j (List.mem_range.2 hj)
  unfold nmAt isLet at this
  rw [show l.getD j 0 = l[j] by simp [List.getD, hj]] at this
  simp only [Bool.or_eq_true, Bool.and_eq_true, decide_eq_true_eq] at this
  unfold wB
  simp only [decide_eq_true_eq]
  omega
theorem addr_okW {s n : Int} (hs : 0 ≤ s ∧ s ≤ 2) (hn : 0 ≤ n ∧ n ≤ 255) : (addrFmt s n).data.toList = letterOf s :: Lib.decDigits n.toNat ∧ okW (addrFmt s n).data.toList = true := by
  have e : (addrFmt s n).data.toList = letterOf s :: Lib.decDigits n.toNat := by
    unfold addrFmt
    rw [if_neg (by omega)]
    have : itoaS n = itoaS ((n.toNat : Nat) : Int) := by rw [show ((n.toNat : Nat) : Int) = n by omega]
    rw [this]
    show (⟨#[letterOf s]⟩ ++ itoaS ((n.toNat : Nat) : Int) : ByteArray).data.toList = _
    rw [ByteArray.data_append, Array.toList_append, itoa_data]
    rfl
  refine ⟨e, ?_⟩
  rw [e]
  have hd := dec_okW n.toNat
  unfold okW at hd ⊢
  rw [Bool.and_eq_true] at hd ⊢
  refine ⟨rfl, ?_⟩
  rw [List.all_cons, hd.2, Bool.and_true]
  unfold letterOf
  split
  · decide
  · split <;> decide
/-- A contact's line, a coil's, any of them. -/
theorem line_conG {S : PSt} (n : Int) {kw ad f t : ByteArray} {l : List Rung} {x : Rung} (hk : kindOf kw = some 3) (hs : S.sized = true) (h : S.rungs = l ++ [x]) (h2 : x.f2 = []) (h3 : x.f3.toList.isEmpty = true) (h1 : x.f1.length < 256)
    (ha : adrE S.i S.q S.m ad.data.toList = 0) (hf : isNm f.data.toList = true) (ht : isNm t.data.toList = true) :
    lineS S n [kw, ad, f, t] = (⟨S.i, S.q, S.m, S.sized, l ++ [⟨x.f0, x.f1 ++ [⟨kwIx kwC kw, ⟨(addrParse ad.data.toList).1, (addrParse ad.data.toList).2.1⟩, f, t⟩], x.f2, x.f3⟩], S.lines, S.jumps⟩, 0) := by
  have hl := lastR_append S l x h
  have hlen : S.rungs.length = l.length + 1 := by rw [h]; simp
  have hset : ∀ y, S.rungs.set (S.rungs.length - 1) y = l ++ [y] := fun y => by
    rw [hlen, h]
    simp
  have e : kindOf (([kw, ad, f, t] : List ByteArray).getD 0 ⟨#[]⟩) = some 3 := hk
  rw [lineS, e]
  simp only []
  rw [if_neg (by simp), if_neg (by simp [hs, hlen]), conS, hl]
  rw [if_neg (by simp [h2, h3]), if_neg (by omega)]
  rw [show ((([kw, ad, f, t] : List ByteArray).getD 1 ⟨#[]⟩)) = ad from rfl, show ((([kw, ad, f, t] : List ByteArray).getD 2 ⟨#[]⟩)) = f from rfl, show ((([kw, ad, f, t] : List ByteArray).getD 3 ⟨#[]⟩)) = t from rfl, show ((([kw, ad, f, t] : List ByteArray).getD 0 ⟨#[]⟩)) = kw from rfl]
  rw [ha, if_neg (by simp), if_neg (by simp [hf, ht]), hset]
theorem line_coilG {S : PSt} (n : Int) {kw ad : ByteArray} {l : List Rung} {x : Rung} (hk : kindOf kw = some 4) (hs : S.sized = true) (h : S.rungs = l ++ [x]) (h3 : x.f3.toList.isEmpty = true) (h1 : x.f2.length < 16)
    (ha : adrE S.i S.q S.m ad.data.toList = 0) (h0 : (addrParse ad.data.toList).1 ≠ 0) :
    lineS S n [kw, ad] = (⟨S.i, S.q, S.m, S.sized, l ++ [⟨x.f0, x.f1, x.f2 ++ [⟨kwIx kwO kw, ⟨(addrParse ad.data.toList).1, (addrParse ad.data.toList).2.1⟩⟩], x.f3⟩], S.lines, S.jumps⟩, 0) := by
  have hl := lastR_append S l x h
  have hlen : S.rungs.length = l.length + 1 := by rw [h]; simp
  have hset : ∀ y, S.rungs.set (S.rungs.length - 1) y = l ++ [y] := fun y => by
    rw [hlen, h]
    simp
  have e : kindOf (([kw, ad] : List ByteArray).getD 0 ⟨#[]⟩) = some 4 := hk
  rw [lineS, e]
  simp only []
  rw [if_neg (by simp), if_neg (by simp [hs, hlen]), coilS, hl]
  rw [if_neg (by simp [h3]), if_neg (by omega)]
  rw [show ((([kw, ad] : List ByteArray).getD 1 ⟨#[]⟩)) = ad from rfl, show ((([kw, ad] : List ByteArray).getD 0 ⟨#[]⟩)) = kw from rfl]
  rw [ha, if_neg (by simp), if_neg h0, hset]
/-- A size line. -/
theorem line_sizeG (n : Int) {a b c : ByteArray} {i q m : Int} (ha : numParse a.data.toList 256 = (i, 0)) (hb : numParse b.data.toList 256 = (q, 0)) (hc : numParse c.data.toList 256 = (m, 0)) :
    lineS S0 n [⟨#[115, 105, 122, 101]⟩, a, b, c] = (⟨i, q, m, true, [], [], []⟩, 0) := by
  have e : kindOf (([⟨#[115, 105, 122, 101]⟩, a, b, c] : List ByteArray).getD 0 ⟨#[]⟩) = some 0 := by
    show kindOf ⟨#[115, 105, 122, 101]⟩ = some 0
    decide
  rw [lineS, e]
  simp only []
  rw [if_neg (by simp)]
  simp [sizeS, nAt, S0, ha, hb, hc]
end Go.Proofs.YtolmkdhgnganaaaGreatDoor.H
namespace Go.Proofs.YtolmkdhgnganaaaGreatDoor.H
open Go Go.RowKit Go.Proofs Go.Proofs.YtolmkdhgnganaaaGreatDoorW.PrintWords Go.Proofs.YtolmkdhgnganaaaGreatDoor.Sp
/-- The words of a ladder's lines. -/
def cW (c : Con) : List (List UInt8) := [(kwC.getD c.f0.toNat ⟨#[]⟩).data.toList, (addrFmt c.f1.f0 c.f1.f1).data.toList, c.f2.data.toList, c.f3.data.toList]
def oW (c : Coil) : List (List UInt8) := [(kwO.getD c.f0.toNat ⟨#[]⟩).data.toList, (addrFmt c.f1.f0 c.f1.f1).data.toList]
def gW (r : Rung) : List (List UInt8) := [114, 117, 110, 103] :: (if r.f0.toList.isEmpty then [] else [r.f0.data.toList])
def jW (r : Rung) : List (List (List UInt8)) := if r.f3.toList.isEmpty then [] else [[[106, 117, 109, 112], r.f3.data.toList]]
def rW (r : Rung) : List (List (List UInt8)) := gW r :: (r.f1.map cW ++ (r.f2.map oW ++ jW r))
def sW (i q m : Int) : List (List UInt8) := [[115, 105, 122, 101], (itoaS i).data.toList, (itoaS q).data.toList, (itoaS m).data.toList]
def lW (i q m : Int) (l : List Rung) : List (List (List UInt8)) := sW i q m :: l.flatMap rW
theorem isE (x : ByteArray) : x.toList.isEmpty = x.data.toList.isEmpty := by rw [toList_data]
theorem ne_of_ok {x : ByteArray} (h : okW x.data.toList = true) : x.toList.isEmpty = false := by
  rw [isE]
  have := (okW_all h).1
  cases hx : x.data.toList with
  | nil => exact absurd hx this
  | cons _ _ => rfl
theorem line4 {a b c d : ByteArray} (hb : okW b.data.toList = true) (hc : okW c.data.toList = true) (hd : okW d.data.toList = true) :
    lineText [a, b, c, d] = joinL [a.data.toList, b.data.toList, c.data.toList, d.data.toList] ++ [10] := by
  simp [lineText, upTo, wordAt, List.range_succ, List.getD, joinL, ne_of_ok hb, ne_of_ok hc, ne_of_ok hd]
theorem line2 {a b : ByteArray} (hb : okW b.data.toList = true) : lineText [a, b] = joinL [a.data.toList, b.data.toList] ++ [10] := by
  simp [lineText, upTo, wordAt, List.range_succ, List.getD, joinL, ne_of_ok hb]
theorem line1 {a b : ByteArray} (hb : b.toList.isEmpty = true) : lineText [a, b] = joinL [a.data.toList] ++ [10] := by
  have : b.data.toList = [] := by rw [isE] at hb; simpa using hb
  simp [lineText, upTo, wordAt, List.range_succ, List.getD, joinL, hb, this]
/-- What the sizes let in. -/
theorem size_le {i q m : Int} (h : chkSize i q m 0 = 0) : (0 ≤ i ∧ i ≤ 256) ∧ (0 ≤ q ∧ q ≤ 256) ∧ (0 ≤ m ∧ m ≤ 256) := by
  unfold chkSize at h
  split at h
  · rename_i hh; exact hh.2
  · cases h
theorem addr_in {i q m s n : Int} (hz : chkSize i q m 0 = 0) (h : chkAddr i q m s n = 0) : (0 ≤ s ∧ s ≤ 2) ∧ (0 ≤ n ∧ n ≤ 255) := by
  have hs := size_le hz
  unfold chkAddr at h
  split at h
  · cases h
  · split at h
    · cases h
    · rename_i h1 h2
      have : widthOf i q m s ≤ 256 := by
        unfold widthOf
        split
        · omega
        · split
          · omega
          · split <;> omega
      omega
theorem kw_con {k : Int} (h0 : 0 ≤ k) (h1 : k < 4) : kindOf (kwC.getD k.toNat ⟨#[]⟩) = some 3 ∧ kwIx kwC (kwC.getD k.toNat ⟨#[]⟩) = k ∧ okW (kwC.getD k.toNat ⟨#[]⟩).data.toList = true := by
  have : k = 0 ∨ k = 1 ∨ k = 2 ∨ k = 3 := by omega
  rcases this with rfl | rfl | rfl | rfl <;> decide +kernel
theorem kw_coil {k : Int} (h0 : 0 ≤ k) (h1 : k < 4) : kindOf (kwO.getD k.toNat ⟨#[]⟩) = some 4 ∧ kwIx kwO (kwO.getD k.toNat ⟨#[]⟩) = k ∧ okW (kwO.getD k.toNat ⟨#[]⟩).data.toList = true := by
  have : k = 0 ∨ k = 1 ∨ k = 2 ∨ k = 3 := by omega
  rcases this with rfl | rfl | rfl | rfl <;> decide +kernel
theorem nm_ne {x : ByteArray} (h : x.toList.isEmpty = true ∨ isNm x.data.toList = true) (hn : x.toList.isEmpty = false) : isNm x.data.toList = true := by
  rcases h with h | h
  · rw [hn] at h; cases h
  · exact h
theorem itoa_ok {i : Int} (h : 0 ≤ i) : (itoaS i).data.toList = Lib.decDigits i.toNat ∧ okW (itoaS i).data.toList = true := by
  have e : (itoaS i).data.toList = Lib.decDigits i.toNat := by
    rw [show i = ((i.toNat : Nat) : Int) by omega]
    exact itoa_data _
  exact ⟨e, by rw [e]; exact dec_okW _⟩
theorem cW_ok {i q m : Int} {c : Con} (hz : chkSize i q m 0 = 0) (h : OkCon i q m c) : (∀ w ∈ cW c, okW w = true) ∧ conText c = joinL (cW c) ++ [10] := by
  have ha := addr_in hz h.a
  have h1 := (kw_con h.k0 h.k1).2.2
  have h2 := (addr_okW ha.1 ha.2).2
  have h3 := nm_okW h.n2
  have h4 := nm_okW h.n3
  refine ⟨fun w hw => ?_, line4 h2 h3 h4⟩
  unfold cW at hw
  simp only [List.mem_cons, List.not_mem_nil, or_false] at hw
  rcases hw with rfl | rfl | rfl | rfl <;> assumption
theorem oW_ok {i q m : Int} {c : Coil} (hz : chkSize i q m 0 = 0) (h : OkCoil i q m c) : (∀ w ∈ oW c, okW w = true) ∧ coilText c = joinL (oW c) ++ [10] := by
  have ha := addr_in hz h.a
  have h1 := (kw_coil h.k0 h.k1).2.2
  have h2 := (addr_okW ha.1 ha.2).2
  refine ⟨fun w hw => ?_, line2 h2⟩
  unfold oW at hw
  simp only [List.mem_cons, List.not_mem_nil, or_false] at hw
  rcases hw with rfl | rfl <;> assumption
theorem gW_ok {i q m : Int} {r : Rung} (h : OkRung i q m r) : (∀ w ∈ gW r, okW w = true) ∧ lineText (rungLine r) = joinL (gW r) ++ [10] := by
  unfold gW rungLine
  cases he : r.f0.toList.isEmpty with
  | true =>
    refine ⟨fun w hw => ?_, line1 he⟩
    rw [if_pos rfl] at hw
    obtain rfl := List.mem_singleton.1 hw
    decide
  | false =>
    have hn := nm_okW (nm_ne h.lab he)
    refine ⟨fun w hw => ?_, line2 hn⟩
    simp only [Bool.false_eq_true, if_false, List.mem_cons, List.not_mem_nil, or_false] at hw
    rcases hw with rfl | rfl
    · decide
    · exact hn
theorem jW_ok {i q m : Int} {r : Rung} (h : OkRung i q m r) : (∀ l ∈ jW r, ∀ w ∈ l, okW w = true) ∧ jumpText r = unl ((jW r).map joinL) := by
  unfold jW jumpText jumpLine
  cases he : r.f3.toList.isEmpty with
  | true => exact ⟨fun l hl => (by rw [if_pos rfl] at hl; cases hl), rfl⟩
  | false =>
    have hn := nm_okW (nm_ne h.jmp he)
    refine ⟨fun l hl w hw => ?_, ?_⟩
    · simp only [Bool.false_eq_true, if_false, List.mem_singleton] at hl
      subst hl
      simp only [List.mem_cons, List.not_mem_nil, or_false] at hw
      rcases hw with rfl | rfl
      · decide
      · exact hn
    · simp only [Bool.false_eq_true, if_false]
      rw [line2 hn, List.map_cons, List.map_nil, unl_cons]
      simp [unl]
theorem flatUp_all {α : Type} (f : α → List UInt8) (l : List α) : flatUp f l l.length = (l.map f).flatten := by
  unfold flatUp
  rw [show ((l.length : Int)).toNat = l.length by omega, List.take_length]
theorem flatten_unl {α : Type} (f : α → List UInt8) (g : α → List UInt8) : ∀ l : List α, (∀ x ∈ l, f x = g x ++ [10]) → (l.map f).flatten = unl (l.map g)
  | [], _ => rfl
  | x :: r, h => by
    rw [List.map_cons, List.flatten_cons, h x List.mem_cons_self, flatten_unl f g r (fun y hy => h y (List.mem_cons_of_mem _ hy)), List.map_cons, unl_cons]
theorem rW_ok {i q m : Int} {r : Rung} (hz : chkSize i q m 0 = 0) (h : OkRung i q m r) : (∀ l ∈ rW r, ∀ w ∈ l, okW w = true) ∧ rungText r = unl ((rW r).map joinL) := by
  refine ⟨fun l hl => ?_, ?_⟩
  · unfold rW at hl
    rcases List.mem_cons.1 hl with rfl | hl
    · exact (gW_ok h).1
    · rcases List.mem_append.1 hl with hl | hl
      · obtain ⟨c, hc, rfl⟩ := List.mem_map.1 hl
        exact (cW_ok hz (h.cs c hc)).1
      · rcases List.mem_append.1 hl with hl | hl
        · obtain ⟨c, hc, rfl⟩ := List.mem_map.1 hl
          exact (oW_ok hz (h.os c hc)).1
        · exact (jW_ok h).1 l hl
  · unfold rungText rW
    rw [flatUp_all, flatUp_all, (gW_ok h).2, (jW_ok h).2]
    rw [flatten_unl conText (fun c => joinL (cW c)) r.f1 (fun c hc => (cW_ok hz (h.cs c hc)).2), flatten_unl coilText (fun c => joinL (oW c)) r.f2 (fun c hc => (oW_ok hz (h.os c hc)).2)]
    rw [List.map_cons, List.map_append, List.map_append, unl_cons, unl_append, unl_append, List.map_map, List.map_map]
    simp only [List.append_assoc]
    rfl
theorem OkLad.rungs {i q m : Int} {l : List Rung} (h : OkLad i q m l) {r : Rung} (hr : r ∈ l) : OkRung i q m r := by
  obtain ⟨n, hn, rfl⟩ := List.getElem_of_mem hr
  have := h.rg n (by omega) (by omega)
  unfold rgAt at this
  have e : rdR l (n : Int) = l[n] := by simp [PPrinterRoundTrip.rd_T53, List.getD, hn]
  rw [e] at this
  exact rungE_ok this
theorem sW_ok {i q m : Int} (hz : chkSize i q m 0 = 0) : (∀ w ∈ sW i q m, okW w = true) ∧ lineText (sizeLine i q m) = joinL (sW i q m) ++ [10] := by
  have hs := size_le hz
  have h1 := (itoa_ok hs.1.1).2
  have h2 := (itoa_ok hs.2.1.1).2
  have h3 := (itoa_ok hs.2.2.1).2
  refine ⟨fun w hw => ?_, line4 h1 h2 h3⟩
  unfold sW at hw
  simp only [List.mem_cons, List.not_mem_nil, or_false] at hw
  rcases hw with rfl | rfl | rfl | rfl
  · decide
  · exact h1
  · exact h2
  · exact h3
theorem flat_rungs {i q m : Int} (hz : chkSize i q m 0 = 0) : ∀ l : List Rung, (∀ r ∈ l, OkRung i q m r) → (l.map rungText).flatten = unl ((l.flatMap rW).map joinL)
  | [], _ => rfl
  | r :: l, h => by
    rw [List.map_cons, List.flatten_cons, (rW_ok hz (h r List.mem_cons_self)).2, flat_rungs hz l (fun x hx => h x (List.mem_cons_of_mem _ hx)), List.flatMap_cons, List.map_append, unl_append]
theorem lad_lines {i q m : Int} {l : List Rung} (h : OkLad i q m l) : (∀ p ∈ lW i q m l, ∀ w ∈ p, okW w = true) ∧ ladText i q m l = unl ((lW i q m l).map joinL) := by
  refine ⟨fun p hp => ?_, ?_⟩
  · unfold lW at hp
    rcases List.mem_cons.1 hp with rfl | hp
    · exact (sW_ok h.sz).1
    · obtain ⟨r, hr, hp⟩ := List.mem_flatMap.1 hp
      exact (rW_ok h.sz (h.rungs hr)).1 p hp
  · unfold ladText lW
    rw [flatUp_all, (sW_ok h.sz).2, flat_rungs h.sz l (fun r hr => h.rungs hr), List.map_cons, unl_cons]
theorem bytes_back (x : ByteArray) : (⟨x.data.toList.toArray⟩ : ByteArray) = x := by cases x; simp
theorem wds_c4 {i q m : Int} {c : Con} (hz : chkSize i q m 0 = 0) (h : OkCon i q m c) : wds (joinL (cW c)) = [kwC.getD c.f0.toNat ⟨#[]⟩, addrFmt c.f1.f0 c.f1.f1, c.f2, c.f3] := by
  rw [wds_join (cW_ok hz h).1]
  simp only [cW, List.map_cons, List.map_nil, bytes_back]
theorem wds_o2 {i q m : Int} {c : Coil} (hz : chkSize i q m 0 = 0) (h : OkCoil i q m c) : wds (joinL (oW c)) = [kwO.getD c.f0.toNat ⟨#[]⟩, addrFmt c.f1.f0 c.f1.f1] := by
  rw [wds_join (oW_ok hz h).1]
  simp only [oW, List.map_cons, List.map_nil, bytes_back]
theorem adr_fmt {i q m s n : Int} (hz : chkSize i q m 0 = 0) (h : chkAddr i q m s n = 0) : addrParse (addrFmt s n).data.toList = (s, n, 0) ∧ adrE i q m (addrFmt s n).data.toList = 0 := by
  have ha := addr_in hz h
  have e := parse_fmt s n (by omega)
  refine ⟨e, ?_⟩
  unfold adrE
  rw [e]
  dsimp only
  rw [if_pos rfl, h]
theorem run_cons {i q m : Int} (hz : chkSize i q m 0 = 0) (rest : List (List UInt8)) (l0 : List Rung) (lab : ByteArray) (ls js : List Int) : ∀ (cs c0 : List Con) (n : Int), c0.length + cs.length ≤ 256 → (∀ c ∈ cs, OkCon i q m c) →
    runP ⟨i, q, m, true, l0 ++ [⟨lab, c0, [], ⟨#[]⟩⟩], ls, js⟩ n ((cs.map fun c => joinL (cW c)) ++ rest) = runP ⟨i, q, m, true, l0 ++ [⟨lab, c0 ++ cs, [], ⟨#[]⟩⟩], ls, js⟩ (n + cs.length) rest
  | [], c0, n, _, _ => by simp
  | c :: cs, c0, n, hn, h => by
    have hc := h c List.mem_cons_self
    rw [List.length_cons] at hn
    have ha := adr_fmt hz hc.a
    have hk := kw_con hc.k0 hc.k1
    rw [List.map_cons, List.cons_append, runP_ok (wds_c4 hz hc) (by simp) (line_conG (l := l0) (x := ⟨lab, c0, [], ⟨#[]⟩⟩) n hk.1 rfl rfl rfl isE0 (by show c0.length < 256; omega) ha.2 hc.n2 hc.n3)]
    rw [ha.1, hk.2.1]
    dsimp only
    have e : (⟨c.f0, ⟨c.f1.f0, c.f1.f1⟩, c.f2, c.f3⟩ : Con) = c := rfl
    rw [e, run_cons hz rest l0 lab ls js cs (c0 ++ [c]) (n + 1) (by rw [List.length_append, List.length_singleton]; omega) (fun x hx => h x (List.mem_cons_of_mem _ hx))]
    rw [List.append_assoc, List.singleton_append, List.length_cons]
    congr 1
    push_cast
    omega
theorem run_coils {i q m : Int} (hz : chkSize i q m 0 = 0) (rest : List (List UInt8)) (l0 : List Rung) (lab : ByteArray) (f1 : List Con) (ls js : List Int) : ∀ (cs c0 : List Coil) (n : Int), c0.length + cs.length ≤ 16 → (∀ c ∈ cs, OkCoil i q m c) →
    runP ⟨i, q, m, true, l0 ++ [⟨lab, f1, c0, ⟨#[]⟩⟩], ls, js⟩ n ((cs.map fun c => joinL (oW c)) ++ rest) = runP ⟨i, q, m, true, l0 ++ [⟨lab, f1, c0 ++ cs, ⟨#[]⟩⟩], ls, js⟩ (n + cs.length) rest
  | [], c0, n, _, _ => by simp
  | c :: cs, c0, n, hn, h => by
    have hc := h c List.mem_cons_self
    rw [List.length_cons] at hn
    have ha := adr_fmt hz hc.a
    have hk := kw_coil hc.k0 hc.k1
    rw [List.map_cons, List.cons_append, runP_ok (wds_o2 hz hc) (by simp) (line_coilG (l := l0) (x := ⟨lab, f1, c0, ⟨#[]⟩⟩) n hk.1 rfl rfl isE0 (by show c0.length < 16; omega) ha.2 (by rw [ha.1]; exact hc.s))]
    rw [ha.1, hk.2.1]
    dsimp only
    have e : (⟨c.f0, ⟨c.f1.f0, c.f1.f1⟩⟩ : Coil) = c := rfl
    rw [e, run_coils hz rest l0 lab f1 ls js cs (c0 ++ [c]) (n + 1) (by rw [List.length_append, List.length_singleton]; omega) (fun x hx => h x (List.mem_cons_of_mem _ hx))]
    rw [List.append_assoc, List.singleton_append, List.length_cons]
    congr 1
    push_cast
    omega
theorem empty_of {x : ByteArray} (h : x.toList.isEmpty = true) : x = ⟨#[]⟩ := by
  rw [isE] at h
  have : x.data.toList = [] := by simpa using h
  rw [← bytes_back x, this]
theorem run_rung {i q m : Int} (hz : chkSize i q m 0 = 0) {l0 : List Rung} {r : Rung} (hr : OkRung i q m r) (hl : labE l0 r.f0 = 0) (hn : l0.length < 64) (rest : List (List UInt8)) (ls js : List Int) (hjs : js.length = l0.length) (n : Int) :
    ∃ (n' : Int) (x : Int), runP ⟨i, q, m, true, l0, ls, js⟩ n ((rW r).map joinL ++ rest) = runP ⟨i, q, m, true, l0 ++ [r], ls ++ [n], js ++ [x]⟩ n' rest := by
  have h1 : runP ⟨i, q, m, true, l0, ls, js⟩ n ((rW r).map joinL ++ rest) = runP ⟨i, q, m, true, l0 ++ [newR r.f0], ls ++ [n], js ++ [0]⟩ (n + 1) ((r.f1.map fun c => joinL (cW c)) ++ ((r.f2.map fun c => joinL (oW c)) ++ ((jW r).map joinL ++ rest))) := by
    have e : (rW r).map joinL ++ rest = joinL (gW r) :: ((r.f1.map fun c => joinL (cW c)) ++ ((r.f2.map fun c => joinL (oW c)) ++ ((jW r).map joinL ++ rest))) := by
      unfold rW
      rw [List.map_cons, List.map_append, List.map_append, List.map_map, List.map_map]
      simp only [List.append_assoc, List.cons_append]
      rfl
    rw [e]
    cases he : r.f0.toList.isEmpty with
    | true =>
      have hw : wds (joinL (gW r)) = wRung := by
        rw [wds_join (gW_ok hr).1]
        simp only [gW, he, if_true, List.map_cons, List.map_nil, wRung]
      rw [runP_ok hw (by decide) (line_rung n rfl hn), empty_of he]
    | false =>
      have hw : wds (joinL (gW r)) = wRungL r.f0 := by
        rw [wds_join (gW_ok hr).1]
        simp only [gW, he, Bool.false_eq_true, if_false, List.map_cons, List.map_nil, wRungL, bytes_back]
      have hlab := labE_ok hl
      rw [he] at hlab
      rw [runP_ok hw (by simp [wRungL]) (line_rungL n r.f0 rfl hn (hlab.resolve_left (by simp)).1 (hlab.resolve_left (by simp)).2)]
  rw [h1]
  have h2 := run_cons hz ((r.f2.map fun c => joinL (oW c)) ++ ((jW r).map joinL ++ rest)) l0 r.f0 (ls ++ [n]) (js ++ [0]) r.f1 [] (n + 1) (by have := hr.n1; simpa using this) hr.cs
  rw [show (⟨r.f0, [], [], ⟨#[]⟩⟩ : Rung) = newR r.f0 from rfl] at h2
  rw [h2]
  have h3 := run_coils hz ((jW r).map joinL ++ rest) l0 r.f0 r.f1 (ls ++ [n]) (js ++ [0]) r.f2 [] (n + 1 + r.f1.length) (by have := hr.n2; simpa using this) hr.os
  rw [List.nil_append, h3, List.nil_append]
  cases he : r.f3.toList.isEmpty with
  | true =>
    refine ⟨n + 1 + r.f1.length + r.f2.length, 0, ?_⟩
    have : jW r = [] := by unfold jW; rw [he]; rfl
    rw [this, List.map_nil, List.nil_append]
    have e3 : (⟨r.f0, r.f1, r.f2, ⟨#[]⟩⟩ : Rung) = r := by rw [← empty_of he]
    rw [e3]
  | false =>
    have hnm := nm_ne hr.jmp he
    have e : jW r = [[[106, 117, 109, 112], r.f3.data.toList]] := by unfold jW; rw [he]; rfl
    have hw : wds (joinL [[106, 117, 109, 112], r.f3.data.toList]) = wJump r.f3 := by
      rw [wds_join (fun w hw => (jW_ok hr).1 [[106, 117, 109, 112], r.f3.data.toList] (by rw [e]; exact List.mem_singleton.2 rfl) w hw)]
      simp only [List.map_cons, List.map_nil, bytes_back, wJump]
    refine ⟨n + 1 + r.f1.length + r.f2.length + 1, n + 1 + r.f1.length + r.f2.length, ?_⟩
    rw [e, List.map_cons, List.map_nil, List.cons_append, List.nil_append, runP_ok hw (by simp [wJump]) (line_jump (l := l0) (x := ⟨r.f0, r.f1, r.f2, ⟨#[]⟩⟩) _ r.f3 rfl rfl isE0 hnm)]
    dsimp only
    rw [← hjs, List.set_append_right _ _ (Nat.le_refl _), Nat.sub_self]
    rfl
theorem run_rungs {i q m : Int} (hz : chkSize i q m 0 = 0) (rest : List (List UInt8)) : ∀ (l l0 : List Rung) (ls js : List Int) (n : Int), l0.length + l.length ≤ 64 → js.length = l0.length → ls.length = l0.length → (∀ r ∈ l, OkRung i q m r) → (∀ k, k < l.length → labE (l0 ++ l.take k) (rdR l (k : Int)).f0 = 0) →
    ∃ (n' : Int) (ls' js' : List Int), ls'.length = l0.length + l.length ∧ runP ⟨i, q, m, true, l0, ls, js⟩ n ((l.flatMap rW).map joinL ++ rest) = runP ⟨i, q, m, true, l0 ++ l, ls', js'⟩ n' rest
  | [], l0, ls, js, n, _, _, hls, _, _ => ⟨n, ls, js, by simpa using hls, by simp⟩
  | r :: l, l0, ls, js, n, hn, hjs, hls, h, hl => by
    rw [List.length_cons] at hn
    have hl0 := hl 0 (by rw [List.length_cons]; omega)
    rw [List.take_zero, List.append_nil] at hl0
    have e0 : (rdR (r :: l) ((0 : Nat) : Int)) = r := by simp [PPrinterRoundTrip.rd_T53, List.getD]
    rw [e0] at hl0
    rw [List.flatMap_cons, List.map_append, List.append_assoc]
    obtain ⟨n1, x, e1⟩ := run_rung hz (h r List.mem_cons_self) hl0 (by omega) ((l.flatMap rW).map joinL ++ rest) ls js hjs n
    obtain ⟨n2, ls', js', hlen, e2⟩ := run_rungs hz rest l (l0 ++ [r]) (ls ++ [n]) (js ++ [x]) n1 (by rw [List.length_append, List.length_singleton]; omega) (by rw [List.length_append, List.length_append, hjs]; rfl) (by rw [List.length_append, List.length_append, hls]; rfl)
      (fun y hy => h y (List.mem_cons_of_mem _ hy)) (fun k hk => by
        have := hl (k + 1) (by rw [List.length_cons]; omega)
        rw [List.take_succ_cons] at this
        have e3 : rdR (r :: l) ((k + 1 : Nat) : Int) = rdR l (k : Int) := by
          have : ((k : Int) + 1).toNat = k + 1 := by omega
          simp [PPrinterRoundTrip.rd_T53, List.getD, this]
        rw [e3] at this
        rw [List.append_assoc, List.singleton_append]
        exact this)
    refine ⟨n2, ls', js', by rw [hlen, List.length_append, List.length_singleton, List.length_cons]; omega, ?_⟩
    rw [e1, e2, List.append_assoc, List.singleton_append]
theorem parse_print {i q m : Int} {l : List Rung} (h : OkLad i q m l) : ∃ ls js, ls.length = l.length ∧ parseL (spl (ladText i q m l)) = (⟨i, q, m, true, l, ls, js⟩, 0, 0) := by
  obtain ⟨hw, ht⟩ := lad_lines h
  have e : spl (ladText i q m l) = (lW i q m l).map joinL ++ [[]] := by
    rw [ht, ← List.append_nil (unl _), spl_unl [] _ (fun p hp => by
      obtain ⟨ws, hws, rfl⟩ := List.mem_map.1 hp
      exact no10_join (hw ws hws))]
    rfl
  rw [e, parseL_run (fun p hp => by
    rcases List.mem_append.1 hp with hp | hp
    · obtain ⟨ws, hws, rfl⟩ := List.mem_map.1 hp
      exact plain_join (hw ws hws)
    · obtain rfl := List.mem_singleton.1 hp; decide)]
  have hs := size_le h.sz
  have hnum : ∀ x : Int, 0 ≤ x ∧ x ≤ 256 → numParse (itoaS x).data.toList 256 = (x, 0) := fun x hx => by
    rw [(itoa_ok hx.1).1, dec_num, if_pos (by omega), show ((x.toNat : Nat) : Int) = x by omega]
  have hz : wds (joinL (sW i q m)) = [⟨#[115, 105, 122, 101]⟩, itoaS i, itoaS q, itoaS m] := by
    rw [wds_join (sW_ok h.sz).1]
    simp only [sW, List.map_cons, List.map_nil, bytes_back]
  obtain ⟨n', ls, js, hlen, hr⟩ := run_rungs h.sz [[]] l [] [] [] 2 (by have := h.n; simpa using this) rfl rfl (fun r hr => h.rungs hr) (fun k hk => by
    have := h.rg k (by omega) (by omega)
    unfold rgAt at this
    exact (orE_both this).1)
  have hrun : runP S0 1 ((lW i q m l).map joinL ++ [[]]) = (⟨i, q, m, true, l, ls, js⟩, 0, 0) := by
    unfold lW
    rw [List.map_cons, List.cons_append, runP_ok hz (by simp) (line_sizeG 1 (hnum i hs.1) (hnum q hs.2.1) (hnum m hs.2.2)), show (1 : Int) + 1 = 2 from rfl, hr, runP_end, List.nil_append]
  rw [hrun, if_pos rfl]
  dsimp only
  refine ⟨ls, js, by simpa using hlen, ?_⟩
  unfold endS
  rw [if_neg (by simp), firstN_none (fun k hk => h.jb k (by omega) (by show (k : Int) < l.length; exact Int.ofNat_lt.2 hk))]
end Go.Proofs.YtolmkdhgnganaaaGreatDoor.H
namespace Go.Proofs.YtolmkdhgnganaaaGreatDoor.H
open Go Go.RowKit Go.Proofs Go.Proofs.YtolmkdhgnganaaaGreatDoorW.PrintWords Go.Proofs.YtolmkdhgnganaaaGreatDoor.Sp
theorem rungE_iff {i q m : Int} {a : List Rung} {r : Rung} : rungE i q m a r = 0 ↔ labE a r.f0 = 0 ∧ r.f1.length ≤ 256 ∧ (∀ c ∈ r.f1, conE i q m c = 0) ∧ r.f2.length ≤ 16 ∧ (∀ c ∈ r.f2, coilE i q m c = 0) ∧ nameE r.f3 = 0 := by
  constructor
  · intro h
    obtain ⟨h1, h⟩ := orE_both h
    obtain ⟨h2, h⟩ := orE_both h
    obtain ⟨h3, h⟩ := orE_both h
    obtain ⟨h4, h⟩ := orE_both h
    obtain ⟨h5, h6⟩ := orE_both h
    refine ⟨h1, ?_, firstE_all h3, ?_, firstE_all h5, h6⟩
    · split at h2
      · cases h2
      · omega
    · split at h4
      · cases h4
      · omega
  · rintro ⟨h1, h2, h3, h4, h5, h6⟩
    unfold rungE
    rw [h1, orE_zero, if_neg (by omega), orE_zero, firstE_zero h3, orE_zero, if_neg (by omega), orE_zero, firstE_zero h5, orE_zero, h6]
def okAll (i q m : Int) (l : List Rung) : Prop := ∀ k, k < l.length → rungE i q m (l.take k) (rdR l (k : Int)) = 0
theorem rdR_at (l : List Rung) (k : Nat) : rdR l (k : Int) = l[k]?.getD PPrinterRoundTrip.z53 := by
  simp [PPrinterRoundTrip.rd_T53, List.getD]
theorem okAll_snoc {i q m : Int} {l : List Rung} {x : Rung} : okAll i q m (l ++ [x]) ↔ okAll i q m l ∧ rungE i q m l x = 0 := by
  have e : ∀ k, k < l.length → rungE i q m ((l ++ [x]).take k) (rdR (l ++ [x]) (k : Int)) = rungE i q m (l.take k) (rdR l (k : Int)) := fun k hk => by
    rw [List.take_append_of_le_length (by omega), rdR_at, rdR_at, List.getElem?_append_left hk]
  have e2 : rungE i q m ((l ++ [x]).take l.length) (rdR (l ++ [x]) (l.length : Int)) = rungE i q m l x := by
    rw [List.take_left', rdR_at, List.getElem?_append_right (Nat.le_refl _)]
    · simp
    · rfl
  constructor
  · intro h
    refine ⟨fun k hk => ?_, ?_⟩
    · rw [← e k hk]
      exact h k (by rw [List.length_append]; omega)
    · rw [← e2]
      exact h _ (by rw [List.length_append, List.length_singleton]; omega)
  · rintro ⟨h1, h2⟩ k hk
    rw [List.length_append, List.length_singleton] at hk
    by_cases hk2 : k < l.length
    · rw [e k hk2]; exact h1 k hk2
    · obtain rfl : k = l.length := by omega
      rw [e2]; exact h2
/-- The length of the rungs' texts. -/
def rl (l : List Rung) : Nat := ((l.map rungText).flatten).length
theorem rl_snoc (l : List Rung) (x : Rung) : rl (l ++ [x]) = rl l + (rungText x).length := by
  unfold rl
  rw [List.map_append, List.flatten_append, List.length_append]
  simp
def cost (ws : List ByteArray) : Nat := (ws.map fun w => w.size + 1).sum
structure Inv (S : PSt) (c : Nat) : Prop where
  us : S.sized = false → S.rungs = []
  sz : S.sized = true → chkSize S.i S.q S.m 0 = 0
  n : S.rungs.length ≤ 64
  ok : okAll S.i S.q S.m S.rungs
  l : rl S.rungs ≤ 2 * c
theorem lin4 (a b c d : ByteArray) : (lineText [a, b, c, d]).length ≤ cost [a, b, c, d] := by
  have e : ∀ x : ByteArray, x.data.size = x.size := fun _ => rfl
  simp only [lineText, upTo, wordAt, List.range_succ, List.getD, cost, List.length_append, List.length_cons, List.length_nil, List.map_cons, List.map_nil, List.sum_cons, List.sum_nil, List.flatten_cons, List.flatten_nil, List.range_zero, List.nil_append, List.cons_append, List.map_append, List.flatten_append, List.getElem?_cons_zero, List.getElem?_cons_succ, Option.getD_some, Array.length_toList, e, true_or, if_true, Nat.succ_ne_zero, Nat.add_eq_zero_iff, Nat.one_ne_zero, and_false, false_or]
  (repeat' split) <;> simp only [List.length_nil, List.length_cons] <;> omega
theorem lin2 (a b : ByteArray) : (lineText [a, b]).length ≤ cost [a, b] := by
  have e : ∀ x : ByteArray, x.data.size = x.size := fun _ => rfl
  simp only [lineText, upTo, wordAt, List.range_succ, List.getD, cost, List.length_append, List.length_cons, List.length_nil, List.map_cons, List.map_nil, List.sum_cons, List.sum_nil, List.flatten_cons, List.flatten_nil, List.range_zero, List.nil_append, List.cons_append, List.map_append, List.flatten_append, List.getElem?_cons_zero, List.getElem?_cons_succ, Option.getD_some, Array.length_toList, e, true_or, if_true, Nat.succ_ne_zero, Nat.add_eq_zero_iff, Nat.one_ne_zero, and_false, false_or]
  (repeat' split) <;> simp only [List.length_nil, List.length_cons] <;> omega
theorem len4 {ws : List ByteArray} (h : ws.length = 4) : ws = [ws.getD 0 ⟨#[]⟩, ws.getD 1 ⟨#[]⟩, ws.getD 2 ⟨#[]⟩, ws.getD 3 ⟨#[]⟩] := by
  match ws, h with
  | [a, b, c, d], _ => rfl
theorem len2 {ws : List ByteArray} (h : ws.length = 2) : ws = [ws.getD 0 ⟨#[]⟩, ws.getD 1 ⟨#[]⟩] := by
  match ws, h with
  | [a, b], _ => rfl
theorem beq_bytes {x y : ByteArray} (h : (x == y) = true) : x = y := by
  cases x with
  | mk a =>
    cases y with
    | mk b =>
      have h2 : (a == b) = true := h
      rw [eq_of_beq h2]
theorem kind_con {x : ByteArray} (h : kindOf x = some 3) : ∃ k : Int, 0 ≤ k ∧ k < 4 ∧ x = kwC.getD k.toNat ⟨#[]⟩ := by
  unfold kindOf at h
  split at h
  · cases h
  split at h
  · cases h
  split at h
  · cases h
  split at h
  · rename_i e; exact ⟨0, by omega, by omega, beq_bytes e⟩
  split at h
  · rename_i e; exact ⟨1, by omega, by omega, beq_bytes e⟩
  split at h
  · rename_i e; exact ⟨2, by omega, by omega, beq_bytes e⟩
  split at h
  · rename_i e; exact ⟨3, by omega, by omega, beq_bytes e⟩
  repeat' (split at h)
  all_goals cases h
theorem kind_coil {x : ByteArray} (h : kindOf x = some 4) : ∃ k : Int, 0 ≤ k ∧ k < 4 ∧ x = kwO.getD k.toNat ⟨#[]⟩ := by
  unfold kindOf at h
  split at h
  · cases h
  split at h
  · cases h
  split at h
  · cases h
  split at h
  · cases h
  split at h
  · cases h
  split at h
  · cases h
  split at h
  · cases h
  split at h
  · rename_i e; exact ⟨0, by omega, by omega, beq_bytes e⟩
  split at h
  · rename_i e; exact ⟨1, by omega, by omega, beq_bytes e⟩
  split at h
  · rename_i e; exact ⟨2, by omega, by omega, beq_bytes e⟩
  split at h
  · rename_i e; exact ⟨3, by omega, by omega, beq_bytes e⟩
  cases h
theorem adrE_zero {i q m : Int} {t : List UInt8} (h : adrE i q m t = 0) : (addrParse t).2.2 = 0 ∧ chkAddr i q m (addrParse t).1 (addrParse t).2.1 = 0 := by
  unfold adrE at h
  split at h
  · rename_i h0; exact ⟨h0, h⟩
  · rename_i h0; exact absurd h h0
theorem last_split {S : PSt} (h : S.rungs.length ≠ 0) : ∃ l x, S.rungs = l ++ [x] ∧ lastR S = x := by
  have hne : S.rungs ≠ [] := by rintro e; rw [e] at h; exact h rfl
  refine ⟨S.rungs.dropLast, S.rungs.getLast hne, (List.dropLast_concat_getLast hne).symm, ?_⟩
  exact lastR_append S _ _ (List.dropLast_concat_getLast hne).symm
theorem set_last {l : List Rung} {x y : Rung} : (l ++ [x]).set ((l ++ [x]).length - 1) y = l ++ [y] := by simp
theorem numP_zero {d : List UInt8} (h : (numParse d 256).2 = 0) : 0 ≤ (numParse d 256).1 ∧ (numParse d 256).1 ≤ 256 := by
  unfold numParse at h ⊢
  split at h
  · rename_i h1
    rw [if_pos h1]
    split at h
    · rename_i h2
      rw [if_pos h2]
      dsimp only
      omega
    · cases h
  · cases h
theorem sizeS_inv {S T : PSt} {ws : List ByteArray} {c : Nat} (hi : Inv S c) (h : sizeS S ws = (T, 0)) : Inv T c := by
  unfold sizeS at h
  split at h
  · cases h
  · rename_i hs
    have hs' : S.sized = false := by simpa using hs
    split at h
    · rename_i h0; rw [Prod.mk.injEq] at h; exact absurd h.2 h0
    · split at h
      · rename_i h0; rw [Prod.mk.injEq] at h; exact absurd h.2 h0
      · split at h
        · rename_i h0; rw [Prod.mk.injEq] at h; exact absurd h.2 h0
        · rename_i h0 h1 h2
          cases h
          have e := hi.us hs'
          refine ⟨fun h => (by cases h), fun _ => ?_, hi.n, ?_, hi.l⟩
          · have a0 := numP_zero (d := (ws.getD 1 ⟨#[]⟩).data.toList) (by simpa [nAt] using h0)
            have a1 := numP_zero (d := (ws.getD 2 ⟨#[]⟩).data.toList) (by simpa [nAt] using h1)
            have a2 := numP_zero (d := (ws.getD 3 ⟨#[]⟩).data.toList) (by simpa [nAt] using h2)
            unfold chkSize
            rw [if_pos]
            exact ⟨by omega, a0, a1, a2⟩
          · show okAll _ _ _ S.rungs
            rw [e]
            intro k hk
            cases hk
theorem lineText_rung (x : ByteArray) : (rungText (newR x)).length ≤ 6 + x.size := by
  have h := lin2 ⟨#[114, 117, 110, 103]⟩ x
  have e : rungText (newR x) = lineText [⟨#[114, 117, 110, 103]⟩, x] := by
    unfold rungText newR rungLine jumpText
    simp [flatUp]
  rw [e]
  refine Nat.le_trans h ?_
  simp only [cost, List.map_cons, List.map_nil, List.sum_cons, List.sum_nil]
  show 4 + 1 + (x.size + 1 + 0) ≤ _
  omega
theorem beginS_inv {S T : PSt} {n : Int} {ws : List ByteArray} {c : Nat} (hi : Inv S c) (hs : S.sized = true) (hc : 3 + (labOf ws).size ≤ cost ws) (hl : ¬ 1 < ws.length → labOf ws = ⟨#[]⟩) (h : beginS S n ws = (T, 0)) : Inv T (c + cost ws) := by
  unfold beginS at h
  split at h
  · cases h
  · rename_i h1
    split at h
    · cases h
    · rename_i h2
      unfold beginT at h
      split at h
      · cases h
      · rename_i h3
        cases h
        have hn := hi.n
        refine ⟨fun e => (by rw [hs] at e; cases e), hi.sz, ?_, ?_, ?_⟩
        · show (S.rungs ++ [newR (labOf ws)]).length ≤ 64
          rw [List.length_append, List.length_singleton]; omega
        · show okAll S.i S.q S.m (S.rungs ++ [newR (labOf ws)])
          rw [okAll_snoc, rungE_iff]
          refine ⟨hi.ok, ?_, Nat.zero_le _, fun x hx => (by cases hx), Nat.zero_le _, fun x hx => (by cases hx), (by show nameE ⟨#[]⟩ = 0; unfold nameE; rw [isE0]; rfl)⟩
          show labE S.rungs (labOf ws) = 0
          unfold labE
          by_cases hw : 1 < ws.length
          · have a1 : isNm (labOf ws).data.toList = true := by
              cases hb : isNm (labOf ws).data.toList with
              | true => rfl
              | false => exact absurd ⟨hw, hb⟩ h1
            have a2 : hasLab S.rungs (labOf ws) = false := by
              cases hb : hasLab S.rungs (labOf ws) with
              | false => rfl
              | true => exact absurd ⟨hw, hb⟩ h2
            rw [a1, a2]
            split <;> rfl
          · rw [hl hw, isE0]
            rfl
        · show rl (S.rungs ++ [newR (labOf ws)]) ≤ _
          rw [rl_snoc]
          have := lineText_rung (labOf ws)
          have := hi.l
          omega
theorem jumpS_inv {S T : PSt} {n : Int} {ws : List ByteArray} {c : Nat} (hi : Inv S c) (hs : S.sized = true) (h0 : S.rungs.length ≠ 0) (hk : ws.length = 2) (hw : (ws.getD 0 ⟨#[]⟩).size = 4) (h : jumpS S n ws = (T, 0)) : Inv T (c + cost ws) := by
  obtain ⟨l, x, e, hx⟩ := last_split h0
  unfold lastR at hx
  have hok := hi.ok
  have hrl := hi.l
  have hn := hi.n
  rw [e, okAll_snoc] at hok
  rw [e, rl_snoc] at hrl
  rw [e, List.length_append, List.length_singleton] at hn
  unfold jumpS at h
  rw [hx, e, set_last] at h
  split at h
  · cases h
  · rename_i h1
    split at h
    · cases h
    · rename_i h2
      cases h
      have h1' : x.f3.toList.isEmpty = true := by simpa using h1
      have h2' : isNm (ws.getD 1 ⟨#[]⟩).data.toList = true := by simpa using h2
      refine ⟨fun e => (by rw [hs] at e; cases e), hi.sz, ?_, ?_, ?_⟩
      · show (l ++ [_]).length ≤ 64
        rw [List.length_append, List.length_singleton]; exact hn
      · show okAll S.i S.q S.m (l ++ [_])
        rw [okAll_snoc]
        refine ⟨hok.1, ?_⟩
        have := rungE_iff.1 hok.2
        rw [rungE_iff]
        refine ⟨this.1, this.2.1, this.2.2.1, this.2.2.2.1, this.2.2.2.2.1, ?_⟩
        show nameE (ws.getD 1 ⟨#[]⟩) = 0
        unfold nameE
        rw [h2']
        split <;> rfl
      · show rl (l ++ [_]) ≤ _
        rw [rl_snoc]
        have e2 : (rungText ⟨x.f0, x.f1, x.f2, ws.getD 1 ⟨#[]⟩⟩).length ≤ (rungText x).length + cost ws := by
          have hj := lin2 ⟨#[106, 117, 109, 112]⟩ (ws.getD 1 ⟨#[]⟩)
          have hc : cost [⟨#[106, 117, 109, 112]⟩, ws.getD 1 ⟨#[]⟩] = cost ws := by
            rw [len2 hk]
            simp only [cost, List.map_cons, List.map_nil, List.sum_cons, List.sum_nil, hw]
            rfl
          unfold rungText jumpText jumpLine rungLine
          simp only [h1', if_true, List.append_nil, List.length_append]
          split
          · simp only [List.length_nil]; omega
          · rw [← hc]
            omega
        omega
theorem conS_inv {S T : PSt} {ws : List ByteArray} {c : Nat} (hi : Inv S c) (hs : S.sized = true) (h0 : S.rungs.length ≠ 0) (hk : ws.length = 4) (hw : kindOf (ws.getD 0 ⟨#[]⟩) = some 3) (h : conS S ws = (T, 0)) : Inv T (c + cost ws) := by
  obtain ⟨l, x, e, hx⟩ := last_split h0
  have hok := hi.ok
  have hrl := hi.l
  have hn := hi.n
  rw [e, okAll_snoc] at hok
  rw [e, rl_snoc] at hrl
  rw [e, List.length_append, List.length_singleton] at hn
  unfold conS at h
  rw [hx, e, set_last] at h
  split at h
  · cases h
  · rename_i h1
    split at h
    · cases h
    · rename_i h2
      split at h
      · rename_i h3; rw [Prod.mk.injEq] at h; exact absurd h.2 h3
      · rename_i h3
        split at h
        · cases h
        · rename_i h4
          cases h
          obtain ⟨k, k0, k1, ek⟩ := kind_con hw
          have hkw := kw_con k0 k1
          have h3' : adrE S.i S.q S.m (ws.getD 1 ⟨#[]⟩).data.toList = 0 := by simpa using h3
          obtain ⟨a1, a2⟩ := adrE_zero h3'
          have n2 : isNm (ws.getD 2 ⟨#[]⟩).data.toList = true := by
            cases hb : isNm (ws.getD 2 ⟨#[]⟩).data.toList with
            | true => rfl
            | false => exact absurd (.inl hb) h4
          have n3 : isNm (ws.getD 3 ⟨#[]⟩).data.toList = true := by
            cases hb : isNm (ws.getD 3 ⟨#[]⟩).data.toList with
            | true => rfl
            | false => exact absurd (.inr hb) h4
          have hix : kwIx kwC (ws.getD 0 ⟨#[]⟩) = k := by rw [ek]; exact hkw.2.1
          refine ⟨fun e => (by rw [hs] at e; cases e), hi.sz, ?_, ?_, ?_⟩
          · show (l ++ [_]).length ≤ 64
            rw [List.length_append, List.length_singleton]; exact hn
          · show okAll S.i S.q S.m (l ++ [_])
            rw [okAll_snoc]
            refine ⟨hok.1, ?_⟩
            have := rungE_iff.1 hok.2
            rw [rungE_iff]
            refine ⟨this.1, ?_, ?_, this.2.2.2.1, this.2.2.2.2.1, this.2.2.2.2.2⟩
            · show (x.f1 ++ [_]).length ≤ 256
              rw [List.length_append, List.length_singleton]
              have := this.2.1
              omega
            · intro y hy
              rcases List.mem_append.1 hy with hy | hy
              · exact this.2.2.1 y hy
              · obtain rfl := List.mem_singleton.1 hy
                unfold conE partE
                dsimp only
                rw [hix, if_neg (by omega), a2, orE_zero, n2, n3]
                rfl
          · show rl (l ++ [_]) ≤ _
            rw [rl_snoc]
            have e2 : (rungText ⟨x.f0, x.f1 ++ [⟨kwIx kwC (ws.getD 0 ⟨#[]⟩), ⟨(addrParse (ws.getD 1 ⟨#[]⟩).data.toList).1, (addrParse (ws.getD 1 ⟨#[]⟩).data.toList).2.1⟩, ws.getD 2 ⟨#[]⟩, ws.getD 3 ⟨#[]⟩⟩], x.f2, x.f3⟩).length ≤ (rungText x).length + cost ws := by
              have hj := lin4 (ws.getD 0 ⟨#[]⟩) (ws.getD 1 ⟨#[]⟩) (ws.getD 2 ⟨#[]⟩) (ws.getD 3 ⟨#[]⟩)
              rw [← len4 hk] at hj
              have hct : conText ⟨kwIx kwC (ws.getD 0 ⟨#[]⟩), ⟨(addrParse (ws.getD 1 ⟨#[]⟩).data.toList).1, (addrParse (ws.getD 1 ⟨#[]⟩).data.toList).2.1⟩, ws.getD 2 ⟨#[]⟩, ws.getD 3 ⟨#[]⟩⟩ = lineText ws := by
                unfold conText conLine
                dsimp only
                rw [hix, ← ek, fmt_parse _ a1, ← len4 hk]
              unfold rungText
              dsimp only
              rw [flatUp_all, flatUp_all, flatUp_all, List.map_append, List.flatten_append, List.map_cons, List.map_nil, List.flatten_cons, List.flatten_nil, List.append_nil, hct]
              unfold rungLine jumpText jumpLine
              simp only [List.length_append]
              omega
            omega
theorem coilS_inv {S T : PSt} {ws : List ByteArray} {c : Nat} (hi : Inv S c) (hs : S.sized = true) (h0 : S.rungs.length ≠ 0) (hk : ws.length = 2) (hw : kindOf (ws.getD 0 ⟨#[]⟩) = some 4) (h : coilS S ws = (T, 0)) : Inv T (c + cost ws) := by
  obtain ⟨l, x, e, hx⟩ := last_split h0
  have hok := hi.ok
  have hrl := hi.l
  have hn := hi.n
  rw [e, okAll_snoc] at hok
  rw [e, rl_snoc] at hrl
  rw [e, List.length_append, List.length_singleton] at hn
  unfold coilS at h
  rw [hx, e, set_last] at h
  split at h
  · cases h
  · rename_i h1
    split at h
    · cases h
    · rename_i h2
      split at h
      · rename_i h3; rw [Prod.mk.injEq] at h; exact absurd h.2 h3
      · rename_i h3
        split at h
        · cases h
        · rename_i h4
          cases h
          obtain ⟨k, k0, k1, ek⟩ := kind_coil hw
          have hkw := kw_coil k0 k1
          have h3' : adrE S.i S.q S.m (ws.getD 1 ⟨#[]⟩).data.toList = 0 := by simpa using h3
          obtain ⟨a1, a2⟩ := adrE_zero h3'
          have hix : kwIx kwO (ws.getD 0 ⟨#[]⟩) = k := by rw [ek]; exact hkw.2.1
          refine ⟨fun e => (by rw [hs] at e; cases e), hi.sz, ?_, ?_, ?_⟩
          · show (l ++ [_]).length ≤ 64
            rw [List.length_append, List.length_singleton]; exact hn
          · show okAll S.i S.q S.m (l ++ [_])
            rw [okAll_snoc]
            refine ⟨hok.1, ?_⟩
            have := rungE_iff.1 hok.2
            rw [rungE_iff]
            refine ⟨this.1, this.2.1, this.2.2.1, ?_, ?_, this.2.2.2.2.2⟩
            · show (x.f2 ++ [_]).length ≤ 16
              rw [List.length_append, List.length_singleton]
              have := this.2.2.2.1
              omega
            · intro y hy
              rcases List.mem_append.1 hy with hy | hy
              · exact this.2.2.2.2.1 y hy
              · obtain rfl := List.mem_singleton.1 hy
                unfold coilE partE
                dsimp only
                rw [hix, if_neg (by omega), a2, orE_zero, if_neg h4]
          · show rl (l ++ [_]) ≤ _
            rw [rl_snoc]
            have e2 : (rungText ⟨x.f0, x.f1, x.f2 ++ [⟨kwIx kwO (ws.getD 0 ⟨#[]⟩), ⟨(addrParse (ws.getD 1 ⟨#[]⟩).data.toList).1, (addrParse (ws.getD 1 ⟨#[]⟩).data.toList).2.1⟩⟩], x.f3⟩).length ≤ (rungText x).length + cost ws := by
              have hj := lin2 (ws.getD 0 ⟨#[]⟩) (ws.getD 1 ⟨#[]⟩)
              rw [← len2 hk] at hj
              have hct : coilText ⟨kwIx kwO (ws.getD 0 ⟨#[]⟩), ⟨(addrParse (ws.getD 1 ⟨#[]⟩).data.toList).1, (addrParse (ws.getD 1 ⟨#[]⟩).data.toList).2.1⟩⟩ = lineText ws := by
                unfold coilText coilLine
                dsimp only
                rw [hix, ← ek, fmt_parse _ a1, ← len2 hk]
              unfold rungText
              dsimp only
              rw [flatUp_all, flatUp_all, flatUp_all, List.map_append, List.flatten_append, List.map_cons, List.map_nil, List.flatten_cons, List.flatten_nil, List.append_nil, hct]
              unfold rungLine jumpText jumpLine
              simp only [List.length_append]
              omega
            omega
theorem Inv.more {S : PSt} {c d : Nat} (h : Inv S c) (hd : c ≤ d) : Inv S d := ⟨h.us, h.sz, h.n, h.ok, by have := h.l; omega⟩
theorem kind_one {x : ByteArray} (h : kindOf x = some 1) : x.size = 4 := by
  unfold kindOf at h
  split at h
  · cases h
  split at h
  · rename_i e; rw [beq_bytes e]; rfl
  repeat' (split at h)
  all_goals cases h
theorem kind_two {x : ByteArray} (h : kindOf x = some 2) : x.size = 4 := by
  unfold kindOf at h
  split at h
  · cases h
  split at h
  · cases h
  split at h
  · rename_i e; rw [beq_bytes e]; rfl
  repeat' (split at h)
  all_goals cases h
theorem not_or_len {S : PSt} (h : ¬ (S.sized = false ∨ S.rungs.length = 0)) : S.sized = true ∧ S.rungs.length ≠ 0 := by
  refine ⟨?_, fun e => h (.inr e)⟩
  cases hb : S.sized with
  | true => rfl
  | false => exact absurd (.inl hb) h
theorem lineS_inv {S T : PSt} {n : Int} {ws : List ByteArray} {c : Nat} (hi : Inv S c) (hw0 : 0 < ws.length) (h : lineS S n ws = (T, 0)) : Inv T (c + cost ws) := by
  unfold lineS at h
  split at h
  · cases h
  · split at h
    · cases h
    · exact (sizeS_inv hi h).more (by omega)
  · rename_i hk
    split at h
    · cases h
    · rename_i hlen
      split at h
      · cases h
      · rename_i hs
        have hs' : S.sized = true := by simpa using hs
        have k4 := kind_one hk
        refine beginS_inv hi hs' ?_ (fun hl => by unfold labOf; rw [if_neg hl]) h
        unfold labOf
        match ws, hw0, hlen, k4 with
        | [a], _, _, k4 =>
          have k4 : a.size = 4 := k4
          simp [cost]
          show 3 + 0 ≤ a.size + 1
          omega
        | [a, b], _, _, k4 =>
          have k4 : a.size = 4 := k4
          simp [cost]
          omega
        | a :: b :: d :: r, _, hlen, _ => exact absurd (by simp) hlen
  · rename_i hk
    split at h
    · cases h
    · rename_i hlen
      split at h
      · cases h
      · rename_i hs
        obtain ⟨h1, h2⟩ := not_or_len hs
        exact jumpS_inv hi h1 h2 (by simpa using hlen) (kind_two hk) h
  · rename_i hk
    split at h
    · cases h
    · rename_i hlen
      split at h
      · cases h
      · rename_i hs
        obtain ⟨h1, h2⟩ := not_or_len hs
        exact conS_inv hi h1 h2 (by simpa using hlen) hk h
  · rename_i x hx0 hx1 hx2 hx3 hk
    split at h
    · cases h
    · rename_i hlen
      split at h
      · cases h
      · rename_i hs
        obtain ⟨h1, h2⟩ := not_or_len hs
        have hx4 : kindOf (ws.getD 0 ⟨#[]⟩) = some 4 := by
          rcases kind_cases hk with rfl | rfl | rfl | rfl | rfl
          · exact absurd rfl hx0
          · exact absurd rfl hx1
          · exact absurd rfl hx2
          · exact absurd rfl hx3
          · exact hk
        exact coilS_inv hi h1 h2 (by simpa using hlen) hx4 h
def costs (l : List Ln) : Nat := (l.map fun x => cost x.ws).sum
theorem runS_inv : ∀ (l : List Ln) {S : PSt} {c : Nat}, Inv S c → (∀ x ∈ l, 0 < x.ws.length) → (runS S l).2.2 = 0 → Inv (runS S l).1 (c + costs l)
  | [], S, c, hi, _, _ => hi
  | x :: r, S, c, hi, hp, h => by
    rw [runS] at h ⊢
    by_cases h0 : (lineS S x.n x.ws).2 = 0
    · rw [if_pos h0] at h ⊢
      have h1 : lineS S x.n x.ws = ((lineS S x.n x.ws).1, 0) := by rw [← h0]
      have := runS_inv r (lineS_inv hi (hp x List.mem_cons_self) h1) (fun y hy => hp y (List.mem_cons_of_mem _ hy)) h
      refine this.more ?_
      unfold costs
      rw [List.map_cons, List.sum_cons]
      omega
    · rw [if_neg h0] at h
      exact absurd h h0
theorem fields_cost : ∀ (l cur : List UInt8), ((Lib.fieldsGo cur l).map fun w => w.length + 1).sum ≤ cur.length + l.length + 1
  | [], cur => by
    unfold Lib.fieldsGo
    split <;> simp
  | b :: l, cur => by
    unfold Lib.fieldsGo
    split
    · split
      · have := fields_cost l []
        simp only [List.length_nil, Nat.zero_add, List.length_cons] at this ⊢
        omega
      · have := fields_cost l []
        simp only [List.map_cons, List.sum_cons, List.length_nil, Nat.zero_add, List.length_cons] at this ⊢
        omega
    · have := fields_cost l (cur ++ [b])
      simp only [List.length_append, List.length_cons, List.length_nil] at this ⊢
      omega
theorem wds_cost (p : List UInt8) : cost (wds p) ≤ p.length + 1 := by
  unfold cost wds
  rw [List.map_map]
  have h := fields_cost (bareL p) []
  have e : ((fun w : ByteArray => w.size + 1) ∘ fun l : List UInt8 => (⟨l.toArray⟩ : ByteArray)) = fun w => w.length + 1 := by
    funext l
    show (l.toArray).size + 1 = _
    rw [List.size_toArray]
  rw [e]
  have h2 : (bareL p).length ≤ p.length := (List.takeWhile_prefix _).length_le
  unfold Lib.fields
  simp only [List.length_nil, Nat.zero_add] at h
  omega
theorem lines_cost : ∀ (ps : List (List UInt8)) (n : Int), costs (linesFrom n ps) ≤ (ps.map fun p => p.length + 1).sum
  | [], n => by simp [linesFrom, costs]
  | p :: r, n => by
    have ih := lines_cost r (n + 1)
    have hp := wds_cost p
    unfold costs at ih ⊢
    rw [linesFrom, List.map_append, List.sum_append, List.map_cons, List.sum_cons]
    split
    · simp only [List.map_nil, List.sum_nil]; omega
    · simp only [List.map_cons, List.map_nil, List.sum_cons, List.sum_nil]; omega
theorem spl_sum : ∀ l : List UInt8, ((spl l).map fun p => p.length + 1).sum = l.length + 1
  | [] => rfl
  | b :: l => by
    have ih := spl_sum l
    rw [spl, List.length_cons]
    split
    · rw [List.map_cons, List.sum_cons, ih]; simp; omega
    · cases h : spl l with
      | nil => exact absurd h (spl_ne l)
      | cons p r =>
        rw [h] at ih
        rw [hd, List.map_cons, List.sum_cons]
        rw [List.map_cons, List.sum_cons] at ih
        rw [List.length_cons]
        omega
theorem linesFrom_words : ∀ (ps : List (List UInt8)) (n : Int), ∀ x ∈ linesFrom n ps, 0 < x.ws.length
  | [], n, x, hx => by cases hx
  | p :: r, n, x, hx => by
    rw [linesFrom] at hx
    rcases List.mem_append.1 hx with hx | hx
    · split at hx
      · cases hx
      · rename_i hne
        obtain rfl := List.mem_singleton.1 hx
        rw [List.length_pos_iff]
        intro e
        have e : wds p = [] := e
        rw [e] at hne
        exact hne rfl
    · exact linesFrom_words r (n + 1) x hx
theorem parsed_ok {l : List UInt8} (h : (parseL (spl l)).2.2 = 0) : OkLad (parseL (spl l)).1.i (parseL (spl l)).1.q (parseL (spl l)).1.m (parseL (spl l)).1.rungs ∧
    (ladText (parseL (spl l)).1.i (parseL (spl l)).1.q (parseL (spl l)).1.m (parseL (spl l)).1.rungs).length ≤ 2 * (l.length + 1) + 40 := by
  unfold parseL at h ⊢
  cases hb : badFrom 1 (spl l) with
  | some n => rw [hb] at h; cases h
  | none =>
    rw [hb] at h
    dsimp only at h ⊢
    by_cases h0 : (runS S0 (linesFrom 1 (spl l))).2.2 = 0
    · rw [if_pos h0] at h ⊢
      have hI0 : Inv S0 0 := ⟨fun _ => rfl, fun e => (by cases e), Nat.zero_le _, fun k hk => (by cases hk), Nat.zero_le _⟩
      have hI := runS_inv _ hI0 (linesFrom_words (spl l) 1) h0
      have hc := lines_cost (spl l) 1
      rw [spl_sum] at hc
      generalize (runS S0 (linesFrom 1 (spl l))).1 = S at h hI ⊢
      have he : (endS S).1 = S := by
        unfold endS
        split
        · rfl
        · split <;> rfl
      rw [he]
      unfold endS at h
      split at h
      · cases h
      · rename_i hs
        have hs' : S.sized = true := by simpa using hs
        have hok : OkLad S.i S.q S.m S.rungs := by
          refine ⟨hI.sz hs', hI.n, fun k k0 k1 => ?_, fun k k0 k1 => ?_⟩
          · have := hI.ok k.toNat (by omega)
            rw [show ((k.toNat : Nat) : Int) = k by omega] at this
            exact this
          · split at h
            · cases h
            · rename_i hf
              have := firstN_not hf k.toNat (by omega)
              rw [show ((k.toNat : Nat) : Int) = k by omega] at this
              exact this
        refine ⟨hok, ?_⟩
        have hl := hI.l
        unfold ladText
        rw [flatUp_all, List.length_append]
        have hz := lin4 ⟨#[115, 105, 122, 101]⟩ (itoaS S.i) (itoaS S.q) (itoaS S.m)
        have hs := size_le hok.sz
        have l1 := itoa_len S.i.toNat (by omega)
        have l2 := itoa_len S.q.toNat (by omega)
        have l3 := itoa_len S.m.toNat (by omega)
        rw [show ((S.i.toNat : Nat) : Int) = S.i by omega] at l1
        rw [show ((S.q.toNat : Nat) : Int) = S.q by omega] at l2
        rw [show ((S.m.toNat : Nat) : Int) = S.m by omega] at l3
        have hcz : cost [⟨#[115, 105, 122, 101]⟩, itoaS S.i, itoaS S.q, itoaS S.m] ≤ 20 := by
          simp only [cost, List.map_cons, List.map_nil, List.sum_cons, List.sum_nil]
          show 4 + 1 + ((itoaS S.i).size + 1 + ((itoaS S.q).size + 1 + ((itoaS S.m).size + 1 + 0))) ≤ 20
          omega
        unfold sizeLine
        unfold rl at hl
        omega
    · rw [if_neg h0] at h
      exact absurd h h0
end Go.Proofs.YtolmkdhgnganaaaGreatDoor.H
namespace Go.Proofs.YtolmkdhgnganaaaGreatDoor.H
open Go Go.RowKit Go.Proofs Go.Proofs.YtolmkdhgnganaaaGreatDoorW.PrintWords Go.Proofs.YtolmkdhgnganaaaGreatDoorW.PrintLast Go.Proofs.YtolmkdhgnganaaaGreatDoorW.PrintMore Go.Proofs.YtolmkdhgnganaaaGreatDoor.Sp
/-- A line in memory. -/
theorem lnRow_at {w : World} {B n c : Nat} {A : Option Addr} {l : List Ln} (h : kLine.R 81 w B (fun _ => True) (.slice A n c) l) (k : Int) (h0 : 0 ≤ k) (h1 : k < n) (hp : 0 < (l.getD k.toNat zLn).ws.length) :
    ∃ g b wc, A = some ⟨g, 0, none⟩ ∧ w.cell? ⟨g, k.toNat * 2, none⟩ = some (.int .i64 (l.getD k.toNat zLn).n) ∧ w.cell? ⟨g, k.toNat * 2 + 1, none⟩ = some (.slice (some ⟨b, 0, none⟩) (l.getD k.toNat zLn).ws.length wc) ∧
      Kd.string.R 9 w B (fun _ => True) (.slice (some ⟨b, 0, none⟩) (l.getD k.toNat zLn).ws.length wc) (l.getD k.toNat zLn).ws := by
  have hn : n = l.length := (Kd.R_reads' h).1
  subst hn
  obtain ⟨g, cap, e, -, -, -⟩ := Kd.R_form h (by omega)
  cases e
  obtain ⟨cs, _, hM, hcc0, _⟩ := Kd.R_elem h zLn k h0 h1
  have hcc : ∀ j u, cs[j]? = some u → w.cell? ⟨g, k.toNat * 2 + j, none⟩ = some u := hcc0
  obtain ⟨_, _, rfl, rfl, ⟨v, rfl, hR⟩⟩ := hM
  have hR' := Kd.R_mono hR (ok' := fun _ => True) (fun _ _ => trivial)
  obtain ⟨b, wc, rfl, -, -, -⟩ := Kd.R_form hR' hp
  exact ⟨g, b, wc, rfl, hcc 0 _ rfl, hcc 1 _ rfl, hR'⟩
/-- What Parse answers. -/
def ParseR (s : ByteArray) (w : World) (e : Ending) (w' : World) : Prop :=
  Below w.heap.size w w' ∧
    (((parseP s).2.2 ≠ 0 ∧ e = .returned (.tuple #[.agg #[.int .i64 0, .int .i64 0, .int .i64 0, .slice none 0 0], .slice none 0 0, .int .i64 (parseP s).2.1, .int .i64 (parseP s).2.2])) ∨
     ((parseP s).2.2 = 0 ∧ ∃ vr vl, e = .returned (.tuple #[.agg #[.int .i64 (parseP s).1.i, .int .i64 (parseP s).1.q, .int .i64 (parseP s).1.m, vr], vl, .int .i64 0, .int .i64 0]) ∧
        Kd.S kRung 53 w' w.heap.size (fun _ => True) vr (parseP s).1.rungs ∧ (Kd.int .i64).R 3 w' w.heap.size (fun _ => True) vl (parseP s).1.lines ∧ (parseP s).1.lines.length = (parseP s).1.rungs.length ∧ (parseP s).1.rungs.length ≤ 64 ∧ Caps (parseP s).1))
theorem ParseR.bad {s : ByteArray} {w w' : World} {S : PSt} {n x : Int} (h : parseP s = (S, n, x)) (hx : x ≠ 0) (hb : Below w.heap.size w w') : ParseR s w (.returned (.tuple #[.agg #[.int .i64 0, .int .i64 0, .int .i64 0, .slice none 0 0], .slice none 0 0, .int .i64 n, .int .i64 x])) w' :=
  ⟨hb, .inl (by rw [h]; exact ⟨hx, rfl⟩)⟩
/-- What holds while Parse runs. -/
structure PzF (w : World) (gp gm : Nat) (S : PSt) (lns : List Ln) (A : Option Addr) (c : Nat) (wr : World) : Prop where
  b : Below w.heap.size w wr
  p : ∃ vr vl vj, PF w.heap.size gp S vr vl vj wr
  m : MapIs wr gm (tabW gp)
  r : wr.heap[w.heap.size]? = some (.cells #[.int .i64 0, .int .i64 0, .int .i64 0, .slice none 0 0] 24 (0, 0))
  l : kLine.R 81 wr w.heap.size (fun _ => True) (.slice A lns.length c) lns
section
variable {w wr w1 : World} {gp gm : Nat} {S : PSt} {lns : List Ln} {A : Option Addr} {c : Nat}
theorem PzF.below (h : PzF w gp gm S lns A c wr) (hb : Below wr.heap.size wr w1) : PzF w gp gm S lns A c w1 := by
  obtain ⟨vr, vl, vj, hp⟩ := h.p
  exact ⟨below_step h.b hb, ⟨vr, vl, vj, hp.below hb⟩, h.m.below hb, blk_below h.r hb, Kd.R_below h.l hb⟩
theorem PzF.step (h : PzF w gp gm S lns A c wr) {T : PSt} (hk : KP w.heap.size wr w1) (hp : ∃ vr vl vj, PF w.heap.size gp T vr vl vj w1) : PzF w gp gm T lns A c w1 :=
  ⟨h.b.trans hk.b, hp, h.m.kp hk, hk.blk h.r (by rfl), hk.lines h.l⟩
end
/-- While the jumps are looked at. -/
structure PeF (w : World) (gp : Nat) (S : PSt) (A : Option Addr) (c : Nat) (vl vj : Value) (wr : World) : Prop where
  b : Below w.heap.size w wr
  p : PF w.heap.size gp S (.slice A S.rungs.length c) vl vj wr
  r : wr.heap[w.heap.size]? = some (.cells #[.int .i64 0, .int .i64 0, .int .i64 0, .slice none 0 0] 24 (0, 0))
theorem PeF.below {w wr w1 : World} {gp : Nat} {S : PSt} {A : Option Addr} {c : Nat} {vl vj : Value} (h : PeF w gp S A c vl vj wr) (hb : Below wr.heap.size wr w1) : PeF w gp S A c vl vj w1 :=
  ⟨below_step h.b hb, h.p.below hb, blk_below h.r hb⟩
theorem run_drop {S : PSt} {lns : List Ln} {k : Int} (h0 : 0 ≤ k) (h1 : k < lns.length) : runS S (lns.drop k.toNat) = if (lineS S (lns.getD k.toNat zLn).n (lns.getD k.toNat zLn).ws).2 = 0 then runS (lineS S (lns.getD k.toNat zLn).n (lns.getD k.toNat zLn).ws).1 (lns.drop (k + 1).toNat) else (S, (lns.getD k.toNat zLn).n, (lineS S (lns.getD k.toNat zLn).n (lns.getD k.toNat zLn).ws).2) := by
  have hk : k.toNat < lns.length := by omega
  have e1 : (k + 1).toNat = k.toNat + 1 := by omega
  have e2 : lns.getD k.toNat zLn = lns[k.toNat] := by simp [List.getD, hk]
  rw [List.drop_eq_getElem_cons hk, e1, e2]
  rfl
/-- The ladder at g is stored. -/
abbrev set4 (w : World) (g : Nat) (a b c d : Value) : World := (((w.setCell ⟨g, 0, none⟩ a).setCell ⟨g, 1, none⟩ b).setCell ⟨g, 2, none⟩ c).setCell ⟨g, 3, none⟩ d
theorem set4_far {w : World} {g h j : Nat} {a b c d v : Value} (hn : h ≠ g) (hc : w.cell? ⟨h, j, none⟩ = some v) : (set4 w g a b c d).cell? ⟨h, j, none⟩ = some v := by
  have e : ∀ (w : World) (k : Nat) (u : Value), (w.setCell ⟨g, k, none⟩ u).cell? ⟨h, j, none⟩ = w.cell? ⟨h, j, none⟩ := fun w k u => World.cell?_of_block (Below.heap_setCell w ⟨g, k, none⟩ u h hn)
  rw [e, e, e, e]; exact hc
theorem set4_blk {w : World} {g t : Nat} {a0 b0 c0 d0 a b c d : Value} (h : w.heap[g]? = some (.cells #[a0, b0, c0, d0] t (0, 0))) : (set4 w g a b c d).heap[g]? = some (.cells #[a, b, c, d] t (0, 0)) := by
  have := blk_set (blk_set (blk_set (blk_set h 0 a) 1 b) 2 c) 3 d
  simpa using this
theorem set4_S {w : World} {g B : Nat} {ok : Nat → Prop} {v : Value} {xs : List Rung} {a0 b0 c0 d0 a b c d : Value} (hb : w.heap[g]? = some (.cells #[a0, b0, c0, d0] 24 (0, 0))) (h : Kd.S kRung 53 w B ok v xs) : Kd.S kRung 53 (set4 w g a b c d) B ok v xs := by
  have b1 := blk_set hb 0 a
  have b2 := blk_set b1 1 b
  have b3 := blk_set b2 2 c
  exact Kd.S_set (Kd.S_set (Kd.S_set (Kd.S_set h hb types_lad 0 a) b1 types_lad 1 b) b2 types_lad 2 c) b3 types_lad 3 d
theorem set4_R {w : World} {g B : Nat} {ok : Nat → Prop} {v : Value} {xs : List Int} {a0 b0 c0 d0 a b c d : Value} (hb : w.heap[g]? = some (.cells #[a0, b0, c0, d0] 24 (0, 0))) (h : (Kd.int .i64).R 3 w B ok v xs) : (Kd.int .i64).R 3 (set4 w g a b c d) B ok v xs := by
  have b1 := blk_set hb 0 a
  have b2 := blk_set b1 1 b
  have b3 := blk_set b2 2 c
  exact Kd.R_set (Kd.R_set (Kd.R_set (Kd.R_set h hb (by decide) 0 a) b1 (by decide) 1 b) b2 (by decide) 2 c) b3 (by decide) 3 d
theorem set4_below {W w : World} {g : Nat} {a b c d : Value} (h : Below W.heap.size W w) (hg : W.heap.size ≤ g) : Below W.heap.size W (set4 w g a b c d) := below_set (below_set (below_set (below_set h hg) hg) hg) hg
set_option maxHeartbeats 4000000 in
set_option maxRecDepth 100000 in
theorem parse_b (s : ByteArray) (w : World) (hL : Lets w) (hE : Errs w) (hK : Kws w) (hG : LexG w) : Calls Tryz.prog 11 #[.string s] w (ParseR s w) := by
  have HEnv := Aside0.mk (Env.mk (B := w.heap.size) (w := w) (fun W hW => hL.below hW) (fun W hW => hE.below hW) (fun W hW => hK.below hW))
  have HK := Aside0.mk hK
  have HG := Aside0.mk hG
  clear hL hE hK hG
  generalize hV : parseP s = V
  have HV := Aside0.mk hV
  clear hV
  have HB0 := Aside0.mk (below_alloc (Below.refl w.heap.size w) (.cells #[.int .i64 0, .int .i64 0, .int .i64 0, .slice none 0 0] 24))
  have K0 := Aside0.mk (blk_new w (.cells #[.int .i64 0, .int .i64 0, .int .i64 0, .slice none 0 0] 24))
  go_enter Tryz.func11, Tryz.ntmps11
  go_wp2_with fail
  generalize w.alloc (.cells #[.int .i64 0, .int .i64 0, .int .i64 0, .slice none 0 0] 24) = w1 at HB0 K0 ⊢
  by_cases hs : 65536 < s.size
  · refine (lines_long s w1 hs).mono ?_
    rintro e w2 ⟨rfl, hb⟩
    have hp : parseP s = (S0, 0, 7) := by rw [parseP, if_pos hs]
    have HP := Aside0.mk hp
    have HB := Aside0.mk (below_step HB0.out hb)
    have k2 := blk_below K0.out hb
    have r0 := blk_cell k2 0
    have r1 := blk_cell k2 1
    have r2 := blk_cell k2 2
    have r3 := blk_cell k2 3
    have f0 := blk_frozen k2 0
    have f1 := blk_frozen k2 1
    have f2 := blk_frozen k2 2
    have f3 := blk_frozen k2 3
    have K2 := Aside0.mk k2
    clear hp hb k2
    go_wp2
    have KZ : Aside0 (((((w2.setCell ⟨w.heap.size, 0, none⟩ (.int .i64 0)).setCell ⟨w.heap.size, 1, none⟩ (.int .i64 0)).setCell ⟨w.heap.size, 2, none⟩ (.int .i64 0)).setCell ⟨w.heap.size, 3, none⟩ (.slice none 0 0)).heap[w.heap.size]? = some (.cells #[.int .i64 0, .int .i64 0, .int .i64 0, .slice none 0 0] 24 (0, 0))) := ⟨set4_blk (K2.out)⟩
    have FB : Aside0 (Below w.heap.size w (((((w2.setCell ⟨w.heap.size, 0, none⟩ (.int .i64 0)).setCell ⟨w.heap.size, 1, none⟩ (.int .i64 0)).setCell ⟨w.heap.size, 2, none⟩ (.int .i64 0)).setCell ⟨w.heap.size, 3, none⟩ (.slice none 0 0)))) := ⟨set4_below (HB.out) (Nat.le_refl _)⟩
    generalize ((((w2.setCell ⟨w.heap.size, 0, none⟩ (.int .i64 0)).setCell ⟨w.heap.size, 1, none⟩ (.int .i64 0)).setCell ⟨w.heap.size, 2, none⟩ (.int .i64 0)).setCell ⟨w.heap.size, 3, none⟩ (.slice none 0 0)) = wz at KZ FB ⊢
    have z0 : wz.cell? ⟨w.heap.size, 0, none⟩ = some (.int .i64 0) := blk_cell KZ.out 0
    have z1 : wz.cell? ⟨w.heap.size, 1, none⟩ = some (.int .i64 0) := blk_cell KZ.out 1
    have z2 : wz.cell? ⟨w.heap.size, 2, none⟩ = some (.int .i64 0) := blk_cell KZ.out 2
    have z3 : wz.cell? ⟨w.heap.size, 3, none⟩ = some (.slice none 0 0) := blk_cell KZ.out 3
    refine bodyPost_ret (v := .tuple #[.agg #[.int .i64 0, .int .i64 0, .int .i64 0, .slice none 0 0], .slice none 0 0, .int .i64 0, .int .i64 7]) ?_ rfl (ParseR.bad HP.out (by decide) FB.out)
    simp [results, Tryz.f11, go_sem, z0, z1, z2, z3]
  · have hs' : s.size ≤ 65536 := by omega
    have HPP : Aside0 (parseP s = match badLine s with
      | some k => (S0, (k : Int) + 1, 6)
      | none => if (runS S0 (lnsOf (cnts s))).2.2 = 0 then endS (runS S0 (lnsOf (cnts s))).1 else runS S0 (lnsOf (cnts s))) := ⟨by rw [parseP, if_neg hs] <;> rfl⟩
    clear hs HV V
    refine (lines_b s w1 hs' (HG.out.below HB0.out)).mono ?_
    rintro e w2 ⟨hb, hr⟩
    have HB := Aside0.mk (below_step HB0.out hb)
    have K2 := Aside0.mk (blk_below K0.out hb)
    have hbs := HB0.out.size
    clear hb
    rcases hr with ⟨hpl, A, c, rfl, hl⟩ | ⟨k, hk, hpl, hbad, rfl⟩
    · have hbl : badLine s = none := firstN_none (fun j hj => by
        have := hpl (cntAt s j) (by unfold cnts upN; exact List.mem_map.2 ⟨j, List.mem_range.2 hj, rfl⟩)
        rw [this]; rfl)
      rw [hbl] at HPP
      dsimp only at HPP
      have HLn := Aside0.mk (fun x (hx : x ∈ lnsOf (cnts s)) => lns_ok hs' hx)
      have HL := Aside0.mk (Kd.R_lower hl hbs)
      have hlen : (lnsOf (cnts s)).length ≤ 65537 := Nat.le_trans (lnsOf_le _) (by unfold cnts; rw [upN_length]; exact pieces_le s hs')
      clear hl hpl hbl hs' hbs
      generalize lnsOf (cnts s) = lns at HPP HLn HL hlen ⊢
      have HB3 := Aside0.mk (below_alloc HB.out (.cells #[.int .i64 0, .int .i64 0, .int .i64 0, .slice none 0 0, .bool false, .slice none 0 0, .slice none 0 0] 77))
      have K3 := Aside0.mk (blk_alloc K2.out (.cells #[.int .i64 0, .int .i64 0, .int .i64 0, .slice none 0 0, .bool false, .slice none 0 0, .slice none 0 0] 77))
      have KP3 := Aside0.mk (blk_new w2 (.cells #[.int .i64 0, .int .i64 0, .int .i64 0, .slice none 0 0, .bool false, .slice none 0 0, .slice none 0 0] 77))
      have HL3 := Aside0.mk (Kd.R_alloc HL.out (.cells #[.int .i64 0, .int .i64 0, .int .i64 0, .slice none 0 0, .bool false, .slice none 0 0, .slice none 0 0] 77))
      have hgp : w.heap.size ≤ w2.heap.size := HB.out.size
      clear HB K2 HL
      go_wp2_with fail
      generalize w2.alloc (.cells #[.int .i64 0, .int .i64 0, .int .i64 0, .slice none 0 0, .bool false, .slice none 0 0, .slice none 0 0] 77) = w3 at HB3 K3 KP3 HL3 ⊢
      generalize w2.heap.size = gp at KP3 hgp ⊢
      refine (words_p gp w3 (HEnv.out.k _ HB3.out)).mono ?_
      rintro e w4 ⟨gm, rfl, hT⟩
      have HF0 : Aside0 (PzF w gp gm S0 lns A c w4) := ⟨⟨HB3.out.trans (hT.b.mono HB3.out.size), ⟨.slice none 0 0, .slice none 0 0, .slice none 0 0, ⟨hgp, by have := HB3.out.size; have := hT.b.size; omega, blk_below KP3.out hT.b, Kd.S_nil _ _ _ _ _, Kd.R_nil _ _ _ _ _, Kd.R_nil _ _ _ _ _, (fun k e => by cases e), rfl, rfl, Nat.zero_le _⟩⟩, hT.m, blk_below K3.out hT.b, Kd.R_below HL3.out hT.b⟩⟩
      have hgm : w.heap.size < gm := by have := hT.g; have := blk_lt KP3.out; omega
      clear HB3 K3 KP3 HL3 hT
      clear w3
      go_wp2
      go_loopw [33] (fun cv w' => ∃ k : Int, cv = .int .i64 k ∧ 0 ≤ k ∧ k ≤ lns.length ∧ ∃ S, ∃ wr : World, wr = w' ∧ Aside0 (PzF w gp gm S lns A c wr) ∧ Aside0 (Caps S) ∧ Aside0 (runS S0 lns = runS S (lns.drop k.toNat))) (fun cv _ => ((lns.length : Int) - intOf cv).toNat)
      case atStart => exact ⟨0, rfl, by omega, by omega, S0, _, rfl, HF0, ⟨fun r hr => by cases hr⟩, ⟨rfl⟩⟩
      case round =>
        clear HF0
        obtain ⟨k, rfl, k0, k1, S, wr, rfl, HF, HC, HR⟩ := hrel
        by_cases hk : k < lns.length
        · have hkn : k.toNat < lns.length := by omega
          have hmem : lns.getD k.toNat zLn ∈ lns := by
            have : lns.getD k.toNat zLn = lns[k.toNat] := by simp [List.getD, hkn]
            rw [this]; exact List.getElem_mem hkn
          obtain ⟨hw0, hwsz⟩ := HLn.out _ hmem
          have HSz := Aside0.mk hwsz
          obtain ⟨g, b, wc, rfl, x0, x1, hws⟩ := lnRow_at HF.out.l k k0 (by omega) hw0
          have HR2 := Aside0.mk (HR.out.trans (run_drop (S := S) k0 hk))
          clear hmem hwsz HR
          generalize lns.getD k.toNat zLn = x at *
          obtain ⟨n, ws⟩ := x
          dsimp only at *
          have hwr : wrap64 (k + 1) = k + 1 := w64 (by omega) (by omega)
          have HF5 := Aside0.mk (HF.out.below (below_alloc (Below.refl _ _) (.cells #[.int .i64 n, .slice (some ⟨b, 0, none⟩) ws.length wc] 81)))
          have K5 := Aside0.mk (blk_new wr (.cells #[.int .i64 n, .slice (some ⟨b, 0, none⟩) ws.length wc] 81))
          have HW5 := Aside0.mk (Kd.R_alloc hws (.cells #[.int .i64 n, .slice (some ⟨b, 0, none⟩) ws.length wc] 81))
          have hg5 : w.heap.size < wr.heap.size := blk_lt HF.out.r
          have n0 := blk_cell K5.out 0
          have n1 := blk_cell K5.out 1
          clear hws
          go_wp2_with fail
          clear x0 x1 n0 n1 HF
          generalize wr.alloc (.cells #[.int .i64 n, .slice (some ⟨b, 0, none⟩) ws.length wc] 81) = w5 at HF5 K5 HW5 ⊢
          generalize wr.heap.size = gx at K5 hg5 ⊢
          clear wr
          obtain ⟨vr, vl, vj, hpf⟩ := HF5.out.p
          refine (line_p hpf HF5.out.m n b ws.length wc ws HW5.out HSz.out hw0 HC.out (HEnv.out.step HF5.out.b)).mono ?_
          clear hpf
          rintro e w6 ⟨rfl, hkp, hp6⟩
          have K6 := Aside0.mk (hkp.blk K5.out (by rfl))
          have HCl := Aside0.mk (HC.out.line n ws)
          generalize hq : lineS S n ws = q at HR2 HCl hp6 ⊢
          clear hq
          obtain ⟨T, x⟩ := q
          dsimp only at *
          by_cases hx : x = 0
          · subst hx
            have HF6 := Aside0.mk (HF5.out.step hkp (hp6 rfl))
            have HR6 := Aside0.mk (HR2.out.trans (if_pos rfl))
            clear HF5 K5 HW5 K6 hkp hp6 HR2
            go_wp2
            go_roundw
            case rel => exact ⟨k + 1, by simp [hwr], by omega, by omega, T, _, rfl, HF6, HCl, HR6⟩
            case measure => simp [intOf, hwr]; omega
          · have HB6 := Aside0.mk (HF5.out.b.trans hkp.b)
            have KL6 := Aside0.mk (hkp.blk HF5.out.r (by rfl))
            have hP := HPP.out
            rw [HR2.out, if_neg hx] at hP
            dsimp only at hP
            rw [if_neg hx] at hP
            have HP := Aside0.mk hP
            clear HF5 K5 HW5 hkp hp6 HR2 hP
            have hxb : (x == 0) = false := beq_eq_false_iff_ne.2 hx
            have u0 := blk_cell K6.out 0
            have hn0 : gx ≠ w.heap.size := by omega
            have r0 := blk_cell KL6.out 0
            have r1 := blk_cell KL6.out 1
            have r2 := blk_cell KL6.out 2
            have r3 := blk_cell KL6.out 3
            have f0 := blk_frozen KL6.out 0
            have f1 := blk_frozen KL6.out 1
            have f2 := blk_frozen KL6.out 2
            have f3 := blk_frozen KL6.out 3
            go_wp2
            refine start_ (n := 8) (S := fun w' => w'.cell? ⟨gx, 0, none⟩ = some (.int .i64 n)) (ds := []) #[false, false, false, false, false, false, false, false] (by kernel_rfl) rfl rfl (u0) (fun hHeld => ?_)
            refine pure_ (i := 0) (N := some 43) (v := ?_) (a' := ?_) #[true, false, false, false, false, false, false, false] rfl rfl (by kernel_rfl) (fun _ _ _ h => h) (Or.inl ⟨by rfl, ?_⟩) ?_ ?_
            rotate_left
            · intro w'
              go_simp
              with_reducible rfl
            rotate_left
            · simp only [Act.put, List.setIfInBounds_toArray, List.set_cons_zero, List.set_cons_succ, i64_w, i32_w]
              rfl
            refine pure_ (i := 1) (N := some 44) (v := ?_) (a' := ?_) #[true, true, false, false, false, false, false, false] rfl rfl (by kernel_rfl) (fun _ _ _ h => h) (Or.inl ⟨by rfl, ?_⟩) ?_ ?_
            rotate_left
            · intro w'
              go_simp
              with_reducible rfl
            rotate_left
            · simp only [Act.put, List.setIfInBounds_toArray, List.set_cons_zero, List.set_cons_succ, i64_w, i32_w]
              rfl
            refine pure_ (i := 3) (N := some 46) (v := ?_) (a' := ?_) #[true, true, false, true, false, false, false, false] rfl rfl (by kernel_rfl) (fun _ _ _ h => h) (Or.inl ⟨by rfl, ?_⟩) ?_ ?_
            rotate_left
            · intro w'
              go_simp
              with_reducible rfl
            rotate_left
            · simp only [Act.put, List.setIfInBounds_toArray, List.set_cons_zero, List.set_cons_succ, i64_w, i32_w]
              rfl
            refine take_ (i := 2) (N := some 45) (v := ?_) (a' := ?_) #[true, true, true, true, false, false, false, false] rfl rfl (by kernel_rfl) (fun _ _ _ h => h) (Or.inl ⟨by rfl, ?_⟩) hHeld ?_ ?_
            rotate_left
            · intro w' s0
              go_simp
              with_reducible rfl
            rotate_left
            · simp only [Act.put, List.setIfInBounds_toArray, List.set_cons_zero, List.set_cons_succ, i64_w, i32_w]
              rfl
            refine one_ (i := 4) (N := none) #[true, true, true, true, true, false, false, false] rfl rfl (by kernel_rfl) (by decide) (fun K hK => ?_)
            refine skip_ (w1 := ?_) (by rfl) rfl ?_ ?_
            rotate_left
            · go_simp
              rfl
            refine hK.out _ _ ((set4_far hn0 u0)) (fun hHeld => ?_)
            clear hK K
            refine pure_ (i := 5) (N := some 3) (v := ?_) (a' := ?_) #[true, true, true, true, true, true, false, false] rfl rfl (by kernel_rfl) (fun _ _ _ h => h) (Or.inl ⟨by rfl, ?_⟩) ?_ ?_
            rotate_left
            · intro w'
              go_simp
              with_reducible rfl
            rotate_left
            · simp only [Act.put, List.setIfInBounds_toArray, List.set_cons_zero, List.set_cons_succ, i64_w, i32_w]
              rfl
            refine pure_ (i := 6) (N := some 4) (v := ?_) (a' := ?_) #[true, true, true, true, true, true, true, false] rfl rfl (by kernel_rfl) (fun _ _ _ h => h) (Or.inl ⟨by rfl, ?_⟩) ?_ ?_
            rotate_left
            · intro w'
              go_simp
              with_reducible rfl
            rotate_left
            · simp only [Act.put, List.setIfInBounds_toArray, List.set_cons_zero, List.set_cons_succ, i64_w, i32_w]
              rfl
            refine pure_ (i := 7) (N := some 5) (v := ?_) (a' := ?_) #[true, true, true, true, true, true, true, true] rfl rfl (by kernel_rfl) (fun _ _ _ h => h) (Or.inl ⟨by rfl, ?_⟩) ?_ ?_
            rotate_left
            · intro w'
              go_simp
              with_reducible rfl
            rotate_left
            · simp only [Act.put, List.setIfInBounds_toArray, List.set_cons_zero, List.set_cons_succ, i64_w, i32_w]
              rfl
            refine done_ (by kernel_rfl) ?_
            clear u0 r0 r1 r2 r3 f0 f1 f2 f3
            have KZ := Aside0.mk (blk_drew (set4_blk (a := .int .i64 0) (b := .int .i64 0) (c := .int .i64 0) (d := .slice none 0 0) KL6.out))
            have FB := Aside0.mk (below_drew (set4_below (a := .int .i64 0) (b := .int .i64 0) (c := .int .i64 0) (d := .slice none 0 0) HB6.out (Nat.le_refl _)))
            generalize (set4 w6 w.heap.size (.int .i64 0) (.int .i64 0) (.int .i64 0) (.slice none 0 0)).drew = wz at KZ FB ⊢
            have z0 : wz.cell? ⟨w.heap.size, 0, none⟩ = some (.int .i64 0) := blk_cell KZ.out 0
            have z1 : wz.cell? ⟨w.heap.size, 1, none⟩ = some (.int .i64 0) := blk_cell KZ.out 1
            have z2 : wz.cell? ⟨w.heap.size, 2, none⟩ = some (.int .i64 0) := blk_cell KZ.out 2
            have z3 : wz.cell? ⟨w.heap.size, 3, none⟩ = some (.slice none 0 0) := blk_cell KZ.out 3
            go_wp2
            refine bodyPost_ret (v := .tuple #[.agg #[.int .i64 0, .int .i64 0, .int .i64 0, .slice none 0 0], .slice none 0 0, .int .i64 n, .int .i64 x]) ?_ rfl (ParseR.bad HP.out hx FB.out)
            simp [results, Tryz.f11, go_sem, z0, z1, z2, z3]
        · obtain rfl : k = lns.length := by omega
          have HE0 : Aside0 (runS S0 lns = (S, 0, 0)) := ⟨by rw [HR.out, Int.toNat_natCast, List.drop_length]; rfl⟩
          have HPE : Aside0 (parseP s = endS S) := ⟨by rw [HPP.out, HE0.out]; rfl⟩
          clear HR HE0 HPP
          obtain ⟨vr, vl, vj, hpf⟩ := HF.out.p
          obtain ⟨Al, cl, rfl, -, -⟩ := Kd.R_reads hpf.l
          obtain ⟨Aj, cj, rfl, -, -⟩ := Kd.R_reads hpf.j
          have HPF := Aside0.mk hpf
          have KL := Aside0.mk HF.out.r
          have HB := Aside0.mk HF.out.b
          obtain ⟨Ar, cr, rfl, hcr, hCr⟩ := Kd.S_reads hpf.r
          have p3 := hpf.cells.2.2.2.1
          have p4 := hpf.cells.2.2.2.2.1
          have p6 := hpf.cells.2.2.2.2.2.2
          have h64 := hpf.n64
          clear hpf HF
          cases hsz : S.sized with
          | false =>
            rw [hsz] at p4
            have hP : parseP s = (S, 0, 5) := by rw [HPE.out, endS, if_pos hsz]
            have HP := Aside0.mk hP
            have r0 := blk_cell KL.out 0
            have r1 := blk_cell KL.out 1
            have r2 := blk_cell KL.out 2
            have r3 := blk_cell KL.out 3
            have f0 := blk_frozen KL.out 0
            have f1 := blk_frozen KL.out 1
            have f2 := blk_frozen KL.out 2
            have f3 := blk_frozen KL.out 3
            clear hP p3 p6 hCr
            go_wp2
            clear r0 r1 r2 r3 f0 f1 f2 f3 p4
            have KZ : Aside0 (((((wr.setCell ⟨w.heap.size, 0, none⟩ (.int .i64 0)).setCell ⟨w.heap.size, 1, none⟩ (.int .i64 0)).setCell ⟨w.heap.size, 2, none⟩ (.int .i64 0)).setCell ⟨w.heap.size, 3, none⟩ (.slice none 0 0)).heap[w.heap.size]? = some (.cells #[.int .i64 0, .int .i64 0, .int .i64 0, .slice none 0 0] 24 (0, 0))) := ⟨set4_blk KL.out⟩
            have FB : Aside0 (Below w.heap.size w ((((wr.setCell ⟨w.heap.size, 0, none⟩ (.int .i64 0)).setCell ⟨w.heap.size, 1, none⟩ (.int .i64 0)).setCell ⟨w.heap.size, 2, none⟩ (.int .i64 0)).setCell ⟨w.heap.size, 3, none⟩ (.slice none 0 0))) := ⟨set4_below HB.out (Nat.le_refl _)⟩
            generalize ((((wr.setCell ⟨w.heap.size, 0, none⟩ (.int .i64 0)).setCell ⟨w.heap.size, 1, none⟩ (.int .i64 0)).setCell ⟨w.heap.size, 2, none⟩ (.int .i64 0)).setCell ⟨w.heap.size, 3, none⟩ (.slice none 0 0)) = wz at KZ FB ⊢
            have z0 : wz.cell? ⟨w.heap.size, 0, none⟩ = some (.int .i64 0) := blk_cell KZ.out 0
            have z1 : wz.cell? ⟨w.heap.size, 1, none⟩ = some (.int .i64 0) := blk_cell KZ.out 1
            have z2 : wz.cell? ⟨w.heap.size, 2, none⟩ = some (.int .i64 0) := blk_cell KZ.out 2
            have z3 : wz.cell? ⟨w.heap.size, 3, none⟩ = some (.slice none 0 0) := blk_cell KZ.out 3
            refine bodyPost_ret (v := .tuple #[.agg #[.int .i64 0, .int .i64 0, .int .i64 0, .slice none 0 0], .slice none 0 0, .int .i64 0, .int .i64 5]) ?_ rfl (ParseR.bad HP.out (by decide) FB.out)
            simp [results, Tryz.f11, go_sem, z0, z1, z2, z3]
          | true =>
            rw [hsz] at p4
            have HSz := Aside0.mk hsz
            go_wp2
            go_loopw [60] (fun cv w' => ∃ k : Int, cv = .int .i64 k ∧ 0 ≤ k ∧ k ≤ S.rungs.length ∧ ∃ wx : World, wx = w' ∧ Aside0 (PeF w gp S Ar cr (.slice Al S.lines.length cl) (.slice Aj S.jumps.length cj) wx) ∧ Aside0 (∀ j : Nat, (j : Int) < k → jbAt S.rungs (j : Int) = false)) (fun cv _ => ((S.rungs.length : Int) - intOf cv).toNat)
            case atStart => exact ⟨0, rfl, by omega, by omega, _, rfl, ⟨⟨HB.out, HPF.out, KL.out⟩⟩, ⟨fun j hj => by omega⟩⟩
            case round =>
              clear HB HPF KL hCr p3 p4 p6
              obtain ⟨k, rfl, k0, k1, wx, rfl, HF, HJ⟩ := hrel
              have hCr := (Kd.S_reads' HF.out.p.r).2.2
              by_cases hk : k < S.rungs.length
              · obtain ⟨ad, A1, c1, A2, c2, rfl, x0, x1, x2, x3, hl1, hi1, hl2, hi2⟩ := PPrinterRoundTrip.at_T53 hCr k k0 hk
                clear hl1 hi1 hl2 hi2
                change wx.cell? _ = some (.string (rdR S.rungs k).f0) at x0
                change wx.cell? _ = some (.slice A1 (rdR S.rungs k).f1.length c1) at x1
                change wx.cell? _ = some (.slice A2 (rdR S.rungs k).f2.length c2) at x2
                change wx.cell? _ = some (.string (rdR S.rungs k).f3) at x3
                have hwr : wrap64 (k + 1) = k + 1 := w64 (by omega) (by omega)
                have hjb : jbAt S.rungs k = (!(rdR S.rungs k).f3.toList.isEmpty && !hasLab (S.rungs.drop (k + 1).toNat) (rdR S.rungs k).f3) := rfl
                have HStep : Aside0 (jbAt S.rungs k = false → ∀ j : Nat, (j : Int) < k + 1 → jbAt S.rungs (j : Int) = false) := ⟨fun h j hj => by
                  by_cases hj2 : (j : Int) < k
                  · exact HJ.out j hj2
                  · obtain rfl : (j : Int) = k := by omega
                    exact h⟩
                by_cases j0 : (rdR S.rungs k).f3.toList = []
                · have j1 : (rdR S.rungs k).f3.toList.isEmpty = true := by rw [j0]; rfl
                  have HJ2 := Aside0.mk (HStep.out (by rw [hjb, j1]; rfl))
                  have HF1 := fun o => Aside0.mk (HF.out.below (below_alloc (Below.refl _ _) o))
                  clear hjb HStep hCr
                  go_wp2
                  go_roundw
                  case rel => exact ⟨k + 1, by simp [hwr], by omega, by omega, _, rfl, HF1 _, HJ2⟩
                  case measure => simp [intOf, hwr]; omega
                · have j1 : (rdR S.rungs k).f3.toList.isEmpty = false := by simpa using j0
                  obtain ⟨A', hsl, hct, hcl⟩ := rungs_from hCr hcr (show (0 : Int) ≤ k + 1 by omega) (by omega : k + 1 ≤ S.rungs.length)
                  have HHas := fun W (hW : Below wx.heap.size wx W) (g2 : Nat) (h : W.cell? ⟨g2, 3, none⟩ = some (.string (rdR S.rungs k).f3)) => has_d A' (cr - (k + 1).toNat) (S.rungs.drop (k + 1).toNat) (rdR S.rungs k).f3 g2 W (Kd.C_below hct hW) hcl h
                  simp only [List.length_drop] at HHas hsl
                  have p3 := HF.out.p.cells.2.2.2.1
                  have ltg : gp < wx.heap.size := blk_lt HF.out.p.p
                  generalize hasLab (S.rungs.drop (k + 1).toNat) (rdR S.rungs k).f3 = hl at HHas hjb
                  have HH := Aside0.mk HHas
                  have HJB := Aside0.mk hjb
                  have HF1 := Aside0.mk (HF.out.below (below_alloc (Below.refl _ _) (.cells #[.string (rdR S.rungs k).f0, .slice A1 (rdR S.rungs k).f1.length c1, .slice A2 (rdR S.rungs k).f2.length c2, .string (rdR S.rungs k).f3] 53)))
                  have n3 := Aside0.mk (blk_cell (blk_new wx (.cells #[.string (rdR S.rungs k).f0, .slice A1 (rdR S.rungs k).f1.length c1, .slice A2 (rdR S.rungs k).f2.length c2, .string (rdR S.rungs k).f3] 53)) 3)
                  clear hct hcl HHas hjb hCr
                  go_wp2_with fail
                  refine (HH.out _ (below_alloc (Below.refl _ _) _) _ n3.out).mono ?_
                  rintro e1 w3 ⟨rfl, hb⟩
                  have HF3 := Aside0.mk (HF1.out.below hb)
                  clear HH HF1 n3 hb HF
                  cases hl with
                  | true =>
                    have HJ2 := Aside0.mk (HStep.out (by rw [HJB.out, j1]; rfl))
                    go_wp2
                    go_roundw
                    case rel => exact ⟨k + 1, by simp [hwr], by omega, by omega, _, rfl, HF3, HJ2⟩
                    case measure => simp [intOf, hwr]; omega
                  | false =>
                    have hN : parseP s = (S, S.jumps.getD k.toNat 0, 15) := by
                      rw [HPE.out, endS, if_neg (by rw [HSz.out]; simp), firstN_some (k := k.toNat) (by omega) (by rw [show ((k.toNat : Nat) : Int) = k by omega, HJB.out, j1]; rfl) (fun j hj => HJ.out j (by omega))]
                    have HN := Aside0.mk hN
                    have hjl := HF3.out.p.nj
                    obtain ⟨gj, cj', ej, -, -, -⟩ := Kd.R_form HF3.out.p.j (by omega)
                    cases ej
                    obtain ⟨cb, htj⟩ := Kd.R_typed HF3.out.p.j gj rfl
                    have hn0 : gp ≠ w.heap.size := fun e => by have h1 := HF3.out.p.p; have h2 := HF3.out.r; rw [e, h2] at h1; simp at h1
                    have hn1 : gj ≠ w.heap.size := fun e => by have h2 := HF3.out.r; rw [e, h2] at htj; cases htj
                    have u0 := HF3.out.p.cells.2.2.2.2.2.2
                    have u1 : w3.cell? ⟨gj, k.toNat, none⟩ = some (.int .i64 (S.jumps.getD k.toNat 0)) := by
                      obtain ⟨ad, e, hc⟩ := Kd.at_int (Kd.R_reads' HF3.out.p.j).2.2 k (by omega) (by omega)
                      cases e
                      have ea : (⟨gj, 0, none⟩ : Addr).add k.toNat = ⟨gj, k.toNat, none⟩ := by unfold Addr.add; split <;> simp_all
                      rw [ea] at hc
                      exact hc
                    have KL := Aside0.mk HF3.out.r
                    have HB := Aside0.mk HF3.out.b
                    have r0 := blk_cell KL.out 0
                    have r1 := blk_cell KL.out 1
                    have r2 := blk_cell KL.out 2
                    have r3 := blk_cell KL.out 3
                    have f0 := blk_frozen KL.out 0
                    have f1 := blk_frozen KL.out 1
                    have f2 := blk_frozen KL.out 2
                    have f3 := blk_frozen KL.out 3
                    have hjk : k < (S.jumps.length : Int) := by omega
                    clear hN htj hjl x0 x1 x2 x3 p3 HF3 hsl ltg
                    generalize S.jumps.getD k.toNat 0 = y at u1 HN
                    go_wp2
                    refine start_ (n := 12) (S := fun w' => w'.cell? ⟨gp, 6, none⟩ = some (.slice (some ⟨gj, 0, none⟩) S.jumps.length cj) ∧ w'.cell? ⟨gj, k.toNat, none⟩ = some (.int .i64 y)) (ds := []) #[false, false, false, false, false, false, false, false, false, false, false, false] (by kernel_rfl) rfl rfl ⟨u0, u1⟩ (fun hHeld => ?_)
                    refine pure_ (i := 0) (N := some 81) (v := ?_) (a' := ?_) #[true, false, false, false, false, false, false, false, false, false, false, false] rfl rfl (by kernel_rfl) (fun _ _ _ h => h) (Or.inl ⟨by rfl, ?_⟩) ?_ ?_
                    rotate_left
                    · intro w'
                      go_simp
                      with_reducible rfl
                    rotate_left
                    · simp only [Act.put, List.setIfInBounds_toArray, List.set_cons_zero, List.set_cons_succ, i64_w, i32_w]
                      rfl
                    refine pure_ (i := 1) (N := some 82) (v := ?_) (a' := ?_) #[true, true, false, false, false, false, false, false, false, false, false, false] rfl rfl (by kernel_rfl) (fun _ _ _ h => h) (Or.inl ⟨by rfl, ?_⟩) ?_ ?_
                    rotate_left
                    · intro w'
                      go_simp
                      with_reducible rfl
                    rotate_left
                    · simp only [Act.put, List.setIfInBounds_toArray, List.set_cons_zero, List.set_cons_succ, i64_w, i32_w]
                      rfl
                    refine pure_ (i := 2) (N := some 83) (v := ?_) (a' := ?_) #[true, true, true, false, false, false, false, false, false, false, false, false] rfl rfl (by kernel_rfl) (fun _ _ _ h => h) (Or.inl ⟨by rfl, ?_⟩) ?_ ?_
                    rotate_left
                    · intro w'
                      go_simp
                      with_reducible rfl
                    rotate_left
                    · simp only [Act.put, List.setIfInBounds_toArray, List.set_cons_zero, List.set_cons_succ, i64_w, i32_w]
                      rfl
                    refine pure_ (i := 3) (N := some 84) (v := ?_) (a' := ?_) #[true, true, true, true, false, false, false, false, false, false, false, false] rfl rfl (by kernel_rfl) (fun _ _ _ h => h) (Or.inl ⟨by rfl, ?_⟩) ?_ ?_
                    rotate_left
                    · intro w'
                      go_simp
                      with_reducible rfl
                    rotate_left
                    · simp only [Act.put, List.setIfInBounds_toArray, List.set_cons_zero, List.set_cons_succ, i64_w, i32_w]
                      rfl
                    refine pure_ (i := 5) (N := some 86) (v := ?_) (a' := ?_) #[true, true, true, true, false, true, false, false, false, false, false, false] rfl rfl (by kernel_rfl) (fun _ _ _ h => h) (Or.inl ⟨by rfl, ?_⟩) ?_ ?_
                    rotate_left
                    · intro w'
                      go_simp
                      with_reducible rfl
                    rotate_left
                    · simp only [Act.put, List.setIfInBounds_toArray, List.set_cons_zero, List.set_cons_succ, i64_w, i32_w]
                      rfl
                    refine take_ (i := 4) (N := some 85) (v := ?_) (a' := ?_) #[true, true, true, true, true, true, false, false, false, false, false, false] rfl rfl (by kernel_rfl) (fun _ _ _ h => h) (Or.inl ⟨by rfl, ?_⟩) hHeld ?_ ?_
                    rotate_left
                    · rintro w' ⟨s0, s1⟩
                      go_simp
                      with_reducible rfl
                    rotate_left
                    · simp only [Act.put, List.setIfInBounds_toArray, List.set_cons_zero, List.set_cons_succ, i64_w, i32_w]
                      rfl
                    refine pure_ (i := 6) (N := some 87) (v := ?_) (a' := ?_) #[true, true, true, true, true, true, true, false, false, false, false, false] rfl rfl (by kernel_rfl) (fun _ _ _ h => h) (Or.inl ⟨by rfl, ?_⟩) ?_ ?_
                    rotate_left
                    · intro w'
                      go_simp
                      with_reducible rfl
                    rotate_left
                    · simp only [Act.put, List.setIfInBounds_toArray, List.set_cons_zero, List.set_cons_succ, i64_w, i32_w]
                      rfl
                    refine take_ (i := 7) (N := some 88) (v := ?_) (a' := ?_) #[true, true, true, true, true, true, true, true, false, false, false, false] rfl rfl (by kernel_rfl) (fun _ _ _ h => h) (Or.inl ⟨by rfl, ?_⟩) hHeld ?_ ?_
                    rotate_left
                    · rintro w' ⟨s0, s1⟩
                      go_simp
                      with_reducible rfl
                    rotate_left
                    · simp only [Act.put, List.setIfInBounds_toArray, List.set_cons_zero, List.set_cons_succ, i64_w, i32_w]
                      rfl
                    refine one_ (i := 8) (N := none) #[true, true, true, true, true, true, true, true, true, false, false, false] rfl rfl (by kernel_rfl) (by decide) (fun K hK => ?_)
                    refine skip_ (w1 := ?_) (by rfl) rfl ?_ ?_
                    rotate_left
                    · go_simp
                      rfl
                    refine hK.out _ _ ⟨(set4_far hn0 u0), (set4_far hn1 u1)⟩ (fun hHeld => ?_)
                    clear hK K
                    refine pure_ (i := 9) (N := some 3) (v := ?_) (a' := ?_) #[true, true, true, true, true, true, true, true, true, true, false, false] rfl rfl (by kernel_rfl) (fun _ _ _ h => h) (Or.inl ⟨by rfl, ?_⟩) ?_ ?_
                    rotate_left
                    · intro w'
                      go_simp
                      with_reducible rfl
                    rotate_left
                    · simp only [Act.put, List.setIfInBounds_toArray, List.set_cons_zero, List.set_cons_succ, i64_w, i32_w]
                      rfl
                    refine pure_ (i := 10) (N := some 4) (v := ?_) (a' := ?_) #[true, true, true, true, true, true, true, true, true, true, true, false] rfl rfl (by kernel_rfl) (fun _ _ _ h => h) (Or.inl ⟨by rfl, ?_⟩) ?_ ?_
                    rotate_left
                    · intro w'
                      go_simp
                      with_reducible rfl
                    rotate_left
                    · simp only [Act.put, List.setIfInBounds_toArray, List.set_cons_zero, List.set_cons_succ, i64_w, i32_w]
                      rfl
                    refine pure_ (i := 11) (N := some 5) (v := ?_) (a' := ?_) #[true, true, true, true, true, true, true, true, true, true, true, true] rfl rfl (by kernel_rfl) (fun _ _ _ h => h) (Or.inl ⟨by rfl, ?_⟩) ?_ ?_
                    rotate_left
                    · intro w'
                      go_simp
                      with_reducible rfl
                    rotate_left
                    · simp only [Act.put, List.setIfInBounds_toArray, List.set_cons_zero, List.set_cons_succ, i64_w, i32_w]
                      rfl
                    refine done_ (by kernel_rfl) ?_
                    clear u0 u1 r0 r1 r2 r3 f0 f1 f2 f3
                    have KZ := Aside0.mk (blk_drew (set4_blk (a := .int .i64 0) (b := .int .i64 0) (c := .int .i64 0) (d := .slice none 0 0) KL.out))
                    have FB := Aside0.mk (below_drew (set4_below (a := .int .i64 0) (b := .int .i64 0) (c := .int .i64 0) (d := .slice none 0 0) HB.out (Nat.le_refl _)))
                    generalize (set4 w3 w.heap.size (.int .i64 0) (.int .i64 0) (.int .i64 0) (.slice none 0 0)).drew = wz at KZ FB ⊢
                    have z0 : wz.cell? ⟨w.heap.size, 0, none⟩ = some (.int .i64 0) := blk_cell KZ.out 0
                    have z1 : wz.cell? ⟨w.heap.size, 1, none⟩ = some (.int .i64 0) := blk_cell KZ.out 1
                    have z2 : wz.cell? ⟨w.heap.size, 2, none⟩ = some (.int .i64 0) := blk_cell KZ.out 2
                    have z3 : wz.cell? ⟨w.heap.size, 3, none⟩ = some (.slice none 0 0) := blk_cell KZ.out 3
                    go_wp2
                    refine bodyPost_ret (v := .tuple #[.agg #[.int .i64 0, .int .i64 0, .int .i64 0, .slice none 0 0], .slice none 0 0, .int .i64 y, .int .i64 15]) ?_ rfl (ParseR.bad HN.out (by decide) FB.out)
                    simp [results, Tryz.f11, go_sem, z0, z1, z2, z3]
              · obtain rfl : k = S.rungs.length := by omega
                have hN : parseP s = (S, 0, 0) := by
                  rw [HPE.out, endS, if_neg (by rw [HSz.out]; simp), firstN_none (fun j hj => HJ.out j (by omega))]
                have HN := Aside0.mk hN
                obtain ⟨u0, u1, u2, u3, -, u4, -⟩ := HF.out.p.cells
                have hn0 : gp ≠ w.heap.size := fun e => by have h1 := HF.out.p.p; have h2 := HF.out.r; rw [e, h2] at h1; simp at h1
                have hn1 := hn0
                have hn2 := hn0
                have hn3 := hn0
                have hn4 := hn0
                have KL := Aside0.mk HF.out.r
                have HB := Aside0.mk HF.out.b
                have r0 := blk_cell KL.out 0
                have r1 := blk_cell KL.out 1
                have r2 := blk_cell KL.out 2
                have r3 := blk_cell KL.out 3
                have f0 := blk_frozen KL.out 0
                have f1 := blk_frozen KL.out 1
                have f2 := blk_frozen KL.out 2
                have f3 := blk_frozen KL.out 3
                have FS := Aside0.mk (Kd.S_drew (set4_S (a := .int .i64 S.i) (b := .int .i64 S.q) (c := .int .i64 S.m) (d := .slice Ar S.rungs.length cr) KL.out HF.out.p.r))
                have FL := Aside0.mk (Kd.R_drew (set4_R (a := .int .i64 S.i) (b := .int .i64 S.q) (c := .int .i64 S.m) (d := .slice Ar S.rungs.length cr) KL.out HF.out.p.l))
                have hnl := Aside0.mk HF.out.p.nl
                have hn64 := Aside0.mk HF.out.p.n64
                clear hN hCr HF
                go_wp2
                refine start_ (n := 12) (S := fun w' => w'.cell? ⟨gp, 0, none⟩ = some (.int .i64 S.i) ∧ w'.cell? ⟨gp, 1, none⟩ = some (.int .i64 S.q) ∧ w'.cell? ⟨gp, 2, none⟩ = some (.int .i64 S.m) ∧ w'.cell? ⟨gp, 3, none⟩ = some (.slice Ar S.rungs.length cr) ∧ w'.cell? ⟨gp, 5, none⟩ = some (.slice Al S.lines.length cl)) (ds := []) #[false, false, false, false, false, false, false, false, false, false, false, false] (by kernel_rfl) rfl rfl ⟨u0, u1, u2, u3, u4⟩ (fun hHeld => ?_)
                refine pure_ (i := 0) (N := some 90) (v := ?_) (a' := ?_) #[true, false, false, false, false, false, false, false, false, false, false, false] rfl rfl (by kernel_rfl) (fun _ _ _ h => h) (Or.inl ⟨by rfl, ?_⟩) ?_ ?_
                rotate_left
                · intro w'
                  go_simp
                  with_reducible rfl
                rotate_left
                · simp only [Act.put, List.setIfInBounds_toArray, List.set_cons_zero, List.set_cons_succ, i64_w, i32_w]
                  rfl
                refine pure_ (i := 1) (N := some 91) (v := ?_) (a' := ?_) #[true, true, false, false, false, false, false, false, false, false, false, false] rfl rfl (by kernel_rfl) (fun _ _ _ h => h) (Or.inl ⟨by rfl, ?_⟩) ?_ ?_
                rotate_left
                · intro w'
                  go_simp
                  with_reducible rfl
                rotate_left
                · simp only [Act.put, List.setIfInBounds_toArray, List.set_cons_zero, List.set_cons_succ, i64_w, i32_w]
                  rfl
                refine pure_ (i := 2) (N := some 92) (v := ?_) (a' := ?_) #[true, true, true, false, false, false, false, false, false, false, false, false] rfl rfl (by kernel_rfl) (fun _ _ _ h => h) (Or.inl ⟨by rfl, ?_⟩) ?_ ?_
                rotate_left
                · intro w'
                  go_simp
                  with_reducible rfl
                rotate_left
                · simp only [Act.put, List.setIfInBounds_toArray, List.set_cons_zero, List.set_cons_succ, i64_w, i32_w]
                  rfl
                refine pure_ (i := 4) (N := some 94) (v := ?_) (a' := ?_) #[true, true, true, false, true, false, false, false, false, false, false, false] rfl rfl (by kernel_rfl) (fun _ _ _ h => h) (Or.inl ⟨by rfl, ?_⟩) ?_ ?_
                rotate_left
                · intro w'
                  go_simp
                  with_reducible rfl
                rotate_left
                · simp only [Act.put, List.setIfInBounds_toArray, List.set_cons_zero, List.set_cons_succ, i64_w, i32_w]
                  rfl
                refine pure_ (i := 5) (N := some 95) (v := ?_) (a' := ?_) #[true, true, true, false, true, true, false, false, false, false, false, false] rfl rfl (by kernel_rfl) (fun _ _ _ h => h) (Or.inl ⟨by rfl, ?_⟩) ?_ ?_
                rotate_left
                · intro w'
                  go_simp
                  with_reducible rfl
                rotate_left
                · simp only [Act.put, List.setIfInBounds_toArray, List.set_cons_zero, List.set_cons_succ, i64_w, i32_w]
                  rfl
                refine pure_ (i := 6) (N := some 96) (v := ?_) (a' := ?_) #[true, true, true, false, true, true, true, false, false, false, false, false] rfl rfl (by kernel_rfl) (fun _ _ _ h => h) (Or.inl ⟨by rfl, ?_⟩) ?_ ?_
                rotate_left
                · intro w'
                  go_simp
                  with_reducible rfl
                rotate_left
                · simp only [Act.put, List.setIfInBounds_toArray, List.set_cons_zero, List.set_cons_succ, i64_w, i32_w]
                  rfl
                refine take_ (i := 3) (N := some 93) (v := ?_) (a' := ?_) #[true, true, true, true, true, true, true, false, false, false, false, false] rfl rfl (by kernel_rfl) (fun _ _ _ h => h) (Or.inl ⟨by rfl, ?_⟩) hHeld ?_ ?_
                rotate_left
                · rintro w' ⟨s0, s1, s2, s3, s4⟩
                  go_simp
                  with_reducible rfl
                rotate_left
                · simp only [Act.put, List.setIfInBounds_toArray, List.set_cons_zero, List.set_cons_succ, i64_w, i32_w]
                  rfl
                refine take_ (i := 7) (N := some 97) (v := ?_) (a' := ?_) #[true, true, true, true, true, true, true, true, false, false, false, false] rfl rfl (by kernel_rfl) (fun _ _ _ h => h) (Or.inl ⟨by rfl, ?_⟩) hHeld ?_ ?_
                rotate_left
                · rintro w' ⟨s0, s1, s2, s3, s4⟩
                  go_simp
                  with_reducible rfl
                rotate_left
                · simp only [Act.put, List.setIfInBounds_toArray, List.set_cons_zero, List.set_cons_succ, i64_w, i32_w]
                  rfl
                refine one_ (i := 8) (N := none) #[true, true, true, true, true, true, true, true, true, false, false, false] rfl rfl (by kernel_rfl) (by decide) (fun K hK => ?_)
                refine skip_ (w1 := ?_) (by rfl) rfl ?_ ?_
                rotate_left
                · go_simp
                  rfl
                refine hK.out _ _ ⟨(set4_far hn0 u0), (set4_far hn1 u1), (set4_far hn2 u2), (set4_far hn3 u3), (set4_far hn4 u4)⟩ (fun hHeld => ?_)
                clear hK K
                refine pure_ (i := 9) (N := some 3) (v := ?_) (a' := ?_) #[true, true, true, true, true, true, true, true, true, true, false, false] rfl rfl (by kernel_rfl) (fun _ _ _ h => h) (Or.inl ⟨by rfl, ?_⟩) ?_ ?_
                rotate_left
                · intro w'
                  go_simp
                  with_reducible rfl
                rotate_left
                · simp only [Act.put, List.setIfInBounds_toArray, List.set_cons_zero, List.set_cons_succ, i64_w, i32_w]
                  rfl
                refine pure_ (i := 10) (N := some 4) (v := ?_) (a' := ?_) #[true, true, true, true, true, true, true, true, true, true, true, false] rfl rfl (by kernel_rfl) (fun _ _ _ h => h) (Or.inl ⟨by rfl, ?_⟩) ?_ ?_
                rotate_left
                · intro w'
                  go_simp
                  with_reducible rfl
                rotate_left
                · simp only [Act.put, List.setIfInBounds_toArray, List.set_cons_zero, List.set_cons_succ, i64_w, i32_w]
                  rfl
                refine pure_ (i := 11) (N := some 5) (v := ?_) (a' := ?_) #[true, true, true, true, true, true, true, true, true, true, true, true] rfl rfl (by kernel_rfl) (fun _ _ _ h => h) (Or.inl ⟨by rfl, ?_⟩) ?_ ?_
                rotate_left
                · intro w'
                  go_simp
                  with_reducible rfl
                rotate_left
                · simp only [Act.put, List.setIfInBounds_toArray, List.set_cons_zero, List.set_cons_succ, i64_w, i32_w]
                  rfl
                refine done_ (by kernel_rfl) ?_
                clear u0 u1 u2 u3 u4 r0 r1 r2 r3 f0 f1 f2 f3
                have KZ := Aside0.mk (blk_drew (set4_blk (a := .int .i64 S.i) (b := .int .i64 S.q) (c := .int .i64 S.m) (d := .slice Ar S.rungs.length cr) KL.out))
                have FB := Aside0.mk (below_drew (set4_below (a := .int .i64 S.i) (b := .int .i64 S.q) (c := .int .i64 S.m) (d := .slice Ar S.rungs.length cr) HB.out (Nat.le_refl _)))
                generalize (set4 wx w.heap.size (.int .i64 S.i) (.int .i64 S.q) (.int .i64 S.m) (.slice Ar S.rungs.length cr)).drew = wz at KZ FB FS FL ⊢
                have z0 : wz.cell? ⟨w.heap.size, 0, none⟩ = some (.int .i64 S.i) := blk_cell KZ.out 0
                have z1 : wz.cell? ⟨w.heap.size, 1, none⟩ = some (.int .i64 S.q) := blk_cell KZ.out 1
                have z2 : wz.cell? ⟨w.heap.size, 2, none⟩ = some (.int .i64 S.m) := blk_cell KZ.out 2
                have z3 : wz.cell? ⟨w.heap.size, 3, none⟩ = some (.slice Ar S.rungs.length cr) := blk_cell KZ.out 3
                go_wp2
                refine bodyPost_ret (v := .tuple #[.agg #[.int .i64 S.i, .int .i64 S.q, .int .i64 S.m, .slice Ar S.rungs.length cr], .slice Al S.lines.length cl, .int .i64 0, .int .i64 0]) ?_ rfl ⟨FB.out, .inr ⟨by rw [HN.out], _, _, by rw [HN.out], by rw [HN.out]; exact FS.out, by rw [HN.out]; exact FL.out, by rw [HN.out]; exact hnl.out, by rw [HN.out]; exact hn64.out, by rw [HN.out]; exact HC.out⟩⟩
                simp [results, Tryz.f11, go_sem, z0, z1, z2, z3]
    · skip
      have hbl : badLine s = some k := firstN_some hk (by rw [hbad]; rfl) (fun j hj => by
        have := hpl (cntAt s j) (by unfold upN; exact List.mem_map.2 ⟨j, List.mem_range.2 hj, rfl⟩)
        rw [this]; rfl)
      have hp : parseP s = (S0, (k : Int) + 1, 6) := by rw [HPP.out, hbl]
      have HP := Aside0.mk hp
      have k2 := K2.out
      have r0 := blk_cell k2 0
      have r1 := blk_cell k2 1
      have r2 := blk_cell k2 2
      have r3 := blk_cell k2 3
      have f0 := blk_frozen k2 0
      have f1 := blk_frozen k2 1
      have f2 := blk_frozen k2 2
      have f3 := blk_frozen k2 3
      clear hp k2 hpl hbad
      go_wp2
      have KZ : Aside0 (((((w2.setCell ⟨w.heap.size, 0, none⟩ (.int .i64 0)).setCell ⟨w.heap.size, 1, none⟩ (.int .i64 0)).setCell ⟨w.heap.size, 2, none⟩ (.int .i64 0)).setCell ⟨w.heap.size, 3, none⟩ (.slice none 0 0)).heap[w.heap.size]? = some (.cells #[.int .i64 0, .int .i64 0, .int .i64 0, .slice none 0 0] 24 (0, 0))) := ⟨set4_blk (K2.out)⟩
      have FB : Aside0 (Below w.heap.size w (((((w2.setCell ⟨w.heap.size, 0, none⟩ (.int .i64 0)).setCell ⟨w.heap.size, 1, none⟩ (.int .i64 0)).setCell ⟨w.heap.size, 2, none⟩ (.int .i64 0)).setCell ⟨w.heap.size, 3, none⟩ (.slice none 0 0)))) := ⟨set4_below (HB.out) (Nat.le_refl _)⟩
      generalize ((((w2.setCell ⟨w.heap.size, 0, none⟩ (.int .i64 0)).setCell ⟨w.heap.size, 1, none⟩ (.int .i64 0)).setCell ⟨w.heap.size, 2, none⟩ (.int .i64 0)).setCell ⟨w.heap.size, 3, none⟩ (.slice none 0 0)) = wz at KZ FB ⊢
      have z0 : wz.cell? ⟨w.heap.size, 0, none⟩ = some (.int .i64 0) := blk_cell KZ.out 0
      have z1 : wz.cell? ⟨w.heap.size, 1, none⟩ = some (.int .i64 0) := blk_cell KZ.out 1
      have z2 : wz.cell? ⟨w.heap.size, 2, none⟩ = some (.int .i64 0) := blk_cell KZ.out 2
      have z3 : wz.cell? ⟨w.heap.size, 3, none⟩ = some (.slice none 0 0) := blk_cell KZ.out 3
      refine bodyPost_ret (v := .tuple #[.agg #[.int .i64 0, .int .i64 0, .int .i64 0, .slice none 0 0], .slice none 0 0, .int .i64 ((k : Int) + 1), .int .i64 6]) ?_ rfl (ParseR.bad HP.out (by decide) FB.out)
      simp [results, Tryz.f11, go_sem, z0, z1, z2, z3]
end Go.Proofs.YtolmkdhgnganaaaGreatDoor.H
namespace Go.Proofs.YtolmkdhgnganaaaGreatDoor.H
open Go Go.RowKit Go.Proofs Go.Proofs.YtolmkdhgnganaaaGreatDoorW.PrintWords Go.Proofs.YtolmkdhgnganaaaGreatDoor.Sp
theorem ladPrint_ok {i q m : Int} {l : List Rung} (h : (ladPrint i q m l).2 = 0) : (ladChk i q m l).2 = 0 ∧ (ladPrint i q m l).1 = ladText i q m l := by
  unfold ladPrint at *
  by_cases h1 : (ladChk i q m l).2 = 0
  · rw [if_pos h1] at h ⊢
    by_cases h2 : 65536 < (ladText i q m l).length
    · rw [if_pos h2] at h; cases h
    · rw [if_neg h2]; exact ⟨h1, rfl⟩
  · rw [if_neg h1] at h; exact absurd h h1
end Go.Proofs.YtolmkdhgnganaaaGreatDoor.H
namespace Go.Proofs.YtolmkdhgnganaaaGreatDoor.H
open Go Go.RowKit Go.Proofs Go.Proofs.YtolmkdhgnganaaaGreatDoorW.PrintWords Go.Proofs.YtolmkdhgnganaaaGreatDoorW.PrintLast Go.Proofs.YtolmkdhgnganaaaGreatDoorW.PrintMore Go.Proofs.YtolmkdhgnganaaaGreatDoor.Sp
theorem print_ok {i q m : Int} {l : List Rung} (h : (ladPrint i q m l).2 = 0) : OkLad i q m l ∧ (ladPrint i q m l).1 = ladText i q m l ∧ (ladText i q m l).length ≤ 65536 := by
  obtain ⟨h1, h2⟩ := ladPrint_ok h
  refine ⟨(ladChk_okLad h1).1, h2, ?_⟩
  unfold ladPrint at h
  rw [if_pos h1] at h
  by_cases h3 : 65536 < (ladText i q m l).length
  · rw [if_pos h3] at h; cases h
  · omega
theorem ok_print {i q m : Int} {l : List Rung} (h : OkLad i q m l) (hl : (ladText i q m l).length ≤ 65536) : ladPrint i q m l = (ladText i q m l, 0) ∧ ladChk i q m l = ((l.length : Int), 0) := by
  have hc : ladChk i q m l = ((l.length : Int), 0) := ladChk_ok h.sz (by have := h.n; omega) h.rg h.jb
  refine ⟨?_, hc⟩
  unfold ladPrint
  rw [hc, if_pos rfl, if_neg (by omega)]
/-- The printed text of a ladder that Check lets in, parsed. -/
theorem parseP_print {i q m : Int} {l : List Rung} (h : OkLad i q m l) (hl : (ladText i q m l).length ≤ 65536) : ∃ ls js, ls.length = l.length ∧ parseP ⟨(ladText i q m l).toArray⟩ = (⟨i, q, m, true, l, ls, js⟩, 0, 0) := by
  obtain ⟨ls, js, h1, h2⟩ := parse_print h
  refine ⟨ls, js, h1, ?_⟩
  rw [parseP_spl (by show (ladText i q m l).toArray.size ≤ 65536; rw [List.size_toArray]; exact hl)]
  exact h2
theorem parse_pr {i q m : Int} {l : List Rung} (h : OkLad i q m l) (hl : (ladText i q m l).length ≤ 65536) (w : World) (hL : Lets w) (hE : Errs w) (hK : Kws w) (hG : LexG w) :
    Calls Tryz.prog 11 #[.string ⟨(ladText i q m l).toArray⟩] w (fun e w' => Below w.heap.size w w' ∧ ∃ A c A' c', e = .returned (.tuple #[.agg #[.int .i64 i, .int .i64 q, .int .i64 m, .slice A l.length c], .slice A' l.length c', .int .i64 0, .int .i64 0]) ∧
      l.length ≤ c ∧ Kd.C kRung w' A l.length l) := by
  obtain ⟨ls, js, h1, h2⟩ := parseP_print h hl
  refine (parse_b _ w hL hE hK hG).mono ?_
  rintro e w' ⟨hb, hr⟩
  refine ⟨hb, ?_⟩
  rw [h2] at hr
  rcases hr with ⟨h0, _⟩ | ⟨-, vr, vl, rfl, hS, hl', -, -, -⟩
  · exact absurd rfl h0
  · obtain ⟨A, c, rfl, hc, hC⟩ := Kd.S_reads hS
    obtain ⟨A', c', rfl, -, -⟩ := Kd.R_reads hl'
    exact ⟨A, c, A', c', by rw [h1], hc, hC⟩
set_option maxHeartbeats 8000000 in
set_option maxRecDepth 100000 in
theorem rt_b (i q m : Int) (A : Option Addr) (c : Nat) (l : List Rung) (t : ByteArray) (w : World) (h1 : Kd.C kRung w A l.length l) (hc1 : l.length ≤ c) (hL : Lets w) (hP : Pows w) (hE : Errs w) (hK : Kws w) (hG : LexG w) :
    Calls Tryz.prog 3 #[.agg #[.int .i64 i, .int .i64 q, .int .i64 m, .slice A l.length c], .string t] w (RetB w (.bool true)) := by
  have HT := Aside0.mk (fun W (hW : Below w.heap.size w W) => large_b i q m A c l W (Kd.C_below h1 hW) hc1)
  have HAl := Aside0.mk (fun W (hW : Below w.heap.size w W) => alive11_b W (hL.below hW) (hP.below hW) (hK.below hW))
  have HPr := Aside0.mk (fun W (hW : Below w.heap.size w W) => print_b i q m A c l W (Kd.C_below h1 hW) hc1 (hL.below hW) (hP.below hW) (hK.below hW))
  have HPm := Aside0.mk (fun i' q' m' l' W B d (hC : Kd.C kRung W B l'.length l') (hd : l'.length ≤ d) (hW : Below w.heap.size w W) => print_b i' q' m' B d l' W hC hd (hL.below hW) (hP.below hW) (hK.below hW))
  have HCk := Aside0.mk (fun i' q' m' l' W B d (hC : Kd.C kRung W B l'.length l') (hd : l'.length ≤ d) => ladChk_b i' q' m' B d l' W hC hd)
  have HEq := Aside0.mk (fun W B d (hC : Kd.C kRung W B l.length l) (hd : l.length ≤ d) (hW : Below w.heap.size w W) => equal_b i q m A c l i q m B d l W (Kd.C_below h1 hW) hC hc1 hd)
  have HPp := Aside0.mk (fun i' q' m' l' (h : OkLad i' q' m' l') hl W (hW : Below w.heap.size w W) => parse_pr h hl W (hL.below hW) (hE.below hW) (hK.below hW) (hG.below hW))
  have HPa := Aside0.mk (fun W (hW : Below w.heap.size w W) => parse_b t W (hL.below hW) (hE.below hW) (hK.below hW) (hG.below hW))
  have HN := Aside0.mk (@print_ok i q m l)
  have HEm := Aside0.mk (fun i' q' m' l' W B d B2 d2 (hC : Kd.C kRung W B l'.length l') (hD : Kd.C kRung W B2 l'.length l') (hd : l'.length ≤ d) (hd2 : l'.length ≤ d2) => equal_b i' q' m' B d l' i' q' m' B2 d2 l' W hC hD hd hd2)
  have HOk : Aside0 (¬ (5000 : Int) < t.size → ∀ S n x, parseP t = (S, n, x) → x = 0 → OkLad S.i S.q S.m S.rungs ∧ (ladText S.i S.q S.m S.rungs).length ≤ 65536) := ⟨fun ht S n x hV hx => by
    have hp := parseP_spl (s := t) (by omega)
    have h := parsed_ok (l := t.data.toList) (by rw [← hp, hV]; exact hx)
    rw [← hp, hV] at h
    have hl : t.data.toList.length = t.size := by rw [Array.length_toList]; rfl
    exact ⟨h.1, by have := h.2; dsimp only at this; omega⟩⟩
  have hmax := Kd.C_max h1
  clear h1 hL hP hE hK hG
  have HB0 := Aside0.mk (below_alloc (Below.refl w.heap.size w) (.cells #[.int .i64 i, .int .i64 q, .int .i64 m, .slice A l.length c] 24))
  have K0 := Aside0.mk (blk_new w (.cells #[.int .i64 i, .int .i64 q, .int .i64 m, .slice A l.length c] 24))
  go_enter Tryz.func3, Tryz.ntmps3
  go_wp2_with fail
  refine (HT.out _ HB0.out).mono ?_
  rintro e w1 ⟨n1, rfl, hb⟩
  have HB1 := Aside0.mk (below_step HB0.out hb)
  have K1 := Aside0.mk (blk_below K0.out hb)
  clear HB0 K0 hb
  by_cases hn1 : (0 : Int) < n1
  · go_wp2_with fail
    refine (HAl.out _ HB1.out).mono ?_
    rintro e w3 ⟨rfl, hb⟩
    have FB := below_step HB1.out hb
    go_wp2
    go_ret
    exact ⟨rfl, FB⟩
  · by_cases h5 : (5000 : Int) < t.size
    · go_wp2_with fail
      refine (HAl.out _ HB1.out).mono ?_
      rintro e w3 ⟨rfl, hb⟩
      have FB := below_step HB1.out hb
      go_wp2
      go_ret
      exact ⟨rfl, FB⟩
    · have b0 := blk_cell K1.out 0
      have b1 := blk_cell K1.out 1
      have b2 := blk_cell K1.out 2
      have b3 := blk_cell K1.out 3
      go_wp2_with fail
      refine (HPr.out _ HB1.out).mono ?_
      rintro e w2 ⟨rfl, hb⟩
      have HB2 := Aside0.mk (below_step HB1.out hb)
      have K2 := Aside0.mk (blk_below K1.out hb)
      clear HB1 K1 hb b0 b1 b2 b3
      generalize hp1 : (ladPrint i q m l).1 = pt at HN ⊢
      generalize hp2 : (ladPrint i q m l).2 = pe at HN ⊢
      clear hp1 hp2
      rcases (Decidable.em (pe = 0)) with hpe | hpe
      subst hpe
      obtain ⟨ok, hpt, hlen⟩ := HN.out rfl
      subst hpt
      clear HN
      have hsz : (⟨(ladText i q m l).toArray⟩ : ByteArray).size ≤ 65536 := by
        show (ladText i q m l).toArray.size ≤ 65536
        rw [List.size_toArray]; exact hlen
      have HPq := Aside0.mk (HPp.out i q m l ok hlen w2 HB2.out)
      clear ok hlen
      generalize (⟨(ladText i q m l).toArray⟩ : ByteArray) = tx at hsz HPq ⊢
      go_wp2_with fail
      refine HPq.out.mono ?_
      rintro e w3 ⟨hb, B, d, B', d', rfl, hd, hD⟩
      have HB3 := Aside0.mk (below_alloc (below_step HB2.out hb) (.cells #[.int .i64 i, .int .i64 q, .int .i64 m, .slice B l.length d] 24))
      have K3 := Aside0.mk (blk_alloc (blk_below K2.out hb) (.cells #[.int .i64 i, .int .i64 q, .int .i64 m, .slice B l.length d] 24))
      have KN := Aside0.mk (blk_new w3 (.cells #[.int .i64 i, .int .i64 q, .int .i64 m, .slice B l.length d] 24))
      have HD3 := Aside0.mk (Kd.C_alloc hD (.cells #[.int .i64 i, .int .i64 q, .int .i64 m, .slice B l.length d] 24))
      have a0 := blk_cell K3.out 0
      have a1 := blk_cell K3.out 1
      have a2 := blk_cell K3.out 2
      have a3 := blk_cell K3.out 3
      have c0 := blk_cell KN.out 0
      have c1 := blk_cell KN.out 1
      have c2 := blk_cell KN.out 2
      have c3 := blk_cell KN.out 3
      have ltA := blk_lt (blk_below K2.out hb)
      clear hb HB2 K2 HPq hD
      go_wp2_with fail
      refine (HEq.out _ B d HD3.out hd HB3.out).mono ?_
      rintro e w4 ⟨rfl, hb⟩
      rw [ladEq_refl]
      have HBz := Aside0.mk (below_step HB3.out hb)
      have K4 := Aside0.mk (blk_below K3.out hb)
      have z3 := blk_cell K4.out 3
      clear hb HB3 K3 KN HD3 a0 a1 a2 a3 c0 c1 c2 c3 ltA
      go_wp2_with fail
      clear z3 K4
      rotate_left
      have hpb : (pe == 0) = false := beq_eq_false_iff_ne.2 hpe
      have HBz := Aside0.mk HB2.out
      clear HN HB2 K2
      go_wp2_with fail
      all_goals
        refine (HPa.out _ HBz.out).mono ?_
        rintro e w5 ⟨hb, hr⟩
        have HB5 := Aside0.mk (below_step HBz.out hb)
        clear hb HBz
        generalize hV : parseP t = V at hr
        obtain ⟨S, n, x⟩ := V
        rcases hr with ⟨h0, rfl⟩ | ⟨h0, vr, vl, rfl, hS, -, -, -, -⟩
        · dsimp only at h0 ⊢
          have h0b : (x != 0) = true := by simpa using h0
          have HB6 := Aside0.mk (below_alloc HB5.out (.cells #[.int .i64 0, .int .i64 0, .int .i64 0, .slice none 0 0] 24))
          clear HB5 hV
          go_wp2_with fail
          refine (HAl.out _ HB6.out).mono ?_
          rintro e w7 ⟨rfl, hb⟩
          have FB := below_step HB6.out hb
          go_wp2
          go_ret
          exact ⟨rfl, FB⟩
        · obtain ⟨B, d, rfl, hd, hD⟩ := Kd.S_reads hS
          dsimp only at h0 hd hD ⊢
          subst h0
          obtain ⟨ok, hlen⟩ := HOk.out h5 S n 0 hV rfl
          obtain ⟨op, oc⟩ := ok_print ok hlen
          clear hS hV
          have HPq := Aside0.mk (fun W hW => HPp.out S.i S.q S.m S.rungs ok hlen W hW)
          have HPr2 := Aside0.mk (fun W B d hC hd hW => HPm.out S.i S.q S.m S.rungs W B d hC hd hW)
          have HCk2 := Aside0.mk (fun W B d hC hd => HCk.out S.i S.q S.m S.rungs W B d hC hd)
          have HEq2 := Aside0.mk (fun W B d B2 d2 hC hD hd hd2 => HEm.out S.i S.q S.m S.rungs W B d B2 d2 hC hD hd hd2)
          rw [op] at HPr2
          rw [oc] at HCk2
          rw [ladEq_refl] at HEq2
          dsimp only at HPr2 HCk2
          have hmx2 := Kd.C_max hD
          have hsz : (⟨(ladText S.i S.q S.m S.rungs).toArray⟩ : ByteArray).size ≤ 65536 := by
            show (ladText S.i S.q S.m S.rungs).toArray.size ≤ 65536
            rw [List.size_toArray]; exact hlen
          clear ok hlen op oc HPp HPm HCk HEm HOk HEq HPr
          generalize (⟨(ladText S.i S.q S.m S.rungs).toArray⟩ : ByteArray) = ty at hsz HPq HPr2
          have HB6 := Aside0.mk (below_alloc HB5.out (.cells #[.int .i64 S.i, .int .i64 S.q, .int .i64 S.m, .slice B S.rungs.length d] 24))
          have K6 := Aside0.mk (blk_new w5 (.cells #[.int .i64 S.i, .int .i64 S.q, .int .i64 S.m, .slice B S.rungs.length d] 24))
          have HD6 := Aside0.mk (Kd.C_alloc hD (.cells #[.int .i64 S.i, .int .i64 S.q, .int .i64 S.m, .slice B S.rungs.length d] 24))
          clear HB5 hD
          generalize S.i = si at *
          generalize S.q = sq at *
          generalize S.m = sm at *
          generalize S.rungs = sl at *
          clear S
          go_wp2_with fail
          generalize w5.alloc (.cells #[.int .i64 si, .int .i64 sq, .int .i64 sm, .slice B sl.length d] 24) = w6 at HB6 K6 HD6 ⊢
          generalize w5.heap.size = g6 at K6 ⊢
          refine (HPr2.out _ B d HD6.out hd HB6.out).mono ?_
          rintro e w7 ⟨rfl, hb⟩
          have HB7 := Aside0.mk (below_step HB6.out hb)
          have K7 := Aside0.mk (blk_below K6.out hb)
          have HD7 := Aside0.mk (Kd.C_below HD6.out hb)
          clear hb HB6 K6 HD6
          go_wp2_with fail
          refine (HPq.out _ HB7.out).mono ?_
          rintro e w8 ⟨hb, E, f, E', f', rfl, hf, hF⟩
          have HB8 := Aside0.mk (below_alloc (below_step HB7.out hb) (.cells #[.int .i64 si, .int .i64 sq, .int .i64 sm, .slice E sl.length f] 24))
          have K8 := Aside0.mk (blk_alloc (blk_below K7.out hb) (.cells #[.int .i64 si, .int .i64 sq, .int .i64 sm, .slice E sl.length f] 24))
          have KN := Aside0.mk (blk_new w8 (.cells #[.int .i64 si, .int .i64 sq, .int .i64 sm, .slice E sl.length f] 24))
          have HD8 := Aside0.mk (Kd.C_alloc (Kd.C_below HD7.out hb) (.cells #[.int .i64 si, .int .i64 sq, .int .i64 sm, .slice E sl.length f] 24))
          have HF8 := Aside0.mk (Kd.C_alloc hF (.cells #[.int .i64 si, .int .i64 sq, .int .i64 sm, .slice E sl.length f] 24))
          have lt6 := blk_lt (blk_below K7.out hb)
          have a0 := blk_cell K8.out 0
          have a1 := blk_cell K8.out 1
          have a2 := blk_cell K8.out 2
          have a3 := blk_cell K8.out 3
          clear hb HB7 K7 HD7 hF HPq
          go_wp2_with fail
          generalize w8.alloc (.cells #[.int .i64 si, .int .i64 sq, .int .i64 sm, .slice E sl.length f] 24) = w9 at *
          generalize w8.heap.size = g8 at *
          refine (HCk2.out _ B d HD8.out hd).mono ?_
          rintro e w10 ⟨rfl, hb⟩
          have HB10 := Aside0.mk (below_step HB8.out hb)
          have K10 := Aside0.mk (blk_below K8.out hb)
          have KN10 := Aside0.mk (blk_below KN.out hb)
          have HD10 := Aside0.mk (Kd.C_below HD8.out hb)
          have HF10 := Aside0.mk (Kd.C_below HF8.out hb)
          clear hb HB8 K8 KN HD8 HF8 a0 a1 a2 a3 lt6
          have c0 := blk_cell KN10.out 0
          have c1 := blk_cell KN10.out 1
          have c2 := blk_cell KN10.out 2
          have c3 := blk_cell KN10.out 3
          go_wp2_with fail
          refine (HPr2.out _ E f HF10.out hf HB10.out).mono ?_
          rintro e w11 ⟨rfl, hb⟩
          have HB11 := Aside0.mk (below_step HB10.out hb)
          have K11 := Aside0.mk (blk_below K10.out hb)
          have KN11 := Aside0.mk (blk_below KN10.out hb)
          have HD11 := Aside0.mk (Kd.C_below HD10.out hb)
          have HF11 := Aside0.mk (Kd.C_below HF10.out hb)
          clear hb HB10 K10 KN10 HD10 HF10 c0 c1 c2 c3
          go_wp2_with fail
          refine (HAl.out _ HB11.out).mono ?_
          rintro e w12 ⟨rfl, hb⟩
          have HB12 := Aside0.mk (below_step HB11.out hb)
          have K12 := Aside0.mk (blk_below K11.out hb)
          have KN12 := Aside0.mk (blk_below KN11.out hb)
          have HD12 := Aside0.mk (Kd.C_below HD11.out hb)
          have HF12 := Aside0.mk (Kd.C_below HF11.out hb)
          clear hb HB11 K11 KN11 HD11 HF11
          have a0 := blk_cell K12.out 0
          have a1 := blk_cell K12.out 1
          have a2 := blk_cell K12.out 2
          have a3 := blk_cell K12.out 3
          have c0 := blk_cell KN12.out 0
          have c1 := blk_cell KN12.out 1
          have c2 := blk_cell KN12.out 2
          have c3 := blk_cell KN12.out 3
          go_wp2_with fail
          refine (HEq2.out _ E f B d HF12.out HD12.out hf hd).mono ?_
          rintro e w13 ⟨rfl, hb⟩
          have FB := Aside0.mk (below_step HB12.out hb)
          clear hb HB12 K12 KN12 HD12 HF12 a0 a1 a2 a3 c0 c1 c2 c3
          have hty : (ty.toList == ty.toList) = true := by simp
          go_wp2
          go_ret
          exact ⟨rfl, FB.out⟩
end Go.Proofs.YtolmkdhgnganaaaGreatDoor.H
namespace Go.Proofs.YtolmkdhgnganaaaGreatDoor.R
open Go Go.RowKit Go.Proofs Go.Proofs.YtolmkdhgnganaaaGreatDoorW.PrintWords Go.Proofs.YtolmkdhgnganaaaGreatDoor.H Go.ChangeShapes Go.WideShapes Go.ChangeAt
theorem own : ownKnob Tryz.prog.godebug = none := by kernel_rfl
theorem laidOut : laidOutB Tryz.prog = true := by kernel_rfl
/-- A listed array of strings: its cells. -/
theorem strs_cells {P : Program} {w : World} {name : String} {ds : List (DataW Unit)} {g t e n : Nat} (h : Lib.VarReads P w name (.agg ds)) (hg : P.globalNamed name = some g) (hty : (P.globals[g]?).map (·.type) = some t)
    (ht : P.underlying t = some (.array n e)) (he : P.underlying e = some .string) (hce : P.cellsOf e = 1) (i : Nat) (hi : i < n) (bs : List UInt8) (hd : ds[i]? = some (.lit (.string bs))) :
    w.cell? ⟨g, i, none⟩ = some (.string ⟨bs.toArray⟩) := by
  obtain ⟨g', t', cs, fuel, p, h1, h2, h3, h4⟩ := h
  obtain rfl := Option.some.inj (hg.symm.trans h1)
  obtain rfl := Option.some.inj (hty.symm.trans h2)
  obtain ⟨f2, d, q, e1, e2⟩ := Lib.array_elem ht h4 i hi
  rw [e1] at hd
  obtain rfl := Option.some.inj hd
  rw [hce] at e2
  obtain ⟨s, hc, hs, _⟩ := DataW.trod_string he e2
  have hcs : cs.toList[i]? = some (.string s) := by
    have := congrArg (·[0]?) hc
    simpa [List.getElem?_take, List.getElem?_drop] using this
  rw [World.var?_cell h1 h3 i]
  have hcs' : cs[i]? = some (.string s) := by simpa using hcs
  rw [hcs']
  simp only [Prod.mk.injEq, DataW.lit.injEq, Lit.string.injEq] at hs
  rw [hs.1]
/-- A listed error: it is not nil. -/
theorem err_var {P : Program} {w : World} {name tn : String} {d : DataW Unit} {g t : Nat} {ms : Array (String × TypeId)} (h : Lib.VarReads P w name (.iface tn d)) (hg : P.globalNamed name = some g) (hty : (P.globals[g]?).map (·.type) = some t)
    (ht : P.underlying t = some (.interface ms)) : ∃ u v, w.var? P name = some #[.iface u v] := by
  obtain ⟨g', t', cs, fuel, p, h1, h2, h3, h4⟩ := h
  obtain rfl := Option.some.inj (hg.symm.trans h1)
  obtain rfl := Option.some.inj (hty.symm.trans h2)
  have key : ∀ l : List Value, DataW.trod (fun _ => ()) P w 0 (fun _ => true) false fuel t l = some (.iface tn d, p) → ∃ u v, l = [.iface u v] := by
    intro l hl
    cases fuel with
    | zero => simp [DataW.trod] at hl
    | succ fuel =>
      unfold DataW.trod at hl
      rw [ht] at hl
      split at hl <;> first | (simp_all; done) | skip
      all_goals rename_i hu _
      all_goals first
        | exact ⟨_, _, rfl⟩
        | (exfalso; simp_all)
  obtain ⟨u, v, e⟩ := key cs.toList h4
  refine ⟨u, v, ?_⟩
  rw [h3]
  congr 1
  apply Array.toList_inj.1
  rw [e]
open Go.ChangeMaps (open_string shut_string)
/-- A datum that is a table of whole numbers. -/
theorem tab_reads {P : Program} {w : World} {name : String} {k : IntKind} {zs : List Int} {d : DataW Unit} {g t e n : Nat} (h : Lib.VarReads P w name d) (hd : d = Lib.tabData k zs) (hg : P.globalNamed name = some g) (hty : (P.globals[g]?).map (·.type) = some t)
    (ht : P.underlying t = some (.array n e)) (he : P.underlying e = some (.int k)) (hce : P.cellsOf e = 1) (hct : P.cellsOf t = n) : Lib.TabIs P w name k zs := by
  subst hd
  obtain ⟨g', t', cs, fuel, p, h1, h2, h3, h4⟩ := h
  obtain rfl := Option.some.inj (hg.symm.trans h1)
  obtain rfl := Option.some.inj (hty.symm.trans h2)
  unfold Lib.TabIs
  rw [h3, ← Lib.cells_of_tab ht he hce hct h4]
section
variable {H : Type} {enc : TypeId × Value → H} {P : Program} {w : World} {base : Nat} {sp : Nat → Bool} {held : Bool}
theorem open_one {t n : Nat} {k : IntKind} {v : Value} {y : DataW H × List MemPlace} (ht : P.underlying t = some (.int k)) (h : DataW.trod enc P w base sp held n t [v] = some y) : ∃ x, v = .int k x ∧ (Lit.int k x).wf = true := by
  obtain ⟨x, hx, _, hw⟩ := DataW.trod_int ht h
  exact ⟨x, by simpa using hx, hw⟩
theorem trod_blocks {t : TypeId} {v : Value} {d : DataW H} {p : List MemPlace} (h : DataW.Trod enc P w base sp held t v d p) : ∀ x ∈ p, x.block < w.heap.size := by
  obtain ⟨m, hm⟩ := h
  exact DataW.trod_lt m _ _ _ hm
end
/-- What a card asks of the parameters. -/
theorem plain_in {P : Program} {name : String} {f : FuncId} {fn : Func} {lk : Bool} (hf : P.funcs[f]? = some fn) (hn : P.funcNamed name = some f) (hlk : lk = P.looks []) (hall : (fn.params.toList.all fun t => !P.wantsStandIn t) = true) :
    ∀ f' fn', P.funcNamed name = some f' → P.funcs[f']? = some fn' → lk = P.looks [] ∧ ∀ (j : Nat) t, fn'.params[j]? = some t → P.wantsStandIn t = false := by
  intro f' fn' h1 h2
  obtain rfl := Option.some.inj (hn.symm.trans h1)
  obtain rfl := Option.some.inj (hf.symm.trans h2)
  refine ⟨hlk, fun j t ht => ?_⟩
  have hm : t ∈ fn.params.toList := by simpa using Array.mem_of_getElem? ht
  simpa using List.all_eq_true.1 hall t hm
theorem lets_of {w : World} (h : Lib.VarReads Tryz.prog w "busbar/addr.letters" (.agg [.lit (.string [73]), .lit (.string [81]), .lit (.string [77])])) : Lets w :=
  ⟨strs_cells (g := 2) h (by kernel_rfl) (by kernel_rfl) Tryz.underlying119 Tryz.underlying9 (by kernel_rfl) 0 (by omega) [73] rfl,
   strs_cells (g := 2) h (by kernel_rfl) (by kernel_rfl) Tryz.underlying119 Tryz.underlying9 (by kernel_rfl) 1 (by omega) [81] rfl,
   strs_cells (g := 2) h (by kernel_rfl) (by kernel_rfl) Tryz.underlying119 Tryz.underlying9 (by kernel_rfl) 2 (by omega) [77] rfl⟩
theorem pows_of {w : World} {d : DataW Unit} (h : Lib.VarReads Tryz.prog w "internal/strconv.uint64pow10" d) (hd : d = Lib.tabData .u64 Lib.pow10Tab) : Pows w :=
  ⟨tab_reads (g := 8) h hd (by kernel_rfl) (by kernel_rfl) Tryz.underlying191 Tryz.underlying143 (by kernel_rfl) (by kernel_rfl)⟩
theorem errs_of {w : World} {n1 n2 : String} {d1 d2 : DataW Unit} (h1 : Lib.VarReads Tryz.prog w "strconv.ErrSyntax" (.iface n1 d1)) (h2 : Lib.VarReads Tryz.prog w "strconv.ErrRange" (.iface n2 d2)) : Errs w :=
  ⟨err_var (g := 11) h1 (by kernel_rfl) (by kernel_rfl) Tryz.underlying108, err_var (g := 12) h2 (by kernel_rfl) (by kernel_rfl) Tryz.underlying108⟩
end Go.Proofs.YtolmkdhgnganaaaGreatDoor.R
