/-
  What the claim's row leans on, part 3: The parser's line: the keyword is looked up, the line is checked, its method is called. lex.Lines: the walk. Parse, in plain words. parse.Parse. Texts, line by line: the lines of a text as lists of bytes, what of them lies ahead of a comment, and what Parse answers told over them. Parse's lines one by one, over the pieces of a text. The three capacities: as many rungs, contacts, coils as are let in, and one more. The example of the chapter: 'busbarlaw10.alive' answers true. The law of the jump targets, in plain words: k rungs, one of them with a jump. The plain laws of the address layer: Format and Parse are inverse to each other; a valid address has a textual form. No program in sight. 'busbarlaw10.ParseJumpTargets' answers true. From a row's listed variables to what the contracts ask of the world; and arguments laid open. No law in sight. A ladder among the arguments: from its reading to what the contracts ask. From a row's listed variables to what lex.Lines reads; the row's call with the world's shape.
-/
import Derived.Test.YtolmkdhgnganaaaDoorMgJumpb
set_option linter.unusedVariables false
set_option linter.unusedSimpArgs false
namespace Go.Proofs.YtolmkdhgnganaaaDoor.H
open Go Go.RowKit Go.Proofs Go.Proofs.YtolmkdhgnganaaaDoorW.PrintWords Go.Proofs.YtolmkdhgnganaaaDoor.Sp
/-- Which method a keyword has: 0 size, 1 rung, 2 jump, 3 a contact, 4 a coil. -/
def kindOf (x : ByteArray) : Option Nat :=
  if (x == ⟨#[115, 105, 122, 101]⟩) = true then some 0 else
  if (x == ⟨#[114, 117, 110, 103]⟩) = true then some 1 else
  if (x == ⟨#[106, 117, 109, 112]⟩) = true then some 2 else
  if (x == ⟨#[110, 111]⟩) = true then some 3 else
  if (x == ⟨#[110, 99]⟩) = true then some 3 else
  if (x == ⟨#[117, 112]⟩) = true then some 3 else
  if (x == ⟨#[100, 111, 119, 110]⟩) = true then some 3 else
  if (x == ⟨#[111, 117, 116]⟩) = true then some 4 else
  if (x == ⟨#[110, 111, 116]⟩) = true then some 4 else
  if (x == ⟨#[115, 101, 116]⟩) = true then some 4 else
  if (x == ⟨#[114, 101, 115, 101, 116]⟩) = true then some 4 else none
def wordK (gp : Nat) : Nat → Value
  | 0 => wordV gp 4 4 false false 65
  | 1 => wordV gp 1 2 true false 66
  | 2 => wordV gp 2 2 true true 67
  | 3 => wordV gp 4 4 true true 68
  | _ => wordV gp 2 2 true true 69
theorem tab_find (gp : Nat) (x : ByteArray) : ((tabW gp).find? (fun p => x == p.1)).map (·.2) = (kindOf x).map (wordK gp) := by
  unfold kindOf tabW
  simp only [List.find?_cons]
  repeat (split; · rename_i hq; simp only [hq, if_true]; rfl
          rename_i hq; simp only [hq, Bool.false_eq_true, if_false])
  rfl
theorem tab_look (gp : Nat) (x : ByteArray) (z : Value) : (match (tabW gp).find? (fun p => x == p.1) with | some p => Value.tuple #[p.2, .bool true] | none => Value.tuple #[z, .bool false]) =
    match kindOf x with | some k => Value.tuple #[wordK gp k, .bool true] | none => Value.tuple #[z, .bool false] := by
  have h := tab_find gp x
  cases hf : (tabW gp).find? (fun p => x == p.1) with
  | none => rw [hf] at h; cases hk : kindOf x with
    | none => rfl
    | some k => rw [hk] at h; cases h
  | some p => rw [hf] at h; cases hk : kindOf x with
    | none => rw [hk] at h; cases h
    | some k => rw [hk] at h; simp only [Option.map_some, Option.some.injEq] at h; simp only [h]
theorem kind_cases {x : ByteArray} {k : Nat} (h : kindOf x = some k) : k = 0 ∨ k = 1 ∨ k = 2 ∨ k = 3 ∨ k = 4 := by
  unfold kindOf at h
  repeat' split at h
  all_goals cases h
  all_goals simp
/-- What a line does. -/
def lineS (S : PSt) (n : Int) (ws : List ByteArray) : PSt × Int :=
  match kindOf (ws.getD 0 ⟨#[]⟩) with
  | none => (S, 8)
  | some 0 => if ws.length ≠ 4 then (S, 6) else sizeS S ws
  | some 1 => if 2 < ws.length then (S, 6) else if S.sized = false then (S, 11) else beginS S n ws
  | some 2 => if ws.length ≠ 2 then (S, 6) else if S.sized = false ∨ S.rungs.length = 0 then (S, 11) else jumpS S n ws
  | some 3 => if ws.length ≠ 4 then (S, 6) else if S.sized = false ∨ S.rungs.length = 0 then (S, 11) else conS S ws
  | some _ => if ws.length ≠ 2 then (S, 6) else if S.sized = false ∨ S.rungs.length = 0 then (S, 11) else coilS S ws
/-- No rung has too much. -/
def Caps (S : PSt) : Prop := ∀ r ∈ S.rungs, r.f1.length ≤ 256 ∧ r.f2.length ≤ 16
set_option maxHeartbeats 4000000 in
set_option maxRecDepth 100000 in
theorem line_p {B gp gm : Nat} {S : PSt} {vr vl vj : Value} {w : World} (h : PF B gp S vr vl vj w) (hm : MapIs w gm (tabW gp)) (n : Int) (b nw wc : Nat) (ws : List ByteArray) (hw : Kd.string.R 9 w B (fun _ => True) (.slice (some ⟨b, 0, none⟩) nw wc) ws)
    (hsz : ∀ j, (ws.getD j ⟨#[]⟩).size ≤ 65536) (hnw : 0 < nw) (hc : Caps S) (hE : Env B w) :
    Calls Tryd.prog 47 #[.pointer (some ⟨gp, 0, none⟩), .map (some gm), .agg #[.int .i64 n, .slice (some ⟨b, 0, none⟩) nw wc]] w (ParR B gp w (lineS S n ws)) := by
  have hlen : nw = ws.length := (Kd.R_reads' hw).1
  have HLen := Aside0.mk hlen
  generalize hr : lineS S n ws = r
  have HR := Aside0.mk hr
  have H := Aside0.mk h
  have HW := Aside0.mk hw
  have HEn := Aside0.mk hE
  have hb0 := below_alloc (Below.refl w.heap.size w) (.cells #[.int .i64 n, .slice (some ⟨b, 0, none⟩) nw wc] 97)
  have HB0 := Aside0.mk hb0
  have hlk := (hm.below hb0).look (s := ws.getD 0 ⟨#[]⟩) Tryd.underlying9 Tryd.underlying94 (z := .agg #[.int .i64 0, .int .i64 0, .bool false, .bool false, .nilFunc]) (by rfl)
  replace hlk := hlk.trans (congrArg (fun v => Result.ok v _) (tab_look gp (ws.getD 0 ⟨#[]⟩) _))
  have hz0 : (w.alloc (.cells #[.int .i64 n, .slice (some ⟨b, 0, none⟩) nw wc] 97)).cell? ⟨b, 0, none⟩ = some (.string (ws.getD 0 ⟨#[]⟩)) := words_cell (Kd.R_below hw hb0) 0 (by omega)
  have hnw' : (0 : Int) < nw := by omega
  cases hk : kindOf (ws.getD 0 ⟨#[]⟩) with
  | none =>
    rw [hk] at hlk
    obtain rfl : r = (S, 8) := by rw [← HR.out, lineS, hk]
    have HK := Aside0.mk hk
    generalize ws.getD 0 ⟨#[]⟩ = x0 at hz0 hlk
    clear h hw hE hlen hsz hc hk hr hm hb0
    go_enter Tryd.func47, Tryd.ntmps47
    go_wp2
    go_ret
    exact ⟨rfl, KP.of_below H.out.sz (below_alloc HB0.out _), fun e => by cases e⟩
  | some k =>
    rw [hk] at hlk
    have HK := Aside0.mk hk
    have hcs := kind_cases hk
    generalize ws.getD 0 ⟨#[]⟩ = x0 at hz0 hlk
    clear h hw hE hlen hk hr hm hb0
    have HSz := Aside0.mk hsz
    have HC := Aside0.mk hc
    clear hsz hc
    rcases hcs with rfl | rfl | rfl | rfl | rfl
    · simp only [wordK, wordV] at hlk
      have hb1 := below_alloc HB0.out (.cells #[.int .i64 4, .int .i64 4, .bool false, .bool false, .func (.func 65) #[.pointer (some ⟨gp, 0, none⟩)] #[]] 119)
      have HB1 := Aside0.mk hb1
      have KL := Aside0.mk (blk_alloc (blk_new w (.cells #[.int .i64 n, .slice (some ⟨b, 0, none⟩) nw wc] 97)) (.cells #[.int .i64 4, .int .i64 4, .bool false, .bool false, .func (.func 65) #[.pointer (some ⟨gp, 0, none⟩)] #[]] 119))
      have KW := Aside0.mk (blk_new (w.alloc (.cells #[.int .i64 n, .slice (some ⟨b, 0, none⟩) nw wc] 97)) (.cells #[.int .i64 4, .int .i64 4, .bool false, .bool false, .func (.func 65) #[.pointer (some ⟨gp, 0, none⟩)] #[]] 119))
      have H1 := Aside0.mk (H.out.below hb1)
      have HW1 := Aside0.mk (Kd.R_below HW.out hb1)
      have HE1 := Aside0.mk (HEn.out.step (hb1.mono H.out.sz))
      clear hb1
      go_enter Tryd.func47, Tryd.ntmps47
      go_upto_block 0 with fail
      generalize hw1 : ((w.alloc (.cells #[.int .i64 n, .slice (some ⟨b, 0, none⟩) nw wc] 97)).alloc (.cells #[.int .i64 4, .int .i64 4, .bool false, .bool false, .func (.func 65) #[.pointer (some ⟨gp, 0, none⟩)] #[]] 119)) = w1 at HB1 KL KW H1 HW1 HE1 ⊢
      have hgx : (w.alloc (.cells #[.int .i64 n, .slice (some ⟨b, 0, none⟩) nw wc] 97)).heap.size = w.heap.size + 1 := by simp
      rw [hgx] at KW
      generalize w.heap.size + 1 = gx at KW ⊢
      generalize hgl : w.heap.size = gl at KL ⊢
      clear hw1 hgx hlk hz0 HB0
      have a1 : w1.cell? ⟨gl, 1, none⟩ = some (.slice (some ⟨b, 0, none⟩) nw wc) := blk_cell KL.out 1
      have a0 : w1.cell? ⟨gl, 0, none⟩ = some (.int .i64 n) := blk_cell KL.out 0
      have b0 : w1.cell? ⟨gx, 0, none⟩ = some (.int .i64 4) := blk_cell KW.out 0
      have b1 : w1.cell? ⟨gx, 1, none⟩ = some (.int .i64 4) := blk_cell KW.out 1
      have b2 : w1.cell? ⟨gx, 2, none⟩ = some (.bool false) := blk_cell KW.out 2
      have b3 : w1.cell? ⟨gx, 3, none⟩ = some (.bool false) := blk_cell KW.out 3
      have b4 : w1.cell? ⟨gx, 4, none⟩ = some (.func (.func 65) #[.pointer (some ⟨gp, 0, none⟩)] #[]) := blk_cell KW.out 4
      have p3 := H1.out.cells.2.2.2.1
      have p4 := H1.out.cells.2.2.2.2.1
      clear hgl
      by_cases h4 : nw = 4
      · subst h4
        have HCall := Aside0.mk (size_p H1.out n b wc ws HW1.out HSz.out HE1.out)
        rw [show sizeS S ws = r by rw [← HR.out, lineS, HK.out]; simp only []; rw [if_neg (by rw [← HLen.out]; simp)]] at HCall
        go_wp2_with fail
        refine HCall.out.mono ?_
        rintro e w2 ⟨rfl, hk, hp⟩
        go_wp2
        go_ret
        exact ⟨rfl, (KP.of_below H.out.sz HB1.out).trans hk, hp⟩
      · by_cases hlt : (nw : Int) < 4
        · have hltb : decide ((nw : Int) < 4) = true := by simpa using hlt
          obtain rfl : r = (S, 6) := by rw [← HR.out, lineS, HK.out]; simp only []; rw [if_pos (by rw [← HLen.out]; omega)]
          go_wp2
          go_ret
          exact ⟨rfl, KP.of_below H.out.sz HB1.out, fun e => by cases e⟩
        · have hltb : decide ((nw : Int) < 4) = false := by simpa using hlt
          have hgtb : decide ((4 : Int) < nw) = true := by simp; omega
          obtain rfl : r = (S, 6) := by rw [← HR.out, lineS, HK.out]; simp only []; rw [if_pos (by rw [← HLen.out]; omega)]
          go_wp2
          go_ret
          exact ⟨rfl, KP.of_below H.out.sz HB1.out, fun e => by cases e⟩
    · simp only [wordK, wordV] at hlk
      have hb1 := below_alloc HB0.out (.cells #[.int .i64 1, .int .i64 2, .bool true, .bool false, .func (.func 66) #[.pointer (some ⟨gp, 0, none⟩)] #[]] 119)
      have HB1 := Aside0.mk hb1
      have KL := Aside0.mk (blk_alloc (blk_new w (.cells #[.int .i64 n, .slice (some ⟨b, 0, none⟩) nw wc] 97)) (.cells #[.int .i64 1, .int .i64 2, .bool true, .bool false, .func (.func 66) #[.pointer (some ⟨gp, 0, none⟩)] #[]] 119))
      have KW := Aside0.mk (blk_new (w.alloc (.cells #[.int .i64 n, .slice (some ⟨b, 0, none⟩) nw wc] 97)) (.cells #[.int .i64 1, .int .i64 2, .bool true, .bool false, .func (.func 66) #[.pointer (some ⟨gp, 0, none⟩)] #[]] 119))
      have H1 := Aside0.mk (H.out.below hb1)
      have HW1 := Aside0.mk (Kd.R_below HW.out hb1)
      have HE1 := Aside0.mk (HEn.out.step (hb1.mono H.out.sz))
      clear hb1
      go_enter Tryd.func47, Tryd.ntmps47
      go_upto_block 0 with fail
      generalize hw1 : ((w.alloc (.cells #[.int .i64 n, .slice (some ⟨b, 0, none⟩) nw wc] 97)).alloc (.cells #[.int .i64 1, .int .i64 2, .bool true, .bool false, .func (.func 66) #[.pointer (some ⟨gp, 0, none⟩)] #[]] 119)) = w1 at HB1 KL KW H1 HW1 HE1 ⊢
      have hgx : (w.alloc (.cells #[.int .i64 n, .slice (some ⟨b, 0, none⟩) nw wc] 97)).heap.size = w.heap.size + 1 := by simp
      rw [hgx] at KW
      generalize w.heap.size + 1 = gx at KW ⊢
      generalize hgl : w.heap.size = gl at KL ⊢
      clear hw1 hgx hlk hz0 HB0
      have a1 : w1.cell? ⟨gl, 1, none⟩ = some (.slice (some ⟨b, 0, none⟩) nw wc) := blk_cell KL.out 1
      have a0 : w1.cell? ⟨gl, 0, none⟩ = some (.int .i64 n) := blk_cell KL.out 0
      have b0 : w1.cell? ⟨gx, 0, none⟩ = some (.int .i64 1) := blk_cell KW.out 0
      have b1 : w1.cell? ⟨gx, 1, none⟩ = some (.int .i64 2) := blk_cell KW.out 1
      have b2 : w1.cell? ⟨gx, 2, none⟩ = some (.bool true) := blk_cell KW.out 2
      have b3 : w1.cell? ⟨gx, 3, none⟩ = some (.bool false) := blk_cell KW.out 3
      have b4 : w1.cell? ⟨gx, 4, none⟩ = some (.func (.func 66) #[.pointer (some ⟨gp, 0, none⟩)] #[]) := blk_cell KW.out 4
      have p3 := H1.out.cells.2.2.2.1
      have p4 := H1.out.cells.2.2.2.2.1
      clear hgl
      have hltb : decide ((nw : Int) < 1) = false := by simp; omega
      by_cases h4 : (2 : Int) < nw
      · have hgtb : decide ((2 : Int) < nw) = true := by simpa using h4
        obtain rfl : r = (S, 6) := by rw [← HR.out, lineS, HK.out]; simp only []; rw [if_pos (by rw [← HLen.out]; omega)]
        go_wp2
        go_ret
        exact ⟨rfl, KP.of_below H.out.sz HB1.out, fun e => by cases e⟩
      · have hgtb : decide ((2 : Int) < nw) = false := by simpa using h4
        have H4 := Aside0.mk h4
        clear h4
        cases hs : S.sized with
        | false =>
          rw [hs] at p4
          obtain rfl : r = (S, 11) := by rw [← HR.out, lineS, HK.out]; simp only []; rw [if_neg (by rw [← HLen.out]; have := H4.out; omega), if_pos hs]
          go_wp2
          go_ret
          exact ⟨rfl, KP.of_below H.out.sz HB1.out, fun e => by cases e⟩
        | true =>
          rw [hs] at p4
          have HS := Aside0.mk hs
          clear hs
          have HCall := Aside0.mk (begin_p H1.out n b nw wc ws HW1.out HSz.out HE1.out)
          rw [show beginS S n ws = r by rw [← HR.out, lineS, HK.out]; simp only []; rw [if_neg (by rw [← HLen.out]; have := H4.out; omega), if_neg (by rw [HS.out]; simp)]] at HCall
          go_wp2_with fail
          refine HCall.out.mono ?_
          rintro e w2 ⟨rfl, hk, hp⟩
          go_wp2
          go_ret
          exact ⟨rfl, (KP.of_below H.out.sz HB1.out).trans hk, hp⟩
    · simp only [wordK, wordV] at hlk
      have hb1 := below_alloc HB0.out (.cells #[.int .i64 2, .int .i64 2, .bool true, .bool true, .func (.func 67) #[.pointer (some ⟨gp, 0, none⟩)] #[]] 119)
      have HB1 := Aside0.mk hb1
      have KL := Aside0.mk (blk_alloc (blk_new w (.cells #[.int .i64 n, .slice (some ⟨b, 0, none⟩) nw wc] 97)) (.cells #[.int .i64 2, .int .i64 2, .bool true, .bool true, .func (.func 67) #[.pointer (some ⟨gp, 0, none⟩)] #[]] 119))
      have KW := Aside0.mk (blk_new (w.alloc (.cells #[.int .i64 n, .slice (some ⟨b, 0, none⟩) nw wc] 97)) (.cells #[.int .i64 2, .int .i64 2, .bool true, .bool true, .func (.func 67) #[.pointer (some ⟨gp, 0, none⟩)] #[]] 119))
      have H1 := Aside0.mk (H.out.below hb1)
      have HW1 := Aside0.mk (Kd.R_below HW.out hb1)
      have HE1 := Aside0.mk (HEn.out.step (hb1.mono H.out.sz))
      clear hb1
      go_enter Tryd.func47, Tryd.ntmps47
      go_upto_block 0 with fail
      generalize hw1 : ((w.alloc (.cells #[.int .i64 n, .slice (some ⟨b, 0, none⟩) nw wc] 97)).alloc (.cells #[.int .i64 2, .int .i64 2, .bool true, .bool true, .func (.func 67) #[.pointer (some ⟨gp, 0, none⟩)] #[]] 119)) = w1 at HB1 KL KW H1 HW1 HE1 ⊢
      have hgx : (w.alloc (.cells #[.int .i64 n, .slice (some ⟨b, 0, none⟩) nw wc] 97)).heap.size = w.heap.size + 1 := by simp
      rw [hgx] at KW
      generalize w.heap.size + 1 = gx at KW ⊢
      generalize hgl : w.heap.size = gl at KL ⊢
      clear hw1 hgx hlk hz0 HB0
      have a1 : w1.cell? ⟨gl, 1, none⟩ = some (.slice (some ⟨b, 0, none⟩) nw wc) := blk_cell KL.out 1
      have a0 : w1.cell? ⟨gl, 0, none⟩ = some (.int .i64 n) := blk_cell KL.out 0
      have b0 : w1.cell? ⟨gx, 0, none⟩ = some (.int .i64 2) := blk_cell KW.out 0
      have b1 : w1.cell? ⟨gx, 1, none⟩ = some (.int .i64 2) := blk_cell KW.out 1
      have b2 : w1.cell? ⟨gx, 2, none⟩ = some (.bool true) := blk_cell KW.out 2
      have b3 : w1.cell? ⟨gx, 3, none⟩ = some (.bool true) := blk_cell KW.out 3
      have b4 : w1.cell? ⟨gx, 4, none⟩ = some (.func (.func 67) #[.pointer (some ⟨gp, 0, none⟩)] #[]) := blk_cell KW.out 4
      have p3 := H1.out.cells.2.2.2.1
      have p4 := H1.out.cells.2.2.2.2.1
      clear hgl
      by_cases h4 : nw = 2
      · subst h4
        cases hs : S.sized with
        | false =>
          rw [hs] at p4
          obtain rfl : r = (S, 11) := by rw [← HR.out, lineS, HK.out]; simp only []; rw [if_neg (by rw [← HLen.out]; simp), if_pos (.inl hs)]
          go_wp2
          go_ret
          exact ⟨rfl, KP.of_below H.out.sz HB1.out, fun e => by cases e⟩
        | true =>
          rw [hs] at p4
          have HS := Aside0.mk hs
          clear hs
          obtain ⟨A, c, e, -, -⟩ := Kd.S_reads H1.out.r
          subst e
          by_cases h0 : (S.rungs.length : Int) = 0
          · have h0b : ((S.rungs.length : Int) == 0) = true := by simpa using h0
            have H0 := Aside0.mk h0
            clear h0
            obtain rfl : r = (S, 11) := by rw [← HR.out, lineS, HK.out]; simp only []; rw [if_neg (by rw [← HLen.out]; simp), if_pos (.inr (by have := H0.out; omega))]
            go_wp2
            go_ret
            exact ⟨rfl, KP.of_below H.out.sz HB1.out, fun e => by cases e⟩
          · have h0b : ((S.rungs.length : Int) == 0) = false := by simpa using h0
            have hin : Aside0 (0 < S.rungs.length) := ⟨by omega⟩
            clear h0
            have HCall := Aside0.mk (jump_p H1.out n b wc ws HW1.out hin.out)
            rw [show jumpS S n ws = r by rw [← HR.out, lineS, HK.out]; simp only []; rw [if_neg (by rw [← HLen.out]; simp), if_neg (by rw [HS.out]; simp; have := hin.out; intro h; rw [h] at this; simp at this)]] at HCall
            go_wp2_with fail
            refine HCall.out.mono ?_
            rintro e w2 ⟨rfl, hk, hp⟩
            go_wp2
            go_ret
            exact ⟨rfl, (KP.of_below H.out.sz HB1.out).trans hk, hp⟩
      · by_cases hlt : (nw : Int) < 2
        · have hltb : decide ((nw : Int) < 2) = true := by simpa using hlt
          obtain rfl : r = (S, 6) := by rw [← HR.out, lineS, HK.out]; simp only []; rw [if_pos (by rw [← HLen.out]; omega)]
          go_wp2
          go_ret
          exact ⟨rfl, KP.of_below H.out.sz HB1.out, fun e => by cases e⟩
        · have hltb : decide ((nw : Int) < 2) = false := by simpa using hlt
          have hgtb : decide ((2 : Int) < nw) = true := by simp; omega
          obtain rfl : r = (S, 6) := by rw [← HR.out, lineS, HK.out]; simp only []; rw [if_pos (by rw [← HLen.out]; omega)]
          go_wp2
          go_ret
          exact ⟨rfl, KP.of_below H.out.sz HB1.out, fun e => by cases e⟩
    · simp only [wordK, wordV] at hlk
      have hb1 := below_alloc HB0.out (.cells #[.int .i64 4, .int .i64 4, .bool true, .bool true, .func (.func 68) #[.pointer (some ⟨gp, 0, none⟩)] #[]] 119)
      have HB1 := Aside0.mk hb1
      have KL := Aside0.mk (blk_alloc (blk_new w (.cells #[.int .i64 n, .slice (some ⟨b, 0, none⟩) nw wc] 97)) (.cells #[.int .i64 4, .int .i64 4, .bool true, .bool true, .func (.func 68) #[.pointer (some ⟨gp, 0, none⟩)] #[]] 119))
      have KW := Aside0.mk (blk_new (w.alloc (.cells #[.int .i64 n, .slice (some ⟨b, 0, none⟩) nw wc] 97)) (.cells #[.int .i64 4, .int .i64 4, .bool true, .bool true, .func (.func 68) #[.pointer (some ⟨gp, 0, none⟩)] #[]] 119))
      have H1 := Aside0.mk (H.out.below hb1)
      have HW1 := Aside0.mk (Kd.R_below HW.out hb1)
      have HE1 := Aside0.mk (HEn.out.step (hb1.mono H.out.sz))
      clear hb1
      go_enter Tryd.func47, Tryd.ntmps47
      go_upto_block 0 with fail
      generalize hw1 : ((w.alloc (.cells #[.int .i64 n, .slice (some ⟨b, 0, none⟩) nw wc] 97)).alloc (.cells #[.int .i64 4, .int .i64 4, .bool true, .bool true, .func (.func 68) #[.pointer (some ⟨gp, 0, none⟩)] #[]] 119)) = w1 at HB1 KL KW H1 HW1 HE1 ⊢
      have hgx : (w.alloc (.cells #[.int .i64 n, .slice (some ⟨b, 0, none⟩) nw wc] 97)).heap.size = w.heap.size + 1 := by simp
      rw [hgx] at KW
      generalize w.heap.size + 1 = gx at KW ⊢
      generalize hgl : w.heap.size = gl at KL ⊢
      clear hw1 hgx hlk hz0 HB0
      have a1 : w1.cell? ⟨gl, 1, none⟩ = some (.slice (some ⟨b, 0, none⟩) nw wc) := blk_cell KL.out 1
      have a0 : w1.cell? ⟨gl, 0, none⟩ = some (.int .i64 n) := blk_cell KL.out 0
      have b0 : w1.cell? ⟨gx, 0, none⟩ = some (.int .i64 4) := blk_cell KW.out 0
      have b1 : w1.cell? ⟨gx, 1, none⟩ = some (.int .i64 4) := blk_cell KW.out 1
      have b2 : w1.cell? ⟨gx, 2, none⟩ = some (.bool true) := blk_cell KW.out 2
      have b3 : w1.cell? ⟨gx, 3, none⟩ = some (.bool true) := blk_cell KW.out 3
      have b4 : w1.cell? ⟨gx, 4, none⟩ = some (.func (.func 68) #[.pointer (some ⟨gp, 0, none⟩)] #[]) := blk_cell KW.out 4
      have p3 := H1.out.cells.2.2.2.1
      have p4 := H1.out.cells.2.2.2.2.1
      clear hgl
      by_cases h4 : nw = 4
      · subst h4
        cases hs : S.sized with
        | false =>
          rw [hs] at p4
          obtain rfl : r = (S, 11) := by rw [← HR.out, lineS, HK.out]; simp only []; rw [if_neg (by rw [← HLen.out]; simp), if_pos (.inl hs)]
          go_wp2
          go_ret
          exact ⟨rfl, KP.of_below H.out.sz HB1.out, fun e => by cases e⟩
        | true =>
          rw [hs] at p4
          have HS := Aside0.mk hs
          clear hs
          obtain ⟨A, c, e, -, -⟩ := Kd.S_reads H1.out.r
          subst e
          by_cases h0 : (S.rungs.length : Int) = 0
          · have h0b : ((S.rungs.length : Int) == 0) = true := by simpa using h0
            have H0 := Aside0.mk h0
            clear h0
            obtain rfl : r = (S, 11) := by rw [← HR.out, lineS, HK.out]; simp only []; rw [if_neg (by rw [← HLen.out]; simp), if_pos (.inr (by have := H0.out; omega))]
            go_wp2
            go_ret
            exact ⟨rfl, KP.of_below H.out.sz HB1.out, fun e => by cases e⟩
          · have h0b : ((S.rungs.length : Int) == 0) = false := by simpa using h0
            have hin : Aside0 (0 < S.rungs.length) := ⟨by omega⟩
            clear h0
            have HCall := Aside0.mk (con_p H1.out n b wc ws HW1.out HSz.out hin.out (fun r hr => (HC.out r hr).1) HE1.out)
            rw [show conS S ws = r by rw [← HR.out, lineS, HK.out]; simp only []; rw [if_neg (by rw [← HLen.out]; simp), if_neg (by rw [HS.out]; simp; have := hin.out; intro h; rw [h] at this; simp at this)]] at HCall
            go_wp2_with fail
            refine HCall.out.mono ?_
            rintro e w2 ⟨rfl, hk, hp⟩
            go_wp2
            go_ret
            exact ⟨rfl, (KP.of_below H.out.sz HB1.out).trans hk, hp⟩
      · by_cases hlt : (nw : Int) < 4
        · have hltb : decide ((nw : Int) < 4) = true := by simpa using hlt
          obtain rfl : r = (S, 6) := by rw [← HR.out, lineS, HK.out]; simp only []; rw [if_pos (by rw [← HLen.out]; omega)]
          go_wp2
          go_ret
          exact ⟨rfl, KP.of_below H.out.sz HB1.out, fun e => by cases e⟩
        · have hltb : decide ((nw : Int) < 4) = false := by simpa using hlt
          have hgtb : decide ((4 : Int) < nw) = true := by simp; omega
          obtain rfl : r = (S, 6) := by rw [← HR.out, lineS, HK.out]; simp only []; rw [if_pos (by rw [← HLen.out]; omega)]
          go_wp2
          go_ret
          exact ⟨rfl, KP.of_below H.out.sz HB1.out, fun e => by cases e⟩
    · simp only [wordK, wordV] at hlk
      have hb1 := below_alloc HB0.out (.cells #[.int .i64 2, .int .i64 2, .bool true, .bool true, .func (.func 69) #[.pointer (some ⟨gp, 0, none⟩)] #[]] 119)
      have HB1 := Aside0.mk hb1
      have KL := Aside0.mk (blk_alloc (blk_new w (.cells #[.int .i64 n, .slice (some ⟨b, 0, none⟩) nw wc] 97)) (.cells #[.int .i64 2, .int .i64 2, .bool true, .bool true, .func (.func 69) #[.pointer (some ⟨gp, 0, none⟩)] #[]] 119))
      have KW := Aside0.mk (blk_new (w.alloc (.cells #[.int .i64 n, .slice (some ⟨b, 0, none⟩) nw wc] 97)) (.cells #[.int .i64 2, .int .i64 2, .bool true, .bool true, .func (.func 69) #[.pointer (some ⟨gp, 0, none⟩)] #[]] 119))
      have H1 := Aside0.mk (H.out.below hb1)
      have HW1 := Aside0.mk (Kd.R_below HW.out hb1)
      have HE1 := Aside0.mk (HEn.out.step (hb1.mono H.out.sz))
      clear hb1
      go_enter Tryd.func47, Tryd.ntmps47
      go_upto_block 0 with fail
      generalize hw1 : ((w.alloc (.cells #[.int .i64 n, .slice (some ⟨b, 0, none⟩) nw wc] 97)).alloc (.cells #[.int .i64 2, .int .i64 2, .bool true, .bool true, .func (.func 69) #[.pointer (some ⟨gp, 0, none⟩)] #[]] 119)) = w1 at HB1 KL KW H1 HW1 HE1 ⊢
      have hgx : (w.alloc (.cells #[.int .i64 n, .slice (some ⟨b, 0, none⟩) nw wc] 97)).heap.size = w.heap.size + 1 := by simp
      rw [hgx] at KW
      generalize w.heap.size + 1 = gx at KW ⊢
      generalize hgl : w.heap.size = gl at KL ⊢
      clear hw1 hgx hlk hz0 HB0
      have a1 : w1.cell? ⟨gl, 1, none⟩ = some (.slice (some ⟨b, 0, none⟩) nw wc) := blk_cell KL.out 1
      have a0 : w1.cell? ⟨gl, 0, none⟩ = some (.int .i64 n) := blk_cell KL.out 0
      have b0 : w1.cell? ⟨gx, 0, none⟩ = some (.int .i64 2) := blk_cell KW.out 0
      have b1 : w1.cell? ⟨gx, 1, none⟩ = some (.int .i64 2) := blk_cell KW.out 1
      have b2 : w1.cell? ⟨gx, 2, none⟩ = some (.bool true) := blk_cell KW.out 2
      have b3 : w1.cell? ⟨gx, 3, none⟩ = some (.bool true) := blk_cell KW.out 3
      have b4 : w1.cell? ⟨gx, 4, none⟩ = some (.func (.func 69) #[.pointer (some ⟨gp, 0, none⟩)] #[]) := blk_cell KW.out 4
      have p3 := H1.out.cells.2.2.2.1
      have p4 := H1.out.cells.2.2.2.2.1
      clear hgl
      by_cases h4 : nw = 2
      · subst h4
        cases hs : S.sized with
        | false =>
          rw [hs] at p4
          obtain rfl : r = (S, 11) := by rw [← HR.out, lineS, HK.out]; simp only []; rw [if_neg (by rw [← HLen.out]; simp), if_pos (.inl hs)]
          go_wp2
          go_ret
          exact ⟨rfl, KP.of_below H.out.sz HB1.out, fun e => by cases e⟩
        | true =>
          rw [hs] at p4
          have HS := Aside0.mk hs
          clear hs
          obtain ⟨A, c, e, -, -⟩ := Kd.S_reads H1.out.r
          subst e
          by_cases h0 : (S.rungs.length : Int) = 0
          · have h0b : ((S.rungs.length : Int) == 0) = true := by simpa using h0
            have H0 := Aside0.mk h0
            clear h0
            obtain rfl : r = (S, 11) := by rw [← HR.out, lineS, HK.out]; simp only []; rw [if_neg (by rw [← HLen.out]; simp), if_pos (.inr (by have := H0.out; omega))]
            go_wp2
            go_ret
            exact ⟨rfl, KP.of_below H.out.sz HB1.out, fun e => by cases e⟩
          · have h0b : ((S.rungs.length : Int) == 0) = false := by simpa using h0
            have hin : Aside0 (0 < S.rungs.length) := ⟨by omega⟩
            clear h0
            have HCall := Aside0.mk (coil_p H1.out n b wc ws HW1.out HSz.out hin.out (fun r hr => (HC.out r hr).2) HE1.out)
            rw [show coilS S ws = r by rw [← HR.out, lineS, HK.out]; simp only []; rw [if_neg (by rw [← HLen.out]; simp), if_neg (by rw [HS.out]; simp; have := hin.out; intro h; rw [h] at this; simp at this)]] at HCall
            go_wp2_with fail
            refine HCall.out.mono ?_
            rintro e w2 ⟨rfl, hk, hp⟩
            go_wp2
            go_ret
            exact ⟨rfl, (KP.of_below H.out.sz HB1.out).trans hk, hp⟩
      · by_cases hlt : (nw : Int) < 2
        · have hltb : decide ((nw : Int) < 2) = true := by simpa using hlt
          obtain rfl : r = (S, 6) := by rw [← HR.out, lineS, HK.out]; simp only []; rw [if_pos (by rw [← HLen.out]; omega)]
          go_wp2
          go_ret
          exact ⟨rfl, KP.of_below H.out.sz HB1.out, fun e => by cases e⟩
        · have hltb : decide ((nw : Int) < 2) = false := by simpa using hlt
          have hgtb : decide ((2 : Int) < nw) = true := by simp; omega
          obtain rfl : r = (S, 6) := by rw [← HR.out, lineS, HK.out]; simp only []; rw [if_pos (by rw [← HLen.out]; omega)]
          go_wp2
          go_ret
          exact ⟨rfl, KP.of_below H.out.sz HB1.out, fun e => by cases e⟩
end Go.Proofs.YtolmkdhgnganaaaDoor.H
namespace Go.Proofs.YtolmkdhgnganaaaDoor.H
open Go Go.RowKit Go.Shelf Go.Proofs Go.Proofs.YtolmkdhgnganaaaDoorW.PrintWords Go.Proofs.YtolmkdhgnganaaaDoor.Sp
attribute [local go_sem] Oper.semAt_some
def cnts (s : ByteArray) : List (Int × ByteArray) := upN (cntAt s) (pieces s).length
/-- What Lines answers for a text that is not too long. -/
def LinesR (s : ByteArray) (w : World) (e : Ending) (w' : World) : Prop :=
  Below w.heap.size w w' ∧
    ((allPl (cnts s) ∧ ∃ A c, e = .returned (.tuple #[.slice A (lnsOf (cnts s)).length c, .int .i64 0, .int .i64 0]) ∧ kLine.R 97 w' w.heap.size (fun _ => True) (.slice A (lnsOf (cnts s)).length c) (lnsOf (cnts s))) ∨
     (∃ k, k < (pieces s).length ∧ allPl (upN (cntAt s) k) ∧ isPl (cntAt s k).2.data.toList = false ∧ e = .returned (.tuple #[.slice none 0 0, .int .i64 (k + 1), .int .i64 6])))
theorem upN_val (s : ByteArray) (hs : s.size ≤ 65536) (k : Nat) : (upN (cntX s hs) k).map (·.1) = upN (cntAt s) k := by
  simp [upN, Function.comp_def, cntX]
/-- Behind the loop: its block for deferred calls is taken down. -/
theorem R_put_obj {W : World} {B D : Nat} {v : Value} {xs : List Ln} (h : kLine.R 97 W B (fun _ => True) v xs) {o o' : Obj} (hK : W.heap[D]? = some o) (hc : o.isCells = false) : kLine.R 97 (W.putObj D o') B (fun _ => True) v xs := by
  refine Kd.R_mono (Kd.R_move (Kd.R_bound h) (fun k hk => (grownBy_putObj' W D o').block k hk.2.2.1 (fun e => ?_))) (fun _ _ => trivial)
  cases e
  obtain ⟨q, _, cells, hq⟩ := hk.2.2.2
  rw [hK] at hq
  cases hq
  cases hc
set_option maxRecDepth 100000 in
set_option maxHeartbeats 4000000 in
theorem lines_in (s : ByteArray) (w : World) (hs : s.size ≤ 65536) (hG : LexG w) : CallsIn Fence.wide 6 Tryd.prog 45 #[.string s] w (LinesR s w) := by
  have HG := Aside0.mk hG
  obtain ⟨m, hm⟩ := hG.mx
  have hmB := World.block_lt_of_cell? w _ hm
  have HM := Aside0.mk hm
  have hsz : ¬ (65536 : Int) < (s.size : Int) := by omega
  have h3 : 8 < w.heap.size := hmB
  clear hm hG hmB
  refine callsIn_of_wp_marks Tryd.func45 rfl trivial ?_ rfl
  simp only [Tryd.ntmps45, List.size_toArray, List.length_cons, List.length_nil, Nat.reduceAdd, Nat.reduceSub, Array.replicate_succ, Array.replicate_zero, List.push_toArray, List.append_toArray, List.nil_append, List.cons_append]
  gi_wp2
  refine ⟨trivial, ?_⟩
  refine (callsIn_wide.2 (counts_b s _)).mono ?_
  rintro e w' ⟨rfl, rfl⟩
  have HI0 : LnI w [] (((((w.alloc (.cells #[.slice none 0 0] 88)).alloc (.cells #[.int .i64 0] 3)).alloc (.cells #[.int .i64 0] 27)).alloc (.cells #[.slice none 0 0] 88)).alloc (.cells #[.string s] 9)) := by
    refine ⟨below_alloc (below_alloc (below_alloc (below_alloc (below_alloc (Below.refl _ _) _) _) _) _) _, blk_alloc (blk_alloc (blk_alloc (blk_alloc (blk_new _ _) _) _) _) _, ?_, ?_, ⟨.slice none 0 0, ?_, Kd.R_nil _ _ _ _ _⟩, fun p hp => by cases hp⟩
    · have := blk_new (w.alloc (.cells #[.slice none 0 0] 88)) (.cells #[.int .i64 0] 3)
      rw [World.size_alloc] at this
      exact blk_alloc (blk_alloc (blk_alloc this _) _) _
    · have := blk_new ((w.alloc (.cells #[.slice none 0 0] 88)).alloc (.cells #[.int .i64 0] 3)) (.cells #[.int .i64 0] 27)
      rw [World.size_alloc, World.size_alloc] at this
      exact blk_alloc (blk_alloc this _) _
    · have := blk_new (((w.alloc (.cells #[.slice none 0 0] 88)).alloc (.cells #[.int .i64 0] 3)).alloc (.cells #[.int .i64 0] 27)) (.cells #[.slice none 0 0] 88)
      rw [World.size_alloc, World.size_alloc, World.size_alloc] at this
      exact blk_alloc this _
  have hbx := blk_new ((((w.alloc (.cells #[.slice none 0 0] 88)).alloc (.cells #[.int .i64 0] 3)).alloc (.cells #[.int .i64 0] 27)).alloc (.cells #[.slice none 0 0] 88)) (.cells #[.string s] 9)
  gi_wp2
  generalize hW0 : ((((w.alloc (.cells #[.slice none 0 0] 88)).alloc (.cells #[.int .i64 0] 3)).alloc (.cells #[.int .i64 0] 27)).alloc (.cells #[.slice none 0 0] 88)).alloc (.cells #[.string s] 9) = W0 at HI0 hbx ⊢
  have hsW : W0.heap.size = w.heap.size + 5 := by rw [← hW0]; simp only [World.size_alloc]
  simp only [World.size_alloc] at hbx
  clear hW0
  have HM0 := pw_cell_below HI0.b HM.out
  refine wpIn_rangeFunc_ownF (w := W0) rfl (by decide) (gf := 79) (lb := #[.pointer (some ⟨w.heap.size + 1 + 1 + 1 + 1, 0, none⟩)]) rfl trivial (enters_of Tryd.func79 (by kernel_rfl) rfl)
    (counts_stops w.heap.size (w.heap.size + 1 + 1 + 1 + 1) 5 s m W0 (by omega) h3 hs HM0 hbx) Kr.trans (Kr.put (by omega)) (Below.refl _ _) (fun _ => rfl)
    (LnI w) (fun c pre W => c = .ret ∧ LnX w pre W)
    (fun s W W' row h hg hr => LnI.own w s W W' row h hg (fun r e => ⟨by have := (hr r e).1; omega, (hr r e).2⟩))
    (fun c s W W' row h hg hr => ⟨h.1, LnX.own w s W W' row h.2 hg (fun r e => ⟨by have := (hr r e).1; omega, (hr r e).2⟩)⟩)
    HI0
    (fun x => { tmps := #[.string s, undef, .pointer (some ⟨w.heap.size, 0, none⟩), .pointer (some ⟨w.heap.size + 1, 0, none⟩), .pointer (some ⟨w.heap.size + 1 + 1, 0, none⟩), .pointer (some ⟨w.heap.size + 1 + 1 + 1, 0, none⟩), .int .i64 x.1.1, .string x.1.2, undef, .string s, .int .i64 s.size, .bool false, .string s, .func (.func 79) #[] #[.pointer (some ⟨w.heap.size + 1 + 1 + 1 + 1, 0, none⟩)], .int .i64 x.1.1, .string x.1.2, undef, undef, undef, undef, undef, undef, undef, undef, undef, undef, undef, undef, undef, undef, undef, undef], defers := [] }) ?assign ?body ?done ?stop
  case assign =>
    intro l x W K hK
    gi_wp2
    exact hK
  case body =>
    rintro l pre ⟨⟨n, x⟩, hx⟩ W hI hlen
    dsimp only at hx ⊢
    have HI := Aside0.mk hI
    clear hI
    cases hpl : isPl x.data.toList with
    | false =>
      gi_wp2
      refine ⟨trivial, ?_⟩
      refine (CallsIn.inRound l (callsIn_wide.2 (plain_b x W))).mono ?_
      rintro e W2 ⟨rfl, hb⟩
      rw [hpl]
      have HI2 := Aside0.mk (HI.out.below hb)
      have HKo := Aside0.mk (keeps_of hb)
      clear hb
      have q2 : W2.cell? ⟨w.heap.size, 0, none⟩ = some (.slice none 0 0) := blk_cell HI2.out.r2 0
      have q3 : W2.cell? ⟨w.heap.size + 1, 0, none⟩ = some (.int .i64 0) := blk_cell HI2.out.r3 0
      have q4 : W2.cell? ⟨w.heap.size + 1 + 1, 0, none⟩ = some (.int .i64 0) := blk_cell HI2.out.r4 0
      have f2 : W2.frozen? ⟨w.heap.size, 0, none⟩ = false := blk_frozen HI2.out.r2 0
      have f3 : W2.frozen? ⟨w.heap.size + 1, 0, none⟩ = false := blk_frozen HI2.out.r3 0
      have f4 : W2.frozen? ⟨w.heap.size + 1 + 1, 0, none⟩ = false := blk_frozen HI2.out.r4 0
      gi_wp2
      exact ⟨((HKo.out.trans (KeepsOthers.setCell _ _ _)).trans (KeepsOthers.setCell _ _ _)).trans (KeepsOthers.setCell _ _ _), rfl, LnI.bad (x := ⟨(n, x), hx⟩) HI2.out hpl⟩
    | true =>
      gi_wp2
      refine ⟨trivial, ?_⟩
      refine (CallsIn.inRound l (callsIn_wide.2 (plain_b x W))).mono ?_
      rintro e W2 ⟨rfl, hb⟩
      rw [hpl]
      have HI2 := Aside0.mk (HI.out.below hb)
      have HB2 := Aside0.mk hb
      clear hb
      gi_wp2
      refine ⟨trivial, ?_⟩
      refine (CallsIn.inRound l (callsIn_wide.2 (fields_b x W2 hpl hx (HG.out.below HI2.out.b).tab))).mono ?_
      rintro e W3 ⟨rfl, rfl⟩
      have HI3 := Aside0.mk (HI2.out.below (below_alloc (Below.refl _ _) (.cells ((wordsOf x).map Value.string).toArray 9)))
      have HB3 := Aside0.mk (below_step HB2.out (below_alloc (Below.refl _ _) (.cells ((wordsOf x).map Value.string).toArray 9)))
      by_cases he : (wordsOf x).isEmpty = true
      · have h0 : wordsOf x = [] := by simpa using he
        have HE := Aside0.mk he
        clear he
        have FK := Aside0.mk (⟨keeps_of HB3.out, Kr.of_below HB3.out HI.out.b.size, HI3.out.skip (x := ⟨(n, x), hx⟩) HE.out hpl⟩ : KeepsOthers W _ ∧ Kr w.heap.size W _ ∧ LnI w (pre ++ [⟨(n, x), hx⟩]) _)
        have h01 : ((wordsOf x).length : Int) = 0 := by rw [h0]; rfl
        clear h0
        gi_wp2
        exact FK.out
      · have hp : (0 : Int) < ((wordsOf x).length : Int) := by
          have : (wordsOf x).length ≠ 0 := fun e => he (by simpa using e)
          omega
        have hwl : (wordsOf x).length ≤ 65536 := words_le hx
        obtain ⟨i0, hi, hzz⟩ := Option.map_eq_some_iff.1 infoLn
        simp only [Prod.mk.injEq] at hzz
        obtain ⟨hz0, hz1, hz2⟩ := hzz
        obtain ⟨v, hl2, hR2⟩ := HI2.out.l
        have hgv := Kd.R_lt hR2
        have hb34 : Below W2.heap.size W2 ((W2.alloc (.cells ((wordsOf x).map Value.string).toArray 9)).alloc (.cells #[.int .i64 n, .slice (some ⟨W2.heap.size, 0, none⟩) (wordsOf x).length (wordsOf x).length] 97)) := below_alloc (below_alloc (Below.refl _ _) _) _
        have h4 := Aside0.mk (HI2.out.below hb34)
        have hl4 := Aside0.mk (blk_below hl2 hb34)
        have hw4 := Aside0.mk (Kd.R_below (str_row W2 w.heap.size HI2.out.b.size (wordsOf x) (by omega)) (below_alloc (Below.refl _ _) (.cells #[.int .i64 n, .slice (some ⟨W2.heap.size, 0, none⟩) (wordsOf x).length (wordsOf x).length] 97)))
        obtain ⟨_, inner, ho, hr⟩ := Kd.R_below hR2 hb34
        have HR4 := Aside0.mk hr
        have ho2 : ((W2.alloc (.cells ((wordsOf x).map Value.string).toArray 9)).alloc (.cells #[.int .i64 n, .slice (some ⟨W2.heap.size, 0, none⟩) (wordsOf x).length (wordsOf x).length] 97)).ownsRow w.heap.size 97 2 v (lnsOf (pre.map (·.1))).length inner := ho
        clear ho
        have HGV := Aside0.mk hgv
        have HK4 := Aside0.mk (below_step HB2.out hb34)
        have q5 : (W2.alloc (.cells ((wordsOf x).map Value.string).toArray 9)).cell? ⟨w.heap.size + 1 + 1 + 1, 0, none⟩ = some v := blk_cell (blk_alloc hl2 _) 0
        have hnews := World.news_of_block (blk_new (W2.alloc (.cells ((wordsOf x).map Value.string).toArray 9)) (.cells #[.int .i64 n, .slice (some ⟨W2.heap.size, 0, none⟩) (wordsOf x).length (wordsOf x).length] 97))
        rw [World.size_alloc] at hnews
        have hcnt : (lnsOf (pre.map (·.1))).length ≤ 65537 := by
          have h1 := lnsOf_le (pre.map (·.1))
          rw [List.length_map] at h1
          have := pieces_le s hs
          omega
        clear hr hgv hl2 hR2
        gi_wp2_with (gi_at_builtin; refine wpListIn_append_own_at _ rfl _ _ 88 rfl w.heap.size 97 i0 (.agg #[.int .i64 0, .slice none 0 0]) 2 32 Tryd.underlying88 hi hz0 hz1 hz2 rfl (by decide) v _ inner rfl ho2 ⟨W2.heap.size + 1, 0, none⟩ 1 1 [.int .i64 n, .slice (some ⟨W2.heap.size, 0, none⟩) (wordsOf x).length (wordsOf x).length] rfl rfl hnews (by simp [Value.oneCell']) (by unfold maxLen; omega) (by omega) h4.out.b.size ?_; intro v1 W5 hown hg hnil hat; obtain ⟨g5, cap5, rfl⟩ := ownsRow_succ hown; obtain ⟨hl5, hLn, hKO, hKr⟩ := LnI.push (x := ⟨(n, x), hx⟩) h4.out hl4.out ho2 HR4.out hw4.out HGV.out he hpl hown hg hat; have q6 : W5.cell? ⟨w.heap.size + 1 + 1 + 1, 0, none⟩ = some v := blk_cell hl5 0; have f6 : W5.frozen? ⟨w.heap.size + 1 + 1 + 1, 0, none⟩ = false := blk_frozen hl5 0)
        exact ⟨(keeps_of HK4.out).trans hKO, (Kr.of_below HK4.out HI.out.b.size).trans hKr, hLn⟩
  case done =>
    rintro D ys W hD rfl hI hK
    have HI := Aside0.mk hI
    obtain ⟨v, hl0, hR⟩ := hI.l
    have q2 : W.cell? ⟨w.heap.size, 0, none⟩ = some (.slice none 0 0) := blk_cell hI.r2 0
    have q3 : W.cell? ⟨w.heap.size + 1, 0, none⟩ = some (.int .i64 0) := blk_cell hI.r3 0
    have q4 : W.cell? ⟨w.heap.size + 1 + 1, 0, none⟩ = some (.int .i64 0) := blk_cell hI.r4 0
    have q5 : W.cell? ⟨w.heap.size + 1 + 1 + 1, 0, none⟩ = some v := blk_cell hl0 0
    have f2 : W.frozen? ⟨w.heap.size, 0, none⟩ = false := blk_frozen hI.r2 0
    have f3 : W.frozen? ⟨w.heap.size + 1, 0, none⟩ = false := blk_frozen hI.r3 0
    have f4 : W.frozen? ⟨w.heap.size + 1 + 1, 0, none⟩ = false := blk_frozen hI.r4 0
    obtain ⟨A, c, rfl, -, -⟩ := Kd.R_reads hR
    have HR := Aside0.mk hR
    have HL0 := Aside0.mk hl0
    clear hI hR hl0
    rw [upN_val] at HR HL0 q5
    change Aside0 (kLine.R 97 W w.heap.size (fun _ => True) (.slice A (lnsOf (cnts s)).length c) (lnsOf (cnts s))) at HR
    change W.cell? _ = some (.slice A (lnsOf (cnts s)).length c) at q5
    gi_wp2
    clear q2 q3 q4 q5 f2 f3 f4
    have e2 := HI.out.r2
    have e3 := HI.out.r3
    have e4 := HI.out.r4
    have k2 : ∀ {X : World}, X.heap[w.heap.size]? = some (.cells #[.slice none 0 0] 88 (0, 0)) → (X.setCell ⟨w.heap.size, 0, none⟩ (.slice A (lnsOf (cnts s)).length c)).heap[w.heap.size]? = some (.cells #[.slice A (lnsOf (cnts s)).length c] 88 (0, 0)) := fun h => by
      have := blk_set h 0 (.slice A (lnsOf (cnts s)).length c)
      simpa using this
    have a2 := k2 e2
    have a3 := blk_far e3 (p := ⟨w.heap.size, 0, none⟩) (by show w.heap.size + 1 ≠ w.heap.size; omega) (.slice A (lnsOf (cnts s)).length c)
    have a4 := blk_far e4 (p := ⟨w.heap.size, 0, none⟩) (by show w.heap.size + 2 ≠ w.heap.size; omega) (.slice A (lnsOf (cnts s)).length c)
    have aR := Kd.R_set HR.out e2 types_ln 0 (.slice A (lnsOf (cnts s)).length c)
    have aK := (KeepsOthers.setCell W ⟨w.heap.size, 0, none⟩ (.slice A (lnsOf (cnts s)).length c)).same D _ hK rfl
    have aB : Below w.heap.size w (W.setCell ⟨w.heap.size, 0, none⟩ (.slice A (lnsOf (cnts s)).length c)) := below_set HI.out.b (by omega)
    generalize W.setCell ⟨w.heap.size, 0, none⟩ (.slice A (lnsOf (cnts s)).length c) = X at *
    have b2 := blk_far a2 (p := ⟨w.heap.size + 1, 0, none⟩) (by show w.heap.size ≠ w.heap.size + 1; omega) (.int .i64 0)
    have b3 : (X.setCell ⟨w.heap.size + 1, 0, none⟩ (.int .i64 0)).heap[w.heap.size + 1]? = some (.cells #[.int .i64 0] 3 (0, 0)) := by
      have := blk_set a3 0 (.int .i64 0)
      simpa using this
    have b4 := blk_far a4 (p := ⟨w.heap.size + 1, 0, none⟩) (by show w.heap.size + 2 ≠ w.heap.size + 1; omega) (.int .i64 0)
    have bR := Kd.R_set aR a3 (by decide) 0 (.int .i64 0)
    have bK := (KeepsOthers.setCell X ⟨w.heap.size + 1, 0, none⟩ (.int .i64 0)).same D _ aK rfl
    have bB : Below w.heap.size w (X.setCell ⟨w.heap.size + 1, 0, none⟩ (.int .i64 0)) := below_set aB (by omega)
    generalize X.setCell ⟨w.heap.size + 1, 0, none⟩ (.int .i64 0) = Y at *
    have c2 := blk_far b2 (p := ⟨w.heap.size + 1 + 1, 0, none⟩) (by show w.heap.size ≠ w.heap.size + 1 + 1; omega) (.int .i64 0)
    have c3 := blk_far b3 (p := ⟨w.heap.size + 1 + 1, 0, none⟩) (by show w.heap.size + 1 ≠ w.heap.size + 1 + 1; omega) (.int .i64 0)
    have c4 : (Y.setCell ⟨w.heap.size + 1 + 1, 0, none⟩ (.int .i64 0)).heap[w.heap.size + 1 + 1]? = some (.cells #[.int .i64 0] 27 (0, 0)) := by
      have := blk_set b4 0 (.int .i64 0)
      simpa using this
    have cR := Kd.R_set bR b4 (by decide) 0 (.int .i64 0)
    have cK := (KeepsOthers.setCell Y ⟨w.heap.size + 1 + 1, 0, none⟩ (.int .i64 0)).same D _ bK rfl
    have cB : Below w.heap.size w (Y.setCell ⟨w.heap.size + 1 + 1, 0, none⟩ (.int .i64 0)) := below_set bB (by omega)
    change (Y.setCell ⟨w.heap.size + 1 + 1, 0, none⟩ (.int .i64 0)).heap[D]? = some (.deferred (some [])) at cK
    generalize Y.setCell ⟨w.heap.size + 1 + 1, 0, none⟩ (.int .i64 0) = Z at *
    refine ⟨by simp, .inl ⟨_, _, rfl, run_takeDeferred cK, ?_⟩⟩
    have hr : ∀ r, some D = some r → ∃ o : Obj, Z.heap[r]? = some o ∧ o.isCells = false := fun r e => by cases e; exact ⟨_, cK, rfl⟩
    have d2 : (Z.putObj D (.deferred none)).cell? ⟨w.heap.size, 0, none⟩ = some (.slice A (lnsOf (cnts s)).length c) := blk_cell (blk_own c2 (grownBy_putObj' _ D (.deferred none)) hr) 0
    have d3 : (Z.putObj D (.deferred none)).cell? ⟨w.heap.size + 1, 0, none⟩ = some (.int .i64 0) := blk_cell (blk_own c3 (grownBy_putObj' _ D (.deferred none)) hr) 0
    have d4 : (Z.putObj D (.deferred none)).cell? ⟨w.heap.size + 1 + 1, 0, none⟩ = some (.int .i64 0) := blk_cell (blk_own c4 (grownBy_putObj' _ D (.deferred none)) hr) 0
    have hRz := R_put_obj cR (o' := .deferred none) cK rfl
    refine ⟨.tuple #[.slice A (lnsOf (cnts s)).length c, .int .i64 0, .int .i64 0], ?_, cB.grown (grownBy_putObj' _ D (.deferred none)) cB.size (fun k e => by cases e; omega), .inl ⟨?_, A, c, rfl, hRz⟩⟩
    · simp [results, Tryd.f45, go_sem, d2, d3, d4]
    · have := HI.out.ok
      rw [upN_val] at this
      exact this
  case stop =>
    rintro D c pre W hD ⟨k, hk, rfl⟩ ⟨rfl, hX⟩ hK
    gi_wp2
    refine ⟨by simp, .inl ⟨_, _, rfl, run_takeDeferred hK, ?_⟩⟩
    obtain ⟨ini, last, e, h1, h2, e3⟩ := hX.p
    obtain ⟨k', rfl⟩ : ∃ k', k = k' + 1 := by
      cases k with
      | zero => simp [upN] at e
      | succ k' => exact ⟨k', rfl⟩
    rw [upN_succ] at e
    obtain ⟨rfl, e5⟩ := List.append_inj' e rfl
    obtain rfl : cntX s hs k' = last := by simpa using e5
    have hr : ∀ r, some D = some r → ∃ o : Obj, W.heap[r]? = some o ∧ o.isCells = false := fun r e => by cases e; exact ⟨_, hK, rfl⟩
    have d2 : (W.putObj D (.deferred none)).cell? ⟨w.heap.size, 0, none⟩ = some (.slice none 0 0) := blk_cell (blk_own hX.r2 (grownBy_putObj' _ D (.deferred none)) hr) 0
    have d3 : (W.putObj D (.deferred none)).cell? ⟨w.heap.size + 1, 0, none⟩ = some (.int .i64 ((k' : Int) + 1)) := blk_cell (blk_own e3 (grownBy_putObj' _ D (.deferred none)) hr) 0
    have d4 : (W.putObj D (.deferred none)).cell? ⟨w.heap.size + 1 + 1, 0, none⟩ = some (.int .i64 6) := blk_cell (blk_own hX.r4 (grownBy_putObj' _ D (.deferred none)) hr) 0
    rw [upN_val] at h1
    refine ⟨.tuple #[.slice none 0 0, .int .i64 ((k' : Int) + 1), .int .i64 6], ?_, hX.b.grown (grownBy_putObj' _ D (.deferred none)) hX.b.size (fun k e => by cases e; omega), .inr ⟨k', by omega, h1, h2, rfl⟩⟩
    simp [results, Tryd.f45, go_sem, d2, d3, d4]
theorem lines_b (s : ByteArray) (w : World) (hs : s.size ≤ 65536) (hG : LexG w) : Calls Tryd.prog 45 #[.string s] w (LinesR s w) := callsIn_wide.1 (lines_in s w hs hG)
set_option maxRecDepth 100000 in
theorem lines_long (s : ByteArray) (w : World) (hs : 65536 < s.size) : Calls Tryd.prog 45 #[.string s] w (RetB w (.tuple #[.slice none 0 0, .int .i64 0, .int .i64 7])) := by
  have hsz : (65536 : Int) < (s.size : Int) := by omega
  go_enter Tryd.func45, Tryd.ntmps45
  go_wp2
  refine bodyPost_ret (v := .tuple #[.slice none 0 0, .int .i64 0, .int .i64 7]) ?_ rfl ⟨rfl, ?_⟩
  · simp [results, Tryd.f45, go_sem]
  · exact below_alloc (below_alloc (below_alloc (Below.refl _ _) _) _) _
end Go.Proofs.YtolmkdhgnganaaaDoor.H
namespace Go.Proofs.YtolmkdhgnganaaaDoor.H
open Go Go.RowKit Go.Proofs Go.Proofs.YtolmkdhgnganaaaDoorW.PrintWords Go.Proofs.YtolmkdhgnganaaaDoor.Sp
def S0 : PSt := ⟨0, 0, 0, false, [], [], []⟩
/-- The lines, one after the other: what is held behind the last one, or the line that is refused and why. -/
def runS : PSt → List Ln → PSt × Int × Int
  | S, [] => (S, 0, 0)
  | S, l :: r => if (lineS S l.n l.ws).2 = 0 then runS (lineS S l.n l.ws).1 r else (S, l.n, (lineS S l.n l.ws).2)
/-- The first of n that is so. -/
def firstN (p : Nat → Bool) (n : Nat) : Option Nat := (List.range n).find? p
theorem firstN_some {p : Nat → Bool} {n k : Nat} (hk : k < n) (h : p k = true) (hl : ∀ j, j < k → p j = false) : firstN p n = some k := by
  unfold firstN
  rw [List.find?_range_eq_some]
  exact ⟨h, by simpa using hk, fun j hj => by rw [hl j hj]; rfl⟩
theorem firstN_none {p : Nat → Bool} {n : Nat} (h : ∀ j, j < n → p j = false) : firstN p n = none := by
  unfold firstN
  rw [List.find?_eq_none]
  intro x hx
  rw [h x (by simpa using hx)]; simp
/-- The first line that holds a byte that is not permitted. -/
def badLine (s : ByteArray) : Option Nat := firstN (fun k => !isPl (cntAt s k).2.data.toList) (pieces s).length
/-- Behind the lines: the sizes, the jumps. -/
def endS (S : PSt) : PSt × Int × Int :=
  if S.sized = false then (S, 0, 5) else
  match firstN (fun k => jbAt S.rungs (k : Int)) S.rungs.length with
  | some k => (S, S.jumps.getD k 0, 15)
  | none => (S, 0, 0)
/-- What Parse answers: what is held, the line's number, the error's. -/
def parseP (s : ByteArray) : PSt × Int × Int :=
  if 65536 < s.size then (S0, 0, 7) else
  match badLine s with
  | some k => (S0, (k : Int) + 1, 6)
  | none => if (runS S0 (lnsOf (cnts s))).2.2 = 0 then endS (runS S0 (lnsOf (cnts s))).1 else runS S0 (lnsOf (cnts s))
theorem mem_set {α : Type} {l : List α} {k : Nat} {x y : α} (h : y ∈ l.set k x) : y ∈ l ∨ y = x := List.mem_or_eq_of_mem_set h
theorem lastR_mem {S : PSt} (h : 0 < S.rungs.length) : lastR S ∈ S.rungs := by
  have : lastR S = S.rungs[S.rungs.length - 1] := by
    have hl : S.rungs.length - 1 < S.rungs.length := by omega
    simp [lastR, PPrinterMatchesReference.rd_T40, List.getD, hl]
  rw [this]; exact List.getElem_mem _
theorem Caps.set {S T : PSt} {x : Rung} {k : Nat} (h : Caps S) (e : T.rungs = S.rungs.set k x) (h1 : x.f1.length ≤ 256) (h2 : x.f2.length ≤ 16) : Caps T := fun r hr => by
  rw [e] at hr
  rcases mem_set hr with hr | rfl
  · exact h r hr
  · exact ⟨h1, h2⟩
theorem Caps.line {S : PSt} (h : Caps S) (n : Int) (ws : List ByteArray) : Caps (lineS S n ws).1 := by
  unfold lineS
  split
  · exact h
  · split
    · exact h
    · unfold sizeS; (repeat' split) <;> exact h
  · split
    · exact h
    · split
      · exact h
      · unfold beginS beginT
        (repeat' split) <;> first | exact h | (intro r hr; rcases List.mem_append.1 hr with hr | hr; exact h r hr; obtain rfl := List.mem_singleton.1 hr; exact ⟨Nat.zero_le _, Nat.zero_le _⟩)
  · split
    · exact h
    · split
      · exact h
      · rename_i h0
        have hm := h _ (lastR_mem (S := S) (by omega))
        unfold jumpS
        (repeat' split) <;> first | exact h | exact h.set rfl hm.1 hm.2
  · split
    · exact h
    · split
      · exact h
      · rename_i h0
        have hm := h _ (lastR_mem (S := S) (by omega))
        unfold conS
        (repeat' split) <;> first | exact h | exact h.set rfl (by rw [List.length_append, List.length_singleton]; omega) hm.2
  · split
    · exact h
    · split
      · exact h
      · rename_i h0
        have hm := h _ (lastR_mem (S := S) (by omega))
        unfold coilS
        (repeat' split) <;> first | exact h | exact h.set rfl hm.1 (by rw [List.length_append, List.length_singleton]; omega)
theorem fieldsGo_le : ∀ (l cur : List UInt8), ∀ x ∈ Lib.fieldsGo cur l, x.length ≤ cur.length + l.length
  | [], cur, x, hx => by
    unfold Lib.fieldsGo at hx
    split at hx
    · cases hx
    · obtain rfl := List.mem_singleton.1 hx; simp
  | b :: l, cur, x, hx => by
    unfold Lib.fieldsGo at hx
    split at hx
    · split at hx
      · have := fieldsGo_le l [] x hx; simp at this ⊢; omega
      · rcases List.mem_cons.1 hx with rfl | hx
        · omega
        · have := fieldsGo_le l [] x hx; simp at this ⊢; omega
    · have := fieldsGo_le l (cur ++ [b]) x hx; simp at this ⊢; omega
theorem words_size {x y : ByteArray} (h : y ∈ wordsOf x) : y.size ≤ x.size := by
  unfold wordsOf at h
  obtain ⟨l, hl, rfl⟩ := List.mem_map.1 h
  have := fieldsGo_le _ [] l hl
  have e : x.data.toList.length = x.size := by rw [Array.length_toList]; rfl
  show l.toArray.size ≤ x.size
  simp only [List.length_nil, Nat.zero_add] at this
  rw [List.size_toArray, ← e]
  exact this
theorem lns_ok {s : ByteArray} (hs : s.size ≤ 65536) {x : Ln} (h : x ∈ lnsOf (cnts s)) : 0 < x.ws.length ∧ ∀ j, (x.ws.getD j ⟨#[]⟩).size ≤ 65536 := by
  unfold lnsOf at h
  obtain ⟨p, hp, hx⟩ := List.mem_filterMap.1 h
  unfold toLn at hx
  split at hx
  · cases hx
  · rename_i hne
    cases hx
    refine ⟨List.length_pos_iff.2 (fun e => hne (by have e : wordsOf p.2 = [] := e; rw [e]; rfl)), fun j => ?_⟩
    unfold cnts upN at hp
    obtain ⟨k, hk, rfl⟩ := List.mem_map.1 hp
    have hsz := Nat.le_trans (bare_size _) (piece_at_size hs k)
    by_cases hj : j < (wordsOf (cntAt s k).2).length
    · have := words_size (List.getElem_mem hj)
      rw [List.getD, List.getElem?_eq_getElem hj, Option.getD_some]
      exact Nat.le_trans this hsz
    · show (((wordsOf (cntAt s k).2)).getD j ⟨#[]⟩).size ≤ 65536
      rw [List.getD, List.getElem?_eq_none (by omega), Option.getD_none]
      exact Nat.zero_le _
end Go.Proofs.YtolmkdhgnganaaaDoor.H
namespace Go.Proofs.YtolmkdhgnganaaaDoor.H
open Go Go.RowKit Go.Proofs Go.Proofs.YtolmkdhgnganaaaDoorW.PrintWords Go.Proofs.YtolmkdhgnganaaaDoorW.PrintLast Go.Proofs.YtolmkdhgnganaaaDoorW.PrintMore Go.Proofs.YtolmkdhgnganaaaDoor.Sp
/-- A line in memory. -/
theorem lnRow_at {w : World} {B n c : Nat} {A : Option Addr} {l : List Ln} (h : kLine.R 97 w B (fun _ => True) (.slice A n c) l) (k : Int) (h0 : 0 ≤ k) (h1 : k < n) (hp : 0 < (l.getD k.toNat zLn).ws.length) :
    ∃ g b wc, A = some ⟨g, 0, none⟩ ∧ w.cell? ⟨g, k.toNat * 2, none⟩ = some (.int .i64 (l.getD k.toNat zLn).n) ∧ w.cell? ⟨g, k.toNat * 2 + 1, none⟩ = some (.slice (some ⟨b, 0, none⟩) (l.getD k.toNat zLn).ws.length wc) ∧
      Kd.string.R 9 w B (fun _ => True) (.slice (some ⟨b, 0, none⟩) (l.getD k.toNat zLn).ws.length wc) (l.getD k.toNat zLn).ws := by
  have hn : n = l.length := (Kd.R_reads' h).1
  subst hn
  obtain ⟨g, cap, e, -, -, -⟩ := Kd.R_form h (by omega)
  cases e
  obtain ⟨cs, _, hM, hcc0, _⟩ := Kd.R_elem h zLn k h0 h1
  have hcc : ∀ j u, cs[j]? = some u → w.cell? ⟨g, k.toNat * 2 + j, none⟩ = some u := hcc0
  obtain ⟨_, _, rfl, rfl, ⟨v, rfl, hR⟩⟩ := hM
  have hR' := Kd.R_mono hR (ok' := fun _ => True) (fun _ _ => trivial)
  obtain ⟨b, wc, rfl, -, -, -⟩ := Kd.R_form hR' hp
  exact ⟨g, b, wc, rfl, hcc 0 _ rfl, hcc 1 _ rfl, hR'⟩
/-- What Parse answers. -/
def ParseR (s : ByteArray) (w : World) (e : Ending) (w' : World) : Prop :=
  Below w.heap.size w w' ∧
    (((parseP s).2.2 ≠ 0 ∧ e = .returned (.tuple #[.agg #[.int .i64 0, .int .i64 0, .int .i64 0, .slice none 0 0], .slice none 0 0, .int .i64 (parseP s).2.1, .int .i64 (parseP s).2.2])) ∨
     ((parseP s).2.2 = 0 ∧ ∃ vr vl, e = .returned (.tuple #[.agg #[.int .i64 (parseP s).1.i, .int .i64 (parseP s).1.q, .int .i64 (parseP s).1.m, vr], vl, .int .i64 0, .int .i64 0]) ∧
        Kd.S kRung 40 w' w.heap.size (fun _ => True) vr (parseP s).1.rungs ∧ (Kd.int .i64).R 3 w' w.heap.size (fun _ => True) vl (parseP s).1.lines ∧ (parseP s).1.lines.length = (parseP s).1.rungs.length ∧ (parseP s).1.rungs.length ≤ 64 ∧ Caps (parseP s).1))
theorem ParseR.bad {s : ByteArray} {w w' : World} {S : PSt} {n x : Int} (h : parseP s = (S, n, x)) (hx : x ≠ 0) (hb : Below w.heap.size w w') : ParseR s w (.returned (.tuple #[.agg #[.int .i64 0, .int .i64 0, .int .i64 0, .slice none 0 0], .slice none 0 0, .int .i64 n, .int .i64 x])) w' :=
  ⟨hb, .inl (by rw [h]; exact ⟨hx, rfl⟩)⟩
/-- What holds while Parse runs. -/
structure PzF (w : World) (gp gm : Nat) (S : PSt) (lns : List Ln) (A : Option Addr) (c : Nat) (wr : World) : Prop where
  b : Below w.heap.size w wr
  p : ∃ vr vl vj, PF w.heap.size gp S vr vl vj wr
  m : MapIs wr gm (tabW gp)
  r : wr.heap[w.heap.size]? = some (.cells #[.int .i64 0, .int .i64 0, .int .i64 0, .slice none 0 0] 24 (0, 0))
  l : kLine.R 97 wr w.heap.size (fun _ => True) (.slice A lns.length c) lns
section
variable {w wr w1 : World} {gp gm : Nat} {S : PSt} {lns : List Ln} {A : Option Addr} {c : Nat}
theorem PzF.below (h : PzF w gp gm S lns A c wr) (hb : Below wr.heap.size wr w1) : PzF w gp gm S lns A c w1 := by
  obtain ⟨vr, vl, vj, hp⟩ := h.p
  exact ⟨below_step h.b hb, ⟨vr, vl, vj, hp.below hb⟩, h.m.below hb, blk_below h.r hb, Kd.R_below h.l hb⟩
theorem PzF.step (h : PzF w gp gm S lns A c wr) {T : PSt} (hk : KP w.heap.size wr w1) (hp : ∃ vr vl vj, PF w.heap.size gp T vr vl vj w1) : PzF w gp gm T lns A c w1 :=
  ⟨h.b.trans hk.b, hp, h.m.kp hk, hk.blk h.r (by rfl), hk.lines h.l⟩
end
/-- While the jumps are looked at. -/
structure PeF (w : World) (gp : Nat) (S : PSt) (A : Option Addr) (c : Nat) (vl vj : Value) (wr : World) : Prop where
  b : Below w.heap.size w wr
  p : PF w.heap.size gp S (.slice A S.rungs.length c) vl vj wr
  r : wr.heap[w.heap.size]? = some (.cells #[.int .i64 0, .int .i64 0, .int .i64 0, .slice none 0 0] 24 (0, 0))
theorem PeF.below {w wr w1 : World} {gp : Nat} {S : PSt} {A : Option Addr} {c : Nat} {vl vj : Value} (h : PeF w gp S A c vl vj wr) (hb : Below wr.heap.size wr w1) : PeF w gp S A c vl vj w1 :=
  ⟨below_step h.b hb, h.p.below hb, blk_below h.r hb⟩
theorem run_drop {S : PSt} {lns : List Ln} {k : Int} (h0 : 0 ≤ k) (h1 : k < lns.length) : runS S (lns.drop k.toNat) = if (lineS S (lns.getD k.toNat zLn).n (lns.getD k.toNat zLn).ws).2 = 0 then runS (lineS S (lns.getD k.toNat zLn).n (lns.getD k.toNat zLn).ws).1 (lns.drop (k + 1).toNat) else (S, (lns.getD k.toNat zLn).n, (lineS S (lns.getD k.toNat zLn).n (lns.getD k.toNat zLn).ws).2) := by
  have hk : k.toNat < lns.length := by omega
  have e1 : (k + 1).toNat = k.toNat + 1 := by omega
  have e2 : lns.getD k.toNat zLn = lns[k.toNat] := by simp [List.getD, hk]
  rw [List.drop_eq_getElem_cons hk, e1, e2]
  rfl
/-- The ladder at g is stored. -/
abbrev set4 (w : World) (g : Nat) (a b c d : Value) : World := (((w.setCell ⟨g, 0, none⟩ a).setCell ⟨g, 1, none⟩ b).setCell ⟨g, 2, none⟩ c).setCell ⟨g, 3, none⟩ d
theorem set4_far {w : World} {g h j : Nat} {a b c d v : Value} (hn : h ≠ g) (hc : w.cell? ⟨h, j, none⟩ = some v) : (set4 w g a b c d).cell? ⟨h, j, none⟩ = some v := by
  have e : ∀ (w : World) (k : Nat) (u : Value), (w.setCell ⟨g, k, none⟩ u).cell? ⟨h, j, none⟩ = w.cell? ⟨h, j, none⟩ := fun w k u => World.cell?_of_block (Below.heap_setCell w ⟨g, k, none⟩ u h hn)
  rw [e, e, e, e]; exact hc
theorem set4_blk {w : World} {g t : Nat} {a0 b0 c0 d0 a b c d : Value} (h : w.heap[g]? = some (.cells #[a0, b0, c0, d0] t (0, 0))) : (set4 w g a b c d).heap[g]? = some (.cells #[a, b, c, d] t (0, 0)) := by
  have := blk_set (blk_set (blk_set (blk_set h 0 a) 1 b) 2 c) 3 d
  simpa using this
theorem set4_S {w : World} {g B : Nat} {ok : Nat → Prop} {v : Value} {xs : List Rung} {a0 b0 c0 d0 a b c d : Value} (hb : w.heap[g]? = some (.cells #[a0, b0, c0, d0] 24 (0, 0))) (h : Kd.S kRung 40 w B ok v xs) : Kd.S kRung 40 (set4 w g a b c d) B ok v xs := by
  have b1 := blk_set hb 0 a
  have b2 := blk_set b1 1 b
  have b3 := blk_set b2 2 c
  exact Kd.S_set (Kd.S_set (Kd.S_set (Kd.S_set h hb types_lad 0 a) b1 types_lad 1 b) b2 types_lad 2 c) b3 types_lad 3 d
theorem set4_R {w : World} {g B : Nat} {ok : Nat → Prop} {v : Value} {xs : List Int} {a0 b0 c0 d0 a b c d : Value} (hb : w.heap[g]? = some (.cells #[a0, b0, c0, d0] 24 (0, 0))) (h : (Kd.int .i64).R 3 w B ok v xs) : (Kd.int .i64).R 3 (set4 w g a b c d) B ok v xs := by
  have b1 := blk_set hb 0 a
  have b2 := blk_set b1 1 b
  have b3 := blk_set b2 2 c
  exact Kd.R_set (Kd.R_set (Kd.R_set (Kd.R_set h hb (by decide) 0 a) b1 (by decide) 1 b) b2 (by decide) 2 c) b3 (by decide) 3 d
theorem set4_below {W w : World} {g : Nat} {a b c d : Value} (h : Below W.heap.size W w) (hg : W.heap.size ≤ g) : Below W.heap.size W (set4 w g a b c d) := below_set (below_set (below_set (below_set h hg) hg) hg) hg
set_option maxHeartbeats 4000000 in
set_option maxRecDepth 100000 in
theorem parse_b (s : ByteArray) (w : World) (hL : Lets w) (hE : Errs w) (hK : Kws w) (hG : LexG w) : Calls Tryd.prog 19 #[.string s] w (ParseR s w) := by
  have HEnv := Aside0.mk (Env.mk (B := w.heap.size) (w := w) (fun W hW => hL.below hW) (fun W hW => hE.below hW) (fun W hW => hK.below hW))
  have HK := Aside0.mk hK
  have HG := Aside0.mk hG
  clear hL hE hK hG
  generalize hV : parseP s = V
  have HV := Aside0.mk hV
  clear hV
  have HB0 := Aside0.mk (below_alloc (Below.refl w.heap.size w) (.cells #[.int .i64 0, .int .i64 0, .int .i64 0, .slice none 0 0] 24))
  have K0 := Aside0.mk (blk_new w (.cells #[.int .i64 0, .int .i64 0, .int .i64 0, .slice none 0 0] 24))
  go_enter Tryd.func19, Tryd.ntmps19
  go_wp2_with fail
  generalize w.alloc (.cells #[.int .i64 0, .int .i64 0, .int .i64 0, .slice none 0 0] 24) = w1 at HB0 K0 ⊢
  by_cases hs : 65536 < s.size
  · refine (lines_long s w1 hs).mono ?_
    rintro e w2 ⟨rfl, hb⟩
    have hp : parseP s = (S0, 0, 7) := by rw [parseP, if_pos hs]
    have HP := Aside0.mk hp
    have HB := Aside0.mk (below_step HB0.out hb)
    have k2 := blk_below K0.out hb
    have r0 := blk_cell k2 0
    have r1 := blk_cell k2 1
    have r2 := blk_cell k2 2
    have r3 := blk_cell k2 3
    have f0 := blk_frozen k2 0
    have f1 := blk_frozen k2 1
    have f2 := blk_frozen k2 2
    have f3 := blk_frozen k2 3
    have K2 := Aside0.mk k2
    clear hp hb k2
    go_wp2
    have KZ : Aside0 (((((w2.setCell ⟨w.heap.size, 0, none⟩ (.int .i64 0)).setCell ⟨w.heap.size, 1, none⟩ (.int .i64 0)).setCell ⟨w.heap.size, 2, none⟩ (.int .i64 0)).setCell ⟨w.heap.size, 3, none⟩ (.slice none 0 0)).heap[w.heap.size]? = some (.cells #[.int .i64 0, .int .i64 0, .int .i64 0, .slice none 0 0] 24 (0, 0))) := ⟨set4_blk (K2.out)⟩
    have FB : Aside0 (Below w.heap.size w (((((w2.setCell ⟨w.heap.size, 0, none⟩ (.int .i64 0)).setCell ⟨w.heap.size, 1, none⟩ (.int .i64 0)).setCell ⟨w.heap.size, 2, none⟩ (.int .i64 0)).setCell ⟨w.heap.size, 3, none⟩ (.slice none 0 0)))) := ⟨set4_below (HB.out) (Nat.le_refl _)⟩
    generalize ((((w2.setCell ⟨w.heap.size, 0, none⟩ (.int .i64 0)).setCell ⟨w.heap.size, 1, none⟩ (.int .i64 0)).setCell ⟨w.heap.size, 2, none⟩ (.int .i64 0)).setCell ⟨w.heap.size, 3, none⟩ (.slice none 0 0)) = wz at KZ FB ⊢
    have z0 : wz.cell? ⟨w.heap.size, 0, none⟩ = some (.int .i64 0) := blk_cell KZ.out 0
    have z1 : wz.cell? ⟨w.heap.size, 1, none⟩ = some (.int .i64 0) := blk_cell KZ.out 1
    have z2 : wz.cell? ⟨w.heap.size, 2, none⟩ = some (.int .i64 0) := blk_cell KZ.out 2
    have z3 : wz.cell? ⟨w.heap.size, 3, none⟩ = some (.slice none 0 0) := blk_cell KZ.out 3
    refine bodyPost_ret (v := .tuple #[.agg #[.int .i64 0, .int .i64 0, .int .i64 0, .slice none 0 0], .slice none 0 0, .int .i64 0, .int .i64 7]) ?_ rfl (ParseR.bad HP.out (by decide) FB.out)
    simp [results, Tryd.f19, go_sem, z0, z1, z2, z3]
  · have hs' : s.size ≤ 65536 := by omega
    have HPP : Aside0 (parseP s = match badLine s with
      | some k => (S0, (k : Int) + 1, 6)
      | none => if (runS S0 (lnsOf (cnts s))).2.2 = 0 then endS (runS S0 (lnsOf (cnts s))).1 else runS S0 (lnsOf (cnts s))) := ⟨by rw [parseP, if_neg hs] <;> rfl⟩
    clear hs HV V
    refine (lines_b s w1 hs' (HG.out.below HB0.out)).mono ?_
    rintro e w2 ⟨hb, hr⟩
    have HB := Aside0.mk (below_step HB0.out hb)
    have K2 := Aside0.mk (blk_below K0.out hb)
    have hbs := HB0.out.size
    clear hb
    rcases hr with ⟨hpl, A, c, rfl, hl⟩ | ⟨k, hk, hpl, hbad, rfl⟩
    · have hbl : badLine s = none := firstN_none (fun j hj => by
        have := hpl (cntAt s j) (by unfold cnts upN; exact List.mem_map.2 ⟨j, List.mem_range.2 hj, rfl⟩)
        rw [this]; rfl)
      rw [hbl] at HPP
      dsimp only at HPP
      have HLn := Aside0.mk (fun x (hx : x ∈ lnsOf (cnts s)) => lns_ok hs' hx)
      have HL := Aside0.mk (Kd.R_lower hl hbs)
      have hlen : (lnsOf (cnts s)).length ≤ 65537 := Nat.le_trans (lnsOf_le _) (by unfold cnts; rw [upN_length]; exact pieces_le s hs')
      clear hl hpl hbl hs' hbs
      generalize lnsOf (cnts s) = lns at HPP HLn HL hlen ⊢
      have HB3 := Aside0.mk (below_alloc HB.out (.cells #[.int .i64 0, .int .i64 0, .int .i64 0, .slice none 0 0, .bool false, .slice none 0 0, .slice none 0 0] 93))
      have K3 := Aside0.mk (blk_alloc K2.out (.cells #[.int .i64 0, .int .i64 0, .int .i64 0, .slice none 0 0, .bool false, .slice none 0 0, .slice none 0 0] 93))
      have KP3 := Aside0.mk (blk_new w2 (.cells #[.int .i64 0, .int .i64 0, .int .i64 0, .slice none 0 0, .bool false, .slice none 0 0, .slice none 0 0] 93))
      have HL3 := Aside0.mk (Kd.R_alloc HL.out (.cells #[.int .i64 0, .int .i64 0, .int .i64 0, .slice none 0 0, .bool false, .slice none 0 0, .slice none 0 0] 93))
      have hgp : w.heap.size ≤ w2.heap.size := HB.out.size
      clear HB K2 HL
      go_wp2_with fail
      generalize w2.alloc (.cells #[.int .i64 0, .int .i64 0, .int .i64 0, .slice none 0 0, .bool false, .slice none 0 0, .slice none 0 0] 93) = w3 at HB3 K3 KP3 HL3 ⊢
      generalize w2.heap.size = gp at KP3 hgp ⊢
      refine (words_p gp w3 (HEnv.out.k _ HB3.out)).mono ?_
      rintro e w4 ⟨gm, rfl, hT⟩
      have HF0 : Aside0 (PzF w gp gm S0 lns A c w4) := ⟨⟨HB3.out.trans (hT.b.mono HB3.out.size), ⟨.slice none 0 0, .slice none 0 0, .slice none 0 0, ⟨hgp, by have := HB3.out.size; have := hT.b.size; omega, blk_below KP3.out hT.b, Kd.S_nil _ _ _ _ _, Kd.R_nil _ _ _ _ _, Kd.R_nil _ _ _ _ _, (fun k e => by cases e), rfl, rfl, Nat.zero_le _⟩⟩, hT.m, blk_below K3.out hT.b, Kd.R_below HL3.out hT.b⟩⟩
      have hgm : w.heap.size < gm := by have := hT.g; have := blk_lt KP3.out; omega
      clear HB3 K3 KP3 HL3 hT
      clear w3
      go_wp2
      go_loopw [33] (fun cv w' => ∃ k : Int, cv = .int .i64 k ∧ 0 ≤ k ∧ k ≤ lns.length ∧ ∃ S, ∃ wr : World, wr = w' ∧ Aside0 (PzF w gp gm S lns A c wr) ∧ Aside0 (Caps S) ∧ Aside0 (runS S0 lns = runS S (lns.drop k.toNat))) (fun cv _ => ((lns.length : Int) - intOf cv).toNat)
      case atStart => exact ⟨0, rfl, by omega, by omega, S0, _, rfl, HF0, ⟨fun r hr => by cases hr⟩, ⟨rfl⟩⟩
      case round =>
        clear HF0
        obtain ⟨k, rfl, k0, k1, S, wr, rfl, HF, HC, HR⟩ := hrel
        by_cases hk : k < lns.length
        · have hkn : k.toNat < lns.length := by omega
          have hmem : lns.getD k.toNat zLn ∈ lns := by
            have : lns.getD k.toNat zLn = lns[k.toNat] := by simp [List.getD, hkn]
            rw [this]; exact List.getElem_mem hkn
          obtain ⟨hw0, hwsz⟩ := HLn.out _ hmem
          have HSz := Aside0.mk hwsz
          obtain ⟨g, b, wc, rfl, x0, x1, hws⟩ := lnRow_at HF.out.l k k0 (by omega) hw0
          have HR2 := Aside0.mk (HR.out.trans (run_drop (S := S) k0 hk))
          clear hmem hwsz HR
          generalize lns.getD k.toNat zLn = x at *
          obtain ⟨n, ws⟩ := x
          dsimp only at *
          have hwr : wrap64 (k + 1) = k + 1 := w64 (by omega) (by omega)
          have HF5 := Aside0.mk (HF.out.below (below_alloc (Below.refl _ _) (.cells #[.int .i64 n, .slice (some ⟨b, 0, none⟩) ws.length wc] 97)))
          have K5 := Aside0.mk (blk_new wr (.cells #[.int .i64 n, .slice (some ⟨b, 0, none⟩) ws.length wc] 97))
          have HW5 := Aside0.mk (Kd.R_alloc hws (.cells #[.int .i64 n, .slice (some ⟨b, 0, none⟩) ws.length wc] 97))
          have hg5 : w.heap.size < wr.heap.size := blk_lt HF.out.r
          have n0 := blk_cell K5.out 0
          have n1 := blk_cell K5.out 1
          clear hws
          go_wp2_with fail
          clear x0 x1 n0 n1 HF
          generalize wr.alloc (.cells #[.int .i64 n, .slice (some ⟨b, 0, none⟩) ws.length wc] 97) = w5 at HF5 K5 HW5 ⊢
          generalize wr.heap.size = gx at K5 hg5 ⊢
          clear wr
          obtain ⟨vr, vl, vj, hpf⟩ := HF5.out.p
          refine (line_p hpf HF5.out.m n b ws.length wc ws HW5.out HSz.out hw0 HC.out (HEnv.out.step HF5.out.b)).mono ?_
          clear hpf
          rintro e w6 ⟨rfl, hkp, hp6⟩
          have K6 := Aside0.mk (hkp.blk K5.out (by rfl))
          have HCl := Aside0.mk (HC.out.line n ws)
          generalize hq : lineS S n ws = q at HR2 HCl hp6 ⊢
          clear hq
          obtain ⟨T, x⟩ := q
          dsimp only at *
          by_cases hx : x = 0
          · subst hx
            have HF6 := Aside0.mk (HF5.out.step hkp (hp6 rfl))
            have HR6 := Aside0.mk (HR2.out.trans (if_pos rfl))
            clear HF5 K5 HW5 K6 hkp hp6 HR2
            go_wp2
            go_roundw
            case rel => exact ⟨k + 1, by simp [hwr], by omega, by omega, T, _, rfl, HF6, HCl, HR6⟩
            case measure => simp [intOf, hwr]; omega
          · have HB6 := Aside0.mk (HF5.out.b.trans hkp.b)
            have KL6 := Aside0.mk (hkp.blk HF5.out.r (by rfl))
            have hP := HPP.out
            rw [HR2.out, if_neg hx] at hP
            dsimp only at hP
            rw [if_neg hx] at hP
            have HP := Aside0.mk hP
            clear HF5 K5 HW5 hkp hp6 HR2 hP
            have hxb : (x == 0) = false := beq_eq_false_iff_ne.2 hx
            have u0 := blk_cell K6.out 0
            have hn0 : gx ≠ w.heap.size := by omega
            have r0 := blk_cell KL6.out 0
            have r1 := blk_cell KL6.out 1
            have r2 := blk_cell KL6.out 2
            have r3 := blk_cell KL6.out 3
            have f0 := blk_frozen KL6.out 0
            have f1 := blk_frozen KL6.out 1
            have f2 := blk_frozen KL6.out 2
            have f3 := blk_frozen KL6.out 3
            go_wp2
            refine start_ (n := 8) (S := fun w' => w'.cell? ⟨gx, 0, none⟩ = some (.int .i64 n)) (ds := []) #[false, false, false, false, false, false, false, false] (by kernel_rfl) rfl rfl (u0) (fun hHeld => ?_)
            refine pure_ (i := 0) (N := some 43) (v := ?_) (a' := ?_) #[true, false, false, false, false, false, false, false] rfl rfl (by kernel_rfl) (fun _ _ _ h => h) (Or.inl ⟨by rfl, ?_⟩) ?_ ?_
            rotate_left
            · intro w'
              go_simp
              with_reducible rfl
            rotate_left
            · simp only [Act.put, List.setIfInBounds_toArray, List.set_cons_zero, List.set_cons_succ, i64_w, i32_w]
              rfl
            refine pure_ (i := 1) (N := some 44) (v := ?_) (a' := ?_) #[true, true, false, false, false, false, false, false] rfl rfl (by kernel_rfl) (fun _ _ _ h => h) (Or.inl ⟨by rfl, ?_⟩) ?_ ?_
            rotate_left
            · intro w'
              go_simp
              with_reducible rfl
            rotate_left
            · simp only [Act.put, List.setIfInBounds_toArray, List.set_cons_zero, List.set_cons_succ, i64_w, i32_w]
              rfl
            refine pure_ (i := 3) (N := some 46) (v := ?_) (a' := ?_) #[true, true, false, true, false, false, false, false] rfl rfl (by kernel_rfl) (fun _ _ _ h => h) (Or.inl ⟨by rfl, ?_⟩) ?_ ?_
            rotate_left
            · intro w'
              go_simp
              with_reducible rfl
            rotate_left
            · simp only [Act.put, List.setIfInBounds_toArray, List.set_cons_zero, List.set_cons_succ, i64_w, i32_w]
              rfl
            refine take_ (i := 2) (N := some 45) (v := ?_) (a' := ?_) #[true, true, true, true, false, false, false, false] rfl rfl (by kernel_rfl) (fun _ _ _ h => h) (Or.inl ⟨by rfl, ?_⟩) hHeld ?_ ?_
            rotate_left
            · intro w' s0
              go_simp
              with_reducible rfl
            rotate_left
            · simp only [Act.put, List.setIfInBounds_toArray, List.set_cons_zero, List.set_cons_succ, i64_w, i32_w]
              rfl
            refine one_ (i := 4) (N := none) #[true, true, true, true, true, false, false, false] rfl rfl (by kernel_rfl) (by decide) (fun K hK => ?_)
            refine skip_ (w1 := ?_) (by rfl) rfl ?_ ?_
            rotate_left
            · go_simp
              rfl
            refine hK.out _ _ ((set4_far hn0 u0)) (fun hHeld => ?_)
            clear hK K
            refine pure_ (i := 5) (N := some 3) (v := ?_) (a' := ?_) #[true, true, true, true, true, true, false, false] rfl rfl (by kernel_rfl) (fun _ _ _ h => h) (Or.inl ⟨by rfl, ?_⟩) ?_ ?_
            rotate_left
            · intro w'
              go_simp
              with_reducible rfl
            rotate_left
            · simp only [Act.put, List.setIfInBounds_toArray, List.set_cons_zero, List.set_cons_succ, i64_w, i32_w]
              rfl
            refine pure_ (i := 6) (N := some 4) (v := ?_) (a' := ?_) #[true, true, true, true, true, true, true, false] rfl rfl (by kernel_rfl) (fun _ _ _ h => h) (Or.inl ⟨by rfl, ?_⟩) ?_ ?_
            rotate_left
            · intro w'
              go_simp
              with_reducible rfl
            rotate_left
            · simp only [Act.put, List.setIfInBounds_toArray, List.set_cons_zero, List.set_cons_succ, i64_w, i32_w]
              rfl
            refine pure_ (i := 7) (N := some 5) (v := ?_) (a' := ?_) #[true, true, true, true, true, true, true, true] rfl rfl (by kernel_rfl) (fun _ _ _ h => h) (Or.inl ⟨by rfl, ?_⟩) ?_ ?_
            rotate_left
            · intro w'
              go_simp
              with_reducible rfl
            rotate_left
            · simp only [Act.put, List.setIfInBounds_toArray, List.set_cons_zero, List.set_cons_succ, i64_w, i32_w]
              rfl
            refine done_ (by kernel_rfl) ?_
            clear u0 r0 r1 r2 r3 f0 f1 f2 f3
            have KZ := Aside0.mk (blk_drew (set4_blk (a := .int .i64 0) (b := .int .i64 0) (c := .int .i64 0) (d := .slice none 0 0) KL6.out))
            have FB := Aside0.mk (below_drew (set4_below (a := .int .i64 0) (b := .int .i64 0) (c := .int .i64 0) (d := .slice none 0 0) HB6.out (Nat.le_refl _)))
            generalize (set4 w6 w.heap.size (.int .i64 0) (.int .i64 0) (.int .i64 0) (.slice none 0 0)).drew = wz at KZ FB ⊢
            have z0 : wz.cell? ⟨w.heap.size, 0, none⟩ = some (.int .i64 0) := blk_cell KZ.out 0
            have z1 : wz.cell? ⟨w.heap.size, 1, none⟩ = some (.int .i64 0) := blk_cell KZ.out 1
            have z2 : wz.cell? ⟨w.heap.size, 2, none⟩ = some (.int .i64 0) := blk_cell KZ.out 2
            have z3 : wz.cell? ⟨w.heap.size, 3, none⟩ = some (.slice none 0 0) := blk_cell KZ.out 3
            go_wp2
            refine bodyPost_ret (v := .tuple #[.agg #[.int .i64 0, .int .i64 0, .int .i64 0, .slice none 0 0], .slice none 0 0, .int .i64 n, .int .i64 x]) ?_ rfl (ParseR.bad HP.out hx FB.out)
            simp [results, Tryd.f19, go_sem, z0, z1, z2, z3]
        · obtain rfl : k = lns.length := by omega
          have HE0 : Aside0 (runS S0 lns = (S, 0, 0)) := ⟨by rw [HR.out, Int.toNat_natCast, List.drop_length]; rfl⟩
          have HPE : Aside0 (parseP s = endS S) := ⟨by rw [HPP.out, HE0.out]; rfl⟩
          clear HR HE0 HPP
          obtain ⟨vr, vl, vj, hpf⟩ := HF.out.p
          obtain ⟨Al, cl, rfl, -, -⟩ := Kd.R_reads hpf.l
          obtain ⟨Aj, cj, rfl, -, -⟩ := Kd.R_reads hpf.j
          have HPF := Aside0.mk hpf
          have KL := Aside0.mk HF.out.r
          have HB := Aside0.mk HF.out.b
          obtain ⟨Ar, cr, rfl, hcr, hCr⟩ := Kd.S_reads hpf.r
          have p3 := hpf.cells.2.2.2.1
          have p4 := hpf.cells.2.2.2.2.1
          have p6 := hpf.cells.2.2.2.2.2.2
          have h64 := hpf.n64
          clear hpf HF
          cases hsz : S.sized with
          | false =>
            rw [hsz] at p4
            have hP : parseP s = (S, 0, 5) := by rw [HPE.out, endS, if_pos hsz]
            have HP := Aside0.mk hP
            have r0 := blk_cell KL.out 0
            have r1 := blk_cell KL.out 1
            have r2 := blk_cell KL.out 2
            have r3 := blk_cell KL.out 3
            have f0 := blk_frozen KL.out 0
            have f1 := blk_frozen KL.out 1
            have f2 := blk_frozen KL.out 2
            have f3 := blk_frozen KL.out 3
            clear hP p3 p6 hCr
            go_wp2
            clear r0 r1 r2 r3 f0 f1 f2 f3 p4
            have KZ : Aside0 (((((wr.setCell ⟨w.heap.size, 0, none⟩ (.int .i64 0)).setCell ⟨w.heap.size, 1, none⟩ (.int .i64 0)).setCell ⟨w.heap.size, 2, none⟩ (.int .i64 0)).setCell ⟨w.heap.size, 3, none⟩ (.slice none 0 0)).heap[w.heap.size]? = some (.cells #[.int .i64 0, .int .i64 0, .int .i64 0, .slice none 0 0] 24 (0, 0))) := ⟨set4_blk KL.out⟩
            have FB : Aside0 (Below w.heap.size w ((((wr.setCell ⟨w.heap.size, 0, none⟩ (.int .i64 0)).setCell ⟨w.heap.size, 1, none⟩ (.int .i64 0)).setCell ⟨w.heap.size, 2, none⟩ (.int .i64 0)).setCell ⟨w.heap.size, 3, none⟩ (.slice none 0 0))) := ⟨set4_below HB.out (Nat.le_refl _)⟩
            generalize ((((wr.setCell ⟨w.heap.size, 0, none⟩ (.int .i64 0)).setCell ⟨w.heap.size, 1, none⟩ (.int .i64 0)).setCell ⟨w.heap.size, 2, none⟩ (.int .i64 0)).setCell ⟨w.heap.size, 3, none⟩ (.slice none 0 0)) = wz at KZ FB ⊢
            have z0 : wz.cell? ⟨w.heap.size, 0, none⟩ = some (.int .i64 0) := blk_cell KZ.out 0
            have z1 : wz.cell? ⟨w.heap.size, 1, none⟩ = some (.int .i64 0) := blk_cell KZ.out 1
            have z2 : wz.cell? ⟨w.heap.size, 2, none⟩ = some (.int .i64 0) := blk_cell KZ.out 2
            have z3 : wz.cell? ⟨w.heap.size, 3, none⟩ = some (.slice none 0 0) := blk_cell KZ.out 3
            refine bodyPost_ret (v := .tuple #[.agg #[.int .i64 0, .int .i64 0, .int .i64 0, .slice none 0 0], .slice none 0 0, .int .i64 0, .int .i64 5]) ?_ rfl (ParseR.bad HP.out (by decide) FB.out)
            simp [results, Tryd.f19, go_sem, z0, z1, z2, z3]
          | true =>
            rw [hsz] at p4
            have HSz := Aside0.mk hsz
            go_wp2
            go_loopw [60] (fun cv w' => ∃ k : Int, cv = .int .i64 k ∧ 0 ≤ k ∧ k ≤ S.rungs.length ∧ ∃ wx : World, wx = w' ∧ Aside0 (PeF w gp S Ar cr (.slice Al S.lines.length cl) (.slice Aj S.jumps.length cj) wx) ∧ Aside0 (∀ j : Nat, (j : Int) < k → jbAt S.rungs (j : Int) = false)) (fun cv _ => ((S.rungs.length : Int) - intOf cv).toNat)
            case atStart => exact ⟨0, rfl, by omega, by omega, _, rfl, ⟨⟨HB.out, HPF.out, KL.out⟩⟩, ⟨fun j hj => by omega⟩⟩
            case round =>
              clear HB HPF KL hCr p3 p4 p6
              obtain ⟨k, rfl, k0, k1, wx, rfl, HF, HJ⟩ := hrel
              have hCr := (Kd.S_reads' HF.out.p.r).2.2
              by_cases hk : k < S.rungs.length
              · obtain ⟨ad, A1, c1, A2, c2, rfl, x0, x1, x2, x3, hl1, hi1, hl2, hi2⟩ := PPrinterMatchesReference.at_T40 hCr k k0 hk
                clear hl1 hi1 hl2 hi2
                change wx.cell? _ = some (.string (rdR S.rungs k).f0) at x0
                change wx.cell? _ = some (.slice A1 (rdR S.rungs k).f1.length c1) at x1
                change wx.cell? _ = some (.slice A2 (rdR S.rungs k).f2.length c2) at x2
                change wx.cell? _ = some (.string (rdR S.rungs k).f3) at x3
                have hwr : wrap64 (k + 1) = k + 1 := w64 (by omega) (by omega)
                have hjb : jbAt S.rungs k = (!(rdR S.rungs k).f3.toList.isEmpty && !hasLab (S.rungs.drop (k + 1).toNat) (rdR S.rungs k).f3) := rfl
                have HStep : Aside0 (jbAt S.rungs k = false → ∀ j : Nat, (j : Int) < k + 1 → jbAt S.rungs (j : Int) = false) := ⟨fun h j hj => by
                  by_cases hj2 : (j : Int) < k
                  · exact HJ.out j hj2
                  · obtain rfl : (j : Int) = k := by omega
                    exact h⟩
                by_cases j0 : (rdR S.rungs k).f3.toList = []
                · have j1 : (rdR S.rungs k).f3.toList.isEmpty = true := by rw [j0]; rfl
                  have HJ2 := Aside0.mk (HStep.out (by rw [hjb, j1]; rfl))
                  have HF1 := fun o => Aside0.mk (HF.out.below (below_alloc (Below.refl _ _) o))
                  clear hjb HStep hCr
                  go_wp2
                  go_roundw
                  case rel => exact ⟨k + 1, by simp [hwr], by omega, by omega, _, rfl, HF1 _, HJ2⟩
                  case measure => simp [intOf, hwr]; omega
                · have j1 : (rdR S.rungs k).f3.toList.isEmpty = false := by simpa using j0
                  obtain ⟨A', hsl, hct, hcl⟩ := rungs_from hCr hcr (show (0 : Int) ≤ k + 1 by omega) (by omega : k + 1 ≤ S.rungs.length)
                  have HHas := fun W (hW : Below wx.heap.size wx W) (g2 : Nat) (h : W.cell? ⟨g2, 3, none⟩ = some (.string (rdR S.rungs k).f3)) => has_d A' (cr - (k + 1).toNat) (S.rungs.drop (k + 1).toNat) (rdR S.rungs k).f3 g2 W (Kd.C_below hct hW) hcl h
                  simp only [List.length_drop] at HHas hsl
                  have p3 := HF.out.p.cells.2.2.2.1
                  have ltg : gp < wx.heap.size := blk_lt HF.out.p.p
                  generalize hasLab (S.rungs.drop (k + 1).toNat) (rdR S.rungs k).f3 = hl at HHas hjb
                  have HH := Aside0.mk HHas
                  have HJB := Aside0.mk hjb
                  have HF1 := Aside0.mk (HF.out.below (below_alloc (Below.refl _ _) (.cells #[.string (rdR S.rungs k).f0, .slice A1 (rdR S.rungs k).f1.length c1, .slice A2 (rdR S.rungs k).f2.length c2, .string (rdR S.rungs k).f3] 40)))
                  have n3 := Aside0.mk (blk_cell (blk_new wx (.cells #[.string (rdR S.rungs k).f0, .slice A1 (rdR S.rungs k).f1.length c1, .slice A2 (rdR S.rungs k).f2.length c2, .string (rdR S.rungs k).f3] 40)) 3)
                  clear hct hcl HHas hjb hCr
                  go_wp2_with fail
                  refine (HH.out _ (below_alloc (Below.refl _ _) _) _ n3.out).mono ?_
                  rintro e1 w3 ⟨rfl, hb⟩
                  have HF3 := Aside0.mk (HF1.out.below hb)
                  clear HH HF1 n3 hb HF
                  cases hl with
                  | true =>
                    have HJ2 := Aside0.mk (HStep.out (by rw [HJB.out, j1]; rfl))
                    go_wp2
                    go_roundw
                    case rel => exact ⟨k + 1, by simp [hwr], by omega, by omega, _, rfl, HF3, HJ2⟩
                    case measure => simp [intOf, hwr]; omega
                  | false =>
                    have hN : parseP s = (S, S.jumps.getD k.toNat 0, 15) := by
                      rw [HPE.out, endS, if_neg (by rw [HSz.out]; simp), firstN_some (k := k.toNat) (by omega) (by rw [show ((k.toNat : Nat) : Int) = k by omega, HJB.out, j1]; rfl) (fun j hj => HJ.out j (by omega))]
                    have HN := Aside0.mk hN
                    have hjl := HF3.out.p.nj
                    obtain ⟨gj, cj', ej, -, -, -⟩ := Kd.R_form HF3.out.p.j (by omega)
                    cases ej
                    obtain ⟨cb, htj⟩ := Kd.R_typed HF3.out.p.j gj rfl
                    have hn0 : gp ≠ w.heap.size := fun e => by have h1 := HF3.out.p.p; have h2 := HF3.out.r; rw [e, h2] at h1; simp at h1
                    have hn1 : gj ≠ w.heap.size := fun e => by have h2 := HF3.out.r; rw [e, h2] at htj; cases htj
                    have u0 := HF3.out.p.cells.2.2.2.2.2.2
                    have u1 : w3.cell? ⟨gj, k.toNat, none⟩ = some (.int .i64 (S.jumps.getD k.toNat 0)) := by
                      obtain ⟨ad, e, hc⟩ := Kd.at_int (Kd.R_reads' HF3.out.p.j).2.2 k (by omega) (by omega)
                      cases e
                      have ea : (⟨gj, 0, none⟩ : Addr).add k.toNat = ⟨gj, k.toNat, none⟩ := by unfold Addr.add; split <;> simp_all
                      rw [ea] at hc
                      exact hc
                    have KL := Aside0.mk HF3.out.r
                    have HB := Aside0.mk HF3.out.b
                    have r0 := blk_cell KL.out 0
                    have r1 := blk_cell KL.out 1
                    have r2 := blk_cell KL.out 2
                    have r3 := blk_cell KL.out 3
                    have f0 := blk_frozen KL.out 0
                    have f1 := blk_frozen KL.out 1
                    have f2 := blk_frozen KL.out 2
                    have f3 := blk_frozen KL.out 3
                    have hjk : k < (S.jumps.length : Int) := by omega
                    clear hN htj hjl x0 x1 x2 x3 p3 HF3 hsl ltg
                    generalize S.jumps.getD k.toNat 0 = y at u1 HN
                    go_wp2
                    refine start_ (n := 12) (S := fun w' => w'.cell? ⟨gp, 6, none⟩ = some (.slice (some ⟨gj, 0, none⟩) S.jumps.length cj) ∧ w'.cell? ⟨gj, k.toNat, none⟩ = some (.int .i64 y)) (ds := []) #[false, false, false, false, false, false, false, false, false, false, false, false] (by kernel_rfl) rfl rfl ⟨u0, u1⟩ (fun hHeld => ?_)
                    refine pure_ (i := 0) (N := some 81) (v := ?_) (a' := ?_) #[true, false, false, false, false, false, false, false, false, false, false, false] rfl rfl (by kernel_rfl) (fun _ _ _ h => h) (Or.inl ⟨by rfl, ?_⟩) ?_ ?_
                    rotate_left
                    · intro w'
                      go_simp
                      with_reducible rfl
                    rotate_left
                    · simp only [Act.put, List.setIfInBounds_toArray, List.set_cons_zero, List.set_cons_succ, i64_w, i32_w]
                      rfl
                    refine pure_ (i := 1) (N := some 82) (v := ?_) (a' := ?_) #[true, true, false, false, false, false, false, false, false, false, false, false] rfl rfl (by kernel_rfl) (fun _ _ _ h => h) (Or.inl ⟨by rfl, ?_⟩) ?_ ?_
                    rotate_left
                    · intro w'
                      go_simp
                      with_reducible rfl
                    rotate_left
                    · simp only [Act.put, List.setIfInBounds_toArray, List.set_cons_zero, List.set_cons_succ, i64_w, i32_w]
                      rfl
                    refine pure_ (i := 2) (N := some 83) (v := ?_) (a' := ?_) #[true, true, true, false, false, false, false, false, false, false, false, false] rfl rfl (by kernel_rfl) (fun _ _ _ h => h) (Or.inl ⟨by rfl, ?_⟩) ?_ ?_
                    rotate_left
                    · intro w'
                      go_simp
                      with_reducible rfl
                    rotate_left
                    · simp only [Act.put, List.setIfInBounds_toArray, List.set_cons_zero, List.set_cons_succ, i64_w, i32_w]
                      rfl
                    refine pure_ (i := 3) (N := some 84) (v := ?_) (a' := ?_) #[true, true, true, true, false, false, false, false, false, false, false, false] rfl rfl (by kernel_rfl) (fun _ _ _ h => h) (Or.inl ⟨by rfl, ?_⟩) ?_ ?_
                    rotate_left
                    · intro w'
                      go_simp
                      with_reducible rfl
                    rotate_left
                    · simp only [Act.put, List.setIfInBounds_toArray, List.set_cons_zero, List.set_cons_succ, i64_w, i32_w]
                      rfl
                    refine pure_ (i := 5) (N := some 86) (v := ?_) (a' := ?_) #[true, true, true, true, false, true, false, false, false, false, false, false] rfl rfl (by kernel_rfl) (fun _ _ _ h => h) (Or.inl ⟨by rfl, ?_⟩) ?_ ?_
                    rotate_left
                    · intro w'
                      go_simp
                      with_reducible rfl
                    rotate_left
                    · simp only [Act.put, List.setIfInBounds_toArray, List.set_cons_zero, List.set_cons_succ, i64_w, i32_w]
                      rfl
                    refine take_ (i := 4) (N := some 85) (v := ?_) (a' := ?_) #[true, true, true, true, true, true, false, false, false, false, false, false] rfl rfl (by kernel_rfl) (fun _ _ _ h => h) (Or.inl ⟨by rfl, ?_⟩) hHeld ?_ ?_
                    rotate_left
                    · rintro w' ⟨s0, s1⟩
                      go_simp
                      with_reducible rfl
                    rotate_left
                    · simp only [Act.put, List.setIfInBounds_toArray, List.set_cons_zero, List.set_cons_succ, i64_w, i32_w]
                      rfl
                    refine pure_ (i := 6) (N := some 87) (v := ?_) (a' := ?_) #[true, true, true, true, true, true, true, false, false, false, false, false] rfl rfl (by kernel_rfl) (fun _ _ _ h => h) (Or.inl ⟨by rfl, ?_⟩) ?_ ?_
                    rotate_left
                    · intro w'
                      go_simp
                      with_reducible rfl
                    rotate_left
                    · simp only [Act.put, List.setIfInBounds_toArray, List.set_cons_zero, List.set_cons_succ, i64_w, i32_w]
                      rfl
                    refine take_ (i := 7) (N := some 88) (v := ?_) (a' := ?_) #[true, true, true, true, true, true, true, true, false, false, false, false] rfl rfl (by kernel_rfl) (fun _ _ _ h => h) (Or.inl ⟨by rfl, ?_⟩) hHeld ?_ ?_
                    rotate_left
                    · rintro w' ⟨s0, s1⟩
                      go_simp
                      with_reducible rfl
                    rotate_left
                    · simp only [Act.put, List.setIfInBounds_toArray, List.set_cons_zero, List.set_cons_succ, i64_w, i32_w]
                      rfl
                    refine one_ (i := 8) (N := none) #[true, true, true, true, true, true, true, true, true, false, false, false] rfl rfl (by kernel_rfl) (by decide) (fun K hK => ?_)
                    refine skip_ (w1 := ?_) (by rfl) rfl ?_ ?_
                    rotate_left
                    · go_simp
                      rfl
                    refine hK.out _ _ ⟨(set4_far hn0 u0), (set4_far hn1 u1)⟩ (fun hHeld => ?_)
                    clear hK K
                    refine pure_ (i := 9) (N := some 3) (v := ?_) (a' := ?_) #[true, true, true, true, true, true, true, true, true, true, false, false] rfl rfl (by kernel_rfl) (fun _ _ _ h => h) (Or.inl ⟨by rfl, ?_⟩) ?_ ?_
                    rotate_left
                    · intro w'
                      go_simp
                      with_reducible rfl
                    rotate_left
                    · simp only [Act.put, List.setIfInBounds_toArray, List.set_cons_zero, List.set_cons_succ, i64_w, i32_w]
                      rfl
                    refine pure_ (i := 10) (N := some 4) (v := ?_) (a' := ?_) #[true, true, true, true, true, true, true, true, true, true, true, false] rfl rfl (by kernel_rfl) (fun _ _ _ h => h) (Or.inl ⟨by rfl, ?_⟩) ?_ ?_
                    rotate_left
                    · intro w'
                      go_simp
                      with_reducible rfl
                    rotate_left
                    · simp only [Act.put, List.setIfInBounds_toArray, List.set_cons_zero, List.set_cons_succ, i64_w, i32_w]
                      rfl
                    refine pure_ (i := 11) (N := some 5) (v := ?_) (a' := ?_) #[true, true, true, true, true, true, true, true, true, true, true, true] rfl rfl (by kernel_rfl) (fun _ _ _ h => h) (Or.inl ⟨by rfl, ?_⟩) ?_ ?_
                    rotate_left
                    · intro w'
                      go_simp
                      with_reducible rfl
                    rotate_left
                    · simp only [Act.put, List.setIfInBounds_toArray, List.set_cons_zero, List.set_cons_succ, i64_w, i32_w]
                      rfl
                    refine done_ (by kernel_rfl) ?_
                    clear u0 u1 r0 r1 r2 r3 f0 f1 f2 f3
                    have KZ := Aside0.mk (blk_drew (set4_blk (a := .int .i64 0) (b := .int .i64 0) (c := .int .i64 0) (d := .slice none 0 0) KL.out))
                    have FB := Aside0.mk (below_drew (set4_below (a := .int .i64 0) (b := .int .i64 0) (c := .int .i64 0) (d := .slice none 0 0) HB.out (Nat.le_refl _)))
                    generalize (set4 w3 w.heap.size (.int .i64 0) (.int .i64 0) (.int .i64 0) (.slice none 0 0)).drew = wz at KZ FB ⊢
                    have z0 : wz.cell? ⟨w.heap.size, 0, none⟩ = some (.int .i64 0) := blk_cell KZ.out 0
                    have z1 : wz.cell? ⟨w.heap.size, 1, none⟩ = some (.int .i64 0) := blk_cell KZ.out 1
                    have z2 : wz.cell? ⟨w.heap.size, 2, none⟩ = some (.int .i64 0) := blk_cell KZ.out 2
                    have z3 : wz.cell? ⟨w.heap.size, 3, none⟩ = some (.slice none 0 0) := blk_cell KZ.out 3
                    go_wp2
                    refine bodyPost_ret (v := .tuple #[.agg #[.int .i64 0, .int .i64 0, .int .i64 0, .slice none 0 0], .slice none 0 0, .int .i64 y, .int .i64 15]) ?_ rfl (ParseR.bad HN.out (by decide) FB.out)
                    simp [results, Tryd.f19, go_sem, z0, z1, z2, z3]
              · obtain rfl : k = S.rungs.length := by omega
                have hN : parseP s = (S, 0, 0) := by
                  rw [HPE.out, endS, if_neg (by rw [HSz.out]; simp), firstN_none (fun j hj => HJ.out j (by omega))]
                have HN := Aside0.mk hN
                obtain ⟨u0, u1, u2, u3, -, u4, -⟩ := HF.out.p.cells
                have hn0 : gp ≠ w.heap.size := fun e => by have h1 := HF.out.p.p; have h2 := HF.out.r; rw [e, h2] at h1; simp at h1
                have hn1 := hn0
                have hn2 := hn0
                have hn3 := hn0
                have hn4 := hn0
                have KL := Aside0.mk HF.out.r
                have HB := Aside0.mk HF.out.b
                have r0 := blk_cell KL.out 0
                have r1 := blk_cell KL.out 1
                have r2 := blk_cell KL.out 2
                have r3 := blk_cell KL.out 3
                have f0 := blk_frozen KL.out 0
                have f1 := blk_frozen KL.out 1
                have f2 := blk_frozen KL.out 2
                have f3 := blk_frozen KL.out 3
                have FS := Aside0.mk (Kd.S_drew (set4_S (a := .int .i64 S.i) (b := .int .i64 S.q) (c := .int .i64 S.m) (d := .slice Ar S.rungs.length cr) KL.out HF.out.p.r))
                have FL := Aside0.mk (Kd.R_drew (set4_R (a := .int .i64 S.i) (b := .int .i64 S.q) (c := .int .i64 S.m) (d := .slice Ar S.rungs.length cr) KL.out HF.out.p.l))
                have hnl := Aside0.mk HF.out.p.nl
                have hn64 := Aside0.mk HF.out.p.n64
                clear hN hCr HF
                go_wp2
                refine start_ (n := 12) (S := fun w' => w'.cell? ⟨gp, 0, none⟩ = some (.int .i64 S.i) ∧ w'.cell? ⟨gp, 1, none⟩ = some (.int .i64 S.q) ∧ w'.cell? ⟨gp, 2, none⟩ = some (.int .i64 S.m) ∧ w'.cell? ⟨gp, 3, none⟩ = some (.slice Ar S.rungs.length cr) ∧ w'.cell? ⟨gp, 5, none⟩ = some (.slice Al S.lines.length cl)) (ds := []) #[false, false, false, false, false, false, false, false, false, false, false, false] (by kernel_rfl) rfl rfl ⟨u0, u1, u2, u3, u4⟩ (fun hHeld => ?_)
                refine pure_ (i := 0) (N := some 90) (v := ?_) (a' := ?_) #[true, false, false, false, false, false, false, false, false, false, false, false] rfl rfl (by kernel_rfl) (fun _ _ _ h => h) (Or.inl ⟨by rfl, ?_⟩) ?_ ?_
                rotate_left
                · intro w'
                  go_simp
                  with_reducible rfl
                rotate_left
                · simp only [Act.put, List.setIfInBounds_toArray, List.set_cons_zero, List.set_cons_succ, i64_w, i32_w]
                  rfl
                refine pure_ (i := 1) (N := some 91) (v := ?_) (a' := ?_) #[true, true, false, false, false, false, false, false, false, false, false, false] rfl rfl (by kernel_rfl) (fun _ _ _ h => h) (Or.inl ⟨by rfl, ?_⟩) ?_ ?_
                rotate_left
                · intro w'
                  go_simp
                  with_reducible rfl
                rotate_left
                · simp only [Act.put, List.setIfInBounds_toArray, List.set_cons_zero, List.set_cons_succ, i64_w, i32_w]
                  rfl
                refine pure_ (i := 2) (N := some 92) (v := ?_) (a' := ?_) #[true, true, true, false, false, false, false, false, false, false, false, false] rfl rfl (by kernel_rfl) (fun _ _ _ h => h) (Or.inl ⟨by rfl, ?_⟩) ?_ ?_
                rotate_left
                · intro w'
                  go_simp
                  with_reducible rfl
                rotate_left
                · simp only [Act.put, List.setIfInBounds_toArray, List.set_cons_zero, List.set_cons_succ, i64_w, i32_w]
                  rfl
                refine pure_ (i := 4) (N := some 94) (v := ?_) (a' := ?_) #[true, true, true, false, true, false, false, false, false, false, false, false] rfl rfl (by kernel_rfl) (fun _ _ _ h => h) (Or.inl ⟨by rfl, ?_⟩) ?_ ?_
                rotate_left
                · intro w'
                  go_simp
                  with_reducible rfl
                rotate_left
                · simp only [Act.put, List.setIfInBounds_toArray, List.set_cons_zero, List.set_cons_succ, i64_w, i32_w]
                  rfl
                refine pure_ (i := 5) (N := some 95) (v := ?_) (a' := ?_) #[true, true, true, false, true, true, false, false, false, false, false, false] rfl rfl (by kernel_rfl) (fun _ _ _ h => h) (Or.inl ⟨by rfl, ?_⟩) ?_ ?_
                rotate_left
                · intro w'
                  go_simp
                  with_reducible rfl
                rotate_left
                · simp only [Act.put, List.setIfInBounds_toArray, List.set_cons_zero, List.set_cons_succ, i64_w, i32_w]
                  rfl
                refine pure_ (i := 6) (N := some 96) (v := ?_) (a' := ?_) #[true, true, true, false, true, true, true, false, false, false, false, false] rfl rfl (by kernel_rfl) (fun _ _ _ h => h) (Or.inl ⟨by rfl, ?_⟩) ?_ ?_
                rotate_left
                · intro w'
                  go_simp
                  with_reducible rfl
                rotate_left
                · simp only [Act.put, List.setIfInBounds_toArray, List.set_cons_zero, List.set_cons_succ, i64_w, i32_w]
                  rfl
                refine take_ (i := 3) (N := some 93) (v := ?_) (a' := ?_) #[true, true, true, true, true, true, true, false, false, false, false, false] rfl rfl (by kernel_rfl) (fun _ _ _ h => h) (Or.inl ⟨by rfl, ?_⟩) hHeld ?_ ?_
                rotate_left
                · rintro w' ⟨s0, s1, s2, s3, s4⟩
                  go_simp
                  with_reducible rfl
                rotate_left
                · simp only [Act.put, List.setIfInBounds_toArray, List.set_cons_zero, List.set_cons_succ, i64_w, i32_w]
                  rfl
                refine take_ (i := 7) (N := some 97) (v := ?_) (a' := ?_) #[true, true, true, true, true, true, true, true, false, false, false, false] rfl rfl (by kernel_rfl) (fun _ _ _ h => h) (Or.inl ⟨by rfl, ?_⟩) hHeld ?_ ?_
                rotate_left
                · rintro w' ⟨s0, s1, s2, s3, s4⟩
                  go_simp
                  with_reducible rfl
                rotate_left
                · simp only [Act.put, List.setIfInBounds_toArray, List.set_cons_zero, List.set_cons_succ, i64_w, i32_w]
                  rfl
                refine one_ (i := 8) (N := none) #[true, true, true, true, true, true, true, true, true, false, false, false] rfl rfl (by kernel_rfl) (by decide) (fun K hK => ?_)
                refine skip_ (w1 := ?_) (by rfl) rfl ?_ ?_
                rotate_left
                · go_simp
                  rfl
                refine hK.out _ _ ⟨(set4_far hn0 u0), (set4_far hn1 u1), (set4_far hn2 u2), (set4_far hn3 u3), (set4_far hn4 u4)⟩ (fun hHeld => ?_)
                clear hK K
                refine pure_ (i := 9) (N := some 3) (v := ?_) (a' := ?_) #[true, true, true, true, true, true, true, true, true, true, false, false] rfl rfl (by kernel_rfl) (fun _ _ _ h => h) (Or.inl ⟨by rfl, ?_⟩) ?_ ?_
                rotate_left
                · intro w'
                  go_simp
                  with_reducible rfl
                rotate_left
                · simp only [Act.put, List.setIfInBounds_toArray, List.set_cons_zero, List.set_cons_succ, i64_w, i32_w]
                  rfl
                refine pure_ (i := 10) (N := some 4) (v := ?_) (a' := ?_) #[true, true, true, true, true, true, true, true, true, true, true, false] rfl rfl (by kernel_rfl) (fun _ _ _ h => h) (Or.inl ⟨by rfl, ?_⟩) ?_ ?_
                rotate_left
                · intro w'
                  go_simp
                  with_reducible rfl
                rotate_left
                · simp only [Act.put, List.setIfInBounds_toArray, List.set_cons_zero, List.set_cons_succ, i64_w, i32_w]
                  rfl
                refine pure_ (i := 11) (N := some 5) (v := ?_) (a' := ?_) #[true, true, true, true, true, true, true, true, true, true, true, true] rfl rfl (by kernel_rfl) (fun _ _ _ h => h) (Or.inl ⟨by rfl, ?_⟩) ?_ ?_
                rotate_left
                · intro w'
                  go_simp
                  with_reducible rfl
                rotate_left
                · simp only [Act.put, List.setIfInBounds_toArray, List.set_cons_zero, List.set_cons_succ, i64_w, i32_w]
                  rfl
                refine done_ (by kernel_rfl) ?_
                clear u0 u1 u2 u3 u4 r0 r1 r2 r3 f0 f1 f2 f3
                have KZ := Aside0.mk (blk_drew (set4_blk (a := .int .i64 S.i) (b := .int .i64 S.q) (c := .int .i64 S.m) (d := .slice Ar S.rungs.length cr) KL.out))
                have FB := Aside0.mk (below_drew (set4_below (a := .int .i64 S.i) (b := .int .i64 S.q) (c := .int .i64 S.m) (d := .slice Ar S.rungs.length cr) HB.out (Nat.le_refl _)))
                generalize (set4 wx w.heap.size (.int .i64 S.i) (.int .i64 S.q) (.int .i64 S.m) (.slice Ar S.rungs.length cr)).drew = wz at KZ FB FS FL ⊢
                have z0 : wz.cell? ⟨w.heap.size, 0, none⟩ = some (.int .i64 S.i) := blk_cell KZ.out 0
                have z1 : wz.cell? ⟨w.heap.size, 1, none⟩ = some (.int .i64 S.q) := blk_cell KZ.out 1
                have z2 : wz.cell? ⟨w.heap.size, 2, none⟩ = some (.int .i64 S.m) := blk_cell KZ.out 2
                have z3 : wz.cell? ⟨w.heap.size, 3, none⟩ = some (.slice Ar S.rungs.length cr) := blk_cell KZ.out 3
                go_wp2
                refine bodyPost_ret (v := .tuple #[.agg #[.int .i64 S.i, .int .i64 S.q, .int .i64 S.m, .slice Ar S.rungs.length cr], .slice Al S.lines.length cl, .int .i64 0, .int .i64 0]) ?_ rfl ⟨FB.out, .inr ⟨by rw [HN.out], _, _, by rw [HN.out], by rw [HN.out]; exact FS.out, by rw [HN.out]; exact FL.out, by rw [HN.out]; exact hnl.out, by rw [HN.out]; exact hn64.out, by rw [HN.out]; exact HC.out⟩⟩
                simp [results, Tryd.f19, go_sem, z0, z1, z2, z3]
    · skip
      have hbl : badLine s = some k := firstN_some hk (by rw [hbad]; rfl) (fun j hj => by
        have := hpl (cntAt s j) (by unfold upN; exact List.mem_map.2 ⟨j, List.mem_range.2 hj, rfl⟩)
        rw [this]; rfl)
      have hp : parseP s = (S0, (k : Int) + 1, 6) := by rw [HPP.out, hbl]
      have HP := Aside0.mk hp
      have k2 := K2.out
      have r0 := blk_cell k2 0
      have r1 := blk_cell k2 1
      have r2 := blk_cell k2 2
      have r3 := blk_cell k2 3
      have f0 := blk_frozen k2 0
      have f1 := blk_frozen k2 1
      have f2 := blk_frozen k2 2
      have f3 := blk_frozen k2 3
      clear hp k2 hpl hbad
      go_wp2
      have KZ : Aside0 (((((w2.setCell ⟨w.heap.size, 0, none⟩ (.int .i64 0)).setCell ⟨w.heap.size, 1, none⟩ (.int .i64 0)).setCell ⟨w.heap.size, 2, none⟩ (.int .i64 0)).setCell ⟨w.heap.size, 3, none⟩ (.slice none 0 0)).heap[w.heap.size]? = some (.cells #[.int .i64 0, .int .i64 0, .int .i64 0, .slice none 0 0] 24 (0, 0))) := ⟨set4_blk (K2.out)⟩
      have FB : Aside0 (Below w.heap.size w (((((w2.setCell ⟨w.heap.size, 0, none⟩ (.int .i64 0)).setCell ⟨w.heap.size, 1, none⟩ (.int .i64 0)).setCell ⟨w.heap.size, 2, none⟩ (.int .i64 0)).setCell ⟨w.heap.size, 3, none⟩ (.slice none 0 0)))) := ⟨set4_below (HB.out) (Nat.le_refl _)⟩
      generalize ((((w2.setCell ⟨w.heap.size, 0, none⟩ (.int .i64 0)).setCell ⟨w.heap.size, 1, none⟩ (.int .i64 0)).setCell ⟨w.heap.size, 2, none⟩ (.int .i64 0)).setCell ⟨w.heap.size, 3, none⟩ (.slice none 0 0)) = wz at KZ FB ⊢
      have z0 : wz.cell? ⟨w.heap.size, 0, none⟩ = some (.int .i64 0) := blk_cell KZ.out 0
      have z1 : wz.cell? ⟨w.heap.size, 1, none⟩ = some (.int .i64 0) := blk_cell KZ.out 1
      have z2 : wz.cell? ⟨w.heap.size, 2, none⟩ = some (.int .i64 0) := blk_cell KZ.out 2
      have z3 : wz.cell? ⟨w.heap.size, 3, none⟩ = some (.slice none 0 0) := blk_cell KZ.out 3
      refine bodyPost_ret (v := .tuple #[.agg #[.int .i64 0, .int .i64 0, .int .i64 0, .slice none 0 0], .slice none 0 0, .int .i64 ((k : Int) + 1), .int .i64 6]) ?_ rfl (ParseR.bad HP.out (by decide) FB.out)
      simp [results, Tryd.f19, go_sem, z0, z1, z2, z3]
end Go.Proofs.YtolmkdhgnganaaaDoor.H
namespace Go.Proofs.YtolmkdhgnganaaaDoor.H
open Go Go.RowKit Go.Proofs Go.Proofs.YtolmkdhgnganaaaDoorW.PrintWords Go.Proofs.YtolmkdhgnganaaaDoor.Sp
/-- A byte put ahead of the first line. -/
def hd (b : UInt8) : List (List UInt8) → List (List UInt8)
  | [] => [[b]]
  | p :: r => (b :: p) :: r
/-- A text's lines. -/
def spl : List UInt8 → List (List UInt8)
  | [] => [[]]
  | b :: l => if b = 10 then [] :: spl l else hd b (spl l)
theorem spl_ne : ∀ l, spl l ≠ []
  | [] => by simp [spl]
  | b :: l => by
    unfold spl
    split
    · simp
    · cases spl l <;> simp [hd]
theorem index_hit (c : UInt8) (l : List UInt8) : Lib.index (c :: l) [c] = 0 := by
  unfold Lib.index
  rw [if_pos (by simp)]
theorem index_skip {b c : UInt8} (l : List UInt8) (h : b ≠ c) : Lib.index (b :: l) [c] = if Lib.index l [c] = -1 then -1 else Lib.index l [c] + 1 := by
  rw [Lib.index]
  have : ([c] : List UInt8).isPrefixOf (b :: l) = false := by
    simp [List.isPrefixOf, Ne.symm h]
  rw [this]
  by_cases hm : Lib.index l [c] = -1
  · simp [hm]
  · have : (Lib.index l [c] == -1) = false := by simpa using hm
    simp [this, hm]
theorem splitK_skip {b c : UInt8} (h : b ≠ c) (k : Nat) (l : List UInt8) : Lib.splitK [c] 0 k (b :: l) = hd b (Lib.splitK [c] 0 k l) := by
  cases k with
  | zero => rfl
  | succ k =>
    rw [Lib.splitK, Lib.splitK, index_skip l h]
    have hge := Lib.index_ge l [c]
    by_cases hm : Lib.index l [c] = -1
    · simp [hm, hd]
    · have h1 : (Lib.index l [c] == -1) = false := by simpa using hm
      have h2 : ((Lib.index l [c] + 1) == -1) = false := by rw [beq_eq_false_iff_ne]; omega
      have h3 : (Lib.index l [c] + 1).toNat = (Lib.index l [c]).toNat + 1 := by omega
      rw [if_neg hm, h1, h2, h3]
      simp [hd]
theorem splitK_hit (c : UInt8) (k : Nat) (l : List UInt8) : Lib.splitK [c] 0 (k + 1) (c :: l) = [] :: Lib.splitK [c] 0 k l := by
  rw [Lib.splitK, index_hit]
  simp
theorem splitK_spl : ∀ l : List UInt8, Lib.splitK [10] 0 (Lib.count l [10]) l = spl l
  | [] => by rfl
  | b :: l => by
    by_cases h : b = 10
    · subst h
      rw [Lib.count_cons_eq, Nat.add_comm, splitK_hit, splitK_spl l, spl, if_pos rfl]
    · rw [Lib.count_cons_ne _ _ _ h, splitK_skip h, splitK_spl l, spl, if_neg h]
theorem pieces_spl (s : ByteArray) : (pieces s).map (·.data.toList) = spl s.data.toList := by
  unfold pieces
  rw [Lib.splitB_data]
  exact splitK_spl _
/-- What lies ahead of the comment. -/
def bareL (l : List UInt8) : List UInt8 := l.takeWhile (fun b => b != 59)
theorem cut_bare : ∀ l : List UInt8, (Lib.cut l [59]).1 = bareL l
  | [] => by rfl
  | b :: l => by
    have ih := cut_bare l
    unfold Lib.cut at ih ⊢
    by_cases h : b = 59
    · subst h
      rw [index_hit]
      simp [bareL]
    · have hge := Lib.index_ge l [59]
      have hb : bareL (b :: l) = b :: bareL l := by simp [bareL, h]
      rw [index_skip l h, hb, ← ih]
      by_cases hm : Lib.index l [59] = -1
      · simp [hm]
      · have h3 : (Lib.index l [59] + 1).toNat = (Lib.index l [59]).toNat + 1 := by omega
        rw [if_neg hm, if_pos (by omega), if_pos (by omega)]
        simp [h3]
/-- The words of a line. -/
def wds (p : List UInt8) : List ByteArray := (Lib.fields (bareL p)).map fun l => (⟨l.toArray⟩ : ByteArray)
/-- The lines that hold words; the first has the number n. -/
def linesFrom (n : Int) : List (List UInt8) → List Ln
  | [] => []
  | p :: r => (if (wds p).isEmpty then [] else [⟨n, wds p⟩]) ++ linesFrom (n + 1) r
/-- The first line that holds a byte that is not permitted. -/
def badFrom (n : Int) : List (List UInt8) → Option Int
  | [] => none
  | p :: r => if isPl (bareL p) then badFrom (n + 1) r else some n
/-- What Parse answers, told over the lines. -/
def parseL (ps : List (List UInt8)) : PSt × Int × Int :=
  match badFrom 1 ps with
  | some n => (S0, n, 6)
  | none => if (runS S0 (linesFrom 1 ps)).2.2 = 0 then endS (runS S0 (linesFrom 1 ps)).1 else runS S0 (linesFrom 1 ps)
theorem spl_append (a b : List UInt8) : spl (a ++ 10 :: b) = spl a ++ spl b := by
  induction a with
  | nil => simp [spl]
  | cons x a ih =>
    rw [List.cons_append, spl, spl, ih]
    split
    · rfl
    · cases h : spl a with
      | nil => exact absurd h (spl_ne a)
      | cons p r => rfl
theorem spl_one {a : List UInt8} (h : ∀ b ∈ a, b ≠ 10) : spl a = [a] := by
  induction a with
  | nil => rfl
  | cons x a ih =>
    rw [spl, if_neg (h x List.mem_cons_self), ih (fun b hb => h b (List.mem_cons_of_mem _ hb))]
    rfl
/-- The words and the line's number, over the pieces. -/
theorem getD_map {α β : Type} (f : α → β) (l : List α) (k : Nat) (d : α) : (l[k]?.map f).getD (f d) = f (l[k]?.getD d) := by cases l[k]? <;> rfl
theorem cntAt_bytes (s : ByteArray) (k : Nat) : (cntAt s k).2.data.toList = bareL ((spl s.data.toList)[k]?.getD []) := by
  unfold cntAt bare
  dsimp only
  rw [cut_bare, ← pieces_spl, List.getElem?_map]
  exact congrArg bareL (getD_map (fun x : ByteArray => x.data.toList) (pieces s) k ByteArray.empty).symm
theorem wordsOf_cnt (s : ByteArray) (k : Nat) : wordsOf (cntAt s k).2 = wds ((spl s.data.toList)[k]?.getD []) := by
  unfold wordsOf wds
  rw [cntAt_bytes]
theorem spl_length (s : ByteArray) : (spl s.data.toList).length = (pieces s).length := by rw [← pieces_spl, List.length_map]
theorem lnsOf_from (ps : List (List UInt8)) : ∀ (f : Nat → Int × ByteArray) (n : Int), (∀ k, k < ps.length → (f k).1 = n + k) → (∀ k, k < ps.length → wordsOf (f k).2 = wds (ps[k]?.getD [])) → lnsOf (upN f ps.length) = linesFrom n ps := by
  induction ps with
  | nil => intro f n _ _; rfl
  | cons p r ih =>
    intro f n h1 h2
    have e : upN f (p :: r).length = f 0 :: upN (fun k => f (k + 1)) r.length := by
      unfold upN
      rw [List.length_cons, List.range_succ_eq_map, List.map_cons, List.map_map]
      rfl
    have ih' := ih (fun k => f (k + 1)) (n + 1) (fun k hk => by
      have := h1 (k + 1) (by rw [List.length_cons]; omega)
      show (f (k + 1)).1 = _
      rw [this]; push_cast; omega) (fun k hk => by
      have := h2 (k + 1) (by rw [List.length_cons]; omega)
      show wordsOf (f (k + 1)).2 = _
      rw [this]; rfl)
    have hw : wordsOf (f 0).2 = wds p := by
      have := h2 0 (by rw [List.length_cons]; omega)
      rw [this]; rfl
    have hn : (f 0).1 = n := by
      have := h1 0 (by rw [List.length_cons]; omega)
      rw [this]; simp
    rw [e, linesFrom, ← ih']
    unfold lnsOf
    rw [List.filterMap_cons]
    unfold toLn
    rw [hw, hn]
    cases hq : (wds p).isEmpty with
    | true => simp
    | false => simp
theorem lnsOf_cnts (s : ByteArray) : lnsOf (cnts s) = linesFrom 1 (spl s.data.toList) := by
  unfold cnts
  rw [← spl_length]
  exact lnsOf_from _ _ 1 (fun k _ => by show (k : Int) + 1 = 1 + k; omega) (fun k _ => wordsOf_cnt s k)
theorem badFrom_is (ps : List (List UInt8)) : ∀ n : Int, badFrom n ps = (firstN (fun k => !isPl (bareL (ps[k]?.getD []))) ps.length).map (fun k : Nat => n + (k : Int)) := by
  induction ps with
  | nil => intro n; rfl
  | cons p r ih =>
    intro n
    have e : ∀ g : Nat → Bool, firstN g (p :: r).length = if g 0 then some 0 else (firstN (fun k => g (k + 1)) r.length).map (· + 1) := by
      intro g
      unfold firstN
      rw [List.length_cons, List.range_succ_eq_map, List.find?_cons]
      cases g 0 with
      | true => rfl
      | false =>
        simp only [Bool.false_eq_true, if_false]
        rw [List.find?_map]
        rfl
    rw [e, badFrom]
    have e0 : ((p :: r)[0]?.getD []) = p := rfl
    rw [e0]
    cases hp : isPl (bareL p) with
    | false => simp
    | true =>
      simp only [Bool.not_true, Bool.false_eq_true, if_false, if_true, Option.map_map]
      rw [ih]
      congr 1
      funext k
      show n + 1 + (k : Int) = n + ((k + 1 : Nat) : Int)
      omega
theorem badLine_spl (s : ByteArray) : (badLine s).map (fun k : Nat => (k : Int) + 1) = badFrom 1 (spl s.data.toList) := by
  rw [badFrom_is]
  unfold badLine
  rw [spl_length]
  have : (fun k => !isPl (cntAt s k).2.data.toList) = fun k => !isPl (bareL ((spl s.data.toList)[k]?.getD [])) := by
    funext k
    rw [cntAt_bytes]
  rw [this]
  congr 1
  funext k
  omega
theorem parseP_spl {s : ByteArray} (hs : s.size ≤ 65536) : parseP s = parseL (spl s.data.toList) := by
  unfold parseP parseL
  rw [if_neg (by omega), ← badLine_spl, lnsOf_cnts]
  cases badLine s <;> rfl
end Go.Proofs.YtolmkdhgnganaaaDoor.H
namespace Go.Proofs.YtolmkdhgnganaaaDoor.H
open Go Go.RowKit Go.Proofs Go.Proofs.YtolmkdhgnganaaaDoorW.PrintWords Go.Proofs.YtolmkdhgnganaaaDoor.Sp
theorem isE0 : (⟨#[]⟩ : ByteArray).toList.isEmpty = true := by rw [toList_data]; rfl
def runP (S : PSt) (n : Int) (ps : List (List UInt8)) : PSt × Int × Int := runS S (linesFrom n ps)
theorem runP_nil (S : PSt) (n : Int) : runP S n [] = (S, 0, 0) := rfl
theorem runP_blank {S : PSt} {n : Int} {p : List UInt8} {r : List (List UInt8)} (h : wds p = []) : runP S n (p :: r) = runP S (n + 1) r := by
  unfold runP
  rw [linesFrom, h]
  rfl
theorem runP_end (S : PSt) (n : Int) : runP S n [[]] = (S, 0, 0) := by
  rw [runP_blank (by decide), runP_nil]
theorem runP_ok {S T : PSt} {n : Int} {p : List UInt8} {r : List (List UInt8)} {ws : List ByteArray} (h : wds p = ws) (h0 : ws ≠ []) (hl : lineS S n ws = (T, 0)) : runP S n (p :: r) = runP T (n + 1) r := by
  unfold runP
  rw [linesFrom, h, if_neg (by simpa using h0), List.cons_append, List.nil_append, runS]
  dsimp only
  rw [hl, if_pos rfl]
theorem badFrom_all : ∀ {ps : List (List UInt8)} (n : Int), (∀ p ∈ ps, isPl (bareL p) = true) → badFrom n ps = none
  | [], n, _ => rfl
  | p :: r, n, h => by
    rw [badFrom, if_pos (h p List.mem_cons_self)]
    exact badFrom_all (n + 1) (fun q hq => h q (List.mem_cons_of_mem _ hq))
theorem parseL_run {ps : List (List UInt8)} (hb : ∀ p ∈ ps, isPl (bareL p) = true) : parseL ps = if (runP S0 1 ps).2.2 = 0 then endS (runP S0 1 ps).1 else runP S0 1 ps := by
  unfold parseL
  rw [badFrom_all 1 hb]
  rfl
/-- Lines, each with its end. -/
def unl (ps : List (List UInt8)) : List UInt8 := ps.flatMap (· ++ [10])
theorem unl_append (a b : List (List UInt8)) : unl (a ++ b) = unl a ++ unl b := by simp [unl]
theorem unl_cons (p : List UInt8) (r : List (List UInt8)) : unl (p :: r) = p ++ [10] ++ unl r := by simp [unl]
theorem spl_unl (t : List UInt8) : ∀ ps : List (List UInt8), (∀ p ∈ ps, ∀ b ∈ p, b ≠ 10) → spl (unl ps ++ t) = ps ++ spl t
  | [], _ => rfl
  | p :: r, h => by
    have e : unl (p :: r) ++ t = p ++ 10 :: (unl r ++ t) := by simp [unl]
    rw [e, spl_append, spl_unl t r (fun q hq => h q (List.mem_cons_of_mem _ hq)), spl_one (h p List.mem_cons_self)]
    rfl
/-- A text without a jump ends well. -/
theorem endS_plain {S : PSt} (hs : S.sized = true) (h : ∀ r ∈ S.rungs, r.f3.toList.isEmpty = true) : endS S = (S, 0, 0) := by
  unfold endS
  rw [if_neg (by simp [hs])]
  rw [firstN_none (fun j hj => ?_)]
  unfold jbAt
  have : rdR S.rungs (j : Int) ∈ S.rungs := by
    have e : rdR S.rungs (j : Int) = S.rungs[j] := by simp [PPrinterMatchesReference.rd_T40, List.getD, hj]
    rw [e]; exact List.getElem_mem _
  rw [h _ this]
  rfl
/-- size 1 1 0, size 1 1 1 -/
theorem num_one : numParse [49] 256 = (1, 0) := by decide +kernel
theorem num_zero : numParse [48] 256 = (0, 0) := by decide +kernel
def wSize (x : UInt8) : List ByteArray := [⟨#[115, 105, 122, 101]⟩, ⟨#[49]⟩, ⟨#[49]⟩, ⟨#[x]⟩]
theorem line_size (n : Int) : lineS S0 n (wSize 48) = (⟨1, 1, 0, true, [], [], []⟩, 0) ∧ lineS S0 n (wSize 49) = (⟨1, 1, 1, true, [], [], []⟩, 0) := by
  have e : ∀ x, kindOf ((wSize x).getD 0 ⟨#[]⟩) = some 0 := fun x => by
    show kindOf ⟨#[115, 105, 122, 101]⟩ = some 0
    decide
  constructor
  · rw [lineS, e]
    simp [wSize, sizeS, nAt, S0, num_one, num_zero]
  · rw [lineS, e]
    simp [wSize, sizeS, nAt, S0, num_one, num_zero]
/-- no I0 L R -/
def wNo : List ByteArray := [⟨#[110, 111]⟩, ⟨#[73, 48]⟩, ⟨#[76]⟩, ⟨#[82]⟩]
def cNo : Con := ⟨0, ⟨0, 0⟩, ⟨#[76]⟩, ⟨#[82]⟩⟩
theorem adr_I0 (i q m : Int) (hi : 0 < i) : adrE i q m [73, 48] = 0 := by
  have e : addrParse [73, 48] = (0, 0, 0) := by decide +kernel
  unfold adrE
  rw [e]
  simp [chkAddr, widthOf]
  omega
theorem lastR_append (S : PSt) (l : List Rung) (x : Rung) (h : S.rungs = l ++ [x]) : lastR S = x := by
  unfold lastR
  rw [h]
  simp [PPrinterMatchesReference.rd_T40, List.getD]
theorem line_no {S : PSt} (n : Int) {l : List Rung} {x : Rung} (hs : S.sized = true) (hi : 0 < S.i) (h : S.rungs = l ++ [x]) (h2 : x.f2 = []) (h3 : x.f3.toList.isEmpty = true) (h1 : x.f1.length < 256) :
    lineS S n wNo = (⟨S.i, S.q, S.m, S.sized, l ++ [⟨x.f0, x.f1 ++ [cNo], x.f2, x.f3⟩], S.lines, S.jumps⟩, 0) := by
  have e : kindOf (wNo.getD 0 ⟨#[]⟩) = some 3 := by decide
  have e1 : kwIx kwC ⟨#[110, 111]⟩ = 0 := by decide +kernel
  have e2 : addrParse [73, 48] = (0, 0, 0) := by decide +kernel
  have e3 : isNm [76] = true := by decide
  have e4 : isNm [82] = true := by decide
  have e5 := adr_I0 S.i S.q S.m hi
  have hl := lastR_append S l x h
  have hlen : S.rungs.length = l.length + 1 := by rw [h]; simp
  have hset : ∀ y, S.rungs.set (S.rungs.length - 1) y = l ++ [y] := fun y => by
    rw [hlen, h]
    simp
  rw [lineS, e]
  simp only []
  rw [if_neg (by simp [wNo]), if_neg (by simp [hs, hlen]), conS, hl]
  rw [if_neg (by simp [h2, h3]), if_neg (by omega)]
  rw [show ((wNo.getD 1 ⟨#[]⟩).data.toList) = [73, 48] from rfl, e5, if_neg (by simp)]
  rw [if_neg (by simp [wNo, e3, e4]), e2, hset]
  simp [wNo, cNo, e1]
/-- out Q0 -/
def wOut : List ByteArray := [⟨#[111, 117, 116]⟩, ⟨#[81, 48]⟩]
def cOut : Coil := ⟨0, ⟨1, 0⟩⟩
theorem line_out {S : PSt} (n : Int) {l : List Rung} {x : Rung} (hs : S.sized = true) (hq : 0 < S.q) (h : S.rungs = l ++ [x]) (h3 : x.f3.toList.isEmpty = true) (h1 : x.f2.length < 16) :
    lineS S n wOut = (⟨S.i, S.q, S.m, S.sized, l ++ [⟨x.f0, x.f1, x.f2 ++ [cOut], x.f3⟩], S.lines, S.jumps⟩, 0) := by
  have e : kindOf (wOut.getD 0 ⟨#[]⟩) = some 4 := by decide
  have e1 : kwIx kwO ⟨#[111, 117, 116]⟩ = 0 := by decide +kernel
  have e2 : addrParse [81, 48] = (1, 0, 0) := by decide +kernel
  have e5 : adrE S.i S.q S.m [81, 48] = 0 := by
    unfold adrE
    rw [e2]
    simp [chkAddr, widthOf]
    omega
  have hl := lastR_append S l x h
  have hlen : S.rungs.length = l.length + 1 := by rw [h]; simp
  have hset : ∀ y, S.rungs.set (S.rungs.length - 1) y = l ++ [y] := fun y => by
    rw [hlen, h]
    simp
  rw [lineS, e]
  simp only []
  rw [if_neg (by simp [wOut]), if_neg (by simp [hs, hlen]), coilS, hl]
  rw [if_neg (by simp [h3]), if_neg (by omega)]
  rw [show ((wOut.getD 1 ⟨#[]⟩).data.toList) = [81, 48] from rfl, e5, if_neg (by simp)]
  rw [e2, if_neg (by simp), hset]
  simp [wOut, cOut, e1]
/-- rung, rung x -/
def wRung : List ByteArray := [⟨#[114, 117, 110, 103]⟩]
def wRungL (x : ByteArray) : List ByteArray := [⟨#[114, 117, 110, 103]⟩, x]
theorem line_rung {S : PSt} (n : Int) (hs : S.sized = true) (h : S.rungs.length < 64) : lineS S n wRung = (⟨S.i, S.q, S.m, S.sized, S.rungs ++ [newR ⟨#[]⟩], S.lines ++ [n], S.jumps ++ [0]⟩, 0) := by
  have e : kindOf (wRung.getD 0 ⟨#[]⟩) = some 1 := by decide
  rw [lineS, e]
  simp only []
  rw [if_neg (by simp [wRung]), if_neg (by simp [hs]), beginS, if_neg (by simp [wRung]), if_neg (by simp [wRung]), beginT, if_neg (by omega)]
  simp [labOf, wRung]
theorem line_rungL {S : PSt} (n : Int) (x : ByteArray) (hs : S.sized = true) (h : S.rungs.length < 64) (hx : isNm x.data.toList = true) (hn : hasLab S.rungs x = false) :
    lineS S n (wRungL x) = (⟨S.i, S.q, S.m, S.sized, S.rungs ++ [newR x], S.lines ++ [n], S.jumps ++ [0]⟩, 0) := by
  have e : kindOf ((wRungL x).getD 0 ⟨#[]⟩) = some 1 := by
    show kindOf ⟨#[114, 117, 110, 103]⟩ = some 1
    decide
  have el : labOf (wRungL x) = x := by simp [labOf, wRungL]
  rw [lineS, e]
  simp only []
  rw [if_neg (by simp [wRungL]), if_neg (by simp [hs]), beginS, el, if_neg (by simp [hx]), if_neg (by simp [hn]), beginT, if_neg (by omega)]
/-- jump x -/
def wJump (x : ByteArray) : List ByteArray := [⟨#[106, 117, 109, 112]⟩, x]
theorem line_jump {S : PSt} (n : Int) (y : ByteArray) {l : List Rung} {x : Rung} (hs : S.sized = true) (h : S.rungs = l ++ [x]) (h3 : x.f3.toList.isEmpty = true) (hy : isNm y.data.toList = true) :
    lineS S n (wJump y) = (⟨S.i, S.q, S.m, S.sized, l ++ [⟨x.f0, x.f1, x.f2, y⟩], S.lines, S.jumps.set l.length n⟩, 0) := by
  have e : kindOf ((wJump y).getD 0 ⟨#[]⟩) = some 2 := by
    show kindOf ⟨#[106, 117, 109, 112]⟩ = some 2
    decide
  have hl := lastR_append S l x h
  unfold lastR at hl
  have hlen : S.rungs.length = l.length + 1 := by rw [h]; simp
  have hset : ∀ y, S.rungs.set (S.rungs.length - 1) y = l ++ [y] := fun y => by
    rw [hlen, h]
    simp
  have el : (wJump y).getD 1 ⟨#[]⟩ = y := rfl
  rw [lineS, e]
  simp only []
  rw [if_neg (by simp [wJump]), if_neg (by simp [hs, hlen]), jumpS, hl]
  rw [if_neg (by simp [h3]), el, if_neg (by simp [hy]), hset, hlen]
  simp
end Go.Proofs.YtolmkdhgnganaaaDoor.H
namespace Go.Proofs.YtolmkdhgnganaaaDoor.H
open Go Go.RowKit Go.Proofs Go.Proofs.YtolmkdhgnganaaaDoorW.PrintWords Go.Proofs.YtolmkdhgnganaaaDoor.Sp
/-- size 1 1 0 -/
def lSize : List UInt8 := [115, 105, 122, 101, 32, 49, 32, 49, 32, 48]
def lRung : List UInt8 := [114, 117, 110, 103]
def lNo : List UInt8 := [110, 111, 32, 73, 48, 32, 76, 32, 82]
def lOut : List UInt8 := [111, 117, 116, 32, 81, 48]
theorem l_words : wds lSize = wSize 48 ∧ wds lRung = wRung ∧ wds lNo = wNo ∧ wds lOut = wOut := by decide
theorem l_plain : isPl (bareL lSize) = true ∧ isPl (bareL lRung) = true ∧ isPl (bareL lNo) = true ∧ isPl (bareL lOut) = true := by decide
/-- The states behind k rungs, k contacts, k coils. -/
def stR (k : Nat) : PSt := ⟨1, 1, 0, true, List.replicate k (newR ⟨#[]⟩), (List.range k).map fun x : Nat => 2 + (x : Int), List.replicate k 0⟩
def stC (k : Nat) : PSt := ⟨1, 1, 0, true, [] ++ [⟨⟨#[]⟩, List.replicate k cNo, [], ⟨#[]⟩⟩], [2], [0]⟩
theorem stR_step (k : Nat) (h : k < 64) : lineS (stR k) (2 + (k : Int)) wRung = (stR (k + 1), 0) := by
  rw [line_rung _ rfl (by simpa [stR] using h)]
  simp only [stR, List.replicate_succ', List.range_succ, List.map_append, List.map_cons, List.map_nil]
theorem stC_step (k : Nat) (h : k < 256) : lineS (stC k) (3 + (k : Int)) wNo = (stC (k + 1), 0) := by
  rw [line_no (l := []) (x := ⟨⟨#[]⟩, List.replicate k cNo, [], ⟨#[]⟩⟩) _ rfl (by simp [stC]) rfl rfl isE0 (by simpa using h)]
  simp only [stC, List.replicate_succ']
theorem st_size {r : List (List UInt8)} : runP S0 1 (lSize :: r) = runP (stR 0) 2 r := by
  rw [runP_ok l_words.1 (by decide) (line_size 1).1]
  rfl
theorem st_head {r : List (List UInt8)} : runP S0 1 (lSize :: lRung :: r) = runP (stC 0) 3 r := by
  rw [st_size, runP_ok l_words.2.1 (by decide) (show lineS (stR 0) 2 wRung = (stR 1, 0) from stR_step 0 (by omega))]
  rfl
end Go.Proofs.YtolmkdhgnganaaaDoor.H
namespace Go.Proofs.YtolmkdhgnganaaaDoor.H
open Go Go.RowKit Go.Proofs Go.Proofs.YtolmkdhgnganaaaDoorW.PrintWords Go.Proofs.YtolmkdhgnganaaaDoor.Sp
def ex10T : ByteArray := ⟨#[115, 105, 122, 101, 32, 49, 32, 49, 32, 48, 10, 114, 117, 110, 103, 10, 110, 111, 32, 73, 48, 32, 76, 32, 82, 10, 111, 117, 116, 32, 81, 48, 10]⟩
def ex10R : Rung := ⟨⟨#[]⟩, [cNo], [cOut], ⟨#[]⟩⟩
theorem ex_plain : parseP ex10T = (⟨1, 1, 0, true, [ex10R], [2], [0]⟩, 0, 0) := by
  have e : spl ex10T.data.toList = [lSize, lRung, lNo, lOut, []] := by decide
  rw [parseP_spl (by decide), e, parseL_run (fun p hp => by
    simp only [List.mem_cons, List.not_mem_nil, or_false] at hp
    rcases hp with rfl | rfl | rfl | rfl | rfl
    · exact l_plain.1
    · exact l_plain.2.1
    · exact l_plain.2.2.1
    · exact l_plain.2.2.2
    · decide), st_head, runP_ok l_words.2.2.1 (by decide) (show lineS (stC 0) 3 wNo = (stC 1, 0) from stC_step 0 (by omega))]
  rw [runP_ok l_words.2.2.2 (by decide) (line_out (l := []) (x := ⟨⟨#[]⟩, [cNo], [], ⟨#[]⟩⟩) _ rfl (by show (0 : Int) < 1; omega) rfl isE0 (by show (0 : Nat) < 16; omega)), runP_end, if_pos rfl]
  exact endS_plain rfl (fun r hr => by obtain rfl := List.mem_singleton.1 hr; exact isE0)
/-- A row of numbers: its cells. -/
theorem ints_cell {w : World} {B : Nat} {b n c : Nat} {ws : List Int} (h : (Kd.int .i64).R 3 w B (fun _ => True) (.slice (some ⟨b, 0, none⟩) n c) ws) (j : Nat) (hj : j < n) : w.cell? ⟨b, j, none⟩ = some (.int .i64 (ws.getD j 0)) := by
  obtain ⟨hn, _, hC⟩ := Kd.R_reads' h
  subst hn
  obtain ⟨ad, c', e, hl, hK, hcc⟩ := Kd.C_get hC 0 (j : Int) (by omega) (by omega)
  cases e
  have e1 : c' = [.int .i64 (ws.getD j 0)] := by simpa [Kd.int, Kd.scalar] using hK
  subst e1
  have h1 := hcc 0 _ rfl
  have e3 : (⟨b, 0, none⟩ : Addr).add ((j : Int).toNat * (Kd.int .i64).sz + 0) = ⟨b, j, none⟩ := by
    have : (j : Int).toNat * (Kd.int .i64).sz + 0 = j := by simp [Kd.int, Kd.scalar]
    rw [this]
    unfold Addr.add; split <;> simp_all
  rw [e3] at h1
  exact h1
theorem example10_b (w : World) : Calls Tryd.prog 49 #[] w fun e w' => e = .returned (.string ex10T) ∧ w = w' := by
  go_enter Tryd.func49, Tryd.ntmps49
  go_wp2
  go_ret
  exact ⟨rfl, rfl⟩
set_option maxHeartbeats 4000000 in
set_option maxRecDepth 100000 in
theorem alive10_b (w : World) (hL : Lets w) (hE : Errs w) (hK : Kws w) (hG : LexG w) : Calls Tryd.prog 20 #[] w (RetB w (.bool true)) := by
  have HP := Aside0.mk (parse_b ex10T w hL hE hK hG)
  clear hL hE hK hG
  go_enter Tryd.func20, Tryd.ntmps20
  go_wp2_with fail
  refine (example10_b w).mono ?_
  rintro e w1 ⟨rfl, rfl⟩
  go_wp2_with fail
  refine HP.out.mono ?_
  rintro e w1 ⟨hb, hr⟩
  rw [ex_plain] at hr
  rcases hr with ⟨h0, _⟩ | ⟨-, vr, vl, rfl, hS, hl, -, -, -⟩
  · exact absurd rfl h0
  · change Kd.S kRung 40 w1 w.heap.size (fun _ => True) vr [ex10R] at hS
    change (Kd.int .i64).R 3 w1 w.heap.size (fun _ => True) vl [2] at hl
    obtain ⟨gr, c, rfl, -, -, -⟩ := Kd.S_form hS (by show 0 < 1; omega)
    obtain ⟨g, cl, rfl, -, -, -⟩ := Kd.R_form hl (by show 0 < 1; omega)
    have q0 : w1.cell? ⟨g, 0, none⟩ = some (.int .i64 2) := ints_cell hl 0 (by show 0 < 1; omega)
    obtain ⟨a, c1, s1, -, -, -, -, -, e4, -⟩ := S_con hS 0 (by omega) (by show (0 : Int) < 1; omega) 0 (by omega) (by show (0 : Int) < 1; omega)
    obtain ⟨_, _, A2, c2, -, s2, -, -⟩ := S_cells hS 0 (by omega) (by show (0 : Int) < 1; omega)
    change w1.cell? ⟨gr, 1, none⟩ = some (.slice (some ⟨a, 0, none⟩) 1 c1) at s1
    change w1.cell? ⟨gr, 2, none⟩ = some (.slice A2 1 c2) at s2
    change w1.cell? ⟨a, 4, none⟩ = some (.string ⟨#[82]⟩) at e4
    have lt0 : g < w1.heap.size := World.block_lt_of_cell? w1 _ q0
    have lt1 : gr < w1.heap.size := World.block_lt_of_cell? w1 _ s1
    have lt2 : a < w1.heap.size := World.block_lt_of_cell? w1 _ e4
    have FB := Aside0.mk (below_alloc hb (.cells #[.int .i64 1, .int .i64 1, .int .i64 0, .slice (some ⟨gr, 0, none⟩) 1 c] 24))
    clear hS hl hb HP
    have r82 : ((⟨#[82]⟩ : ByteArray).toList == ByteArray.toList ⟨#[82]⟩) = true := by simp
    simp only []
    go_wp2
    go_ret
    exact ⟨rfl, FB.out⟩
end Go.Proofs.YtolmkdhgnganaaaDoor.H
namespace Go.Proofs.YtolmkdhgnganaaaDoor.H
open Go Go.RowKit Go.Proofs Go.Proofs.YtolmkdhgnganaaaDoorW.PrintWords Go.Proofs.YtolmkdhgnganaaaDoor.Sp
/-- The labels a0, a1, .. -/
def lab (x : Nat) : ByteArray := ⟨(97 :: Lib.decDigits x).toArray⟩
def lRungL (x : Nat) : List UInt8 := [114, 117, 110, 103, 32, 97] ++ Lib.decDigits x
def lNoJ : List UInt8 := [110, 111, 32, 73, 48, 32, 76, 32, 82]
def lJump (x : Nat) : List UInt8 := [106, 117, 109, 112, 32, 97] ++ Lib.decDigits x
def lSizeJ : List UInt8 := [115, 105, 122, 101, 32, 49, 32, 49, 32, 49]
theorem lab_ok : ∀ x, x < 21 → isNm (lab x).data.toList = true ∧ wds (lRungL x) = wRungL (lab x) ∧ wds (lJump x) = wJump (lab x) ∧ isPl (bareL (lRungL x)) = true ∧ isPl (bareL (lJump x)) = true ∧ (lRungL x).all (· != 10) = true ∧ (lJump x).all (· != 10) = true ∧ (lab x).toList.isEmpty = false := by decide +kernel
theorem lab_inj : ∀ x, x < 21 → ∀ y, y < 21 → lab x = lab y → x = y := by decide +kernel
theorem lj_words : wds lSizeJ = wSize 49 ∧ wds lNoJ = wNo ∧ isPl (bareL lSizeJ) = true ∧ isPl (bareL lNoJ) = true ∧ lSizeJ.all (· != 10) = true ∧ lNoJ.all (· != 10) = true := by decide
/-- The lines of rung x, of the first k rungs. -/
def jRung (i j x : Nat) : List (List UInt8) := lRungL x :: lNoJ :: (if x = i then [lJump j] else [])
def jLines (i j : Nat) : Nat → List (List UInt8)
  | 0 => []
  | k + 1 => jLines i j k ++ jRung i j k
theorem jRung_ok {i j x : Nat} (hx : x < 21) (hj : j < 21) : ∀ p ∈ jRung i j x, p.all (· != 10) = true ∧ isPl (bareL p) = true := by
  intro p hp
  unfold jRung at hp
  rcases List.mem_cons.1 hp with rfl | hp
  · exact ⟨(lab_ok x hx).2.2.2.2.2.1, (lab_ok x hx).2.2.2.1⟩
  · rcases List.mem_cons.1 hp with rfl | hp
    · exact ⟨lj_words.2.2.2.2.2, lj_words.2.2.2.1⟩
    · split at hp
      · obtain rfl := List.mem_singleton.1 hp
        exact ⟨(lab_ok j hj).2.2.2.2.2.2.1, (lab_ok j hj).2.2.2.2.1⟩
      · cases hp
theorem jLines_ok {i j : Nat} (hj : j < 21) : ∀ k, k ≤ 21 → ∀ p ∈ jLines i j k, p.all (· != 10) = true ∧ isPl (bareL p) = true
  | 0, _, p, hp => by cases hp
  | k + 1, hk, p, hp => by
    rcases List.mem_append.1 hp with hp | hp
    · exact jLines_ok hj k (by omega) p hp
    · exact jRung_ok (by omega) hj p hp
def jRg (i j y : Nat) : Rung := ⟨lab y, [cNo], [], if y = i then lab j else ⟨#[]⟩⟩
def jLn (i y : Nat) : Int := 2 + 2 * (y : Int) + (if i < y then 1 else 0)
def jJn (i y : Nat) : Int := if y = i then 2 * (i : Int) + 4 else 0
def stJ (i j k : Nat) : PSt := ⟨1, 1, 1, true, (List.range k).map (jRg i j), (List.range k).map (jLn i), (List.range k).map (jJn i)⟩
theorem hasLab_range {i j k x : Nat} (hk : k ≤ 21) (hx : x < 21) (hn : k ≤ x) : hasLab ((List.range k).map (jRg i j)) (lab x) = false := by
  unfold hasLab
  rw [List.any_eq_false]
  intro r hr
  obtain ⟨y, hy, rfl⟩ := List.mem_map.1 hr
  have hy := List.mem_range.1 hy
  rw [seq_dec]
  simp only [decide_eq_true_eq]
  intro e
  have := lab_inj y (by omega) x hx e
  omega
theorem stJ_step (i j x : Nat) (hx : x < 21) (hj : j < 21) (r : List (List UInt8)) : runP (stJ i j x) (jLn i x) (jRung i j x ++ r) = runP (stJ i j (x + 1)) (jLn i (x + 1)) r := by
  have h := lab_ok x hx
  have hw := lab_ok j hj
  unfold jRung
  rw [List.cons_append, runP_ok h.2.1 (by simp [wRungL]) (line_rungL _ _ rfl (by simp [stJ]; omega) h.1 (hasLab_range (by omega) hx (Nat.le_refl _)))]
  rw [List.cons_append, runP_ok lj_words.2.1 (by decide) (line_no (l := (List.range x).map (jRg i j)) (x := newR (lab x)) _ rfl (by show (0 : Int) < 1; omega) rfl rfl isE0 (by simp [newR]))]
  by_cases hi : x = i
  · subst hi
    rw [if_pos rfl, List.cons_append, List.nil_append, runP_ok hw.2.2.1 (by simp [wJump]) (line_jump (l := (List.range x).map (jRg x j)) (x := ⟨lab x, [cNo], [], ⟨#[]⟩⟩) _ _ rfl rfl isE0 hw.1)]
    have e1 : jLn x (x + 1) = jLn x x + 1 + 1 + 1 := by
      unfold jLn
      rw [if_pos (by omega), if_neg (by omega)]
      push_cast
      omega
    have e2 : jLn x x + 1 + 1 = 2 * (x : Int) + 4 := by
      unfold jLn
      rw [if_neg (by omega)]
      omega
    rw [e1, e2]
    congr 1
    simp only [stJ, List.range_succ, List.map_append, List.map_cons, List.map_nil, newR, jRg, if_true]
    congr 1
    rw [List.length_map, List.length_range, List.set_append]
    simp [jJn]
  · rw [if_neg hi, List.nil_append]
    have e1 : jLn i (x + 1) = jLn i x + 1 + 1 := by
      unfold jLn
      by_cases hix : i < x
      · rw [if_pos hix, if_pos (by omega)]; push_cast; omega
      · rw [if_neg hix, if_neg (by omega)]; push_cast; omega
    rw [e1]
    congr 1
    simp only [stJ, List.range_succ, List.map_append, List.map_cons, List.map_nil, newR, jRg, if_neg hi, jJn]
    rfl
theorem stJ_run (i j : Nat) (hj : j < 21) : ∀ (k : Nat), k ≤ 21 → ∀ r, runP (stJ i j 0) 2 (jLines i j k ++ r) = runP (stJ i j k) (jLn i k) r
  | 0, _, r => by
    have : jLn i 0 = 2 := by unfold jLn; rw [if_neg (by omega)]; rfl
    rw [this]
    rfl
  | k + 1, hk, r => by
    rw [jLines, List.append_assoc, stJ_run i j hj k (by omega), stJ_step i j k (by omega) hj]
theorem rdR_range {i j k y : Nat} (h : y < k) : rdR (stJ i j k).rungs (y : Int) = jRg i j y := by
  simp [PPrinterMatchesReference.rd_T40, stJ, List.getD, h]
theorem jump_plain {i j k : Nat} (hk : k ≤ 20) (hi : i < k) (hj : j ≤ k) {t : ByteArray} (ht : t.data.toList = lSizeJ ++ 10 :: unl (jLines i j k)) :
    parseL (spl t.data.toList) = if i < j ∧ j < k then (stJ i j k, 0, 0) else (stJ i j k, 2 * (i : Int) + 4, 15) := by
  have e : spl t.data.toList = lSizeJ :: (jLines i j k ++ [[]]) := by
    rw [ht, spl_append, ← List.append_nil (unl _), spl_unl [] _ (fun p hp b hb => by simpa using List.all_eq_true.1 (jLines_ok (by omega) k (by omega) p hp).1 b hb), spl_one (fun b hb => by
      have := List.all_eq_true.1 lj_words.2.2.2.2.1 b hb
      simpa using this)]
    rfl
  rw [e, parseL_run (fun p hp => by
    rcases List.mem_cons.1 hp with rfl | hp
    · exact lj_words.2.2.1
    · rcases List.mem_append.1 hp with hp | hp
      · exact (jLines_ok (by omega) k (by omega) p hp).2
      · obtain rfl := List.mem_singleton.1 hp; decide)]
  rw [runP_ok lj_words.1 (by decide) (line_size 1).2]
  have hst : (⟨1, 1, 1, true, [], [], []⟩ : PSt) = stJ i j 0 := rfl
  rw [hst, show (1 : Int) + 1 = 2 from rfl, stJ_run i j (by omega) k (by omega), runP_end, if_pos rfl]
  dsimp only
  unfold endS
  rw [if_neg (by simp [stJ])]
  have hlen : (stJ i j k).rungs.length = k := by simp [stJ]
  have hother : ∀ y, y < k → y ≠ i → jbAt (stJ i j k).rungs (y : Int) = false := fun y hy hn => by
    unfold jbAt
    rw [rdR_range hy]
    simp only [jRg, if_neg hn]
    rw [isE0]
    rfl
  have hat : jbAt (stJ i j k).rungs (i : Int) = !decide (i < j ∧ j < k) := by
    unfold jbAt
    rw [rdR_range hi]
    simp only [jRg, if_true, (lab_ok j (by omega)).2.2.2.2.2.2.2, Bool.not_false, Bool.true_and]
    congr 1
    have e1 : ((i : Int) + 1).toNat = i + 1 := by omega
    rw [e1]
    unfold hasLab
    by_cases hij : i < j ∧ j < k
    · rw [decide_eq_true hij, List.any_eq_true]
      refine ⟨jRg i j j, ?_, by rw [seq_dec]; exact decide_eq_true rfl⟩
      rw [List.mem_drop_iff_getElem]
      refine ⟨j - (i + 1), by rw [hlen]; omega, ?_⟩
      simp only [stJ, List.getElem_map, List.getElem_range]
      congr 1
      omega
    · rw [decide_eq_false hij, List.any_eq_false]
      intro r hr
      rw [List.mem_drop_iff_getElem] at hr
      obtain ⟨y, hy, rfl⟩ := hr
      rw [hlen] at hy
      simp only [stJ, List.getElem_map, List.getElem_range]
      rw [seq_dec]
      simp only [decide_eq_true_eq]
      intro e
      have := lab_inj (i + 1 + y) (by omega) j (by omega) e
      omega
  rw [hlen]
  by_cases hij : i < j ∧ j < k
  · rw [if_pos hij, firstN_none (fun y hy => ?_)]
    by_cases hy2 : y = i
    · subst hy2
      rw [hat, decide_eq_true hij]; rfl
    · exact hother y hy hy2
  · rw [if_neg hij, firstN_some hi (by rw [hat, decide_eq_false hij]; rfl) (fun y hy => hother y (by omega) (by omega))]
    dsimp only
    congr 2
    simp [stJ, List.getD, hi, jJn]
end Go.Proofs.YtolmkdhgnganaaaDoor.H
namespace Go.Proofs.YtolmkdhgnganaaaDoor.Sp
theorem itoa_data (n : Nat) : (itoaS (n : Int)).data.toList = Lib.decDigits n := by
  have h2 : ¬ ((n : Int) < 0) := by omega
  simp [itoaS, Lib.itoa, h2]
end Go.Proofs.YtolmkdhgnganaaaDoor.Sp
namespace Go.Proofs.YtolmkdhgnganaaaDoor.H
open Go Go.RowKit Go.Proofs Go.Proofs.YtolmkdhgnganaaaDoorW.PrintWords Go.Proofs.YtolmkdhgnganaaaDoorW.PrintLast Go.Proofs.YtolmkdhgnganaaaDoorW.PrintMore Go.Proofs.YtolmkdhgnganaaaDoor.Sp
/-- The text of the first x rungs. -/
def jT (i j x : Nat) : ByteArray := ⟨(lSizeJ ++ 10 :: unl (jLines i j x)).toArray⟩
theorem jT_data (i j x : Nat) : (jT i j x).data.toList = lSizeJ ++ 10 :: unl (jLines i j x) := rfl
theorem dec_len {n : Nat} (h : n ≤ 1000) : (Lib.decDigits n).length ≤ 4 := by
  have := itoa_len n h
  rw [← itoa_data n, Array.length_toList]
  exact this
theorem jT_size {i j : Nat} (hj : j ≤ 20) : ∀ x, x ≤ 21 → (jT i j x).size ≤ 11 + 40 * x
  | 0, _ => by
    show ((lSizeJ ++ 10 :: unl []).toArray).size ≤ 11
    decide
  | x + 1, hx => by
    have ih := jT_size (i := i) hj x (by omega)
    have e : ∀ y, (jT i j y).size = 11 + (unl (jLines i j y)).length := fun y => by
      show (lSizeJ ++ 10 :: unl (jLines i j y)).toArray.size = _
      rw [List.size_toArray, List.length_append, List.length_cons]
      show 10 + ((unl (jLines i j y)).length + 1) = _
      omega
    rw [e] at ih ⊢
    have h1 := dec_len (n := x) (by omega)
    have h2 := dec_len (n := j) (by omega)
    rw [jLines, unl_append, List.length_append]
    have hr : (unl (jRung i j x)).length ≤ 40 := by
      unfold jRung
      rw [unl_cons, unl_cons]
      simp only [List.length_append, List.length_cons, List.length_nil, lRungL, lNoJ]
      split
      · rw [unl_cons]
        simp only [List.length_append, List.length_cons, List.length_nil, lJump, unl, List.flatMap_nil]
        omega
      · simp only [unl, List.flatMap_nil, List.length_nil]
        omega
    omega
theorem lab_itoa (x : Nat) : (⟨#[97]⟩ : ByteArray) ++ itoaS (x : Int) = lab x := by
  apply bytes_ext
  rw [ByteArray.data_append, Array.toList_append, itoa_data]
  rfl
/-- The text is made longer: a rung, and the jump behind it. -/
theorem jT_rung {i j x : Nat} (h : x ≠ i) : jT i j x ++ (⟨#[114, 117, 110, 103, 32, 97]⟩ ++ itoaS (x : Int) ++ ⟨#[10, 110, 111, 32, 73, 48, 32, 76, 32, 82, 10]⟩) = jT i j (x + 1) := by
  apply bytes_ext
  rw [ByteArray.data_append, ByteArray.data_append, ByteArray.data_append, Array.toList_append, Array.toList_append, Array.toList_append, itoa_data, jT_data, jT_data, jLines, unl_append, jRung, if_neg h, unl_cons, unl_cons]
  simp [unl, lRungL, lNoJ]
theorem jT_jump {i j : Nat} : jT i j i ++ (⟨#[114, 117, 110, 103, 32, 97]⟩ ++ itoaS (i : Int) ++ ⟨#[10, 110, 111, 32, 73, 48, 32, 76, 32, 82, 10]⟩) ++ (⟨#[106, 117, 109, 112, 32, 97]⟩ ++ itoaS (j : Int) ++ ⟨#[10]⟩) = jT i j (i + 1) := by
  apply bytes_ext
  rw [ByteArray.data_append, ByteArray.data_append, ByteArray.data_append, ByteArray.data_append, ByteArray.data_append, ByteArray.data_append, Array.toList_append, Array.toList_append, Array.toList_append, Array.toList_append, Array.toList_append, Array.toList_append, itoa_data, itoa_data, jT_data, jT_data, jLines, unl_append, jRung, if_pos rfl, unl_cons, unl_cons, unl_cons]
  simp [unl, lRungL, lNoJ, lJump]
theorem jT_zero (i j : Nat) : jT i j 0 = ⟨#[115, 105, 122, 101, 32, 49, 32, 49, 32, 49, 10]⟩ := rfl
attribute [irreducible] jT
set_option maxHeartbeats 8000000 in
set_option maxRecDepth 100000 in
theorem jmp_b (n fr tq : Int) (w : World) (hn : 0 ≤ n ∧ n ≤ 255) (hf : 0 ≤ fr ∧ fr ≤ 255) (ht : 0 ≤ tq ∧ tq ≤ 255) (hL : Lets w) (hP : Pows w) (hE : Errs w) (hK : Kws w) (hG : LexG w) :
    Calls Tryd.prog 6 #[.int .u8 n, .int .u8 fr, .int .u8 tq] w (RetB w (.bool true)) := by
  have HAl := Aside0.mk (fun W (hW : Below w.heap.size w W) => alive10_b W (hL.below hW) (hE.below hW) (hK.below hW) (hG.below hW))
  have HPa := Aside0.mk (fun s W (hW : Below w.heap.size w W) => parse_b s W (hL.below hW) (hE.below hW) (hK.below hW) (hG.below hW))
  have HIt := Aside0.mk (fun (x : Nat) W (hx : x ≤ 1000) (hW : Below w.heap.size w W) => itoa_b (x : Int) (by omega) (by omega) W (hP.below hW))
  clear hL hP hE hK hG
  obtain ⟨r, hr⟩ : ∃ r, n.tmod 20 = r := ⟨_, rfl⟩
  have r0 : 0 ≤ r := by rw [← hr]; exact Int.tmod_nonneg _ hn.1
  have r20 : r < 20 := by rw [← hr]; exact Int.tmod_lt_of_pos _ (by omega)
  obtain ⟨kn, hk⟩ : ∃ kn : Nat, 1 + r = (kn : Int) := ⟨(1 + r).toNat, by omega⟩
  have hkn : 1 ≤ kn ∧ kn ≤ 20 := by omega
  have hk1 : wrap64 ((kn : Int) + 1) = (kn : Int) + 1 := w64 (by omega) (by omega)
  obtain ⟨i, hi⟩ : ∃ i : Nat, fr.tmod (kn : Int) = (i : Int) := ⟨(fr.tmod (kn : Int)).toNat, by have := Int.tmod_nonneg (kn : Int) hf.1; omega⟩
  have hin : i < kn := by have := Int.tmod_lt_of_pos fr (show (0 : Int) < kn by omega); omega
  obtain ⟨j, hj⟩ : ∃ j : Nat, tq.tmod ((kn : Int) + 1) = (j : Int) := ⟨(tq.tmod ((kn : Int) + 1)).toNat, by have := Int.tmod_nonneg ((kn : Int) + 1) ht.1; omega⟩
  have hjn : j ≤ kn := by have := Int.tmod_lt_of_pos tq (show (0 : Int) < (kn : Int) + 1 by omega); omega
  go_enter Tryd.func6, Tryd.ntmps6
  go_wp2_with fail
  go_quiet (fail)
  have HB0 : Aside0 (Below w.heap.size w (w.drewN nq)) := ⟨pw_below_drewN (Below.refl _ _) nq⟩
  have HRu := Aside0.mk (fun x (h : x ≠ i) => jT_rung (i := i) (j := j) h)
  have HJu := Aside0.mk (jT_jump (i := i) (j := j))
  have HLaw := Aside0.mk (jump_plain (t := jT i j kn) hkn.2 hin hjn (jT_data i j kn))
  have HSz := Aside0.mk (fun x (h : x ≤ 21) => jT_size (i := i) (j := j) (by omega) x h)
  generalize w.drewN nq = w1 at HB0 ⊢
  have e0 := jT_zero i j
  have HIs := Aside0.mk (fun (x : Nat) (h : x ≤ 1000) => itoa_len x h)
  go_wp2
  go_loopw [10, 11, 31] (fun sv lv cv w' => ∃ x : Nat, cv = .int .i64 x ∧ x ≤ kn ∧ sv = .string (jT i j x) ∧ lv = .int .i64 (if i < x then 2 * (i : Int) + 4 else 0) ∧ ∃ wr : World, wr = w' ∧ Aside0 (Below w.heap.size w wr)) (fun sv lv cv _ => ((kn : Int) - intOf cv).toNat)
  case atStart => exact ⟨0, rfl, by omega, by rw [e0], by rw [if_neg (by omega)], _, rfl, HB0⟩
  case round =>
    clear HB0 e0 hr hi hj hk r0 r20 hn hf ht
    obtain ⟨x, rfl, hx, rfl, rfl, wr, rfl, HB⟩ := hrel
    by_cases hxk : x < kn
    · have hxk' : (x : Int) < kn := by omega
      have hwr : wrap64 ((x : Int) + 1) = (x : Int) + 1 := w64 (by omega) (by omega)
      by_cases hxi : x = i
      · subst hxi
        have HIx := Aside0.mk (fun W (hW : Below w.heap.size w W) => HIt.out x W (by omega) hW)
        have HIj := Aside0.mk (fun W (hW : Below w.heap.size w W) => HIt.out j W (by omega) hW)
        have HE := HJu.out
        have hi4 := HIs.out x (by omega)
        generalize itoaS (x : Int) = sx at HIx hi4 HE
        have hj4 := HIs.out j (by omega)
        generalize itoaS (j : Int) = sj at HIj hj4 HE
        have hs := HSz.out x (by omega)
        generalize jT x j x = tx at hs HE ⊢
        have HE2 := Aside0.mk HE
        clear HE
        go_wp2_with fail
        refine (HIx.out _ HB.out).mono ?_
        rintro e w2 ⟨rfl, hb⟩
        have HB2 := Aside0.mk (below_step HB.out hb)
        clear hb
        go_wp2_with fail
        refine (HIj.out _ HB2.out).mono ?_
        rintro e w3 ⟨rfl, hb⟩
        have HB3 := Aside0.mk (below_step HB2.out hb)
        clear hb
        go_wp2
        go_roundw
        case rel => exact ⟨x + 1, by simp [hwr], by omega, congrArg Value.string HE2.out, (by rw [if_pos (Nat.lt_succ_self x)]; congr 1; omega), _, rfl, HB3⟩
        case measure => simp [intOf, hwr]; omega
      · have HIx := Aside0.mk (fun W (hW : Below w.heap.size w W) => HIt.out x W (by omega) hW)
        have HE := HRu.out x hxi
        have hi4 := HIs.out x (by omega)
        generalize itoaS (x : Int) = sx at HIx hi4 HE
        have hs := HSz.out x (by omega)
        generalize jT i j x = tx at hs HE ⊢
        have HE2 := Aside0.mk HE
        clear HE
        have hxi2 : ((x : Int) == (i : Int)) = false := by rw [beq_eq_false_iff_ne]; omega
        have HLv : Aside0 ((if i < x then 2 * (i : Int) + 4 else 0) = (if i < x + 1 then 2 * (i : Int) + 4 else 0)) := ⟨by
          by_cases hix : i < x
          · rw [if_pos hix, if_pos (by omega)]
          · rw [if_neg hix, if_neg (by omega)]⟩
        generalize (if i < x then 2 * (i : Int) + 4 else 0) = lv at HLv ⊢
        go_wp2_with fail
        refine (HIx.out _ HB.out).mono ?_
        rintro e w2 ⟨rfl, hb⟩
        have HB2 := Aside0.mk (below_step HB.out hb)
        clear hb
        go_wp2
        go_roundw
        case rel => exact ⟨x + 1, by simp [hwr], by omega, congrArg Value.string HE2.out, by rw [HLv.out], _, rfl, HB2⟩
        case measure => simp [intOf, hwr]; omega
    · obtain rfl : x = kn := by omega
      have hs := HSz.out x (by omega)
      rw [if_pos hin]
      have hkx : ¬ (x : Int) < x := by omega
      generalize hV : parseP (jT i j x) = V
      have HV := Aside0.mk hV
      have HLw := HLaw.out
      have hps : parseP (jT i j x) = parseL (spl (jT i j x).data.toList) := parseP_spl (by omega)
      rw [← hps, hV] at HLw
      have HL2 := Aside0.mk HLw
      have HC := Aside0.mk (HPa.out (jT i j x))
      clear hV hps HLw HLaw HRu HJu
      generalize jT i j x = tx at hs HC HV ⊢
      have hjk : j ≤ x := hjn
      by_cases hij : i < j ∧ j < x
      · have hVe : V = (stJ i j x, 0, 0) := by rw [HL2.out, if_pos hij]
        subst hVe
        clear HL2
        obtain ⟨hij1, hij2⟩ := hij
        have hij1' : (i : Int) < j := by omega
        have hij2' : (j : Int) < x := by omega
        go_wp2_with fail
        refine (HC.out _ HB.out).mono ?_
        rintro e w2 ⟨hb, hr⟩
        rw [HV.out] at hr
        rcases hr with ⟨h0, _⟩ | ⟨-, vr, vl, rfl, hS, hl, -, -, -⟩
        · exact absurd rfl h0
        · have hrl : (stJ i j x).rungs.length = x := by simp [stJ]
          obtain ⟨g, c, rfl, -, -, -⟩ := Kd.S_form hS (by dsimp only; omega)
          obtain ⟨_, _, -, -, -, y3, -, -, -⟩ := S_cells4 hS i (by dsimp only; omega)
          have y3' : w2.cell? ⟨g, i * 4 + 3, none⟩ = some (.string (lab j)) := by
            rw [y3]
            dsimp only
            rw [rdR_range hin]
            simp [jRg]
          obtain ⟨A', c', rfl, -, -⟩ := Kd.R_reads hl
          have hll : (stJ i j x).lines.length = x := by simp [stJ]
          dsimp only
          rw [hrl, hll]
          generalize (stJ i j x).i = z1
          generalize (stJ i j x).q = z2
          generalize (stJ i j x).m = z3
          have HIj := Aside0.mk (fun W (hW : Below w.heap.size w W) => HIt.out j W (by omega) hW)
          have hj4 := HIs.out j (by omega)
          rw [← lab_itoa j] at y3'
          generalize itoaS (j : Int) = sj at HIj hj4 y3'
          have ltg := World.block_lt_of_cell? w2 _ y3'
          have HW := Aside0.mk (below_alloc (below_step HB.out hb) (.cells #[.int .i64 z1, .int .i64 z2, .int .i64 z3, .slice (some ⟨g, 0, none⟩) x c] 24))
          have u0 := blk_cell (blk_new w2 (.cells #[.int .i64 z1, .int .i64 z2, .int .i64 z3, .slice (some ⟨g, 0, none⟩) x c] 24)) 3
          have u1 := pw_cell_below (below_alloc (Below.refl _ _) (.cells #[.int .i64 z1, .int .i64 z2, .int .i64 z3, .slice (some ⟨g, 0, none⟩) x c] 24)) y3'
          clear hS hl y3 y3' hb HB hrl hll HV HC HIt HIs HSz
          go_wp2_with fail
          generalize w2.alloc (.cells #[.int .i64 z1, .int .i64 z2, .int .i64 z3, .slice (some ⟨g, 0, none⟩) x c] 24) = w3 at HW u0 u1 ⊢
          generalize w2.heap.size = g2 at u0 ⊢
          replace HW := Aside0.mk (below_drew HW.out)
          have hsz1 : ¬ 9223372036854775807 < 1 + sj.size := by omega
          refine start_ (n := 29) (S := fun w' => w'.cell? ⟨g2, 3, none⟩ = some (.slice (some ⟨g, 0, none⟩) x c) ∧ w'.cell? ⟨g, i * 4 + 3, none⟩ = some (.string (⟨#[97]⟩ ++ sj))) (ds := []) #[false, false, false, false, false, false, false, false, false, false, false, false, false, false, false, false, false, false, false, false, false, false, false, false, false, false, false, false, false] (by kernel_rfl) rfl rfl ⟨u0, u1⟩ (fun hHeld => ?_)
          refine one_ (i := 0) (N := some 70) #[true, false, false, false, false, false, false, false, false, false, false, false, false, false, false, false, false, false, false, false, false, false, false, false, false, false, false, false, false] rfl rfl (by kernel_rfl) (by decide) (fun K hK => ?_)
          refine goes_ Tryd.func20 (by kernel_rfl) rfl #[] (by rfl) rfl rfl (by first | (simp only [List.map_toArray, List.map_cons, List.map_nil]; done) | (simp only [List.map_toArray, List.map_cons, List.map_nil]; rfl)) ?_
          with_reducible refine (HAl.out _ HW.out).mono ?_
          rintro e_ w1 ⟨rfl, hb⟩
          refine ⟨_, rfl, ?_⟩
          have n_ := Aside0.mk (below_step HW.out hb)
          clear HW
          have HW := n_
          clear n_
          refine hK.out _ _ ⟨(pw_cell_below hb hHeld.1), (pw_cell_below hb hHeld.2)⟩ (fun hHeld => ?_)
          clear hK K
          refine norm_ (a' := ?_) ?_ ?_
          rotate_left
          · show Act.put _ (some 70) _ = _
            simp only [Act.put, List.setIfInBounds_toArray, List.set_cons_zero, List.set_cons_succ, i64_w, i32_w]
            rfl
          refine pure_ (i := 1) (N := some 71) (v := ?_) (a' := ?_) #[true, true, false, false, false, false, false, false, false, false, false, false, false, false, false, false, false, false, false, false, false, false, false, false, false, false, false, false, false] rfl rfl (by kernel_rfl) (fun _ _ _ h => h) (Or.inl ⟨by rfl, ?_⟩) ?_ ?_
          rotate_left
          · intro w'
            go_simp
            with_reducible rfl
          rotate_left
          · simp only [Act.put, List.setIfInBounds_toArray, List.set_cons_zero, List.set_cons_succ, i64_w, i32_w]
            rfl
          refine pure_ (i := 2) (N := some 72) (v := ?_) (a' := ?_) #[true, true, true, false, false, false, false, false, false, false, false, false, false, false, false, false, false, false, false, false, false, false, false, false, false, false, false, false, false] rfl rfl (by kernel_rfl) (fun _ _ _ h => h) (Or.inl ⟨by rfl, ?_⟩) ?_ ?_
          rotate_left
          · intro w'
            go_simp
            with_reducible rfl
          rotate_left
          · simp only [Act.put, List.setIfInBounds_toArray, List.set_cons_zero, List.set_cons_succ, i64_w, i32_w]
            rfl
          refine pure_ (i := 3) (N := some 73) (v := ?_) (a' := ?_) #[true, true, true, true, false, false, false, false, false, false, false, false, false, false, false, false, false, false, false, false, false, false, false, false, false, false, false, false, false] rfl rfl (by kernel_rfl) (fun _ _ _ h => h) (Or.inl ⟨by rfl, ?_⟩) ?_ ?_
          rotate_left
          · intro w'
            go_simp
            with_reducible rfl
          rotate_left
          · simp only [Act.put, List.setIfInBounds_toArray, List.set_cons_zero, List.set_cons_succ, i64_w, i32_w]
            rfl
          refine pure_ (i := 4) (N := some 74) (v := ?_) (a' := ?_) #[true, true, true, true, true, false, false, false, false, false, false, false, false, false, false, false, false, false, false, false, false, false, false, false, false, false, false, false, false] rfl rfl (by kernel_rfl) (fun _ _ _ h => h) (Or.inl ⟨by rfl, ?_⟩) ?_ ?_
          rotate_left
          · intro w'
            go_simp
            with_reducible rfl
          rotate_left
          · simp only [Act.put, List.setIfInBounds_toArray, List.set_cons_zero, List.set_cons_succ, i64_w, i32_w]
            rfl
          refine pure_ (i := 5) (N := some 75) (v := ?_) (a' := ?_) #[true, true, true, true, true, true, false, false, false, false, false, false, false, false, false, false, false, false, false, false, false, false, false, false, false, false, false, false, false] rfl rfl (by kernel_rfl) (fun _ _ _ h => h) (Or.inl ⟨by rfl, ?_⟩) ?_ ?_
          rotate_left
          · intro w'
            go_simp
            with_reducible rfl
          rotate_left
          · simp only [Act.put, List.setIfInBounds_toArray, List.set_cons_zero, List.set_cons_succ, i64_w, i32_w]
            rfl
          refine pure_ (i := 6) (N := some 76) (v := ?_) (a' := ?_) #[true, true, true, true, true, true, true, false, false, false, false, false, false, false, false, false, false, false, false, false, false, false, false, false, false, false, false, false, false] rfl rfl (by kernel_rfl) (fun _ _ _ h => h) (Or.inl ⟨by rfl, ?_⟩) ?_ ?_
          rotate_left
          · intro w'
            go_simp
            with_reducible rfl
          rotate_left
          · simp only [Act.put, List.setIfInBounds_toArray, List.set_cons_zero, List.set_cons_succ, i64_w, i32_w]
            rfl
          refine pure_ (i := 7) (N := some 77) (v := ?_) (a' := ?_) #[true, true, true, true, true, true, true, true, false, false, false, false, false, false, false, false, false, false, false, false, false, false, false, false, false, false, false, false, false] rfl rfl (by kernel_rfl) (fun _ _ _ h => h) (Or.inl ⟨by rfl, ?_⟩) ?_ ?_
          rotate_left
          · intro w'
            go_simp
            with_reducible rfl
          rotate_left
          · simp only [Act.put, List.setIfInBounds_toArray, List.set_cons_zero, List.set_cons_succ, i64_w, i32_w]
            rfl
          refine pure_ (i := 8) (N := some 78) (v := ?_) (a' := ?_) #[true, true, true, true, true, true, true, true, true, false, false, false, false, false, false, false, false, false, false, false, false, false, false, false, false, false, false, false, false] rfl rfl (by kernel_rfl) (fun _ _ _ h => h) (Or.inl ⟨by rfl, ?_⟩) ?_ ?_
          rotate_left
          · intro w'
            go_simp
            with_reducible rfl
          rotate_left
          · simp only [Act.put, List.setIfInBounds_toArray, List.set_cons_zero, List.set_cons_succ, i64_w, i32_w]
            rfl
          refine pure_ (i := 9) (N := some 79) (v := ?_) (a' := ?_) #[true, true, true, true, true, true, true, true, true, true, false, false, false, false, false, false, false, false, false, false, false, false, false, false, false, false, false, false, false] rfl rfl (by kernel_rfl) (fun _ _ _ h => h) (Or.inl ⟨by rfl, ?_⟩) ?_ ?_
          rotate_left
          · intro w'
            go_simp
            with_reducible rfl
          rotate_left
          · simp only [Act.put, List.setIfInBounds_toArray, List.set_cons_zero, List.set_cons_succ, i64_w, i32_w]
            rfl
          refine pure_ (i := 10) (N := some 80) (v := ?_) (a' := ?_) #[true, true, true, true, true, true, true, true, true, true, true, false, false, false, false, false, false, false, false, false, false, false, false, false, false, false, false, false, false] rfl rfl (by kernel_rfl) (fun _ _ _ h => h) (Or.inl ⟨by rfl, ?_⟩) ?_ ?_
          rotate_left
          · intro w'
            go_simp
            with_reducible rfl
          rotate_left
          · simp only [Act.put, List.setIfInBounds_toArray, List.set_cons_zero, List.set_cons_succ, i64_w, i32_w]
            rfl
          refine pure_ (i := 13) (N := some 83) (v := ?_) (a' := ?_) #[true, true, true, true, true, true, true, true, true, true, true, false, false, true, false, false, false, false, false, false, false, false, false, false, false, false, false, false, false] rfl rfl (by kernel_rfl) (fun _ _ _ h => h) (Or.inl ⟨by rfl, ?_⟩) ?_ ?_
          rotate_left
          · intro w'
            go_simp
            with_reducible rfl
          rotate_left
          · simp only [Act.put, List.setIfInBounds_toArray, List.set_cons_zero, List.set_cons_succ, i64_w, i32_w]
            rfl
          refine take_ (i := 11) (N := some 81) (v := ?_) (a' := ?_) #[true, true, true, true, true, true, true, true, true, true, true, true, false, true, false, false, false, false, false, false, false, false, false, false, false, false, false, false, false] rfl rfl (by kernel_rfl) (fun _ _ _ h => h) (Or.inl ⟨by rfl, ?_⟩) hHeld ?_ ?_
          rotate_left
          · rintro w' ⟨s0, s1⟩
            go_simp
            with_reducible rfl
          rotate_left
          · simp only [Act.put, List.setIfInBounds_toArray, List.set_cons_zero, List.set_cons_succ, i64_w, i32_w]
            rfl
          refine pure_ (i := 12) (N := some 82) (v := ?_) (a' := ?_) #[true, true, true, true, true, true, true, true, true, true, true, true, true, true, false, false, false, false, false, false, false, false, false, false, false, false, false, false, false] rfl rfl (by kernel_rfl) (fun _ _ _ h => h) (Or.inl ⟨by rfl, ?_⟩) ?_ ?_
          rotate_left
          · intro w'
            go_simp
            with_reducible rfl
          rotate_left
          · simp only [Act.put, List.setIfInBounds_toArray, List.set_cons_zero, List.set_cons_succ, i64_w, i32_w]
            rfl
          refine pure_ (i := 14) (N := some 84) (v := ?_) (a' := ?_) #[true, true, true, true, true, true, true, true, true, true, true, true, true, true, true, false, false, false, false, false, false, false, false, false, false, false, false, false, false] rfl rfl (by kernel_rfl) (fun _ _ _ h => h) (Or.inl ⟨by rfl, ?_⟩) ?_ ?_
          rotate_left
          · intro w'
            go_simp
            with_reducible rfl
          rotate_left
          · simp only [Act.put, List.setIfInBounds_toArray, List.set_cons_zero, List.set_cons_succ, i64_w, i32_w]
            rfl
          refine pure_ (i := 15) (N := some 85) (v := ?_) (a' := ?_) #[true, true, true, true, true, true, true, true, true, true, true, true, true, true, true, true, false, false, false, false, false, false, false, false, false, false, false, false, false] rfl rfl (by kernel_rfl) (fun _ _ _ h => h) (Or.inl ⟨by rfl, ?_⟩) ?_ ?_
          rotate_left
          · intro w'
            go_simp
            with_reducible rfl
          rotate_left
          · simp only [Act.put, List.setIfInBounds_toArray, List.set_cons_zero, List.set_cons_succ, i64_w, i32_w]
            rfl
          refine pure_ (i := 16) (N := some 86) (v := ?_) (a' := ?_) #[true, true, true, true, true, true, true, true, true, true, true, true, true, true, true, true, true, false, false, false, false, false, false, false, false, false, false, false, false] rfl rfl (by kernel_rfl) (fun _ _ _ h => h) (Or.inl ⟨by rfl, ?_⟩) ?_ ?_
          rotate_left
          · intro w'
            go_simp
            with_reducible rfl
          rotate_left
          · simp only [Act.put, List.setIfInBounds_toArray, List.set_cons_zero, List.set_cons_succ, i64_w, i32_w]
            rfl
          refine pure_ (i := 17) (N := some 87) (v := ?_) (a' := ?_) #[true, true, true, true, true, true, true, true, true, true, true, true, true, true, true, true, true, true, false, false, false, false, false, false, false, false, false, false, false] rfl rfl (by kernel_rfl) (fun _ _ _ h => h) (Or.inl ⟨by rfl, ?_⟩) ?_ ?_
          rotate_left
          · intro w'
            go_simp
            with_reducible rfl
          rotate_left
          · simp only [Act.put, List.setIfInBounds_toArray, List.set_cons_zero, List.set_cons_succ, i64_w, i32_w]
            rfl
          refine pure_ (i := 19) (N := some 89) (v := ?_) (a' := ?_) #[true, true, true, true, true, true, true, true, true, true, true, true, true, true, true, true, true, true, false, true, false, false, false, false, false, false, false, false, false] rfl rfl (by kernel_rfl) (fun _ _ _ h => h) (Or.inl ⟨by rfl, ?_⟩) ?_ ?_
          rotate_left
          · intro w'
            go_simp
            with_reducible rfl
          rotate_left
          · simp only [Act.put, List.setIfInBounds_toArray, List.set_cons_zero, List.set_cons_succ, i64_w, i32_w]
            rfl
          refine pure_ (i := 23) (N := some 93) (v := ?_) (a' := ?_) #[true, true, true, true, true, true, true, true, true, true, true, true, true, true, true, true, true, true, false, true, false, false, false, true, false, false, false, false, false] rfl rfl (by kernel_rfl) (fun _ _ _ h => h) (Or.inl ⟨by rfl, ?_⟩) ?_ ?_
          rotate_left
          · intro w'
            go_simp
            with_reducible rfl
          rotate_left
          · simp only [Act.put, List.setIfInBounds_toArray, List.set_cons_zero, List.set_cons_succ, i64_w, i32_w]
            rfl
          refine take_ (i := 18) (N := some 88) (v := ?_) (a' := ?_) #[true, true, true, true, true, true, true, true, true, true, true, true, true, true, true, true, true, true, true, true, false, false, false, true, false, false, false, false, false] rfl rfl (by kernel_rfl) (fun _ _ _ h => h) (Or.inl ⟨by rfl, ?_⟩) hHeld ?_ ?_
          rotate_left
          · rintro w' ⟨s0, s1⟩
            go_simp
            with_reducible rfl
          rotate_left
          · simp only [Act.put, List.setIfInBounds_toArray, List.set_cons_zero, List.set_cons_succ, i64_w, i32_w]
            rfl
          refine pure_ (i := 20) (N := some 90) (v := ?_) (a' := ?_) #[true, true, true, true, true, true, true, true, true, true, true, true, true, true, true, true, true, true, true, true, true, false, false, true, false, false, false, false, false] rfl rfl (by kernel_rfl) (fun _ _ _ h => h) (Or.inl ⟨by rfl, ?_⟩) ?_ ?_
          rotate_left
          · intro w'
            go_simp
            with_reducible rfl
          rotate_left
          · simp only [Act.put, List.setIfInBounds_toArray, List.set_cons_zero, List.set_cons_succ, i64_w, i32_w]
            rfl
          refine pure_ (i := 21) (N := some 91) (v := ?_) (a' := ?_) #[true, true, true, true, true, true, true, true, true, true, true, true, true, true, true, true, true, true, true, true, true, true, false, true, false, false, false, false, false] rfl rfl (by kernel_rfl) (fun _ _ _ h => h) (Or.inl ⟨by rfl, ?_⟩) ?_ ?_
          rotate_left
          · intro w'
            go_simp
            with_reducible rfl
          rotate_left
          · simp only [Act.put, List.setIfInBounds_toArray, List.set_cons_zero, List.set_cons_succ, i64_w, i32_w]
            rfl
          refine take_ (i := 22) (N := some 92) (v := ?_) (a' := ?_) #[true, true, true, true, true, true, true, true, true, true, true, true, true, true, true, true, true, true, true, true, true, true, true, true, false, false, false, false, false] rfl rfl (by kernel_rfl) (fun _ _ _ h => h) (Or.inl ⟨by rfl, ?_⟩) hHeld ?_ ?_
          rotate_left
          · rintro w' ⟨s0, s1⟩
            go_simp
            with_reducible rfl
          rotate_left
          · simp only [Act.put, List.setIfInBounds_toArray, List.set_cons_zero, List.set_cons_succ, i64_w, i32_w]
            rfl
          refine one_ (i := 24) (N := some 94) #[true, true, true, true, true, true, true, true, true, true, true, true, true, true, true, true, true, true, true, true, true, true, true, true, true, false, false, false, false] rfl rfl (by kernel_rfl) (by decide) (fun K hK => ?_)
          refine goes_ Tryd.func18 (by kernel_rfl) rfl #[.int .i64 j] (by rfl) rfl rfl (by first | (simp only [List.map_toArray, List.map_cons, List.map_nil]; done) | (simp only [List.map_toArray, List.map_cons, List.map_nil]; rfl)) ?_
          with_reducible refine (HIj.out _ HW.out).mono ?_
          rintro e_ w1 ⟨rfl, hb⟩
          refine ⟨_, rfl, ?_⟩
          have n_ := Aside0.mk (below_step HW.out hb)
          clear HW
          have HW := n_
          clear n_
          refine hK.out _ _ ⟨(pw_cell_below hb hHeld.1), (pw_cell_below hb hHeld.2)⟩ (fun hHeld => ?_)
          clear hK K
          refine norm_ (a' := ?_) ?_ ?_
          rotate_left
          · show Act.put _ (some 94) _ = _
            simp only [Act.put, List.setIfInBounds_toArray, List.set_cons_zero, List.set_cons_succ, i64_w, i32_w]
            rfl
          refine pure_ (i := 25) (N := some 95) (v := ?_) (a' := ?_) #[true, true, true, true, true, true, true, true, true, true, true, true, true, true, true, true, true, true, true, true, true, true, true, true, true, true, false, false, false] rfl rfl (by kernel_rfl) (fun _ _ _ h => h) (Or.inl ⟨by rfl, ?_⟩) ?_ ?_
          rotate_left
          · intro w'
            go_simp
            with_reducible rfl
          rotate_left
          · simp only [Act.put, List.setIfInBounds_toArray, List.set_cons_zero, List.set_cons_succ, i64_w, i32_w]
            rfl
          refine pure_ (i := 26) (N := some 96) (v := ?_) (a' := ?_) #[true, true, true, true, true, true, true, true, true, true, true, true, true, true, true, true, true, true, true, true, true, true, true, true, true, true, true, false, false] rfl rfl (by kernel_rfl) (fun _ _ _ h => h) (Or.inl ⟨by rfl, ?_⟩) ?_ ?_
          rotate_left
          · intro w'
            go_simp
            with_reducible rfl
          rotate_left
          · simp only [Act.put, List.setIfInBounds_toArray, List.set_cons_zero, List.set_cons_succ, i64_w, i32_w]
            rfl
          refine pure_ (i := 27) (N := some 97) (v := ?_) (a' := ?_) #[true, true, true, true, true, true, true, true, true, true, true, true, true, true, true, true, true, true, true, true, true, true, true, true, true, true, true, true, false] rfl rfl (by kernel_rfl) (fun _ _ _ h => h) (Or.inl ⟨by rfl, ?_⟩) ?_ ?_
          rotate_left
          · intro w'
            go_simp
            with_reducible rfl
          rotate_left
          · simp only [Act.put, List.setIfInBounds_toArray, List.set_cons_zero, List.set_cons_succ, i64_w, i32_w]
            rfl
          refine pure_ (i := 28) (N := some 6) (v := ?_) (a' := ?_) #[true, true, true, true, true, true, true, true, true, true, true, true, true, true, true, true, true, true, true, true, true, true, true, true, true, true, true, true, true] rfl rfl (by kernel_rfl) (fun _ _ _ h => h) (Or.inl ⟨by rfl, ?_⟩) ?_ ?_
          rotate_left
          · intro w'
            go_simp
            with_reducible rfl
          rotate_left
          · simp only [Act.put, List.setIfInBounds_toArray, List.set_cons_zero, List.set_cons_succ, i64_w, i32_w]
            rfl
          refine done_ (by kernel_rfl) ?_
          go_wp2
          go_ret
          exact ⟨rfl, HW.out⟩
      · have hVe : V = (stJ i j x, 2 * (i : Int) + 4, 15) := by rw [HL2.out, if_neg hij]
        subst hVe
        clear HL2
        have hcond : (decide ((i : Int) < j) && decide ((j : Int) < x)) = false := by
          rw [Bool.and_eq_false_iff, decide_eq_false_iff_not, decide_eq_false_iff_not]
          omega
        go_wp2_with fail
        refine (HC.out _ HB.out).mono ?_
        rintro e w2 ⟨hb, hr⟩
        rw [HV.out] at hr
        rcases hr with ⟨-, rfl⟩ | ⟨h0, _⟩
        · dsimp only
          have HB2 := Aside0.mk (below_alloc (below_step HB.out hb) (.cells #[.int .i64 0, .int .i64 0, .int .i64 0, .slice none 0 0] 24))
          have KN := Aside0.mk (blk_new w2 (.cells #[.int .i64 0, .int .i64 0, .int .i64 0, .slice none 0 0] 24))
          clear hb HB HV HC HIt HIs HSz
          by_cases hij1 : (i : Int) < j
          · have hij2 : ¬ (j : Int) < x := fun h => hij ⟨by omega, by omega⟩
            clear hij hcond
            go_wp2_with fail
            refine (HAl.out _ HB2.out).mono ?_
            rintro e w4 ⟨rfl, hb⟩
            have FB := Aside0.mk (below_step HB2.out hb)
            have c3 := blk_cell (blk_below KN.out hb) 3
            clear hb HB2 KN
            go_wp2
            go_ret
            exact ⟨rfl, FB.out⟩
          · clear hij hcond
            go_wp2_with fail
            refine (HAl.out _ HB2.out).mono ?_
            rintro e w4 ⟨rfl, hb⟩
            have FB := Aside0.mk (below_step HB2.out hb)
            have c3 := blk_cell (blk_below KN.out hb) 3
            clear hb HB2 KN
            go_wp2
            go_ret
            exact ⟨rfl, FB.out⟩
        · exact absurd h0 (by dsimp only; omega)
end Go.Proofs.YtolmkdhgnganaaaDoor.H
namespace Go.Proofs.YtolmkdhgnganaaaDoor.R
open Go Go.RowKit Go.Proofs Go.Proofs.YtolmkdhgnganaaaDoorW.PrintWords Go.Proofs.YtolmkdhgnganaaaDoor.H Go.ChangeShapes Go.WideShapes Go.ChangeAt
theorem own : ownKnob Tryd.prog.godebug = none := by kernel_rfl
theorem laidOut : laidOutB Tryd.prog = true := by kernel_rfl
/-- A listed array of strings: its cells. -/
theorem strs_cells {P : Program} {w : World} {name : String} {ds : List (DataW Unit)} {g t e n : Nat} (h : Lib.VarReads P w name (.agg ds)) (hg : P.globalNamed name = some g) (hty : (P.globals[g]?).map (·.type) = some t)
    (ht : P.underlying t = some (.array n e)) (he : P.underlying e = some .string) (hce : P.cellsOf e = 1) (i : Nat) (hi : i < n) (bs : List UInt8) (hd : ds[i]? = some (.lit (.string bs))) :
    w.cell? ⟨g, i, none⟩ = some (.string ⟨bs.toArray⟩) := by
  obtain ⟨g', t', cs, fuel, p, h1, h2, h3, h4⟩ := h
  obtain rfl := Option.some.inj (hg.symm.trans h1)
  obtain rfl := Option.some.inj (hty.symm.trans h2)
  obtain ⟨f2, d, q, e1, e2⟩ := Lib.array_elem ht h4 i hi
  rw [e1] at hd
  obtain rfl := Option.some.inj hd
  rw [hce] at e2
  obtain ⟨s, hc, hs, _⟩ := DataW.trod_string he e2
  have hcs : cs.toList[i]? = some (.string s) := by
    have := congrArg (·[0]?) hc
    simpa [List.getElem?_take, List.getElem?_drop] using this
  rw [World.var?_cell h1 h3 i]
  have hcs' : cs[i]? = some (.string s) := by simpa using hcs
  rw [hcs']
  simp only [Prod.mk.injEq, DataW.lit.injEq, Lit.string.injEq] at hs
  rw [hs.1]
/-- A listed error: it is not nil. -/
theorem err_var {P : Program} {w : World} {name tn : String} {d : DataW Unit} {g t : Nat} {ms : Array (String × TypeId)} (h : Lib.VarReads P w name (.iface tn d)) (hg : P.globalNamed name = some g) (hty : (P.globals[g]?).map (·.type) = some t)
    (ht : P.underlying t = some (.interface ms)) : ∃ u v, w.var? P name = some #[.iface u v] := by
  obtain ⟨g', t', cs, fuel, p, h1, h2, h3, h4⟩ := h
  obtain rfl := Option.some.inj (hg.symm.trans h1)
  obtain rfl := Option.some.inj (hty.symm.trans h2)
  have key : ∀ l : List Value, DataW.trod (fun _ => ()) P w 0 (fun _ => true) false fuel t l = some (.iface tn d, p) → ∃ u v, l = [.iface u v] := by
    intro l hl
    cases fuel with
    | zero => simp [DataW.trod] at hl
    | succ fuel =>
      unfold DataW.trod at hl
      rw [ht] at hl
      split at hl <;> first | (simp_all; done) | skip
      all_goals rename_i hu _
      all_goals first
        | exact ⟨_, _, rfl⟩
        | (exfalso; simp_all)
  obtain ⟨u, v, e⟩ := key cs.toList h4
  refine ⟨u, v, ?_⟩
  rw [h3]
  congr 1
  apply Array.toList_inj.1
  rw [e]
open Go.ChangeMaps (open_string shut_string)
/-- A datum that is a table of whole numbers. -/
theorem tab_reads {P : Program} {w : World} {name : String} {k : IntKind} {zs : List Int} {d : DataW Unit} {g t e n : Nat} (h : Lib.VarReads P w name d) (hd : d = Lib.tabData k zs) (hg : P.globalNamed name = some g) (hty : (P.globals[g]?).map (·.type) = some t)
    (ht : P.underlying t = some (.array n e)) (he : P.underlying e = some (.int k)) (hce : P.cellsOf e = 1) (hct : P.cellsOf t = n) : Lib.TabIs P w name k zs := by
  subst hd
  obtain ⟨g', t', cs, fuel, p, h1, h2, h3, h4⟩ := h
  obtain rfl := Option.some.inj (hg.symm.trans h1)
  obtain rfl := Option.some.inj (hty.symm.trans h2)
  unfold Lib.TabIs
  rw [h3, ← Lib.cells_of_tab ht he hce hct h4]
section
variable {H : Type} {enc : TypeId × Value → H} {P : Program} {w : World} {base : Nat} {sp : Nat → Bool} {held : Bool}
theorem trod_blocks {t : TypeId} {v : Value} {d : DataW H} {p : List MemPlace} (h : DataW.Trod enc P w base sp held t v d p) : ∀ x ∈ p, x.block < w.heap.size := by
  obtain ⟨m, hm⟩ := h
  exact DataW.trod_lt m _ _ _ hm
end
/-- What a card asks of the parameters. -/
theorem plain_in {P : Program} {name : String} {f : FuncId} {fn : Func} {lk : Bool} (hf : P.funcs[f]? = some fn) (hn : P.funcNamed name = some f) (hlk : lk = P.looks []) (hall : (fn.params.toList.all fun t => !P.wantsStandIn t) = true) :
    ∀ f' fn', P.funcNamed name = some f' → P.funcs[f']? = some fn' → lk = P.looks [] ∧ ∀ (j : Nat) t, fn'.params[j]? = some t → P.wantsStandIn t = false := by
  intro f' fn' h1 h2
  obtain rfl := Option.some.inj (hn.symm.trans h1)
  obtain rfl := Option.some.inj (hf.symm.trans h2)
  refine ⟨hlk, fun j t ht => ?_⟩
  have hm : t ∈ fn.params.toList := by simpa using Array.mem_of_getElem? ht
  simpa using List.all_eq_true.1 hall t hm
theorem lets_of {w : World} (h : Lib.VarReads Tryd.prog w "busbar/addr.letters" (.agg [.lit (.string [73]), .lit (.string [81]), .lit (.string [77])])) : Lets w :=
  ⟨strs_cells (g := 2) h (by kernel_rfl) (by kernel_rfl) Tryd.underlying111 Tryd.underlying9 (by kernel_rfl) 0 (by omega) [73] rfl,
   strs_cells (g := 2) h (by kernel_rfl) (by kernel_rfl) Tryd.underlying111 Tryd.underlying9 (by kernel_rfl) 1 (by omega) [81] rfl,
   strs_cells (g := 2) h (by kernel_rfl) (by kernel_rfl) Tryd.underlying111 Tryd.underlying9 (by kernel_rfl) 2 (by omega) [77] rfl⟩
theorem pows_of {w : World} {d : DataW Unit} (h : Lib.VarReads Tryd.prog w "internal/strconv.uint64pow10" d) (hd : d = Lib.tabData .u64 Lib.pow10Tab) : Pows w :=
  ⟨tab_reads (g := 4) h hd (by kernel_rfl) (by kernel_rfl) Tryd.underlying149 Tryd.underlying126 (by kernel_rfl) (by kernel_rfl)⟩
theorem errs_of {w : World} {n1 n2 : String} {d1 d2 : DataW Unit} (h1 : Lib.VarReads Tryd.prog w "strconv.ErrSyntax" (.iface n1 d1)) (h2 : Lib.VarReads Tryd.prog w "strconv.ErrRange" (.iface n2 d2)) : Errs w :=
  ⟨err_var (g := 9) h1 (by kernel_rfl) (by kernel_rfl) Tryd.underlying107, err_var (g := 10) h2 (by kernel_rfl) (by kernel_rfl) Tryd.underlying107⟩
end Go.Proofs.YtolmkdhgnganaaaDoor.R
namespace Go.Proofs.YtolmkdhgnganaaaDoor.R
open Go Go.RowKit Go.Proofs Go.Proofs.YtolmkdhgnganaaaDoorW.PrintWords Go.Proofs.YtolmkdhgnganaaaDoor.H Go.ChangeShapes Go.WideShapes Go.ChangeAt Go.Deep
section
variable {H : Type} {enc : TypeId × Value → H} {w : World} {base : Nat} {sp : Nat → Bool} {held : Bool}
end
theorem kws_of {w : World} (h : Lib.VarReads Tryd.prog w "busbar/parse.contacts" (.agg [.lit (.string [110, 111]), .lit (.string [110, 99]), .lit (.string [117, 112]), .lit (.string [100, 111, 119, 110])]))
    (h2 : Lib.VarReads Tryd.prog w "busbar/parse.coils" (.agg [.lit (.string [111, 117, 116]), .lit (.string [110, 111, 116]), .lit (.string [115, 101, 116]), .lit (.string [114, 101, 115, 101, 116])])) : Kws w := by
  have k := fun i hi bs hd => strs_cells (g := 0) h (by kernel_rfl) (by kernel_rfl) Tryd.underlying105 Tryd.underlying9 (by kernel_rfl) i hi bs hd
  have k2 := fun i hi bs hd => strs_cells (g := 1) h2 (by kernel_rfl) (by kernel_rfl) Tryd.underlying105 Tryd.underlying9 (by kernel_rfl) i hi bs hd
  refine ⟨fun j hj => ?_, fun j hj => ?_⟩
  · match j, hj with
    | 0, hj => exact k 0 hj _ rfl
    | 1, hj => exact k 1 hj _ rfl
    | 2, hj => exact k 2 hj _ rfl
    | 3, hj => exact k 3 hj _ rfl
  · match j, hj with
    | 0, hj => exact k2 0 hj _ rfl
    | 1, hj => exact k2 1 hj _ rfl
    | 2, hj => exact k2 2 hj _ rfl
    | 3, hj => exact k2 3 hj _ rfl
end Go.Proofs.YtolmkdhgnganaaaDoor.R
namespace Go.Proofs.YtolmkdhgnganaaaDoor.R
open Go Go.RowKit Go.Proofs Go.Proofs.YtolmkdhgnganaaaDoorW.PrintWords Go.Proofs.YtolmkdhgnganaaaDoor.H Go.ChangeShapes Go.WideShapes Go.ChangeAt
/-- A call of a row that lists variables: its contract may ask for the world's shape. -/
theorem handed_sh {H : Type} {enc : TypeId × Value → H} {a : Assume} {C : Checked} {os : Os} {f : FuncId} {fn : Func} {s : ChangeSpec} {conds : List PathCond} {apart fresh handsOn again : Bool} {X : World → Array Value → Prop}
    (keep : ∀ (u v : World) (args : Array Value), u.heap = v.heap → X u args → X v args) (ow : ownKnob C.prog.godebug = none) (st : os.Started) (ni : C.prog.inits.idxOf? f = none) (hf : C.prog.funcs[f]? = some fn)
    (wit : ∃ (w : World) (tape : Tape) (i : Input), w.os = os ∧ (w.forCall tape i).Shaped C.prog ∧ i.vars = [] ∧ Input.okWide C.prog (w.forCall tape i) .any w.heap.size f i ∧
      ((s.pre enc C.prog fn conds apart (w.forCall tape i).memory i.args ∧ X (w.forCall tape i).memory i.args) ∧ sizedMet enc C.prog fn (OpenSpec.ofChange s) apart (w.forCall tape i).memory i.args) ∧ a.holds C.prog (lone (Frame.enter C.prog f i.args .normal) [] (w.forCall tape i)))
    (con : ∀ (W : World) (base : Nat) (args : Array Value) (ds gs : List (DataW H)) (before : List MemPlace), (∀ (j : Nat) t v, fn.params[j]? = some t → args[j]? = some v → Value.okWide C.prog W .any base t v) →
      DataW.Whole enc C.prog fn.params.toList s.vars apart W args.toList ds gs before → conds.all (PathCond.test C.prog ⟨fn.params.toList, ds, s.plain.varTypes C.prog, gs⟩) = true →
      (DataW.weightsEach C.prog (fn.params.toList ++ s.plain.varTypes C.prog) (ds ++ gs)).all (· ≤ reachBytes) = true → X W args → W.ShapedOpen C.prog →
      Calls C.prog f args W fun e W' => ∃ v, e = .returned v ∧ s.post enc C.prog fn apart fresh handsOn again W args v W') :
    ReturnsInHanded a C os f .any (fun w args => (s.pre enc C.prog fn conds apart w args ∧ X w args) ∧ sizedMet enc C.prog fn (OpenSpec.ofChange s) apart w args) (s.post enc C.prog fn apart fresh handsOn again) := by
  refine returnsInHanded_of_calls ow st ni wit ?_
  intro w tape i _ sh _ ok pre _
  obtain ⟨_, _, _, g, hg, _, _, _, _, val⟩ := ok
  obtain rfl : g = fn := Option.some.inj (hg.symm.trans hf)
  obtain ⟨⟨⟨ds, gs, before, hw, hc⟩, hx⟩, hz⟩ := pre
  refine (con (w.forCall tape i) w.heap.size i.args ds gs before val (DataW.Whole.of_heap (w' := w.forCall tape i) (by rfl) hw) hc (hz.weights hw) (keep _ _ _ (by rfl) hx) sh).mono ?_
  rintro e W' ⟨v, rfl, hp⟩
  exact ChangeSpec.post_blind hp
theorem lexg_of {w : World} {d : DataW Unit} (h : Lib.VarReads Tryd.prog w "strings.asciiSpace" d) (hd : d = Lib.tabData .u8 Lib.asciiSpaceTab) (sh : w.ShapedOpen Tryd.prog) : LexG w :=
  ⟨cell_of_shapedOpen_int (zero := #[.int .i64 0]) (t := 3) sh (of_decide_eq_true (by kernel_rfl)) (by kernel_rfl) rfl (by kernel_rfl) (by kernel_rfl) Tryd.underlying3,
   tab_reads (g := 3) h hd (by kernel_rfl) (by kernel_rfl) Tryd.underlying135 Tryd.underlying5 (by kernel_rfl) (by kernel_rfl)⟩
end Go.Proofs.YtolmkdhgnganaaaDoor.R
