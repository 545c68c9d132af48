/-
  What the claim's row leans on, part 3: The parser's line: the keyword is looked up, the line is checked, its method is called. lex.Lines: the walk. Parse, in plain words. parse.Parse. Texts, line by line: the lines of a text as lists of bytes, what of them lies ahead of a comment, and what Parse answers told over them. Parse's lines one by one, over the pieces of a text. The three capacities: as many rungs, contacts, coils as are let in, and one more. The example of the chapter: 'busbarlaw10.alive' answers true. Parse's answer but for the ladder; the library's calls of the statements. The plain laws of the address layer: Format and Parse are inverse to each other; a valid address has a textual form. No program in sight. Words joined to a line and read back; the lines of a ladder, told for any words. The declared sizes, in plain words. 'busbarlaw10.ParseDeclaredSizes' answers true. From a row's listed variables to what the contracts ask of the world; and arguments laid open. No law in sight. A ladder among the arguments: from its reading to what the contracts ask. From a row's listed variables to what lex.Lines reads; the row's call with the world's shape.
-/
import Derived.Test.YtolmkdhgnganaaaDoorMgSizb
set_option linter.unusedVariables false
set_option linter.unusedSimpArgs false
namespace Go.Proofs.YtolmkdhgnganaaaDoor.H
open Go Go.RowKit Go.Proofs Go.Proofs.YtolmkdhgnganaaaDoorW.PrintWords Go.Proofs.YtolmkdhgnganaaaDoor.Sp
/-- Which method a keyword has: 0 size, 1 rung, 2 jump, 3 a contact, 4 a coil. -/
def kindOf (x : ByteArray) : Option Nat :=
  if (x == ⟨#[115, 105, 122, 101]⟩) = true then some 0 else
  if (x == ⟨#[114, 117, 110, 103]⟩) = true then some 1 else
  if (x == ⟨#[106, 117, 109, 112]⟩) = true then some 2 else
  if (x == ⟨#[110, 111]⟩) = true then some 3 else
  if (x == ⟨#[110, 99]⟩) = true then some 3 else
  if (x == ⟨#[117, 112]⟩) = true then some 3 else
  if (x == ⟨#[100, 111, 119, 110]⟩) = true then some 3 else
  if (x == ⟨#[111, 117, 116]⟩) = true then some 4 else
  if (x == ⟨#[110, 111, 116]⟩) = true then some 4 else
  if (x == ⟨#[115, 101, 116]⟩) = true then some 4 else
  if (x == ⟨#[114, 101, 115, 101, 116]⟩) = true then some 4 else none
def wordK (gp : Nat) : Nat → Value
  | 0 => wordV gp 4 4 false false 65
  | 1 => wordV gp 1 2 true false 66
  | 2 => wordV gp 2 2 true true 67
  | 3 => wordV gp 4 4 true true 68
  | _ => wordV gp 2 2 true true 69
theorem tab_find (gp : Nat) (x : ByteArray) : ((tabW gp).find? (fun p => x == p.1)).map (·.2) = (kindOf x).map (wordK gp) := by
  unfold kindOf tabW
  simp only [List.find?_cons]
  repeat (split; · rename_i hq; simp only [hq, if_true]; rfl
          rename_i hq; simp only [hq, Bool.false_eq_true, if_false])
  rfl
theorem tab_look (gp : Nat) (x : ByteArray) (z : Value) : (match (tabW gp).find? (fun p => x == p.1) with | some p => Value.tuple #[p.2, .bool true] | none => Value.tuple #[z, .bool false]) =
    match kindOf x with | some k => Value.tuple #[wordK gp k, .bool true] | none => Value.tuple #[z, .bool false] := by
  have h := tab_find gp x
  cases hf : (tabW gp).find? (fun p => x == p.1) with
  | none => rw [hf] at h; cases hk : kindOf x with
    | none => rfl
    | some k => rw [hk] at h; cases h
  | some p => rw [hf] at h; cases hk : kindOf x with
    | none => rw [hk] at h; cases h
    | some k => rw [hk] at h; simp only [Option.map_some, Option.some.injEq] at h; simp only [h]
theorem kind_cases {x : ByteArray} {k : Nat} (h : kindOf x = some k) : k = 0 ∨ k = 1 ∨ k = 2 ∨ k = 3 ∨ k = 4 := by
  unfold kindOf at h
  repeat' split at h
  all_goals cases h
  all_goals simp
/-- What a line does. -/
def lineS (S : PSt) (n : Int) (ws : List ByteArray) : PSt × Int :=
  match kindOf (ws.getD 0 ⟨#[]⟩) with
  | none => (S, 8)
  | some 0 => if ws.length ≠ 4 then (S, 6) else sizeS S ws
  | some 1 => if 2 < ws.length then (S, 6) else if S.sized = false then (S, 11) else beginS S n ws
  | some 2 => if ws.length ≠ 2 then (S, 6) else if S.sized = false ∨ S.rungs.length = 0 then (S, 11) else jumpS S n ws
  | some 3 => if ws.length ≠ 4 then (S, 6) else if S.sized = false ∨ S.rungs.length = 0 then (S, 11) else conS S ws
  | some _ => if ws.length ≠ 2 then (S, 6) else if S.sized = false ∨ S.rungs.length = 0 then (S, 11) else coilS S ws
/-- No rung has too much. -/
def Caps (S : PSt) : Prop := ∀ r ∈ S.rungs, r.f1.length ≤ 256 ∧ r.f2.length ≤ 16
set_option maxHeartbeats 4000000 in
set_option maxRecDepth 100000 in
theorem line_p {B gp gm : Nat} {S : PSt} {vr vl vj : Value} {w : World} (h : PF B gp S vr vl vj w) (hm : MapIs w gm (tabW gp)) (n : Int) (b nw wc : Nat) (ws : List ByteArray) (hw : Kd.string.R 9 w B (fun _ => True) (.slice (some ⟨b, 0, none⟩) nw wc) ws)
    (hsz : ∀ j, (ws.getD j ⟨#[]⟩).size ≤ 65536) (hnw : 0 < nw) (hc : Caps S) (hE : Env B w) :
    Calls Tryd.prog 47 #[.pointer (some ⟨gp, 0, none⟩), .map (some gm), .agg #[.int .i64 n, .slice (some ⟨b, 0, none⟩) nw wc]] w (ParR B gp w (lineS S n ws)) := by
  have hlen : nw = ws.length := (Kd.R_reads' hw).1
  have HLen := Aside0.mk hlen
  generalize hr : lineS S n ws = r
  have HR := Aside0.mk hr
  have H := Aside0.mk h
  have HW := Aside0.mk hw
  have HEn := Aside0.mk hE
  have hb0 := below_alloc (Below.refl w.heap.size w) (.cells #[.int .i64 n, .slice (some ⟨b, 0, none⟩) nw wc] 97)
  have HB0 := Aside0.mk hb0
  have hlk := (hm.below hb0).look (s := ws.getD 0 ⟨#[]⟩) Tryd.underlying9 Tryd.underlying94 (z := .agg #[.int .i64 0, .int .i64 0, .bool false, .bool false, .nilFunc]) (by rfl)
  replace hlk := hlk.trans (congrArg (fun v => Result.ok v _) (tab_look gp (ws.getD 0 ⟨#[]⟩) _))
  have hz0 : (w.alloc (.cells #[.int .i64 n, .slice (some ⟨b, 0, none⟩) nw wc] 97)).cell? ⟨b, 0, none⟩ = some (.string (ws.getD 0 ⟨#[]⟩)) := words_cell (Kd.R_below hw hb0) 0 (by omega)
  have hnw' : (0 : Int) < nw := by omega
  cases hk : kindOf (ws.getD 0 ⟨#[]⟩) with
  | none =>
    rw [hk] at hlk
    obtain rfl : r = (S, 8) := by rw [← HR.out, lineS, hk]
    have HK := Aside0.mk hk
    generalize ws.getD 0 ⟨#[]⟩ = x0 at hz0 hlk
    clear h hw hE hlen hsz hc hk hr hm hb0
    go_enter Tryd.func47, Tryd.ntmps47
    go_wp2
    go_ret
    exact ⟨rfl, KP.of_below H.out.sz (below_alloc HB0.out _), fun e => by cases e⟩
  | some k =>
    rw [hk] at hlk
    have HK := Aside0.mk hk
    have hcs := kind_cases hk
    generalize ws.getD 0 ⟨#[]⟩ = x0 at hz0 hlk
    clear h hw hE hlen hk hr hm hb0
    have HSz := Aside0.mk hsz
    have HC := Aside0.mk hc
    clear hsz hc
    rcases hcs with rfl | rfl | rfl | rfl | rfl
    · simp only [wordK, wordV] at hlk
      have hb1 := below_alloc HB0.out (.cells #[.int .i64 4, .int .i64 4, .bool false, .bool false, .func (.func 65) #[.pointer (some ⟨gp, 0, none⟩)] #[]] 119)
      have HB1 := Aside0.mk hb1
      have KL := Aside0.mk (blk_alloc (blk_new w (.cells #[.int .i64 n, .slice (some ⟨b, 0, none⟩) nw wc] 97)) (.cells #[.int .i64 4, .int .i64 4, .bool false, .bool false, .func (.func 65) #[.pointer (some ⟨gp, 0, none⟩)] #[]] 119))
      have KW := Aside0.mk (blk_new (w.alloc (.cells #[.int .i64 n, .slice (some ⟨b, 0, none⟩) nw wc] 97)) (.cells #[.int .i64 4, .int .i64 4, .bool false, .bool false, .func (.func 65) #[.pointer (some ⟨gp, 0, none⟩)] #[]] 119))
      have H1 := Aside0.mk (H.out.below hb1)
      have HW1 := Aside0.mk (Kd.R_below HW.out hb1)
      have HE1 := Aside0.mk (HEn.out.step (hb1.mono H.out.sz))
      clear hb1
      go_enter Tryd.func47, Tryd.ntmps47
      go_upto_block 0 with fail
      generalize hw1 : ((w.alloc (.cells #[.int .i64 n, .slice (some ⟨b, 0, none⟩) nw wc] 97)).alloc (.cells #[.int .i64 4, .int .i64 4, .bool false, .bool false, .func (.func 65) #[.pointer (some ⟨gp, 0, none⟩)] #[]] 119)) = w1 at HB1 KL KW H1 HW1 HE1 ⊢
      have hgx : (w.alloc (.cells #[.int .i64 n, .slice (some ⟨b, 0, none⟩) nw wc] 97)).heap.size = w.heap.size + 1 := by simp
      rw [hgx] at KW
      generalize w.heap.size + 1 = gx at KW ⊢
      generalize hgl : w.heap.size = gl at KL ⊢
      clear hw1 hgx hlk hz0 HB0
      have a1 : w1.cell? ⟨gl, 1, none⟩ = some (.slice (some ⟨b, 0, none⟩) nw wc) := blk_cell KL.out 1
      have a0 : w1.cell? ⟨gl, 0, none⟩ = some (.int .i64 n) := blk_cell KL.out 0
      have b0 : w1.cell? ⟨gx, 0, none⟩ = some (.int .i64 4) := blk_cell KW.out 0
      have b1 : w1.cell? ⟨gx, 1, none⟩ = some (.int .i64 4) := blk_cell KW.out 1
      have b2 : w1.cell? ⟨gx, 2, none⟩ = some (.bool false) := blk_cell KW.out 2
      have b3 : w1.cell? ⟨gx, 3, none⟩ = some (.bool false) := blk_cell KW.out 3
      have b4 : w1.cell? ⟨gx, 4, none⟩ = some (.func (.func 65) #[.pointer (some ⟨gp, 0, none⟩)] #[]) := blk_cell KW.out 4
      have p3 := H1.out.cells.2.2.2.1
      have p4 := H1.out.cells.2.2.2.2.1
      clear hgl
      by_cases h4 : nw = 4
      · subst h4
        have HCall := Aside0.mk (size_p H1.out n b wc ws HW1.out HSz.out HE1.out)
        rw [show sizeS S ws = r by rw [← HR.out, lineS, HK.out]; simp only []; rw [if_neg (by rw [← HLen.out]; simp)]] at HCall
        go_wp2_with fail
        refine HCall.out.mono ?_
        rintro e w2 ⟨rfl, hk, hp⟩
        go_wp2
        go_ret
        exact ⟨rfl, (KP.of_below H.out.sz HB1.out).trans hk, hp⟩
      · by_cases hlt : (nw : Int) < 4
        · have hltb : decide ((nw : Int) < 4) = true := by simpa using hlt
          obtain rfl : r = (S, 6) := by rw [← HR.out, lineS, HK.out]; simp only []; rw [if_pos (by rw [← HLen.out]; omega)]
          go_wp2
          go_ret
          exact ⟨rfl, KP.of_below H.out.sz HB1.out, fun e => by cases e⟩
        · have hltb : decide ((nw : Int) < 4) = false := by simpa using hlt
          have hgtb : decide ((4 : Int) < nw) = true := by simp; omega
          obtain rfl : r = (S, 6) := by rw [← HR.out, lineS, HK.out]; simp only []; rw [if_pos (by rw [← HLen.out]; omega)]
          go_wp2
          go_ret
          exact ⟨rfl, KP.of_below H.out.sz HB1.out, fun e => by cases e⟩
    · simp only [wordK, wordV] at hlk
      have hb1 := below_alloc HB0.out (.cells #[.int .i64 1, .int .i64 2, .bool true, .bool false, .func (.func 66) #[.pointer (some ⟨gp, 0, none⟩)] #[]] 119)
      have HB1 := Aside0.mk hb1
      have KL := Aside0.mk (blk_alloc (blk_new w (.cells #[.int .i64 n, .slice (some ⟨b, 0, none⟩) nw wc] 97)) (.cells #[.int .i64 1, .int .i64 2, .bool true, .bool false, .func (.func 66) #[.pointer (some ⟨gp, 0, none⟩)] #[]] 119))
      have KW := Aside0.mk (blk_new (w.alloc (.cells #[.int .i64 n, .slice (some ⟨b, 0, none⟩) nw wc] 97)) (.cells #[.int .i64 1, .int .i64 2, .bool true, .bool false, .func (.func 66) #[.pointer (some ⟨gp, 0, none⟩)] #[]] 119))
      have H1 := Aside0.mk (H.out.below hb1)
      have HW1 := Aside0.mk (Kd.R_below HW.out hb1)
      have HE1 := Aside0.mk (HEn.out.step (hb1.mono H.out.sz))
      clear hb1
      go_enter Tryd.func47, Tryd.ntmps47
      go_upto_block 0 with fail
      generalize hw1 : ((w.alloc (.cells #[.int .i64 n, .slice (some ⟨b, 0, none⟩) nw wc] 97)).alloc (.cells #[.int .i64 1, .int .i64 2, .bool true, .bool false, .func (.func 66) #[.pointer (some ⟨gp, 0, none⟩)] #[]] 119)) = w1 at HB1 KL KW H1 HW1 HE1 ⊢
      have hgx : (w.alloc (.cells #[.int .i64 n, .slice (some ⟨b, 0, none⟩) nw wc] 97)).heap.size = w.heap.size + 1 := by simp
      rw [hgx] at KW
      generalize w.heap.size + 1 = gx at KW ⊢
      generalize hgl : w.heap.size = gl at KL ⊢
      clear hw1 hgx hlk hz0 HB0
      have a1 : w1.cell? ⟨gl, 1, none⟩ = some (.slice (some ⟨b, 0, none⟩) nw wc) := blk_cell KL.out 1
      have a0 : w1.cell? ⟨gl, 0, none⟩ = some (.int .i64 n) := blk_cell KL.out 0
      have b0 : w1.cell? ⟨gx, 0, none⟩ = some (.int .i64 1) := blk_cell KW.out 0
      have b1 : w1.cell? ⟨gx, 1, none⟩ = some (.int .i64 2) := blk_cell KW.out 1
      have b2 : w1.cell? ⟨gx, 2, none⟩ = some (.bool true) := blk_cell KW.out 2
      have b3 : w1.cell? ⟨gx, 3, none⟩ = some (.bool false) := blk_cell KW.out 3
      have b4 : w1.cell? ⟨gx, 4, none⟩ = some (.func (.func 66) #[.pointer (some ⟨gp, 0, none⟩)] #[]) := blk_cell KW.out 4
      have p3 := H1.out.cells.2.2.2.1
      have p4 := H1.out.cells.2.2.2.2.1
      clear hgl
      have hltb : decide ((nw : Int) < 1) = false := by simp; omega
      by_cases h4 : (2 : Int) < nw
      · have hgtb : decide ((2 : Int) < nw) = true := by simpa using h4
        obtain rfl : r = (S, 6) := by rw [← HR.out, lineS, HK.out]; simp only []; rw [if_pos (by rw [← HLen.out]; omega)]
        go_wp2
        go_ret
        exact ⟨rfl, KP.of_below H.out.sz HB1.out, fun e => by cases e⟩
      · have hgtb : decide ((2 : Int) < nw) = false := by simpa using h4
        have H4 := Aside0.mk h4
        clear h4
        cases hs : S.sized with
        | false =>
          rw [hs] at p4
          obtain rfl : r = (S, 11) := by rw [← HR.out, lineS, HK.out]; simp only []; rw [if_neg (by rw [← HLen.out]; have := H4.out; omega), if_pos hs]
          go_wp2
          go_ret
          exact ⟨rfl, KP.of_below H.out.sz HB1.out, fun e => by cases e⟩
        | true =>
          rw [hs] at p4
          have HS := Aside0.mk hs
          clear hs
          have HCall := Aside0.mk (begin_p H1.out n b nw wc ws HW1.out HSz.out HE1.out)
          rw [show beginS S n ws = r by rw [← HR.out, lineS, HK.out]; simp only []; rw [if_neg (by rw [← HLen.out]; have := H4.out; omega), if_neg (by rw [HS.out]; simp)]] at HCall
          go_wp2_with fail
          refine HCall.out.mono ?_
          rintro e w2 ⟨rfl, hk, hp⟩
          go_wp2
          go_ret
          exact ⟨rfl, (KP.of_below H.out.sz HB1.out).trans hk, hp⟩
    · simp only [wordK, wordV] at hlk
      have hb1 := below_alloc HB0.out (.cells #[.int .i64 2, .int .i64 2, .bool true, .bool true, .func (.func 67) #[.pointer (some ⟨gp, 0, none⟩)] #[]] 119)
      have HB1 := Aside0.mk hb1
      have KL := Aside0.mk (blk_alloc (blk_new w (.cells #[.int .i64 n, .slice (some ⟨b, 0, none⟩) nw wc] 97)) (.cells #[.int .i64 2, .int .i64 2, .bool true, .bool true, .func (.func 67) #[.pointer (some ⟨gp, 0, none⟩)] #[]] 119))
      have KW := Aside0.mk (blk_new (w.alloc (.cells #[.int .i64 n, .slice (some ⟨b, 0, none⟩) nw wc] 97)) (.cells #[.int .i64 2, .int .i64 2, .bool true, .bool true, .func (.func 67) #[.pointer (some ⟨gp, 0, none⟩)] #[]] 119))
      have H1 := Aside0.mk (H.out.below hb1)
      have HW1 := Aside0.mk (Kd.R_below HW.out hb1)
      have HE1 := Aside0.mk (HEn.out.step (hb1.mono H.out.sz))
      clear hb1
      go_enter Tryd.func47, Tryd.ntmps47
      go_upto_block 0 with fail
      generalize hw1 : ((w.alloc (.cells #[.int .i64 n, .slice (some ⟨b, 0, none⟩) nw wc] 97)).alloc (.cells #[.int .i64 2, .int .i64 2, .bool true, .bool true, .func (.func 67) #[.pointer (some ⟨gp, 0, none⟩)] #[]] 119)) = w1 at HB1 KL KW H1 HW1 HE1 ⊢
      have hgx : (w.alloc (.cells #[.int .i64 n, .slice (some ⟨b, 0, none⟩) nw wc] 97)).heap.size = w.heap.size + 1 := by simp
      rw [hgx] at KW
      generalize w.heap.size + 1 = gx at KW ⊢
      generalize hgl : w.heap.size = gl at KL ⊢
      clear hw1 hgx hlk hz0 HB0
      have a1 : w1.cell? ⟨gl, 1, none⟩ = some (.slice (some ⟨b, 0, none⟩) nw wc) := blk_cell KL.out 1
      have a0 : w1.cell? ⟨gl, 0, none⟩ = some (.int .i64 n) := blk_cell KL.out 0
      have b0 : w1.cell? ⟨gx, 0, none⟩ = some (.int .i64 2) := blk_cell KW.out 0
      have b1 : w1.cell? ⟨gx, 1, none⟩ = some (.int .i64 2) := blk_cell KW.out 1
      have b2 : w1.cell? ⟨gx, 2, none⟩ = some (.bool true) := blk_cell KW.out 2
      have b3 : w1.cell? ⟨gx, 3, none⟩ = some (.bool true) := blk_cell KW.out 3
      have b4 : w1.cell? ⟨gx, 4, none⟩ = some (.func (.func 67) #[.pointer (some ⟨gp, 0, none⟩)] #[]) := blk_cell KW.out 4
      have p3 := H1.out.cells.2.2.2.1
      have p4 := H1.out.cells.2.2.2.2.1
      clear hgl
      by_cases h4 : nw = 2
      · subst h4
        cases hs : S.sized with
        | false =>
          rw [hs] at p4
          obtain rfl : r = (S, 11) := by rw [← HR.out, lineS, HK.out]; simp only []; rw [if_neg (by rw [← HLen.out]; simp), if_pos (.inl hs)]
          go_wp2
          go_ret
          exact ⟨rfl, KP.of_below H.out.sz HB1.out, fun e => by cases e⟩
        | true =>
          rw [hs] at p4
          have HS := Aside0.mk hs
          clear hs
          obtain ⟨A, c, e, -, -⟩ := Kd.S_reads H1.out.r
          subst e
          by_cases h0 : (S.rungs.length : Int) = 0
          · have h0b : ((S.rungs.length : Int) == 0) = true := by simpa using h0
            have H0 := Aside0.mk h0
            clear h0
            obtain rfl : r = (S, 11) := by rw [← HR.out, lineS, HK.out]; simp only []; rw [if_neg (by rw [← HLen.out]; simp), if_pos (.inr (by have := H0.out; omega))]
            go_wp2
            go_ret
            exact ⟨rfl, KP.of_below H.out.sz HB1.out, fun e => by cases e⟩
          · have h0b : ((S.rungs.length : Int) == 0) = false := by simpa using h0
            have hin : Aside0 (0 < S.rungs.length) := ⟨by omega⟩
            clear h0
            have HCall := Aside0.mk (jump_p H1.out n b wc ws HW1.out hin.out)
            rw [show jumpS S n ws = r by rw [← HR.out, lineS, HK.out]; simp only []; rw [if_neg (by rw [← HLen.out]; simp), if_neg (by rw [HS.out]; simp; have := hin.out; intro h; rw [h] at this; simp at this)]] at HCall
            go_wp2_with fail
            refine HCall.out.mono ?_
            rintro e w2 ⟨rfl, hk, hp⟩
            go_wp2
            go_ret
            exact ⟨rfl, (KP.of_below H.out.sz HB1.out).trans hk, hp⟩
      · by_cases hlt : (nw : Int) < 2
        · have hltb : decide ((nw : Int) < 2) = true := by simpa using hlt
          obtain rfl : r = (S, 6) := by rw [← HR.out, lineS, HK.out]; simp only []; rw [if_pos (by rw [← HLen.out]; omega)]
          go_wp2
          go_ret
          exact ⟨rfl, KP.of_below H.out.sz HB1.out, fun e => by cases e⟩
        · have hltb : decide ((nw : Int) < 2) = false := by simpa using hlt
          have hgtb : decide ((2 : Int) < nw) = true := by simp; omega
          obtain rfl : r = (S, 6) := by rw [← HR.out, lineS, HK.out]; simp only []; rw [if_pos (by rw [← HLen.out]; omega)]
          go_wp2
          go_ret
          exact ⟨rfl, KP.of_below H.out.sz HB1.out, fun e => by cases e⟩
    · simp only [wordK, wordV] at hlk
      have hb1 := below_alloc HB0.out (.cells #[.int .i64 4, .int .i64 4, .bool true, .bool true, .func (.func 68) #[.pointer (some ⟨gp, 0, none⟩)] #[]] 119)
      have HB1 := Aside0.mk hb1
      have KL := Aside0.mk (blk_alloc (blk_new w (.cells #[.int .i64 n, .slice (some ⟨b, 0, none⟩) nw wc] 97)) (.cells #[.int .i64 4, .int .i64 4, .bool true, .bool true, .func (.func 68) #[.pointer (some ⟨gp, 0, none⟩)] #[]] 119))
      have KW := Aside0.mk (blk_new (w.alloc (.cells #[.int .i64 n, .slice (some ⟨b, 0, none⟩) nw wc] 97)) (.cells #[.int .i64 4, .int .i64 4, .bool true, .bool true, .func (.func 68) #[.pointer (some ⟨gp, 0, none⟩)] #[]] 119))
      have H1 := Aside0.mk (H.out.below hb1)
      have HW1 := Aside0.mk (Kd.R_below HW.out hb1)
      have HE1 := Aside0.mk (HEn.out.step (hb1.mono H.out.sz))
      clear hb1
      go_enter Tryd.func47, Tryd.ntmps47
      go_upto_block 0 with fail
      generalize hw1 : ((w.alloc (.cells #[.int .i64 n, .slice (some ⟨b, 0, none⟩) nw wc] 97)).alloc (.cells #[.int .i64 4, .int .i64 4, .bool true, .bool true, .func (.func 68) #[.pointer (some ⟨gp, 0, none⟩)] #[]] 119)) = w1 at HB1 KL KW H1 HW1 HE1 ⊢
      have hgx : (w.alloc (.cells #[.int .i64 n, .slice (some ⟨b, 0, none⟩) nw wc] 97)).heap.size = w.heap.size + 1 := by simp
      rw [hgx] at KW
      generalize w.heap.size + 1 = gx at KW ⊢
      generalize hgl : w.heap.size = gl at KL ⊢
      clear hw1 hgx hlk hz0 HB0
      have a1 : w1.cell? ⟨gl, 1, none⟩ = some (.slice (some ⟨b, 0, none⟩) nw wc) := blk_cell KL.out 1
      have a0 : w1.cell? ⟨gl, 0, none⟩ = some (.int .i64 n) := blk_cell KL.out 0
      have b0 : w1.cell? ⟨gx, 0, none⟩ = some (.int .i64 4) := blk_cell KW.out 0
      have b1 : w1.cell? ⟨gx, 1, none⟩ = some (.int .i64 4) := blk_cell KW.out 1
      have b2 : w1.cell? ⟨gx, 2, none⟩ = some (.bool true) := blk_cell KW.out 2
      have b3 : w1.cell? ⟨gx, 3, none⟩ = some (.bool true) := blk_cell KW.out 3
      have b4 : w1.cell? ⟨gx, 4, none⟩ = some (.func (.func 68) #[.pointer (some ⟨gp, 0, none⟩)] #[]) := blk_cell KW.out 4
      have p3 := H1.out.cells.2.2.2.1
      have p4 := H1.out.cells.2.2.2.2.1
      clear hgl
      by_cases h4 : nw = 4
      · subst h4
        cases hs : S.sized with
        | false =>
          rw [hs] at p4
          obtain rfl : r = (S, 11) := by rw [← HR.out, lineS, HK.out]; simp only []; rw [if_neg (by rw [← HLen.out]; simp), if_pos (.inl hs)]
          go_wp2
          go_ret
          exact ⟨rfl, KP.of_below H.out.sz HB1.out, fun e => by cases e⟩
        | true =>
          rw [hs] at p4
          have HS := Aside0.mk hs
          clear hs
          obtain ⟨A, c, e, -, -⟩ := Kd.S_reads H1.out.r
          subst e
          by_cases h0 : (S.rungs.length : Int) = 0
          · have h0b : ((S.rungs.length : Int) == 0) = true := by simpa using h0
            have H0 := Aside0.mk h0
            clear h0
            obtain rfl : r = (S, 11) := by rw [← HR.out, lineS, HK.out]; simp only []; rw [if_neg (by rw [← HLen.out]; simp), if_pos (.inr (by have := H0.out; omega))]
            go_wp2
            go_ret
            exact ⟨rfl, KP.of_below H.out.sz HB1.out, fun e => by cases e⟩
          · have h0b : ((S.rungs.length : Int) == 0) = false := by simpa using h0
            have hin : Aside0 (0 < S.rungs.length) := ⟨by omega⟩
            clear h0
            have HCall := Aside0.mk (con_p H1.out n b wc ws HW1.out HSz.out hin.out (fun r hr => (HC.out r hr).1) HE1.out)
            rw [show conS S ws = r by rw [← HR.out, lineS, HK.out]; simp only []; rw [if_neg (by rw [← HLen.out]; simp), if_neg (by rw [HS.out]; simp; have := hin.out; intro h; rw [h] at this; simp at this)]] at HCall
            go_wp2_with fail
            refine HCall.out.mono ?_
            rintro e w2 ⟨rfl, hk, hp⟩
            go_wp2
            go_ret
            exact ⟨rfl, (KP.of_below H.out.sz HB1.out).trans hk, hp⟩
      · by_cases hlt : (nw : Int) < 4
        · have hltb : decide ((nw : Int) < 4) = true := by simpa using hlt
          obtain rfl : r = (S, 6) := by rw [← HR.out, lineS, HK.out]; simp only []; rw [if_pos (by rw [← HLen.out]; omega)]
          go_wp2
          go_ret
          exact ⟨rfl, KP.of_below H.out.sz HB1.out, fun e => by cases e⟩
        · have hltb : decide ((nw : Int) < 4) = false := by simpa using hlt
          have hgtb : decide ((4 : Int) < nw) = true := by simp; omega
          obtain rfl : r = (S, 6) := by rw [← HR.out, lineS, HK.out]; simp only []; rw [if_pos (by rw [← HLen.out]; omega)]
          go_wp2
          go_ret
          exact ⟨rfl, KP.of_below H.out.sz HB1.out, fun e => by cases e⟩
    · simp only [wordK, wordV] at hlk
      have hb1 := below_alloc HB0.out (.cells #[.int .i64 2, .int .i64 2, .bool true, .bool true, .func (.func 69) #[.pointer (some ⟨gp, 0, none⟩)] #[]] 119)
      have HB1 := Aside0.mk hb1
      have KL := Aside0.mk (blk_alloc (blk_new w (.cells #[.int .i64 n, .slice (some ⟨b, 0, none⟩) nw wc] 97)) (.cells #[.int .i64 2, .int .i64 2, .bool true, .bool true, .func (.func 69) #[.pointer (some ⟨gp, 0, none⟩)] #[]] 119))
      have KW := Aside0.mk (blk_new (w.alloc (.cells #[.int .i64 n, .slice (some ⟨b, 0, none⟩) nw wc] 97)) (.cells #[.int .i64 2, .int .i64 2, .bool true, .bool true, .func (.func 69) #[.pointer (some ⟨gp, 0, none⟩)] #[]] 119))
      have H1 := Aside0.mk (H.out.below hb1)
      have HW1 := Aside0.mk (Kd.R_below HW.out hb1)
      have HE1 := Aside0.mk (HEn.out.step (hb1.mono H.out.sz))
      clear hb1
      go_enter Tryd.func47, Tryd.ntmps47
      go_upto_block 0 with fail
      generalize hw1 : ((w.alloc (.cells #[.int .i64 n, .slice (some ⟨b, 0, none⟩) nw wc] 97)).alloc (.cells #[.int .i64 2, .int .i64 2, .bool true, .bool true, .func (.func 69) #[.pointer (some ⟨gp, 0, none⟩)] #[]] 119)) = w1 at HB1 KL KW H1 HW1 HE1 ⊢
      have hgx : (w.alloc (.cells #[.int .i64 n, .slice (some ⟨b, 0, none⟩) nw wc] 97)).heap.size = w.heap.size + 1 := by simp
      rw [hgx] at KW
      generalize w.heap.size + 1 = gx at KW ⊢
      generalize hgl : w.heap.size = gl at KL ⊢
      clear hw1 hgx hlk hz0 HB0
      have a1 : w1.cell? ⟨gl, 1, none⟩ = some (.slice (some ⟨b, 0, none⟩) nw wc) := blk_cell KL.out 1
      have a0 : w1.cell? ⟨gl, 0, none⟩ = some (.int .i64 n) := blk_cell KL.out 0
      have b0 : w1.cell? ⟨gx, 0, none⟩ = some (.int .i64 2) := blk_cell KW.out 0
      have b1 : w1.cell? ⟨gx, 1, none⟩ = some (.int .i64 2) := blk_cell KW.out 1
      have b2 : w1.cell? ⟨gx, 2, none⟩ = some (.bool true) := blk_cell KW.out 2
      have b3 : w1.cell? ⟨gx, 3, none⟩ = some (.bool true) := blk_cell KW.out 3
      have b4 : w1.cell? ⟨gx, 4, none⟩ = some (.func (.func 69) #[.pointer (some ⟨gp, 0, none⟩)] #[]) := blk_cell KW.out 4
      have p3 := H1.out.cells.2.2.2.1
      have p4 := H1.out.cells.2.2.2.2.1
      clear hgl
      by_cases h4 : nw = 2
      · subst h4
        cases hs : S.sized with
        | false =>
          rw [hs] at p4
          obtain rfl : r = (S, 11) := by rw [← HR.out, lineS, HK.out]; simp only []; rw [if_neg (by rw [← HLen.out]; simp), if_pos (.inl hs)]
          go_wp2
          go_ret
          exact ⟨rfl, KP.of_below H.out.sz HB1.out, fun e => by cases e⟩
        | true =>
          rw [hs] at p4
          have HS := Aside0.mk hs
          clear hs
          obtain ⟨A, c, e, -, -⟩ := Kd.S_reads H1.out.r
          subst e
          by_cases h0 : (S.rungs.length : Int) = 0
          · have h0b : ((S.rungs.length : Int) == 0) = true := by simpa using h0
            have H0 := Aside0.mk h0
            clear h0
            obtain rfl : r = (S, 11) := by rw [← HR.out, lineS, HK.out]; simp only []; rw [if_neg (by rw [← HLen.out]; simp), if_pos (.inr (by have := H0.out; omega))]
            go_wp2
            go_ret
            exact ⟨rfl, KP.of_below H.out.sz HB1.out, fun e => by cases e⟩
          · have h0b : ((S.rungs.length : Int) == 0) = false := by simpa using h0
            have hin : Aside0 (0 < S.rungs.length) := ⟨by omega⟩
            clear h0
            have HCall := Aside0.mk (coil_p H1.out n b wc ws HW1.out HSz.out hin.out (fun r hr => (HC.out r hr).2) HE1.out)
            rw [show coilS S ws = r by rw [← HR.out, lineS, HK.out]; simp only []; rw [if_neg (by rw [← HLen.out]; simp), if_neg (by rw [HS.out]; simp; have := hin.out; intro h; rw [h] at this; simp at this)]] at HCall
            go_wp2_with fail
            refine HCall.out.mono ?_
            rintro e w2 ⟨rfl, hk, hp⟩
            go_wp2
            go_ret
            exact ⟨rfl, (KP.of_below H.out.sz HB1.out).trans hk, hp⟩
      · by_cases hlt : (nw : Int) < 2
        · have hltb : decide ((nw : Int) < 2) = true := by simpa using hlt
          obtain rfl : r = (S, 6) := by rw [← HR.out, lineS, HK.out]; simp only []; rw [if_pos (by rw [← HLen.out]; omega)]
          go_wp2
          go_ret
          exact ⟨rfl, KP.of_below H.out.sz HB1.out, fun e => by cases e⟩
        · have hltb : decide ((nw : Int) < 2) = false := by simpa using hlt
          have hgtb : decide ((2 : Int) < nw) = true := by simp; omega
          obtain rfl : r = (S, 6) := by rw [← HR.out, lineS, HK.out]; simp only []; rw [if_pos (by rw [← HLen.out]; omega)]
          go_wp2
          go_ret
          exact ⟨rfl, KP.of_below H.out.sz HB1.out, fun e => by cases e⟩
end Go.Proofs.YtolmkdhgnganaaaDoor.H
namespace Go.Proofs.YtolmkdhgnganaaaDoor.H
open Go Go.RowKit Go.Shelf Go.Proofs Go.Proofs.YtolmkdhgnganaaaDoorW.PrintWords Go.Proofs.YtolmkdhgnganaaaDoor.Sp
attribute [local go_sem] Oper.semAt_some
def cnts (s : ByteArray) : List (Int × ByteArray) := upN (cntAt s) (pieces s).length
/-- What Lines answers for a text that is not too long. -/
def LinesR (s : ByteArray) (w : World) (e : Ending) (w' : World) : Prop :=
  Below w.heap.size w w' ∧
    ((allPl (cnts s) ∧ ∃ A c, e = .returned (.tuple #[.slice A (lnsOf (cnts s)).length c, .int .i64 0, .int .i64 0]) ∧ kLine.R 97 w' w.heap.size (fun _ => True) (.slice A (lnsOf (cnts s)).length c) (lnsOf (cnts s))) ∨
     (∃ k, k < (pieces s).length ∧ allPl (upN (cntAt s) k) ∧ isPl (cntAt s k).2.data.toList = false ∧ e = .returned (.tuple #[.slice none 0 0, .int .i64 (k + 1), .int .i64 6])))
theorem upN_val (s : ByteArray) (hs : s.size ≤ 65536) (k : Nat) : (upN (cntX s hs) k).map (·.1) = upN (cntAt s) k := by
  simp [upN, Function.comp_def, cntX]
/-- Behind the loop: its block for deferred calls is taken down. -/
theorem R_put_obj {W : World} {B D : Nat} {v : Value} {xs : List Ln} (h : kLine.R 97 W B (fun _ => True) v xs) {o o' : Obj} (hK : W.heap[D]? = some o) (hc : o.isCells = false) : kLine.R 97 (W.putObj D o') B (fun _ => True) v xs := by
  refine Kd.R_mono (Kd.R_move (Kd.R_bound h) (fun k hk => (grownBy_putObj' W D o').block k hk.2.2.1 (fun e => ?_))) (fun _ _ => trivial)
  cases e
  obtain ⟨q, _, cells, hq⟩ := hk.2.2.2
  rw [hK] at hq
  cases hq
  cases hc
set_option maxRecDepth 100000 in
set_option maxHeartbeats 4000000 in
theorem lines_in (s : ByteArray) (w : World) (hs : s.size ≤ 65536) (hG : LexG w) : CallsIn Fence.wide 6 Tryd.prog 45 #[.string s] w (LinesR s w) := by
  have HG := Aside0.mk hG
  obtain ⟨m, hm⟩ := hG.mx
  have hmB := World.block_lt_of_cell? w _ hm
  have HM := Aside0.mk hm
  have hsz : ¬ (65536 : Int) < (s.size : Int) := by omega
  have h3 : 8 < w.heap.size := hmB
  clear hm hG hmB
  refine callsIn_of_wp_marks Tryd.func45 rfl trivial ?_ rfl
  simp only [Tryd.ntmps45, List.size_toArray, List.length_cons, List.length_nil, Nat.reduceAdd, Nat.reduceSub, Array.replicate_succ, Array.replicate_zero, List.push_toArray, List.append_toArray, List.nil_append, List.cons_append]
  gi_wp2
  refine ⟨trivial, ?_⟩
  refine (callsIn_wide.2 (counts_b s _)).mono ?_
  rintro e w' ⟨rfl, rfl⟩
  have HI0 : LnI w [] (((((w.alloc (.cells #[.slice none 0 0] 88)).alloc (.cells #[.int .i64 0] 3)).alloc (.cells #[.int .i64 0] 27)).alloc (.cells #[.slice none 0 0] 88)).alloc (.cells #[.string s] 9)) := by
    refine ⟨below_alloc (below_alloc (below_alloc (below_alloc (below_alloc (Below.refl _ _) _) _) _) _) _, blk_alloc (blk_alloc (blk_alloc (blk_alloc (blk_new _ _) _) _) _) _, ?_, ?_, ⟨.slice none 0 0, ?_, Kd.R_nil _ _ _ _ _⟩, fun p hp => by cases hp⟩
    · have := blk_new (w.alloc (.cells #[.slice none 0 0] 88)) (.cells #[.int .i64 0] 3)
      rw [World.size_alloc] at this
      exact blk_alloc (blk_alloc (blk_alloc this _) _) _
    · have := blk_new ((w.alloc (.cells #[.slice none 0 0] 88)).alloc (.cells #[.int .i64 0] 3)) (.cells #[.int .i64 0] 27)
      rw [World.size_alloc, World.size_alloc] at this
      exact blk_alloc (blk_alloc this _) _
    · have := blk_new (((w.alloc (.cells #[.slice none 0 0] 88)).alloc (.cells #[.int .i64 0] 3)).alloc (.cells #[.int .i64 0] 27)) (.cells #[.slice none 0 0] 88)
      rw [World.size_alloc, World.size_alloc, World.size_alloc] at this
      exact blk_alloc this _
  have hbx := blk_new ((((w.alloc (.cells #[.slice none 0 0] 88)).alloc (.cells #[.int .i64 0] 3)).alloc (.cells #[.int .i64 0] 27)).alloc (.cells #[.slice none 0 0] 88)) (.cells #[.string s] 9)
  gi_wp2
  generalize hW0 : ((((w.alloc (.cells #[.slice none 0 0] 88)).alloc (.cells #[.int .i64 0] 3)).alloc (.cells #[.int .i64 0] 27)).alloc (.cells #[.slice none 0 0] 88)).alloc (.cells #[.string s] 9) = W0 at HI0 hbx ⊢
  have hsW : W0.heap.size = w.heap.size + 5 := by rw [← hW0]; simp only [World.size_alloc]
  simp only [World.size_alloc] at hbx
  clear hW0
  have HM0 := pw_cell_below HI0.b HM.out
  refine wpIn_rangeFunc_ownF (w := W0) rfl (by decide) (gf := 79) (lb := #[.pointer (some ⟨w.heap.size + 1 + 1 + 1 + 1, 0, none⟩)]) rfl trivial (enters_of Tryd.func79 (by kernel_rfl) rfl)
    (counts_stops w.heap.size (w.heap.size + 1 + 1 + 1 + 1) 5 s m W0 (by omega) h3 hs HM0 hbx) Kr.trans (Kr.put (by omega)) (Below.refl _ _) (fun _ => rfl)
    (LnI w) (fun c pre W => c = .ret ∧ LnX w pre W)
    (fun s W W' row h hg hr => LnI.own w s W W' row h hg (fun r e => ⟨by have := (hr r e).1; omega, (hr r e).2⟩))
    (fun c s W W' row h hg hr => ⟨h.1, LnX.own w s W W' row h.2 hg (fun r e => ⟨by have := (hr r e).1; omega, (hr r e).2⟩)⟩)
    HI0
    (fun x => { tmps := #[.string s, undef, .pointer (some ⟨w.heap.size, 0, none⟩), .pointer (some ⟨w.heap.size + 1, 0, none⟩), .pointer (some ⟨w.heap.size + 1 + 1, 0, none⟩), .pointer (some ⟨w.heap.size + 1 + 1 + 1, 0, none⟩), .int .i64 x.1.1, .string x.1.2, undef, .string s, .int .i64 s.size, .bool false, .string s, .func (.func 79) #[] #[.pointer (some ⟨w.heap.size + 1 + 1 + 1 + 1, 0, none⟩)], .int .i64 x.1.1, .string x.1.2, undef, undef, undef, undef, undef, undef, undef, undef, undef, undef, undef, undef, undef, undef, undef, undef], defers := [] }) ?assign ?body ?done ?stop
  case assign =>
    intro l x W K hK
    gi_wp2
    exact hK
  case body =>
    rintro l pre ⟨⟨n, x⟩, hx⟩ W hI hlen
    dsimp only at hx ⊢
    have HI := Aside0.mk hI
    clear hI
    cases hpl : isPl x.data.toList with
    | false =>
      gi_wp2
      refine ⟨trivial, ?_⟩
      refine (CallsIn.inRound l (callsIn_wide.2 (plain_b x W))).mono ?_
      rintro e W2 ⟨rfl, hb⟩
      rw [hpl]
      have HI2 := Aside0.mk (HI.out.below hb)
      have HKo := Aside0.mk (keeps_of hb)
      clear hb
      have q2 : W2.cell? ⟨w.heap.size, 0, none⟩ = some (.slice none 0 0) := blk_cell HI2.out.r2 0
      have q3 : W2.cell? ⟨w.heap.size + 1, 0, none⟩ = some (.int .i64 0) := blk_cell HI2.out.r3 0
      have q4 : W2.cell? ⟨w.heap.size + 1 + 1, 0, none⟩ = some (.int .i64 0) := blk_cell HI2.out.r4 0
      have f2 : W2.frozen? ⟨w.heap.size, 0, none⟩ = false := blk_frozen HI2.out.r2 0
      have f3 : W2.frozen? ⟨w.heap.size + 1, 0, none⟩ = false := blk_frozen HI2.out.r3 0
      have f4 : W2.frozen? ⟨w.heap.size + 1 + 1, 0, none⟩ = false := blk_frozen HI2.out.r4 0
      gi_wp2
      exact ⟨((HKo.out.trans (KeepsOthers.setCell _ _ _)).trans (KeepsOthers.setCell _ _ _)).trans (KeepsOthers.setCell _ _ _), rfl, LnI.bad (x := ⟨(n, x), hx⟩) HI2.out hpl⟩
    | true =>
      gi_wp2
      refine ⟨trivial, ?_⟩
      refine (CallsIn.inRound l (callsIn_wide.2 (plain_b x W))).mono ?_
      rintro e W2 ⟨rfl, hb⟩
      rw [hpl]
      have HI2 := Aside0.mk (HI.out.below hb)
      have HB2 := Aside0.mk hb
      clear hb
      gi_wp2
      refine ⟨trivial, ?_⟩
      refine (CallsIn.inRound l (callsIn_wide.2 (fields_b x W2 hpl hx (HG.out.below HI2.out.b).tab))).mono ?_
      rintro e W3 ⟨rfl, rfl⟩
      have HI3 := Aside0.mk (HI2.out.below (below_alloc (Below.refl _ _) (.cells ((wordsOf x).map Value.string).toArray 9)))
      have HB3 := Aside0.mk (below_step HB2.out (below_alloc (Below.refl _ _) (.cells ((wordsOf x).map Value.string).toArray 9)))
      by_cases he : (wordsOf x).isEmpty = true
      · have h0 : wordsOf x = [] := by simpa using he
        have HE := Aside0.mk he
        clear he
        have FK := Aside0.mk (⟨keeps_of HB3.out, Kr.of_below HB3.out HI.out.b.size, HI3.out.skip (x := ⟨(n, x), hx⟩) HE.out hpl⟩ : KeepsOthers W _ ∧ Kr w.heap.size W _ ∧ LnI w (pre ++ [⟨(n, x), hx⟩]) _)
        have h01 : ((wordsOf x).length : Int) = 0 := by rw [h0]; rfl
        clear h0
        gi_wp2
        exact FK.out
      · have hp : (0 : Int) < ((wordsOf x).length : Int) := by
          have : (wordsOf x).length ≠ 0 := fun e => he (by simpa using e)
          omega
        have hwl : (wordsOf x).length ≤ 65536 := words_le hx
        obtain ⟨i0, hi, hzz⟩ := Option.map_eq_some_iff.1 infoLn
        simp only [Prod.mk.injEq] at hzz
        obtain ⟨hz0, hz1, hz2⟩ := hzz
        obtain ⟨v, hl2, hR2⟩ := HI2.out.l
        have hgv := Kd.R_lt hR2
        have hb34 : Below W2.heap.size W2 ((W2.alloc (.cells ((wordsOf x).map Value.string).toArray 9)).alloc (.cells #[.int .i64 n, .slice (some ⟨W2.heap.size, 0, none⟩) (wordsOf x).length (wordsOf x).length] 97)) := below_alloc (below_alloc (Below.refl _ _) _) _
        have h4 := Aside0.mk (HI2.out.below hb34)
        have hl4 := Aside0.mk (blk_below hl2 hb34)
        have hw4 := Aside0.mk (Kd.R_below (str_row W2 w.heap.size HI2.out.b.size (wordsOf x) (by omega)) (below_alloc (Below.refl _ _) (.cells #[.int .i64 n, .slice (some ⟨W2.heap.size, 0, none⟩) (wordsOf x).length (wordsOf x).length] 97)))
        obtain ⟨_, inner, ho, hr⟩ := Kd.R_below hR2 hb34
        have HR4 := Aside0.mk hr
        have ho2 : ((W2.alloc (.cells ((wordsOf x).map Value.string).toArray 9)).alloc (.cells #[.int .i64 n, .slice (some ⟨W2.heap.size, 0, none⟩) (wordsOf x).length (wordsOf x).length] 97)).ownsRow w.heap.size 97 2 v (lnsOf (pre.map (·.1))).length inner := ho
        clear ho
        have HGV := Aside0.mk hgv
        have HK4 := Aside0.mk (below_step HB2.out hb34)
        have q5 : (W2.alloc (.cells ((wordsOf x).map Value.string).toArray 9)).cell? ⟨w.heap.size + 1 + 1 + 1, 0, none⟩ = some v := blk_cell (blk_alloc hl2 _) 0
        have hnews := World.news_of_block (blk_new (W2.alloc (.cells ((wordsOf x).map Value.string).toArray 9)) (.cells #[.int .i64 n, .slice (some ⟨W2.heap.size, 0, none⟩) (wordsOf x).length (wordsOf x).length] 97))
        rw [World.size_alloc] at hnews
        have hcnt : (lnsOf (pre.map (·.1))).length ≤ 65537 := by
          have h1 := lnsOf_le (pre.map (·.1))
          rw [List.length_map] at h1
          have := pieces_le s hs
          omega
        clear hr hgv hl2 hR2
        gi_wp2_with (gi_at_builtin; refine wpListIn_append_own_at _ rfl _ _ 88 rfl w.heap.size 97 i0 (.agg #[.int .i64 0, .slice none 0 0]) 2 32 Tryd.underlying88 hi hz0 hz1 hz2 rfl (by decide) v _ inner rfl ho2 ⟨W2.heap.size + 1, 0, none⟩ 1 1 [.int .i64 n, .slice (some ⟨W2.heap.size, 0, none⟩) (wordsOf x).length (wordsOf x).length] rfl rfl hnews (by simp [Value.oneCell']) (by unfold maxLen; omega) (by omega) h4.out.b.size ?_; intro v1 W5 hown hg hnil hat; obtain ⟨g5, cap5, rfl⟩ := ownsRow_succ hown; obtain ⟨hl5, hLn, hKO, hKr⟩ := LnI.push (x := ⟨(n, x), hx⟩) h4.out hl4.out ho2 HR4.out hw4.out HGV.out he hpl hown hg hat; have q6 : W5.cell? ⟨w.heap.size + 1 + 1 + 1, 0, none⟩ = some v := blk_cell hl5 0; have f6 : W5.frozen? ⟨w.heap.size + 1 + 1 + 1, 0, none⟩ = false := blk_frozen hl5 0)
        exact ⟨(keeps_of HK4.out).trans hKO, (Kr.of_below HK4.out HI.out.b.size).trans hKr, hLn⟩
  case done =>
    rintro D ys W hD rfl hI hK
    have HI := Aside0.mk hI
    obtain ⟨v, hl0, hR⟩ := hI.l
    have q2 : W.cell? ⟨w.heap.size, 0, none⟩ = some (.slice none 0 0) := blk_cell hI.r2 0
    have q3 : W.cell? ⟨w.heap.size + 1, 0, none⟩ = some (.int .i64 0) := blk_cell hI.r3 0
    have q4 : W.cell? ⟨w.heap.size + 1 + 1, 0, none⟩ = some (.int .i64 0) := blk_cell hI.r4 0
    have q5 : W.cell? ⟨w.heap.size + 1 + 1 + 1, 0, none⟩ = some v := blk_cell hl0 0
    have f2 : W.frozen? ⟨w.heap.size, 0, none⟩ = false := blk_frozen hI.r2 0
    have f3 : W.frozen? ⟨w.heap.size + 1, 0, none⟩ = false := blk_frozen hI.r3 0
    have f4 : W.frozen? ⟨w.heap.size + 1 + 1, 0, none⟩ = false := blk_frozen hI.r4 0
    obtain ⟨A, c, rfl, -, -⟩ := Kd.R_reads hR
    have HR := Aside0.mk hR
    have HL0 := Aside0.mk hl0
    clear hI hR hl0
    rw [upN_val] at HR HL0 q5
    change Aside0 (kLine.R 97 W w.heap.size (fun _ => True) (.slice A (lnsOf (cnts s)).length c) (lnsOf (cnts s))) at HR
    change W.cell? _ = some (.slice A (lnsOf (cnts s)).length c) at q5
    gi_wp2
    clear q2 q3 q4 q5 f2 f3 f4
    have e2 := HI.out.r2
    have e3 := HI.out.r3
    have e4 := HI.out.r4
    have k2 : ∀ {X : World}, X.heap[w.heap.size]? = some (.cells #[.slice none 0 0] 88 (0, 0)) → (X.setCell ⟨w.heap.size, 0, none⟩ (.slice A (lnsOf (cnts s)).length c)).heap[w.heap.size]? = some (.cells #[.slice A (lnsOf (cnts s)).length c] 88 (0, 0)) := fun h => by
      have := blk_set h 0 (.slice A (lnsOf (cnts s)).length c)
      simpa using this
    have a2 := k2 e2
    have a3 := blk_far e3 (p := ⟨w.heap.size, 0, none⟩) (by show w.heap.size + 1 ≠ w.heap.size; omega) (.slice A (lnsOf (cnts s)).length c)
    have a4 := blk_far e4 (p := ⟨w.heap.size, 0, none⟩) (by show w.heap.size + 2 ≠ w.heap.size; omega) (.slice A (lnsOf (cnts s)).length c)
    have aR := Kd.R_set HR.out e2 types_ln 0 (.slice A (lnsOf (cnts s)).length c)
    have aK := (KeepsOthers.setCell W ⟨w.heap.size, 0, none⟩ (.slice A (lnsOf (cnts s)).length c)).same D _ hK rfl
    have aB : Below w.heap.size w (W.setCell ⟨w.heap.size, 0, none⟩ (.slice A (lnsOf (cnts s)).length c)) := below_set HI.out.b (by omega)
    generalize W.setCell ⟨w.heap.size, 0, none⟩ (.slice A (lnsOf (cnts s)).length c) = X at *
    have b2 := blk_far a2 (p := ⟨w.heap.size + 1, 0, none⟩) (by show w.heap.size ≠ w.heap.size + 1; omega) (.int .i64 0)
    have b3 : (X.setCell ⟨w.heap.size + 1, 0, none⟩ (.int .i64 0)).heap[w.heap.size + 1]? = some (.cells #[.int .i64 0] 3 (0, 0)) := by
      have := blk_set a3 0 (.int .i64 0)
      simpa using this
    have b4 := blk_far a4 (p := ⟨w.heap.size + 1, 0, none⟩) (by show w.heap.size + 2 ≠ w.heap.size + 1; omega) (.int .i64 0)
    have bR := Kd.R_set aR a3 (by decide) 0 (.int .i64 0)
    have bK := (KeepsOthers.setCell X ⟨w.heap.size + 1, 0, none⟩ (.int .i64 0)).same D _ aK rfl
    have bB : Below w.heap.size w (X.setCell ⟨w.heap.size + 1, 0, none⟩ (.int .i64 0)) := below_set aB (by omega)
    generalize X.setCell ⟨w.heap.size + 1, 0, none⟩ (.int .i64 0) = Y at *
    have c2 := blk_far b2 (p := ⟨w.heap.size + 1 + 1, 0, none⟩) (by show w.heap.size ≠ w.heap.size + 1 + 1; omega) (.int .i64 0)
    have c3 := blk_far b3 (p := ⟨w.heap.size + 1 + 1, 0, none⟩) (by show w.heap.size + 1 ≠ w.heap.size + 1 + 1; omega) (.int .i64 0)
    have c4 : (Y.setCell ⟨w.heap.size + 1 + 1, 0, none⟩ (.int .i64 0)).heap[w.heap.size + 1 + 1]? = some (.cells #[.int .i64 0] 27 (0, 0)) := by
      have := blk_set b4 0 (.int .i64 0)
      simpa using this
    have cR := Kd.R_set bR b4 (by decide) 0 (.int .i64 0)
    have cK := (KeepsOthers.setCell Y ⟨w.heap.size + 1 + 1, 0, none⟩ (.int .i64 0)).same D _ bK rfl
    have cB : Below w.heap.size w (Y.setCell ⟨w.heap.size + 1 + 1, 0, none⟩ (.int .i64 0)) := below_set bB (by omega)
    change (Y.setCell ⟨w.heap.size + 1 + 1, 0, none⟩ (.int .i64 0)).heap[D]? = some (.deferred (some [])) at cK
    generalize Y.setCell ⟨w.heap.size + 1 + 1, 0, none⟩ (.int .i64 0) = Z at *
    refine ⟨by simp, .inl ⟨_, _, rfl, run_takeDeferred cK, ?_⟩⟩
    have hr : ∀ r, some D = some r → ∃ o : Obj, Z.heap[r]? = some o ∧ o.isCells = false := fun r e => by cases e; exact ⟨_, cK, rfl⟩
    have d2 : (Z.putObj D (.deferred none)).cell? ⟨w.heap.size, 0, none⟩ = some (.slice A (lnsOf (cnts s)).length c) := blk_cell (blk_own c2 (grownBy_putObj' _ D (.deferred none)) hr) 0
    have d3 : (Z.putObj D (.deferred none)).cell? ⟨w.heap.size + 1, 0, none⟩ = some (.int .i64 0) := blk_cell (blk_own c3 (grownBy_putObj' _ D (.deferred none)) hr) 0
    have d4 : (Z.putObj D (.deferred none)).cell? ⟨w.heap.size + 1 + 1, 0, none⟩ = some (.int .i64 0) := blk_cell (blk_own c4 (grownBy_putObj' _ D (.deferred none)) hr) 0
    have hRz := R_put_obj cR (o' := .deferred none) cK rfl
    refine ⟨.tuple #[.slice A (lnsOf (cnts s)).length c, .int .i64 0, .int .i64 0], ?_, cB.grown (grownBy_putObj' _ D (.deferred none)) cB.size (fun k e => by cases e; omega), .inl ⟨?_, A, c, rfl, hRz⟩⟩
    · simp [results, Tryd.f45, go_sem, d2, d3, d4]
    · have := HI.out.ok
      rw [upN_val] at this
      exact this
  case stop =>
    rintro D c pre W hD ⟨k, hk, rfl⟩ ⟨rfl, hX⟩ hK
    gi_wp2
    refine ⟨by simp, .inl ⟨_, _, rfl, run_takeDeferred hK, ?_⟩⟩
    obtain ⟨ini, last, e, h1, h2, e3⟩ := hX.p
    obtain ⟨k', rfl⟩ : ∃ k', k = k' + 1 := by
      cases k with
      | zero => simp [upN] at e
      | succ k' => exact ⟨k', rfl⟩
    rw [upN_succ] at e
    obtain ⟨rfl, e5⟩ := List.append_inj' e rfl
    obtain rfl : cntX s hs k' = last := by simpa using e5
    have hr : ∀ r, some D = some r → ∃ o : Obj, W.heap[r]? = some o ∧ o.isCells = false := fun r e => by cases e; exact ⟨_, hK, rfl⟩
    have d2 : (W.putObj D (.deferred none)).cell? ⟨w.heap.size, 0, none⟩ = some (.slice none 0 0) := blk_cell (blk_own hX.r2 (grownBy_putObj' _ D (.deferred none)) hr) 0
    have d3 : (W.putObj D (.deferred none)).cell? ⟨w.heap.size + 1, 0, none⟩ = some (.int .i64 ((k' : Int) + 1)) := blk_cell (blk_own e3 (grownBy_putObj' _ D (.deferred none)) hr) 0
    have d4 : (W.putObj D (.deferred none)).cell? ⟨w.heap.size + 1 + 1, 0, none⟩ = some (.int .i64 6) := blk_cell (blk_own hX.r4 (grownBy_putObj' _ D (.deferred none)) hr) 0
    rw [upN_val] at h1
    refine ⟨.tuple #[.slice none 0 0, .int .i64 ((k' : Int) + 1), .int .i64 6], ?_, hX.b.grown (grownBy_putObj' _ D (.deferred none)) hX.b.size (fun k e => by cases e; omega), .inr ⟨k', by omega, h1, h2, rfl⟩⟩
    simp [results, Tryd.f45, go_sem, d2, d3, d4]
theorem lines_b (s : ByteArray) (w : World) (hs : s.size ≤ 65536) (hG : LexG w) : Calls Tryd.prog 45 #[.string s] w (LinesR s w) := callsIn_wide.1 (lines_in s w hs hG)
set_option maxRecDepth 100000 in
theorem lines_long (s : ByteArray) (w : World) (hs : 65536 < s.size) : Calls Tryd.prog 45 #[.string s] w (RetB w (.tuple #[.slice none 0 0, .int .i64 0, .int .i64 7])) := by
  have hsz : (65536 : Int) < (s.size : Int) := by omega
  go_enter Tryd.func45, Tryd.ntmps45
  go_wp2
  refine bodyPost_ret (v := .tuple #[.slice none 0 0, .int .i64 0, .int .i64 7]) ?_ rfl ⟨rfl, ?_⟩
  · simp [results, Tryd.f45, go_sem]
  · exact below_alloc (below_alloc (below_alloc (Below.refl _ _) _) _) _
end Go.Proofs.YtolmkdhgnganaaaDoor.H
namespace Go.Proofs.YtolmkdhgnganaaaDoor.H
open Go Go.RowKit Go.Proofs Go.Proofs.YtolmkdhgnganaaaDoorW.PrintWords Go.Proofs.YtolmkdhgnganaaaDoor.Sp
def S0 : PSt := ⟨0, 0, 0, false, [], [], []⟩
/-- The lines, one after the other: what is held behind the last one, or the line that is refused and why. -/
def runS : PSt → List Ln → PSt × Int × Int
  | S, [] => (S, 0, 0)
  | S, l :: r => if (lineS S l.n l.ws).2 = 0 then runS (lineS S l.n l.ws).1 r else (S, l.n, (lineS S l.n l.ws).2)
/-- The first of n that is so. -/
def firstN (p : Nat → Bool) (n : Nat) : Option Nat := (List.range n).find? p
theorem firstN_some {p : Nat → Bool} {n k : Nat} (hk : k < n) (h : p k = true) (hl : ∀ j, j < k → p j = false) : firstN p n = some k := by
  unfold firstN
  rw [List.find?_range_eq_some]
  exact ⟨h, by simpa using hk, fun j hj => by rw [hl j hj]; rfl⟩
theorem firstN_none {p : Nat → Bool} {n : Nat} (h : ∀ j, j < n → p j = false) : firstN p n = none := by
  unfold firstN
  rw [List.find?_eq_none]
  intro x hx
  rw [h x (by simpa using hx)]; simp
/-- The first line that holds a byte that is not permitted. -/
def badLine (s : ByteArray) : Option Nat := firstN (fun k => !isPl (cntAt s k).2.data.toList) (pieces s).length
/-- Behind the lines: the sizes, the jumps. -/
def endS (S : PSt) : PSt × Int × Int :=
  if S.sized = false then (S, 0, 5) else
  match firstN (fun k => jbAt S.rungs (k : Int)) S.rungs.length with
  | some k => (S, S.jumps.getD k 0, 15)
  | none => (S, 0, 0)
/-- What Parse answers: what is held, the line's number, the error's. -/
def parseP (s : ByteArray) : PSt × Int × Int :=
  if 65536 < s.size then (S0, 0, 7) else
  match badLine s with
  | some k => (S0, (k : Int) + 1, 6)
  | none => if (runS S0 (lnsOf (cnts s))).2.2 = 0 then endS (runS S0 (lnsOf (cnts s))).1 else runS S0 (lnsOf (cnts s))
theorem mem_set {α : Type} {l : List α} {k : Nat} {x y : α} (h : y ∈ l.set k x) : y ∈ l ∨ y = x := List.mem_or_eq_of_mem_set h
theorem lastR_mem {S : PSt} (h : 0 < S.rungs.length) : lastR S ∈ S.rungs := by
  have : lastR S = S.rungs[S.rungs.length - 1] := by
    have hl : S.rungs.length - 1 < S.rungs.length := by omega
    simp [lastR, PPrinterMatchesReference.rd_T40, List.getD, hl]
  rw [this]; exact List.getElem_mem _
theorem Caps.set {S T : PSt} {x : Rung} {k : Nat} (h : Caps S) (e : T.rungs = S.rungs.set k x) (h1 : x.f1.length ≤ 256) (h2 : x.f2.length ≤ 16) : Caps T := fun r hr => by
  rw [e] at hr
  rcases mem_set hr with hr | rfl
  · exact h r hr
  · exact ⟨h1, h2⟩
theorem Caps.line {S : PSt} (h : Caps S) (n : Int) (ws : List ByteArray) : Caps (lineS S n ws).1 := by
  unfold lineS
  split
  · exact h
  · split
    · exact h
    · unfold sizeS; (repeat' split) <;> exact h
  · split
    · exact h
    · split
      · exact h
      · unfold beginS beginT
        (repeat' split) <;> first | exact h | (intro r hr; rcases List.mem_append.1 hr with hr | hr; exact h r hr; obtain rfl := List.mem_singleton.1 hr; exact ⟨Nat.zero_le _, Nat.zero_le _⟩)
  · split
    · exact h
    · split
      · exact h
      · rename_i h0
        have hm := h _ (lastR_mem (S := S) (by omega))
        unfold jumpS
        (repeat' split) <;> first | exact h | exact h.set rfl hm.1 hm.2
  · split
    · exact h
    · split
      · exact h
      · rename_i h0
        have hm := h _ (lastR_mem (S := S) (by omega))
        unfold conS
        (repeat' split) <;> first | exact h | exact h.set rfl (by rw [List.length_append, List.length_singleton]; omega) hm.2
  · split
    · exact h
    · split
      · exact h
      · rename_i h0
        have hm := h _ (lastR_mem (S := S) (by omega))
        unfold coilS
        (repeat' split) <;> first | exact h | exact h.set rfl hm.1 (by rw [List.length_append, List.length_singleton]; omega)
theorem fieldsGo_le : ∀ (l cur : List UInt8), ∀ x ∈ Lib.fieldsGo cur l, x.length ≤ cur.length + l.length
  | [], cur, x, hx => by
    unfold Lib.fieldsGo at hx
    split at hx
    · cases hx
    · obtain rfl := List.mem_singleton.1 hx; simp
  | b :: l, cur, x, hx => by
    unfold Lib.fieldsGo at hx
    split at hx
    · split at hx
      · have := fieldsGo_le l [] x hx; simp at this ⊢; omega
      · rcases List.mem_cons.1 hx with rfl | hx
        · omega
        · have := fieldsGo_le l [] x hx; simp at this ⊢; omega
    · have := fieldsGo_le l (cur ++ [b]) x hx; simp at this ⊢; omega
theorem words_size {x y : ByteArray} (h : y ∈ wordsOf x) : y.size ≤ x.size := by
  unfold wordsOf at h
  obtain ⟨l, hl, rfl⟩ := List.mem_map.1 h
  have := fieldsGo_le _ [] l hl
  have e : x.data.toList.length = x.size := by rw [Array.length_toList]; rfl
  show l.toArray.size ≤ x.size
  simp only [List.length_nil, Nat.zero_add] at this
  rw [List.size_toArray, ← e]
  exact this
theorem lns_ok {s : ByteArray} (hs : s.size ≤ 65536) {x : Ln} (h : x ∈ lnsOf (cnts s)) : 0 < x.ws.length ∧ ∀ j, (x.ws.getD j ⟨#[]⟩).size ≤ 65536 := by
  unfold lnsOf at h
  obtain ⟨p, hp, hx⟩ := List.mem_filterMap.1 h
  unfold toLn at hx
  split at hx
  · cases hx
  · rename_i hne
    cases hx
    refine ⟨List.length_pos_iff.2 (fun e => hne (by have e : wordsOf p.2 = [] := e; rw [e]; rfl)), fun j => ?_⟩
    unfold cnts upN at hp
    obtain ⟨k, hk, rfl⟩ := List.mem_map.1 hp
    have hsz := Nat.le_trans (bare_size _) (piece_at_size hs k)
    by_cases hj : j < (wordsOf (cntAt s k).2).length
    · have := words_size (List.getElem_mem hj)
      rw [List.getD, List.getElem?_eq_getElem hj, Option.getD_some]
      exact Nat.le_trans this hsz
    · show (((wordsOf (cntAt s k).2)).getD j ⟨#[]⟩).size ≤ 65536
      rw [List.getD, List.getElem?_eq_none (by omega), Option.getD_none]
      exact Nat.zero_le _
end Go.Proofs.YtolmkdhgnganaaaDoor.H
namespace Go.Proofs.YtolmkdhgnganaaaDoor.H
open Go Go.RowKit Go.Proofs Go.Proofs.YtolmkdhgnganaaaDoorW.PrintWords Go.Proofs.YtolmkdhgnganaaaDoorW.PrintLast Go.Proofs.YtolmkdhgnganaaaDoorW.PrintMore Go.Proofs.YtolmkdhgnganaaaDoor.Sp
/-- A line in memory. -/
theorem lnRow_at {w : World} {B n c : Nat} {A : Option Addr} {l : List Ln} (h : kLine.R 97 w B (fun _ => True) (.slice A n c) l) (k : Int) (h0 : 0 ≤ k) (h1 : k < n) (hp : 0 < (l.getD k.toNat zLn).ws.length) :
    ∃ g b wc, A = some ⟨g, 0, none⟩ ∧ w.cell? ⟨g, k.toNat * 2, none⟩ = some (.int .i64 (l.getD k.toNat zLn).n) ∧ w.cell? ⟨g, k.toNat * 2 + 1, none⟩ = some (.slice (some ⟨b, 0, none⟩) (l.getD k.toNat zLn).ws.length wc) ∧
      Kd.string.R 9 w B (fun _ => True) (.slice (some ⟨b, 0, none⟩) (l.getD k.toNat zLn).ws.length wc) (l.getD k.toNat zLn).ws := by
  have hn : n = l.length := (Kd.R_reads' h).1
  subst hn
  obtain ⟨g, cap, e, -, -, -⟩ := Kd.R_form h (by omega)
  cases e
  obtain ⟨cs, _, hM, hcc0, _⟩ := Kd.R_elem h zLn k h0 h1
  have hcc : ∀ j u, cs[j]? = some u → w.cell? ⟨g, k.toNat * 2 + j, none⟩ = some u := hcc0
  obtain ⟨_, _, rfl, rfl, ⟨v, rfl, hR⟩⟩ := hM
  have hR' := Kd.R_mono hR (ok' := fun _ => True) (fun _ _ => trivial)
  obtain ⟨b, wc, rfl, -, -, -⟩ := Kd.R_form hR' hp
  exact ⟨g, b, wc, rfl, hcc 0 _ rfl, hcc 1 _ rfl, hR'⟩
/-- What Parse answers. -/
def ParseR (s : ByteArray) (w : World) (e : Ending) (w' : World) : Prop :=
  Below w.heap.size w w' ∧
    (((parseP s).2.2 ≠ 0 ∧ e = .returned (.tuple #[.agg #[.int .i64 0, .int .i64 0, .int .i64 0, .slice none 0 0], .slice none 0 0, .int .i64 (parseP s).2.1, .int .i64 (parseP s).2.2])) ∨
     ((parseP s).2.2 = 0 ∧ ∃ vr vl, e = .returned (.tuple #[.agg #[.int .i64 (parseP s).1.i, .int .i64 (parseP s).1.q, .int .i64 (parseP s).1.m, vr], vl, .int .i64 0, .int .i64 0]) ∧
        Kd.S kRung 40 w' w.heap.size (fun _ => True) vr (parseP s).1.rungs ∧ (Kd.int .i64).R 3 w' w.heap.size (fun _ => True) vl (parseP s).1.lines ∧ (parseP s).1.lines.length = (parseP s).1.rungs.length ∧ (parseP s).1.rungs.length ≤ 64 ∧ Caps (parseP s).1))
theorem ParseR.bad {s : ByteArray} {w w' : World} {S : PSt} {n x : Int} (h : parseP s = (S, n, x)) (hx : x ≠ 0) (hb : Below w.heap.size w w') : ParseR s w (.returned (.tuple #[.agg #[.int .i64 0, .int .i64 0, .int .i64 0, .slice none 0 0], .slice none 0 0, .int .i64 n, .int .i64 x])) w' :=
  ⟨hb, .inl (by rw [h]; exact ⟨hx, rfl⟩)⟩
/-- What holds while Parse runs. -/
structure PzF (w : World) (gp gm : Nat) (S : PSt) (lns : List Ln) (A : Option Addr) (c : Nat) (wr : World) : Prop where
  b : Below w.heap.size w wr
  p : ∃ vr vl vj, PF w.heap.size gp S vr vl vj wr
  m : MapIs wr gm (tabW gp)
  r : wr.heap[w.heap.size]? = some (.cells #[.int .i64 0, .int .i64 0, .int .i64 0, .slice none 0 0] 24 (0, 0))
  l : kLine.R 97 wr w.heap.size (fun _ => True) (.slice A lns.length c) lns
section
variable {w wr w1 : World} {gp gm : Nat} {S : PSt} {lns : List Ln} {A : Option Addr} {c : Nat}
theorem PzF.below (h : PzF w gp gm S lns A c wr) (hb : Below wr.heap.size wr w1) : PzF w gp gm S lns A c w1 := by
  obtain ⟨vr, vl, vj, hp⟩ := h.p
  exact ⟨below_step h.b hb, ⟨vr, vl, vj, hp.below hb⟩, h.m.below hb, blk_below h.r hb, Kd.R_below h.l hb⟩
theorem PzF.step (h : PzF w gp gm S lns A c wr) {T : PSt} (hk : KP w.heap.size wr w1) (hp : ∃ vr vl vj, PF w.heap.size gp T vr vl vj w1) : PzF w gp gm T lns A c w1 :=
  ⟨h.b.trans hk.b, hp, h.m.kp hk, hk.blk h.r (by rfl), hk.lines h.l⟩
end
/-- While the jumps are looked at. -/
structure PeF (w : World) (gp : Nat) (S : PSt) (A : Option Addr) (c : Nat) (vl vj : Value) (wr : World) : Prop where
  b : Below w.heap.size w wr
  p : PF w.heap.size gp S (.slice A S.rungs.length c) vl vj wr
  r : wr.heap[w.heap.size]? = some (.cells #[.int .i64 0, .int .i64 0, .int .i64 0, .slice none 0 0] 24 (0, 0))
theorem PeF.below {w wr w1 : World} {gp : Nat} {S : PSt} {A : Option Addr} {c : Nat} {vl vj : Value} (h : PeF w gp S A c vl vj wr) (hb : Below wr.heap.size wr w1) : PeF w gp S A c vl vj w1 :=
  ⟨below_step h.b hb, h.p.below hb, blk_below h.r hb⟩
theorem run_drop {S : PSt} {lns : List Ln} {k : Int} (h0 : 0 ≤ k) (h1 : k < lns.length) : runS S (lns.drop k.toNat) = if (lineS S (lns.getD k.toNat zLn).n (lns.getD k.toNat zLn).ws).2 = 0 then runS (lineS S (lns.getD k.toNat zLn).n (lns.getD k.toNat zLn).ws).1 (lns.drop (k + 1).toNat) else (S, (lns.getD k.toNat zLn).n, (lineS S (lns.getD k.toNat zLn).n (lns.getD k.toNat zLn).ws).2) := by
  have hk : k.toNat < lns.length := by omega
  have e1 : (k + 1).toNat = k.toNat + 1 := by omega
  have e2 : lns.getD k.toNat zLn = lns[k.toNat] := by simp [List.getD, hk]
  rw [List.drop_eq_getElem_cons hk, e1, e2]
  rfl
/-- The ladder at g is stored. -/
abbrev set4 (w : World) (g : Nat) (a b c d : Value) : World := (((w.setCell ⟨g, 0, none⟩ a).setCell ⟨g, 1, none⟩ b).setCell ⟨g, 2, none⟩ c).setCell ⟨g, 3, none⟩ d
theorem set4_far {w : World} {g h j : Nat} {a b c d v : Value} (hn : h ≠ g) (hc : w.cell? ⟨h, j, none⟩ = some v) : (set4 w g a b c d).cell? ⟨h, j, none⟩ = some v := by
  have e : ∀ (w : World) (k : Nat) (u : Value), (w.setCell ⟨g, k, none⟩ u).cell? ⟨h, j, none⟩ = w.cell? ⟨h, j, none⟩ := fun w k u => World.cell?_of_block (Below.heap_setCell w ⟨g, k, none⟩ u h hn)
  rw [e, e, e, e]; exact hc
theorem set4_blk {w : World} {g t : Nat} {a0 b0 c0 d0 a b c d : Value} (h : w.heap[g]? = some (.cells #[a0, b0, c0, d0] t (0, 0))) : (set4 w g a b c d).heap[g]? = some (.cells #[a, b, c, d] t (0, 0)) := by
  have := blk_set (blk_set (blk_set (blk_set h 0 a) 1 b) 2 c) 3 d
  simpa using this
theorem set4_S {w : World} {g B : Nat} {ok : Nat → Prop} {v : Value} {xs : List Rung} {a0 b0 c0 d0 a b c d : Value} (hb : w.heap[g]? = some (.cells #[a0, b0, c0, d0] 24 (0, 0))) (h : Kd.S kRung 40 w B ok v xs) : Kd.S kRung 40 (set4 w g a b c d) B ok v xs := by
  have b1 := blk_set hb 0 a
  have b2 := blk_set b1 1 b
  have b3 := blk_set b2 2 c
  exact Kd.S_set (Kd.S_set (Kd.S_set (Kd.S_set h hb types_lad 0 a) b1 types_lad 1 b) b2 types_lad 2 c) b3 types_lad 3 d
theorem set4_R {w : World} {g B : Nat} {ok : Nat → Prop} {v : Value} {xs : List Int} {a0 b0 c0 d0 a b c d : Value} (hb : w.heap[g]? = some (.cells #[a0, b0, c0, d0] 24 (0, 0))) (h : (Kd.int .i64).R 3 w B ok v xs) : (Kd.int .i64).R 3 (set4 w g a b c d) B ok v xs := by
  have b1 := blk_set hb 0 a
  have b2 := blk_set b1 1 b
  have b3 := blk_set b2 2 c
  exact Kd.R_set (Kd.R_set (Kd.R_set (Kd.R_set h hb (by decide) 0 a) b1 (by decide) 1 b) b2 (by decide) 2 c) b3 (by decide) 3 d
theorem set4_below {W w : World} {g : Nat} {a b c d : Value} (h : Below W.heap.size W w) (hg : W.heap.size ≤ g) : Below W.heap.size W (set4 w g a b c d) := below_set (below_set (below_set (below_set h hg) hg) hg) hg
set_option maxHeartbeats 4000000 in
set_option maxRecDepth 100000 in
theorem parse_b (s : ByteArray) (w : World) (hL : Lets w) (hE : Errs w) (hK : Kws w) (hG : LexG w) : Calls Tryd.prog 19 #[.string s] w (ParseR s w) := by
  have HEnv := Aside0.mk (Env.mk (B := w.heap.size) (w := w) (fun W hW => hL.below hW) (fun W hW => hE.below hW) (fun W hW => hK.below hW))
  have HK := Aside0.mk hK
  have HG := Aside0.mk hG
  clear hL hE hK hG
  generalize hV : parseP s = V
  have HV := Aside0.mk hV
  clear hV
  have HB0 := Aside0.mk (below_alloc (Below.refl w.heap.size w) (.cells #[.int .i64 0, .int .i64 0, .int .i64 0, .slice none 0 0] 24))
  have K0 := Aside0.mk (blk_new w (.cells #[.int .i64 0, .int .i64 0, .int .i64 0, .slice none 0 0] 24))
  go_enter Tryd.func19, Tryd.ntmps19
  go_wp2_with fail
  generalize w.alloc (.cells #[.int .i64 0, .int .i64 0, .int .i64 0, .slice none 0 0] 24) = w1 at HB0 K0 ⊢
  by_cases hs : 65536 < s.size
  · refine (lines_long s w1 hs).mono ?_
    rintro e w2 ⟨rfl, hb⟩
    have hp : parseP s = (S0, 0, 7) := by rw [parseP, if_pos hs]
    have HP := Aside0.mk hp
    have HB := Aside0.mk (below_step HB0.out hb)
    have k2 := blk_below K0.out hb
    have r0 := blk_cell k2 0
    have r1 := blk_cell k2 1
    have r2 := blk_cell k2 2
    have r3 := blk_cell k2 3
    have f0 := blk_frozen k2 0
    have f1 := blk_frozen k2 1
    have f2 := blk_frozen k2 2
    have f3 := blk_frozen k2 3
    have K2 := Aside0.mk k2
    clear hp hb k2
    go_wp2
    have KZ : Aside0 (((((w2.setCell ⟨w.heap.size, 0, none⟩ (.int .i64 0)).setCell ⟨w.heap.size, 1, none⟩ (.int .i64 0)).setCell ⟨w.heap.size, 2, none⟩ (.int .i64 0)).setCell ⟨w.heap.size, 3, none⟩ (.slice none 0 0)).heap[w.heap.size]? = some (.cells #[.int .i64 0, .int .i64 0, .int .i64 0, .slice none 0 0] 24 (0, 0))) := ⟨set4_blk (K2.out)⟩
    have FB : Aside0 (Below w.heap.size w (((((w2.setCell ⟨w.heap.size, 0, none⟩ (.int .i64 0)).setCell ⟨w.heap.size, 1, none⟩ (.int .i64 0)).setCell ⟨w.heap.size, 2, none⟩ (.int .i64 0)).setCell ⟨w.heap.size, 3, none⟩ (.slice none 0 0)))) := ⟨set4_below (HB.out) (Nat.le_refl _)⟩
    generalize ((((w2.setCell ⟨w.heap.size, 0, none⟩ (.int .i64 0)).setCell ⟨w.heap.size, 1, none⟩ (.int .i64 0)).setCell ⟨w.heap.size, 2, none⟩ (.int .i64 0)).setCell ⟨w.heap.size, 3, none⟩ (.slice none 0 0)) = wz at KZ FB ⊢
    have z0 : wz.cell? ⟨w.heap.size, 0, none⟩ = some (.int .i64 0) := blk_cell KZ.out 0
    have z1 : wz.cell? ⟨w.heap.size, 1, none⟩ = some (.int .i64 0) := blk_cell KZ.out 1
    have z2 : wz.cell? ⟨w.heap.size, 2, none⟩ = some (.int .i64 0) := blk_cell KZ.out 2
    have z3 : wz.cell? ⟨w.heap.size, 3, none⟩ = some (.slice none 0 0) := blk_cell KZ.out 3
    refine bodyPost_ret (v := .tuple #[.agg #[.int .i64 0, .int .i64 0, .int .i64 0, .slice none 0 0], .slice none 0 0, .int .i64 0, .int .i64 7]) ?_ rfl (ParseR.bad HP.out (by decide) FB.out)
    simp [results, Tryd.f19, go_sem, z0, z1, z2, z3]
  · have hs' : s.size ≤ 65536 := by omega
    have HPP : Aside0 (parseP s = match badLine s with
      | some k => (S0, (k : Int) + 1, 6)
      | none => if (runS S0 (lnsOf (cnts s))).2.2 = 0 then endS (runS S0 (lnsOf (cnts s))).1 else runS S0 (lnsOf (cnts s))) := ⟨by rw [parseP, if_neg hs] <;> rfl⟩
    clear hs HV V
    refine (lines_b s w1 hs' (HG.out.below HB0.out)).mono ?_
    rintro e w2 ⟨hb, hr⟩
    have HB := Aside0.mk (below_step HB0.out hb)
    have K2 := Aside0.mk (blk_below K0.out hb)
    have hbs := HB0.out.size
    clear hb
    rcases hr with ⟨hpl, A, c, rfl, hl⟩ | ⟨k, hk, hpl, hbad, rfl⟩
    · have hbl : badLine s = none := firstN_none (fun j hj => by
        have := hpl (cntAt s j) (by unfold cnts upN; exact List.mem_map.2 ⟨j, List.mem_range.2 hj, rfl⟩)
        rw [this]; rfl)
      rw [hbl] at HPP
      dsimp only at HPP
      have HLn := Aside0.mk (fun x (hx : x ∈ lnsOf (cnts s)) => lns_ok hs' hx)
      have HL := Aside0.mk (Kd.R_lower hl hbs)
      have hlen : (lnsOf (cnts s)).length ≤ 65537 := Nat.le_trans (lnsOf_le _) (by unfold cnts; rw [upN_length]; exact pieces_le s hs')
      clear hl hpl hbl hs' hbs
      generalize lnsOf (cnts s) = lns at HPP HLn HL hlen ⊢
      have HB3 := Aside0.mk (below_alloc HB.out (.cells #[.int .i64 0, .int .i64 0, .int .i64 0, .slice none 0 0, .bool false, .slice none 0 0, .slice none 0 0] 93))
      have K3 := Aside0.mk (blk_alloc K2.out (.cells #[.int .i64 0, .int .i64 0, .int .i64 0, .slice none 0 0, .bool false, .slice none 0 0, .slice none 0 0] 93))
      have KP3 := Aside0.mk (blk_new w2 (.cells #[.int .i64 0, .int .i64 0, .int .i64 0, .slice none 0 0, .bool false, .slice none 0 0, .slice none 0 0] 93))
      have HL3 := Aside0.mk (Kd.R_alloc HL.out (.cells #[.int .i64 0, .int .i64 0, .int .i64 0, .slice none 0 0, .bool false, .slice none 0 0, .slice none 0 0] 93))
      have hgp : w.heap.size ≤ w2.heap.size := HB.out.size
      clear HB K2 HL
      go_wp2_with fail
      generalize w2.alloc (.cells #[.int .i64 0, .int .i64 0, .int .i64 0, .slice none 0 0, .bool false, .slice none 0 0, .slice none 0 0] 93) = w3 at HB3 K3 KP3 HL3 ⊢
      generalize w2.heap.size = gp at KP3 hgp ⊢
      refine (words_p gp w3 (HEnv.out.k _ HB3.out)).mono ?_
      rintro e w4 ⟨gm, rfl, hT⟩
      have HF0 : Aside0 (PzF w gp gm S0 lns A c w4) := ⟨⟨HB3.out.trans (hT.b.mono HB3.out.size), ⟨.slice none 0 0, .slice none 0 0, .slice none 0 0, ⟨hgp, by have := HB3.out.size; have := hT.b.size; omega, blk_below KP3.out hT.b, Kd.S_nil _ _ _ _ _, Kd.R_nil _ _ _ _ _, Kd.R_nil _ _ _ _ _, (fun k e => by cases e), rfl, rfl, Nat.zero_le _⟩⟩, hT.m, blk_below K3.out hT.b, Kd.R_below HL3.out hT.b⟩⟩
      have hgm : w.heap.size < gm := by have := hT.g; have := blk_lt KP3.out; omega
      clear HB3 K3 KP3 HL3 hT
      clear w3
      go_wp2
      go_loopw [33] (fun cv w' => ∃ k : Int, cv = .int .i64 k ∧ 0 ≤ k ∧ k ≤ lns.length ∧ ∃ S, ∃ wr : World, wr = w' ∧ Aside0 (PzF w gp gm S lns A c wr) ∧ Aside0 (Caps S) ∧ Aside0 (runS S0 lns = runS S (lns.drop k.toNat))) (fun cv _ => ((lns.length : Int) - intOf cv).toNat)
      case atStart => exact ⟨0, rfl, by omega, by omega, S0, _, rfl, HF0, ⟨fun r hr => by cases hr⟩, ⟨rfl⟩⟩
      case round =>
        clear HF0
        obtain ⟨k, rfl, k0, k1, S, wr, rfl, HF, HC, HR⟩ := hrel
        by_cases hk : k < lns.length
        · have hkn : k.toNat < lns.length := by omega
          have hmem : lns.getD k.toNat zLn ∈ lns := by
            have : lns.getD k.toNat zLn = lns[k.toNat] := by simp [List.getD, hkn]
            rw [this]; exact List.getElem_mem hkn
          obtain ⟨hw0, hwsz⟩ := HLn.out _ hmem
          have HSz := Aside0.mk hwsz
          obtain ⟨g, b, wc, rfl, x0, x1, hws⟩ := lnRow_at HF.out.l k k0 (by omega) hw0
          have HR2 := Aside0.mk (HR.out.trans (run_drop (S := S) k0 hk))
          clear hmem hwsz HR
          generalize lns.getD k.toNat zLn = x at *
          obtain ⟨n, ws⟩ := x
          dsimp only at *
          have hwr : wrap64 (k + 1) = k + 1 := w64 (by omega) (by omega)
          have HF5 := Aside0.mk (HF.out.below (below_alloc (Below.refl _ _) (.cells #[.int .i64 n, .slice (some ⟨b, 0, none⟩) ws.length wc] 97)))
          have K5 := Aside0.mk (blk_new wr (.cells #[.int .i64 n, .slice (some ⟨b, 0, none⟩) ws.length wc] 97))
          have HW5 := Aside0.mk (Kd.R_alloc hws (.cells #[.int .i64 n, .slice (some ⟨b, 0, none⟩) ws.length wc] 97))
          have hg5 : w.heap.size < wr.heap.size := blk_lt HF.out.r
          have n0 := blk_cell K5.out 0
          have n1 := blk_cell K5.out 1
          clear hws
          go_wp2_with fail
          clear x0 x1 n0 n1 HF
          generalize wr.alloc (.cells #[.int .i64 n, .slice (some ⟨b, 0, none⟩) ws.length wc] 97) = w5 at HF5 K5 HW5 ⊢
          generalize wr.heap.size = gx at K5 hg5 ⊢
          clear wr
          obtain ⟨vr, vl, vj, hpf⟩ := HF5.out.p
          refine (line_p hpf HF5.out.m n b ws.length wc ws HW5.out HSz.out hw0 HC.out (HEnv.out.step HF5.out.b)).mono ?_
          clear hpf
          rintro e w6 ⟨rfl, hkp, hp6⟩
          have K6 := Aside0.mk (hkp.blk K5.out (by rfl))
          have HCl := Aside0.mk (HC.out.line n ws)
          generalize hq : lineS S n ws = q at HR2 HCl hp6 ⊢
          clear hq
          obtain ⟨T, x⟩ := q
          dsimp only at *
          by_cases hx : x = 0
          · subst hx
            have HF6 := Aside0.mk (HF5.out.step hkp (hp6 rfl))
            have HR6 := Aside0.mk (HR2.out.trans (if_pos rfl))
            clear HF5 K5 HW5 K6 hkp hp6 HR2
            go_wp2
            go_roundw
            case rel => exact ⟨k + 1, by simp [hwr], by omega, by omega, T, _, rfl, HF6, HCl, HR6⟩
            case measure => simp [intOf, hwr]; omega
          · have HB6 := Aside0.mk (HF5.out.b.trans hkp.b)
            have KL6 := Aside0.mk (hkp.blk HF5.out.r (by rfl))
            have hP := HPP.out
            rw [HR2.out, if_neg hx] at hP
            dsimp only at hP
            rw [if_neg hx] at hP
            have HP := Aside0.mk hP
            clear HF5 K5 HW5 hkp hp6 HR2 hP
            have hxb : (x == 0) = false := beq_eq_false_iff_ne.2 hx
            have u0 := blk_cell K6.out 0
            have hn0 : gx ≠ w.heap.size := by omega
            have r0 := blk_cell KL6.out 0
            have r1 := blk_cell KL6.out 1
            have r2 := blk_cell KL6.out 2
            have r3 := blk_cell KL6.out 3
            have f0 := blk_frozen KL6.out 0
            have f1 := blk_frozen KL6.out 1
            have f2 := blk_frozen KL6.out 2
            have f3 := blk_frozen KL6.out 3
            go_wp2
            refine start_ (n := 8) (S := fun w' => w'.cell? ⟨gx, 0, none⟩ = some (.int .i64 n)) (ds := []) #[false, false, false, false, false, false, false, false] (by kernel_rfl) rfl rfl (u0) (fun hHeld => ?_)
            refine pure_ (i := 0) (N := some 43) (v := ?_) (a' := ?_) #[true, false, false, false, false, false, false, false] rfl rfl (by kernel_rfl) (fun _ _ _ h => h) (Or.inl ⟨by rfl, ?_⟩) ?_ ?_
            rotate_left
            · intro w'
              go_simp
              with_reducible rfl
            rotate_left
            · simp only [Act.put, List.setIfInBounds_toArray, List.set_cons_zero, List.set_cons_succ, i64_w, i32_w]
              rfl
            refine pure_ (i := 1) (N := some 44) (v := ?_) (a' := ?_) #[true, true, false, false, false, false, false, false] rfl rfl (by kernel_rfl) (fun _ _ _ h => h) (Or.inl ⟨by rfl, ?_⟩) ?_ ?_
            rotate_left
            · intro w'
              go_simp
              with_reducible rfl
            rotate_left
            · simp only [Act.put, List.setIfInBounds_toArray, List.set_cons_zero, List.set_cons_succ, i64_w, i32_w]
              rfl
            refine pure_ (i := 3) (N := some 46) (v := ?_) (a' := ?_) #[true, true, false, true, false, false, false, false] rfl rfl (by kernel_rfl) (fun _ _ _ h => h) (Or.inl ⟨by rfl, ?_⟩) ?_ ?_
            rotate_left
            · intro w'
              go_simp
              with_reducible rfl
            rotate_left
            · simp only [Act.put, List.setIfInBounds_toArray, List.set_cons_zero, List.set_cons_succ, i64_w, i32_w]
              rfl
            refine take_ (i := 2) (N := some 45) (v := ?_) (a' := ?_) #[true, true, true, true, false, false, false, false] rfl rfl (by kernel_rfl) (fun _ _ _ h => h) (Or.inl ⟨by rfl, ?_⟩) hHeld ?_ ?_
            rotate_left
            · intro w' s0
              go_simp
              with_reducible rfl
            rotate_left
            · simp only [Act.put, List.setIfInBounds_toArray, List.set_cons_zero, List.set_cons_succ, i64_w, i32_w]
              rfl
            refine one_ (i := 4) (N := none) #[true, true, true, true, true, false, false, false] rfl rfl (by kernel_rfl) (by decide) (fun K hK => ?_)
            refine skip_ (w1 := ?_) (by rfl) rfl ?_ ?_
            rotate_left
            · go_simp
              rfl
            refine hK.out _ _ ((set4_far hn0 u0)) (fun hHeld => ?_)
            clear hK K
            refine pure_ (i := 5) (N := some 3) (v := ?_) (a' := ?_) #[true, true, true, true, true, true, false, false] rfl rfl (by kernel_rfl) (fun _ _ _ h => h) (Or.inl ⟨by rfl, ?_⟩) ?_ ?_
            rotate_left
            · intro w'
              go_simp
              with_reducible rfl
            rotate_left
            · simp only [Act.put, List.setIfInBounds_toArray, List.set_cons_zero, List.set_cons_succ, i64_w, i32_w]
              rfl
            refine pure_ (i := 6) (N := some 4) (v := ?_) (a' := ?_) #[true, true, true, true, true, true, true, false] rfl rfl (by kernel_rfl) (fun _ _ _ h => h) (Or.inl ⟨by rfl, ?_⟩) ?_ ?_
            rotate_left
            · intro w'
              go_simp
              with_reducible rfl
            rotate_left
            · simp only [Act.put, List.setIfInBounds_toArray, List.set_cons_zero, List.set_cons_succ, i64_w, i32_w]
              rfl
            refine pure_ (i := 7) (N := some 5) (v := ?_) (a' := ?_) #[true, true, true, true, true, true, true, true] rfl rfl (by kernel_rfl) (fun _ _ _ h => h) (Or.inl ⟨by rfl, ?_⟩) ?_ ?_
            rotate_left
            · intro w'
              go_simp
              with_reducible rfl
            rotate_left
            · simp only [Act.put, List.setIfInBounds_toArray, List.set_cons_zero, List.set_cons_succ, i64_w, i32_w]
              rfl
            refine done_ (by kernel_rfl) ?_
            clear u0 r0 r1 r2 r3 f0 f1 f2 f3
            have KZ := Aside0.mk (blk_drew (set4_blk (a := .int .i64 0) (b := .int .i64 0) (c := .int .i64 0) (d := .slice none 0 0) KL6.out))
            have FB := Aside0.mk (below_drew (set4_below (a := .int .i64 0) (b := .int .i64 0) (c := .int .i64 0) (d := .slice none 0 0) HB6.out (Nat.le_refl _)))
            generalize (set4 w6 w.heap.size (.int .i64 0) (.int .i64 0) (.int .i64 0) (.slice none 0 0)).drew = wz at KZ FB ⊢
            have z0 : wz.cell? ⟨w.heap.size, 0, none⟩ = some (.int .i64 0) := blk_cell KZ.out 0
            have z1 : wz.cell? ⟨w.heap.size, 1, none⟩ = some (.int .i64 0) := blk_cell KZ.out 1
            have z2 : wz.cell? ⟨w.heap.size, 2, none⟩ = some (.int .i64 0) := blk_cell KZ.out 2
            have z3 : wz.cell? ⟨w.heap.size, 3, none⟩ = some (.slice none 0 0) := blk_cell KZ.out 3
            go_wp2
            refine bodyPost_ret (v := .tuple #[.agg #[.int .i64 0, .int .i64 0, .int .i64 0, .slice none 0 0], .slice none 0 0, .int .i64 n, .int .i64 x]) ?_ rfl (ParseR.bad HP.out hx FB.out)
            simp [results, Tryd.f19, go_sem, z0, z1, z2, z3]
        · obtain rfl : k = lns.length := by omega
          have HE0 : Aside0 (runS S0 lns = (S, 0, 0)) := ⟨by rw [HR.out, Int.toNat_natCast, List.drop_length]; rfl⟩
          have HPE : Aside0 (parseP s = endS S) := ⟨by rw [HPP.out, HE0.out]; rfl⟩
          clear HR HE0 HPP
          obtain ⟨vr, vl, vj, hpf⟩ := HF.out.p
          obtain ⟨Al, cl, rfl, -, -⟩ := Kd.R_reads hpf.l
          obtain ⟨Aj, cj, rfl, -, -⟩ := Kd.R_reads hpf.j
          have HPF := Aside0.mk hpf
          have KL := Aside0.mk HF.out.r
          have HB := Aside0.mk HF.out.b
          obtain ⟨Ar, cr, rfl, hcr, hCr⟩ := Kd.S_reads hpf.r
          have p3 := hpf.cells.2.2.2.1
          have p4 := hpf.cells.2.2.2.2.1
          have p6 := hpf.cells.2.2.2.2.2.2
          have h64 := hpf.n64
          clear hpf HF
          cases hsz : S.sized with
          | false =>
            rw [hsz] at p4
            have hP : parseP s = (S, 0, 5) := by rw [HPE.out, endS, if_pos hsz]
            have HP := Aside0.mk hP
            have r0 := blk_cell KL.out 0
            have r1 := blk_cell KL.out 1
            have r2 := blk_cell KL.out 2
            have r3 := blk_cell KL.out 3
            have f0 := blk_frozen KL.out 0
            have f1 := blk_frozen KL.out 1
            have f2 := blk_frozen KL.out 2
            have f3 := blk_frozen KL.out 3
            clear hP p3 p6 hCr
            go_wp2
            clear r0 r1 r2 r3 f0 f1 f2 f3 p4
            have KZ : Aside0 (((((wr.setCell ⟨w.heap.size, 0, none⟩ (.int .i64 0)).setCell ⟨w.heap.size, 1, none⟩ (.int .i64 0)).setCell ⟨w.heap.size, 2, none⟩ (.int .i64 0)).setCell ⟨w.heap.size, 3, none⟩ (.slice none 0 0)).heap[w.heap.size]? = some (.cells #[.int .i64 0, .int .i64 0, .int .i64 0, .slice none 0 0] 24 (0, 0))) := ⟨set4_blk KL.out⟩
            have FB : Aside0 (Below w.heap.size w ((((wr.setCell ⟨w.heap.size, 0, none⟩ (.int .i64 0)).setCell ⟨w.heap.size, 1, none⟩ (.int .i64 0)).setCell ⟨w.heap.size, 2, none⟩ (.int .i64 0)).setCell ⟨w.heap.size, 3, none⟩ (.slice none 0 0))) := ⟨set4_below HB.out (Nat.le_refl _)⟩
            generalize ((((wr.setCell ⟨w.heap.size, 0, none⟩ (.int .i64 0)).setCell ⟨w.heap.size, 1, none⟩ (.int .i64 0)).setCell ⟨w.heap.size, 2, none⟩ (.int .i64 0)).setCell ⟨w.heap.size, 3, none⟩ (.slice none 0 0)) = wz at KZ FB ⊢
            have z0 : wz.cell? ⟨w.heap.size, 0, none⟩ = some (.int .i64 0) := blk_cell KZ.out 0
            have z1 : wz.cell? ⟨w.heap.size, 1, none⟩ = some (.int .i64 0) := blk_cell KZ.out 1
            have z2 : wz.cell? ⟨w.heap.size, 2, none⟩ = some (.int .i64 0) := blk_cell KZ.out 2
            have z3 : wz.cell? ⟨w.heap.size, 3, none⟩ = some (.slice none 0 0) := blk_cell KZ.out 3
            refine bodyPost_ret (v := .tuple #[.agg #[.int .i64 0, .int .i64 0, .int .i64 0, .slice none 0 0], .slice none 0 0, .int .i64 0, .int .i64 5]) ?_ rfl (ParseR.bad HP.out (by decide) FB.out)
            simp [results, Tryd.f19, go_sem, z0, z1, z2, z3]
          | true =>
            rw [hsz] at p4
            have HSz := Aside0.mk hsz
            go_wp2
            go_loopw [60] (fun cv w' => ∃ k : Int, cv = .int .i64 k ∧ 0 ≤ k ∧ k ≤ S.rungs.length ∧ ∃ wx : World, wx = w' ∧ Aside0 (PeF w gp S Ar cr (.slice Al S.lines.length cl) (.slice Aj S.jumps.length cj) wx) ∧ Aside0 (∀ j : Nat, (j : Int) < k → jbAt S.rungs (j : Int) = false)) (fun cv _ => ((S.rungs.length : Int) - intOf cv).toNat)
            case atStart => exact ⟨0, rfl, by omega, by omega, _, rfl, ⟨⟨HB.out, HPF.out, KL.out⟩⟩, ⟨fun j hj => by omega⟩⟩
            case round =>
              clear HB HPF KL hCr p3 p4 p6
              obtain ⟨k, rfl, k0, k1, wx, rfl, HF, HJ⟩ := hrel
              have hCr := (Kd.S_reads' HF.out.p.r).2.2
              by_cases hk : k < S.rungs.length
              · obtain ⟨ad, A1, c1, A2, c2, rfl, x0, x1, x2, x3, hl1, hi1, hl2, hi2⟩ := PPrinterMatchesReference.at_T40 hCr k k0 hk
                clear hl1 hi1 hl2 hi2
                change wx.cell? _ = some (.string (rdR S.rungs k).f0) at x0
                change wx.cell? _ = some (.slice A1 (rdR S.rungs k).f1.length c1) at x1
                change wx.cell? _ = some (.slice A2 (rdR S.rungs k).f2.length c2) at x2
                change wx.cell? _ = some (.string (rdR S.rungs k).f3) at x3
                have hwr : wrap64 (k + 1) = k + 1 := w64 (by omega) (by omega)
                have hjb : jbAt S.rungs k = (!(rdR S.rungs k).f3.toList.isEmpty && !hasLab (S.rungs.drop (k + 1).toNat) (rdR S.rungs k).f3) := rfl
                have HStep : Aside0 (jbAt S.rungs k = false → ∀ j : Nat, (j : Int) < k + 1 → jbAt S.rungs (j : Int) = false) := ⟨fun h j hj => by
                  by_cases hj2 : (j : Int) < k
                  · exact HJ.out j hj2
                  · obtain rfl : (j : Int) = k := by omega
                    exact h⟩
                by_cases j0 : (rdR S.rungs k).f3.toList = []
                · have j1 : (rdR S.rungs k).f3.toList.isEmpty = true := by rw [j0]; rfl
                  have HJ2 := Aside0.mk (HStep.out (by rw [hjb, j1]; rfl))
                  have HF1 := fun o => Aside0.mk (HF.out.below (below_alloc (Below.refl _ _) o))
                  clear hjb HStep hCr
                  go_wp2
                  go_roundw
                  case rel => exact ⟨k + 1, by simp [hwr], by omega, by omega, _, rfl, HF1 _, HJ2⟩
                  case measure => simp [intOf, hwr]; omega
                · have j1 : (rdR S.rungs k).f3.toList.isEmpty = false := by simpa using j0
                  obtain ⟨A', hsl, hct, hcl⟩ := rungs_from hCr hcr (show (0 : Int) ≤ k + 1 by omega) (by omega : k + 1 ≤ S.rungs.length)
                  have HHas := fun W (hW : Below wx.heap.size wx W) (g2 : Nat) (h : W.cell? ⟨g2, 3, none⟩ = some (.string (rdR S.rungs k).f3)) => has_d A' (cr - (k + 1).toNat) (S.rungs.drop (k + 1).toNat) (rdR S.rungs k).f3 g2 W (Kd.C_below hct hW) hcl h
                  simp only [List.length_drop] at HHas hsl
                  have p3 := HF.out.p.cells.2.2.2.1
                  have ltg : gp < wx.heap.size := blk_lt HF.out.p.p
                  generalize hasLab (S.rungs.drop (k + 1).toNat) (rdR S.rungs k).f3 = hl at HHas hjb
                  have HH := Aside0.mk HHas
                  have HJB := Aside0.mk hjb
                  have HF1 := Aside0.mk (HF.out.below (below_alloc (Below.refl _ _) (.cells #[.string (rdR S.rungs k).f0, .slice A1 (rdR S.rungs k).f1.length c1, .slice A2 (rdR S.rungs k).f2.length c2, .string (rdR S.rungs k).f3] 40)))
                  have n3 := Aside0.mk (blk_cell (blk_new wx (.cells #[.string (rdR S.rungs k).f0, .slice A1 (rdR S.rungs k).f1.length c1, .slice A2 (rdR S.rungs k).f2.length c2, .string (rdR S.rungs k).f3] 40)) 3)
                  clear hct hcl HHas hjb hCr
                  go_wp2_with fail
                  refine (HH.out _ (below_alloc (Below.refl _ _) _) _ n3.out).mono ?_
                  rintro e1 w3 ⟨rfl, hb⟩
                  have HF3 := Aside0.mk (HF1.out.below hb)
                  clear HH HF1 n3 hb HF
                  cases hl with
                  | true =>
                    have HJ2 := Aside0.mk (HStep.out (by rw [HJB.out, j1]; rfl))
                    go_wp2
                    go_roundw
                    case rel => exact ⟨k + 1, by simp [hwr], by omega, by omega, _, rfl, HF3, HJ2⟩
                    case measure => simp [intOf, hwr]; omega
                  | false =>
                    have hN : parseP s = (S, S.jumps.getD k.toNat 0, 15) := by
                      rw [HPE.out, endS, if_neg (by rw [HSz.out]; simp), firstN_some (k := k.toNat) (by omega) (by rw [show ((k.toNat : Nat) : Int) = k by omega, HJB.out, j1]; rfl) (fun j hj => HJ.out j (by omega))]
                    have HN := Aside0.mk hN
                    have hjl := HF3.out.p.nj
                    obtain ⟨gj, cj', ej, -, -, -⟩ := Kd.R_form HF3.out.p.j (by omega)
                    cases ej
                    obtain ⟨cb, htj⟩ := Kd.R_typed HF3.out.p.j gj rfl
                    have hn0 : gp ≠ w.heap.size := fun e => by have h1 := HF3.out.p.p; have h2 := HF3.out.r; rw [e, h2] at h1; simp at h1
                    have hn1 : gj ≠ w.heap.size := fun e => by have h2 := HF3.out.r; rw [e, h2] at htj; cases htj
                    have u0 := HF3.out.p.cells.2.2.2.2.2.2
                    have u1 : w3.cell? ⟨gj, k.toNat, none⟩ = some (.int .i64 (S.jumps.getD k.toNat 0)) := by
                      obtain ⟨ad, e, hc⟩ := Kd.at_int (Kd.R_reads' HF3.out.p.j).2.2 k (by omega) (by omega)
                      cases e
                      have ea : (⟨gj, 0, none⟩ : Addr).add k.toNat = ⟨gj, k.toNat, none⟩ := by unfold Addr.add; split <;> simp_all
                      rw [ea] at hc
                      exact hc
                    have KL := Aside0.mk HF3.out.r
                    have HB := Aside0.mk HF3.out.b
                    have r0 := blk_cell KL.out 0
                    have r1 := blk_cell KL.out 1
                    have r2 := blk_cell KL.out 2
                    have r3 := blk_cell KL.out 3
                    have f0 := blk_frozen KL.out 0
                    have f1 := blk_frozen KL.out 1
                    have f2 := blk_frozen KL.out 2
                    have f3 := blk_frozen KL.out 3
                    have hjk : k < (S.jumps.length : Int) := by omega
                    clear hN htj hjl x0 x1 x2 x3 p3 HF3 hsl ltg
                    generalize S.jumps.getD k.toNat 0 = y at u1 HN
                    go_wp2
                    refine start_ (n := 12) (S := fun w' => w'.cell? ⟨gp, 6, none⟩ = some (.slice (some ⟨gj, 0, none⟩) S.jumps.length cj) ∧ w'.cell? ⟨gj, k.toNat, none⟩ = some (.int .i64 y)) (ds := []) #[false, false, false, false, false, false, false, false, false, false, false, false] (by kernel_rfl) rfl rfl ⟨u0, u1⟩ (fun hHeld => ?_)
                    refine pure_ (i := 0) (N := some 81) (v := ?_) (a' := ?_) #[true, false, false, false, false, false, false, false, false, false, false, false] rfl rfl (by kernel_rfl) (fun _ _ _ h => h) (Or.inl ⟨by rfl, ?_⟩) ?_ ?_
                    rotate_left
                    · intro w'
                      go_simp
                      with_reducible rfl
                    rotate_left
                    · simp only [Act.put, List.setIfInBounds_toArray, List.set_cons_zero, List.set_cons_succ, i64_w, i32_w]
                      rfl
                    refine pure_ (i := 1) (N := some 82) (v := ?_) (a' := ?_) #[true, true, false, false, false, false, false, false, false, false, false, false] rfl rfl (by kernel_rfl) (fun _ _ _ h => h) (Or.inl ⟨by rfl, ?_⟩) ?_ ?_
                    rotate_left
                    · intro w'
                      go_simp
                      with_reducible rfl
                    rotate_left
                    · simp only [Act.put, List.setIfInBounds_toArray, List.set_cons_zero, List.set_cons_succ, i64_w, i32_w]
                      rfl
                    refine pure_ (i := 2) (N := some 83) (v := ?_) (a' := ?_) #[true, true, true, false, false, false, false, false, false, false, false, false] rfl rfl (by kernel_rfl) (fun _ _ _ h => h) (Or.inl ⟨by rfl, ?_⟩) ?_ ?_
                    rotate_left
                    · intro w'
                      go_simp
                      with_reducible rfl
                    rotate_left
                    · simp only [Act.put, List.setIfInBounds_toArray, List.set_cons_zero, List.set_cons_succ, i64_w, i32_w]
                      rfl
                    refine pure_ (i := 3) (N := some 84) (v := ?_) (a' := ?_) #[true, true, true, true, false, false, false, false, false, false, false, false] rfl rfl (by kernel_rfl) (fun _ _ _ h => h) (Or.inl ⟨by rfl, ?_⟩) ?_ ?_
                    rotate_left
                    · intro w'
                      go_simp
                      with_reducible rfl
                    rotate_left
                    · simp only [Act.put, List.setIfInBounds_toArray, List.set_cons_zero, List.set_cons_succ, i64_w, i32_w]
                      rfl
                    refine pure_ (i := 5) (N := some 86) (v := ?_) (a' := ?_) #[true, true, true, true, false, true, false, false, false, false, false, false] rfl rfl (by kernel_rfl) (fun _ _ _ h => h) (Or.inl ⟨by rfl, ?_⟩) ?_ ?_
                    rotate_left
                    · intro w'
                      go_simp
                      with_reducible rfl
                    rotate_left
                    · simp only [Act.put, List.setIfInBounds_toArray, List.set_cons_zero, List.set_cons_succ, i64_w, i32_w]
                      rfl
                    refine take_ (i := 4) (N := some 85) (v := ?_) (a' := ?_) #[true, true, true, true, true, true, false, false, false, false, false, false] rfl rfl (by kernel_rfl) (fun _ _ _ h => h) (Or.inl ⟨by rfl, ?_⟩) hHeld ?_ ?_
                    rotate_left
                    · rintro w' ⟨s0, s1⟩
                      go_simp
                      with_reducible rfl
                    rotate_left
                    · simp only [Act.put, List.setIfInBounds_toArray, List.set_cons_zero, List.set_cons_succ, i64_w, i32_w]
                      rfl
                    refine pure_ (i := 6) (N := some 87) (v := ?_) (a' := ?_) #[true, true, true, true, true, true, true, false, false, false, false, false] rfl rfl (by kernel_rfl) (fun _ _ _ h => h) (Or.inl ⟨by rfl, ?_⟩) ?_ ?_
                    rotate_left
                    · intro w'
                      go_simp
                      with_reducible rfl
                    rotate_left
                    · simp only [Act.put, List.setIfInBounds_toArray, List.set_cons_zero, List.set_cons_succ, i64_w, i32_w]
                      rfl
                    refine take_ (i := 7) (N := some 88) (v := ?_) (a' := ?_) #[true, true, true, true, true, true, true, true, false, false, false, false] rfl rfl (by kernel_rfl) (fun _ _ _ h => h) (Or.inl ⟨by rfl, ?_⟩) hHeld ?_ ?_
                    rotate_left
                    · rintro w' ⟨s0, s1⟩
                      go_simp
                      with_reducible rfl
                    rotate_left
                    · simp only [Act.put, List.setIfInBounds_toArray, List.set_cons_zero, List.set_cons_succ, i64_w, i32_w]
                      rfl
                    refine one_ (i := 8) (N := none) #[true, true, true, true, true, true, true, true, true, false, false, false] rfl rfl (by kernel_rfl) (by decide) (fun K hK => ?_)
                    refine skip_ (w1 := ?_) (by rfl) rfl ?_ ?_
                    rotate_left
                    · go_simp
                      rfl
                    refine hK.out _ _ ⟨(set4_far hn0 u0), (set4_far hn1 u1)⟩ (fun hHeld => ?_)
                    clear hK K
                    refine pure_ (i := 9) (N := some 3) (v := ?_) (a' := ?_) #[true, true, true, true, true, true, true, true, true, true, false, false] rfl rfl (by kernel_rfl) (fun _ _ _ h => h) (Or.inl ⟨by rfl, ?_⟩) ?_ ?_
                    rotate_left
                    · intro w'
                      go_simp
                      with_reducible rfl
                    rotate_left
                    · simp only [Act.put, List.setIfInBounds_toArray, List.set_cons_zero, List.set_cons_succ, i64_w, i32_w]
                      rfl
                    refine pure_ (i := 10) (N := some 4) (v := ?_) (a' := ?_) #[true, true, true, true, true, true, true, true, true, true, true, false] rfl rfl (by kernel_rfl) (fun _ _ _ h => h) (Or.inl ⟨by rfl, ?_⟩) ?_ ?_
                    rotate_left
                    · intro w'
                      go_simp
                      with_reducible rfl
                    rotate_left
                    · simp only [Act.put, List.setIfInBounds_toArray, List.set_cons_zero, List.set_cons_succ, i64_w, i32_w]
                      rfl
                    refine pure_ (i := 11) (N := some 5) (v := ?_) (a' := ?_) #[true, true, true, true, true, true, true, true, true, true, true, true] rfl rfl (by kernel_rfl) (fun _ _ _ h => h) (Or.inl ⟨by rfl, ?_⟩) ?_ ?_
                    rotate_left
                    · intro w'
                      go_simp
                      with_reducible rfl
                    rotate_left
                    · simp only [Act.put, List.setIfInBounds_toArray, List.set_cons_zero, List.set_cons_succ, i64_w, i32_w]
                      rfl
                    refine done_ (by kernel_rfl) ?_
                    clear u0 u1 r0 r1 r2 r3 f0 f1 f2 f3
                    have KZ := Aside0.mk (blk_drew (set4_blk (a := .int .i64 0) (b := .int .i64 0) (c := .int .i64 0) (d := .slice none 0 0) KL.out))
                    have FB := Aside0.mk (below_drew (set4_below (a := .int .i64 0) (b := .int .i64 0) (c := .int .i64 0) (d := .slice none 0 0) HB.out (Nat.le_refl _)))
                    generalize (set4 w3 w.heap.size (.int .i64 0) (.int .i64 0) (.int .i64 0) (.slice none 0 0)).drew = wz at KZ FB ⊢
                    have z0 : wz.cell? ⟨w.heap.size, 0, none⟩ = some (.int .i64 0) := blk_cell KZ.out 0
                    have z1 : wz.cell? ⟨w.heap.size, 1, none⟩ = some (.int .i64 0) := blk_cell KZ.out 1
                    have z2 : wz.cell? ⟨w.heap.size, 2, none⟩ = some (.int .i64 0) := blk_cell KZ.out 2
                    have z3 : wz.cell? ⟨w.heap.size, 3, none⟩ = some (.slice none 0 0) := blk_cell KZ.out 3
                    go_wp2
                    refine bodyPost_ret (v := .tuple #[.agg #[.int .i64 0, .int .i64 0, .int .i64 0, .slice none 0 0], .slice none 0 0, .int .i64 y, .int .i64 15]) ?_ rfl (ParseR.bad HN.out (by decide) FB.out)
                    simp [results, Tryd.f19, go_sem, z0, z1, z2, z3]
              · obtain rfl : k = S.rungs.length := by omega
                have hN : parseP s = (S, 0, 0) := by
                  rw [HPE.out, endS, if_neg (by rw [HSz.out]; simp), firstN_none (fun j hj => HJ.out j (by omega))]
                have HN := Aside0.mk hN
                obtain ⟨u0, u1, u2, u3, -, u4, -⟩ := HF.out.p.cells
                have hn0 : gp ≠ w.heap.size := fun e => by have h1 := HF.out.p.p; have h2 := HF.out.r; rw [e, h2] at h1; simp at h1
                have hn1 := hn0
                have hn2 := hn0
                have hn3 := hn0
                have hn4 := hn0
                have KL := Aside0.mk HF.out.r
                have HB := Aside0.mk HF.out.b
                have r0 := blk_cell KL.out 0
                have r1 := blk_cell KL.out 1
                have r2 := blk_cell KL.out 2
                have r3 := blk_cell KL.out 3
                have f0 := blk_frozen KL.out 0
                have f1 := blk_frozen KL.out 1
                have f2 := blk_frozen KL.out 2
                have f3 := blk_frozen KL.out 3
                have FS := Aside0.mk (Kd.S_drew (set4_S (a := .int .i64 S.i) (b := .int .i64 S.q) (c := .int .i64 S.m) (d := .slice Ar S.rungs.length cr) KL.out HF.out.p.r))
                have FL := Aside0.mk (Kd.R_drew (set4_R (a := .int .i64 S.i) (b := .int .i64 S.q) (c := .int .i64 S.m) (d := .slice Ar S.rungs.length cr) KL.out HF.out.p.l))
                have hnl := Aside0.mk HF.out.p.nl
                have hn64 := Aside0.mk HF.out.p.n64
                clear hN hCr HF
                go_wp2
                refine start_ (n := 12) (S := fun w' => w'.cell? ⟨gp, 0, none⟩ = some (.int .i64 S.i) ∧ w'.cell? ⟨gp, 1, none⟩ = some (.int .i64 S.q) ∧ w'.cell? ⟨gp, 2, none⟩ = some (.int .i64 S.m) ∧ w'.cell? ⟨gp, 3, none⟩ = some (.slice Ar S.rungs.length cr) ∧ w'.cell? ⟨gp, 5, none⟩ = some (.slice Al S.lines.length cl)) (ds := []) #[false, false, false, false, false, false, false, false, false, false, false, false] (by kernel_rfl) rfl rfl ⟨u0, u1, u2, u3, u4⟩ (fun hHeld => ?_)
                refine pure_ (i := 0) (N := some 90) (v := ?_) (a' := ?_) #[true, false, false, false, false, false, false, false, false, false, false, false] rfl rfl (by kernel_rfl) (fun _ _ _ h => h) (Or.inl ⟨by rfl, ?_⟩) ?_ ?_
                rotate_left
                · intro w'
                  go_simp
                  with_reducible rfl
                rotate_left
                · simp only [Act.put, List.setIfInBounds_toArray, List.set_cons_zero, List.set_cons_succ, i64_w, i32_w]
                  rfl
                refine pure_ (i := 1) (N := some 91) (v := ?_) (a' := ?_) #[true, true, false, false, false, false, false, false, false, false, false, false] rfl rfl (by kernel_rfl) (fun _ _ _ h => h) (Or.inl ⟨by rfl, ?_⟩) ?_ ?_
                rotate_left
                · intro w'
                  go_simp
                  with_reducible rfl
                rotate_left
                · simp only [Act.put, List.setIfInBounds_toArray, List.set_cons_zero, List.set_cons_succ, i64_w, i32_w]
                  rfl
                refine pure_ (i := 2) (N := some 92) (v := ?_) (a' := ?_) #[true, true, true, false, false, false, false, false, false, false, false, false] rfl rfl (by kernel_rfl) (fun _ _ _ h => h) (Or.inl ⟨by rfl, ?_⟩) ?_ ?_
                rotate_left
                · intro w'
                  go_simp
                  with_reducible rfl
                rotate_left
                · simp only [Act.put, List.setIfInBounds_toArray, List.set_cons_zero, List.set_cons_succ, i64_w, i32_w]
                  rfl
                refine pure_ (i := 4) (N := some 94) (v := ?_) (a' := ?_) #[true, true, true, false, true, false, false, false, false, false, false, false] rfl rfl (by kernel_rfl) (fun _ _ _ h => h) (Or.inl ⟨by rfl, ?_⟩) ?_ ?_
                rotate_left
                · intro w'
                  go_simp
                  with_reducible rfl
                rotate_left
                · simp only [Act.put, List.setIfInBounds_toArray, List.set_cons_zero, List.set_cons_succ, i64_w, i32_w]
                  rfl
                refine pure_ (i := 5) (N := some 95) (v := ?_) (a' := ?_) #[true, true, true, false, true, true, false, false, false, false, false, false] rfl rfl (by kernel_rfl) (fun _ _ _ h => h) (Or.inl ⟨by rfl, ?_⟩) ?_ ?_
                rotate_left
                · intro w'
                  go_simp
                  with_reducible rfl
                rotate_left
                · simp only [Act.put, List.setIfInBounds_toArray, List.set_cons_zero, List.set_cons_succ, i64_w, i32_w]
                  rfl
                refine pure_ (i := 6) (N := some 96) (v := ?_) (a' := ?_) #[true, true, true, false, true, true, true, false, false, false, false, false] rfl rfl (by kernel_rfl) (fun _ _ _ h => h) (Or.inl ⟨by rfl, ?_⟩) ?_ ?_
                rotate_left
                · intro w'
                  go_simp
                  with_reducible rfl
                rotate_left
                · simp only [Act.put, List.setIfInBounds_toArray, List.set_cons_zero, List.set_cons_succ, i64_w, i32_w]
                  rfl
                refine take_ (i := 3) (N := some 93) (v := ?_) (a' := ?_) #[true, true, true, true, true, true, true, false, false, false, false, false] rfl rfl (by kernel_rfl) (fun _ _ _ h => h) (Or.inl ⟨by rfl, ?_⟩) hHeld ?_ ?_
                rotate_left
                · rintro w' ⟨s0, s1, s2, s3, s4⟩
                  go_simp
                  with_reducible rfl
                rotate_left
                · simp only [Act.put, List.setIfInBounds_toArray, List.set_cons_zero, List.set_cons_succ, i64_w, i32_w]
                  rfl
                refine take_ (i := 7) (N := some 97) (v := ?_) (a' := ?_) #[true, true, true, true, true, true, true, true, false, false, false, false] rfl rfl (by kernel_rfl) (fun _ _ _ h => h) (Or.inl ⟨by rfl, ?_⟩) hHeld ?_ ?_
                rotate_left
                · rintro w' ⟨s0, s1, s2, s3, s4⟩
                  go_simp
                  with_reducible rfl
                rotate_left
                · simp only [Act.put, List.setIfInBounds_toArray, List.set_cons_zero, List.set_cons_succ, i64_w, i32_w]
                  rfl
                refine one_ (i := 8) (N := none) #[true, true, true, true, true, true, true, true, true, false, false, false] rfl rfl (by kernel_rfl) (by decide) (fun K hK => ?_)
                refine skip_ (w1 := ?_) (by rfl) rfl ?_ ?_
                rotate_left
                · go_simp
                  rfl
                refine hK.out _ _ ⟨(set4_far hn0 u0), (set4_far hn1 u1), (set4_far hn2 u2), (set4_far hn3 u3), (set4_far hn4 u4)⟩ (fun hHeld => ?_)
                clear hK K
                refine pure_ (i := 9) (N := some 3) (v := ?_) (a' := ?_) #[true, true, true, true, true, true, true, true, true, true, false, false] rfl rfl (by kernel_rfl) (fun _ _ _ h => h) (Or.inl ⟨by rfl, ?_⟩) ?_ ?_
                rotate_left
                · intro w'
                  go_simp
                  with_reducible rfl
                rotate_left
                · simp only [Act.put, List.setIfInBounds_toArray, List.set_cons_zero, List.set_cons_succ, i64_w, i32_w]
                  rfl
                refine pure_ (i := 10) (N := some 4) (v := ?_) (a' := ?_) #[true, true, true, true, true, true, true, true, true, true, true, false] rfl rfl (by kernel_rfl) (fun _ _ _ h => h) (Or.inl ⟨by rfl, ?_⟩) ?_ ?_
                rotate_left
                · intro w'
                  go_simp
                  with_reducible rfl
                rotate_left
                · simp only [Act.put, List.setIfInBounds_toArray, List.set_cons_zero, List.set_cons_succ, i64_w, i32_w]
                  rfl
                refine pure_ (i := 11) (N := some 5) (v := ?_) (a' := ?_) #[true, true, true, true, true, true, true, true, true, true, true, true] rfl rfl (by kernel_rfl) (fun _ _ _ h => h) (Or.inl ⟨by rfl, ?_⟩) ?_ ?_
                rotate_left
                · intro w'
                  go_simp
                  with_reducible rfl
                rotate_left
                · simp only [Act.put, List.setIfInBounds_toArray, List.set_cons_zero, List.set_cons_succ, i64_w, i32_w]
                  rfl
                refine done_ (by kernel_rfl) ?_
                clear u0 u1 u2 u3 u4 r0 r1 r2 r3 f0 f1 f2 f3
                have KZ := Aside0.mk (blk_drew (set4_blk (a := .int .i64 S.i) (b := .int .i64 S.q) (c := .int .i64 S.m) (d := .slice Ar S.rungs.length cr) KL.out))
                have FB := Aside0.mk (below_drew (set4_below (a := .int .i64 S.i) (b := .int .i64 S.q) (c := .int .i64 S.m) (d := .slice Ar S.rungs.length cr) HB.out (Nat.le_refl _)))
                generalize (set4 wx w.heap.size (.int .i64 S.i) (.int .i64 S.q) (.int .i64 S.m) (.slice Ar S.rungs.length cr)).drew = wz at KZ FB FS FL ⊢
                have z0 : wz.cell? ⟨w.heap.size, 0, none⟩ = some (.int .i64 S.i) := blk_cell KZ.out 0
                have z1 : wz.cell? ⟨w.heap.size, 1, none⟩ = some (.int .i64 S.q) := blk_cell KZ.out 1
                have z2 : wz.cell? ⟨w.heap.size, 2, none⟩ = some (.int .i64 S.m) := blk_cell KZ.out 2
                have z3 : wz.cell? ⟨w.heap.size, 3, none⟩ = some (.slice Ar S.rungs.length cr) := blk_cell KZ.out 3
                go_wp2
                refine bodyPost_ret (v := .tuple #[.agg #[.int .i64 S.i, .int .i64 S.q, .int .i64 S.m, .slice Ar S.rungs.length cr], .slice Al S.lines.length cl, .int .i64 0, .int .i64 0]) ?_ rfl ⟨FB.out, .inr ⟨by rw [HN.out], _, _, by rw [HN.out], by rw [HN.out]; exact FS.out, by rw [HN.out]; exact FL.out, by rw [HN.out]; exact hnl.out, by rw [HN.out]; exact hn64.out, by rw [HN.out]; exact HC.out⟩⟩
                simp [results, Tryd.f19, go_sem, z0, z1, z2, z3]
    · skip
      have hbl : badLine s = some k := firstN_some hk (by rw [hbad]; rfl) (fun j hj => by
        have := hpl (cntAt s j) (by unfold upN; exact List.mem_map.2 ⟨j, List.mem_range.2 hj, rfl⟩)
        rw [this]; rfl)
      have hp : parseP s = (S0, (k : Int) + 1, 6) := by rw [HPP.out, hbl]
      have HP := Aside0.mk hp
      have k2 := K2.out
      have r0 := blk_cell k2 0
      have r1 := blk_cell k2 1
      have r2 := blk_cell k2 2
      have r3 := blk_cell k2 3
      have f0 := blk_frozen k2 0
      have f1 := blk_frozen k2 1
      have f2 := blk_frozen k2 2
      have f3 := blk_frozen k2 3
      clear hp k2 hpl hbad
      go_wp2
      have KZ : Aside0 (((((w2.setCell ⟨w.heap.size, 0, none⟩ (.int .i64 0)).setCell ⟨w.heap.size, 1, none⟩ (.int .i64 0)).setCell ⟨w.heap.size, 2, none⟩ (.int .i64 0)).setCell ⟨w.heap.size, 3, none⟩ (.slice none 0 0)).heap[w.heap.size]? = some (.cells #[.int .i64 0, .int .i64 0, .int .i64 0, .slice none 0 0] 24 (0, 0))) := ⟨set4_blk (K2.out)⟩
      have FB : Aside0 (Below w.heap.size w (((((w2.setCell ⟨w.heap.size, 0, none⟩ (.int .i64 0)).setCell ⟨w.heap.size, 1, none⟩ (.int .i64 0)).setCell ⟨w.heap.size, 2, none⟩ (.int .i64 0)).setCell ⟨w.heap.size, 3, none⟩ (.slice none 0 0)))) := ⟨set4_below (HB.out) (Nat.le_refl _)⟩
      generalize ((((w2.setCell ⟨w.heap.size, 0, none⟩ (.int .i64 0)).setCell ⟨w.heap.size, 1, none⟩ (.int .i64 0)).setCell ⟨w.heap.size, 2, none⟩ (.int .i64 0)).setCell ⟨w.heap.size, 3, none⟩ (.slice none 0 0)) = wz at KZ FB ⊢
      have z0 : wz.cell? ⟨w.heap.size, 0, none⟩ = some (.int .i64 0) := blk_cell KZ.out 0
      have z1 : wz.cell? ⟨w.heap.size, 1, none⟩ = some (.int .i64 0) := blk_cell KZ.out 1
      have z2 : wz.cell? ⟨w.heap.size, 2, none⟩ = some (.int .i64 0) := blk_cell KZ.out 2
      have z3 : wz.cell? ⟨w.heap.size, 3, none⟩ = some (.slice none 0 0) := blk_cell KZ.out 3
      refine bodyPost_ret (v := .tuple #[.agg #[.int .i64 0, .int .i64 0, .int .i64 0, .slice none 0 0], .slice none 0 0, .int .i64 ((k : Int) + 1), .int .i64 6]) ?_ rfl (ParseR.bad HP.out (by decide) FB.out)
      simp [results, Tryd.f19, go_sem, z0, z1, z2, z3]
end Go.Proofs.YtolmkdhgnganaaaDoor.H
namespace Go.Proofs.YtolmkdhgnganaaaDoor.H
open Go Go.RowKit Go.Proofs Go.Proofs.YtolmkdhgnganaaaDoorW.PrintWords Go.Proofs.YtolmkdhgnganaaaDoor.Sp
/-- A byte put ahead of the first line. -/
def hd (b : UInt8) : List (List UInt8) → List (List UInt8)
  | [] => [[b]]
  | p :: r => (b :: p) :: r
/-- A text's lines. -/
def spl : List UInt8 → List (List UInt8)
  | [] => [[]]
  | b :: l => if b = 10 then [] :: spl l else hd b (spl l)
theorem spl_ne : ∀ l, spl l ≠ []
  | [] => by simp [spl]
  | b :: l => by
    unfold spl
    split
    · simp
    · cases spl l <;> simp [hd]
theorem index_hit (c : UInt8) (l : List UInt8) : Lib.index (c :: l) [c] = 0 := by
  unfold Lib.index
  rw [if_pos (by simp)]
theorem index_skip {b c : UInt8} (l : List UInt8) (h : b ≠ c) : Lib.index (b :: l) [c] = if Lib.index l [c] = -1 then -1 else Lib.index l [c] + 1 := by
  rw [Lib.index]
  have : ([c] : List UInt8).isPrefixOf (b :: l) = false := by
    simp [List.isPrefixOf, Ne.symm h]
  rw [this]
  by_cases hm : Lib.index l [c] = -1
  · simp [hm]
  · have : (Lib.index l [c] == -1) = false := by simpa using hm
    simp [this, hm]
theorem splitK_skip {b c : UInt8} (h : b ≠ c) (k : Nat) (l : List UInt8) : Lib.splitK [c] 0 k (b :: l) = hd b (Lib.splitK [c] 0 k l) := by
  cases k with
  | zero => rfl
  | succ k =>
    rw [Lib.splitK, Lib.splitK, index_skip l h]
    have hge := Lib.index_ge l [c]
    by_cases hm : Lib.index l [c] = -1
    · simp [hm, hd]
    · have h1 : (Lib.index l [c] == -1) = false := by simpa using hm
      have h2 : ((Lib.index l [c] + 1) == -1) = false := by rw [beq_eq_false_iff_ne]; omega
      have h3 : (Lib.index l [c] + 1).toNat = (Lib.index l [c]).toNat + 1 := by omega
      rw [if_neg hm, h1, h2, h3]
      simp [hd]
theorem splitK_hit (c : UInt8) (k : Nat) (l : List UInt8) : Lib.splitK [c] 0 (k + 1) (c :: l) = [] :: Lib.splitK [c] 0 k l := by
  rw [Lib.splitK, index_hit]
  simp
theorem splitK_spl : ∀ l : List UInt8, Lib.splitK [10] 0 (Lib.count l [10]) l = spl l
  | [] => by rfl
  | b :: l => by
    by_cases h : b = 10
    · subst h
      rw [Lib.count_cons_eq, Nat.add_comm, splitK_hit, splitK_spl l, spl, if_pos rfl]
    · rw [Lib.count_cons_ne _ _ _ h, splitK_skip h, splitK_spl l, spl, if_neg h]
theorem pieces_spl (s : ByteArray) : (pieces s).map (·.data.toList) = spl s.data.toList := by
  unfold pieces
  rw [Lib.splitB_data]
  exact splitK_spl _
/-- What lies ahead of the comment. -/
def bareL (l : List UInt8) : List UInt8 := l.takeWhile (fun b => b != 59)
theorem cut_bare : ∀ l : List UInt8, (Lib.cut l [59]).1 = bareL l
  | [] => by rfl
  | b :: l => by
    have ih := cut_bare l
    unfold Lib.cut at ih ⊢
    by_cases h : b = 59
    · subst h
      rw [index_hit]
      simp [bareL]
    · have hge := Lib.index_ge l [59]
      have hb : bareL (b :: l) = b :: bareL l := by simp [bareL, h]
      rw [index_skip l h, hb, ← ih]
      by_cases hm : Lib.index l [59] = -1
      · simp [hm]
      · have h3 : (Lib.index l [59] + 1).toNat = (Lib.index l [59]).toNat + 1 := by omega
        rw [if_neg hm, if_pos (by omega), if_pos (by omega)]
        simp [h3]
/-- The words of a line. -/
def wds (p : List UInt8) : List ByteArray := (Lib.fields (bareL p)).map fun l => (⟨l.toArray⟩ : ByteArray)
/-- The lines that hold words; the first has the number n. -/
def linesFrom (n : Int) : List (List UInt8) → List Ln
  | [] => []
  | p :: r => (if (wds p).isEmpty then [] else [⟨n, wds p⟩]) ++ linesFrom (n + 1) r
/-- The first line that holds a byte that is not permitted. -/
def badFrom (n : Int) : List (List UInt8) → Option Int
  | [] => none
  | p :: r => if isPl (bareL p) then badFrom (n + 1) r else some n
/-- What Parse answers, told over the lines. -/
def parseL (ps : List (List UInt8)) : PSt × Int × Int :=
  match badFrom 1 ps with
  | some n => (S0, n, 6)
  | none => if (runS S0 (linesFrom 1 ps)).2.2 = 0 then endS (runS S0 (linesFrom 1 ps)).1 else runS S0 (linesFrom 1 ps)
theorem spl_append (a b : List UInt8) : spl (a ++ 10 :: b) = spl a ++ spl b := by
  induction a with
  | nil => simp [spl]
  | cons x a ih =>
    rw [List.cons_append, spl, spl, ih]
    split
    · rfl
    · cases h : spl a with
      | nil => exact absurd h (spl_ne a)
      | cons p r => rfl
theorem spl_one {a : List UInt8} (h : ∀ b ∈ a, b ≠ 10) : spl a = [a] := by
  induction a with
  | nil => rfl
  | cons x a ih =>
    rw [spl, if_neg (h x List.mem_cons_self), ih (fun b hb => h b (List.mem_cons_of_mem _ hb))]
    rfl
/-- The words and the line's number, over the pieces. -/
theorem getD_map {α β : Type} (f : α → β) (l : List α) (k : Nat) (d : α) : (l[k]?.map f).getD (f d) = f (l[k]?.getD d) := by cases l[k]? <;> rfl
theorem cntAt_bytes (s : ByteArray) (k : Nat) : (cntAt s k).2.data.toList = bareL ((spl s.data.toList)[k]?.getD []) := by
  unfold cntAt bare
  dsimp only
  rw [cut_bare, ← pieces_spl, List.getElem?_map]
  exact congrArg bareL (getD_map (fun x : ByteArray => x.data.toList) (pieces s) k ByteArray.empty).symm
theorem wordsOf_cnt (s : ByteArray) (k : Nat) : wordsOf (cntAt s k).2 = wds ((spl s.data.toList)[k]?.getD []) := by
  unfold wordsOf wds
  rw [cntAt_bytes]
theorem spl_length (s : ByteArray) : (spl s.data.toList).length = (pieces s).length := by rw [← pieces_spl, List.length_map]
theorem lnsOf_from (ps : List (List UInt8)) : ∀ (f : Nat → Int × ByteArray) (n : Int), (∀ k, k < ps.length → (f k).1 = n + k) → (∀ k, k < ps.length → wordsOf (f k).2 = wds (ps[k]?.getD [])) → lnsOf (upN f ps.length) = linesFrom n ps := by
  induction ps with
  | nil => intro f n _ _; rfl
  | cons p r ih =>
    intro f n h1 h2
    have e : upN f (p :: r).length = f 0 :: upN (fun k => f (k + 1)) r.length := by
      unfold upN
      rw [List.length_cons, List.range_succ_eq_map, List.map_cons, List.map_map]
      rfl
    have ih' := ih (fun k => f (k + 1)) (n + 1) (fun k hk => by
      have := h1 (k + 1) (by rw [List.length_cons]; omega)
      show (f (k + 1)).1 = _
      rw [this]; push_cast; omega) (fun k hk => by
      have := h2 (k + 1) (by rw [List.length_cons]; omega)
      show wordsOf (f (k + 1)).2 = _
      rw [this]; rfl)
    have hw : wordsOf (f 0).2 = wds p := by
      have := h2 0 (by rw [List.length_cons]; omega)
      rw [this]; rfl
    have hn : (f 0).1 = n := by
      have := h1 0 (by rw [List.length_cons]; omega)
      rw [this]; simp
    rw [e, linesFrom, ← ih']
    unfold lnsOf
    rw [List.filterMap_cons]
    unfold toLn
    rw [hw, hn]
    cases hq : (wds p).isEmpty with
    | true => simp
    | false => simp
theorem lnsOf_cnts (s : ByteArray) : lnsOf (cnts s) = linesFrom 1 (spl s.data.toList) := by
  unfold cnts
  rw [← spl_length]
  exact lnsOf_from _ _ 1 (fun k _ => by show (k : Int) + 1 = 1 + k; omega) (fun k _ => wordsOf_cnt s k)
theorem badFrom_is (ps : List (List UInt8)) : ∀ n : Int, badFrom n ps = (firstN (fun k => !isPl (bareL (ps[k]?.getD []))) ps.length).map (fun k : Nat => n + (k : Int)) := by
  induction ps with
  | nil => intro n; rfl
  | cons p r ih =>
    intro n
    have e : ∀ g : Nat → Bool, firstN g (p :: r).length = if g 0 then some 0 else (firstN (fun k => g (k + 1)) r.length).map (· + 1) := by
      intro g
      unfold firstN
      rw [List.length_cons, List.range_succ_eq_map, List.find?_cons]
      cases g 0 with
      | true => rfl
      | false =>
        simp only [Bool.false_eq_true, if_false]
        rw [List.find?_map]
        rfl
    rw [e, badFrom]
    have e0 : ((p :: r)[0]?.getD []) = p := rfl
    rw [e0]
    cases hp : isPl (bareL p) with
    | false => simp
    | true =>
      simp only [Bool.not_true, Bool.false_eq_true, if_false, if_true, Option.map_map]
      rw [ih]
      congr 1
      funext k
      show n + 1 + (k : Int) = n + ((k + 1 : Nat) : Int)
      omega
theorem badLine_spl (s : ByteArray) : (badLine s).map (fun k : Nat => (k : Int) + 1) = badFrom 1 (spl s.data.toList) := by
  rw [badFrom_is]
  unfold badLine
  rw [spl_length]
  have : (fun k => !isPl (cntAt s k).2.data.toList) = fun k => !isPl (bareL ((spl s.data.toList)[k]?.getD [])) := by
    funext k
    rw [cntAt_bytes]
  rw [this]
  congr 1
  funext k
  omega
theorem parseP_spl {s : ByteArray} (hs : s.size ≤ 65536) : parseP s = parseL (spl s.data.toList) := by
  unfold parseP parseL
  rw [if_neg (by omega), ← badLine_spl, lnsOf_cnts]
  cases badLine s <;> rfl
end Go.Proofs.YtolmkdhgnganaaaDoor.H
namespace Go.Proofs.YtolmkdhgnganaaaDoor.H
open Go Go.RowKit Go.Proofs Go.Proofs.YtolmkdhgnganaaaDoorW.PrintWords Go.Proofs.YtolmkdhgnganaaaDoor.Sp
theorem isE0 : (⟨#[]⟩ : ByteArray).toList.isEmpty = true := by rw [toList_data]; rfl
def runP (S : PSt) (n : Int) (ps : List (List UInt8)) : PSt × Int × Int := runS S (linesFrom n ps)
theorem runP_nil (S : PSt) (n : Int) : runP S n [] = (S, 0, 0) := rfl
theorem runP_blank {S : PSt} {n : Int} {p : List UInt8} {r : List (List UInt8)} (h : wds p = []) : runP S n (p :: r) = runP S (n + 1) r := by
  unfold runP
  rw [linesFrom, h]
  rfl
theorem runP_end (S : PSt) (n : Int) : runP S n [[]] = (S, 0, 0) := by
  rw [runP_blank (by decide), runP_nil]
theorem runP_ok {S T : PSt} {n : Int} {p : List UInt8} {r : List (List UInt8)} {ws : List ByteArray} (h : wds p = ws) (h0 : ws ≠ []) (hl : lineS S n ws = (T, 0)) : runP S n (p :: r) = runP T (n + 1) r := by
  unfold runP
  rw [linesFrom, h, if_neg (by simpa using h0), List.cons_append, List.nil_append, runS]
  dsimp only
  rw [hl, if_pos rfl]
theorem runP_bad {S T : PSt} {n e : Int} {p : List UInt8} {r : List (List UInt8)} {ws : List ByteArray} (h : wds p = ws) (h0 : ws ≠ []) (hl : lineS S n ws = (T, e)) (he : e ≠ 0) : runP S n (p :: r) = (S, n, e) := by
  unfold runP
  rw [linesFrom, h, if_neg (by simpa using h0), List.cons_append, List.nil_append, runS]
  dsimp only
  rw [hl, if_neg he]
theorem badFrom_all : ∀ {ps : List (List UInt8)} (n : Int), (∀ p ∈ ps, isPl (bareL p) = true) → badFrom n ps = none
  | [], n, _ => rfl
  | p :: r, n, h => by
    rw [badFrom, if_pos (h p List.mem_cons_self)]
    exact badFrom_all (n + 1) (fun q hq => h q (List.mem_cons_of_mem _ hq))
theorem parseL_run {ps : List (List UInt8)} (hb : ∀ p ∈ ps, isPl (bareL p) = true) : parseL ps = if (runP S0 1 ps).2.2 = 0 then endS (runP S0 1 ps).1 else runP S0 1 ps := by
  unfold parseL
  rw [badFrom_all 1 hb]
  rfl
/-- A text without a jump ends well. -/
theorem endS_plain {S : PSt} (hs : S.sized = true) (h : ∀ r ∈ S.rungs, r.f3.toList.isEmpty = true) : endS S = (S, 0, 0) := by
  unfold endS
  rw [if_neg (by simp [hs])]
  rw [firstN_none (fun j hj => ?_)]
  unfold jbAt
  have : rdR S.rungs (j : Int) ∈ S.rungs := by
    have e : rdR S.rungs (j : Int) = S.rungs[j] := by simp [PPrinterMatchesReference.rd_T40, List.getD, hj]
    rw [e]; exact List.getElem_mem _
  rw [h _ this]
  rfl
/-- size 1 1 0, size 1 1 1 -/
theorem num_one : numParse [49] 256 = (1, 0) := by decide +kernel
theorem num_zero : numParse [48] 256 = (0, 0) := by decide +kernel
def wSize (x : UInt8) : List ByteArray := [⟨#[115, 105, 122, 101]⟩, ⟨#[49]⟩, ⟨#[49]⟩, ⟨#[x]⟩]
theorem line_size (n : Int) : lineS S0 n (wSize 48) = (⟨1, 1, 0, true, [], [], []⟩, 0) ∧ lineS S0 n (wSize 49) = (⟨1, 1, 1, true, [], [], []⟩, 0) := by
  have e : ∀ x, kindOf ((wSize x).getD 0 ⟨#[]⟩) = some 0 := fun x => by
    show kindOf ⟨#[115, 105, 122, 101]⟩ = some 0
    decide
  constructor
  · rw [lineS, e]
    simp [wSize, sizeS, nAt, S0, num_one, num_zero]
  · rw [lineS, e]
    simp [wSize, sizeS, nAt, S0, num_one, num_zero]
/-- no I0 L R -/
def wNo : List ByteArray := [⟨#[110, 111]⟩, ⟨#[73, 48]⟩, ⟨#[76]⟩, ⟨#[82]⟩]
def cNo : Con := ⟨0, ⟨0, 0⟩, ⟨#[76]⟩, ⟨#[82]⟩⟩
theorem adr_I0 (i q m : Int) (hi : 0 < i) : adrE i q m [73, 48] = 0 := by
  have e : addrParse [73, 48] = (0, 0, 0) := by decide +kernel
  unfold adrE
  rw [e]
  simp [chkAddr, widthOf]
  omega
theorem lastR_append (S : PSt) (l : List Rung) (x : Rung) (h : S.rungs = l ++ [x]) : lastR S = x := by
  unfold lastR
  rw [h]
  simp [PPrinterMatchesReference.rd_T40, List.getD]
theorem line_no {S : PSt} (n : Int) {l : List Rung} {x : Rung} (hs : S.sized = true) (hi : 0 < S.i) (h : S.rungs = l ++ [x]) (h2 : x.f2 = []) (h3 : x.f3.toList.isEmpty = true) (h1 : x.f1.length < 256) :
    lineS S n wNo = (⟨S.i, S.q, S.m, S.sized, l ++ [⟨x.f0, x.f1 ++ [cNo], x.f2, x.f3⟩], S.lines, S.jumps⟩, 0) := by
  have e : kindOf (wNo.getD 0 ⟨#[]⟩) = some 3 := by decide
  have e1 : kwIx kwC ⟨#[110, 111]⟩ = 0 := by decide +kernel
  have e2 : addrParse [73, 48] = (0, 0, 0) := by decide +kernel
  have e3 : isNm [76] = true := by decide
  have e4 : isNm [82] = true := by decide
  have e5 := adr_I0 S.i S.q S.m hi
  have hl := lastR_append S l x h
  have hlen : S.rungs.length = l.length + 1 := by rw [h]; simp
  have hset : ∀ y, S.rungs.set (S.rungs.length - 1) y = l ++ [y] := fun y => by
    rw [hlen, h]
    simp
  rw [lineS, e]
  simp only []
  rw [if_neg (by simp [wNo]), if_neg (by simp [hs, hlen]), conS, hl]
  rw [if_neg (by simp [h2, h3]), if_neg (by omega)]
  rw [show ((wNo.getD 1 ⟨#[]⟩).data.toList) = [73, 48] from rfl, e5, if_neg (by simp)]
  rw [if_neg (by simp [wNo, e3, e4]), e2, hset]
  simp [wNo, cNo, e1]
/-- out Q0 -/
def wOut : List ByteArray := [⟨#[111, 117, 116]⟩, ⟨#[81, 48]⟩]
def cOut : Coil := ⟨0, ⟨1, 0⟩⟩
theorem line_out {S : PSt} (n : Int) {l : List Rung} {x : Rung} (hs : S.sized = true) (hq : 0 < S.q) (h : S.rungs = l ++ [x]) (h3 : x.f3.toList.isEmpty = true) (h1 : x.f2.length < 16) :
    lineS S n wOut = (⟨S.i, S.q, S.m, S.sized, l ++ [⟨x.f0, x.f1, x.f2 ++ [cOut], x.f3⟩], S.lines, S.jumps⟩, 0) := by
  have e : kindOf (wOut.getD 0 ⟨#[]⟩) = some 4 := by decide
  have e1 : kwIx kwO ⟨#[111, 117, 116]⟩ = 0 := by decide +kernel
  have e2 : addrParse [81, 48] = (1, 0, 0) := by decide +kernel
  have e5 : adrE S.i S.q S.m [81, 48] = 0 := by
    unfold adrE
    rw [e2]
    simp [chkAddr, widthOf]
    omega
  have hl := lastR_append S l x h
  have hlen : S.rungs.length = l.length + 1 := by rw [h]; simp
  have hset : ∀ y, S.rungs.set (S.rungs.length - 1) y = l ++ [y] := fun y => by
    rw [hlen, h]
    simp
  rw [lineS, e]
  simp only []
  rw [if_neg (by simp [wOut]), if_neg (by simp [hs, hlen]), coilS, hl]
  rw [if_neg (by simp [h3]), if_neg (by omega)]
  rw [show ((wOut.getD 1 ⟨#[]⟩).data.toList) = [81, 48] from rfl, e5, if_neg (by simp)]
  rw [e2, if_neg (by simp), hset]
  simp [wOut, cOut, e1]
/-- rung, rung x -/
def wRung : List ByteArray := [⟨#[114, 117, 110, 103]⟩]
theorem line_rung {S : PSt} (n : Int) (hs : S.sized = true) (h : S.rungs.length < 64) : lineS S n wRung = (⟨S.i, S.q, S.m, S.sized, S.rungs ++ [newR ⟨#[]⟩], S.lines ++ [n], S.jumps ++ [0]⟩, 0) := by
  have e : kindOf (wRung.getD 0 ⟨#[]⟩) = some 1 := by decide
  rw [lineS, e]
  simp only []
  rw [if_neg (by simp [wRung]), if_neg (by simp [hs]), beginS, if_neg (by simp [wRung]), if_neg (by simp [wRung]), beginT, if_neg (by omega)]
  simp [labOf, wRung]
end Go.Proofs.YtolmkdhgnganaaaDoor.H
namespace Go.Proofs.YtolmkdhgnganaaaDoor.H
open Go Go.RowKit Go.Proofs Go.Proofs.YtolmkdhgnganaaaDoorW.PrintWords Go.Proofs.YtolmkdhgnganaaaDoor.Sp
/-- size 1 1 0 -/
def lSize : List UInt8 := [115, 105, 122, 101, 32, 49, 32, 49, 32, 48]
def lRung : List UInt8 := [114, 117, 110, 103]
def lNo : List UInt8 := [110, 111, 32, 73, 48, 32, 76, 32, 82]
def lOut : List UInt8 := [111, 117, 116, 32, 81, 48]
theorem l_words : wds lSize = wSize 48 ∧ wds lRung = wRung ∧ wds lNo = wNo ∧ wds lOut = wOut := by decide
theorem l_plain : isPl (bareL lSize) = true ∧ isPl (bareL lRung) = true ∧ isPl (bareL lNo) = true ∧ isPl (bareL lOut) = true := by decide
/-- The states behind k rungs, k contacts, k coils. -/
def stR (k : Nat) : PSt := ⟨1, 1, 0, true, List.replicate k (newR ⟨#[]⟩), (List.range k).map fun x : Nat => 2 + (x : Int), List.replicate k 0⟩
def stC (k : Nat) : PSt := ⟨1, 1, 0, true, [] ++ [⟨⟨#[]⟩, List.replicate k cNo, [], ⟨#[]⟩⟩], [2], [0]⟩
theorem stR_step (k : Nat) (h : k < 64) : lineS (stR k) (2 + (k : Int)) wRung = (stR (k + 1), 0) := by
  rw [line_rung _ rfl (by simpa [stR] using h)]
  simp only [stR, List.replicate_succ', List.range_succ, List.map_append, List.map_cons, List.map_nil]
theorem stC_step (k : Nat) (h : k < 256) : lineS (stC k) (3 + (k : Int)) wNo = (stC (k + 1), 0) := by
  rw [line_no (l := []) (x := ⟨⟨#[]⟩, List.replicate k cNo, [], ⟨#[]⟩⟩) _ rfl (by simp [stC]) rfl rfl isE0 (by simpa using h)]
  simp only [stC, List.replicate_succ']
theorem st_size {r : List (List UInt8)} : runP S0 1 (lSize :: r) = runP (stR 0) 2 r := by
  rw [runP_ok l_words.1 (by decide) (line_size 1).1]
  rfl
theorem st_head {r : List (List UInt8)} : runP S0 1 (lSize :: lRung :: r) = runP (stC 0) 3 r := by
  rw [st_size, runP_ok l_words.2.1 (by decide) (show lineS (stR 0) 2 wRung = (stR 1, 0) from stR_step 0 (by omega))]
  rfl
end Go.Proofs.YtolmkdhgnganaaaDoor.H
namespace Go.Proofs.YtolmkdhgnganaaaDoor.H
open Go Go.RowKit Go.Proofs Go.Proofs.YtolmkdhgnganaaaDoorW.PrintWords Go.Proofs.YtolmkdhgnganaaaDoor.Sp
def ex10T : ByteArray := ⟨#[115, 105, 122, 101, 32, 49, 32, 49, 32, 48, 10, 114, 117, 110, 103, 10, 110, 111, 32, 73, 48, 32, 76, 32, 82, 10, 111, 117, 116, 32, 81, 48, 10]⟩
def ex10R : Rung := ⟨⟨#[]⟩, [cNo], [cOut], ⟨#[]⟩⟩
theorem ex_plain : parseP ex10T = (⟨1, 1, 0, true, [ex10R], [2], [0]⟩, 0, 0) := by
  have e : spl ex10T.data.toList = [lSize, lRung, lNo, lOut, []] := by decide
  rw [parseP_spl (by decide), e, parseL_run (fun p hp => by
    simp only [List.mem_cons, List.not_mem_nil, or_false] at hp
    rcases hp with rfl | rfl | rfl | rfl | rfl
    · exact l_plain.1
    · exact l_plain.2.1
    · exact l_plain.2.2.1
    · exact l_plain.2.2.2
    · decide), st_head, runP_ok l_words.2.2.1 (by decide) (show lineS (stC 0) 3 wNo = (stC 1, 0) from stC_step 0 (by omega))]
  rw [runP_ok l_words.2.2.2 (by decide) (line_out (l := []) (x := ⟨⟨#[]⟩, [cNo], [], ⟨#[]⟩⟩) _ rfl (by show (0 : Int) < 1; omega) rfl isE0 (by show (0 : Nat) < 16; omega)), runP_end, if_pos rfl]
  exact endS_plain rfl (fun r hr => by obtain rfl := List.mem_singleton.1 hr; exact isE0)
/-- A row of numbers: its cells. -/
theorem ints_cell {w : World} {B : Nat} {b n c : Nat} {ws : List Int} (h : (Kd.int .i64).R 3 w B (fun _ => True) (.slice (some ⟨b, 0, none⟩) n c) ws) (j : Nat) (hj : j < n) : w.cell? ⟨b, j, none⟩ = some (.int .i64 (ws.getD j 0)) := by
  obtain ⟨hn, _, hC⟩ := Kd.R_reads' h
  subst hn
  obtain ⟨ad, c', e, hl, hK, hcc⟩ := Kd.C_get hC 0 (j : Int) (by omega) (by omega)
  cases e
  have e1 : c' = [.int .i64 (ws.getD j 0)] := by simpa [Kd.int, Kd.scalar] using hK
  subst e1
  have h1 := hcc 0 _ rfl
  have e3 : (⟨b, 0, none⟩ : Addr).add ((j : Int).toNat * (Kd.int .i64).sz + 0) = ⟨b, j, none⟩ := by
    have : (j : Int).toNat * (Kd.int .i64).sz + 0 = j := by simp [Kd.int, Kd.scalar]
    rw [this]
    unfold Addr.add; split <;> simp_all
  rw [e3] at h1
  exact h1
theorem example10_b (w : World) : Calls Tryd.prog 49 #[] w fun e w' => e = .returned (.string ex10T) ∧ w = w' := by
  go_enter Tryd.func49, Tryd.ntmps49
  go_wp2
  go_ret
  exact ⟨rfl, rfl⟩
set_option maxHeartbeats 4000000 in
set_option maxRecDepth 100000 in
theorem alive10_b (w : World) (hL : Lets w) (hE : Errs w) (hK : Kws w) (hG : LexG w) : Calls Tryd.prog 20 #[] w (RetB w (.bool true)) := by
  have HP := Aside0.mk (parse_b ex10T w hL hE hK hG)
  clear hL hE hK hG
  go_enter Tryd.func20, Tryd.ntmps20
  go_wp2_with fail
  refine (example10_b w).mono ?_
  rintro e w1 ⟨rfl, rfl⟩
  go_wp2_with fail
  refine HP.out.mono ?_
  rintro e w1 ⟨hb, hr⟩
  rw [ex_plain] at hr
  rcases hr with ⟨h0, _⟩ | ⟨-, vr, vl, rfl, hS, hl, -, -, -⟩
  · exact absurd rfl h0
  · change Kd.S kRung 40 w1 w.heap.size (fun _ => True) vr [ex10R] at hS
    change (Kd.int .i64).R 3 w1 w.heap.size (fun _ => True) vl [2] at hl
    obtain ⟨gr, c, rfl, -, -, -⟩ := Kd.S_form hS (by show 0 < 1; omega)
    obtain ⟨g, cl, rfl, -, -, -⟩ := Kd.R_form hl (by show 0 < 1; omega)
    have q0 : w1.cell? ⟨g, 0, none⟩ = some (.int .i64 2) := ints_cell hl 0 (by show 0 < 1; omega)
    obtain ⟨a, c1, s1, -, -, -, -, -, e4, -⟩ := S_con hS 0 (by omega) (by show (0 : Int) < 1; omega) 0 (by omega) (by show (0 : Int) < 1; omega)
    obtain ⟨_, _, A2, c2, -, s2, -, -⟩ := S_cells hS 0 (by omega) (by show (0 : Int) < 1; omega)
    change w1.cell? ⟨gr, 1, none⟩ = some (.slice (some ⟨a, 0, none⟩) 1 c1) at s1
    change w1.cell? ⟨gr, 2, none⟩ = some (.slice A2 1 c2) at s2
    change w1.cell? ⟨a, 4, none⟩ = some (.string ⟨#[82]⟩) at e4
    have lt0 : g < w1.heap.size := World.block_lt_of_cell? w1 _ q0
    have lt1 : gr < w1.heap.size := World.block_lt_of_cell? w1 _ s1
    have lt2 : a < w1.heap.size := World.block_lt_of_cell? w1 _ e4
    have FB := Aside0.mk (below_alloc hb (.cells #[.int .i64 1, .int .i64 1, .int .i64 0, .slice (some ⟨gr, 0, none⟩) 1 c] 24))
    clear hS hl hb HP
    have r82 : ((⟨#[82]⟩ : ByteArray).toList == ByteArray.toList ⟨#[82]⟩) = true := by simp
    simp only []
    go_wp2
    go_ret
    exact ⟨rfl, FB.out⟩
end Go.Proofs.YtolmkdhgnganaaaDoor.H
namespace Go.Proofs.YtolmkdhgnganaaaDoor.H
open Go Go.RowKit Go.Proofs Go.Proofs.YtolmkdhgnganaaaDoorW.PrintWords Go.Proofs.YtolmkdhgnganaaaDoor.Sp
theorem endS_zero {S : PSt} (h : (endS S).2.2 = 0) : (endS S).2.1 = 0 := by
  unfold endS at h ⊢
  by_cases h0 : S.sized = false
  · rw [if_pos h0] at h; cases h
  · rw [if_neg h0] at h ⊢
    cases hk : firstN (fun k => jbAt S.rungs (k : Int)) S.rungs.length with
    | some k => rw [hk] at h; cases h
    | none => rfl
theorem parseP_zero {s : ByteArray} (h : (parseP s).2.2 = 0) : (parseP s).2.1 = 0 := by
  unfold parseP at h ⊢
  by_cases h0 : 65536 < s.size
  · rw [if_pos h0] at h; cases h
  · rw [if_neg h0] at h ⊢
    cases hk : badLine s with
    | some k => rw [hk] at h; cases h
    | none =>
      rw [hk] at h
      dsimp only at h ⊢
      by_cases h1 : (runS S0 (lnsOf (cnts s))).2.2 = 0
      · rw [if_pos h1] at h ⊢; exact endS_zero h
      · rw [if_neg h1] at h; exact absurd h h1
theorem parse_w (s : ByteArray) (w : World) (hL : Lets w) (hE : Errs w) (hK : Kws w) (hG : LexG w) : Calls Tryd.prog 19 #[.string s] w (fun e w' => Below w.heap.size w w' ∧
    ∃ i q m A n c A' n' c', e = .returned (.tuple #[.agg #[.int .i64 i, .int .i64 q, .int .i64 m, .slice A n c], .slice A' n' c', .int .i64 (parseP s).2.1, .int .i64 (parseP s).2.2])) := by
  refine (parse_b s w hL hE hK hG).mono ?_
  rintro e w' ⟨hb, hr⟩
  refine ⟨hb, ?_⟩
  rcases hr with ⟨h0, rfl⟩ | ⟨h0, vr, vl, rfl, hS, hl, -, -, -⟩
  · exact ⟨0, 0, 0, none, 0, 0, none, 0, 0, rfl⟩
  · obtain ⟨A, c, rfl, -, -⟩ := Kd.S_reads hS
    obtain ⟨A', c', rfl, -, -⟩ := Kd.R_reads hl
    exact ⟨_, _, _, A, _, c, A', _, c', by rw [parseP_zero h0, h0]⟩
end Go.Proofs.YtolmkdhgnganaaaDoor.H
namespace Go.Proofs.YtolmkdhgnganaaaDoor.Sp
theorem digFrom_append (d : List UInt8) (c : UInt8) : ∀ n, digFrom n (d ++ [c]) = 10 * digFrom n d + dv c := by
  induction d with
  | nil => intro n; rw [List.nil_append, digFrom_cons, digFrom_nil, digFrom_nil]
  | cons a r ih => intro n; rw [List.cons_append, digFrom_cons, digFrom_cons, ih]
theorem digNat_append (d : List UInt8) (c : UInt8) : digNat (d ++ [c]) = 10 * digNat d + dv c := digFrom_append d c 0
theorem numSyn_iff (d : List UInt8) : numSyn d = true ↔ d ≠ [] ∧ d.all isDig = true ∧ (1 < d.length → d.head? ≠ some 48) := by
  unfold numSyn
  cases d with
  | nil => simp
  | cons a r =>
    simp only [List.isEmpty_cons, Bool.not_false, Bool.true_and, Bool.and_eq_true, ne_eq, reduceCtorEq, not_false_eq_true, true_and]
    refine and_congr_right fun _ => ?_
    cases r with
    | nil => simp
    | cons b q => simp
/-- What decDigits writes is a numeral, and its value is what it was given. -/
theorem num_of_dec : ∀ (n : Nat), numSyn (Lib.decDigits n) = true ∧ digNat (Lib.decDigits n) = n := by
  intro n
  induction n using Nat.strongRecOn with
  | _ n ih =>
    have dig : ∀ k, k < 10 → isDig (UInt8.ofNat (48 + k)) = true ∧ dv (UInt8.ofNat (48 + k)) = k ∧ (0 < k → UInt8.ofNat (48 + k) ≠ 48) := by
      intro k hk
      have h1 : (UInt8.ofNat (48 + k)).toNat = 48 + k := by simp; omega
      refine ⟨(isDig_iff _).2 (by rw [h1]; omega), by rw [dv_eq, h1]; omega, fun hp hh => ?_⟩
      rw [hh] at h1
      have : (48 : UInt8).toNat = 48 := rfl
      omega
    by_cases h : n < 10
    · obtain ⟨h1, h2, _⟩ := dig n h
      rw [Lib.decDigits, dif_pos h]
      refine ⟨(numSyn_iff _).2 ⟨List.cons_ne_nil _ _, by rw [List.all_cons, h1]; rfl, fun hh => absurd hh (by rw [List.length_singleton]; omega)⟩, ?_⟩
      show digFrom 0 [UInt8.ofNat (48 + n)] = n
      rw [digFrom_cons, digFrom_nil, h2]
      omega
    · obtain ⟨h1, h2, _⟩ := dig (n % 10) (by omega)
      obtain ⟨i1, i2⟩ := ih (n / 10) (by omega)
      obtain ⟨j0, jall, jz⟩ := (numSyn_iff _).1 i1
      rw [Lib.decDigits, dif_neg h]
      refine ⟨(numSyn_iff _).2 ⟨by simp, by rw [List.all_append, jall, List.all_cons, h1]; rfl, fun _ => ?_⟩, by rw [digNat_append, i2, h2]; omega⟩
      cases hd : Lib.decDigits (n / 10) with
      | nil => exact absurd hd j0
      | cons a r =>
        rw [hd] at jz j0 i2 jall
        simp only [List.cons_append, List.head?_cons, ne_eq, Option.some.injEq]
        by_cases hr : r = []
        · subst hr
          intro ha
          have : digNat [a] = dv a := by
            show digFrom 0 [a] = dv a
            rw [digFrom_cons, digFrom_nil]; omega
          rw [this, ha] at i2
          have : dv 48 = 0 := by rw [dv_eq]; rfl
          omega
        · have := jz (by cases r with | nil => exact absurd rfl hr | cons b q => simp)
          simpa using this
theorem itoa_data (n : Nat) : (itoaS (n : Int)).data.toList = Lib.decDigits n := by
  have h2 : ¬ ((n : Int) < 0) := by omega
  simp [itoaS, Lib.itoa, h2]
theorem fmt_data (s n : Int) (h : ¬ (s < 0 ∨ 2 < s ∨ n < 0 ∨ 255 < n)) : (addrFmt s n).data.toList = letterOf s :: Lib.decDigits n.toNat := by
  unfold addrFmt
  rw [if_neg h, ByteArray.data_append, Array.toList_append]
  obtain ⟨k, rfl⟩ := Int.eq_ofNat_of_zero_le (show 0 ≤ n by omega)
  rw [itoa_data]
  simp
theorem space_letter (s : Int) (h0 : 0 ≤ s) (h2 : s ≤ 2) : spaceOf (letterOf s) = s := by
  have : s = 0 ∨ s = 1 ∨ s = 2 := by omega
  rcases this with rfl | rfl | rfl <;> rfl
theorem parse_fmt (s n : Int) (h : ¬ (s < 0 ∨ 2 < s ∨ n < 0 ∨ 255 < n)) : addrParse (addrFmt s n).data.toList = (s, n, 0) := by
  rw [fmt_data s n h]
  obtain ⟨k, rfl⟩ := Int.eq_ofNat_of_zero_le (show 0 ≤ n by omega)
  obtain ⟨h1, h2⟩ := num_of_dec k
  have hs := space_letter s (by omega) (by omega)
  have hk : k ≤ 255 := by omega
  simp [addrParse, hs, numParse, h1, h2, hk]
  omega
end Go.Proofs.YtolmkdhgnganaaaDoor.Sp
namespace Go.Proofs.YtolmkdhgnganaaaDoor.H
open Go Go.RowKit Go.Proofs Go.Proofs.YtolmkdhgnganaaaDoorW.PrintWords Go.Proofs.YtolmkdhgnganaaaDoor.Sp
/-- A byte of a word. -/
def wB (b : UInt8) : Bool := decide (33 ≤ b.toNat ∧ b.toNat ≤ 126 ∧ b.toNat ≠ 59)
def okW (w : List UInt8) : Bool := !w.isEmpty && w.all wB
theorem wB_ok {b : UInt8} (h : wB b = true) : Lib.isSp b = false ∧ plB b = true ∧ (b != 59) = true ∧ b ≠ 10 := by
  unfold wB at h
  simp only [decide_eq_true_eq] at h
  refine ⟨?_, ?_, ?_, ?_⟩
  · cases hb : Lib.isSp b with
    | false => rfl
    | true =>
      unfold Lib.isSp at hb
      simp only [Bool.or_eq_true, beq_iff_eq] at hb
      have : b.toNat ≤ 32 := by
        rcases hb with ((((rfl | rfl) | rfl) | rfl) | rfl) | rfl <;> decide
      omega
  · unfold plB
    simp only [decide_eq_true_eq]
    omega
  · simp only [bne_iff_ne, ne_eq]
    rintro rfl
    exact h.2.2 (by decide)
  · rintro rfl
    have : (10 : UInt8).toNat = 10 := by decide
    omega
theorem okW_all {w : List UInt8} (h : okW w = true) : w ≠ [] ∧ ∀ b ∈ w, wB b = true := by
  unfold okW at h
  rw [Bool.and_eq_true, List.all_eq_true] at h
  exact ⟨by rintro rfl; simp at h, h.2⟩
def joinL : List (List UInt8) → List UInt8
  | [] => []
  | [w] => w
  | w :: v :: r => w ++ 32 :: joinL (v :: r)
theorem fieldsGo_word : ∀ (w cur rest : List UInt8), (∀ b ∈ w, wB b = true) → Lib.fieldsGo cur (w ++ rest) = Lib.fieldsGo (cur ++ w) rest
  | [], cur, rest, _ => by simp
  | b :: w, cur, rest, h => by
    rw [List.cons_append, Lib.fieldsGo, if_neg (by rw [(wB_ok (h b List.mem_cons_self)).1]; simp), fieldsGo_word w _ rest (fun x hx => h x (List.mem_cons_of_mem _ hx)), List.append_assoc]
    rfl
theorem fields_join : ∀ ws : List (List UInt8), (∀ w ∈ ws, okW w = true) → Lib.fields (joinL ws) = ws
  | [], _ => rfl
  | [w], h => by
    have hw := okW_all (h w List.mem_cons_self)
    unfold Lib.fields
    have := fieldsGo_word w [] [] hw.2
    rw [List.append_nil] at this
    show Lib.fieldsGo [] w = [w]
    rw [this, List.nil_append, Lib.fieldsGo, if_neg (by simpa using hw.1)]
  | w :: v :: r, h => by
    have hw := okW_all (h w List.mem_cons_self)
    have ih := fields_join (v :: r) (fun x hx => h x (List.mem_cons_of_mem _ hx))
    unfold Lib.fields at ih ⊢
    rw [joinL, fieldsGo_word w [] _ hw.2, List.nil_append, Lib.fieldsGo_end w 32 _ (by decide) hw.1, ih]
theorem join_bytes (q : UInt8 → Bool) (h32 : q 32 = true) : ∀ ws : List (List UInt8), (∀ w ∈ ws, w.all q = true) → (joinL ws).all q = true
  | [], _ => rfl
  | [w], h => h w List.mem_cons_self
  | w :: v :: r, h => by
    rw [joinL, List.all_append, List.all_cons, h w List.mem_cons_self, h32, join_bytes q h32 (v :: r) (fun x hx => h x (List.mem_cons_of_mem _ hx))]
    rfl
theorem takeWhile_all {q : UInt8 → Bool} : ∀ {l : List UInt8}, l.all q = true → l.takeWhile q = l
  | [], _ => rfl
  | b :: l, h => by
    rw [List.all_cons, Bool.and_eq_true] at h
    rw [List.takeWhile_cons, if_pos h.1, takeWhile_all h.2]
theorem all_of {w : List UInt8} (h : okW w = true) {q : UInt8 → Bool} (hq : ∀ b, wB b = true → q b = true) : w.all q = true := by
  rw [List.all_eq_true]
  exact fun b hb => hq b ((okW_all h).2 b hb)
theorem bare_join {ws : List (List UInt8)} (h : ∀ w ∈ ws, okW w = true) : bareL (joinL ws) = joinL ws :=
  takeWhile_all (join_bytes _ (by decide) ws (fun w hw => all_of (h w hw) fun b hb => (wB_ok hb).2.2.1))
theorem wds_join {ws : List (List UInt8)} (h : ∀ w ∈ ws, okW w = true) : wds (joinL ws) = ws.map fun l => (⟨l.toArray⟩ : ByteArray) := by
  unfold wds
  rw [bare_join h, fields_join ws h]
theorem plain_join {ws : List (List UInt8)} (h : ∀ w ∈ ws, okW w = true) : isPl (bareL (joinL ws)) = true := by
  rw [bare_join h]
  exact join_bytes plB (by decide) ws (fun w hw => all_of (h w hw) fun b hb => (wB_ok hb).2.1)
theorem no10_join {ws : List (List UInt8)} (h : ∀ w ∈ ws, okW w = true) : ∀ b ∈ joinL ws, b ≠ 10 := by
  have := join_bytes (fun b => b != 10) (by decide) ws (fun w hw => all_of (h w hw) fun b hb => by simpa using (wB_ok hb).2.2.2)
  rw [List.all_eq_true] at this
  intro b hb
  simpa using this b hb
/-- Numerals, names. -/
theorem dig_wB {b : UInt8} (h : isDig b = true) : wB b = true := by
  unfold isDig at h
  unfold wB
  rw [Bool.and_eq_true, decide_eq_true_eq, decide_eq_true_eq] at h
  have h1 : 48 ≤ b.toNat := UInt8.le_iff_toNat_le.1 h.1
  have h2 : b.toNat ≤ 57 := UInt8.le_iff_toNat_le.1 h.2
  simp only [decide_eq_true_eq]
  omega
theorem dec_okW (n : Nat) : okW (Lib.decDigits n) = true := by
  have h := (num_of_dec n).1
  unfold numSyn at h
  rw [Bool.and_eq_true, Bool.and_eq_true] at h
  unfold okW
  rw [Bool.and_eq_true]
  refine ⟨h.1.1, ?_⟩
  rw [List.all_eq_true]
  exact fun b hb => dig_wB (List.all_eq_true.1 h.1.2 b hb)
theorem dec_num (n : Nat) : numParse (Lib.decDigits n) 256 = if n ≤ 256 then ((n : Int), 0) else (0, 3) := by
  obtain ⟨h1, h2⟩ := num_of_dec n
  unfold numParse
  rw [if_pos h1, h2]
theorem addr_okW {s n : Int} (hs : 0 ≤ s ∧ s ≤ 2) (hn : 0 ≤ n ∧ n ≤ 255) : (addrFmt s n).data.toList = letterOf s :: Lib.decDigits n.toNat ∧ okW (addrFmt s n).data.toList = true := by
  have e : (addrFmt s n).data.toList = letterOf s :: Lib.decDigits n.toNat := by
    unfold addrFmt
    rw [if_neg (by omega)]
    have : itoaS n = itoaS ((n.toNat : Nat) : Int) := by rw [show ((n.toNat : Nat) : Int) = n by omega]
    rw [this]
    show (⟨#[letterOf s]⟩ ++ itoaS ((n.toNat : Nat) : Int) : ByteArray).data.toList = _
    rw [ByteArray.data_append, Array.toList_append, itoa_data]
    rfl
  refine ⟨e, ?_⟩
  rw [e]
  have hd := dec_okW n.toNat
  unfold okW at hd ⊢
  rw [Bool.and_eq_true] at hd ⊢
  refine ⟨rfl, ?_⟩
  rw [List.all_cons, hd.2, Bool.and_true]
  unfold letterOf
  split
  · decide
  · split <;> decide
/-- A contact's line, a coil's, any of them. -/
theorem line_conG {S : PSt} (n : Int) {kw ad f t : ByteArray} {l : List Rung} {x : Rung} (hk : kindOf kw = some 3) (hs : S.sized = true) (h : S.rungs = l ++ [x]) (h2 : x.f2 = []) (h3 : x.f3.toList.isEmpty = true) (h1 : x.f1.length < 256)
    (ha : adrE S.i S.q S.m ad.data.toList = 0) (hf : isNm f.data.toList = true) (ht : isNm t.data.toList = true) :
    lineS S n [kw, ad, f, t] = (⟨S.i, S.q, S.m, S.sized, l ++ [⟨x.f0, x.f1 ++ [⟨kwIx kwC kw, ⟨(addrParse ad.data.toList).1, (addrParse ad.data.toList).2.1⟩, f, t⟩], x.f2, x.f3⟩], S.lines, S.jumps⟩, 0) := by
  have hl := lastR_append S l x h
  have hlen : S.rungs.length = l.length + 1 := by rw [h]; simp
  have hset : ∀ y, S.rungs.set (S.rungs.length - 1) y = l ++ [y] := fun y => by
    rw [hlen, h]
    simp
  have e : kindOf (([kw, ad, f, t] : List ByteArray).getD 0 ⟨#[]⟩) = some 3 := hk
  rw [lineS, e]
  simp only []
  rw [if_neg (by simp), if_neg (by simp [hs, hlen]), conS, hl]
  rw [if_neg (by simp [h2, h3]), if_neg (by omega)]
  rw [show ((([kw, ad, f, t] : List ByteArray).getD 1 ⟨#[]⟩)) = ad from rfl, show ((([kw, ad, f, t] : List ByteArray).getD 2 ⟨#[]⟩)) = f from rfl, show ((([kw, ad, f, t] : List ByteArray).getD 3 ⟨#[]⟩)) = t from rfl, show ((([kw, ad, f, t] : List ByteArray).getD 0 ⟨#[]⟩)) = kw from rfl]
  rw [ha, if_neg (by simp), if_neg (by simp [hf, ht]), hset]
theorem line_conBad {S : PSt} (n : Int) {kw ad f t : ByteArray} {l : List Rung} {x : Rung} (hk : kindOf kw = some 3) (hs : S.sized = true) (h : S.rungs = l ++ [x]) (h2 : x.f2 = []) (h3 : x.f3.toList.isEmpty = true) (h1 : x.f1.length < 256)
    (ha : adrE S.i S.q S.m ad.data.toList ≠ 0) : lineS S n [kw, ad, f, t] = (S, adrE S.i S.q S.m ad.data.toList) := by
  have hl := lastR_append S l x h
  have hlen : S.rungs.length = l.length + 1 := by rw [h]; simp
  have e : kindOf (([kw, ad, f, t] : List ByteArray).getD 0 ⟨#[]⟩) = some 3 := hk
  rw [lineS, e]
  simp only []
  rw [if_neg (by simp), if_neg (by simp [hs, hlen]), conS, hl]
  rw [if_neg (by simp [h2, h3]), if_neg (by omega)]
  rw [show ((([kw, ad, f, t] : List ByteArray).getD 1 ⟨#[]⟩)) = ad from rfl, if_pos ha]
theorem line_coilG {S : PSt} (n : Int) {kw ad : ByteArray} {l : List Rung} {x : Rung} (hk : kindOf kw = some 4) (hs : S.sized = true) (h : S.rungs = l ++ [x]) (h3 : x.f3.toList.isEmpty = true) (h1 : x.f2.length < 16)
    (ha : adrE S.i S.q S.m ad.data.toList = 0) (h0 : (addrParse ad.data.toList).1 ≠ 0) :
    lineS S n [kw, ad] = (⟨S.i, S.q, S.m, S.sized, l ++ [⟨x.f0, x.f1, x.f2 ++ [⟨kwIx kwO kw, ⟨(addrParse ad.data.toList).1, (addrParse ad.data.toList).2.1⟩⟩], x.f3⟩], S.lines, S.jumps⟩, 0) := by
  have hl := lastR_append S l x h
  have hlen : S.rungs.length = l.length + 1 := by rw [h]; simp
  have hset : ∀ y, S.rungs.set (S.rungs.length - 1) y = l ++ [y] := fun y => by
    rw [hlen, h]
    simp
  have e : kindOf (([kw, ad] : List ByteArray).getD 0 ⟨#[]⟩) = some 4 := hk
  rw [lineS, e]
  simp only []
  rw [if_neg (by simp), if_neg (by simp [hs, hlen]), coilS, hl]
  rw [if_neg (by simp [h3]), if_neg (by omega)]
  rw [show ((([kw, ad] : List ByteArray).getD 1 ⟨#[]⟩)) = ad from rfl, show ((([kw, ad] : List ByteArray).getD 0 ⟨#[]⟩)) = kw from rfl]
  rw [ha, if_neg (by simp), if_neg h0, hset]
theorem line_coilBad {S : PSt} (n : Int) {kw ad : ByteArray} {l : List Rung} {x : Rung} (hk : kindOf kw = some 4) (hs : S.sized = true) (h : S.rungs = l ++ [x]) (h3 : x.f3.toList.isEmpty = true) (h1 : x.f2.length < 16)
    (ha : adrE S.i S.q S.m ad.data.toList ≠ 0 ∨ (addrParse ad.data.toList).1 = 0) : lineS S n [kw, ad] = (S, if adrE S.i S.q S.m ad.data.toList ≠ 0 then adrE S.i S.q S.m ad.data.toList else 2) := by
  have hl := lastR_append S l x h
  have hlen : S.rungs.length = l.length + 1 := by rw [h]; simp
  have e : kindOf (([kw, ad] : List ByteArray).getD 0 ⟨#[]⟩) = some 4 := hk
  rw [lineS, e]
  simp only []
  rw [if_neg (by simp), if_neg (by simp [hs, hlen]), coilS, hl]
  rw [if_neg (by simp [h3]), if_neg (by omega)]
  rw [show ((([kw, ad] : List ByteArray).getD 1 ⟨#[]⟩)) = ad from rfl]
  by_cases h0 : adrE S.i S.q S.m ad.data.toList ≠ 0
  · rw [if_pos h0, if_pos h0]
  · rw [if_neg h0, if_neg h0, if_pos (ha.resolve_left h0)]
/-- A size line. -/
theorem line_sizeG (n : Int) {a b c : ByteArray} {i q m : Int} (ha : numParse a.data.toList 256 = (i, 0)) (hb : numParse b.data.toList 256 = (q, 0)) (hc : numParse c.data.toList 256 = (m, 0)) :
    lineS S0 n [⟨#[115, 105, 122, 101]⟩, a, b, c] = (⟨i, q, m, true, [], [], []⟩, 0) := by
  have e : kindOf (([⟨#[115, 105, 122, 101]⟩, a, b, c] : List ByteArray).getD 0 ⟨#[]⟩) = some 0 := by
    show kindOf ⟨#[115, 105, 122, 101]⟩ = some 0
    decide
  rw [lineS, e]
  simp only []
  rw [if_neg (by simp)]
  simp [sizeS, nAt, S0, ha, hb, hc]
end Go.Proofs.YtolmkdhgnganaaaDoor.H
namespace Go.Proofs.YtolmkdhgnganaaaDoor.H
open Go Go.RowKit Go.Proofs Go.Proofs.YtolmkdhgnganaaaDoorW.PrintWords Go.Proofs.YtolmkdhgnganaaaDoor.Sp
/-- size i q m -/
def zWs (i q m : Nat) : List (List UInt8) := [[115, 105, 122, 101], Lib.decDigits i, Lib.decDigits q, Lib.decDigits m]
def zLine (i q m : Nat) : List UInt8 := joinL (zWs i q m)
theorem zWs_ok (i q m : Nat) : ∀ w ∈ zWs i q m, okW w = true := by
  intro w hw
  unfold zWs at hw
  simp only [List.mem_cons, List.not_mem_nil, or_false] at hw
  rcases hw with rfl | rfl | rfl | rfl
  · decide
  · exact dec_okW i
  · exact dec_okW q
  · exact dec_okW m
theorem bytes_dec (n : Nat) : (⟨(Lib.decDigits n).toArray⟩ : ByteArray).data.toList = Lib.decDigits n := rfl
theorem zWds (i q m : Nat) : wds (zLine i q m) = [⟨#[115, 105, 122, 101]⟩, ⟨(Lib.decDigits i).toArray⟩, ⟨(Lib.decDigits q).toArray⟩, ⟨(Lib.decDigits m).toArray⟩] := by
  unfold zLine
  rw [wds_join (zWs_ok i q m)]
  rfl
theorem z_ok {i q m : Nat} (h : i ≤ 256 ∧ q ≤ 256 ∧ m ≤ 256) (n : Int) : lineS S0 n (wds (zLine i q m)) = (⟨i, q, m, true, [], [], []⟩, 0) := by
  rw [zWds]
  exact line_sizeG n (by rw [bytes_dec, dec_num, if_pos h.1]) (by rw [bytes_dec, dec_num, if_pos h.2.1]) (by rw [bytes_dec, dec_num, if_pos h.2.2])
theorem z_bad {i q m : Nat} (h : ¬ (i ≤ 256 ∧ q ≤ 256 ∧ m ≤ 256)) (n : Int) : lineS S0 n (wds (zLine i q m)) = (S0, 3) := by
  rw [zWds]
  have e : kindOf (([⟨#[115, 105, 122, 101]⟩, ⟨(Lib.decDigits i).toArray⟩, ⟨(Lib.decDigits q).toArray⟩, ⟨(Lib.decDigits m).toArray⟩] : List ByteArray).getD 0 ⟨#[]⟩) = some 0 := by
    show kindOf ⟨#[115, 105, 122, 101]⟩ = some 0
    decide
  rw [lineS, e]
  simp only []
  rw [if_neg (by simp)]
  unfold sizeS nAt
  rw [if_neg (by simp [S0])]
  simp only [List.getD, List.getElem?_cons_succ, List.getElem?_cons_zero, Option.getD_some, bytes_dec, dec_num]
  by_cases h1 : i ≤ 256
  · by_cases h2 : q ≤ 256
    · have h3 : ¬ m ≤ 256 := fun h3 => h ⟨h1, h2, h3⟩
      simp [h1, h2, h3]
    · simp [h1, h2]
  · simp [h1]
/-- The letters' contact and coil. -/
def yC (s : Int) (k : Nat) : List (List UInt8) := [[110, 99], (addrFmt s k).data.toList, [76], [82]]
def yO (s : Int) (k : Nat) : List (List UInt8) := [[111, 117, 116], (addrFmt s k).data.toList]
theorem y_ok {s : Int} {k : Nat} (hs : 0 ≤ s ∧ s ≤ 2) (hk : k ≤ 255) : (∀ w ∈ yC s k, okW w = true) ∧ (∀ w ∈ yO s k, okW w = true) := by
  have ha := (addr_okW hs (n := k) (by omega)).2
  constructor
  · intro w hw
    unfold yC at hw
    simp only [List.mem_cons, List.not_mem_nil, or_false] at hw
    rcases hw with rfl | rfl | rfl | rfl
    · decide
    · exact ha
    · decide
    · decide
  · intro w hw
    unfold yO at hw
    simp only [List.mem_cons, List.not_mem_nil, or_false] at hw
    rcases hw with rfl | rfl
    · decide
    · exact ha
def sRung : List UInt8 := [114, 117, 110, 103]
theorem sRung_ok : wds sRung = wRung ∧ isPl (bareL sRung) = true ∧ ∀ b ∈ sRung, b ≠ 10 := by decide
theorem adr_at {i q m s : Int} {k : Nat} (hs : 0 ≤ s ∧ s ≤ 2) (hk : k ≤ 255) : addrParse (addrFmt s k).data.toList = (s, (k : Int), 0) ∧ adrE i q m (addrFmt s k).data.toList = if (k : Int) < widthOf i q m s then 0 else 3 := by
  have e := parse_fmt s k (by omega)
  refine ⟨e, ?_⟩
  unfold adrE
  rw [e]
  dsimp only
  rw [if_pos rfl, chkAddr, if_neg (by omega)]
  by_cases h : (k : Int) < widthOf i q m s
  · rw [if_pos h, if_neg (by omega)]
  · rw [if_neg h, if_pos (by omega)]
theorem bytes_eta (x : ByteArray) : (⟨x.data.toList.toArray⟩ : ByteArray) = x := by cases x; simp
/-- The sizes alone. -/
theorem sizes_plain1 (i q m : Nat) : parseL [zLine i q m, []] = if i ≤ 256 ∧ q ≤ 256 ∧ m ≤ 256 then (⟨i, q, m, true, [], [], []⟩, 0, 0) else (S0, 1, 3) := by
  rw [parseL_run (fun p hp => by
    rcases List.mem_cons.1 hp with rfl | hp
    · exact plain_join (zWs_ok i q m)
    · obtain rfl := List.mem_singleton.1 hp; decide)]
  by_cases h : i ≤ 256 ∧ q ≤ 256 ∧ m ≤ 256
  · rw [runP_ok rfl (by rw [zWds]; simp) (z_ok h 1), runP_end, if_pos rfl, if_pos h]
    exact endS_plain rfl (fun r hr => by cases hr)
  · rw [runP_bad rfl (by rw [zWds]; simp) (z_bad h 1) (by omega), if_neg (by simp), if_neg h]
theorem sizes_head {i q m : Nat} (h : i ≤ 256 ∧ q ≤ 256 ∧ m ≤ 256) (l : List UInt8) : runP S0 1 [zLine i q m, sRung, l] = runP ⟨i, q, m, true, [] ++ [newR ⟨#[]⟩], [2], [0]⟩ 3 [l] := by
  rw [runP_ok rfl (by rw [zWds]; simp) (z_ok h 1), runP_ok sRung_ok.1 (by decide) (line_rung _ rfl (by simp))]
  rfl
theorem sizes_plain2 {i q m k : Nat} {s : Int} (h : i ≤ 256 ∧ q ≤ 256 ∧ m ≤ 256) (hs : 0 ≤ s ∧ s ≤ 2) (hk : k ≤ 255) : (parseL [zLine i q m, sRung, joinL (yC s k)]).2 = if (k : Int) < widthOf i q m s then (0, 0) else (3, 3) := by
  have hy := (y_ok hs hk).1
  have hw : wds (joinL (yC s k)) = [⟨#[110, 99]⟩, addrFmt s k, ⟨#[76]⟩, ⟨#[82]⟩] := by
    rw [wds_join hy]
    simp only [yC, List.map_cons, List.map_nil, bytes_eta]
  obtain ⟨e1, e2⟩ := adr_at (i := i) (q := q) (m := m) hs hk
  rw [parseL_run (fun p hp => by
    simp only [List.mem_cons, List.not_mem_nil, or_false] at hp
    rcases hp with rfl | rfl | rfl
    · exact plain_join (zWs_ok i q m)
    · exact sRung_ok.2.1
    · exact plain_join hy), sizes_head h]
  by_cases hkw : (k : Int) < widthOf i q m s
  · rw [if_pos hkw] at e2
    rw [runP_ok hw (by simp) (line_conG (l := []) (x := newR ⟨#[]⟩) 3 (by decide) rfl rfl rfl isE0 (by simp [newR]) e2 (by decide) (by decide)), runP_nil, if_pos rfl, if_pos hkw, endS_plain rfl (fun r hr => by obtain rfl := List.mem_singleton.1 hr; exact isE0)]
  · rw [if_neg hkw] at e2
    rw [runP_bad hw (by simp) (line_conBad (l := []) (x := newR ⟨#[]⟩) 3 (by decide) rfl rfl rfl isE0 (by simp [newR]) (by show adrE (i : Int) q m _ ≠ 0; rw [e2]; omega)) (by show adrE (i : Int) q m _ ≠ 0; rw [e2]; omega)]
    show (if adrE (i : Int) q m (addrFmt s k).data.toList = 0 then _ else _ : PSt × Int × Int).2 = _
    rw [e2, if_neg (by omega), if_neg hkw]
theorem sizes_plain3 {i q m k : Nat} {s : Int} (h : i ≤ 256 ∧ q ≤ 256 ∧ m ≤ 256) (hs : 0 ≤ s ∧ s ≤ 2) (hk : k ≤ 255) : (s ≠ 0 ∧ (k : Int) < widthOf i q m s → (parseL [zLine i q m, sRung, joinL (yO s k)]).2 = (0, 0)) ∧
    (¬ (s ≠ 0 ∧ (k : Int) < widthOf i q m s) → (parseL [zLine i q m, sRung, joinL (yO s k)]).2.1 = 3 ∧ (parseL [zLine i q m, sRung, joinL (yO s k)]).2.2 ≠ 0) := by
  have hy := (y_ok hs hk).2
  have hw : wds (joinL (yO s k)) = [⟨#[111, 117, 116]⟩, addrFmt s k] := by
    rw [wds_join hy]
    simp only [yO, List.map_cons, List.map_nil, bytes_eta]
  obtain ⟨e1, e2⟩ := adr_at (i := i) (q := q) (m := m) hs hk
  rw [parseL_run (fun p hp => by
    simp only [List.mem_cons, List.not_mem_nil, or_false] at hp
    rcases hp with rfl | rfl | rfl
    · exact plain_join (zWs_ok i q m)
    · exact sRung_ok.2.1
    · exact plain_join hy), sizes_head h]
  constructor
  · rintro ⟨h0, hkw⟩
    rw [if_pos hkw] at e2
    rw [runP_ok hw (by simp) (line_coilG (l := []) (x := newR ⟨#[]⟩) 3 (by decide) rfl rfl isE0 (by simp [newR]) e2 (by rw [e1]; exact h0)), runP_nil, if_pos rfl, endS_plain rfl (fun r hr => by obtain rfl := List.mem_singleton.1 hr; exact isE0)]
  · intro hn
    have hbad : adrE (i : Int) q m (addrFmt s k).data.toList ≠ 0 ∨ (addrParse (addrFmt s k).data.toList).1 = 0 := by
      rw [e2, e1]
      by_cases hkw : (k : Int) < widthOf i q m s
      · exact .inr (by by_cases h0 : s = 0; exact h0; exact absurd ⟨h0, hkw⟩ hn)
      · exact .inl (by rw [if_neg hkw]; omega)
    have hne : (if adrE (i : Int) q m (addrFmt s k).data.toList ≠ 0 then adrE (i : Int) q m (addrFmt s k).data.toList else 2) ≠ 0 := by
      split
      · assumption
      · omega
    have hl := line_coilBad (S := ⟨i, q, m, true, [] ++ [newR ⟨#[]⟩], [2], [0]⟩) (kw := ⟨#[111, 117, 116]⟩) (ad := addrFmt s k) (l := []) (x := newR ⟨#[]⟩) 3 (by decide) rfl rfl isE0 (by simp [newR]) hbad
    rw [runP_bad hw (by simp) hl hne]
    rw [if_neg (by exact hne)]
    exact ⟨rfl, hne⟩
end Go.Proofs.YtolmkdhgnganaaaDoor.H
namespace Go.Proofs.YtolmkdhgnganaaaDoor.H
open Go Go.RowKit Go.Proofs Go.Proofs.YtolmkdhgnganaaaDoorW.PrintWords Go.Proofs.YtolmkdhgnganaaaDoorW.PrintLast Go.Proofs.YtolmkdhgnganaaaDoorW.PrintMore Go.Proofs.YtolmkdhgnganaaaDoor.Sp
/-- The law's texts. -/
abbrev zT (i q m : ByteArray) : ByteArray := (⟨#[115, 105, 122, 101, 32]⟩ : ByteArray) ++ i ++ ⟨#[32]⟩ ++ q ++ ⟨#[32]⟩ ++ m ++ ⟨#[10]⟩
abbrev cT (t l k : ByteArray) : ByteArray := t ++ ⟨#[114, 117, 110, 103, 10, 110, 99, 32]⟩ ++ l ++ k ++ ⟨#[32, 76, 32, 82]⟩
abbrev oT (t l k : ByteArray) : ByteArray := t ++ ⟨#[114, 117, 110, 103, 10, 111, 117, 116, 32]⟩ ++ l ++ k
theorem zT_data (i q m : Nat) : (zT (itoaS (i : Int)) (itoaS (q : Int)) (itoaS (m : Int))).data.toList = zLine i q m ++ [10] := by
  unfold zT
  simp only [ByteArray.data_append, Array.toList_append, itoa_data]
  simp [zLine, zWs, joinL]
theorem zT_spl (i q m : Nat) : spl (zT (itoaS (i : Int)) (itoaS (q : Int)) (itoaS (m : Int))).data.toList = [zLine i q m, []] := by
  rw [zT_data]
  show spl (zLine i q m ++ 10 :: []) = _
  rw [spl_append, spl_one (a := zLine i q m) (no10_join (zWs_ok i q m))]
  rfl
theorem cT_spl (i q m : Nat) {s : Int} {k : Nat} (hs : 0 ≤ s ∧ s ≤ 2) (hk : k ≤ 255) : spl (cT (zT (itoaS (i : Int)) (itoaS (q : Int)) (itoaS (m : Int))) ⟨#[letterOf s]⟩ (itoaS (k : Int))).data.toList = [zLine i q m, sRung, joinL (yC s k)] := by
  have e : (cT (zT (itoaS (i : Int)) (itoaS (q : Int)) (itoaS (m : Int))) ⟨#[letterOf s]⟩ (itoaS (k : Int))).data.toList = zLine i q m ++ 10 :: (sRung ++ 10 :: joinL (yC s k)) := by
    unfold cT
    have hz := zT_data i q m
    generalize zT (itoaS (i : Int)) (itoaS (q : Int)) (itoaS (m : Int)) = z at hz
    have ha := (addr_okW hs (n := k) (by omega)).1
    rw [show ((k : Int)).toNat = k by omega] at ha
    simp only [ByteArray.data_append, Array.toList_append, itoa_data, hz]
    simp [sRung, yC, joinL, ha]
  rw [e, spl_append, spl_append, spl_one (a := zLine i q m) (no10_join (zWs_ok i q m)), spl_one sRung_ok.2.2, spl_one (no10_join (y_ok hs hk).1)]
  rfl
theorem oT_spl (i q m : Nat) {s : Int} {k : Nat} (hs : 0 ≤ s ∧ s ≤ 2) (hk : k ≤ 255) : spl (oT (zT (itoaS (i : Int)) (itoaS (q : Int)) (itoaS (m : Int))) ⟨#[letterOf s]⟩ (itoaS (k : Int))).data.toList = [zLine i q m, sRung, joinL (yO s k)] := by
  have e : (oT (zT (itoaS (i : Int)) (itoaS (q : Int)) (itoaS (m : Int))) ⟨#[letterOf s]⟩ (itoaS (k : Int))).data.toList = zLine i q m ++ 10 :: (sRung ++ 10 :: joinL (yO s k)) := by
    unfold oT
    have hz := zT_data i q m
    generalize zT (itoaS (i : Int)) (itoaS (q : Int)) (itoaS (m : Int)) = z at hz
    have ha := (addr_okW hs (n := k) (by omega)).1
    rw [show ((k : Int)).toNat = k by omega] at ha
    simp only [ByteArray.data_append, Array.toList_append, itoa_data, hz]
    simp [sRung, yO, joinL, ha]
  rw [e, spl_append, spl_append, spl_one (a := zLine i q m) (no10_join (zWs_ok i q m)), spl_one sRung_ok.2.2, spl_one (no10_join (y_ok hs hk).2)]
  rfl
theorem zT_size {i q m : ByteArray} (hi : i.size ≤ 4) (hq : q.size ≤ 4) (hm : m.size ≤ 4) : (zT i q m).size ≤ 20 := by
  unfold zT
  simp only [ByteArray.size_append]
  show 5 + i.size + 1 + q.size + 1 + m.size + 1 ≤ 20
  omega
/-- What the three texts' answers are. -/
theorem sz_law1 (i q m : Nat) (h1 : i ≤ 1000) (h2 : q ≤ 1000) (h3 : m ≤ 1000) : parseP (zT (itoaS (i : Int)) (itoaS (q : Int)) (itoaS (m : Int))) = if i ≤ 256 ∧ q ≤ 256 ∧ m ≤ 256 then (⟨i, q, m, true, [], [], []⟩, 0, 0) else (S0, 1, 3) := by
  have hz := zT_size (itoa_len i h1) (itoa_len q h2) (itoa_len m h3)
  rw [parseP_spl (by omega), zT_spl, sizes_plain1]
theorem sz_law2 {i q m k : Nat} {s : Int} (h : i ≤ 256 ∧ q ≤ 256 ∧ m ≤ 256) (hs : 0 ≤ s ∧ s ≤ 2) (hk : k ≤ 255) : (parseP (cT (zT (itoaS (i : Int)) (itoaS (q : Int)) (itoaS (m : Int))) ⟨#[letterOf s]⟩ (itoaS (k : Int)))).2 = if (k : Int) < widthOf i q m s then (0, 0) else (3, 3) := by
  have hz := zT_size (itoa_len i (by omega)) (itoa_len q (by omega)) (itoa_len m (by omega))
  have hk4 := itoa_len k (by omega)
  rw [parseP_spl (by
    unfold cT
    generalize zT (itoaS (i : Int)) (itoaS (q : Int)) (itoaS (m : Int)) = z at hz
    simp only [ByteArray.size_append]
    show z.size + 8 + 1 + (itoaS (k : Int)).size + 4 ≤ _
    omega), cT_spl i q m hs hk, sizes_plain2 h hs hk]
theorem sz_law3 {i q m k : Nat} {s : Int} (h : i ≤ 256 ∧ q ≤ 256 ∧ m ≤ 256) (hs : 0 ≤ s ∧ s ≤ 2) (hk : k ≤ 255) :
    (s ≠ 0 ∧ (k : Int) < widthOf i q m s → (parseP (oT (zT (itoaS (i : Int)) (itoaS (q : Int)) (itoaS (m : Int))) ⟨#[letterOf s]⟩ (itoaS (k : Int)))).2 = (0, 0)) ∧
    (¬ (s ≠ 0 ∧ (k : Int) < widthOf i q m s) → (parseP (oT (zT (itoaS (i : Int)) (itoaS (q : Int)) (itoaS (m : Int))) ⟨#[letterOf s]⟩ (itoaS (k : Int)))).2.1 = 3 ∧ (parseP (oT (zT (itoaS (i : Int)) (itoaS (q : Int)) (itoaS (m : Int))) ⟨#[letterOf s]⟩ (itoaS (k : Int)))).2.2 ≠ 0) := by
  have hz := zT_size (itoa_len i (by omega)) (itoa_len q (by omega)) (itoa_len m (by omega))
  have hk4 := itoa_len k (by omega)
  rw [parseP_spl (by
    unfold oT
    generalize zT (itoaS (i : Int)) (itoaS (q : Int)) (itoaS (m : Int)) = z at hz
    simp only [ByteArray.size_append]
    show z.size + 9 + 1 + (itoaS (k : Int)).size ≤ _
    omega), oT_spl i q m hs hk]
  exact sizes_plain3 h hs hk
/-- A store into a map of the call's own, at the operation 'insert'. -/
theorem wpList_ins {H : Type} {P : Program} (w : World) {ops : Array Oper} {rest : List Oper} {o : Oper} {a : Act} {Q : Exit → Act → World → Prop} (hg : o.guard = none) (m x v : Operand) (t : TypeId) (hop : o.op = Op.insert t m x v)
    (k e : TypeId) (K : Maps.Keyed P k) (ht : P.underlying t = some (.map k e)) (R : Value → Option (DataW H × List MemPlace)) (b n : Nat) (D : DataW H) (hm : a.eval m = .map (some b)) (hown : w.ownsMap P k R b n D) (hn : n < maxLen)
    (key val : Value) (kl : Lit) (hx : a.eval x = key) (hv : a.eval v = val) (hkey : keyOf P k key = some kl) (d : DataW H) (ps : List MemPlace) (hval : R val = some (d, ps))
    (hK : ∀ w', w'.ownsMap P k R b (n + 1) (D.put kl d) → w.grownBy w' (some b) → wpList P ops Q rest (a.put o.dst undef) w') : wpList P ops Q (o :: rest) a w := by
  refine wpList_plain hg fun K' hK' => ?_
  obtain ⟨w', hrun, r1, r2⟩ := hown.update K ht hn hkey hval
  unfold Oper.wp
  simp [execOp, hop, hm, hx, hv, hrun, Result.andThen]
  exact hK' _ _ (hK w' r1 r2)
theorem keyStr_inv : ∀ key kl, keyOf Tryd.prog 9 key = some kl → ∃ x, key = Value.string x := by
  intro key kl h
  cases key <;> simp [keyOf, Tryd.underlying9, mapKey] at h
  exact ⟨_, rfl⟩
theorem keyStr_lit {x : ByteArray} {kl : Lit} (h : keyOf Tryd.prog 9 (.string x) = some kl) : kl = .string x.data.toList := by
  simp [keyOf, Tryd.underlying9, mapKey] at h
  exact h.2.symm
theorem intElem_inv : ∀ v (y : DataW Unit × List MemPlace), plainElem Tryd.prog 3 v = some y → ∃ c, v = Value.int .i64 c := by
  intro v y h
  obtain ⟨a, e, _⟩ := plainElem_int_inv Tryd.underlying3 h
  exact ⟨a, e⟩
/-- The map of the three sizes. -/
def mD (i q m : Int) : DataW Unit := (((DataW.map []).put (.string [73]) (.lit (.int .i64 i))).put (.string [81]) (.lit (.int .i64 q))).put (.string [77]) (.lit (.int .i64 m))
theorem mD_is (i q m : Int) : mD i q m = .map [(.string [73], .lit (.int .i64 i)), (.string [77], .lit (.int .i64 m)), (.string [81], .lit (.int .i64 q))] := by
  unfold mD
  rfl
theorem mD_key {i q m : Int} {kl : Lit} (h : Maps.has (mD i q m) kl = true) : ∃ s : Int, 0 ≤ s ∧ s ≤ 2 ∧ kl = .string [letterOf s] ∧ (mD i q m).atKey kl (.lit (.int .i64 0)) = .lit (.int .i64 (widthOf i q m s)) := by
  rw [mD_is] at h ⊢
  obtain ⟨p, hp, hs⟩ := List.any_eq_true.1 h
  simp only [List.mem_cons, List.not_mem_nil, or_false] at hp
  rcases hp with rfl | rfl | rfl
  · obtain rfl := WideAt.sameKey_eq hs
    exact ⟨0, by omega, by omega, rfl, rfl⟩
  · obtain rfl := WideAt.sameKey_eq hs
    exact ⟨2, by omega, by omega, rfl, rfl⟩
  · obtain rfl := WideAt.sameKey_eq hs
    exact ⟨1, by omega, by omega, rfl, rfl⟩
set_option maxHeartbeats 8000000 in
set_option maxRecDepth 100000 in
theorem siz_b (n0 n1 n2 at0 : Int) (w : World) (hn0 : 0 ≤ n0 ∧ n0 ≤ 65535) (hn1 : 0 ≤ n1 ∧ n1 ≤ 65535) (hn2 : 0 ≤ n2 ∧ n2 ≤ 65535) (hat : 0 ≤ at0 ∧ at0 ≤ 65535) (hL : Lets w) (hP : Pows w) (hE : Errs w) (hK : Kws w) (hG : LexG w) :
    Calls Tryd.prog 7 #[.agg #[.int .u16 n0, .int .u16 n1, .int .u16 n2], .int .u16 at0] w (RetB w (.bool true)) := by
  have HAl := Aside0.mk (fun W (hW : Below w.heap.size w W) => alive10_b W (hL.below hW) (hE.below hW) (hK.below hW) (hG.below hW))
  have HPa := Aside0.mk (fun s W (hW : Below w.heap.size w W) => parse_b s W (hL.below hW) (hE.below hW) (hK.below hW) (hG.below hW))
  have HPw := Aside0.mk (fun s W (hW : Below w.heap.size w W) => parse_w s W (hL.below hW) (hE.below hW) (hK.below hW) (hG.below hW))
  have HIt := Aside0.mk (fun (x : Nat) W (hx : x ≤ 1000) (hW : Below w.heap.size w W) => itoa_b (x : Int) (by omega) (by omega) W (hP.below hW))
  clear hL hP hE hK hG
  obtain ⟨i, hi⟩ : ∃ i : Nat, n0.tmod 300 = (i : Int) := ⟨(n0.tmod 300).toNat, by have := Int.tmod_nonneg (300 : Int) hn0.1; omega⟩
  have hi3 : i < 300 := by have := Int.tmod_lt_of_pos n0 (show (0 : Int) < 300 by omega); omega
  obtain ⟨q, hq⟩ : ∃ q : Nat, n1.tmod 300 = (q : Int) := ⟨(n1.tmod 300).toNat, by have := Int.tmod_nonneg (300 : Int) hn1.1; omega⟩
  have hq3 : q < 300 := by have := Int.tmod_lt_of_pos n1 (show (0 : Int) < 300 by omega); omega
  obtain ⟨m, hm⟩ : ∃ m : Nat, n2.tmod 300 = (m : Int) := ⟨(n2.tmod 300).toNat, by have := Int.tmod_nonneg (300 : Int) hn2.1; omega⟩
  have hm3 : m < 300 := by have := Int.tmod_lt_of_pos n2 (show (0 : Int) < 300 by omega); omega
  obtain ⟨k, hk⟩ : ∃ k : Nat, at0.tmod 256 = (k : Int) := ⟨(at0.tmod 256).toNat, by have := Int.tmod_nonneg (256 : Int) hat.1; omega⟩
  have hk3 : k < 256 := by have := Int.tmod_lt_of_pos at0 (show (0 : Int) < 256 by omega); omega
  have HB0 := Aside0.mk (below_alloc (Below.refl w.heap.size w) (.cells #[.int .u16 n0, .int .u16 n1, .int .u16 n2] 61))
  have K0 := blk_new w (.cells #[.int .u16 n0, .int .u16 n1, .int .u16 n2] 61)
  have x0 := blk_cell K0 0
  have x1 := blk_cell K0 1
  have x2 := blk_cell K0 2
  clear K0
  have HIi := Aside0.mk (fun W (hW : Below w.heap.size w W) => HIt.out i W (by omega) hW)
  have HIq := Aside0.mk (fun W (hW : Below w.heap.size w W) => HIt.out q W (by omega) hW)
  have HIm := Aside0.mk (fun W (hW : Below w.heap.size w W) => HIt.out m W (by omega) hW)
  have HIk := Aside0.mk (fun W (hW : Below w.heap.size w W) => HIt.out k W (by omega) hW)
  have HL1 := Aside0.mk (sz_law1 i q m (by omega) (by omega) (by omega))
  have HL2 := Aside0.mk (fun h s hs => sz_law2 (i := i) (q := q) (m := m) (k := k) (s := s) h hs (by omega))
  have HL3 := Aside0.mk (fun h s hs => sz_law3 (i := i) (q := q) (m := m) (k := k) (s := s) h hs (by omega))
  have z1 := itoa_len i (by omega)
  generalize itoaS (i : Int) = si at HIi HL1 HL2 HL3 z1
  have z2 := itoa_len q (by omega)
  generalize itoaS (q : Int) = sq at HIq HL1 HL2 HL3 z2
  have z3 := itoa_len m (by omega)
  generalize itoaS (m : Int) = sm at HIm HL1 HL2 HL3 z3
  have z4 := itoa_len k (by omega)
  generalize itoaS (k : Int) = sk at HIk HL2 HL3 z4
  clear HIt
  go_enter Tryd.func7, Tryd.ntmps7
  go_wp2_with fail
  go_quiet (fail)
  have HB1 := Aside0.mk (below_step HB0.out (pw_below_drewN (Below.refl _ _) nq))
  generalize (w.alloc (.cells #[.int .u16 n0, .int .u16 n1, .int .u16 n2] 61)).drewN nq = w1 at HB1 ⊢
  clear HB0 x0 x1 x2 hi hq hm hn0 hn1 hn2
  go_wp2_with fail
  refine (HIi.out _ HB1.out).mono ?_
  rintro e w2 ⟨rfl, hb⟩
  have HB2 := Aside0.mk (below_step HB1.out hb)
  clear hb HB1
  go_wp2_with fail
  refine (HIq.out _ HB2.out).mono ?_
  rintro e w3 ⟨rfl, hb⟩
  have HB3 := Aside0.mk (below_step HB2.out hb)
  clear hb HB2
  go_wp2_with fail
  refine (HIm.out _ HB3.out).mono ?_
  rintro e w4 ⟨rfl, hb⟩
  have HB4 := Aside0.mk (below_step HB3.out hb)
  clear hb HB3 HIi HIq HIm
  have hz := zT_size z1 z2 z3
  go_wp2_with fail
  refine (HPa.out _ _ HB4.out).mono ?_
  rintro e w5 ⟨hb, hr⟩
  change (_ ∨ _) at hr
  generalize hT : zT si sq sm = tz at HL1 HL2 HL3 hz
  have hT' : (⟨#[115, 105, 122, 101, 32]⟩ : ByteArray) ++ si ++ ⟨#[32]⟩ ++ sq ++ ⟨#[32]⟩ ++ sm ++ ⟨#[10]⟩ = tz := hT
  rw [hT'] at hr
  have HT := Aside0.mk hT'
  clear hT hT'
  rw [HL1.out] at hr
  obtain ⟨a, hA, ha⟩ : ∃ a : Nat, (if i < q then (q : Int) else (i : Int)) = (a : Int) ∧ (a = q ∨ a = i) ∧ i ≤ a ∧ q ≤ a := by
    by_cases hiq : i < q
    · exact ⟨q, if_pos hiq, .inl rfl, by omega, by omega⟩
    · exact ⟨i, if_neg hiq, .inr rfl, by omega, by omega⟩
  obtain ⟨b, hB, hb2⟩ : ∃ b : Nat, (if a < m then (m : Int) else (a : Int)) = (b : Int) ∧ (b = m ∨ b = a) ∧ m ≤ b ∧ a ≤ b := by
    by_cases ham : a < m
    · exact ⟨m, if_pos ham, .inl rfl, by omega, by omega⟩
    · exact ⟨a, if_neg ham, .inr rfl, by omega, by omega⟩
  by_cases h : i ≤ 256 ∧ q ≤ 256 ∧ m ≤ 256
  · rw [if_pos h] at hr
    have hb3 : ¬ (256 : Int) < (b : Int) := by omega
    have hb4 : ¬ 256 < b := by omega
    rcases hr with ⟨h0, _⟩ | ⟨-, vr, vl, rfl, hS, hl, -, -, -⟩
    · exact absurd rfl h0
    · obtain ⟨A, c, rfl, -, -⟩ := Kd.S_reads hS
      obtain ⟨A', c', rfl, -, -⟩ := Kd.R_reads hl
      dsimp only [List.length_nil]
      rw [HT.out]
      have HB6 := Aside0.mk (below_alloc (below_step HB4.out hb) (.cells #[.int .i64 i, .int .i64 q, .int .i64 m, .slice A 0 c] 24))
      have hmm := @run_makeMap Tryd.prog
      have H := Aside0.mk h
      clear HB4 hb hS hl h ha hb2
      have wI : (Lit.int .i64 (i : Int)).wf = true := by simp [Lit.wf, IntKind.min, IntKind.max, IntKind.signed, IntKind.bits]; omega
      have wQ : (Lit.int .i64 (q : Int)).wf = true := by simp [Lit.wf, IntKind.min, IntKind.max, IntKind.signed, IntKind.bits]; omega
      have wM : (Lit.int .i64 (m : Int)).wf = true := by simp [Lit.wf, IntKind.min, IntKind.max, IntKind.signed, IntKind.bits]; omega
      have own0 := World.ownsMap_made (H := Unit) (w5.alloc (.cells #[.int .i64 i, .int .i64 q, .int .i64 m, .slice A 0 c] 24)) Tryd.prog 9 (plainElem Tryd.prog 3)
      rw [World.size_alloc] at own0
      have HOwn := Aside0.mk own0
      clear own0
      have kI : keyOf Tryd.prog 9 (.string ⟨#[73]⟩) = some (.string [73]) := by kernel_rfl
      have kQ : keyOf Tryd.prog 9 (.string ⟨#[81]⟩) = some (.string [81]) := by kernel_rfl
      have kM : keyOf Tryd.prog 9 (.string ⟨#[77]⟩) = some (.string [77]) := by kernel_rfl
      have HKy := Aside0.mk (And.intro kI (And.intro kQ kM))
      have HWf := Aside0.mk (And.intro wI (And.intro wQ wM))
      clear kI kQ kM wI wQ wM
      have HGm : Aside0 (w.heap.size ≤ w5.heap.size + 1) := ⟨by have := HB6.out.size; rw [World.size_alloc] at this; exact this⟩
      have HB7 := Aside0.mk (below_alloc HB6.out (.map #[] 0))
      go_wp2_with (first
        | (refine wpList_ins _ rfl _ _ _ 62 rfl 9 3 (Maps.string_keyed Tryd.underlying9) Tryd.underlying62 (plainElem Tryd.prog 3) _ 0 _ rfl HOwn.out (by decide) _ _ _ rfl rfl HKy.out.1 _ _ (plainElem_int Tryd.underlying3 HWf.out.1) ?_; intro wa ow gr; have HOa := Aside0.mk ow; have HBa := Aside0.mk (HB7.out.trans ((Below.refl w.heap.size _).grown gr HB7.out.size (fun k e => by cases e; exact HGm.out))); clear ow gr)
        | (refine wpList_ins _ rfl _ _ _ 62 rfl 9 3 (Maps.string_keyed Tryd.underlying9) Tryd.underlying62 (plainElem Tryd.prog 3) _ 1 _ rfl HOa.out (by decide) _ _ _ rfl rfl HKy.out.2.1 _ _ (plainElem_int Tryd.underlying3 HWf.out.2.1) ?_; intro wb ow gr; have HOb := Aside0.mk ow; have HBb := Aside0.mk (HBa.out.trans ((Below.refl w.heap.size _).grown gr HBa.out.size (fun k e => by cases e; exact HGm.out))); clear ow gr)
        | (refine wpList_ins _ rfl _ _ _ 62 rfl 9 3 (Maps.string_keyed Tryd.underlying9) Tryd.underlying62 (plainElem Tryd.prog 3) _ 2 _ rfl HOb.out (by decide) _ _ _ rfl rfl HKy.out.2.2 _ _ (plainElem_int Tryd.underlying3 HWf.out.2.2) ?_; intro wc ow gr; have HOc := Aside0.mk ow; have HBc := Aside0.mk (HBb.out.trans ((Below.refl w.heap.size _).grown gr HBb.out.size (fun k e => by cases e; exact HGm.out))); clear ow gr)
        | (refine wpList_range_own _ rfl _ 62 rfl 9 3 (Maps.string_keyed Tryd.underlying9) Tryd.underlying62 (plainElem Tryd.prog 3) _ 3 (mD i q m) rfl HOc.out ?_; intro wd hrg0 hg0 hs0; have HRg := Aside0.mk hrg0; have HBd := Aside0.mk (HBc.out.trans ((Below.refl w.heap.size _).grown hg0 HBc.out.size (fun k e => by cases e))); have hrs := HBc.out.size; generalize wc.heap.size = gr at HRg hrs ⊢; clear hrg0 hg0 hs0)
        | fail)
      have HLaw2 := Aside0.mk (fun s hs => HL2.out H.out s hs)
      have HLaw3 := Aside0.mk (fun s hs => HL3.out H.out s hs)
      have hrg8 : w.heap.size ≤ gr := hrs
      generalize w5.heap.size + 1 = gm at HRg HOa HOb HOc HGm HOwn ⊢
      clear HL2 HL3 HL1 HOwn HOa HOb HOc HBa HBb HBc HB7 HB6 HKy HWf hmm hrs
      go_loopw [14] (fun _ wr => ∃ left cnt, ∃ wx : World, wx = wr ∧ Aside0 (Below w.heap.size w wx) ∧ Aside0 (wx.ranges Tryd.prog 9 (plainElem Tryd.prog 3) gm gr 3 (mD i q m) left cnt) ∧ Aside0 (∀ kl, left kl = true → Maps.has (mD i q m) kl = true)) (fun _ wr => wr.rangeLeft gm gr)
      case atStart => exact ⟨_, _, _, rfl, HBd, HRg, ⟨fun kl h => h⟩⟩
      case round =>
        clear HRg HBd
        obtain ⟨left, cnt, wx, rfl, HB, HRg, HLf⟩ := hrel
        go_wp2_with (first
          | (refine wpList_next_ranges _ rfl _ rfl 9 (Maps.string_keyed Tryd.underlying9) (plainElem Tryd.prog 3) Value.string (Value.int .i64) keyStr_inv intElem_inv gm gr 3 _ left cnt rfl HRg.out ?_ ?_)
          | fail)
        · intro hd0 hd1
          clear HRg
          go_wp2_with fail
          refine (HAl.out _ HB.out).mono ?_
          rintro e w7 ⟨rfl, hb⟩
          have FB := below_step HB.out hb
          go_wp2
          go_ret
          exact ⟨rfl, FB⟩
        · intro x c kl y ps w2 cnt2 hk2 hl2 hv2 hat2 hrg2 hlt2 hg2 hs2 hen2
          obtain ⟨s, s0, s2, rfl, hwd⟩ := mD_key (HLf.out kl hl2)
          obtain ⟨rfl⟩ : x = ⟨#[letterOf s]⟩ := by
            have := keyStr_lit hk2
            simp only [Lit.string.injEq] at this
            exact bytes_ext this.symm
          obtain ⟨c2, hc2, hy2, -⟩ := plainElem_int_inv Tryd.underlying3 hv2
          obtain rfl : c = c2 := by simpa using hc2
          obtain ⟨rfl, rfl⟩ : y = .lit (.int .i64 c) ∧ ps = [] := by simpa using hy2
          obtain rfl : c = widthOf i q m s := by
            have := (hat2 (.lit (.int .i64 0))).symm.trans hwd
            simpa using this
          have HB2 := Aside0.mk (HB.out.trans ((Below.refl w.heap.size _).grown hg2 HB.out.size (fun k e => by cases e; exact hrg8)))
          have HR2 := Aside0.mk hrg2
          have HLe := Aside0.mk (HRg.out.left_eq)
          have HLt := Aside0.mk hlt2
          have HLf2 : Aside0 (∀ z, (left z && !z.sameKey (.string [letterOf s])) = true → Maps.has (mD i q m) z = true) := ⟨fun z hz => HLf.out z (by rw [Bool.and_eq_true] at hz; exact hz.1)⟩
          have ha2 := HLaw2.out s ⟨s0, s2⟩
          have ha3 := HLaw3.out s ⟨s0, s2⟩
          have hsI : (⟨#[letterOf s]⟩ : ByteArray).size = 1 := rfl
          have hseq : ((⟨#[letterOf s]⟩ : ByteArray).toList != ByteArray.toList ⟨#[73]⟩) = decide (s ≠ 0) := by
            have hs3 : s = 0 ∨ s = 1 ∨ s = 2 := by omega
            rcases hs3 with rfl | rfl | rfl
            · rw [toList_data, toList_data]; decide
            · rw [toList_data, toList_data]; decide
            · rw [toList_data, toList_data]; decide
          clear hk2 hl2 hv2 hat2 hrg2 hlt2 hg2 hs2 hc2 hy2 hwd HB HRg HLf
          generalize widthOf (i : Int) q m s = cw at *
          have HA2 := Aside0.mk ha2
          have HA3 := Aside0.mk ha3
          have HS := Aside0.mk hseq
          clear ha2 ha3
          generalize (⟨#[letterOf s]⟩ : ByteArray) = lt at HA2 HA3 hsI hseq hen2 HS ⊢
          have hsplit : ∃ f1 f2 g1 g2 : Int, (parseP (cT tz lt sk)).2.1 = f1 ∧ (parseP (cT tz lt sk)).2.2 = f2 ∧ (parseP (oT tz lt sk)).2.1 = g1 ∧ (parseP (oT tz lt sk)).2.2 = g2 ∧
              (((k : Int) < cw ∧ s ≠ 0 ∧ f1 = 0 ∧ f2 = 0 ∧ g1 = 0 ∧ g2 = 0) ∨ ((k : Int) < cw ∧ s = 0 ∧ f1 = 0 ∧ f2 = 0 ∧ g1 = 3 ∧ g2 ≠ 0) ∨ (¬ (k : Int) < cw ∧ f1 = 3 ∧ f2 = 3 ∧ g1 = 3 ∧ g2 ≠ 0)) := by
            refine ⟨_, _, _, _, rfl, rfl, rfl, rfl, ?_⟩
            by_cases hkw : (k : Int) < cw
            · have e2 := HA2.out
              rw [if_pos hkw] at e2
              by_cases hs0 : s = 0
              · have e3 := HA3.out.2 (fun h => h.1 hs0)
                exact .inr (.inl ⟨hkw, hs0, by rw [e2], by rw [e2], e3.1, e3.2⟩)
              · have e3 := HA3.out.1 ⟨hs0, hkw⟩
                exact .inl ⟨hkw, hs0, by rw [e2], by rw [e2], by rw [e3], by rw [e3]⟩
            · have e2 := HA2.out
              rw [if_neg hkw] at e2
              have e3 := HA3.out.2 (fun h => hkw h.2)
              exact .inr (.inr ⟨hkw, by rw [e2], by rw [e2], e3.1, e3.2⟩)
          obtain ⟨f1, f2, g1, g2, F1, F2, G1, G2, hcs⟩ := hsplit
          have HF := Aside0.mk (And.intro F1 F2)
          have HG := Aside0.mk (And.intro G1 G2)
          have HCs := Aside0.mk hcs
          clear F1 F2 G1 G2 hcs HA2 HA3 hseq
          go_wp2_with fail
          refine (HIk.out _ HB2.out).mono ?_
          rintro e w7 ⟨rfl, hb⟩
          have HB7 := Aside0.mk (below_step HB2.out hb)
          have HR7 := Aside0.mk (HR2.out.kept (grown_of hb) (by simp) (by simp))
          clear hb HB2 HR2 hen2
          go_wp2_with fail
          refine (HPw.out _ _ HB7.out).mono ?_
          rintro e w8 ⟨hb, y1, y2, y3, Y1, n1, d1, Y2, n2', d2, rfl⟩
          rw [HF.out.1, HF.out.2]
          have HB8 := Aside0.mk (below_alloc (below_step HB7.out hb) (.cells #[.int .i64 y1, .int .i64 y2, .int .i64 y3, .slice Y1 n1 d1] 24))
          have HR8 := Aside0.mk ((HR7.out.kept (grown_of hb) (by simp) (by simp)).alloc (.cells #[.int .i64 y1, .int .i64 y2, .int .i64 y3, .slice Y1 n1 d1] 24))
          clear hb HB7 HR7 HF
          go_wp2_with fail
          generalize w8.alloc (.cells #[.int .i64 y1, .int .i64 y2, .int .i64 y3, .slice Y1 n1 d1] 24) = w9 at HB8 HR8 ⊢
          refine (HIk.out _ HB8.out).mono ?_
          rintro e w10 ⟨rfl, hb⟩
          have HB10 := Aside0.mk (below_step HB8.out hb)
          have HR10 := Aside0.mk (HR8.out.kept (grown_of hb) (by simp) (by simp))
          clear hb HB8 HR8
          go_wp2_with fail
          refine (HPw.out _ _ HB10.out).mono ?_
          rintro e w11 ⟨hb, v1, v2, v3, V1, n3, d3, V2, n4, d4, rfl⟩
          rw [HG.out.1, HG.out.2]
          have HB12 := Aside0.mk (below_alloc (below_step HB10.out hb) (.cells #[.int .i64 v1, .int .i64 v2, .int .i64 v3, .slice V1 n3 d3] 24))
          have HR12 := Aside0.mk ((HR10.out.kept (grown_of hb) (by simp) (by simp)).alloc (.cells #[.int .i64 v1, .int .i64 v2, .int .i64 v3, .slice V1 n3 d3] 24))
          clear hb HB10 HR10 HG
          have hcs := HCs.out
          have q1 : (lt.toList == ByteArray.toList ⟨#[73]⟩) = !decide (s ≠ 0) := by rw [← HS.out]; simp [bne]
          have q2 : (lt.toList == [73]) = !decide (s ≠ 0) := by
            rw [← q1]
            congr 1
            rw [toList_data]
          have q3 := HS.out
          rcases hcs with ⟨hkw, hs0, rfl, rfl, rfl, rfl⟩ | ⟨hkw, hs0, rfl, rfl, rfl, hg⟩ | ⟨hkw, rfl, rfl, rfl, hg⟩
          · rw [decide_eq_true hs0] at q1 q2 q3
            clear HCs HS hs0
            go_wp2
            go_roundw
            case rel => exact ⟨_, _, _, rfl, HB12, HR12, HLf2⟩
            case measure => rw [HR12.out.left_eq, HLe.out]; exact HLt.out
          · rw [decide_eq_false (by simpa using hs0)] at q1 q2 q3
            have hgb : (g2 == 0) = false := beq_eq_false_iff_ne.2 hg
            have hgc : (g2 != 0) = true := by simpa using hg
            clear HCs HS hs0 hg
            go_wp2
            go_roundw
            case rel => exact ⟨_, _, _, rfl, HB12, HR12, HLf2⟩
            case measure => rw [HR12.out.left_eq, HLe.out]; exact HLt.out
          · have hgb : (g2 == 0) = false := beq_eq_false_iff_ne.2 hg
            have hgc : (g2 != 0) = true := by simpa using hg
            clear HCs HS hg q1 q2 q3
            go_wp2
            go_roundw
            case rel => exact ⟨_, _, _, rfl, HB12, HR12, HLf2⟩
            case measure => rw [HR12.out.left_eq, HLe.out]; exact HLt.out
  · rw [if_neg h] at hr
    have hb3 : (256 : Int) < (b : Int) := by omega
    have hb4 : 256 < b := by omega
    rcases hr with ⟨-, rfl⟩ | ⟨h0, _⟩
    · have HB6 := Aside0.mk (below_alloc (below_step HB4.out hb) (.cells #[.int .i64 0, .int .i64 0, .int .i64 0, .slice none 0 0] 24))
      dsimp only
      clear HB4 hb HL1 HL2 HL3 h ha hb2
      go_wp2_with fail
      refine (HAl.out _ HB6.out).mono ?_
      rintro e w7 ⟨rfl, hb⟩
      have FB := below_step HB6.out hb
      go_wp2
      go_ret
      exact ⟨rfl, FB⟩
    · exact absurd h0 (by dsimp only; omega)
end Go.Proofs.YtolmkdhgnganaaaDoor.H
namespace Go.Proofs.YtolmkdhgnganaaaDoor.R
open Go Go.RowKit Go.Proofs Go.Proofs.YtolmkdhgnganaaaDoorW.PrintWords Go.Proofs.YtolmkdhgnganaaaDoor.H Go.ChangeShapes Go.WideShapes Go.ChangeAt
theorem own : ownKnob Tryd.prog.godebug = none := by kernel_rfl
theorem laidOut : laidOutB Tryd.prog = true := by kernel_rfl
/-- A listed array of strings: its cells. -/
theorem strs_cells {P : Program} {w : World} {name : String} {ds : List (DataW Unit)} {g t e n : Nat} (h : Lib.VarReads P w name (.agg ds)) (hg : P.globalNamed name = some g) (hty : (P.globals[g]?).map (·.type) = some t)
    (ht : P.underlying t = some (.array n e)) (he : P.underlying e = some .string) (hce : P.cellsOf e = 1) (i : Nat) (hi : i < n) (bs : List UInt8) (hd : ds[i]? = some (.lit (.string bs))) :
    w.cell? ⟨g, i, none⟩ = some (.string ⟨bs.toArray⟩) := by
  obtain ⟨g', t', cs, fuel, p, h1, h2, h3, h4⟩ := h
  obtain rfl := Option.some.inj (hg.symm.trans h1)
  obtain rfl := Option.some.inj (hty.symm.trans h2)
  obtain ⟨f2, d, q, e1, e2⟩ := Lib.array_elem ht h4 i hi
  rw [e1] at hd
  obtain rfl := Option.some.inj hd
  rw [hce] at e2
  obtain ⟨s, hc, hs, _⟩ := DataW.trod_string he e2
  have hcs : cs.toList[i]? = some (.string s) := by
    have := congrArg (·[0]?) hc
    simpa [List.getElem?_take, List.getElem?_drop] using this
  rw [World.var?_cell h1 h3 i]
  have hcs' : cs[i]? = some (.string s) := by simpa using hcs
  rw [hcs']
  simp only [Prod.mk.injEq, DataW.lit.injEq, Lit.string.injEq] at hs
  rw [hs.1]
/-- A listed error: it is not nil. -/
theorem err_var {P : Program} {w : World} {name tn : String} {d : DataW Unit} {g t : Nat} {ms : Array (String × TypeId)} (h : Lib.VarReads P w name (.iface tn d)) (hg : P.globalNamed name = some g) (hty : (P.globals[g]?).map (·.type) = some t)
    (ht : P.underlying t = some (.interface ms)) : ∃ u v, w.var? P name = some #[.iface u v] := by
  obtain ⟨g', t', cs, fuel, p, h1, h2, h3, h4⟩ := h
  obtain rfl := Option.some.inj (hg.symm.trans h1)
  obtain rfl := Option.some.inj (hty.symm.trans h2)
  have key : ∀ l : List Value, DataW.trod (fun _ => ()) P w 0 (fun _ => true) false fuel t l = some (.iface tn d, p) → ∃ u v, l = [.iface u v] := by
    intro l hl
    cases fuel with
    | zero => simp [DataW.trod] at hl
    | succ fuel =>
      unfold DataW.trod at hl
      rw [ht] at hl
      split at hl <;> first | (simp_all; done) | skip
      all_goals rename_i hu _
      all_goals first
        | exact ⟨_, _, rfl⟩
        | (exfalso; simp_all)
  obtain ⟨u, v, e⟩ := key cs.toList h4
  refine ⟨u, v, ?_⟩
  rw [h3]
  congr 1
  apply Array.toList_inj.1
  rw [e]
open Go.ChangeMaps (open_string shut_string)
/-- A datum that is a table of whole numbers. -/
theorem tab_reads {P : Program} {w : World} {name : String} {k : IntKind} {zs : List Int} {d : DataW Unit} {g t e n : Nat} (h : Lib.VarReads P w name d) (hd : d = Lib.tabData k zs) (hg : P.globalNamed name = some g) (hty : (P.globals[g]?).map (·.type) = some t)
    (ht : P.underlying t = some (.array n e)) (he : P.underlying e = some (.int k)) (hce : P.cellsOf e = 1) (hct : P.cellsOf t = n) : Lib.TabIs P w name k zs := by
  subst hd
  obtain ⟨g', t', cs, fuel, p, h1, h2, h3, h4⟩ := h
  obtain rfl := Option.some.inj (hg.symm.trans h1)
  obtain rfl := Option.some.inj (hty.symm.trans h2)
  unfold Lib.TabIs
  rw [h3, ← Lib.cells_of_tab ht he hce hct h4]
section
variable {H : Type} {enc : TypeId × Value → H} {P : Program} {w : World} {base : Nat} {sp : Nat → Bool} {held : Bool}
/-- An array of three whole numbers. -/
theorem open_arr3 {r : Reach} {b0 : Nat} {t e : TypeId} {k : IntKind} {v : Value} {d : DataW H} {p : List MemPlace} (ht : P.underlying t = some (.array 3 e)) (he : P.underlying e = some (.int k)) (hce : P.cellsOf e = 1) (hct : P.cellsOf t = 3)
    (hv : Value.okWide P w r b0 t v) (h : DataW.Trod enc P w base sp held t v d p) :
    ∃ x y z, v = .agg #[.int k x, .int k y, .int k z] ∧ (Lit.int k x).wf = true ∧ (Lit.int k y).wf = true ∧ (Lit.int k z).wf = true := by
  obtain ⟨cs, rfl, hsz⟩ : ∃ cs, v = .agg cs ∧ cs.size = P.cellsOf t := by
    simp only [Value.okWide, ht] at hv
    obtain ⟨cs, h1, h2, _⟩ := hv
    exact ⟨cs, h1, h2⟩
  obtain ⟨c0, c1, c2, rfl⟩ := Joins.array3 (hsz.trans hct)
  obtain ⟨fuel, hf⟩ := h
  obtain ⟨d, hd⟩ : ∃ ds, d = .agg ds := by
    cases fuel with
    | zero => simp [DataW.trod] at hf
    | succ fuel =>
      simp only [DataW.trod, ht] at hf
      split at hf
      · obtain ⟨xs, hm, hx⟩ := Option.map_eq_some_iff.1 hf
        simp only [Prod.mk.injEq] at hx
        exact ⟨_, hx.1.symm⟩
      · cases hf
  subst hd
  have key : ∀ i (hi : i < 3) (c : Value), ([c0, c1, c2] : List Value)[i]? = some c → ∃ x, c = .int k x ∧ (Lit.int k x).wf = true := by
    intro i hi c hc
    obtain ⟨f2, d2, q, e1, e2⟩ := Lib.array_elem ht hf i hi
    rw [hce] at e2
    obtain ⟨x, hx, _, hw⟩ := DataW.trod_int he e2
    have := congrArg (·[0]?) hx
    refine ⟨x, ?_, hw⟩
    simp only [Value.cells, List.getElem?_take, List.getElem?_drop] at this
    simp only [Nat.mul_one, Nat.add_zero, Nat.zero_lt_one, if_true] at this
    simpa [hc] using this
  obtain ⟨x, rfl, wx⟩ := key 0 (by omega) c0 rfl
  obtain ⟨y, rfl, wy⟩ := key 1 (by omega) c1 rfl
  obtain ⟨z, rfl, wz⟩ := key 2 (by omega) c2 rfl
  exact ⟨x, y, z, rfl, wx, wy, wz⟩
theorem trod_blocks {t : TypeId} {v : Value} {d : DataW H} {p : List MemPlace} (h : DataW.Trod enc P w base sp held t v d p) : ∀ x ∈ p, x.block < w.heap.size := by
  obtain ⟨m, hm⟩ := h
  exact DataW.trod_lt m _ _ _ hm
end
/-- What a card asks of the parameters. -/
theorem plain_in {P : Program} {name : String} {f : FuncId} {fn : Func} {lk : Bool} (hf : P.funcs[f]? = some fn) (hn : P.funcNamed name = some f) (hlk : lk = P.looks []) (hall : (fn.params.toList.all fun t => !P.wantsStandIn t) = true) :
    ∀ f' fn', P.funcNamed name = some f' → P.funcs[f']? = some fn' → lk = P.looks [] ∧ ∀ (j : Nat) t, fn'.params[j]? = some t → P.wantsStandIn t = false := by
  intro f' fn' h1 h2
  obtain rfl := Option.some.inj (hn.symm.trans h1)
  obtain rfl := Option.some.inj (hf.symm.trans h2)
  refine ⟨hlk, fun j t ht => ?_⟩
  have hm : t ∈ fn.params.toList := by simpa using Array.mem_of_getElem? ht
  simpa using List.all_eq_true.1 hall t hm
theorem lets_of {w : World} (h : Lib.VarReads Tryd.prog w "busbar/addr.letters" (.agg [.lit (.string [73]), .lit (.string [81]), .lit (.string [77])])) : Lets w :=
  ⟨strs_cells (g := 2) h (by kernel_rfl) (by kernel_rfl) Tryd.underlying111 Tryd.underlying9 (by kernel_rfl) 0 (by omega) [73] rfl,
   strs_cells (g := 2) h (by kernel_rfl) (by kernel_rfl) Tryd.underlying111 Tryd.underlying9 (by kernel_rfl) 1 (by omega) [81] rfl,
   strs_cells (g := 2) h (by kernel_rfl) (by kernel_rfl) Tryd.underlying111 Tryd.underlying9 (by kernel_rfl) 2 (by omega) [77] rfl⟩
theorem pows_of {w : World} {d : DataW Unit} (h : Lib.VarReads Tryd.prog w "internal/strconv.uint64pow10" d) (hd : d = Lib.tabData .u64 Lib.pow10Tab) : Pows w :=
  ⟨tab_reads (g := 4) h hd (by kernel_rfl) (by kernel_rfl) Tryd.underlying149 Tryd.underlying126 (by kernel_rfl) (by kernel_rfl)⟩
theorem errs_of {w : World} {n1 n2 : String} {d1 d2 : DataW Unit} (h1 : Lib.VarReads Tryd.prog w "strconv.ErrSyntax" (.iface n1 d1)) (h2 : Lib.VarReads Tryd.prog w "strconv.ErrRange" (.iface n2 d2)) : Errs w :=
  ⟨err_var (g := 9) h1 (by kernel_rfl) (by kernel_rfl) Tryd.underlying107, err_var (g := 10) h2 (by kernel_rfl) (by kernel_rfl) Tryd.underlying107⟩
end Go.Proofs.YtolmkdhgnganaaaDoor.R
namespace Go.Proofs.YtolmkdhgnganaaaDoor.R
open Go Go.RowKit Go.Proofs Go.Proofs.YtolmkdhgnganaaaDoorW.PrintWords Go.Proofs.YtolmkdhgnganaaaDoor.H Go.ChangeShapes Go.WideShapes Go.ChangeAt Go.Deep
section
variable {H : Type} {enc : TypeId × Value → H} {w : World} {base : Nat} {sp : Nat → Bool} {held : Bool}
end
theorem kws_of {w : World} (h : Lib.VarReads Tryd.prog w "busbar/parse.contacts" (.agg [.lit (.string [110, 111]), .lit (.string [110, 99]), .lit (.string [117, 112]), .lit (.string [100, 111, 119, 110])]))
    (h2 : Lib.VarReads Tryd.prog w "busbar/parse.coils" (.agg [.lit (.string [111, 117, 116]), .lit (.string [110, 111, 116]), .lit (.string [115, 101, 116]), .lit (.string [114, 101, 115, 101, 116])])) : Kws w := by
  have k := fun i hi bs hd => strs_cells (g := 0) h (by kernel_rfl) (by kernel_rfl) Tryd.underlying105 Tryd.underlying9 (by kernel_rfl) i hi bs hd
  have k2 := fun i hi bs hd => strs_cells (g := 1) h2 (by kernel_rfl) (by kernel_rfl) Tryd.underlying105 Tryd.underlying9 (by kernel_rfl) i hi bs hd
  refine ⟨fun j hj => ?_, fun j hj => ?_⟩
  · match j, hj with
    | 0, hj => exact k 0 hj _ rfl
    | 1, hj => exact k 1 hj _ rfl
    | 2, hj => exact k 2 hj _ rfl
    | 3, hj => exact k 3 hj _ rfl
  · match j, hj with
    | 0, hj => exact k2 0 hj _ rfl
    | 1, hj => exact k2 1 hj _ rfl
    | 2, hj => exact k2 2 hj _ rfl
    | 3, hj => exact k2 3 hj _ rfl
end Go.Proofs.YtolmkdhgnganaaaDoor.R
namespace Go.Proofs.YtolmkdhgnganaaaDoor.R
open Go Go.RowKit Go.Proofs Go.Proofs.YtolmkdhgnganaaaDoorW.PrintWords Go.Proofs.YtolmkdhgnganaaaDoor.H Go.ChangeShapes Go.WideShapes Go.ChangeAt
/-- A call of a row that lists variables: its contract may ask for the world's shape. -/
theorem handed_sh {H : Type} {enc : TypeId × Value → H} {a : Assume} {C : Checked} {os : Os} {f : FuncId} {fn : Func} {s : ChangeSpec} {conds : List PathCond} {apart fresh handsOn again : Bool} {X : World → Array Value → Prop}
    (keep : ∀ (u v : World) (args : Array Value), u.heap = v.heap → X u args → X v args) (ow : ownKnob C.prog.godebug = none) (st : os.Started) (ni : C.prog.inits.idxOf? f = none) (hf : C.prog.funcs[f]? = some fn)
    (wit : ∃ (w : World) (tape : Tape) (i : Input), w.os = os ∧ (w.forCall tape i).Shaped C.prog ∧ i.vars = [] ∧ Input.okWide C.prog (w.forCall tape i) .any w.heap.size f i ∧
      ((s.pre enc C.prog fn conds apart (w.forCall tape i).memory i.args ∧ X (w.forCall tape i).memory i.args) ∧ sizedMet enc C.prog fn (OpenSpec.ofChange s) apart (w.forCall tape i).memory i.args) ∧ a.holds C.prog (lone (Frame.enter C.prog f i.args .normal) [] (w.forCall tape i)))
    (con : ∀ (W : World) (base : Nat) (args : Array Value) (ds gs : List (DataW H)) (before : List MemPlace), (∀ (j : Nat) t v, fn.params[j]? = some t → args[j]? = some v → Value.okWide C.prog W .any base t v) →
      DataW.Whole enc C.prog fn.params.toList s.vars apart W args.toList ds gs before → conds.all (PathCond.test C.prog ⟨fn.params.toList, ds, s.plain.varTypes C.prog, gs⟩) = true →
      (DataW.weightsEach C.prog (fn.params.toList ++ s.plain.varTypes C.prog) (ds ++ gs)).all (· ≤ reachBytes) = true → X W args → W.ShapedOpen C.prog →
      Calls C.prog f args W fun e W' => ∃ v, e = .returned v ∧ s.post enc C.prog fn apart fresh handsOn again W args v W') :
    ReturnsInHanded a C os f .any (fun w args => (s.pre enc C.prog fn conds apart w args ∧ X w args) ∧ sizedMet enc C.prog fn (OpenSpec.ofChange s) apart w args) (s.post enc C.prog fn apart fresh handsOn again) := by
  refine returnsInHanded_of_calls ow st ni wit ?_
  intro w tape i _ sh _ ok pre _
  obtain ⟨_, _, _, g, hg, _, _, _, _, val⟩ := ok
  obtain rfl : g = fn := Option.some.inj (hg.symm.trans hf)
  obtain ⟨⟨⟨ds, gs, before, hw, hc⟩, hx⟩, hz⟩ := pre
  refine (con (w.forCall tape i) w.heap.size i.args ds gs before val (DataW.Whole.of_heap (w' := w.forCall tape i) (by rfl) hw) hc (hz.weights hw) (keep _ _ _ (by rfl) hx) sh).mono ?_
  rintro e W' ⟨v, rfl, hp⟩
  exact ChangeSpec.post_blind hp
theorem lexg_of {w : World} {d : DataW Unit} (h : Lib.VarReads Tryd.prog w "strings.asciiSpace" d) (hd : d = Lib.tabData .u8 Lib.asciiSpaceTab) (sh : w.ShapedOpen Tryd.prog) : LexG w :=
  ⟨cell_of_shapedOpen_int (zero := #[.int .i64 0]) (t := 3) sh (of_decide_eq_true (by kernel_rfl)) (by kernel_rfl) rfl (by kernel_rfl) (by kernel_rfl) Tryd.underlying3,
   tab_reads (g := 3) h hd (by kernel_rfl) (by kernel_rfl) Tryd.underlying135 Tryd.underlying5 (by kernel_rfl) (by kernel_rfl)⟩
end Go.Proofs.YtolmkdhgnganaaaDoor.R
