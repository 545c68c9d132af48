/-
  What the claim's row leans on, part 3: The parser's line: the keyword is looked up, the line is checked, its method is called. lex.Lines: the walk. Parse, in plain words. parse.Parse. The reference's parser in memory: what its block and its rows hold, and what its methods keep. The reference's own small functions answer what the program's plain functions answer: letter, IsName, Width, CheckAddr. The plain laws of the address layer: Format and Parse are inverse to each other; a valid address has a textual form. No program in sight. The reference's Number: a decimal numeral of at most most. The reference's numbers, addresses, and where it finds a word. The reference's addr.Parse. The reference's CheckAddr, Behind and keywords: the parts of Ref2, Ref3, Ref6 that a seat of the parser's has. The reference's parser: its address and its size line. The reference's parser: its size line.
-/
import Derived.Test.YtolmkdhgnganaaaGreatDoorMgPMb
set_option linter.unusedVariables false
set_option linter.unusedSimpArgs false
namespace Go.Proofs.YtolmkdhgnganaaaGreatDoor.H
open Go Go.RowKit Go.Proofs Go.Proofs.YtolmkdhgnganaaaGreatDoorW.PrintWords Go.Proofs.YtolmkdhgnganaaaGreatDoor.Sp
/-- Which method a keyword has: 0 size, 1 rung, 2 jump, 3 a contact, 4 a coil. -/
def kindOf (x : ByteArray) : Option Nat :=
  if (x == ⟨#[115, 105, 122, 101]⟩) = true then some 0 else
  if (x == ⟨#[114, 117, 110, 103]⟩) = true then some 1 else
  if (x == ⟨#[106, 117, 109, 112]⟩) = true then some 2 else
  if (x == ⟨#[110, 111]⟩) = true then some 3 else
  if (x == ⟨#[110, 99]⟩) = true then some 3 else
  if (x == ⟨#[117, 112]⟩) = true then some 3 else
  if (x == ⟨#[100, 111, 119, 110]⟩) = true then some 3 else
  if (x == ⟨#[111, 117, 116]⟩) = true then some 4 else
  if (x == ⟨#[110, 111, 116]⟩) = true then some 4 else
  if (x == ⟨#[115, 101, 116]⟩) = true then some 4 else
  if (x == ⟨#[114, 101, 115, 101, 116]⟩) = true then some 4 else none
def wordK (gp : Nat) : Nat → Value
  | 0 => wordV gp 4 4 false false 63
  | 1 => wordV gp 1 2 true false 64
  | 2 => wordV gp 2 2 true true 65
  | 3 => wordV gp 4 4 true true 66
  | _ => wordV gp 2 2 true true 67
theorem tab_find (gp : Nat) (x : ByteArray) : ((tabW gp).find? (fun p => x == p.1)).map (·.2) = (kindOf x).map (wordK gp) := by
  unfold kindOf tabW
  simp only [List.find?_cons]
  repeat (split; · rename_i hq; simp only [hq, if_true]; rfl
          rename_i hq; simp only [hq, Bool.false_eq_true, if_false])
  rfl
theorem tab_look (gp : Nat) (x : ByteArray) (z : Value) : (match (tabW gp).find? (fun p => x == p.1) with | some p => Value.tuple #[p.2, .bool true] | none => Value.tuple #[z, .bool false]) =
    match kindOf x with | some k => Value.tuple #[wordK gp k, .bool true] | none => Value.tuple #[z, .bool false] := by
  have h := tab_find gp x
  cases hf : (tabW gp).find? (fun p => x == p.1) with
  | none => rw [hf] at h; cases hk : kindOf x with
    | none => rfl
    | some k => rw [hk] at h; cases h
  | some p => rw [hf] at h; cases hk : kindOf x with
    | none => rw [hk] at h; cases h
    | some k => rw [hk] at h; simp only [Option.map_some, Option.some.injEq] at h; simp only [h]
theorem kind_cases {x : ByteArray} {k : Nat} (h : kindOf x = some k) : k = 0 ∨ k = 1 ∨ k = 2 ∨ k = 3 ∨ k = 4 := by
  unfold kindOf at h
  repeat' split at h
  all_goals cases h
  all_goals simp
/-- What a line does. -/
def lineS (S : PSt) (n : Int) (ws : List ByteArray) : PSt × Int :=
  match kindOf (ws.getD 0 ⟨#[]⟩) with
  | none => (S, 8)
  | some 0 => if ws.length ≠ 4 then (S, 6) else sizeS S ws
  | some 1 => if 2 < ws.length then (S, 6) else if S.sized = false then (S, 11) else beginS S n ws
  | some 2 => if ws.length ≠ 2 then (S, 6) else if S.sized = false ∨ S.rungs.length = 0 then (S, 11) else jumpS S n ws
  | some 3 => if ws.length ≠ 4 then (S, 6) else if S.sized = false ∨ S.rungs.length = 0 then (S, 11) else conS S ws
  | some _ => if ws.length ≠ 2 then (S, 6) else if S.sized = false ∨ S.rungs.length = 0 then (S, 11) else coilS S ws
/-- No rung has too much. -/
def Caps (S : PSt) : Prop := ∀ r ∈ S.rungs, r.f1.length ≤ 256 ∧ r.f2.length ≤ 16
set_option maxHeartbeats 4000000 in
set_option maxRecDepth 100000 in
theorem line_p {B gp gm : Nat} {S : PSt} {vr vl vj : Value} {w : World} (h : PF B gp S vr vl vj w) (hm : MapIs w gm (tabW gp)) (n : Int) (b nw wc : Nat) (ws : List ByteArray) (hw : Kd.string.R 9 w B (fun _ => True) (.slice (some ⟨b, 0, none⟩) nw wc) ws)
    (hsz : ∀ j, (ws.getD j ⟨#[]⟩).size ≤ 65536) (hnw : 0 < nw) (hc : Caps S) (hE : Env B w) :
    Calls Tryz.prog 33 #[.pointer (some ⟨gp, 0, none⟩), .map (some gm), .agg #[.int .i64 n, .slice (some ⟨b, 0, none⟩) nw wc]] w (ParR B gp w (lineS S n ws)) := by
  have hlen : nw = ws.length := (Kd.R_reads' hw).1
  have HLen := Aside0.mk hlen
  generalize hr : lineS S n ws = r
  have HR := Aside0.mk hr
  have H := Aside0.mk h
  have HW := Aside0.mk hw
  have HEn := Aside0.mk hE
  have hb0 := below_alloc (Below.refl w.heap.size w) (.cells #[.int .i64 n, .slice (some ⟨b, 0, none⟩) nw wc] 81)
  have HB0 := Aside0.mk hb0
  have hlk := (hm.below hb0).look (s := ws.getD 0 ⟨#[]⟩) Tryz.underlying9 Tryz.underlying78 (z := .agg #[.int .i64 0, .int .i64 0, .bool false, .bool false, .nilFunc]) (by rfl)
  replace hlk := hlk.trans (congrArg (fun v => Result.ok v _) (tab_look gp (ws.getD 0 ⟨#[]⟩) _))
  have hz0 : (w.alloc (.cells #[.int .i64 n, .slice (some ⟨b, 0, none⟩) nw wc] 81)).cell? ⟨b, 0, none⟩ = some (.string (ws.getD 0 ⟨#[]⟩)) := words_cell (Kd.R_below hw hb0) 0 (by omega)
  have hnw' : (0 : Int) < nw := by omega
  cases hk : kindOf (ws.getD 0 ⟨#[]⟩) with
  | none =>
    rw [hk] at hlk
    obtain rfl : r = (S, 8) := by rw [← HR.out, lineS, hk]
    have HK := Aside0.mk hk
    generalize ws.getD 0 ⟨#[]⟩ = x0 at hz0 hlk
    clear h hw hE hlen hsz hc hk hr hm hb0
    go_enter Tryz.func33, Tryz.ntmps33
    go_wp2
    go_ret
    exact ⟨rfl, KP.of_below H.out.sz (below_alloc HB0.out _), fun e => by cases e⟩
  | some k =>
    rw [hk] at hlk
    have HK := Aside0.mk hk
    have hcs := kind_cases hk
    generalize ws.getD 0 ⟨#[]⟩ = x0 at hz0 hlk
    clear h hw hE hlen hk hr hm hb0
    have HSz := Aside0.mk hsz
    have HC := Aside0.mk hc
    clear hsz hc
    rcases hcs with rfl | rfl | rfl | rfl | rfl
    · simp only [wordK, wordV] at hlk
      have hb1 := below_alloc HB0.out (.cells #[.int .i64 4, .int .i64 4, .bool false, .bool false, .func (.func 63) #[.pointer (some ⟨gp, 0, none⟩)] #[]] 126)
      have HB1 := Aside0.mk hb1
      have KL := Aside0.mk (blk_alloc (blk_new w (.cells #[.int .i64 n, .slice (some ⟨b, 0, none⟩) nw wc] 81)) (.cells #[.int .i64 4, .int .i64 4, .bool false, .bool false, .func (.func 63) #[.pointer (some ⟨gp, 0, none⟩)] #[]] 126))
      have KW := Aside0.mk (blk_new (w.alloc (.cells #[.int .i64 n, .slice (some ⟨b, 0, none⟩) nw wc] 81)) (.cells #[.int .i64 4, .int .i64 4, .bool false, .bool false, .func (.func 63) #[.pointer (some ⟨gp, 0, none⟩)] #[]] 126))
      have H1 := Aside0.mk (H.out.below hb1)
      have HW1 := Aside0.mk (Kd.R_below HW.out hb1)
      have HE1 := Aside0.mk (HEn.out.step (hb1.mono H.out.sz))
      clear hb1
      go_enter Tryz.func33, Tryz.ntmps33
      go_upto_block 0 with fail
      generalize hw1 : ((w.alloc (.cells #[.int .i64 n, .slice (some ⟨b, 0, none⟩) nw wc] 81)).alloc (.cells #[.int .i64 4, .int .i64 4, .bool false, .bool false, .func (.func 63) #[.pointer (some ⟨gp, 0, none⟩)] #[]] 126)) = w1 at HB1 KL KW H1 HW1 HE1 ⊢
      have hgx : (w.alloc (.cells #[.int .i64 n, .slice (some ⟨b, 0, none⟩) nw wc] 81)).heap.size = w.heap.size + 1 := by simp
      rw [hgx] at KW
      generalize w.heap.size + 1 = gx at KW ⊢
      generalize hgl : w.heap.size = gl at KL ⊢
      clear hw1 hgx hlk hz0 HB0
      have a1 : w1.cell? ⟨gl, 1, none⟩ = some (.slice (some ⟨b, 0, none⟩) nw wc) := blk_cell KL.out 1
      have a0 : w1.cell? ⟨gl, 0, none⟩ = some (.int .i64 n) := blk_cell KL.out 0
      have b0 : w1.cell? ⟨gx, 0, none⟩ = some (.int .i64 4) := blk_cell KW.out 0
      have b1 : w1.cell? ⟨gx, 1, none⟩ = some (.int .i64 4) := blk_cell KW.out 1
      have b2 : w1.cell? ⟨gx, 2, none⟩ = some (.bool false) := blk_cell KW.out 2
      have b3 : w1.cell? ⟨gx, 3, none⟩ = some (.bool false) := blk_cell KW.out 3
      have b4 : w1.cell? ⟨gx, 4, none⟩ = some (.func (.func 63) #[.pointer (some ⟨gp, 0, none⟩)] #[]) := blk_cell KW.out 4
      have p3 := H1.out.cells.2.2.2.1
      have p4 := H1.out.cells.2.2.2.2.1
      clear hgl
      by_cases h4 : nw = 4
      · subst h4
        have HCall := Aside0.mk (size_p H1.out n b wc ws HW1.out HSz.out HE1.out)
        rw [show sizeS S ws = r by rw [← HR.out, lineS, HK.out]; simp only []; rw [if_neg (by rw [← HLen.out]; simp)]] at HCall
        go_wp2_with fail
        refine HCall.out.mono ?_
        rintro e w2 ⟨rfl, hk, hp⟩
        go_wp2
        go_ret
        exact ⟨rfl, (KP.of_below H.out.sz HB1.out).trans hk, hp⟩
      · by_cases hlt : (nw : Int) < 4
        · have hltb : decide ((nw : Int) < 4) = true := by simpa using hlt
          obtain rfl : r = (S, 6) := by rw [← HR.out, lineS, HK.out]; simp only []; rw [if_pos (by rw [← HLen.out]; omega)]
          go_wp2
          go_ret
          exact ⟨rfl, KP.of_below H.out.sz HB1.out, fun e => by cases e⟩
        · have hltb : decide ((nw : Int) < 4) = false := by simpa using hlt
          have hgtb : decide ((4 : Int) < nw) = true := by simp; omega
          obtain rfl : r = (S, 6) := by rw [← HR.out, lineS, HK.out]; simp only []; rw [if_pos (by rw [← HLen.out]; omega)]
          go_wp2
          go_ret
          exact ⟨rfl, KP.of_below H.out.sz HB1.out, fun e => by cases e⟩
    · simp only [wordK, wordV] at hlk
      have hb1 := below_alloc HB0.out (.cells #[.int .i64 1, .int .i64 2, .bool true, .bool false, .func (.func 64) #[.pointer (some ⟨gp, 0, none⟩)] #[]] 126)
      have HB1 := Aside0.mk hb1
      have KL := Aside0.mk (blk_alloc (blk_new w (.cells #[.int .i64 n, .slice (some ⟨b, 0, none⟩) nw wc] 81)) (.cells #[.int .i64 1, .int .i64 2, .bool true, .bool false, .func (.func 64) #[.pointer (some ⟨gp, 0, none⟩)] #[]] 126))
      have KW := Aside0.mk (blk_new (w.alloc (.cells #[.int .i64 n, .slice (some ⟨b, 0, none⟩) nw wc] 81)) (.cells #[.int .i64 1, .int .i64 2, .bool true, .bool false, .func (.func 64) #[.pointer (some ⟨gp, 0, none⟩)] #[]] 126))
      have H1 := Aside0.mk (H.out.below hb1)
      have HW1 := Aside0.mk (Kd.R_below HW.out hb1)
      have HE1 := Aside0.mk (HEn.out.step (hb1.mono H.out.sz))
      clear hb1
      go_enter Tryz.func33, Tryz.ntmps33
      go_upto_block 0 with fail
      generalize hw1 : ((w.alloc (.cells #[.int .i64 n, .slice (some ⟨b, 0, none⟩) nw wc] 81)).alloc (.cells #[.int .i64 1, .int .i64 2, .bool true, .bool false, .func (.func 64) #[.pointer (some ⟨gp, 0, none⟩)] #[]] 126)) = w1 at HB1 KL KW H1 HW1 HE1 ⊢
      have hgx : (w.alloc (.cells #[.int .i64 n, .slice (some ⟨b, 0, none⟩) nw wc] 81)).heap.size = w.heap.size + 1 := by simp
      rw [hgx] at KW
      generalize w.heap.size + 1 = gx at KW ⊢
      generalize hgl : w.heap.size = gl at KL ⊢
      clear hw1 hgx hlk hz0 HB0
      have a1 : w1.cell? ⟨gl, 1, none⟩ = some (.slice (some ⟨b, 0, none⟩) nw wc) := blk_cell KL.out 1
      have a0 : w1.cell? ⟨gl, 0, none⟩ = some (.int .i64 n) := blk_cell KL.out 0
      have b0 : w1.cell? ⟨gx, 0, none⟩ = some (.int .i64 1) := blk_cell KW.out 0
      have b1 : w1.cell? ⟨gx, 1, none⟩ = some (.int .i64 2) := blk_cell KW.out 1
      have b2 : w1.cell? ⟨gx, 2, none⟩ = some (.bool true) := blk_cell KW.out 2
      have b3 : w1.cell? ⟨gx, 3, none⟩ = some (.bool false) := blk_cell KW.out 3
      have b4 : w1.cell? ⟨gx, 4, none⟩ = some (.func (.func 64) #[.pointer (some ⟨gp, 0, none⟩)] #[]) := blk_cell KW.out 4
      have p3 := H1.out.cells.2.2.2.1
      have p4 := H1.out.cells.2.2.2.2.1
      clear hgl
      have hltb : decide ((nw : Int) < 1) = false := by simp; omega
      by_cases h4 : (2 : Int) < nw
      · have hgtb : decide ((2 : Int) < nw) = true := by simpa using h4
        obtain rfl : r = (S, 6) := by rw [← HR.out, lineS, HK.out]; simp only []; rw [if_pos (by rw [← HLen.out]; omega)]
        go_wp2
        go_ret
        exact ⟨rfl, KP.of_below H.out.sz HB1.out, fun e => by cases e⟩
      · have hgtb : decide ((2 : Int) < nw) = false := by simpa using h4
        have H4 := Aside0.mk h4
        clear h4
        cases hs : S.sized with
        | false =>
          rw [hs] at p4
          obtain rfl : r = (S, 11) := by rw [← HR.out, lineS, HK.out]; simp only []; rw [if_neg (by rw [← HLen.out]; have := H4.out; omega), if_pos hs]
          go_wp2
          go_ret
          exact ⟨rfl, KP.of_below H.out.sz HB1.out, fun e => by cases e⟩
        | true =>
          rw [hs] at p4
          have HS := Aside0.mk hs
          clear hs
          have HCall := Aside0.mk (begin_p H1.out n b nw wc ws HW1.out HSz.out HE1.out)
          rw [show beginS S n ws = r by rw [← HR.out, lineS, HK.out]; simp only []; rw [if_neg (by rw [← HLen.out]; have := H4.out; omega), if_neg (by rw [HS.out]; simp)]] at HCall
          go_wp2_with fail
          refine HCall.out.mono ?_
          rintro e w2 ⟨rfl, hk, hp⟩
          go_wp2
          go_ret
          exact ⟨rfl, (KP.of_below H.out.sz HB1.out).trans hk, hp⟩
    · simp only [wordK, wordV] at hlk
      have hb1 := below_alloc HB0.out (.cells #[.int .i64 2, .int .i64 2, .bool true, .bool true, .func (.func 65) #[.pointer (some ⟨gp, 0, none⟩)] #[]] 126)
      have HB1 := Aside0.mk hb1
      have KL := Aside0.mk (blk_alloc (blk_new w (.cells #[.int .i64 n, .slice (some ⟨b, 0, none⟩) nw wc] 81)) (.cells #[.int .i64 2, .int .i64 2, .bool true, .bool true, .func (.func 65) #[.pointer (some ⟨gp, 0, none⟩)] #[]] 126))
      have KW := Aside0.mk (blk_new (w.alloc (.cells #[.int .i64 n, .slice (some ⟨b, 0, none⟩) nw wc] 81)) (.cells #[.int .i64 2, .int .i64 2, .bool true, .bool true, .func (.func 65) #[.pointer (some ⟨gp, 0, none⟩)] #[]] 126))
      have H1 := Aside0.mk (H.out.below hb1)
      have HW1 := Aside0.mk (Kd.R_below HW.out hb1)
      have HE1 := Aside0.mk (HEn.out.step (hb1.mono H.out.sz))
      clear hb1
      go_enter Tryz.func33, Tryz.ntmps33
      go_upto_block 0 with fail
      generalize hw1 : ((w.alloc (.cells #[.int .i64 n, .slice (some ⟨b, 0, none⟩) nw wc] 81)).alloc (.cells #[.int .i64 2, .int .i64 2, .bool true, .bool true, .func (.func 65) #[.pointer (some ⟨gp, 0, none⟩)] #[]] 126)) = w1 at HB1 KL KW H1 HW1 HE1 ⊢
      have hgx : (w.alloc (.cells #[.int .i64 n, .slice (some ⟨b, 0, none⟩) nw wc] 81)).heap.size = w.heap.size + 1 := by simp
      rw [hgx] at KW
      generalize w.heap.size + 1 = gx at KW ⊢
      generalize hgl : w.heap.size = gl at KL ⊢
      clear hw1 hgx hlk hz0 HB0
      have a1 : w1.cell? ⟨gl, 1, none⟩ = some (.slice (some ⟨b, 0, none⟩) nw wc) := blk_cell KL.out 1
      have a0 : w1.cell? ⟨gl, 0, none⟩ = some (.int .i64 n) := blk_cell KL.out 0
      have b0 : w1.cell? ⟨gx, 0, none⟩ = some (.int .i64 2) := blk_cell KW.out 0
      have b1 : w1.cell? ⟨gx, 1, none⟩ = some (.int .i64 2) := blk_cell KW.out 1
      have b2 : w1.cell? ⟨gx, 2, none⟩ = some (.bool true) := blk_cell KW.out 2
      have b3 : w1.cell? ⟨gx, 3, none⟩ = some (.bool true) := blk_cell KW.out 3
      have b4 : w1.cell? ⟨gx, 4, none⟩ = some (.func (.func 65) #[.pointer (some ⟨gp, 0, none⟩)] #[]) := blk_cell KW.out 4
      have p3 := H1.out.cells.2.2.2.1
      have p4 := H1.out.cells.2.2.2.2.1
      clear hgl
      by_cases h4 : nw = 2
      · subst h4
        cases hs : S.sized with
        | false =>
          rw [hs] at p4
          obtain rfl : r = (S, 11) := by rw [← HR.out, lineS, HK.out]; simp only []; rw [if_neg (by rw [← HLen.out]; simp), if_pos (.inl hs)]
          go_wp2
          go_ret
          exact ⟨rfl, KP.of_below H.out.sz HB1.out, fun e => by cases e⟩
        | true =>
          rw [hs] at p4
          have HS := Aside0.mk hs
          clear hs
          obtain ⟨A, c, e, -, -⟩ := Kd.S_reads H1.out.r
          subst e
          by_cases h0 : (S.rungs.length : Int) = 0
          · have h0b : ((S.rungs.length : Int) == 0) = true := by simpa using h0
            have H0 := Aside0.mk h0
            clear h0
            obtain rfl : r = (S, 11) := by rw [← HR.out, lineS, HK.out]; simp only []; rw [if_neg (by rw [← HLen.out]; simp), if_pos (.inr (by have := H0.out; omega))]
            go_wp2
            go_ret
            exact ⟨rfl, KP.of_below H.out.sz HB1.out, fun e => by cases e⟩
          · have h0b : ((S.rungs.length : Int) == 0) = false := by simpa using h0
            have hin : Aside0 (0 < S.rungs.length) := ⟨by omega⟩
            clear h0
            have HCall := Aside0.mk (jump_p H1.out n b wc ws HW1.out hin.out)
            rw [show jumpS S n ws = r by rw [← HR.out, lineS, HK.out]; simp only []; rw [if_neg (by rw [← HLen.out]; simp), if_neg (by rw [HS.out]; simp; have := hin.out; intro h; rw [h] at this; simp at this)]] at HCall
            go_wp2_with fail
            refine HCall.out.mono ?_
            rintro e w2 ⟨rfl, hk, hp⟩
            go_wp2
            go_ret
            exact ⟨rfl, (KP.of_below H.out.sz HB1.out).trans hk, hp⟩
      · by_cases hlt : (nw : Int) < 2
        · have hltb : decide ((nw : Int) < 2) = true := by simpa using hlt
          obtain rfl : r = (S, 6) := by rw [← HR.out, lineS, HK.out]; simp only []; rw [if_pos (by rw [← HLen.out]; omega)]
          go_wp2
          go_ret
          exact ⟨rfl, KP.of_below H.out.sz HB1.out, fun e => by cases e⟩
        · have hltb : decide ((nw : Int) < 2) = false := by simpa using hlt
          have hgtb : decide ((2 : Int) < nw) = true := by simp; omega
          obtain rfl : r = (S, 6) := by rw [← HR.out, lineS, HK.out]; simp only []; rw [if_pos (by rw [← HLen.out]; omega)]
          go_wp2
          go_ret
          exact ⟨rfl, KP.of_below H.out.sz HB1.out, fun e => by cases e⟩
    · simp only [wordK, wordV] at hlk
      have hb1 := below_alloc HB0.out (.cells #[.int .i64 4, .int .i64 4, .bool true, .bool true, .func (.func 66) #[.pointer (some ⟨gp, 0, none⟩)] #[]] 126)
      have HB1 := Aside0.mk hb1
      have KL := Aside0.mk (blk_alloc (blk_new w (.cells #[.int .i64 n, .slice (some ⟨b, 0, none⟩) nw wc] 81)) (.cells #[.int .i64 4, .int .i64 4, .bool true, .bool true, .func (.func 66) #[.pointer (some ⟨gp, 0, none⟩)] #[]] 126))
      have KW := Aside0.mk (blk_new (w.alloc (.cells #[.int .i64 n, .slice (some ⟨b, 0, none⟩) nw wc] 81)) (.cells #[.int .i64 4, .int .i64 4, .bool true, .bool true, .func (.func 66) #[.pointer (some ⟨gp, 0, none⟩)] #[]] 126))
      have H1 := Aside0.mk (H.out.below hb1)
      have HW1 := Aside0.mk (Kd.R_below HW.out hb1)
      have HE1 := Aside0.mk (HEn.out.step (hb1.mono H.out.sz))
      clear hb1
      go_enter Tryz.func33, Tryz.ntmps33
      go_upto_block 0 with fail
      generalize hw1 : ((w.alloc (.cells #[.int .i64 n, .slice (some ⟨b, 0, none⟩) nw wc] 81)).alloc (.cells #[.int .i64 4, .int .i64 4, .bool true, .bool true, .func (.func 66) #[.pointer (some ⟨gp, 0, none⟩)] #[]] 126)) = w1 at HB1 KL KW H1 HW1 HE1 ⊢
      have hgx : (w.alloc (.cells #[.int .i64 n, .slice (some ⟨b, 0, none⟩) nw wc] 81)).heap.size = w.heap.size + 1 := by simp
      rw [hgx] at KW
      generalize w.heap.size + 1 = gx at KW ⊢
      generalize hgl : w.heap.size = gl at KL ⊢
      clear hw1 hgx hlk hz0 HB0
      have a1 : w1.cell? ⟨gl, 1, none⟩ = some (.slice (some ⟨b, 0, none⟩) nw wc) := blk_cell KL.out 1
      have a0 : w1.cell? ⟨gl, 0, none⟩ = some (.int .i64 n) := blk_cell KL.out 0
      have b0 : w1.cell? ⟨gx, 0, none⟩ = some (.int .i64 4) := blk_cell KW.out 0
      have b1 : w1.cell? ⟨gx, 1, none⟩ = some (.int .i64 4) := blk_cell KW.out 1
      have b2 : w1.cell? ⟨gx, 2, none⟩ = some (.bool true) := blk_cell KW.out 2
      have b3 : w1.cell? ⟨gx, 3, none⟩ = some (.bool true) := blk_cell KW.out 3
      have b4 : w1.cell? ⟨gx, 4, none⟩ = some (.func (.func 66) #[.pointer (some ⟨gp, 0, none⟩)] #[]) := blk_cell KW.out 4
      have p3 := H1.out.cells.2.2.2.1
      have p4 := H1.out.cells.2.2.2.2.1
      clear hgl
      by_cases h4 : nw = 4
      · subst h4
        cases hs : S.sized with
        | false =>
          rw [hs] at p4
          obtain rfl : r = (S, 11) := by rw [← HR.out, lineS, HK.out]; simp only []; rw [if_neg (by rw [← HLen.out]; simp), if_pos (.inl hs)]
          go_wp2
          go_ret
          exact ⟨rfl, KP.of_below H.out.sz HB1.out, fun e => by cases e⟩
        | true =>
          rw [hs] at p4
          have HS := Aside0.mk hs
          clear hs
          obtain ⟨A, c, e, -, -⟩ := Kd.S_reads H1.out.r
          subst e
          by_cases h0 : (S.rungs.length : Int) = 0
          · have h0b : ((S.rungs.length : Int) == 0) = true := by simpa using h0
            have H0 := Aside0.mk h0
            clear h0
            obtain rfl : r = (S, 11) := by rw [← HR.out, lineS, HK.out]; simp only []; rw [if_neg (by rw [← HLen.out]; simp), if_pos (.inr (by have := H0.out; omega))]
            go_wp2
            go_ret
            exact ⟨rfl, KP.of_below H.out.sz HB1.out, fun e => by cases e⟩
          · have h0b : ((S.rungs.length : Int) == 0) = false := by simpa using h0
            have hin : Aside0 (0 < S.rungs.length) := ⟨by omega⟩
            clear h0
            have HCall := Aside0.mk (con_p H1.out n b wc ws HW1.out HSz.out hin.out (fun r hr => (HC.out r hr).1) HE1.out)
            rw [show conS S ws = r by rw [← HR.out, lineS, HK.out]; simp only []; rw [if_neg (by rw [← HLen.out]; simp), if_neg (by rw [HS.out]; simp; have := hin.out; intro h; rw [h] at this; simp at this)]] at HCall
            go_wp2_with fail
            refine HCall.out.mono ?_
            rintro e w2 ⟨rfl, hk, hp⟩
            go_wp2
            go_ret
            exact ⟨rfl, (KP.of_below H.out.sz HB1.out).trans hk, hp⟩
      · by_cases hlt : (nw : Int) < 4
        · have hltb : decide ((nw : Int) < 4) = true := by simpa using hlt
          obtain rfl : r = (S, 6) := by rw [← HR.out, lineS, HK.out]; simp only []; rw [if_pos (by rw [← HLen.out]; omega)]
          go_wp2
          go_ret
          exact ⟨rfl, KP.of_below H.out.sz HB1.out, fun e => by cases e⟩
        · have hltb : decide ((nw : Int) < 4) = false := by simpa using hlt
          have hgtb : decide ((4 : Int) < nw) = true := by simp; omega
          obtain rfl : r = (S, 6) := by rw [← HR.out, lineS, HK.out]; simp only []; rw [if_pos (by rw [← HLen.out]; omega)]
          go_wp2
          go_ret
          exact ⟨rfl, KP.of_below H.out.sz HB1.out, fun e => by cases e⟩
    · simp only [wordK, wordV] at hlk
      have hb1 := below_alloc HB0.out (.cells #[.int .i64 2, .int .i64 2, .bool true, .bool true, .func (.func 67) #[.pointer (some ⟨gp, 0, none⟩)] #[]] 126)
      have HB1 := Aside0.mk hb1
      have KL := Aside0.mk (blk_alloc (blk_new w (.cells #[.int .i64 n, .slice (some ⟨b, 0, none⟩) nw wc] 81)) (.cells #[.int .i64 2, .int .i64 2, .bool true, .bool true, .func (.func 67) #[.pointer (some ⟨gp, 0, none⟩)] #[]] 126))
      have KW := Aside0.mk (blk_new (w.alloc (.cells #[.int .i64 n, .slice (some ⟨b, 0, none⟩) nw wc] 81)) (.cells #[.int .i64 2, .int .i64 2, .bool true, .bool true, .func (.func 67) #[.pointer (some ⟨gp, 0, none⟩)] #[]] 126))
      have H1 := Aside0.mk (H.out.below hb1)
      have HW1 := Aside0.mk (Kd.R_below HW.out hb1)
      have HE1 := Aside0.mk (HEn.out.step (hb1.mono H.out.sz))
      clear hb1
      go_enter Tryz.func33, Tryz.ntmps33
      go_upto_block 0 with fail
      generalize hw1 : ((w.alloc (.cells #[.int .i64 n, .slice (some ⟨b, 0, none⟩) nw wc] 81)).alloc (.cells #[.int .i64 2, .int .i64 2, .bool true, .bool true, .func (.func 67) #[.pointer (some ⟨gp, 0, none⟩)] #[]] 126)) = w1 at HB1 KL KW H1 HW1 HE1 ⊢
      have hgx : (w.alloc (.cells #[.int .i64 n, .slice (some ⟨b, 0, none⟩) nw wc] 81)).heap.size = w.heap.size + 1 := by simp
      rw [hgx] at KW
      generalize w.heap.size + 1 = gx at KW ⊢
      generalize hgl : w.heap.size = gl at KL ⊢
      clear hw1 hgx hlk hz0 HB0
      have a1 : w1.cell? ⟨gl, 1, none⟩ = some (.slice (some ⟨b, 0, none⟩) nw wc) := blk_cell KL.out 1
      have a0 : w1.cell? ⟨gl, 0, none⟩ = some (.int .i64 n) := blk_cell KL.out 0
      have b0 : w1.cell? ⟨gx, 0, none⟩ = some (.int .i64 2) := blk_cell KW.out 0
      have b1 : w1.cell? ⟨gx, 1, none⟩ = some (.int .i64 2) := blk_cell KW.out 1
      have b2 : w1.cell? ⟨gx, 2, none⟩ = some (.bool true) := blk_cell KW.out 2
      have b3 : w1.cell? ⟨gx, 3, none⟩ = some (.bool true) := blk_cell KW.out 3
      have b4 : w1.cell? ⟨gx, 4, none⟩ = some (.func (.func 67) #[.pointer (some ⟨gp, 0, none⟩)] #[]) := blk_cell KW.out 4
      have p3 := H1.out.cells.2.2.2.1
      have p4 := H1.out.cells.2.2.2.2.1
      clear hgl
      by_cases h4 : nw = 2
      · subst h4
        cases hs : S.sized with
        | false =>
          rw [hs] at p4
          obtain rfl : r = (S, 11) := by rw [← HR.out, lineS, HK.out]; simp only []; rw [if_neg (by rw [← HLen.out]; simp), if_pos (.inl hs)]
          go_wp2
          go_ret
          exact ⟨rfl, KP.of_below H.out.sz HB1.out, fun e => by cases e⟩
        | true =>
          rw [hs] at p4
          have HS := Aside0.mk hs
          clear hs
          obtain ⟨A, c, e, -, -⟩ := Kd.S_reads H1.out.r
          subst e
          by_cases h0 : (S.rungs.length : Int) = 0
          · have h0b : ((S.rungs.length : Int) == 0) = true := by simpa using h0
            have H0 := Aside0.mk h0
            clear h0
            obtain rfl : r = (S, 11) := by rw [← HR.out, lineS, HK.out]; simp only []; rw [if_neg (by rw [← HLen.out]; simp), if_pos (.inr (by have := H0.out; omega))]
            go_wp2
            go_ret
            exact ⟨rfl, KP.of_below H.out.sz HB1.out, fun e => by cases e⟩
          · have h0b : ((S.rungs.length : Int) == 0) = false := by simpa using h0
            have hin : Aside0 (0 < S.rungs.length) := ⟨by omega⟩
            clear h0
            have HCall := Aside0.mk (coil_p H1.out n b wc ws HW1.out HSz.out hin.out (fun r hr => (HC.out r hr).2) HE1.out)
            rw [show coilS S ws = r by rw [← HR.out, lineS, HK.out]; simp only []; rw [if_neg (by rw [← HLen.out]; simp), if_neg (by rw [HS.out]; simp; have := hin.out; intro h; rw [h] at this; simp at this)]] at HCall
            go_wp2_with fail
            refine HCall.out.mono ?_
            rintro e w2 ⟨rfl, hk, hp⟩
            go_wp2
            go_ret
            exact ⟨rfl, (KP.of_below H.out.sz HB1.out).trans hk, hp⟩
      · by_cases hlt : (nw : Int) < 2
        · have hltb : decide ((nw : Int) < 2) = true := by simpa using hlt
          obtain rfl : r = (S, 6) := by rw [← HR.out, lineS, HK.out]; simp only []; rw [if_pos (by rw [← HLen.out]; omega)]
          go_wp2
          go_ret
          exact ⟨rfl, KP.of_below H.out.sz HB1.out, fun e => by cases e⟩
        · have hltb : decide ((nw : Int) < 2) = false := by simpa using hlt
          have hgtb : decide ((2 : Int) < nw) = true := by simp; omega
          obtain rfl : r = (S, 6) := by rw [← HR.out, lineS, HK.out]; simp only []; rw [if_pos (by rw [← HLen.out]; omega)]
          go_wp2
          go_ret
          exact ⟨rfl, KP.of_below H.out.sz HB1.out, fun e => by cases e⟩
end Go.Proofs.YtolmkdhgnganaaaGreatDoor.H
namespace Go.Proofs.YtolmkdhgnganaaaGreatDoor.H
open Go Go.RowKit Go.Shelf Go.Proofs Go.Proofs.YtolmkdhgnganaaaGreatDoorW.PrintWords Go.Proofs.YtolmkdhgnganaaaGreatDoor.Sp
attribute [local go_sem] Oper.semAt_some
def cnts (s : ByteArray) : List (Int × ByteArray) := upN (cntAt s) (pieces s).length
/-- What Lines answers for a text that is not too long. -/
def LinesR (s : ByteArray) (w : World) (e : Ending) (w' : World) : Prop :=
  Below w.heap.size w w' ∧
    ((allPl (cnts s) ∧ ∃ A c, e = .returned (.tuple #[.slice A (lnsOf (cnts s)).length c, .int .i64 0, .int .i64 0]) ∧ kLine.R 81 w' w.heap.size (fun _ => True) (.slice A (lnsOf (cnts s)).length c) (lnsOf (cnts s))) ∨
     (∃ k, k < (pieces s).length ∧ allPl (upN (cntAt s) k) ∧ isPl (cntAt s k).2.data.toList = false ∧ e = .returned (.tuple #[.slice none 0 0, .int .i64 (k + 1), .int .i64 6])))
theorem upN_val (s : ByteArray) (hs : s.size ≤ 65536) (k : Nat) : (upN (cntX s hs) k).map (·.1) = upN (cntAt s) k := by
  simp [upN, Function.comp_def, cntX]
/-- Behind the loop: its block for deferred calls is taken down. -/
theorem R_put_obj {W : World} {B D : Nat} {v : Value} {xs : List Ln} (h : kLine.R 81 W B (fun _ => True) v xs) {o o' : Obj} (hK : W.heap[D]? = some o) (hc : o.isCells = false) : kLine.R 81 (W.putObj D o') B (fun _ => True) v xs := by
  refine Kd.R_mono (Kd.R_move (Kd.R_bound h) (fun k hk => (grownBy_putObj' W D o').block k hk.2.2.1 (fun e => ?_))) (fun _ _ => trivial)
  cases e
  obtain ⟨q, _, cells, hq⟩ := hk.2.2.2
  rw [hK] at hq
  cases hq
  cases hc
set_option maxRecDepth 100000 in
set_option maxHeartbeats 4000000 in
theorem lines_in (s : ByteArray) (w : World) (hs : s.size ≤ 65536) (hG : LexG w) : CallsIn Fence.wide 6 Tryz.prog 31 #[.string s] w (LinesR s w) := by
  have HG := Aside0.mk hG
  obtain ⟨m, hm⟩ := hG.mx
  have hmB := World.block_lt_of_cell? w _ hm
  have HM := Aside0.mk hm
  have hsz : ¬ (65536 : Int) < (s.size : Int) := by omega
  have h3 : 3 < w.heap.size := hmB
  clear hm hG hmB
  refine callsIn_of_wp_marks Tryz.func31 rfl trivial ?_ rfl
  simp only [Tryz.ntmps31, List.size_toArray, List.length_cons, List.length_nil, Nat.reduceAdd, Nat.reduceSub, Array.replicate_succ, Array.replicate_zero, List.push_toArray, List.append_toArray, List.nil_append, List.cons_append]
  gi_wp2
  refine ⟨trivial, ?_⟩
  refine (callsIn_wide.2 (counts_b s _)).mono ?_
  rintro e w' ⟨rfl, rfl⟩
  have HI0 : LnI w [] (((((w.alloc (.cells #[.slice none 0 0] 72)).alloc (.cells #[.int .i64 0] 3)).alloc (.cells #[.int .i64 0] 27)).alloc (.cells #[.slice none 0 0] 72)).alloc (.cells #[.string s] 9)) := by
    refine ⟨below_alloc (below_alloc (below_alloc (below_alloc (below_alloc (Below.refl _ _) _) _) _) _) _, blk_alloc (blk_alloc (blk_alloc (blk_alloc (blk_new _ _) _) _) _) _, ?_, ?_, ⟨.slice none 0 0, ?_, Kd.R_nil _ _ _ _ _⟩, fun p hp => by cases hp⟩
    · have := blk_new (w.alloc (.cells #[.slice none 0 0] 72)) (.cells #[.int .i64 0] 3)
      rw [World.size_alloc] at this
      exact blk_alloc (blk_alloc (blk_alloc this _) _) _
    · have := blk_new ((w.alloc (.cells #[.slice none 0 0] 72)).alloc (.cells #[.int .i64 0] 3)) (.cells #[.int .i64 0] 27)
      rw [World.size_alloc, World.size_alloc] at this
      exact blk_alloc (blk_alloc this _) _
    · have := blk_new (((w.alloc (.cells #[.slice none 0 0] 72)).alloc (.cells #[.int .i64 0] 3)).alloc (.cells #[.int .i64 0] 27)) (.cells #[.slice none 0 0] 72)
      rw [World.size_alloc, World.size_alloc, World.size_alloc] at this
      exact blk_alloc this _
  have hbx := blk_new ((((w.alloc (.cells #[.slice none 0 0] 72)).alloc (.cells #[.int .i64 0] 3)).alloc (.cells #[.int .i64 0] 27)).alloc (.cells #[.slice none 0 0] 72)) (.cells #[.string s] 9)
  gi_wp2
  generalize hW0 : ((((w.alloc (.cells #[.slice none 0 0] 72)).alloc (.cells #[.int .i64 0] 3)).alloc (.cells #[.int .i64 0] 27)).alloc (.cells #[.slice none 0 0] 72)).alloc (.cells #[.string s] 9) = W0 at HI0 hbx ⊢
  have hsW : W0.heap.size = w.heap.size + 5 := by rw [← hW0]; simp only [World.size_alloc]
  simp only [World.size_alloc] at hbx
  clear hW0
  have HM0 := pw_cell_below HI0.b HM.out
  refine wpIn_rangeFunc_ownF (w := W0) rfl (by decide) (gf := 88) (lb := #[.pointer (some ⟨w.heap.size + 1 + 1 + 1 + 1, 0, none⟩)]) rfl trivial (enters_of Tryz.func88 (by kernel_rfl) rfl)
    (counts_stops w.heap.size (w.heap.size + 1 + 1 + 1 + 1) 5 s m W0 (by omega) h3 hs HM0 hbx) Kr.trans (Kr.put (by omega)) (Below.refl _ _) (fun _ => rfl)
    (LnI w) (fun c pre W => c = .ret ∧ LnX w pre W)
    (fun s W W' row h hg hr => LnI.own w s W W' row h hg (fun r e => ⟨by have := (hr r e).1; omega, (hr r e).2⟩))
    (fun c s W W' row h hg hr => ⟨h.1, LnX.own w s W W' row h.2 hg (fun r e => ⟨by have := (hr r e).1; omega, (hr r e).2⟩)⟩)
    HI0
    (fun x => { tmps := #[.string s, undef, .pointer (some ⟨w.heap.size, 0, none⟩), .pointer (some ⟨w.heap.size + 1, 0, none⟩), .pointer (some ⟨w.heap.size + 1 + 1, 0, none⟩), .pointer (some ⟨w.heap.size + 1 + 1 + 1, 0, none⟩), .int .i64 x.1.1, .string x.1.2, undef, .string s, .int .i64 s.size, .bool false, .string s, .func (.func 88) #[] #[.pointer (some ⟨w.heap.size + 1 + 1 + 1 + 1, 0, none⟩)], .int .i64 x.1.1, .string x.1.2, undef, undef, undef, undef, undef, undef, undef, undef, undef, undef, undef, undef, undef, undef, undef, undef], defers := [] }) ?assign ?body ?done ?stop
  case assign =>
    intro l x W K hK
    gi_wp2
    exact hK
  case body =>
    rintro l pre ⟨⟨n, x⟩, hx⟩ W hI hlen
    dsimp only at hx ⊢
    have HI := Aside0.mk hI
    clear hI
    cases hpl : isPl x.data.toList with
    | false =>
      gi_wp2
      refine ⟨trivial, ?_⟩
      refine (CallsIn.inRound l (callsIn_wide.2 (plain_b x W))).mono ?_
      rintro e W2 ⟨rfl, hb⟩
      rw [hpl]
      have HI2 := Aside0.mk (HI.out.below hb)
      have HKo := Aside0.mk (keeps_of hb)
      clear hb
      have q2 : W2.cell? ⟨w.heap.size, 0, none⟩ = some (.slice none 0 0) := blk_cell HI2.out.r2 0
      have q3 : W2.cell? ⟨w.heap.size + 1, 0, none⟩ = some (.int .i64 0) := blk_cell HI2.out.r3 0
      have q4 : W2.cell? ⟨w.heap.size + 1 + 1, 0, none⟩ = some (.int .i64 0) := blk_cell HI2.out.r4 0
      have f2 : W2.frozen? ⟨w.heap.size, 0, none⟩ = false := blk_frozen HI2.out.r2 0
      have f3 : W2.frozen? ⟨w.heap.size + 1, 0, none⟩ = false := blk_frozen HI2.out.r3 0
      have f4 : W2.frozen? ⟨w.heap.size + 1 + 1, 0, none⟩ = false := blk_frozen HI2.out.r4 0
      gi_wp2
      exact ⟨((HKo.out.trans (KeepsOthers.setCell _ _ _)).trans (KeepsOthers.setCell _ _ _)).trans (KeepsOthers.setCell _ _ _), rfl, LnI.bad (x := ⟨(n, x), hx⟩) HI2.out hpl⟩
    | true =>
      gi_wp2
      refine ⟨trivial, ?_⟩
      refine (CallsIn.inRound l (callsIn_wide.2 (plain_b x W))).mono ?_
      rintro e W2 ⟨rfl, hb⟩
      rw [hpl]
      have HI2 := Aside0.mk (HI.out.below hb)
      have HB2 := Aside0.mk hb
      clear hb
      gi_wp2
      refine ⟨trivial, ?_⟩
      refine (CallsIn.inRound l (callsIn_wide.2 (fields_b x W2 hpl hx (HG.out.below HI2.out.b).tab))).mono ?_
      rintro e W3 ⟨rfl, rfl⟩
      have HI3 := Aside0.mk (HI2.out.below (below_alloc (Below.refl _ _) (.cells ((wordsOf x).map Value.string).toArray 9)))
      have HB3 := Aside0.mk (below_step HB2.out (below_alloc (Below.refl _ _) (.cells ((wordsOf x).map Value.string).toArray 9)))
      by_cases he : (wordsOf x).isEmpty = true
      · have h0 : wordsOf x = [] := by simpa using he
        have HE := Aside0.mk he
        clear he
        have FK := Aside0.mk (⟨keeps_of HB3.out, Kr.of_below HB3.out HI.out.b.size, HI3.out.skip (x := ⟨(n, x), hx⟩) HE.out hpl⟩ : KeepsOthers W _ ∧ Kr w.heap.size W _ ∧ LnI w (pre ++ [⟨(n, x), hx⟩]) _)
        have h01 : ((wordsOf x).length : Int) = 0 := by rw [h0]; rfl
        clear h0
        gi_wp2
        exact FK.out
      · have hp : (0 : Int) < ((wordsOf x).length : Int) := by
          have : (wordsOf x).length ≠ 0 := fun e => he (by simpa using e)
          omega
        have hwl : (wordsOf x).length ≤ 65536 := words_le hx
        obtain ⟨i0, hi, hzz⟩ := Option.map_eq_some_iff.1 infoLn
        simp only [Prod.mk.injEq] at hzz
        obtain ⟨hz0, hz1, hz2⟩ := hzz
        obtain ⟨v, hl2, hR2⟩ := HI2.out.l
        have hgv := Kd.R_lt hR2
        have hb34 : Below W2.heap.size W2 ((W2.alloc (.cells ((wordsOf x).map Value.string).toArray 9)).alloc (.cells #[.int .i64 n, .slice (some ⟨W2.heap.size, 0, none⟩) (wordsOf x).length (wordsOf x).length] 81)) := below_alloc (below_alloc (Below.refl _ _) _) _
        have h4 := Aside0.mk (HI2.out.below hb34)
        have hl4 := Aside0.mk (blk_below hl2 hb34)
        have hw4 := Aside0.mk (Kd.R_below (str_row W2 w.heap.size HI2.out.b.size (wordsOf x) (by omega)) (below_alloc (Below.refl _ _) (.cells #[.int .i64 n, .slice (some ⟨W2.heap.size, 0, none⟩) (wordsOf x).length (wordsOf x).length] 81)))
        obtain ⟨_, inner, ho, hr⟩ := Kd.R_below hR2 hb34
        have HR4 := Aside0.mk hr
        have ho2 : ((W2.alloc (.cells ((wordsOf x).map Value.string).toArray 9)).alloc (.cells #[.int .i64 n, .slice (some ⟨W2.heap.size, 0, none⟩) (wordsOf x).length (wordsOf x).length] 81)).ownsRow w.heap.size 81 2 v (lnsOf (pre.map (·.1))).length inner := ho
        clear ho
        have HGV := Aside0.mk hgv
        have HK4 := Aside0.mk (below_step HB2.out hb34)
        have q5 : (W2.alloc (.cells ((wordsOf x).map Value.string).toArray 9)).cell? ⟨w.heap.size + 1 + 1 + 1, 0, none⟩ = some v := blk_cell (blk_alloc hl2 _) 0
        have hnews := World.news_of_block (blk_new (W2.alloc (.cells ((wordsOf x).map Value.string).toArray 9)) (.cells #[.int .i64 n, .slice (some ⟨W2.heap.size, 0, none⟩) (wordsOf x).length (wordsOf x).length] 81))
        rw [World.size_alloc] at hnews
        have hcnt : (lnsOf (pre.map (·.1))).length ≤ 65537 := by
          have h1 := lnsOf_le (pre.map (·.1))
          rw [List.length_map] at h1
          have := pieces_le s hs
          omega
        clear hr hgv hl2 hR2
        gi_wp2_with (gi_at_builtin; refine wpListIn_append_own_at _ rfl _ _ 72 rfl w.heap.size 81 i0 (.agg #[.int .i64 0, .slice none 0 0]) 2 32 Tryz.underlying72 hi hz0 hz1 hz2 rfl (by decide) v _ inner rfl ho2 ⟨W2.heap.size + 1, 0, none⟩ 1 1 [.int .i64 n, .slice (some ⟨W2.heap.size, 0, none⟩) (wordsOf x).length (wordsOf x).length] rfl rfl hnews (by simp [Value.oneCell']) (by unfold maxLen; omega) (by omega) h4.out.b.size ?_; intro v1 W5 hown hg hnil hat; obtain ⟨g5, cap5, rfl⟩ := ownsRow_succ hown; obtain ⟨hl5, hLn, hKO, hKr⟩ := LnI.push (x := ⟨(n, x), hx⟩) h4.out hl4.out ho2 HR4.out hw4.out HGV.out he hpl hown hg hat; have q6 : W5.cell? ⟨w.heap.size + 1 + 1 + 1, 0, none⟩ = some v := blk_cell hl5 0; have f6 : W5.frozen? ⟨w.heap.size + 1 + 1 + 1, 0, none⟩ = false := blk_frozen hl5 0)
        exact ⟨(keeps_of HK4.out).trans hKO, (Kr.of_below HK4.out HI.out.b.size).trans hKr, hLn⟩
  case done =>
    rintro D ys W hD rfl hI hK
    have HI := Aside0.mk hI
    obtain ⟨v, hl0, hR⟩ := hI.l
    have q2 : W.cell? ⟨w.heap.size, 0, none⟩ = some (.slice none 0 0) := blk_cell hI.r2 0
    have q3 : W.cell? ⟨w.heap.size + 1, 0, none⟩ = some (.int .i64 0) := blk_cell hI.r3 0
    have q4 : W.cell? ⟨w.heap.size + 1 + 1, 0, none⟩ = some (.int .i64 0) := blk_cell hI.r4 0
    have q5 : W.cell? ⟨w.heap.size + 1 + 1 + 1, 0, none⟩ = some v := blk_cell hl0 0
    have f2 : W.frozen? ⟨w.heap.size, 0, none⟩ = false := blk_frozen hI.r2 0
    have f3 : W.frozen? ⟨w.heap.size + 1, 0, none⟩ = false := blk_frozen hI.r3 0
    have f4 : W.frozen? ⟨w.heap.size + 1 + 1, 0, none⟩ = false := blk_frozen hI.r4 0
    obtain ⟨A, c, rfl, -, -⟩ := Kd.R_reads hR
    have HR := Aside0.mk hR
    have HL0 := Aside0.mk hl0
    clear hI hR hl0
    rw [upN_val] at HR HL0 q5
    change Aside0 (kLine.R 81 W w.heap.size (fun _ => True) (.slice A (lnsOf (cnts s)).length c) (lnsOf (cnts s))) at HR
    change W.cell? _ = some (.slice A (lnsOf (cnts s)).length c) at q5
    gi_wp2
    clear q2 q3 q4 q5 f2 f3 f4
    have e2 := HI.out.r2
    have e3 := HI.out.r3
    have e4 := HI.out.r4
    have k2 : ∀ {X : World}, X.heap[w.heap.size]? = some (.cells #[.slice none 0 0] 72 (0, 0)) → (X.setCell ⟨w.heap.size, 0, none⟩ (.slice A (lnsOf (cnts s)).length c)).heap[w.heap.size]? = some (.cells #[.slice A (lnsOf (cnts s)).length c] 72 (0, 0)) := fun h => by
      have := blk_set h 0 (.slice A (lnsOf (cnts s)).length c)
      simpa using this
    have a2 := k2 e2
    have a3 := blk_far e3 (p := ⟨w.heap.size, 0, none⟩) (by show w.heap.size + 1 ≠ w.heap.size; omega) (.slice A (lnsOf (cnts s)).length c)
    have a4 := blk_far e4 (p := ⟨w.heap.size, 0, none⟩) (by show w.heap.size + 2 ≠ w.heap.size; omega) (.slice A (lnsOf (cnts s)).length c)
    have aR := Kd.R_set HR.out e2 types_ln 0 (.slice A (lnsOf (cnts s)).length c)
    have aK := (KeepsOthers.setCell W ⟨w.heap.size, 0, none⟩ (.slice A (lnsOf (cnts s)).length c)).same D _ hK rfl
    have aB : Below w.heap.size w (W.setCell ⟨w.heap.size, 0, none⟩ (.slice A (lnsOf (cnts s)).length c)) := below_set HI.out.b (by omega)
    generalize W.setCell ⟨w.heap.size, 0, none⟩ (.slice A (lnsOf (cnts s)).length c) = X at *
    have b2 := blk_far a2 (p := ⟨w.heap.size + 1, 0, none⟩) (by show w.heap.size ≠ w.heap.size + 1; omega) (.int .i64 0)
    have b3 : (X.setCell ⟨w.heap.size + 1, 0, none⟩ (.int .i64 0)).heap[w.heap.size + 1]? = some (.cells #[.int .i64 0] 3 (0, 0)) := by
      have := blk_set a3 0 (.int .i64 0)
      simpa using this
    have b4 := blk_far a4 (p := ⟨w.heap.size + 1, 0, none⟩) (by show w.heap.size + 2 ≠ w.heap.size + 1; omega) (.int .i64 0)
    have bR := Kd.R_set aR a3 (by decide) 0 (.int .i64 0)
    have bK := (KeepsOthers.setCell X ⟨w.heap.size + 1, 0, none⟩ (.int .i64 0)).same D _ aK rfl
    have bB : Below w.heap.size w (X.setCell ⟨w.heap.size + 1, 0, none⟩ (.int .i64 0)) := below_set aB (by omega)
    generalize X.setCell ⟨w.heap.size + 1, 0, none⟩ (.int .i64 0) = Y at *
    have c2 := blk_far b2 (p := ⟨w.heap.size + 1 + 1, 0, none⟩) (by show w.heap.size ≠ w.heap.size + 1 + 1; omega) (.int .i64 0)
    have c3 := blk_far b3 (p := ⟨w.heap.size + 1 + 1, 0, none⟩) (by show w.heap.size + 1 ≠ w.heap.size + 1 + 1; omega) (.int .i64 0)
    have c4 : (Y.setCell ⟨w.heap.size + 1 + 1, 0, none⟩ (.int .i64 0)).heap[w.heap.size + 1 + 1]? = some (.cells #[.int .i64 0] 27 (0, 0)) := by
      have := blk_set b4 0 (.int .i64 0)
      simpa using this
    have cR := Kd.R_set bR b4 (by decide) 0 (.int .i64 0)
    have cK := (KeepsOthers.setCell Y ⟨w.heap.size + 1 + 1, 0, none⟩ (.int .i64 0)).same D _ bK rfl
    have cB : Below w.heap.size w (Y.setCell ⟨w.heap.size + 1 + 1, 0, none⟩ (.int .i64 0)) := below_set bB (by omega)
    change (Y.setCell ⟨w.heap.size + 1 + 1, 0, none⟩ (.int .i64 0)).heap[D]? = some (.deferred (some [])) at cK
    generalize Y.setCell ⟨w.heap.size + 1 + 1, 0, none⟩ (.int .i64 0) = Z at *
    refine ⟨by simp, .inl ⟨_, _, rfl, run_takeDeferred cK, ?_⟩⟩
    have hr : ∀ r, some D = some r → ∃ o : Obj, Z.heap[r]? = some o ∧ o.isCells = false := fun r e => by cases e; exact ⟨_, cK, rfl⟩
    have d2 : (Z.putObj D (.deferred none)).cell? ⟨w.heap.size, 0, none⟩ = some (.slice A (lnsOf (cnts s)).length c) := blk_cell (blk_own c2 (grownBy_putObj' _ D (.deferred none)) hr) 0
    have d3 : (Z.putObj D (.deferred none)).cell? ⟨w.heap.size + 1, 0, none⟩ = some (.int .i64 0) := blk_cell (blk_own c3 (grownBy_putObj' _ D (.deferred none)) hr) 0
    have d4 : (Z.putObj D (.deferred none)).cell? ⟨w.heap.size + 1 + 1, 0, none⟩ = some (.int .i64 0) := blk_cell (blk_own c4 (grownBy_putObj' _ D (.deferred none)) hr) 0
    have hRz := R_put_obj cR (o' := .deferred none) cK rfl
    refine ⟨.tuple #[.slice A (lnsOf (cnts s)).length c, .int .i64 0, .int .i64 0], ?_, cB.grown (grownBy_putObj' _ D (.deferred none)) cB.size (fun k e => by cases e; omega), .inl ⟨?_, A, c, rfl, hRz⟩⟩
    · simp [results, Tryz.f31, go_sem, d2, d3, d4]
    · have := HI.out.ok
      rw [upN_val] at this
      exact this
  case stop =>
    rintro D c pre W hD ⟨k, hk, rfl⟩ ⟨rfl, hX⟩ hK
    gi_wp2
    refine ⟨by simp, .inl ⟨_, _, rfl, run_takeDeferred hK, ?_⟩⟩
    obtain ⟨ini, last, e, h1, h2, e3⟩ := hX.p
    obtain ⟨k', rfl⟩ : ∃ k', k = k' + 1 := by
      cases k with
      | zero => simp [upN] at e
      | succ k' => exact ⟨k', rfl⟩
    rw [upN_succ] at e
    obtain ⟨rfl, e5⟩ := List.append_inj' e rfl
    obtain rfl : cntX s hs k' = last := by simpa using e5
    have hr : ∀ r, some D = some r → ∃ o : Obj, W.heap[r]? = some o ∧ o.isCells = false := fun r e => by cases e; exact ⟨_, hK, rfl⟩
    have d2 : (W.putObj D (.deferred none)).cell? ⟨w.heap.size, 0, none⟩ = some (.slice none 0 0) := blk_cell (blk_own hX.r2 (grownBy_putObj' _ D (.deferred none)) hr) 0
    have d3 : (W.putObj D (.deferred none)).cell? ⟨w.heap.size + 1, 0, none⟩ = some (.int .i64 ((k' : Int) + 1)) := blk_cell (blk_own e3 (grownBy_putObj' _ D (.deferred none)) hr) 0
    have d4 : (W.putObj D (.deferred none)).cell? ⟨w.heap.size + 1 + 1, 0, none⟩ = some (.int .i64 6) := blk_cell (blk_own hX.r4 (grownBy_putObj' _ D (.deferred none)) hr) 0
    rw [upN_val] at h1
    refine ⟨.tuple #[.slice none 0 0, .int .i64 ((k' : Int) + 1), .int .i64 6], ?_, hX.b.grown (grownBy_putObj' _ D (.deferred none)) hX.b.size (fun k e => by cases e; omega), .inr ⟨k', by omega, h1, h2, rfl⟩⟩
    simp [results, Tryz.f31, go_sem, d2, d3, d4]
theorem lines_b (s : ByteArray) (w : World) (hs : s.size ≤ 65536) (hG : LexG w) : Calls Tryz.prog 31 #[.string s] w (LinesR s w) := callsIn_wide.1 (lines_in s w hs hG)
set_option maxRecDepth 100000 in
theorem lines_long (s : ByteArray) (w : World) (hs : 65536 < s.size) : Calls Tryz.prog 31 #[.string s] w (RetB w (.tuple #[.slice none 0 0, .int .i64 0, .int .i64 7])) := by
  have hsz : (65536 : Int) < (s.size : Int) := by omega
  go_enter Tryz.func31, Tryz.ntmps31
  go_wp2
  refine bodyPost_ret (v := .tuple #[.slice none 0 0, .int .i64 0, .int .i64 7]) ?_ rfl ⟨rfl, ?_⟩
  · simp [results, Tryz.f31, go_sem]
  · exact below_alloc (below_alloc (below_alloc (Below.refl _ _) _) _) _
end Go.Proofs.YtolmkdhgnganaaaGreatDoor.H
namespace Go.Proofs.YtolmkdhgnganaaaGreatDoor.H
open Go Go.RowKit Go.Proofs Go.Proofs.YtolmkdhgnganaaaGreatDoorW.PrintWords Go.Proofs.YtolmkdhgnganaaaGreatDoor.Sp
def S0 : PSt := ⟨0, 0, 0, false, [], [], []⟩
/-- The lines, one after the other: what is held behind the last one, or the line that is refused and why. -/
def runS : PSt → List Ln → PSt × Int × Int
  | S, [] => (S, 0, 0)
  | S, l :: r => if (lineS S l.n l.ws).2 = 0 then runS (lineS S l.n l.ws).1 r else (S, l.n, (lineS S l.n l.ws).2)
/-- The first of n that is so. -/
def firstN (p : Nat → Bool) (n : Nat) : Option Nat := (List.range n).find? p
theorem firstN_some {p : Nat → Bool} {n k : Nat} (hk : k < n) (h : p k = true) (hl : ∀ j, j < k → p j = false) : firstN p n = some k := by
  unfold firstN
  rw [List.find?_range_eq_some]
  exact ⟨h, by simpa using hk, fun j hj => by rw [hl j hj]; rfl⟩
theorem firstN_none {p : Nat → Bool} {n : Nat} (h : ∀ j, j < n → p j = false) : firstN p n = none := by
  unfold firstN
  rw [List.find?_eq_none]
  intro x hx
  rw [h x (by simpa using hx)]; simp
/-- The first line that holds a byte that is not permitted. -/
def badLine (s : ByteArray) : Option Nat := firstN (fun k => !isPl (cntAt s k).2.data.toList) (pieces s).length
/-- Behind the lines: the sizes, the jumps. -/
def endS (S : PSt) : PSt × Int × Int :=
  if S.sized = false then (S, 0, 5) else
  match firstN (fun k => jbAt S.rungs (k : Int)) S.rungs.length with
  | some k => (S, S.jumps.getD k 0, 15)
  | none => (S, 0, 0)
/-- What Parse answers: what is held, the line's number, the error's. -/
def parseP (s : ByteArray) : PSt × Int × Int :=
  if 65536 < s.size then (S0, 0, 7) else
  match badLine s with
  | some k => (S0, (k : Int) + 1, 6)
  | none => if (runS S0 (lnsOf (cnts s))).2.2 = 0 then endS (runS S0 (lnsOf (cnts s))).1 else runS S0 (lnsOf (cnts s))
theorem mem_set {α : Type} {l : List α} {k : Nat} {x y : α} (h : y ∈ l.set k x) : y ∈ l ∨ y = x := List.mem_or_eq_of_mem_set h
theorem lastR_mem {S : PSt} (h : 0 < S.rungs.length) : lastR S ∈ S.rungs := by
  have : lastR S = S.rungs[S.rungs.length - 1] := by
    have hl : S.rungs.length - 1 < S.rungs.length := by omega
    simp [lastR, PPrinterRoundTrip.rd_T53, List.getD, hl]
  rw [this]; exact List.getElem_mem _
theorem Caps.set {S T : PSt} {x : Rung} {k : Nat} (h : Caps S) (e : T.rungs = S.rungs.set k x) (h1 : x.f1.length ≤ 256) (h2 : x.f2.length ≤ 16) : Caps T := fun r hr => by
  rw [e] at hr
  rcases mem_set hr with hr | rfl
  · exact h r hr
  · exact ⟨h1, h2⟩
theorem Caps.line {S : PSt} (h : Caps S) (n : Int) (ws : List ByteArray) : Caps (lineS S n ws).1 := by
  unfold lineS
  split
  · exact h
  · split
    · exact h
    · unfold sizeS; (repeat' split) <;> exact h
  · split
    · exact h
    · split
      · exact h
      · unfold beginS beginT
        (repeat' split) <;> first | exact h | (intro r hr; rcases List.mem_append.1 hr with hr | hr; exact h r hr; obtain rfl := List.mem_singleton.1 hr; exact ⟨Nat.zero_le _, Nat.zero_le _⟩)
  · split
    · exact h
    · split
      · exact h
      · rename_i h0
        have hm := h _ (lastR_mem (S := S) (by omega))
        unfold jumpS
        (repeat' split) <;> first | exact h | exact h.set rfl hm.1 hm.2
  · split
    · exact h
    · split
      · exact h
      · rename_i h0
        have hm := h _ (lastR_mem (S := S) (by omega))
        unfold conS
        (repeat' split) <;> first | exact h | exact h.set rfl (by rw [List.length_append, List.length_singleton]; omega) hm.2
  · split
    · exact h
    · split
      · exact h
      · rename_i h0
        have hm := h _ (lastR_mem (S := S) (by omega))
        unfold coilS
        (repeat' split) <;> first | exact h | exact h.set rfl hm.1 (by rw [List.length_append, List.length_singleton]; omega)
theorem fieldsGo_le : ∀ (l cur : List UInt8), ∀ x ∈ Lib.fieldsGo cur l, x.length ≤ cur.length + l.length
  | [], cur, x, hx => by
    unfold Lib.fieldsGo at hx
    split at hx
    · cases hx
    · obtain rfl := List.mem_singleton.1 hx; simp
  | b :: l, cur, x, hx => by
    unfold Lib.fieldsGo at hx
    split at hx
    · split at hx
      · have := fieldsGo_le l [] x hx; simp at this ⊢; omega
      · rcases List.mem_cons.1 hx with rfl | hx
        · omega
        · have := fieldsGo_le l [] x hx; simp at this ⊢; omega
    · have := fieldsGo_le l (cur ++ [b]) x hx; simp at this ⊢; omega
theorem words_size {x y : ByteArray} (h : y ∈ wordsOf x) : y.size ≤ x.size := by
  unfold wordsOf at h
  obtain ⟨l, hl, rfl⟩ := List.mem_map.1 h
  have := fieldsGo_le _ [] l hl
  have e : x.data.toList.length = x.size := by rw [Array.length_toList]; rfl
  show l.toArray.size ≤ x.size
  simp only [List.length_nil, Nat.zero_add] at this
  rw [List.size_toArray, ← e]
  exact this
theorem lns_ok {s : ByteArray} (hs : s.size ≤ 65536) {x : Ln} (h : x ∈ lnsOf (cnts s)) : 0 < x.ws.length ∧ ∀ j, (x.ws.getD j ⟨#[]⟩).size ≤ 65536 := by
  unfold lnsOf at h
  obtain ⟨p, hp, hx⟩ := List.mem_filterMap.1 h
  unfold toLn at hx
  split at hx
  · cases hx
  · rename_i hne
    cases hx
    refine ⟨List.length_pos_iff.2 (fun e => hne (by have e : wordsOf p.2 = [] := e; rw [e]; rfl)), fun j => ?_⟩
    unfold cnts upN at hp
    obtain ⟨k, hk, rfl⟩ := List.mem_map.1 hp
    have hsz := Nat.le_trans (bare_size _) (piece_at_size hs k)
    by_cases hj : j < (wordsOf (cntAt s k).2).length
    · have := words_size (List.getElem_mem hj)
      rw [List.getD, List.getElem?_eq_getElem hj, Option.getD_some]
      exact Nat.le_trans this hsz
    · show (((wordsOf (cntAt s k).2)).getD j ⟨#[]⟩).size ≤ 65536
      rw [List.getD, List.getElem?_eq_none (by omega), Option.getD_none]
      exact Nat.zero_le _
end Go.Proofs.YtolmkdhgnganaaaGreatDoor.H
namespace Go.Proofs.YtolmkdhgnganaaaGreatDoor.H
open Go Go.RowKit Go.Proofs Go.Proofs.YtolmkdhgnganaaaGreatDoorW.PrintWords Go.Proofs.YtolmkdhgnganaaaGreatDoorW.PrintLast Go.Proofs.YtolmkdhgnganaaaGreatDoorW.PrintMore Go.Proofs.YtolmkdhgnganaaaGreatDoor.Sp
/-- A line in memory. -/
theorem lnRow_at {w : World} {B n c : Nat} {A : Option Addr} {l : List Ln} (h : kLine.R 81 w B (fun _ => True) (.slice A n c) l) (k : Int) (h0 : 0 ≤ k) (h1 : k < n) (hp : 0 < (l.getD k.toNat zLn).ws.length) :
    ∃ g b wc, A = some ⟨g, 0, none⟩ ∧ w.cell? ⟨g, k.toNat * 2, none⟩ = some (.int .i64 (l.getD k.toNat zLn).n) ∧ w.cell? ⟨g, k.toNat * 2 + 1, none⟩ = some (.slice (some ⟨b, 0, none⟩) (l.getD k.toNat zLn).ws.length wc) ∧
      Kd.string.R 9 w B (fun _ => True) (.slice (some ⟨b, 0, none⟩) (l.getD k.toNat zLn).ws.length wc) (l.getD k.toNat zLn).ws := by
  have hn : n = l.length := (Kd.R_reads' h).1
  subst hn
  obtain ⟨g, cap, e, -, -, -⟩ := Kd.R_form h (by omega)
  cases e
  obtain ⟨cs, _, hM, hcc0, _⟩ := Kd.R_elem h zLn k h0 h1
  have hcc : ∀ j u, cs[j]? = some u → w.cell? ⟨g, k.toNat * 2 + j, none⟩ = some u := hcc0
  obtain ⟨_, _, rfl, rfl, ⟨v, rfl, hR⟩⟩ := hM
  have hR' := Kd.R_mono hR (ok' := fun _ => True) (fun _ _ => trivial)
  obtain ⟨b, wc, rfl, -, -, -⟩ := Kd.R_form hR' hp
  exact ⟨g, b, wc, rfl, hcc 0 _ rfl, hcc 1 _ rfl, hR'⟩
/-- What Parse answers. -/
def ParseR (s : ByteArray) (w : World) (e : Ending) (w' : World) : Prop :=
  Below w.heap.size w w' ∧
    (((parseP s).2.2 ≠ 0 ∧ e = .returned (.tuple #[.agg #[.int .i64 0, .int .i64 0, .int .i64 0, .slice none 0 0], .slice none 0 0, .int .i64 (parseP s).2.1, .int .i64 (parseP s).2.2])) ∨
     ((parseP s).2.2 = 0 ∧ ∃ vr vl, e = .returned (.tuple #[.agg #[.int .i64 (parseP s).1.i, .int .i64 (parseP s).1.q, .int .i64 (parseP s).1.m, vr], vl, .int .i64 0, .int .i64 0]) ∧
        Kd.S kRung 53 w' w.heap.size (fun _ => True) vr (parseP s).1.rungs ∧ (Kd.int .i64).R 3 w' w.heap.size (fun _ => True) vl (parseP s).1.lines ∧ (parseP s).1.lines.length = (parseP s).1.rungs.length ∧ (parseP s).1.rungs.length ≤ 64 ∧ Caps (parseP s).1))
theorem ParseR.bad {s : ByteArray} {w w' : World} {S : PSt} {n x : Int} (h : parseP s = (S, n, x)) (hx : x ≠ 0) (hb : Below w.heap.size w w') : ParseR s w (.returned (.tuple #[.agg #[.int .i64 0, .int .i64 0, .int .i64 0, .slice none 0 0], .slice none 0 0, .int .i64 n, .int .i64 x])) w' :=
  ⟨hb, .inl (by rw [h]; exact ⟨hx, rfl⟩)⟩
/-- What holds while Parse runs. -/
structure PzF (w : World) (gp gm : Nat) (S : PSt) (lns : List Ln) (A : Option Addr) (c : Nat) (wr : World) : Prop where
  b : Below w.heap.size w wr
  p : ∃ vr vl vj, PF w.heap.size gp S vr vl vj wr
  m : MapIs wr gm (tabW gp)
  r : wr.heap[w.heap.size]? = some (.cells #[.int .i64 0, .int .i64 0, .int .i64 0, .slice none 0 0] 24 (0, 0))
  l : kLine.R 81 wr w.heap.size (fun _ => True) (.slice A lns.length c) lns
section
variable {w wr w1 : World} {gp gm : Nat} {S : PSt} {lns : List Ln} {A : Option Addr} {c : Nat}
theorem PzF.below (h : PzF w gp gm S lns A c wr) (hb : Below wr.heap.size wr w1) : PzF w gp gm S lns A c w1 := by
  obtain ⟨vr, vl, vj, hp⟩ := h.p
  exact ⟨below_step h.b hb, ⟨vr, vl, vj, hp.below hb⟩, h.m.below hb, blk_below h.r hb, Kd.R_below h.l hb⟩
theorem PzF.step (h : PzF w gp gm S lns A c wr) {T : PSt} (hk : KP w.heap.size wr w1) (hp : ∃ vr vl vj, PF w.heap.size gp T vr vl vj w1) : PzF w gp gm T lns A c w1 :=
  ⟨h.b.trans hk.b, hp, h.m.kp hk, hk.blk h.r (by rfl), hk.lines h.l⟩
end
/-- While the jumps are looked at. -/
structure PeF (w : World) (gp : Nat) (S : PSt) (A : Option Addr) (c : Nat) (vl vj : Value) (wr : World) : Prop where
  b : Below w.heap.size w wr
  p : PF w.heap.size gp S (.slice A S.rungs.length c) vl vj wr
  r : wr.heap[w.heap.size]? = some (.cells #[.int .i64 0, .int .i64 0, .int .i64 0, .slice none 0 0] 24 (0, 0))
theorem PeF.below {w wr w1 : World} {gp : Nat} {S : PSt} {A : Option Addr} {c : Nat} {vl vj : Value} (h : PeF w gp S A c vl vj wr) (hb : Below wr.heap.size wr w1) : PeF w gp S A c vl vj w1 :=
  ⟨below_step h.b hb, h.p.below hb, blk_below h.r hb⟩
theorem run_drop {S : PSt} {lns : List Ln} {k : Int} (h0 : 0 ≤ k) (h1 : k < lns.length) : runS S (lns.drop k.toNat) = if (lineS S (lns.getD k.toNat zLn).n (lns.getD k.toNat zLn).ws).2 = 0 then runS (lineS S (lns.getD k.toNat zLn).n (lns.getD k.toNat zLn).ws).1 (lns.drop (k + 1).toNat) else (S, (lns.getD k.toNat zLn).n, (lineS S (lns.getD k.toNat zLn).n (lns.getD k.toNat zLn).ws).2) := by
  have hk : k.toNat < lns.length := by omega
  have e1 : (k + 1).toNat = k.toNat + 1 := by omega
  have e2 : lns.getD k.toNat zLn = lns[k.toNat] := by simp [List.getD, hk]
  rw [List.drop_eq_getElem_cons hk, e1, e2]
  rfl
/-- The ladder at g is stored. -/
abbrev set4 (w : World) (g : Nat) (a b c d : Value) : World := (((w.setCell ⟨g, 0, none⟩ a).setCell ⟨g, 1, none⟩ b).setCell ⟨g, 2, none⟩ c).setCell ⟨g, 3, none⟩ d
theorem set4_far {w : World} {g h j : Nat} {a b c d v : Value} (hn : h ≠ g) (hc : w.cell? ⟨h, j, none⟩ = some v) : (set4 w g a b c d).cell? ⟨h, j, none⟩ = some v := by
  have e : ∀ (w : World) (k : Nat) (u : Value), (w.setCell ⟨g, k, none⟩ u).cell? ⟨h, j, none⟩ = w.cell? ⟨h, j, none⟩ := fun w k u => World.cell?_of_block (Below.heap_setCell w ⟨g, k, none⟩ u h hn)
  rw [e, e, e, e]; exact hc
theorem set4_blk {w : World} {g t : Nat} {a0 b0 c0 d0 a b c d : Value} (h : w.heap[g]? = some (.cells #[a0, b0, c0, d0] t (0, 0))) : (set4 w g a b c d).heap[g]? = some (.cells #[a, b, c, d] t (0, 0)) := by
  have := blk_set (blk_set (blk_set (blk_set h 0 a) 1 b) 2 c) 3 d
  simpa using this
theorem set4_S {w : World} {g B : Nat} {ok : Nat → Prop} {v : Value} {xs : List Rung} {a0 b0 c0 d0 a b c d : Value} (hb : w.heap[g]? = some (.cells #[a0, b0, c0, d0] 24 (0, 0))) (h : Kd.S kRung 53 w B ok v xs) : Kd.S kRung 53 (set4 w g a b c d) B ok v xs := by
  have b1 := blk_set hb 0 a
  have b2 := blk_set b1 1 b
  have b3 := blk_set b2 2 c
  exact Kd.S_set (Kd.S_set (Kd.S_set (Kd.S_set h hb types_lad 0 a) b1 types_lad 1 b) b2 types_lad 2 c) b3 types_lad 3 d
theorem set4_R {w : World} {g B : Nat} {ok : Nat → Prop} {v : Value} {xs : List Int} {a0 b0 c0 d0 a b c d : Value} (hb : w.heap[g]? = some (.cells #[a0, b0, c0, d0] 24 (0, 0))) (h : (Kd.int .i64).R 3 w B ok v xs) : (Kd.int .i64).R 3 (set4 w g a b c d) B ok v xs := by
  have b1 := blk_set hb 0 a
  have b2 := blk_set b1 1 b
  have b3 := blk_set b2 2 c
  exact Kd.R_set (Kd.R_set (Kd.R_set (Kd.R_set h hb (by decide) 0 a) b1 (by decide) 1 b) b2 (by decide) 2 c) b3 (by decide) 3 d
theorem set4_below {W w : World} {g : Nat} {a b c d : Value} (h : Below W.heap.size W w) (hg : W.heap.size ≤ g) : Below W.heap.size W (set4 w g a b c d) := below_set (below_set (below_set (below_set h hg) hg) hg) hg
set_option maxHeartbeats 4000000 in
set_option maxRecDepth 100000 in
theorem parse_b (s : ByteArray) (w : World) (hL : Lets w) (hE : Errs w) (hK : Kws w) (hG : LexG w) : Calls Tryz.prog 11 #[.string s] w (ParseR s w) := by
  have HEnv := Aside0.mk (Env.mk (B := w.heap.size) (w := w) (fun W hW => hL.below hW) (fun W hW => hE.below hW) (fun W hW => hK.below hW))
  have HK := Aside0.mk hK
  have HG := Aside0.mk hG
  clear hL hE hK hG
  generalize hV : parseP s = V
  have HV := Aside0.mk hV
  clear hV
  have HB0 := Aside0.mk (below_alloc (Below.refl w.heap.size w) (.cells #[.int .i64 0, .int .i64 0, .int .i64 0, .slice none 0 0] 24))
  have K0 := Aside0.mk (blk_new w (.cells #[.int .i64 0, .int .i64 0, .int .i64 0, .slice none 0 0] 24))
  go_enter Tryz.func11, Tryz.ntmps11
  go_wp2_with fail
  generalize w.alloc (.cells #[.int .i64 0, .int .i64 0, .int .i64 0, .slice none 0 0] 24) = w1 at HB0 K0 ⊢
  by_cases hs : 65536 < s.size
  · refine (lines_long s w1 hs).mono ?_
    rintro e w2 ⟨rfl, hb⟩
    have hp : parseP s = (S0, 0, 7) := by rw [parseP, if_pos hs]
    have HP := Aside0.mk hp
    have HB := Aside0.mk (below_step HB0.out hb)
    have k2 := blk_below K0.out hb
    have r0 := blk_cell k2 0
    have r1 := blk_cell k2 1
    have r2 := blk_cell k2 2
    have r3 := blk_cell k2 3
    have f0 := blk_frozen k2 0
    have f1 := blk_frozen k2 1
    have f2 := blk_frozen k2 2
    have f3 := blk_frozen k2 3
    have K2 := Aside0.mk k2
    clear hp hb k2
    go_wp2
    have KZ : Aside0 (((((w2.setCell ⟨w.heap.size, 0, none⟩ (.int .i64 0)).setCell ⟨w.heap.size, 1, none⟩ (.int .i64 0)).setCell ⟨w.heap.size, 2, none⟩ (.int .i64 0)).setCell ⟨w.heap.size, 3, none⟩ (.slice none 0 0)).heap[w.heap.size]? = some (.cells #[.int .i64 0, .int .i64 0, .int .i64 0, .slice none 0 0] 24 (0, 0))) := ⟨set4_blk (K2.out)⟩
    have FB : Aside0 (Below w.heap.size w (((((w2.setCell ⟨w.heap.size, 0, none⟩ (.int .i64 0)).setCell ⟨w.heap.size, 1, none⟩ (.int .i64 0)).setCell ⟨w.heap.size, 2, none⟩ (.int .i64 0)).setCell ⟨w.heap.size, 3, none⟩ (.slice none 0 0)))) := ⟨set4_below (HB.out) (Nat.le_refl _)⟩
    generalize ((((w2.setCell ⟨w.heap.size, 0, none⟩ (.int .i64 0)).setCell ⟨w.heap.size, 1, none⟩ (.int .i64 0)).setCell ⟨w.heap.size, 2, none⟩ (.int .i64 0)).setCell ⟨w.heap.size, 3, none⟩ (.slice none 0 0)) = wz at KZ FB ⊢
    have z0 : wz.cell? ⟨w.heap.size, 0, none⟩ = some (.int .i64 0) := blk_cell KZ.out 0
    have z1 : wz.cell? ⟨w.heap.size, 1, none⟩ = some (.int .i64 0) := blk_cell KZ.out 1
    have z2 : wz.cell? ⟨w.heap.size, 2, none⟩ = some (.int .i64 0) := blk_cell KZ.out 2
    have z3 : wz.cell? ⟨w.heap.size, 3, none⟩ = some (.slice none 0 0) := blk_cell KZ.out 3
    refine bodyPost_ret (v := .tuple #[.agg #[.int .i64 0, .int .i64 0, .int .i64 0, .slice none 0 0], .slice none 0 0, .int .i64 0, .int .i64 7]) ?_ rfl (ParseR.bad HP.out (by decide) FB.out)
    simp [results, Tryz.f11, go_sem, z0, z1, z2, z3]
  · have hs' : s.size ≤ 65536 := by omega
    have HPP : Aside0 (parseP s = match badLine s with
      | some k => (S0, (k : Int) + 1, 6)
      | none => if (runS S0 (lnsOf (cnts s))).2.2 = 0 then endS (runS S0 (lnsOf (cnts s))).1 else runS S0 (lnsOf (cnts s))) := ⟨by rw [parseP, if_neg hs] <;> rfl⟩
    clear hs HV V
    refine (lines_b s w1 hs' (HG.out.below HB0.out)).mono ?_
    rintro e w2 ⟨hb, hr⟩
    have HB := Aside0.mk (below_step HB0.out hb)
    have K2 := Aside0.mk (blk_below K0.out hb)
    have hbs := HB0.out.size
    clear hb
    rcases hr with ⟨hpl, A, c, rfl, hl⟩ | ⟨k, hk, hpl, hbad, rfl⟩
    · have hbl : badLine s = none := firstN_none (fun j hj => by
        have := hpl (cntAt s j) (by unfold cnts upN; exact List.mem_map.2 ⟨j, List.mem_range.2 hj, rfl⟩)
        rw [this]; rfl)
      rw [hbl] at HPP
      dsimp only at HPP
      have HLn := Aside0.mk (fun x (hx : x ∈ lnsOf (cnts s)) => lns_ok hs' hx)
      have HL := Aside0.mk (Kd.R_lower hl hbs)
      have hlen : (lnsOf (cnts s)).length ≤ 65537 := Nat.le_trans (lnsOf_le _) (by unfold cnts; rw [upN_length]; exact pieces_le s hs')
      clear hl hpl hbl hs' hbs
      generalize lnsOf (cnts s) = lns at HPP HLn HL hlen ⊢
      have HB3 := Aside0.mk (below_alloc HB.out (.cells #[.int .i64 0, .int .i64 0, .int .i64 0, .slice none 0 0, .bool false, .slice none 0 0, .slice none 0 0] 77))
      have K3 := Aside0.mk (blk_alloc K2.out (.cells #[.int .i64 0, .int .i64 0, .int .i64 0, .slice none 0 0, .bool false, .slice none 0 0, .slice none 0 0] 77))
      have KP3 := Aside0.mk (blk_new w2 (.cells #[.int .i64 0, .int .i64 0, .int .i64 0, .slice none 0 0, .bool false, .slice none 0 0, .slice none 0 0] 77))
      have HL3 := Aside0.mk (Kd.R_alloc HL.out (.cells #[.int .i64 0, .int .i64 0, .int .i64 0, .slice none 0 0, .bool false, .slice none 0 0, .slice none 0 0] 77))
      have hgp : w.heap.size ≤ w2.heap.size := HB.out.size
      clear HB K2 HL
      go_wp2_with fail
      generalize w2.alloc (.cells #[.int .i64 0, .int .i64 0, .int .i64 0, .slice none 0 0, .bool false, .slice none 0 0, .slice none 0 0] 77) = w3 at HB3 K3 KP3 HL3 ⊢
      generalize w2.heap.size = gp at KP3 hgp ⊢
      refine (words_p gp w3 (HEnv.out.k _ HB3.out)).mono ?_
      rintro e w4 ⟨gm, rfl, hT⟩
      have HF0 : Aside0 (PzF w gp gm S0 lns A c w4) := ⟨⟨HB3.out.trans (hT.b.mono HB3.out.size), ⟨.slice none 0 0, .slice none 0 0, .slice none 0 0, ⟨hgp, by have := HB3.out.size; have := hT.b.size; omega, blk_below KP3.out hT.b, Kd.S_nil _ _ _ _ _, Kd.R_nil _ _ _ _ _, Kd.R_nil _ _ _ _ _, (fun k e => by cases e), rfl, rfl, Nat.zero_le _⟩⟩, hT.m, blk_below K3.out hT.b, Kd.R_below HL3.out hT.b⟩⟩
      have hgm : w.heap.size < gm := by have := hT.g; have := blk_lt KP3.out; omega
      clear HB3 K3 KP3 HL3 hT
      clear w3
      go_wp2
      go_loopw [33] (fun cv w' => ∃ k : Int, cv = .int .i64 k ∧ 0 ≤ k ∧ k ≤ lns.length ∧ ∃ S, ∃ wr : World, wr = w' ∧ Aside0 (PzF w gp gm S lns A c wr) ∧ Aside0 (Caps S) ∧ Aside0 (runS S0 lns = runS S (lns.drop k.toNat))) (fun cv _ => ((lns.length : Int) - intOf cv).toNat)
      case atStart => exact ⟨0, rfl, by omega, by omega, S0, _, rfl, HF0, ⟨fun r hr => by cases hr⟩, ⟨rfl⟩⟩
      case round =>
        clear HF0
        obtain ⟨k, rfl, k0, k1, S, wr, rfl, HF, HC, HR⟩ := hrel
        by_cases hk : k < lns.length
        · have hkn : k.toNat < lns.length := by omega
          have hmem : lns.getD k.toNat zLn ∈ lns := by
            have : lns.getD k.toNat zLn = lns[k.toNat] := by simp [List.getD, hkn]
            rw [this]; exact List.getElem_mem hkn
          obtain ⟨hw0, hwsz⟩ := HLn.out _ hmem
          have HSz := Aside0.mk hwsz
          obtain ⟨g, b, wc, rfl, x0, x1, hws⟩ := lnRow_at HF.out.l k k0 (by omega) hw0
          have HR2 := Aside0.mk (HR.out.trans (run_drop (S := S) k0 hk))
          clear hmem hwsz HR
          generalize lns.getD k.toNat zLn = x at *
          obtain ⟨n, ws⟩ := x
          dsimp only at *
          have hwr : wrap64 (k + 1) = k + 1 := w64 (by omega) (by omega)
          have HF5 := Aside0.mk (HF.out.below (below_alloc (Below.refl _ _) (.cells #[.int .i64 n, .slice (some ⟨b, 0, none⟩) ws.length wc] 81)))
          have K5 := Aside0.mk (blk_new wr (.cells #[.int .i64 n, .slice (some ⟨b, 0, none⟩) ws.length wc] 81))
          have HW5 := Aside0.mk (Kd.R_alloc hws (.cells #[.int .i64 n, .slice (some ⟨b, 0, none⟩) ws.length wc] 81))
          have hg5 : w.heap.size < wr.heap.size := blk_lt HF.out.r
          have n0 := blk_cell K5.out 0
          have n1 := blk_cell K5.out 1
          clear hws
          go_wp2_with fail
          clear x0 x1 n0 n1 HF
          generalize wr.alloc (.cells #[.int .i64 n, .slice (some ⟨b, 0, none⟩) ws.length wc] 81) = w5 at HF5 K5 HW5 ⊢
          generalize wr.heap.size = gx at K5 hg5 ⊢
          clear wr
          obtain ⟨vr, vl, vj, hpf⟩ := HF5.out.p
          refine (line_p hpf HF5.out.m n b ws.length wc ws HW5.out HSz.out hw0 HC.out (HEnv.out.step HF5.out.b)).mono ?_
          clear hpf
          rintro e w6 ⟨rfl, hkp, hp6⟩
          have K6 := Aside0.mk (hkp.blk K5.out (by rfl))
          have HCl := Aside0.mk (HC.out.line n ws)
          generalize hq : lineS S n ws = q at HR2 HCl hp6 ⊢
          clear hq
          obtain ⟨T, x⟩ := q
          dsimp only at *
          by_cases hx : x = 0
          · subst hx
            have HF6 := Aside0.mk (HF5.out.step hkp (hp6 rfl))
            have HR6 := Aside0.mk (HR2.out.trans (if_pos rfl))
            clear HF5 K5 HW5 K6 hkp hp6 HR2
            go_wp2
            go_roundw
            case rel => exact ⟨k + 1, by simp [hwr], by omega, by omega, T, _, rfl, HF6, HCl, HR6⟩
            case measure => simp [intOf, hwr]; omega
          · have HB6 := Aside0.mk (HF5.out.b.trans hkp.b)
            have KL6 := Aside0.mk (hkp.blk HF5.out.r (by rfl))
            have hP := HPP.out
            rw [HR2.out, if_neg hx] at hP
            dsimp only at hP
            rw [if_neg hx] at hP
            have HP := Aside0.mk hP
            clear HF5 K5 HW5 hkp hp6 HR2 hP
            have hxb : (x == 0) = false := beq_eq_false_iff_ne.2 hx
            have u0 := blk_cell K6.out 0
            have hn0 : gx ≠ w.heap.size := by omega
            have r0 := blk_cell KL6.out 0
            have r1 := blk_cell KL6.out 1
            have r2 := blk_cell KL6.out 2
            have r3 := blk_cell KL6.out 3
            have f0 := blk_frozen KL6.out 0
            have f1 := blk_frozen KL6.out 1
            have f2 := blk_frozen KL6.out 2
            have f3 := blk_frozen KL6.out 3
            go_wp2
            refine start_ (n := 8) (S := fun w' => w'.cell? ⟨gx, 0, none⟩ = some (.int .i64 n)) (ds := []) #[false, false, false, false, false, false, false, false] (by kernel_rfl) rfl rfl (u0) (fun hHeld => ?_)
            refine pure_ (i := 0) (N := some 43) (v := ?_) (a' := ?_) #[true, false, false, false, false, false, false, false] rfl rfl (by kernel_rfl) (fun _ _ _ h => h) (Or.inl ⟨by rfl, ?_⟩) ?_ ?_
            rotate_left
            · intro w'
              go_simp
              with_reducible rfl
            rotate_left
            · simp only [Act.put, List.setIfInBounds_toArray, List.set_cons_zero, List.set_cons_succ, i64_w, i32_w]
              rfl
            refine pure_ (i := 1) (N := some 44) (v := ?_) (a' := ?_) #[true, true, false, false, false, false, false, false] rfl rfl (by kernel_rfl) (fun _ _ _ h => h) (Or.inl ⟨by rfl, ?_⟩) ?_ ?_
            rotate_left
            · intro w'
              go_simp
              with_reducible rfl
            rotate_left
            · simp only [Act.put, List.setIfInBounds_toArray, List.set_cons_zero, List.set_cons_succ, i64_w, i32_w]
              rfl
            refine pure_ (i := 3) (N := some 46) (v := ?_) (a' := ?_) #[true, true, false, true, false, false, false, false] rfl rfl (by kernel_rfl) (fun _ _ _ h => h) (Or.inl ⟨by rfl, ?_⟩) ?_ ?_
            rotate_left
            · intro w'
              go_simp
              with_reducible rfl
            rotate_left
            · simp only [Act.put, List.setIfInBounds_toArray, List.set_cons_zero, List.set_cons_succ, i64_w, i32_w]
              rfl
            refine take_ (i := 2) (N := some 45) (v := ?_) (a' := ?_) #[true, true, true, true, false, false, false, false] rfl rfl (by kernel_rfl) (fun _ _ _ h => h) (Or.inl ⟨by rfl, ?_⟩) hHeld ?_ ?_
            rotate_left
            · intro w' s0
              go_simp
              with_reducible rfl
            rotate_left
            · simp only [Act.put, List.setIfInBounds_toArray, List.set_cons_zero, List.set_cons_succ, i64_w, i32_w]
              rfl
            refine one_ (i := 4) (N := none) #[true, true, true, true, true, false, false, false] rfl rfl (by kernel_rfl) (by decide) (fun K hK => ?_)
            refine skip_ (w1 := ?_) (by rfl) rfl ?_ ?_
            rotate_left
            · go_simp
              rfl
            refine hK.out _ _ ((set4_far hn0 u0)) (fun hHeld => ?_)
            clear hK K
            refine pure_ (i := 5) (N := some 3) (v := ?_) (a' := ?_) #[true, true, true, true, true, true, false, false] rfl rfl (by kernel_rfl) (fun _ _ _ h => h) (Or.inl ⟨by rfl, ?_⟩) ?_ ?_
            rotate_left
            · intro w'
              go_simp
              with_reducible rfl
            rotate_left
            · simp only [Act.put, List.setIfInBounds_toArray, List.set_cons_zero, List.set_cons_succ, i64_w, i32_w]
              rfl
            refine pure_ (i := 6) (N := some 4) (v := ?_) (a' := ?_) #[true, true, true, true, true, true, true, false] rfl rfl (by kernel_rfl) (fun _ _ _ h => h) (Or.inl ⟨by rfl, ?_⟩) ?_ ?_
            rotate_left
            · intro w'
              go_simp
              with_reducible rfl
            rotate_left
            · simp only [Act.put, List.setIfInBounds_toArray, List.set_cons_zero, List.set_cons_succ, i64_w, i32_w]
              rfl
            refine pure_ (i := 7) (N := some 5) (v := ?_) (a' := ?_) #[true, true, true, true, true, true, true, true] rfl rfl (by kernel_rfl) (fun _ _ _ h => h) (Or.inl ⟨by rfl, ?_⟩) ?_ ?_
            rotate_left
            · intro w'
              go_simp
              with_reducible rfl
            rotate_left
            · simp only [Act.put, List.setIfInBounds_toArray, List.set_cons_zero, List.set_cons_succ, i64_w, i32_w]
              rfl
            refine done_ (by kernel_rfl) ?_
            clear u0 r0 r1 r2 r3 f0 f1 f2 f3
            have KZ := Aside0.mk (blk_drew (set4_blk (a := .int .i64 0) (b := .int .i64 0) (c := .int .i64 0) (d := .slice none 0 0) KL6.out))
            have FB := Aside0.mk (below_drew (set4_below (a := .int .i64 0) (b := .int .i64 0) (c := .int .i64 0) (d := .slice none 0 0) HB6.out (Nat.le_refl _)))
            generalize (set4 w6 w.heap.size (.int .i64 0) (.int .i64 0) (.int .i64 0) (.slice none 0 0)).drew = wz at KZ FB ⊢
            have z0 : wz.cell? ⟨w.heap.size, 0, none⟩ = some (.int .i64 0) := blk_cell KZ.out 0
            have z1 : wz.cell? ⟨w.heap.size, 1, none⟩ = some (.int .i64 0) := blk_cell KZ.out 1
            have z2 : wz.cell? ⟨w.heap.size, 2, none⟩ = some (.int .i64 0) := blk_cell KZ.out 2
            have z3 : wz.cell? ⟨w.heap.size, 3, none⟩ = some (.slice none 0 0) := blk_cell KZ.out 3
            go_wp2
            refine bodyPost_ret (v := .tuple #[.agg #[.int .i64 0, .int .i64 0, .int .i64 0, .slice none 0 0], .slice none 0 0, .int .i64 n, .int .i64 x]) ?_ rfl (ParseR.bad HP.out hx FB.out)
            simp [results, Tryz.f11, go_sem, z0, z1, z2, z3]
        · obtain rfl : k = lns.length := by omega
          have HE0 : Aside0 (runS S0 lns = (S, 0, 0)) := ⟨by rw [HR.out, Int.toNat_natCast, List.drop_length]; rfl⟩
          have HPE : Aside0 (parseP s = endS S) := ⟨by rw [HPP.out, HE0.out]; rfl⟩
          clear HR HE0 HPP
          obtain ⟨vr, vl, vj, hpf⟩ := HF.out.p
          obtain ⟨Al, cl, rfl, -, -⟩ := Kd.R_reads hpf.l
          obtain ⟨Aj, cj, rfl, -, -⟩ := Kd.R_reads hpf.j
          have HPF := Aside0.mk hpf
          have KL := Aside0.mk HF.out.r
          have HB := Aside0.mk HF.out.b
          obtain ⟨Ar, cr, rfl, hcr, hCr⟩ := Kd.S_reads hpf.r
          have p3 := hpf.cells.2.2.2.1
          have p4 := hpf.cells.2.2.2.2.1
          have p6 := hpf.cells.2.2.2.2.2.2
          have h64 := hpf.n64
          clear hpf HF
          cases hsz : S.sized with
          | false =>
            rw [hsz] at p4
            have hP : parseP s = (S, 0, 5) := by rw [HPE.out, endS, if_pos hsz]
            have HP := Aside0.mk hP
            have r0 := blk_cell KL.out 0
            have r1 := blk_cell KL.out 1
            have r2 := blk_cell KL.out 2
            have r3 := blk_cell KL.out 3
            have f0 := blk_frozen KL.out 0
            have f1 := blk_frozen KL.out 1
            have f2 := blk_frozen KL.out 2
            have f3 := blk_frozen KL.out 3
            clear hP p3 p6 hCr
            go_wp2
            clear r0 r1 r2 r3 f0 f1 f2 f3 p4
            have KZ : Aside0 (((((wr.setCell ⟨w.heap.size, 0, none⟩ (.int .i64 0)).setCell ⟨w.heap.size, 1, none⟩ (.int .i64 0)).setCell ⟨w.heap.size, 2, none⟩ (.int .i64 0)).setCell ⟨w.heap.size, 3, none⟩ (.slice none 0 0)).heap[w.heap.size]? = some (.cells #[.int .i64 0, .int .i64 0, .int .i64 0, .slice none 0 0] 24 (0, 0))) := ⟨set4_blk KL.out⟩
            have FB : Aside0 (Below w.heap.size w ((((wr.setCell ⟨w.heap.size, 0, none⟩ (.int .i64 0)).setCell ⟨w.heap.size, 1, none⟩ (.int .i64 0)).setCell ⟨w.heap.size, 2, none⟩ (.int .i64 0)).setCell ⟨w.heap.size, 3, none⟩ (.slice none 0 0))) := ⟨set4_below HB.out (Nat.le_refl _)⟩
            generalize ((((wr.setCell ⟨w.heap.size, 0, none⟩ (.int .i64 0)).setCell ⟨w.heap.size, 1, none⟩ (.int .i64 0)).setCell ⟨w.heap.size, 2, none⟩ (.int .i64 0)).setCell ⟨w.heap.size, 3, none⟩ (.slice none 0 0)) = wz at KZ FB ⊢
            have z0 : wz.cell? ⟨w.heap.size, 0, none⟩ = some (.int .i64 0) := blk_cell KZ.out 0
            have z1 : wz.cell? ⟨w.heap.size, 1, none⟩ = some (.int .i64 0) := blk_cell KZ.out 1
            have z2 : wz.cell? ⟨w.heap.size, 2, none⟩ = some (.int .i64 0) := blk_cell KZ.out 2
            have z3 : wz.cell? ⟨w.heap.size, 3, none⟩ = some (.slice none 0 0) := blk_cell KZ.out 3
            refine bodyPost_ret (v := .tuple #[.agg #[.int .i64 0, .int .i64 0, .int .i64 0, .slice none 0 0], .slice none 0 0, .int .i64 0, .int .i64 5]) ?_ rfl (ParseR.bad HP.out (by decide) FB.out)
            simp [results, Tryz.f11, go_sem, z0, z1, z2, z3]
          | true =>
            rw [hsz] at p4
            have HSz := Aside0.mk hsz
            go_wp2
            go_loopw [60] (fun cv w' => ∃ k : Int, cv = .int .i64 k ∧ 0 ≤ k ∧ k ≤ S.rungs.length ∧ ∃ wx : World, wx = w' ∧ Aside0 (PeF w gp S Ar cr (.slice Al S.lines.length cl) (.slice Aj S.jumps.length cj) wx) ∧ Aside0 (∀ j : Nat, (j : Int) < k → jbAt S.rungs (j : Int) = false)) (fun cv _ => ((S.rungs.length : Int) - intOf cv).toNat)
            case atStart => exact ⟨0, rfl, by omega, by omega, _, rfl, ⟨⟨HB.out, HPF.out, KL.out⟩⟩, ⟨fun j hj => by omega⟩⟩
            case round =>
              clear HB HPF KL hCr p3 p4 p6
              obtain ⟨k, rfl, k0, k1, wx, rfl, HF, HJ⟩ := hrel
              have hCr := (Kd.S_reads' HF.out.p.r).2.2
              by_cases hk : k < S.rungs.length
              · obtain ⟨ad, A1, c1, A2, c2, rfl, x0, x1, x2, x3, hl1, hi1, hl2, hi2⟩ := PPrinterRoundTrip.at_T53 hCr k k0 hk
                clear hl1 hi1 hl2 hi2
                change wx.cell? _ = some (.string (rdR S.rungs k).f0) at x0
                change wx.cell? _ = some (.slice A1 (rdR S.rungs k).f1.length c1) at x1
                change wx.cell? _ = some (.slice A2 (rdR S.rungs k).f2.length c2) at x2
                change wx.cell? _ = some (.string (rdR S.rungs k).f3) at x3
                have hwr : wrap64 (k + 1) = k + 1 := w64 (by omega) (by omega)
                have hjb : jbAt S.rungs k = (!(rdR S.rungs k).f3.toList.isEmpty && !hasLab (S.rungs.drop (k + 1).toNat) (rdR S.rungs k).f3) := rfl
                have HStep : Aside0 (jbAt S.rungs k = false → ∀ j : Nat, (j : Int) < k + 1 → jbAt S.rungs (j : Int) = false) := ⟨fun h j hj => by
                  by_cases hj2 : (j : Int) < k
                  · exact HJ.out j hj2
                  · obtain rfl : (j : Int) = k := by omega
                    exact h⟩
                by_cases j0 : (rdR S.rungs k).f3.toList = []
                · have j1 : (rdR S.rungs k).f3.toList.isEmpty = true := by rw [j0]; rfl
                  have HJ2 := Aside0.mk (HStep.out (by rw [hjb, j1]; rfl))
                  have HF1 := fun o => Aside0.mk (HF.out.below (below_alloc (Below.refl _ _) o))
                  clear hjb HStep hCr
                  go_wp2
                  go_roundw
                  case rel => exact ⟨k + 1, by simp [hwr], by omega, by omega, _, rfl, HF1 _, HJ2⟩
                  case measure => simp [intOf, hwr]; omega
                · have j1 : (rdR S.rungs k).f3.toList.isEmpty = false := by simpa using j0
                  obtain ⟨A', hsl, hct, hcl⟩ := rungs_from hCr hcr (show (0 : Int) ≤ k + 1 by omega) (by omega : k + 1 ≤ S.rungs.length)
                  have HHas := fun W (hW : Below wx.heap.size wx W) (g2 : Nat) (h : W.cell? ⟨g2, 3, none⟩ = some (.string (rdR S.rungs k).f3)) => has_d A' (cr - (k + 1).toNat) (S.rungs.drop (k + 1).toNat) (rdR S.rungs k).f3 g2 W (Kd.C_below hct hW) hcl h
                  simp only [List.length_drop] at HHas hsl
                  have p3 := HF.out.p.cells.2.2.2.1
                  have ltg : gp < wx.heap.size := blk_lt HF.out.p.p
                  generalize hasLab (S.rungs.drop (k + 1).toNat) (rdR S.rungs k).f3 = hl at HHas hjb
                  have HH := Aside0.mk HHas
                  have HJB := Aside0.mk hjb
                  have HF1 := Aside0.mk (HF.out.below (below_alloc (Below.refl _ _) (.cells #[.string (rdR S.rungs k).f0, .slice A1 (rdR S.rungs k).f1.length c1, .slice A2 (rdR S.rungs k).f2.length c2, .string (rdR S.rungs k).f3] 53)))
                  have n3 := Aside0.mk (blk_cell (blk_new wx (.cells #[.string (rdR S.rungs k).f0, .slice A1 (rdR S.rungs k).f1.length c1, .slice A2 (rdR S.rungs k).f2.length c2, .string (rdR S.rungs k).f3] 53)) 3)
                  clear hct hcl HHas hjb hCr
                  go_wp2_with fail
                  refine (HH.out _ (below_alloc (Below.refl _ _) _) _ n3.out).mono ?_
                  rintro e1 w3 ⟨rfl, hb⟩
                  have HF3 := Aside0.mk (HF1.out.below hb)
                  clear HH HF1 n3 hb HF
                  cases hl with
                  | true =>
                    have HJ2 := Aside0.mk (HStep.out (by rw [HJB.out, j1]; rfl))
                    go_wp2
                    go_roundw
                    case rel => exact ⟨k + 1, by simp [hwr], by omega, by omega, _, rfl, HF3, HJ2⟩
                    case measure => simp [intOf, hwr]; omega
                  | false =>
                    have hN : parseP s = (S, S.jumps.getD k.toNat 0, 15) := by
                      rw [HPE.out, endS, if_neg (by rw [HSz.out]; simp), firstN_some (k := k.toNat) (by omega) (by rw [show ((k.toNat : Nat) : Int) = k by omega, HJB.out, j1]; rfl) (fun j hj => HJ.out j (by omega))]
                    have HN := Aside0.mk hN
                    have hjl := HF3.out.p.nj
                    obtain ⟨gj, cj', ej, -, -, -⟩ := Kd.R_form HF3.out.p.j (by omega)
                    cases ej
                    obtain ⟨cb, htj⟩ := Kd.R_typed HF3.out.p.j gj rfl
                    have hn0 : gp ≠ w.heap.size := fun e => by have h1 := HF3.out.p.p; have h2 := HF3.out.r; rw [e, h2] at h1; simp at h1
                    have hn1 : gj ≠ w.heap.size := fun e => by have h2 := HF3.out.r; rw [e, h2] at htj; cases htj
                    have u0 := HF3.out.p.cells.2.2.2.2.2.2
                    have u1 : w3.cell? ⟨gj, k.toNat, none⟩ = some (.int .i64 (S.jumps.getD k.toNat 0)) := by
                      obtain ⟨ad, e, hc⟩ := Kd.at_int (Kd.R_reads' HF3.out.p.j).2.2 k (by omega) (by omega)
                      cases e
                      have ea : (⟨gj, 0, none⟩ : Addr).add k.toNat = ⟨gj, k.toNat, none⟩ := by unfold Addr.add; split <;> simp_all
                      rw [ea] at hc
                      exact hc
                    have KL := Aside0.mk HF3.out.r
                    have HB := Aside0.mk HF3.out.b
                    have r0 := blk_cell KL.out 0
                    have r1 := blk_cell KL.out 1
                    have r2 := blk_cell KL.out 2
                    have r3 := blk_cell KL.out 3
                    have f0 := blk_frozen KL.out 0
                    have f1 := blk_frozen KL.out 1
                    have f2 := blk_frozen KL.out 2
                    have f3 := blk_frozen KL.out 3
                    have hjk : k < (S.jumps.length : Int) := by omega
                    clear hN htj hjl x0 x1 x2 x3 p3 HF3 hsl ltg
                    generalize S.jumps.getD k.toNat 0 = y at u1 HN
                    go_wp2
                    refine start_ (n := 12) (S := fun w' => w'.cell? ⟨gp, 6, none⟩ = some (.slice (some ⟨gj, 0, none⟩) S.jumps.length cj) ∧ w'.cell? ⟨gj, k.toNat, none⟩ = some (.int .i64 y)) (ds := []) #[false, false, false, false, false, false, false, false, false, false, false, false] (by kernel_rfl) rfl rfl ⟨u0, u1⟩ (fun hHeld => ?_)
                    refine pure_ (i := 0) (N := some 81) (v := ?_) (a' := ?_) #[true, false, false, false, false, false, false, false, false, false, false, false] rfl rfl (by kernel_rfl) (fun _ _ _ h => h) (Or.inl ⟨by rfl, ?_⟩) ?_ ?_
                    rotate_left
                    · intro w'
                      go_simp
                      with_reducible rfl
                    rotate_left
                    · simp only [Act.put, List.setIfInBounds_toArray, List.set_cons_zero, List.set_cons_succ, i64_w, i32_w]
                      rfl
                    refine pure_ (i := 1) (N := some 82) (v := ?_) (a' := ?_) #[true, true, false, false, false, false, false, false, false, false, false, false] rfl rfl (by kernel_rfl) (fun _ _ _ h => h) (Or.inl ⟨by rfl, ?_⟩) ?_ ?_
                    rotate_left
                    · intro w'
                      go_simp
                      with_reducible rfl
                    rotate_left
                    · simp only [Act.put, List.setIfInBounds_toArray, List.set_cons_zero, List.set_cons_succ, i64_w, i32_w]
                      rfl
                    refine pure_ (i := 2) (N := some 83) (v := ?_) (a' := ?_) #[true, true, true, false, false, false, false, false, false, false, false, false] rfl rfl (by kernel_rfl) (fun _ _ _ h => h) (Or.inl ⟨by rfl, ?_⟩) ?_ ?_
                    rotate_left
                    · intro w'
                      go_simp
                      with_reducible rfl
                    rotate_left
                    · simp only [Act.put, List.setIfInBounds_toArray, List.set_cons_zero, List.set_cons_succ, i64_w, i32_w]
                      rfl
                    refine pure_ (i := 3) (N := some 84) (v := ?_) (a' := ?_) #[true, true, true, true, false, false, false, false, false, false, false, false] rfl rfl (by kernel_rfl) (fun _ _ _ h => h) (Or.inl ⟨by rfl, ?_⟩) ?_ ?_
                    rotate_left
                    · intro w'
                      go_simp
                      with_reducible rfl
                    rotate_left
                    · simp only [Act.put, List.setIfInBounds_toArray, List.set_cons_zero, List.set_cons_succ, i64_w, i32_w]
                      rfl
                    refine pure_ (i := 5) (N := some 86) (v := ?_) (a' := ?_) #[true, true, true, true, false, true, false, false, false, false, false, false] rfl rfl (by kernel_rfl) (fun _ _ _ h => h) (Or.inl ⟨by rfl, ?_⟩) ?_ ?_
                    rotate_left
                    · intro w'
                      go_simp
                      with_reducible rfl
                    rotate_left
                    · simp only [Act.put, List.setIfInBounds_toArray, List.set_cons_zero, List.set_cons_succ, i64_w, i32_w]
                      rfl
                    refine take_ (i := 4) (N := some 85) (v := ?_) (a' := ?_) #[true, true, true, true, true, true, false, false, false, false, false, false] rfl rfl (by kernel_rfl) (fun _ _ _ h => h) (Or.inl ⟨by rfl, ?_⟩) hHeld ?_ ?_
                    rotate_left
                    · rintro w' ⟨s0, s1⟩
                      go_simp
                      with_reducible rfl
                    rotate_left
                    · simp only [Act.put, List.setIfInBounds_toArray, List.set_cons_zero, List.set_cons_succ, i64_w, i32_w]
                      rfl
                    refine pure_ (i := 6) (N := some 87) (v := ?_) (a' := ?_) #[true, true, true, true, true, true, true, false, false, false, false, false] rfl rfl (by kernel_rfl) (fun _ _ _ h => h) (Or.inl ⟨by rfl, ?_⟩) ?_ ?_
                    rotate_left
                    · intro w'
                      go_simp
                      with_reducible rfl
                    rotate_left
                    · simp only [Act.put, List.setIfInBounds_toArray, List.set_cons_zero, List.set_cons_succ, i64_w, i32_w]
                      rfl
                    refine take_ (i := 7) (N := some 88) (v := ?_) (a' := ?_) #[true, true, true, true, true, true, true, true, false, false, false, false] rfl rfl (by kernel_rfl) (fun _ _ _ h => h) (Or.inl ⟨by rfl, ?_⟩) hHeld ?_ ?_
                    rotate_left
                    · rintro w' ⟨s0, s1⟩
                      go_simp
                      with_reducible rfl
                    rotate_left
                    · simp only [Act.put, List.setIfInBounds_toArray, List.set_cons_zero, List.set_cons_succ, i64_w, i32_w]
                      rfl
                    refine one_ (i := 8) (N := none) #[true, true, true, true, true, true, true, true, true, false, false, false] rfl rfl (by kernel_rfl) (by decide) (fun K hK => ?_)
                    refine skip_ (w1 := ?_) (by rfl) rfl ?_ ?_
                    rotate_left
                    · go_simp
                      rfl
                    refine hK.out _ _ ⟨(set4_far hn0 u0), (set4_far hn1 u1)⟩ (fun hHeld => ?_)
                    clear hK K
                    refine pure_ (i := 9) (N := some 3) (v := ?_) (a' := ?_) #[true, true, true, true, true, true, true, true, true, true, false, false] rfl rfl (by kernel_rfl) (fun _ _ _ h => h) (Or.inl ⟨by rfl, ?_⟩) ?_ ?_
                    rotate_left
                    · intro w'
                      go_simp
                      with_reducible rfl
                    rotate_left
                    · simp only [Act.put, List.setIfInBounds_toArray, List.set_cons_zero, List.set_cons_succ, i64_w, i32_w]
                      rfl
                    refine pure_ (i := 10) (N := some 4) (v := ?_) (a' := ?_) #[true, true, true, true, true, true, true, true, true, true, true, false] rfl rfl (by kernel_rfl) (fun _ _ _ h => h) (Or.inl ⟨by rfl, ?_⟩) ?_ ?_
                    rotate_left
                    · intro w'
                      go_simp
                      with_reducible rfl
                    rotate_left
                    · simp only [Act.put, List.setIfInBounds_toArray, List.set_cons_zero, List.set_cons_succ, i64_w, i32_w]
                      rfl
                    refine pure_ (i := 11) (N := some 5) (v := ?_) (a' := ?_) #[true, true, true, true, true, true, true, true, true, true, true, true] rfl rfl (by kernel_rfl) (fun _ _ _ h => h) (Or.inl ⟨by rfl, ?_⟩) ?_ ?_
                    rotate_left
                    · intro w'
                      go_simp
                      with_reducible rfl
                    rotate_left
                    · simp only [Act.put, List.setIfInBounds_toArray, List.set_cons_zero, List.set_cons_succ, i64_w, i32_w]
                      rfl
                    refine done_ (by kernel_rfl) ?_
                    clear u0 u1 r0 r1 r2 r3 f0 f1 f2 f3
                    have KZ := Aside0.mk (blk_drew (set4_blk (a := .int .i64 0) (b := .int .i64 0) (c := .int .i64 0) (d := .slice none 0 0) KL.out))
                    have FB := Aside0.mk (below_drew (set4_below (a := .int .i64 0) (b := .int .i64 0) (c := .int .i64 0) (d := .slice none 0 0) HB.out (Nat.le_refl _)))
                    generalize (set4 w3 w.heap.size (.int .i64 0) (.int .i64 0) (.int .i64 0) (.slice none 0 0)).drew = wz at KZ FB ⊢
                    have z0 : wz.cell? ⟨w.heap.size, 0, none⟩ = some (.int .i64 0) := blk_cell KZ.out 0
                    have z1 : wz.cell? ⟨w.heap.size, 1, none⟩ = some (.int .i64 0) := blk_cell KZ.out 1
                    have z2 : wz.cell? ⟨w.heap.size, 2, none⟩ = some (.int .i64 0) := blk_cell KZ.out 2
                    have z3 : wz.cell? ⟨w.heap.size, 3, none⟩ = some (.slice none 0 0) := blk_cell KZ.out 3
                    go_wp2
                    refine bodyPost_ret (v := .tuple #[.agg #[.int .i64 0, .int .i64 0, .int .i64 0, .slice none 0 0], .slice none 0 0, .int .i64 y, .int .i64 15]) ?_ rfl (ParseR.bad HN.out (by decide) FB.out)
                    simp [results, Tryz.f11, go_sem, z0, z1, z2, z3]
              · obtain rfl : k = S.rungs.length := by omega
                have hN : parseP s = (S, 0, 0) := by
                  rw [HPE.out, endS, if_neg (by rw [HSz.out]; simp), firstN_none (fun j hj => HJ.out j (by omega))]
                have HN := Aside0.mk hN
                obtain ⟨u0, u1, u2, u3, -, u4, -⟩ := HF.out.p.cells
                have hn0 : gp ≠ w.heap.size := fun e => by have h1 := HF.out.p.p; have h2 := HF.out.r; rw [e, h2] at h1; simp at h1
                have hn1 := hn0
                have hn2 := hn0
                have hn3 := hn0
                have hn4 := hn0
                have KL := Aside0.mk HF.out.r
                have HB := Aside0.mk HF.out.b
                have r0 := blk_cell KL.out 0
                have r1 := blk_cell KL.out 1
                have r2 := blk_cell KL.out 2
                have r3 := blk_cell KL.out 3
                have f0 := blk_frozen KL.out 0
                have f1 := blk_frozen KL.out 1
                have f2 := blk_frozen KL.out 2
                have f3 := blk_frozen KL.out 3
                have FS := Aside0.mk (Kd.S_drew (set4_S (a := .int .i64 S.i) (b := .int .i64 S.q) (c := .int .i64 S.m) (d := .slice Ar S.rungs.length cr) KL.out HF.out.p.r))
                have FL := Aside0.mk (Kd.R_drew (set4_R (a := .int .i64 S.i) (b := .int .i64 S.q) (c := .int .i64 S.m) (d := .slice Ar S.rungs.length cr) KL.out HF.out.p.l))
                have hnl := Aside0.mk HF.out.p.nl
                have hn64 := Aside0.mk HF.out.p.n64
                clear hN hCr HF
                go_wp2
                refine start_ (n := 12) (S := fun w' => w'.cell? ⟨gp, 0, none⟩ = some (.int .i64 S.i) ∧ w'.cell? ⟨gp, 1, none⟩ = some (.int .i64 S.q) ∧ w'.cell? ⟨gp, 2, none⟩ = some (.int .i64 S.m) ∧ w'.cell? ⟨gp, 3, none⟩ = some (.slice Ar S.rungs.length cr) ∧ w'.cell? ⟨gp, 5, none⟩ = some (.slice Al S.lines.length cl)) (ds := []) #[false, false, false, false, false, false, false, false, false, false, false, false] (by kernel_rfl) rfl rfl ⟨u0, u1, u2, u3, u4⟩ (fun hHeld => ?_)
                refine pure_ (i := 0) (N := some 90) (v := ?_) (a' := ?_) #[true, false, false, false, false, false, false, false, false, false, false, false] rfl rfl (by kernel_rfl) (fun _ _ _ h => h) (Or.inl ⟨by rfl, ?_⟩) ?_ ?_
                rotate_left
                · intro w'
                  go_simp
                  with_reducible rfl
                rotate_left
                · simp only [Act.put, List.setIfInBounds_toArray, List.set_cons_zero, List.set_cons_succ, i64_w, i32_w]
                  rfl
                refine pure_ (i := 1) (N := some 91) (v := ?_) (a' := ?_) #[true, true, false, false, false, false, false, false, false, false, false, false] rfl rfl (by kernel_rfl) (fun _ _ _ h => h) (Or.inl ⟨by rfl, ?_⟩) ?_ ?_
                rotate_left
                · intro w'
                  go_simp
                  with_reducible rfl
                rotate_left
                · simp only [Act.put, List.setIfInBounds_toArray, List.set_cons_zero, List.set_cons_succ, i64_w, i32_w]
                  rfl
                refine pure_ (i := 2) (N := some 92) (v := ?_) (a' := ?_) #[true, true, true, false, false, false, false, false, false, false, false, false] rfl rfl (by kernel_rfl) (fun _ _ _ h => h) (Or.inl ⟨by rfl, ?_⟩) ?_ ?_
                rotate_left
                · intro w'
                  go_simp
                  with_reducible rfl
                rotate_left
                · simp only [Act.put, List.setIfInBounds_toArray, List.set_cons_zero, List.set_cons_succ, i64_w, i32_w]
                  rfl
                refine pure_ (i := 4) (N := some 94) (v := ?_) (a' := ?_) #[true, true, true, false, true, false, false, false, false, false, false, false] rfl rfl (by kernel_rfl) (fun _ _ _ h => h) (Or.inl ⟨by rfl, ?_⟩) ?_ ?_
                rotate_left
                · intro w'
                  go_simp
                  with_reducible rfl
                rotate_left
                · simp only [Act.put, List.setIfInBounds_toArray, List.set_cons_zero, List.set_cons_succ, i64_w, i32_w]
                  rfl
                refine pure_ (i := 5) (N := some 95) (v := ?_) (a' := ?_) #[true, true, true, false, true, true, false, false, false, false, false, false] rfl rfl (by kernel_rfl) (fun _ _ _ h => h) (Or.inl ⟨by rfl, ?_⟩) ?_ ?_
                rotate_left
                · intro w'
                  go_simp
                  with_reducible rfl
                rotate_left
                · simp only [Act.put, List.setIfInBounds_toArray, List.set_cons_zero, List.set_cons_succ, i64_w, i32_w]
                  rfl
                refine pure_ (i := 6) (N := some 96) (v := ?_) (a' := ?_) #[true, true, true, false, true, true, true, false, false, false, false, false] rfl rfl (by kernel_rfl) (fun _ _ _ h => h) (Or.inl ⟨by rfl, ?_⟩) ?_ ?_
                rotate_left
                · intro w'
                  go_simp
                  with_reducible rfl
                rotate_left
                · simp only [Act.put, List.setIfInBounds_toArray, List.set_cons_zero, List.set_cons_succ, i64_w, i32_w]
                  rfl
                refine take_ (i := 3) (N := some 93) (v := ?_) (a' := ?_) #[true, true, true, true, true, true, true, false, false, false, false, false] rfl rfl (by kernel_rfl) (fun _ _ _ h => h) (Or.inl ⟨by rfl, ?_⟩) hHeld ?_ ?_
                rotate_left
                · rintro w' ⟨s0, s1, s2, s3, s4⟩
                  go_simp
                  with_reducible rfl
                rotate_left
                · simp only [Act.put, List.setIfInBounds_toArray, List.set_cons_zero, List.set_cons_succ, i64_w, i32_w]
                  rfl
                refine take_ (i := 7) (N := some 97) (v := ?_) (a' := ?_) #[true, true, true, true, true, true, true, true, false, false, false, false] rfl rfl (by kernel_rfl) (fun _ _ _ h => h) (Or.inl ⟨by rfl, ?_⟩) hHeld ?_ ?_
                rotate_left
                · rintro w' ⟨s0, s1, s2, s3, s4⟩
                  go_simp
                  with_reducible rfl
                rotate_left
                · simp only [Act.put, List.setIfInBounds_toArray, List.set_cons_zero, List.set_cons_succ, i64_w, i32_w]
                  rfl
                refine one_ (i := 8) (N := none) #[true, true, true, true, true, true, true, true, true, false, false, false] rfl rfl (by kernel_rfl) (by decide) (fun K hK => ?_)
                refine skip_ (w1 := ?_) (by rfl) rfl ?_ ?_
                rotate_left
                · go_simp
                  rfl
                refine hK.out _ _ ⟨(set4_far hn0 u0), (set4_far hn1 u1), (set4_far hn2 u2), (set4_far hn3 u3), (set4_far hn4 u4)⟩ (fun hHeld => ?_)
                clear hK K
                refine pure_ (i := 9) (N := some 3) (v := ?_) (a' := ?_) #[true, true, true, true, true, true, true, true, true, true, false, false] rfl rfl (by kernel_rfl) (fun _ _ _ h => h) (Or.inl ⟨by rfl, ?_⟩) ?_ ?_
                rotate_left
                · intro w'
                  go_simp
                  with_reducible rfl
                rotate_left
                · simp only [Act.put, List.setIfInBounds_toArray, List.set_cons_zero, List.set_cons_succ, i64_w, i32_w]
                  rfl
                refine pure_ (i := 10) (N := some 4) (v := ?_) (a' := ?_) #[true, true, true, true, true, true, true, true, true, true, true, false] rfl rfl (by kernel_rfl) (fun _ _ _ h => h) (Or.inl ⟨by rfl, ?_⟩) ?_ ?_
                rotate_left
                · intro w'
                  go_simp
                  with_reducible rfl
                rotate_left
                · simp only [Act.put, List.setIfInBounds_toArray, List.set_cons_zero, List.set_cons_succ, i64_w, i32_w]
                  rfl
                refine pure_ (i := 11) (N := some 5) (v := ?_) (a' := ?_) #[true, true, true, true, true, true, true, true, true, true, true, true] rfl rfl (by kernel_rfl) (fun _ _ _ h => h) (Or.inl ⟨by rfl, ?_⟩) ?_ ?_
                rotate_left
                · intro w'
                  go_simp
                  with_reducible rfl
                rotate_left
                · simp only [Act.put, List.setIfInBounds_toArray, List.set_cons_zero, List.set_cons_succ, i64_w, i32_w]
                  rfl
                refine done_ (by kernel_rfl) ?_
                clear u0 u1 u2 u3 u4 r0 r1 r2 r3 f0 f1 f2 f3
                have KZ := Aside0.mk (blk_drew (set4_blk (a := .int .i64 S.i) (b := .int .i64 S.q) (c := .int .i64 S.m) (d := .slice Ar S.rungs.length cr) KL.out))
                have FB := Aside0.mk (below_drew (set4_below (a := .int .i64 S.i) (b := .int .i64 S.q) (c := .int .i64 S.m) (d := .slice Ar S.rungs.length cr) HB.out (Nat.le_refl _)))
                generalize (set4 wx w.heap.size (.int .i64 S.i) (.int .i64 S.q) (.int .i64 S.m) (.slice Ar S.rungs.length cr)).drew = wz at KZ FB FS FL ⊢
                have z0 : wz.cell? ⟨w.heap.size, 0, none⟩ = some (.int .i64 S.i) := blk_cell KZ.out 0
                have z1 : wz.cell? ⟨w.heap.size, 1, none⟩ = some (.int .i64 S.q) := blk_cell KZ.out 1
                have z2 : wz.cell? ⟨w.heap.size, 2, none⟩ = some (.int .i64 S.m) := blk_cell KZ.out 2
                have z3 : wz.cell? ⟨w.heap.size, 3, none⟩ = some (.slice Ar S.rungs.length cr) := blk_cell KZ.out 3
                go_wp2
                refine bodyPost_ret (v := .tuple #[.agg #[.int .i64 S.i, .int .i64 S.q, .int .i64 S.m, .slice Ar S.rungs.length cr], .slice Al S.lines.length cl, .int .i64 0, .int .i64 0]) ?_ rfl ⟨FB.out, .inr ⟨by rw [HN.out], _, _, by rw [HN.out], by rw [HN.out]; exact FS.out, by rw [HN.out]; exact FL.out, by rw [HN.out]; exact hnl.out, by rw [HN.out]; exact hn64.out, by rw [HN.out]; exact HC.out⟩⟩
                simp [results, Tryz.f11, go_sem, z0, z1, z2, z3]
    · skip
      have hbl : badLine s = some k := firstN_some hk (by rw [hbad]; rfl) (fun j hj => by
        have := hpl (cntAt s j) (by unfold upN; exact List.mem_map.2 ⟨j, List.mem_range.2 hj, rfl⟩)
        rw [this]; rfl)
      have hp : parseP s = (S0, (k : Int) + 1, 6) := by rw [HPP.out, hbl]
      have HP := Aside0.mk hp
      have k2 := K2.out
      have r0 := blk_cell k2 0
      have r1 := blk_cell k2 1
      have r2 := blk_cell k2 2
      have r3 := blk_cell k2 3
      have f0 := blk_frozen k2 0
      have f1 := blk_frozen k2 1
      have f2 := blk_frozen k2 2
      have f3 := blk_frozen k2 3
      clear hp k2 hpl hbad
      go_wp2
      have KZ : Aside0 (((((w2.setCell ⟨w.heap.size, 0, none⟩ (.int .i64 0)).setCell ⟨w.heap.size, 1, none⟩ (.int .i64 0)).setCell ⟨w.heap.size, 2, none⟩ (.int .i64 0)).setCell ⟨w.heap.size, 3, none⟩ (.slice none 0 0)).heap[w.heap.size]? = some (.cells #[.int .i64 0, .int .i64 0, .int .i64 0, .slice none 0 0] 24 (0, 0))) := ⟨set4_blk (K2.out)⟩
      have FB : Aside0 (Below w.heap.size w (((((w2.setCell ⟨w.heap.size, 0, none⟩ (.int .i64 0)).setCell ⟨w.heap.size, 1, none⟩ (.int .i64 0)).setCell ⟨w.heap.size, 2, none⟩ (.int .i64 0)).setCell ⟨w.heap.size, 3, none⟩ (.slice none 0 0)))) := ⟨set4_below (HB.out) (Nat.le_refl _)⟩
      generalize ((((w2.setCell ⟨w.heap.size, 0, none⟩ (.int .i64 0)).setCell ⟨w.heap.size, 1, none⟩ (.int .i64 0)).setCell ⟨w.heap.size, 2, none⟩ (.int .i64 0)).setCell ⟨w.heap.size, 3, none⟩ (.slice none 0 0)) = wz at KZ FB ⊢
      have z0 : wz.cell? ⟨w.heap.size, 0, none⟩ = some (.int .i64 0) := blk_cell KZ.out 0
      have z1 : wz.cell? ⟨w.heap.size, 1, none⟩ = some (.int .i64 0) := blk_cell KZ.out 1
      have z2 : wz.cell? ⟨w.heap.size, 2, none⟩ = some (.int .i64 0) := blk_cell KZ.out 2
      have z3 : wz.cell? ⟨w.heap.size, 3, none⟩ = some (.slice none 0 0) := blk_cell KZ.out 3
      refine bodyPost_ret (v := .tuple #[.agg #[.int .i64 0, .int .i64 0, .int .i64 0, .slice none 0 0], .slice none 0 0, .int .i64 ((k : Int) + 1), .int .i64 6]) ?_ rfl (ParseR.bad HP.out (by decide) FB.out)
      simp [results, Tryz.f11, go_sem, z0, z1, z2, z3]
end Go.Proofs.YtolmkdhgnganaaaGreatDoor.H
namespace Go.Proofs.YtolmkdhgnganaaaGreatDoor.H
open Go Go.RowKit Go.Proofs Go.Proofs.YtolmkdhgnganaaaGreatDoorW.PrintWords Go.Proofs.YtolmkdhgnganaaaGreatDoor.Sp
/-- The types of the blocks that are the reference's parser's. -/
def parQ (t : Nat) : Bool := t == 102 || t == 53 || t == 59 || t == 69 || t == 3
/-- Nothing that lay below B is changed, nor any block that is not of the parser's types. -/
structure KQ (B : Nat) (w w' : World) : Prop where
  b : Below B w w'
  k : ∀ (k : Nat) (o : Obj), w.heap[k]? = some o → (∀ cs t fr, o = .cells cs t fr → parQ t = false) → w'.heap[k]? = some o
theorem KQ.of_below {B : Nat} {w w' : World} (hB : B ≤ w.heap.size) (h : Below w.heap.size w w') : KQ B w w' := ⟨h.mono hB, fun k o hk _ => blk_below hk h⟩
theorem KQ.trans {B : Nat} {a b c : World} (h : KQ B a b) (k : KQ B b c) : KQ B a c := ⟨h.b.trans k.b, fun i o hi ho => k.k i o (h.k i o hi ho) ho⟩
theorem KQ.grown {B : Nat} {w w' : World} {row : Option Nat} {t : Nat} (hB : B ≤ w.heap.size) (hg : w.grownBy w' row) (hr : ∀ k, row = some k → B ≤ k ∧ ∃ cells, w.heap[k]? = some (.cells cells t (0, 0))) (ht : parQ t = true) : KQ B w w' :=
  ⟨(Below.refl B w).grown hg hB (fun k e => (hr k e).1), fun k o hk ho => (hg.block k (blk_lt hk) (fun e => by
    obtain ⟨_, cells, hc⟩ := hr k e.symm
    rw [hk] at hc
    cases hc
    have := ho _ _ _ rfl
    rw [ht] at this
    cases this)).trans hk⟩
theorem KQ.set {B : Nat} {w : World} {g j t : Nat} {cs : Array Value} (hB : B ≤ g) (hg : w.heap[g]? = some (.cells cs t (0, 0))) (ht : parQ t = true) (v : Value) : KQ B w (w.setCell ⟨g, j, none⟩ v) :=
  ⟨(Below.refl B w).setCell (p := ⟨g, j, none⟩) hB v, fun k o hk ho => (Below.heap_setCell w ⟨g, j, none⟩ v k (fun e => by
    have e2 : k = g := e
    subst e2
    rw [hk] at hg
    cases hg
    have := ho _ _ _ rfl
    rw [ht] at this
    cases this)).trans hk⟩
theorem KQ.blk {B : Nat} {w w' : World} (h : KQ B w w') {g t : Nat} {cs : Array Value} (hg : w.heap[g]? = some (.cells cs t (0, 0))) (ht : parQ t = false) : w'.heap[g]? = some (.cells cs t (0, 0)) :=
  h.k g _ hg (fun cs t fr e => by cases e; exact ht)
/-- The lines are kept. -/
theorem KQ.lines {B B' : Nat} {w w' : World} (h : KQ B w w') {v : Value} {l : List Ln} (hl : kLine.R 104 w B' (fun _ => True) v l) : kLine.R 104 w' B' (fun _ => True) v l := by
  refine Kd.R_mono (Kd.R_move (Kd.R_bound hl) (fun k hk => ?_)) (fun _ _ => trivial)
  obtain ⟨_, _, _, q, hq, cells, hc⟩ := hk
  rw [hc]
  refine h.blk hc ?_
  have : q = 104 ∨ q = 9 := by simpa [kLine, Kd.iso, Kd.pair, Kd.int, Kd.string, Kd.slice, Kd.scalar] using hq
  rcases this with rfl | rfl <;> rfl
/-- A row of words is kept. -/
theorem KQ.words {B B' : Nat} {w w' : World} (h : KQ B w w') {v : Value} {l : List ByteArray} (hl : Kd.string.R 9 w B' (fun _ => True) v l) : Kd.string.R 9 w' B' (fun _ => True) v l := by
  refine Kd.R_mono (Kd.R_move (Kd.R_bound hl) (fun k hk => ?_)) (fun _ _ => trivial)
  obtain ⟨_, _, _, q, hq, cells, hc⟩ := hk
  rw [hc]
  refine h.blk hc ?_
  have : q = 9 := by simpa [Kd.string, Kd.scalar] using hq
  subst this
  rfl
/-- The parser at gp, its rows. -/
structure PG (B gp : Nat) (S : PSt) (vr vl vj : Value) (wr : World) : Prop where
  gb : B ≤ gp
  sz : B ≤ wr.heap.size
  p : wr.heap[gp]? = some (.cells #[.int .i64 S.i, .int .i64 S.q, .int .i64 S.m, vr, vl, vj, .bool S.sized] 102 (0, 0))
  r : Kd.S kRung 53 wr B (fun _ => True) vr S.rungs
  l : (Kd.int .i64).R 3 wr B (fun _ => True) vl S.lines
  j : (Kd.int .i64).R 3 wr B (fun _ => True) vj S.jumps
  lj : ∀ k, vl.ownBlock = some k → vj.ownBlock ≠ some k
  nl : S.lines.length = S.rungs.length
  nj : S.jumps.length = S.rungs.length
  n64 : S.rungs.length ≤ 64
theorem PG.below {B gp : Nat} {S : PSt} {vr vl vj : Value} {wr w1 : World} (h : PG B gp S vr vl vj wr) (hb : Below wr.heap.size wr w1) : PG B gp S vr vl vj w1 :=
  ⟨h.gb, Nat.le_trans h.sz hb.size, blk_below h.p hb, Kd.S_below h.r hb, Kd.R_below h.l hb, Kd.R_below h.j hb, h.lj, h.nl, h.nj, h.n64⟩
theorem PG.cells {B gp : Nat} {S : PSt} {vr vl vj : Value} {wr : World} (h : PG B gp S vr vl vj wr) : wr.cell? ⟨gp, 0, none⟩ = some (.int .i64 S.i) ∧ wr.cell? ⟨gp, 1, none⟩ = some (.int .i64 S.q) ∧ wr.cell? ⟨gp, 2, none⟩ = some (.int .i64 S.m) ∧
    wr.cell? ⟨gp, 3, none⟩ = some vr ∧ wr.cell? ⟨gp, 4, none⟩ = some vl ∧ wr.cell? ⟨gp, 5, none⟩ = some vj ∧ wr.cell? ⟨gp, 6, none⟩ = some (.bool S.sized) :=
  ⟨blk_cell h.p 0, blk_cell h.p 1, blk_cell h.p 2, blk_cell h.p 3, blk_cell h.p 4, blk_cell h.p 5, blk_cell h.p 6⟩
theorem types_par9 : ∀ t, t ∈ 53 :: kRung.E → t ≠ 102 := by decide
theorem PG.size {B gp : Nat} {S : PSt} {vr vl vj : Value} {wr : World} (h : PG B gp S vr vl vj wr) (k : Nat) (hk : k < 3) (v : Int) : PG B gp (S.put k v) vr vl vj (wr.setCell ⟨gp, k, none⟩ (.int .i64 v)) := by
  have hp := blk_set h.p k (.int .i64 v)
  have hr := Kd.S_set h.r h.p types_par9 k (.int .i64 v)
  have hl := Kd.R_set h.l h.p (by decide) k (.int .i64 v)
  have hj := Kd.R_set h.j h.p (by decide) k (.int .i64 v)
  have hs : B ≤ (wr.setCell ⟨gp, k, none⟩ (.int .i64 v)).heap.size := by have := h.sz; simpa using this
  have : k = 0 ∨ k = 1 ∨ k = 2 := by omega
  rcases this with rfl | rfl | rfl <;> exact ⟨h.gb, hs, by simpa [PSt.put] using hp, hr, hl, hj, h.lj, h.nl, h.nj, h.n64⟩
theorem PG.sized {B gp : Nat} {S : PSt} {vr vl vj : Value} {wr : World} (h : PG B gp S vr vl vj wr) : PG B gp { S with sized := true } vr vl vj (wr.setCell ⟨gp, 6, none⟩ (.bool true)) := by
  have hp := blk_set h.p 6 (.bool true)
  have hs : B ≤ (wr.setCell ⟨gp, 6, none⟩ (.bool true)).heap.size := by have := h.sz; simpa using this
  exact ⟨h.gb, hs, by simpa using hp, Kd.S_set h.r h.p types_par9 6 _, Kd.R_set h.l h.p (by decide) 6 _, Kd.R_set h.j h.p (by decide) 6 _, h.lj, h.nl, h.nj, h.n64⟩
/-- What a method of the parser's leaves. -/
def ParQ (B gp : Nat) (w : World) (r : PSt × Int) (e : Ending) (w' : World) : Prop :=
  e = .returned (.int .i64 r.2) ∧ KQ B w w' ∧ (r.2 = 0 → ∃ vr vl vj, PG B gp r.1 vr vl vj w')
/-- Behind a jump line. -/
theorem PG.jump {B gp g n cap gj nj cj : Nat} {S : PSt} {vl : Value} {w : World} (h : PG B gp S (.slice (some ⟨g, 0, none⟩) n cap) vl (.slice (some ⟨gj, 0, none⟩) nj cj) w) (k : Nat) (hk : k < n) (s : ByteArray) (x : Int) :
    PG B gp ⟨S.i, S.q, S.m, S.sized, S.rungs.set k ⟨(rdR S.rungs k).f0, (rdR S.rungs k).f1, (rdR S.rungs k).f2, s⟩, S.lines, S.jumps.set k x⟩ (.slice (some ⟨g, 0, none⟩) n cap) vl (.slice (some ⟨gj, 0, none⟩) nj cj) ((w.setCell ⟨g, k * 4 + 3, none⟩ (.string s)).setCell ⟨gj, k, none⟩ (.int .i64 x)) ∧
      KQ B w ((w.setCell ⟨g, k * 4 + 3, none⟩ (.string s)).setCell ⟨gj, k, none⟩ (.int .i64 x)) := by
  obtain ⟨hS, hg⟩ := S_jump h.r k hk s
  have hgb : B ≤ g := Kd.S_base h.r g rfl
  have hjb : B ≤ gj := Kd.R_base h.j gj rfl
  obtain ⟨cg, htg⟩ := Kd.S_typed h.r g rfl
  obtain ⟨cj', htj⟩ := Kd.R_typed h.j gj rfl
  have ngp : gp ≠ g := fun e => by have := h.p; rw [e, htg] at this; cases this
  have njg : gj ≠ g := fun e => by rw [e, htg] at htj; cases htj
  have ngj : gp ≠ gj := fun e => by have := h.p; rw [e, htj] at this; cases this
  have hp1 := blk_far h.p (p := ⟨g, k * 4 + 3, none⟩) ngp (.string s)
  have hl1 := Kd.R_set h.l htg (by decide) (k * 4 + 3) (.string s)
  have hj1 := Kd.R_set h.j htg (by decide) (k * 4 + 3) (.string s)
  have htj1 := blk_far htj (p := ⟨g, k * 4 + 3, none⟩) njg (.string s)
  have hk1 : KQ B w (w.setCell ⟨g, k * 4 + 3, none⟩ (.string s)) := KQ.set hgb htg (by rfl) _
  have hs1 : B ≤ (w.setCell ⟨g, k * 4 + 3, none⟩ (.string s)).heap.size := by have := h.sz; simpa using this
  generalize w.setCell ⟨g, k * 4 + 3, none⟩ (.string s) = w1 at *
  have hnj : nj = S.jumps.length := (Kd.R_reads' h.j).1
  subst hnj
  have hj2 := Kd.R_put hj1 (k : Int) x
  have hs2 : B ≤ (w1.setCell ⟨gj, k, none⟩ (.int .i64 x)).heap.size := by simpa using hs1
  refine ⟨⟨h.gb, hs2, blk_far hp1 (p := ⟨gj, k, none⟩) ngj _, Kd.S_set hS htj1 (by decide) k _, R_int_far hl1 (fun i hi e => h.lj i hi (by rw [e]; rfl)) _, hj2.1, h.lj, by rw [List.length_set]; exact h.nl, by rw [List.length_set, List.length_set]; exact h.nj, by rw [List.length_set]; exact h.n64⟩, hk1.trans (KQ.set hjb htj1 (by rfl) _)⟩
/-- Behind a line of a contact or a coil: a row (type t) has grown, and is stored into its rung. -/
theorem PG.row {B gp g n cap : Nat} {S : PSt} {vl vj : Value} {w w1 : World} (h : PG B gp S (.slice (some ⟨g, 0, none⟩) n cap) vl vj w) {v2 v1 : Value} {t : Nat} (htv : ∀ i, v2.ownBlock = some i → B ≤ i ∧ ∃ cells, w.heap[i]? = some (.cells cells t (0, 0)))
    (ht : parQ t = true) (h93 : t ≠ 102) (h3 : t ≠ 3) (h40 : t ≠ 53) (hg : w.grownBy w1 v2.ownBlock) {o : Nat} {rs : List Rung} (hS : Kd.S kRung 53 (w1.setCell ⟨g, o, none⟩ v1) B (fun _ => True) (.slice (some ⟨g, 0, none⟩) n cap) rs) (hlen : rs.length = S.rungs.length) :
    PG B gp ⟨S.i, S.q, S.m, S.sized, rs, S.lines, S.jumps⟩ (.slice (some ⟨g, 0, none⟩) n cap) vl vj (w1.setCell ⟨g, o, none⟩ v1) ∧ KQ B w (w1.setCell ⟨g, o, none⟩ v1) := by
  have hgb : B ≤ g := Kd.S_base h.r g rfl
  obtain ⟨cg, htg⟩ := Kd.S_typed h.r g rfl
  have far : ∀ {i t' : Nat} {cs : Array Value}, w.heap[i]? = some (.cells cs t' (0, 0)) → t ≠ t' → w1.heap[i]? = some (.cells cs t' (0, 0)) := fun {i t' cs} hh hne => (hg.block i (blk_lt hh) (fun e => by
    obtain ⟨_, cells, hc⟩ := htv i e.symm
    rw [hh] at hc
    cases hc
    exact hne rfl)).trans hh
  have ngp : gp ≠ g := fun e => by have := h.p; rw [e, htg] at this; cases this
  have hk1 : KQ B w w1 := KQ.grown h.sz hg htv ht
  have htg1 := far htg h40
  have hs1 : B ≤ (w1.setCell ⟨g, o, none⟩ v1).heap.size := by have := Nat.le_trans h.sz hg.size; simpa using this
  have tys : ∀ q, q ∈ 3 :: (Kd.int .i64).E → q ≠ t := fun q hq => by
    have : q = 3 := by simpa [Kd.int, Kd.scalar] using hq
    subst this
    exact h3.symm
  exact ⟨⟨h.gb, hs1, blk_far (far h.p h93) (p := ⟨g, o, none⟩) ngp _, hS, Kd.R_set (Kd.R_over' h.l (fun i e => (htv i e).2) tys hg) htg1 (by decide) o _, Kd.R_set (Kd.R_over' h.j (fun i e => (htv i e).2) tys hg) htg1 (by decide) o _,
    h.lj, by rw [hlen]; exact h.nl, by rw [hlen]; exact h.nj, by rw [hlen]; exact h.n64⟩, hk1.trans (KQ.set hgb htg1 (by rfl) _)⟩
end Go.Proofs.YtolmkdhgnganaaaGreatDoor.H
namespace Go.Proofs.YtolmkdhgnganaaaGreatDoor.H
open Go Go.RowKit Go.Proofs Go.Proofs.YtolmkdhgnganaaaGreatDoorW.PrintWords Go.Proofs.YtolmkdhgnganaaaGreatDoor.Sp
theorem letter9_b (c : Int) (w : World) : Calls Tryz.prog 107 #[.int .u8 c] w fun e w' => e = .returned (.bool (isLet c)) ∧ w = w' := by
  have hv : isLet c = decide ((97 ≤ c ∧ c ≤ 122) ∨ (65 ≤ c ∧ c ≤ 90)) := rfl
  generalize isLet c = v at hv
  by_cases h1 : 65 ≤ c
  · by_cases h2 : c ≤ 90
    · obtain rfl : v = true := by rw [hv]; exact decide_eq_true (by omega)
      clear hv
      go_enter Tryz.func107, Tryz.ntmps107
      go_wp2
      go_ret
      exact ⟨rfl, rfl⟩
    · by_cases h3 : 97 ≤ c
      · obtain rfl : v = decide (c ≤ 122) := by rw [hv]; exact decide_eq_decide.2 (by omega)
        clear hv
        go_enter Tryz.func107, Tryz.ntmps107
        go_wp2
        go_ret
        exact ⟨rfl, rfl⟩
      · obtain rfl : v = false := by rw [hv]; exact decide_eq_false (by omega)
        clear hv
        go_enter Tryz.func107, Tryz.ntmps107
        go_wp2
        go_ret
        exact ⟨rfl, rfl⟩
  · have h3 : ¬ 97 ≤ c := by omega
    obtain rfl : v = false := by rw [hv]; exact decide_eq_false (by omega)
    clear hv
    go_enter Tryz.func107, Tryz.ntmps107
    go_wp2
    go_ret
    exact ⟨rfl, rfl⟩
/-- Byte j, as the reference's loop sees it. -/
def anyAt (l : List UInt8) (j : Nat) : Bool := isLet ((l.getD j 0).toNat : Int) || (decide ((l.getD j 0).toNat = 95) || decide (48 ≤ (l.getD j 0).toNat ∧ (l.getD j 0).toNat ≤ 57))
theorem nmAt_of_any {l : List UInt8} {j : Nat} (h0 : isLet ((l.getD 0 0).toNat : Int) = true) (h : anyAt l j = true) : nmAt l j = true := by
  unfold nmAt
  by_cases hj : j = 0
  · subst hj; rw [h0]; rfl
  · simpa [anyAt, hj] using h
theorem any_of_nmAt {l : List UInt8} {j : Nat} (h : anyAt l j = false) : nmAt l j = false := by
  simp only [anyAt, Bool.or_eq_false_iff] at h
  simp only [nmAt, h.1, h.2.1, h.2.2, Bool.or_self, Bool.and_false]
set_option maxRecDepth 100000 in
theorem isName9_loop (s : ByteArray) (w : World) (h0 : 0 < s.size) (h1 : s.size ≤ 16) (z : s.toList.isEmpty = false) (hf : isLet (s[0].toNat : Int) = true) :
    Calls Tryz.prog 81 #[.string s] w (RetB w (.bool (isNm s.data.toList))) := by
  have g : ¬ (16 : Int) < (s.size : Int) := by omega
  have gd : decide ((16 : Int) < (s.size : Int)) = false := decide_eq_false g
  have H := Aside0.mk h1
  have hf2 : isLet ((s.data.toList.getD 0 0).toNat : Int) = true := by rw [getD_at s 0 h0]; exact hf
  have HF := Aside0.mk hf2
  clear h1 hf2
  generalize hV : isNm s.data.toList = V
  have HV := Aside0.mk hV
  clear hV
  go_enter Tryz.func81, Tryz.ntmps81
  go_wp2_with (go_at_call 107; (with_reducible refine (letter9_b _ _).mono ?_); rintro e_ w1 ⟨rfl, rfl⟩; rw [hf])
  go_loopw [3] (fun cv w' => ∃ k : Int, cv = .int .i64 k ∧ 0 ≤ k ∧ k ≤ s.size ∧ w' = w ∧ Aside0 (∀ j : Nat, (j : Int) < k → nmAt s.data.toList j = true)) (fun cv _ => s.size - (intOf cv).toNat)
  case atStart => exact ⟨0, rfl, by omega, by omega, rfl, ⟨fun j hj => by omega⟩⟩
  case round =>
    obtain ⟨k, rfl, b0, b1, rfl, HA⟩ := hrel
    by_cases hk : k < s.size
    · have hwr : wrap64 (k + 1) = k + 1 := w64 (by omega) (by omega)
      have hkn : k.toNat < s.size := by omega
      have hgd := getD_at s k.toNat hkn
      have good : anyAt s.data.toList k.toNat = true → ∀ j : Nat, (j : Int) < k + 1 → nmAt s.data.toList j = true := by
        intro hg j hj
        by_cases hj2 : (j : Int) < k
        · exact HA.out j hj2
        · obtain rfl : j = k.toNat := by omega
          exact nmAt_of_any HF.out hg
      have bad : anyAt s.data.toList k.toNat = false → V = false := fun hb => HV.out ▸ isNm_false hkn (any_of_nmAt hb)
      have hany : anyAt s.data.toList k.toNat = (isLet (s[k.toNat].toNat : Int) || (decide (s[k.toNat].toNat = 95) || decide (48 ≤ s[k.toNat].toNat ∧ s[k.toNat].toNat ≤ 57))) := by rw [anyAt, hgd]
      have HGood := Aside0.mk good
      have HBad := Aside0.mk bad
      have HAny := Aside0.mk hany
      clear good bad hany hgd
      cases hl : isLet (s[k.toNat].toNat : Int) with
      | true =>
        have hg : anyAt s.data.toList k.toNat = true := by rw [HAny.out, hl]; rfl
        go_wp2_with (go_at_call 107; (with_reducible refine (letter9_b _ _).mono ?_); rintro e_ w1 ⟨rfl, rfl⟩; rw [hl])
        go_roundw
        case rel => exact ⟨k + 1, by simp [hwr], by omega, by omega, by first | rfl | trivial, ⟨HGood.out hg⟩⟩
        case measure => simp [intOf, hwr]; omega
      | false =>
        by_cases h95 : (s[k.toNat].toNat : Int) = 95
        · have hg : anyAt s.data.toList k.toNat = true := by
            rw [HAny.out, hl, decide_eq_true (show s[k.toNat].toNat = 95 by omega)]; rfl
          have q1 : ((s[k.toNat].toNat : Int) != 95) = false := by simp [h95]
          have HG := Aside0.mk hg
          clear h95 hg
          go_wp2_with (go_at_call 107; (with_reducible refine (letter9_b _ _).mono ?_); rintro e_ w1 ⟨rfl, rfl⟩; rw [hl])
          go_roundw
          case rel => exact ⟨k + 1, by simp [hwr], by omega, by omega, by first | rfl | trivial, ⟨HGood.out HG.out⟩⟩
          case measure => simp [intOf, hwr]; omega
        · have q1 : ((s[k.toNat].toNat : Int) != 95) = true := by simpa using h95
          by_cases h48 : (s[k.toNat].toNat : Int) < 48
          · have hb : anyAt s.data.toList k.toNat = false := by
              rw [HAny.out, hl, decide_eq_false (show ¬ s[k.toNat].toNat = 95 by omega), decide_eq_false (show ¬ (48 ≤ s[k.toNat].toNat ∧ s[k.toNat].toNat ≤ 57) by omega)]; rfl
            have hV := HBad.out hb
            subst hV
            have q2 : decide ((s[k.toNat].toNat : Int) < 48) = true := decide_eq_true h48
            clear hb h95
            go_wp2_with (go_at_call 107; (with_reducible refine (letter9_b _ _).mono ?_); rintro e_ w1 ⟨rfl, rfl⟩; rw [hl])
            go_ret
            exact ⟨rfl, Below.refl _ _⟩
          · have q2 : decide ((s[k.toNat].toNat : Int) < 48) = false := decide_eq_false h48
            by_cases h57 : (57 : Int) < s[k.toNat].toNat
            · have hb : anyAt s.data.toList k.toNat = false := by
                rw [HAny.out, hl, decide_eq_false (show ¬ s[k.toNat].toNat = 95 by omega), decide_eq_false (show ¬ (48 ≤ s[k.toNat].toNat ∧ s[k.toNat].toNat ≤ 57) by omega)]; rfl
              have hV := HBad.out hb
              subst hV
              have q3 : decide ((57 : Int) < (s[k.toNat].toNat : Int)) = true := decide_eq_true h57
              clear hb h95
              go_wp2_with (go_at_call 107; (with_reducible refine (letter9_b _ _).mono ?_); rintro e_ w1 ⟨rfl, rfl⟩; rw [hl])
              go_ret
              exact ⟨rfl, Below.refl _ _⟩
            · have q3 : decide ((57 : Int) < (s[k.toNat].toNat : Int)) = false := decide_eq_false h57
              have hg : anyAt s.data.toList k.toNat = true := by
                rw [HAny.out, hl, decide_eq_true (show (48 ≤ s[k.toNat].toNat ∧ s[k.toNat].toNat ≤ 57) by omega)]; simp
              have HG := Aside0.mk hg
              clear hg h95
              go_wp2_with (go_at_call 107; (with_reducible refine (letter9_b _ _).mono ?_); rintro e_ w1 ⟨rfl, rfl⟩; rw [hl])
              go_roundw
              case rel => exact ⟨k + 1, by simp [hwr], by omega, by omega, by first | rfl | trivial, ⟨HGood.out HG.out⟩⟩
              case measure => simp [intOf, hwr]; omega
    · obtain rfl : k = s.size := by omega
      have hV : V = true := by rw [← HV.out]; exact isNm_true h0 H.out (fun j hj => HA.out j (by omega))
      subst hV
      go_wp2
      go_ret
      exact ⟨rfl, Below.refl _ _⟩
set_option maxRecDepth 100000 in
theorem isName9_b (s : ByteArray) (w : World) : Calls Tryz.prog 81 #[.string s] w (RetB w (.bool (isNm s.data.toList))) := by
  have e : s.data.toList.length = s.size := by rw [Array.length_toList]; rfl
  by_cases h0 : 0 < s.size
  · have z : s.toList.isEmpty = false := by rw [toList_isEmpty]; exact decide_eq_false (by omega)
    by_cases h1 : s.size ≤ 16
    · cases hl : isLet (s[0].toNat : Int) with
      | true => exact isName9_loop s w h0 h1 z hl
      | false =>
        have hf : isNm s.data.toList = false := isNm_false h0 (by simp only [nmAt, getD_at s 0 h0, hl]; rfl)
        rw [hf]
        have g : ¬ (16 : Int) < (s.size : Int) := by omega
        have gd : decide ((16 : Int) < (s.size : Int)) = false := decide_eq_false g
        clear hf e h1
        go_enter Tryz.func81, Tryz.ntmps81
        go_wp2_with (go_at_call 107; (with_reducible refine (letter9_b _ _).mono ?_); rintro e_ w1 ⟨rfl, rfl⟩; rw [hl])
        go_ret
        exact ⟨rfl, Below.refl _ _⟩
    · have hf : isNm s.data.toList = false := by simp [isNm, e]; omega
      rw [hf]
      have g : (16 : Int) < (s.size : Int) := by omega
      clear hf e h1 h0
      go_enter Tryz.func81, Tryz.ntmps81
      go_wp2
      go_ret
      exact ⟨rfl, Below.refl _ _⟩
  · have z : s.toList.isEmpty = true := by rw [toList_isEmpty]; exact decide_eq_true (by omega)
    have z2 : s.toList = [] := by simpa using z
    have hf : isNm s.data.toList = false := by simp [isNm, e]; omega
    rw [hf]
    clear hf e h0
    go_enter Tryz.func81, Tryz.ntmps81
    go_wp2
    go_ret
    exact ⟨rfl, Below.refl _ _⟩
theorem width1_b (i q m e sp : Int) (w : World) : Calls Tryz.prog 144 #[.agg #[.int .i64 i, .int .i64 q, .int .i64 m, .int .i64 e], .int .i64 sp] w (RetB w (.int .i64 (widthOf i q m sp))) := by
  by_cases h0 : sp = 0
  · subst h0
    go_enter Tryz.func144, Tryz.ntmps144
    go_wp2
    go_ret
    exact ⟨rfl, below_alloc (Below.refl _ _) _⟩
  · by_cases h1 : sp = 1
    · subst h1
      go_enter Tryz.func144, Tryz.ntmps144
      go_wp2
      go_ret
      exact ⟨rfl, below_alloc (Below.refl _ _) _⟩
    · by_cases h2 : sp = 2
      · subst h2
        go_enter Tryz.func144, Tryz.ntmps144
        go_wp2
        go_ret
        exact ⟨rfl, below_alloc (Below.refl _ _) _⟩
      · have e0 : widthOf i q m sp = 0 := by simp [widthOf, h0, h1, h2]
        rw [e0]
        go_enter Tryz.func144, Tryz.ntmps144
        go_wp2
        go_ret
        exact ⟨rfl, below_alloc (Below.refl _ _) _⟩
end Go.Proofs.YtolmkdhgnganaaaGreatDoor.H
namespace Go.Proofs.YtolmkdhgnganaaaGreatDoor.Sp
theorem digFrom_append (d : List UInt8) (c : UInt8) : ∀ n, digFrom n (d ++ [c]) = 10 * digFrom n d + dv c := by
  induction d with
  | nil => intro n; rw [List.nil_append, digFrom_cons, digFrom_nil, digFrom_nil]
  | cons a r ih => intro n; rw [List.cons_append, digFrom_cons, digFrom_cons, ih]
theorem digNat_append (d : List UInt8) (c : UInt8) : digNat (d ++ [c]) = 10 * digNat d + dv c := digFrom_append d c 0
end Go.Proofs.YtolmkdhgnganaaaGreatDoor.Sp
namespace Go.Proofs.YtolmkdhgnganaaaGreatDoor.H
open Go Go.RowKit Go.Proofs Go.Proofs.YtolmkdhgnganaaaGreatDoorW.PrintWords Go.Proofs.YtolmkdhgnganaaaGreatDoorW.PrintLast Go.Proofs.YtolmkdhgnganaaaGreatDoorW.PrintMore Go.Proofs.YtolmkdhgnganaaaGreatDoor.Sp
/-- n stands for x, but for what lies above most. -/
structure CapN (most : Nat) (x : Nat) (n : Int) : Prop where
  le : x ≤ most → n = x
  gt : most < x → (most : Int) < n
  n0 : 0 ≤ n
  n1 : n ≤ 10 * most + 9
theorem CapN.start (most : Nat) : CapN most 0 0 := ⟨fun _ => rfl, fun h => by omega, by omega, by omega⟩
theorem CapN.step {most x : Nat} {n : Int} (h : CapN most x n) {d : Nat} (hd : d ≤ 9) (hn : n ≤ most) : CapN most (10 * x + d) (10 * n + d) := by
  have hx : x ≤ most := by
    by_cases hx : x ≤ most
    · exact hx
    · have := h.gt (by omega); omega
  have e := h.le hx
  have := h.n0
  exact ⟨fun _ => by omega, fun _ => by omega, by omega, by omega⟩
theorem CapN.stay {most x : Nat} {n : Int} (h : CapN most x n) {d : Nat} (hn : ¬ n ≤ most) : CapN most (10 * x + d) n := by
  have hx : most < x := by
    by_cases hx : x ≤ most
    · have := h.le hx; omega
    · omega
  exact ⟨fun _ => by omega, fun _ => by omega, h.n0, h.n1⟩
theorem digNat_take (l : List UInt8) (k : Nat) (h : k < l.length) : digNat (l.take (k + 1)) = 10 * digNat (l.take k) + dv l[k] := by
  rw [List.take_add_one, List.getElem?_eq_getElem h]
  exact digNat_append _ _
theorem syn_false {l : List UInt8} {k : Nat} (h : k < l.length) (hd : isDig l[k] = false) : numSyn l = false := by
  unfold numSyn
  have : l.all isDig = false := by
    rw [List.all_eq_false]
    exact ⟨l[k], List.getElem_mem h, by rw [hd]; simp⟩
  rw [this]
  simp
set_option maxHeartbeats 4000000 in
set_option maxRecDepth 100000 in
theorem num1_b (D : ByteArray) (most : Nat) (hm : most ≤ 1000000) (hD : D.size ≤ 140737488355328) (w : World) : Calls Tryz.prog 124 #[.string D, .int .i64 most] w (RetB w (numV (numParse D.data.toList most).1 (numParse D.data.toList most).2)) := by
  have hl : D.data.toList.length = D.size := by rw [Array.length_toList]; rfl
  have HL := Aside0.mk hl
  generalize hV : numParse D.data.toList most = V
  have HV := Aside0.mk hV
  clear hV hl
  have hbad : numSyn D.data.toList = false → V = (0, 6) := fun h => by rw [← HV.out, numParse, h]; rfl
  have HBad := Aside0.mk hbad
  clear hbad
  by_cases h0 : 0 < D.size
  · have z : D.toList.isEmpty = false := by rw [toList_isEmpty]; exact decide_eq_false (by omega)
    have z2 : ¬ D.toList = [] := by rw [toList_nil_iff]; omega
    go_enter Tryz.func124, Tryz.ntmps124
    go_wp2
    go_loopw [6, 7] (fun nv cv w' => ∃ (n k : Int), nv = .int .i64 n ∧ cv = .int .i64 k ∧ 0 ≤ k ∧ k ≤ D.size ∧ w' = w ∧ Aside0 (∀ j : Nat, (j : Int) < k → ∀ hj : j < D.data.toList.length, isDig D.data.toList[j] = true) ∧ Aside0 (CapN most (digNat (D.data.toList.take k.toNat)) n)) (fun nv cv _ => D.size - (intOf cv).toNat)
    case atStart => exact ⟨0, 0, rfl, rfl, by omega, by omega, rfl, ⟨fun j hj => by omega⟩, ⟨CapN.start most⟩⟩
    case round =>
      obtain ⟨n, k, rfl, rfl, b0, b1, rfl, HA, HC⟩ := hrel
      by_cases hk : k < D.size
      · have hwr : wrap64 (k + 1) = k + 1 := w64 (by omega) (by omega)
        have hkn : k.toNat < D.size := by omega
        have hkl : k.toNat < D.data.toList.length := by rw [HL.out]; exact hkn
        have hgd := getD_at D k.toNat hkn
        have hge : D.data.toList[k.toNat] = D[k.toNat] := by
          rw [List.getD, List.getElem?_eq_getElem hkl, Option.getD_some] at hgd
          exact hgd
        have HGe := Aside0.mk hge
        have HKl := Aside0.mk hkl
        have hdi : isDig (D[k.toNat]) = true ↔ 48 ≤ (D[k.toNat]).toNat ∧ (D[k.toNat]).toNat ≤ 57 := isDig_iff _
        have HDi := Aside0.mk hdi
        have hn0 := HC.out.n0
        have hn1 := HC.out.n1
        clear hgd hge hdi
        by_cases h48 : (D[k.toNat].toNat : Int) < 48
        · have q1 : decide ((D[k.toNat].toNat : Int) < 48) = true := decide_eq_true h48
          have hV := HBad.out (syn_false HKl.out (by
            rw [HGe.out]
            cases hb : isDig (D[k.toNat]) with
            | false => rfl
            | true => have := HDi.out.1 hb; omega))
          subst hV
          go_wp2
          go_ret2
          exact ⟨rfl, Below.refl _ _⟩
        · have q1 : decide ((D[k.toNat].toNat : Int) < 48) = false := decide_eq_false h48
          by_cases h57 : (57 : Int) < D[k.toNat].toNat
          · have q2 : decide ((57 : Int) < (D[k.toNat].toNat : Int)) = true := decide_eq_true h57
            have hV := HBad.out (syn_false HKl.out (by
              rw [HGe.out]
              cases hb : isDig (D[k.toNat]) with
              | false => rfl
              | true => have := HDi.out.1 hb; omega))
            subst hV
            go_wp2
            go_ret2
            exact ⟨rfl, Below.refl _ _⟩
          · have q2 : decide ((57 : Int) < (D[k.toNat].toNat : Int)) = false := decide_eq_false h57
            have hdg : isDig (D[k.toNat]) = true := HDi.out.2 ⟨by omega, by omega⟩
            have HA2 : Aside0 (∀ j : Nat, (j : Int) < k + 1 → ∀ hj : j < D.data.toList.length, isDig D.data.toList[j] = true) := ⟨fun j hj hj2 => by
              by_cases hjk : (j : Int) < k
              · exact HA.out j hjk hj2
              · obtain rfl : j = k.toNat := by omega
                rw [HGe.out]; exact hdg⟩
            have htk := digNat_take D.data.toList k.toNat HKl.out
            rw [HGe.out, dv_eq] at htk
            have e1 : (k + 1).toNat = k.toNat + 1 := by omega
            have hd9 : (D[k.toNat]).toNat - 48 ≤ 9 := by omega
            by_cases hnm : n ≤ (most : Int)
            · have HC2 := Aside0.mk (HC.out.step hd9 hnm)
              rw [← htk] at HC2
              have q3 : decide (n ≤ (most : Int)) = true := decide_eq_true hnm
              have hval : 10 * n + (((D[k.toNat]).toNat - 48 : Nat) : Int) = 10 * n + ((D[k.toNat]).toNat : Int) - 48 := by omega
              rw [hval] at HC2
              have hw1 : wrap64 (10 * n) = 10 * n := w64 (by omega) (by omega)
              have hw2 : wrap64 (10 * n + ((D[k.toNat]).toNat : Int)) = 10 * n + ((D[k.toNat]).toNat : Int) := w64 (by omega) (by omega)
              have hw3 : wrap64 (10 * n + ((D[k.toNat]).toNat : Int) - 48) = 10 * n + ((D[k.toNat]).toNat : Int) - 48 := w64 (by omega) (by omega)
              clear htk hval hdg hn0 hn1
              go_wp2
              go_roundw
              case rel => exact ⟨_, k + 1, rfl, by simp [hwr], by omega, by omega, by first | rfl | trivial, HA2, ⟨by rw [e1]; first | exact HC2.out | (rw [hw3]; exact HC2.out)⟩⟩
              case measure => simp [intOf, hwr]; omega
            · have HC2 := Aside0.mk (HC.out.stay (d := (D[k.toNat]).toNat - 48) hnm)
              rw [← htk] at HC2
              have q3 : decide (n ≤ (most : Int)) = false := decide_eq_false hnm
              clear htk hdg hn0 hn1
              go_wp2
              go_roundw
              case rel => exact ⟨_, k + 1, rfl, by simp [hwr], by omega, by omega, by first | rfl | trivial, HA2, ⟨by rw [e1]; exact HC2.out⟩⟩
              case measure => simp [intOf, hwr]; omega
      · obtain rfl : k = D.size := by omega
        have hall : D.data.toList.all isDig = true := by
          rw [List.all_eq_true]
          intro c hc
          obtain ⟨j, hj, rfl⟩ := List.getElem_of_mem hc
          exact HA.out j (by have := HL.out; omega) hj
        have hfull : D.data.toList.take ((D.size : Nat) : Int).toNat = D.data.toList := by
          rw [List.take_of_length_le]
          have := HL.out
          omega
        have HC2 := Aside0.mk HC.out
        rw [hfull] at HC2
        have hne : D.data.toList.isEmpty = false := by
          cases hq : D.data.toList with
          | nil => have := HL.out; rw [hq] at this; simp at this; omega
          | cons _ _ => rfl
        have hhd : D.data.toList.head? = some (D[0]) := by
          have := getD_at D 0 h0
          cases hq : D.data.toList with
          | nil => rw [hq] at hne; cases hne
          | cons a r => rw [hq] at this; simp at this; simp [this]
        have hsyn : numSyn D.data.toList = !(decide (1 < D.size) && (some (D[0]) == some 48)) := by
          unfold numSyn
          rw [hne, hall, hhd, HL.out]
          rfl
        have hb48 : ((some (D[0]) == some 48) : Bool) = ((D[0].toNat : Int) == 48) := by
          rw [Bool.eq_iff_iff]
          simp only [Option.some_beq_some, beq_iff_eq]
          constructor
          · intro h; rw [h]; rfl
          · intro h
            apply UInt8.toNat_inj.1
            have : (48 : UInt8).toNat = 48 := rfl
            omega
        rw [hb48] at hsyn
        have HSyn := Aside0.mk hsyn
        clear hsyn hb48 hhd hne hall hfull HA HC
        have h0i : (0 : Int) < D.size := by omega
        cases hz : ((D[0].toNat : Int) == 48) with
        | true =>
          rw [hz] at HSyn
          by_cases h1 : 1 < D.size
          · have h1i : (1 : Int) < D.size := by omega
            have hV := HBad.out (by rw [HSyn.out, decide_eq_true h1]; rfl)
            subst hV
            go_wp2
            go_ret2
            exact ⟨rfl, Below.refl _ _⟩
          · have h1i : ¬ (1 : Int) < D.size := by omega
            have hs : numSyn D.data.toList = true := by rw [HSyn.out, decide_eq_false h1]; rfl
            have hVe := HV.out
            rw [numParse, if_pos hs] at hVe
            by_cases hx : digNat D.data.toList ≤ most
            · rw [if_pos hx, ← HC2.out.le hx] at hVe
              have hnm : ¬ (most : Int) < n := by rw [HC2.out.le hx]; omega
              subst hVe
              clear HC2 hs
              go_wp2
              go_ret2
              exact ⟨rfl, Below.refl _ _⟩
            · rw [if_neg hx] at hVe
              have hnm : (most : Int) < n := HC2.out.gt (by omega)
              subst hVe
              clear HC2 hs
              go_wp2
              go_ret2
              exact ⟨rfl, Below.refl _ _⟩
        | false =>
          rw [hz] at HSyn
          have hs : numSyn D.data.toList = true := by rw [HSyn.out, Bool.and_false]; rfl
          have hVe := HV.out
          rw [numParse, if_pos hs] at hVe
          by_cases hx : digNat D.data.toList ≤ most
          · rw [if_pos hx, ← HC2.out.le hx] at hVe
            have hnm : ¬ (most : Int) < n := by rw [HC2.out.le hx]; omega
            subst hVe
            clear HC2 hs
            go_wp2
            go_ret2
            exact ⟨rfl, Below.refl _ _⟩
          · rw [if_neg hx] at hVe
            have hnm : (most : Int) < n := HC2.out.gt (by omega)
            subst hVe
            clear HC2 hs
            go_wp2
            go_ret2
            exact ⟨rfl, Below.refl _ _⟩
  · have z : D.toList.isEmpty = true := by rw [toList_isEmpty]; exact decide_eq_true (by omega)
    have z2 : D.toList = [] := by simpa using z
    have hs : numSyn D.data.toList = false := by
      have : D.data.toList = [] := by rw [← toList_data]; exact z2
      rw [this]; rfl
    have hV := HBad.out hs
    subst hV
    clear hs HV HBad HL h0
    go_enter Tryz.func124, Tryz.ntmps124
    go_wp2
    go_ret2
    exact ⟨rfl, Below.refl _ _⟩
end Go.Proofs.YtolmkdhgnganaaaGreatDoor.H
namespace Go.Proofs.YtolmkdhgnganaaaGreatDoor.H
open Go Go.RowKit Go.Proofs Go.Proofs.YtolmkdhgnganaaaGreatDoorW.PrintWords Go.Proofs.YtolmkdhgnganaaaGreatDoorW.PrintLast Go.Proofs.YtolmkdhgnganaaaGreatDoorW.PrintMore Go.Proofs.YtolmkdhgnganaaaGreatDoor.Sp
theorem num9_b (D : ByteArray) (hD : D.size ≤ 140737488355328) (w : World) : Calls Tryz.prog 105 #[.string D, .int .i64 256] w (RetB w (numV (numParse D.data.toList 256).1 (numParse D.data.toList 256).2)) := by
  have H := Aside0.mk (num1_b D 256 (by omega) hD w)
  generalize numParse D.data.toList 256 = V at *
  go_enter Tryz.func105, Tryz.ntmps105
  go_wp2_with fail
  refine H.out.mono ?_
  rintro e w1 ⟨rfl, hb⟩
  unfold numV
  go_wp2
  go_ret2
  exact ⟨rfl, hb⟩
def firstIx (kw : List ByteArray) (x : ByteArray) : Option Nat := (List.range kw.length).find? (fun k => (kw.getD k ⟨#[]⟩).toList == x.toList)
/-- The first place of a word in a row of them, -1 where it is not there. -/
def findL (kw : List ByteArray) (x : ByteArray) : Int := match firstIx kw x with | some k => (k : Int) | none => -1
theorem findL_some {kw : List ByteArray} {x : ByteArray} {k : Nat} (hk : k < kw.length) (h : ((kw.getD k ⟨#[]⟩).toList == x.toList) = true) (hl : ∀ j, j < k → ((kw.getD j ⟨#[]⟩).toList == x.toList) = false) : findL kw x = k := by
  have : firstIx kw x = some k := by
    unfold firstIx
    rw [List.find?_range_eq_some]
    exact ⟨h, by simpa using hk, fun j hj => by rw [hl j hj]; rfl⟩
  rw [findL, this]
theorem findL_none {kw : List ByteArray} {x : ByteArray} (h : ∀ j, j < kw.length → ((kw.getD j ⟨#[]⟩).toList == x.toList) = false) : findL kw x = -1 := by
  have : firstIx kw x = none := by
    unfold firstIx
    rw [List.find?_eq_none]
    intro y hy
    rw [h y (by simpa using hy)]; simp
  rw [findL, this]
set_option maxRecDepth 100000 in
theorem find_b (g n cap : Nat) (kw : List ByteArray) (hn : kw.length = n) (hs : n ≤ 1000) (x : ByteArray) (w : World) (h : ∀ j, j < n → w.cell? ⟨g, j, none⟩ = some (.string (kw.getD j ⟨#[]⟩))) :
    Calls Tryz.prog 76 #[.slice (some ⟨g, 0, none⟩) n cap, .string x] w (RetB w (.int .i64 (findL kw x))) := by
  have H := Aside0.mk h
  generalize hV : findL kw x = V
  have HV := Aside0.mk hV
  clear hV h
  go_enter Tryz.func76, Tryz.ntmps76
  go_wp2
  go_loopw [5] (fun cv w' => ∃ k : Nat, cv = .int .i64 k ∧ k ≤ n ∧ w' = w ∧ Aside0 (∀ j, j < k → ((kw.getD j ⟨#[]⟩).toList == x.toList) = false)) (fun cv _ => n - (intOf cv).toNat)
  case atStart => exact ⟨0, rfl, by omega, rfl, ⟨fun j hj => by omega⟩⟩
  case round =>
    obtain ⟨k, rfl, b1, rfl, HA⟩ := hrel
    by_cases hk : k < n
    · have hwr : wrap64 ((k : Int) + 1) = ((k + 1 : Nat) : Int) := by rw [w64 (by omega) (by omega)]; rfl
      have hki : (k : Int) < n := by omega
      have hc := H.out k hk
      generalize hy : kw.getD k ⟨#[]⟩ = y at hc
      have HY := Aside0.mk hy
      clear hy
      cases he : (y.toList == x.toList) with
      | true =>
        have hV : V = k := by rw [← HV.out]; exact findL_some (by omega) (by rw [HY.out]; exact he) HA.out
        subst hV
        go_wp2
        go_ret
        exact ⟨rfl, Below.refl _ _⟩
      | false =>
        have HA2 : Aside0 (∀ j, j < k + 1 → ((kw.getD j ⟨#[]⟩).toList == x.toList) = false) := ⟨fun j hj => by
          by_cases hjk : j < k
          · exact HA.out j hjk
          · obtain rfl : j = k := by omega
            rw [HY.out]; exact he⟩
        go_wp2
        go_roundw
        case rel => exact ⟨k + 1, by simp [hwr], by omega, by first | rfl | trivial, HA2⟩
        case measure => simp [intOf, hwr]; omega
    · obtain rfl : k = n := by omega
      have hV : V = -1 := by rw [← HV.out]; exact findL_none (fun j hj => HA.out j (by omega))
      subst hV
      go_wp2
      go_ret
      exact ⟨rfl, Below.refl _ _⟩
/-- The letter of a space. -/
def ltr (k : Nat) : Nat := if k = 0 then 73 else if k = 1 then 81 else 77
theorem space_ltr (c : UInt8) (k : Nat) (hk : k < 3) (h : c.toNat = ltr k) : spaceOf c = k := by
  have e : c = UInt8.ofNat (ltr k) := by rw [← h]; simp
  have : k = 0 ∨ k = 1 ∨ k = 2 := by omega
  rcases this with rfl | rfl | rfl <;> (rw [e]; rfl)
theorem space_none (c : UInt8) (h : ∀ k, k < 3 → c.toNat ≠ ltr k) : spaceOf c < 0 := by
  have h0 := h 0 (by omega)
  have h1 := h 1 (by omega)
  have h2 := h 2 (by omega)
  have e : ∀ n : Fin 256, n.val ≠ 73 → n.val ≠ 81 → n.val ≠ 77 → spaceOf (UInt8.ofNat n.val) < 0 := by decide +kernel
  have := e ⟨c.toNat, c.toNat_lt⟩ h0 h1 h2
  simpa using this
end Go.Proofs.YtolmkdhgnganaaaGreatDoor.H
namespace Go.Proofs.YtolmkdhgnganaaaGreatDoor.H
open Go Go.RowKit Go.Proofs Go.Proofs.YtolmkdhgnganaaaGreatDoorW.PrintWords Go.Proofs.YtolmkdhgnganaaaGreatDoorW.PrintLast Go.Proofs.YtolmkdhgnganaaaGreatDoorW.PrintMore Go.Proofs.YtolmkdhgnganaaaGreatDoor.Sp
structure P1F (w : World) (wr : World) : Prop where
  b : Below w.heap.size w wr
  r : wr.heap[w.heap.size]? = some (.cells #[.int .i64 0, .int .i64 0] 57 (0, 0))
theorem P1F.below {w wr w1 : World} (h : P1F w wr) (hb : Below wr.heap.size wr w1) : P1F w w1 := ⟨below_step h.b hb, blk_below h.r hb⟩
theorem P1F.new (w : World) : P1F w (w.alloc (.cells #[.int .i64 0, .int .i64 0] 57)) := ⟨below_alloc (Below.refl _ _) _, blk_new _ _⟩
theorem P1F.put {w wr : World} (h : P1F w wr) (a b : Int) : Below w.heap.size w ((wr.setCell ⟨w.heap.size, 0, none⟩ (.int .i64 a)).setCell ⟨w.heap.size, 1, none⟩ (.int .i64 b)) ∧ ((wr.setCell ⟨w.heap.size, 0, none⟩ (.int .i64 a)).setCell ⟨w.heap.size, 1, none⟩ (.int .i64 b)).heap[w.heap.size]? = some (.cells #[.int .i64 a, .int .i64 b] 57 (0, 0)) := by
  refine ⟨below_set (below_set h.b (Nat.le_refl _)) (Nat.le_refl _), ?_⟩
  have := blk_set (blk_set h.r 0 (.int .i64 a)) 1 (.int .i64 b)
  simpa using this
set_option maxHeartbeats 4000000 in
set_option maxRecDepth 100000 in
theorem prs1_b (t : ByteArray) (w : World) (ht : t.size ≤ 140737488355328) : Calls Tryz.prog 125 #[.string t] w (RetB w (prsV (addrParse t.data.toList).1 (addrParse t.data.toList).2.1 (addrParse t.data.toList).2.2)) := by
  generalize hP : addrParse t.data.toList = P
  have HP := Aside0.mk hP
  clear hP
  by_cases h0 : 0 < t.size
  · have hc := data_cons t h0
    have a2 : t.toList.isEmpty = false := by rw [toList_isEmpty]; exact decide_eq_false (by omega)
    have a3 : ¬ t.toList = [] := by intro e; rw [e] at a2; cases a2
    generalize hD : t.extract 1 t.size = D at hc
    have hDs : D.size ≤ 140737488355328 := by rw [← hD, ByteArray.size_extract]; omega
    have HD := Aside0.mk hD
    have HC : Aside0 (P = if spaceOf t[0] < 0 then ((0 : Int), (0 : Int), (6 : Int)) else if (numParse D.data.toList 255).2 = 0 then (spaceOf t[0], (numParse D.data.toList 255).1, 0) else (0, 0, (numParse D.data.toList 255).2)) := ⟨by rw [← HP.out, hc, addrParse]⟩
    have HN := Aside0.mk (fun W => num1_b D 255 (by omega) hDs W)
    have a1 : (1 : Int) ≤ (t.size : Int) := by omega
    generalize numParse D.data.toList 255 = V at HN HC
    obtain ⟨v, ve⟩ := V
    dsimp only at HN HC
    clear hc hD hDs HP
    have HI0 := Aside0.mk (P1F.new w)
    go_enter Tryz.func125, Tryz.ntmps125
    go_wp2
    generalize w.alloc (.cells #[.int .i64 0, .int .i64 0] 57) = w0 at HI0 ⊢
    go_loopw [4] (fun cv w' => ∃ k : Nat, cv = .int .i64 k ∧ k ≤ 3 ∧ ∃ wr : World, wr = w' ∧ Aside0 (P1F w wr) ∧ Aside0 (∀ j, j < k → t[0].toNat ≠ ltr j)) (fun cv _ => 3 - (intOf cv).toNat)
    case atStart => exact ⟨0, rfl, by omega, _, rfl, HI0, ⟨fun j hj => by omega⟩⟩
    case round =>
      obtain ⟨k, rfl, hk, wr, rfl, HF, HN0⟩ := hrel
      by_cases hlt : k < 3
      · have hwr : wrap64 ((k : Int) + 1) = ((k + 1 : Nat) : Int) := by rw [w64 (by omega) (by omega)]; rfl
        have hli : (k : Int) < 3 := by omega
        have hlet : ((⟨#[73, 81, 77]⟩ : ByteArray)[k]'(by show k < 3; omega)).toNat = ltr k := by
          have : k = 0 ∨ k = 1 ∨ k = 2 := by omega
          rcases this with rfl | rfl | rfl <;> rfl
        have hk3 : (⟨#[73, 81, 77]⟩ : ByteArray).size = 3 := rfl
        by_cases heq : t[0].toNat = ltr k
        · have hs := space_ltr t[0] k hlt heq
          rw [hs] at HC
          have heqi : (t[0].toNat : Int) = (ltr k : Int) := by omega
          go_wp2
          go_quiet (fail)
          rename_i nq
          have HF1 := Aside0.mk (HF.out.below (pw_below_drewN (Below.refl wr.heap.size wr) nq))
          generalize wr.drewN nq = wr1 at HF1 ⊢
          go_wp2_with fail
          rw [HD.out]
          refine (HN.out _).mono ?_
          rintro e w3 ⟨rfl, hb⟩
          unfold numV
          have HF3 := Aside0.mk (HF1.out.below hb)
          clear HF1 hb
          have q0 := blk_cell HF3.out.r 0
          have q1 := blk_cell HF3.out.r 1
          have f0 := blk_frozen HF3.out.r 0
          have f1 := blk_frozen HF3.out.r 1
          simp only [List.getElem?_toArray, List.getElem?_cons_zero, List.getElem?_cons_succ] at q0 q1
          by_cases hv : ve = 0
          · subst hv
            rw [if_neg (by omega), if_pos rfl] at HC
            have HPut := Aside0.mk (HF3.out.put k v)
            go_wp2
            have c0 := blk_cell HPut.out.2 0
            have c1 := blk_cell HPut.out.2 1
            have hbF := HPut.out.1
            rw [HC.out]
            generalize (w3.setCell ⟨w.heap.size, 0, none⟩ (.int .i64 k)).setCell ⟨w.heap.size, 1, none⟩ (.int .i64 v) = wz at c0 c1 hbF ⊢
            exact bodyPost_ret (v := prsV k v 0) (by simp [results, Tryz.results125, go_sem, c0, c1, prsV]) rfl ⟨rfl, hbF⟩
          · rw [if_neg (by omega), if_neg hv] at HC
            have HPut := Aside0.mk (HF3.out.put 0 0)
            go_wp2
            have c0 := blk_cell HPut.out.2 0
            have c1 := blk_cell HPut.out.2 1
            have hbF := HPut.out.1
            rw [HC.out]
            generalize (w3.setCell ⟨w.heap.size, 0, none⟩ (.int .i64 0)).setCell ⟨w.heap.size, 1, none⟩ (.int .i64 0) = wz at c0 c1 hbF ⊢
            exact bodyPost_ret (v := prsV 0 0 ve) (by simp [results, Tryz.results125, go_sem, c0, c1, prsV]) rfl ⟨rfl, hbF⟩
        · have HN2 : Aside0 (∀ j, j < k + 1 → t[0].toNat ≠ ltr j) := ⟨fun j hj => by
            by_cases hjk : j < k
            · exact HN0.out j hjk
            · obtain rfl : j = k := by omega
              exact heq⟩
          have heqb : ((t[0].toNat : Int) == (ltr k : Int)) = false := by
            rw [beq_eq_false_iff_ne]; omega
          have heqi : ¬ (t[0].toNat : Int) = (ltr k : Int) := by omega
          clear heq
          go_wp2
          go_quiet (fail)
          rename_i nq
          have HF1 := Aside0.mk (HF.out.below (pw_below_drewN (Below.refl wr.heap.size wr) nq))
          generalize wr.drewN nq = wr1 at HF1 ⊢
          clear HF
          go_wp2_with fail
          go_roundw
          case rel => exact ⟨k + 1, by simp [hwr], by omega, _, rfl, HF1, HN2⟩
          case measure => simp [intOf, hwr]; omega
      · obtain rfl : k = 3 := by omega
        have hs := space_none t[0] HN0.out
        rw [if_pos hs] at HC
        have q0 := blk_cell HF.out.r 0
        have q1 := blk_cell HF.out.r 1
        have f0 := blk_frozen HF.out.r 0
        have f1 := blk_frozen HF.out.r 1
        simp only [List.getElem?_toArray, List.getElem?_cons_zero, List.getElem?_cons_succ] at q0 q1
        have HPut := Aside0.mk (HF.out.put 0 0)
        go_wp2
        have c0 := blk_cell HPut.out.2 0
        have c1 := blk_cell HPut.out.2 1
        have hbF := HPut.out.1
        rw [HC.out]
        generalize (wr.setCell ⟨w.heap.size, 0, none⟩ (.int .i64 0)).setCell ⟨w.heap.size, 1, none⟩ (.int .i64 0) = wz at c0 c1 hbF ⊢
        exact bodyPost_ret (v := prsV 0 0 6) (by simp [results, Tryz.results125, go_sem, c0, c1, prsV]) rfl ⟨rfl, hbF⟩
  · have z : t.toList.isEmpty = true := by rw [toList_isEmpty]; exact decide_eq_true (by omega)
    have z2 : t.toList = [] := by simpa using z
    have hP : P = (0, 0, 6) := by
      rw [← HP.out, ← toList_data, z2]; rfl
    subst hP
    have HI0 := Aside0.mk (P1F.new w)
    clear HP h0
    go_enter Tryz.func125, Tryz.ntmps125
    go_wp2
    generalize w.alloc (.cells #[.int .i64 0, .int .i64 0] 57) = w0 at HI0 ⊢
    go_loopw [4] (fun cv w' => ∃ k : Nat, cv = .int .i64 k ∧ k ≤ 3 ∧ ∃ wr : World, wr = w' ∧ Aside0 (P1F w wr)) (fun cv _ => 3 - (intOf cv).toNat)
    case atStart => exact ⟨0, rfl, by omega, _, rfl, HI0⟩
    case round =>
      obtain ⟨k, rfl, hk, wr, rfl, HF⟩ := hrel
      by_cases hlt : k < 3
      · have hwr : wrap64 ((k : Int) + 1) = ((k + 1 : Nat) : Int) := by rw [w64 (by omega) (by omega)]; rfl
        have hli : (k : Int) < 3 := by omega
        go_wp2
        go_quiet (fail)
        rename_i nq
        have HF1 := Aside0.mk (HF.out.below (pw_below_drewN (Below.refl wr.heap.size wr) nq))
        generalize wr.drewN nq = wr1 at HF1 ⊢
        clear HF
        go_wp2_with fail
        go_roundw
        case rel => exact ⟨k + 1, by simp [hwr], by omega, _, rfl, HF1⟩
        case measure => simp [intOf, hwr]; omega
      · obtain rfl : k = 3 := by omega
        have q0 := blk_cell HF.out.r 0
        have q1 := blk_cell HF.out.r 1
        have f0 := blk_frozen HF.out.r 0
        have f1 := blk_frozen HF.out.r 1
        simp only [List.getElem?_toArray, List.getElem?_cons_zero, List.getElem?_cons_succ] at q0 q1
        have HPut := Aside0.mk (HF.out.put 0 0)
        go_wp2
        have c0 := blk_cell HPut.out.2 0
        have c1 := blk_cell HPut.out.2 1
        have hbF := HPut.out.1
        generalize (wr.setCell ⟨w.heap.size, 0, none⟩ (.int .i64 0)).setCell ⟨w.heap.size, 1, none⟩ (.int .i64 0) = wz at c0 c1 hbF ⊢
        exact bodyPost_ret (v := prsV 0 0 6) (by simp [results, Tryz.results125, go_sem, c0, c1, prsV]) rfl ⟨rfl, hbF⟩
end Go.Proofs.YtolmkdhgnganaaaGreatDoor.H
namespace Go.Proofs.YtolmkdhgnganaaaGreatDoor.H
open Go Go.RowKit Go.Proofs Go.Proofs.YtolmkdhgnganaaaGreatDoorW.PrintWords Go.Proofs.YtolmkdhgnganaaaGreatDoor.Sp
theorem chk1_b (i q m e sp n : Int) (w : World) :
   Calls Tryz.prog 126 #[.agg #[.int .i64 i, .int .i64 q, .int .i64 m, .int .i64 e], .agg #[.int .i64 sp, .int .i64 n]] w (RetB w (.int .i64 (chkAddr i q m sp n))) := by
  by_cases h0 : sp < 0
  · have e0 : chkAddr i q m sp n = 8 := by simp [chkAddr, h0]
    rw [e0]
    clear e0
    have h0' : ¬ (0 ≤ sp) := by omega
    go_enter Tryz.func126, Tryz.ntmps126
    go_wp2
    go_ret
    exact ⟨rfl, below_alloc (below_alloc (Below.refl _ _) _) _⟩
  · by_cases h2 : sp ≤ 2
    · have h0' : 0 ≤ sp := by omega
      by_cases h3 : n < 0
      · have e0 : chkAddr i q m sp n = 3 := by simp [chkAddr, h0, h3]; omega
        rw [e0]
        clear e0
        have d3 : decide (n < 0) = true := by simpa using h3
        go_enter Tryz.func126, Tryz.ntmps126
        go_wp2
        go_quiet (fail)
        go_wp2
        go_ret
        exact ⟨rfl, pw_below_drewN (below_alloc (below_alloc (Below.refl _ _) _) _) _⟩
      · have d3 : decide (n < 0) = false := by simpa using h3
        by_cases h4 : widthOf i q m sp ≤ n
        · have e0 : chkAddr i q m sp n = 3 := by simp [chkAddr, h0, h3, h4]; omega
          rw [e0]
          clear e0
          go_enter Tryz.func126, Tryz.ntmps126
          go_wp2
          go_region_held3 (fun w' => w'.cell? ⟨w.heap.size, 0, none⟩ = some (.int .i64 i) ∧ w'.cell? ⟨w.heap.size, 1, none⟩ = some (.int .i64 q) ∧ w'.cell? ⟨w.heap.size, 2, none⟩ = some (.int .i64 m) ∧ w'.cell? ⟨w.heap.size, 3, none⟩ = some (.int .i64 e) ∧ w'.cell? ⟨w.heap.size + 1, 0, none⟩ = some (.int .i64 sp) ∧ w'.cell? ⟨w.heap.size + 1, 1, none⟩ = some (.int .i64 n))
            (first | go_keep | (refine ⟨pw_cell_below hb ?_, pw_cell_below hb ?_, pw_cell_below hb ?_, pw_cell_below hb ?_, pw_cell_below hb ?_, pw_cell_below hb ?_⟩ <;> go_keep))
            (first | (go_at_call 144; (with_reducible refine (width1_b i q m e sp _).mono ?_); rintro e_ w1 ⟨rfl, hb⟩))
          go_wp2
          go_ret
          exact ⟨rfl, below_step (below_drew (below_alloc (below_alloc (Below.refl _ _) _) _)) hb⟩
        · have e0 : chkAddr i q m sp n = 0 := by simp [chkAddr, h0, h3, h4]; omega
          rw [e0]
          clear e0
          go_enter Tryz.func126, Tryz.ntmps126
          go_wp2
          go_region_held3 (fun w' => w'.cell? ⟨w.heap.size, 0, none⟩ = some (.int .i64 i) ∧ w'.cell? ⟨w.heap.size, 1, none⟩ = some (.int .i64 q) ∧ w'.cell? ⟨w.heap.size, 2, none⟩ = some (.int .i64 m) ∧ w'.cell? ⟨w.heap.size, 3, none⟩ = some (.int .i64 e) ∧ w'.cell? ⟨w.heap.size + 1, 0, none⟩ = some (.int .i64 sp) ∧ w'.cell? ⟨w.heap.size + 1, 1, none⟩ = some (.int .i64 n))
            (first | go_keep | (refine ⟨pw_cell_below hb ?_, pw_cell_below hb ?_, pw_cell_below hb ?_, pw_cell_below hb ?_, pw_cell_below hb ?_, pw_cell_below hb ?_⟩ <;> go_keep))
            (first | (go_at_call 144; (with_reducible refine (width1_b i q m e sp _).mono ?_); rintro e_ w1 ⟨rfl, hb⟩))
          go_wp2
          go_ret
          exact ⟨rfl, below_step (below_drew (below_alloc (below_alloc (Below.refl _ _) _) _)) hb⟩
    · have e0 : chkAddr i q m sp n = 8 := by simp [chkAddr]; omega
      rw [e0]
      clear e0
      have h0' : 0 ≤ sp := by omega
      go_enter Tryz.func126, Tryz.ntmps126
      go_wp2
      go_ret
      exact ⟨rfl, below_alloc (below_alloc (Below.refl _ _) _) _⟩
theorem rd_drop {l : List Rung} {k j : Int} (h0 : 0 ≤ k) (hj : 0 ≤ j) : PPrinterRoundTrip.rd_T53 (l.drop k.toNat) j = PPrinterRoundTrip.rd_T53 l (k + j) := by
  unfold PPrinterRoundTrip.rd_T53
  rw [show (k + j).toNat = k.toNat + j.toNat by omega]
  simp [List.getD, List.getElem?_drop]
theorem rd_take {l : List Rung} {k j : Int} (hj : 0 ≤ j) (h : j < k) : PPrinterRoundTrip.rd_T53 (l.take k.toNat) j = PPrinterRoundTrip.rd_T53 l j := by
  unfold PPrinterRoundTrip.rd_T53
  simp only [List.getD, List.getElem?_take]
  rw [if_pos (by omega)]
theorem hasLab_drop_none {l : List Rung} {L : ByteArray} {n : Int} (h0 : 0 ≤ n) (h : ∀ k : Int, n ≤ k → k < l.length → seq (PPrinterRoundTrip.rd_T53 l k).f0 L = false) : hasLab (l.drop n.toNat) L = false := by
  refine hasLab_none fun j j0 j1 => ?_
  rw [List.length_drop] at j1
  rw [rd_drop h0 j0]
  exact h (n + j) (by omega) (by omega)
theorem hasLab_drop_some {l : List Rung} {L : ByteArray} {n k : Int} (h0 : 0 ≤ n) (h1 : n ≤ k) (hk : k < l.length) (h : seq (PPrinterRoundTrip.rd_T53 l k).f0 L = true) : hasLab (l.drop n.toNat) L = true := by
  refine hasLab_some (k := k - n) (by omega) (by rw [List.length_drop]; omega) ?_
  rw [rd_drop h0 (by omega), show n + (k - n) = k by omega]; exact h
theorem hasLab_take_none {l : List Rung} {L : ByteArray} {n : Int} (h0 : 0 ≤ n) (h : ∀ k : Int, 0 ≤ k → k < n → seq (PPrinterRoundTrip.rd_T53 l k).f0 L = false) : hasLab (l.take n.toNat) L = false := by
  refine hasLab_none fun j j0 j1 => ?_
  rw [List.length_take] at j1
  rw [rd_take j0 (by omega)]
  exact h j j0 (by omega)
theorem hasLab_take_some {l : List Rung} {L : ByteArray} {n k : Int} (h1 : 0 ≤ k) (hk : k < n) (hn : n ≤ l.length) (h : seq (PPrinterRoundTrip.rd_T53 l k).f0 L = true) : hasLab (l.take n.toNat) L = true := by
  refine hasLab_some (k := k) h1 (by rw [List.length_take]; omega) ?_
  rw [rd_take h1 hk]; exact h
set_option maxRecDepth 100000 in
theorem behind_b (i q m : Int) (A : Option Addr) (c : Nat) (l : List Rung) (k : Int) (L : ByteArray) (w : World) (hr : Kd.C kRung w A l.length l) (hc : l.length ≤ c) (k0 : 0 ≤ k) (k1 : k < l.length) :
    Calls Tryz.prog 51 #[.agg #[.int .i64 i, .int .i64 q, .int .i64 m, .slice A l.length c], .int .i64 k, .string L] w (RetB w (.bool (hasLab (l.drop (k + 1).toNat) L))) := by
  have hmax := Kd.C_max hr
  have GR := Aside0.mk hr
  clear hr
  generalize hV : hasLab (l.drop (k + 1).toNat) L = V
  have HV := Aside0.mk hV
  clear hV
  have hkr : wrap64 (k + 1) = k + 1 := w64 (by omega) (by omega)
  have FB0 : Aside0 (Below w.heap.size w (w.alloc (.cells #[.int .i64 i, .int .i64 q, .int .i64 m, .slice A l.length c] 24))) := ⟨below_alloc (Below.refl _ _) _⟩
  have K0 := Aside0.mk (blk_new w (.cells #[.int .i64 i, .int .i64 q, .int .i64 m, .slice A l.length c] 24))
  go_enter Tryz.func51, Tryz.ntmps51
  go_wp2
  go_loopw [7] (fun cv w' => ∃ j : Int, cv = .int .i64 j ∧ k + 1 ≤ j ∧ j ≤ l.length ∧ w' = w.alloc (.cells #[.int .i64 i, .int .i64 q, .int .i64 m, .slice A l.length c] 24) ∧ Aside0 (∀ x : Int, k + 1 ≤ x → x < j → seq (PPrinterRoundTrip.rd_T53 l x).f0 L = false)) (fun cv _ => l.length - (intOf cv).toNat)
  case atStart => exact ⟨k + 1, by simp [hkr], by omega, by omega, rfl, ⟨fun x h1 h2 => by omega⟩⟩
  case round =>
    obtain ⟨j, rfl, b0, b1, rfl, HA⟩ := hrel
    have l3 := blk_cell K0.out 3
    by_cases hj : j < l.length
    · have b00 : 0 ≤ j := by omega
      obtain ⟨ad, A1, c1, A2, c2, hAd, x0, x1, x2, x3, hl1, hi1, hl2, hi2⟩ := PPrinterRoundTrip.at_T53 GR.out j (by omega) hj
      subst hAd
      clear hl1 hi1 hl2 hi2 x1 x2 x3
      replace x0 := pw_cell_below FB0.out x0
      have hwr : wrap64 (j + 1) = j + 1 := w64 (by omega) (by omega)
      cases hs : ((PPrinterRoundTrip.rd_T53 l j).f0.toList == L.toList) with
      | true =>
        have hV : V = true := HV.out.symm.trans (hasLab_drop_some (by omega) b0 hj hs)
        subst hV
        go_wp2
        go_ret
        exact ⟨rfl, FB0.out⟩
      | false =>
        have HS := Aside0.mk hs
        go_wp2
        go_roundw
        case rel =>
          refine ⟨j + 1, by simp [hwr], by omega, by omega, by first | rfl | trivial, ⟨fun x h1 h2 => ?_⟩⟩
          by_cases hx : x < j
          · exact HA.out x h1 hx
          · obtain rfl : x = j := by omega
            exact HS.out
        case measure => simp [intOf, hwr]; omega
    · obtain rfl : j = l.length := by omega
      have hV : V = false := HV.out.symm.trans (hasLab_drop_none (by omega) HA.out)
      subst hV
      go_wp2
      go_ret
      exact ⟨rfl, FB0.out⟩
theorem conKw9_b (w : World) : Calls Tryz.prog 21 #[] w (KwB w kwC) := by
  have K := blk_new w (.cells #[.string ⟨#[110, 111]⟩, .string ⟨#[110, 99]⟩, .string ⟨#[117, 112]⟩, .string ⟨#[100, 111, 119, 110]⟩] 9)
  have FB := below_alloc (Below.refl w.heap.size w) (.cells #[.string ⟨#[110, 111]⟩, .string ⟨#[110, 99]⟩, .string ⟨#[117, 112]⟩, .string ⟨#[100, 111, 119, 110]⟩] 9)
  go_enter Tryz.func21, Tryz.ntmps21
  go_wp2
  go_ret
  refine ⟨w.heap.size, 4, rfl, ⟨Nat.le_refl _, Nat.le_refl _, _, K, fun j hj => ?_⟩, FB⟩
  match j, hj with
  | 0, _ => rfl
  | 1, _ => rfl
  | 2, _ => rfl
  | 3, _ => rfl
theorem coilKw9_b (w : World) : Calls Tryz.prog 23 #[] w (KwB w kwO) := by
  have K := blk_new w (.cells #[.string ⟨#[111, 117, 116]⟩, .string ⟨#[110, 111, 116]⟩, .string ⟨#[115, 101, 116]⟩, .string ⟨#[114, 101, 115, 101, 116]⟩] 9)
  have FB := below_alloc (Below.refl w.heap.size w) (.cells #[.string ⟨#[111, 117, 116]⟩, .string ⟨#[110, 111, 116]⟩, .string ⟨#[115, 101, 116]⟩, .string ⟨#[114, 101, 115, 101, 116]⟩] 9)
  go_enter Tryz.func23, Tryz.ntmps23
  go_wp2
  go_ret
  refine ⟨w.heap.size, 4, rfl, ⟨Nat.le_refl _, Nat.le_refl _, _, K, fun j hj => ?_⟩, FB⟩
  match j, hj with
  | 0, _ => rfl
  | 1, _ => rfl
  | 2, _ => rfl
  | 3, _ => rfl
end Go.Proofs.YtolmkdhgnganaaaGreatDoor.H
namespace Go.Proofs.YtolmkdhgnganaaaGreatDoor.H
open Go Go.RowKit Go.Proofs Go.Proofs.YtolmkdhgnganaaaGreatDoorW.PrintWords Go.Proofs.YtolmkdhgnganaaaGreatDoorW.PrintLast Go.Proofs.YtolmkdhgnganaaaGreatDoorW.PrintMore Go.Proofs.YtolmkdhgnganaaaGreatDoor.Sp
set_option maxHeartbeats 2000000 in
set_option maxRecDepth 100000 in
theorem address9_p (gp : Nat) (i q m : Int) (t : ByteArray) (w : World) (ht : t.size ≤ 140737488355328) (h0 : w.cell? ⟨gp, 0, none⟩ = some (.int .i64 i)) (h1 : w.cell? ⟨gp, 1, none⟩ = some (.int .i64 q)) (h2 : w.cell? ⟨gp, 2, none⟩ = some (.int .i64 m)) :
    Calls Tryz.prog 106 #[.pointer (some ⟨gp, 0, none⟩), .string t] w (RetB w (prsV (addrParse t.data.toList).1 (addrParse t.data.toList).2.1 (adrE i q m t.data.toList))) := by
  have lt : gp < w.heap.size := World.block_lt_of_cell? w _ h0
  have HA := Aside0.mk (fun W => prs1_b t W ht)
  have HC := Aside0.mk (fun W => chk1_b i q m 0 (addrParse t.data.toList).1 (addrParse t.data.toList).2.1 W)
  have HG0 := Aside0.mk (fun W (hW : Below w.heap.size w W) => pw_cell_below hW h0)
  have HG1 := Aside0.mk (fun W (hW : Below w.heap.size w W) => pw_cell_below hW h1)
  have HG2 := Aside0.mk (fun W (hW : Below w.heap.size w W) => pw_cell_below hW h2)
  clear h0 h1 h2
  unfold adrE
  generalize (addrParse t.data.toList).1 = sp at *
  generalize (addrParse t.data.toList).2.1 = n at *
  generalize (addrParse t.data.toList).2.2 = e at *
  generalize chkAddr i q m sp n = ce at *
  generalize hae : (if e = 0 then ce else e) = ae
  have HAE := Aside0.mk hae
  clear hae
  have K0 := Aside0.mk (blk_new w (.cells #[.int .i64 0, .int .i64 0] 57))
  have B0 := Aside0.mk (below_alloc (Below.refl w.heap.size w) (.cells #[.int .i64 0, .int .i64 0] 57))
  go_enter Tryz.func106, Tryz.ntmps106
  go_wp2_with fail
  refine (HA.out _).mono ?_
  rintro e_ w1 ⟨rfl, hb⟩
  unfold prsV
  have K1 := Aside0.mk (blk_below K0.out hb)
  have B1 := Aside0.mk (below_step B0.out hb)
  clear K0 B0 hb
  generalize hg : w.heap.size = g at K1 B1 ⊢
  have HG := Aside0.mk hg
  clear hg
  have K2 := Aside0.mk (blk_alloc K1.out (.cells #[.int .i64 sp, .int .i64 n] 57))
  have K3 := Aside0.mk (blk_new w1 (.cells #[.int .i64 sp, .int .i64 n] 57))
  have B2 := Aside0.mk (B1.out.alloc (Nat.le_trans (by have := HG.out; omega) B1.out.size) (.cells #[.int .i64 sp, .int .i64 n] 57))
  have B2' : Aside0 (Below w.heap.size w (w1.alloc (.cells #[.int .i64 sp, .int .i64 n] 57))) := ⟨by have := B2.out; rw [← HG.out] at this; exact this⟩
  have hgl : g < w1.heap.size := blk_lt K1.out
  generalize hg2 : w1.heap.size = g2 at K3 hgl
  by_cases he0 : e = 0
  · subst he0
    obtain rfl : ae = ce := by rw [← HAE.out, if_pos rfl]
    have HW := Aside0.mk (below_drew B2'.out)
    have q2 : (w1.alloc (.cells #[.int .i64 sp, .int .i64 n] 57)).drew.cell? ⟨g2, 0, none⟩ = some (.int .i64 sp) := blk_cell K3.out 0
    have q3 : (w1.alloc (.cells #[.int .i64 sp, .int .i64 n] 57)).drew.cell? ⟨g2, 1, none⟩ = some (.int .i64 n) := blk_cell K3.out 1
    have r0 := HG0.out _ HW.out
    have r1 := HG1.out _ HW.out
    have r2 := HG2.out _ HW.out
    go_wp2_with fail
    generalize w1.alloc (.cells #[.int .i64 sp, .int .i64 n] 57) = w2 at *
    have KA := Aside0.mk (blk_drew K2.out)
    refine start_ (n := 21) (S := fun w' => w'.cell? ⟨g2, 0, none⟩ = some (.int .i64 sp) ∧ w'.cell? ⟨g2, 1, none⟩ = some (.int .i64 n) ∧ w'.cell? ⟨gp, 0, none⟩ = some (.int .i64 i) ∧ w'.cell? ⟨gp, 1, none⟩ = some (.int .i64 q) ∧ w'.cell? ⟨gp, 2, none⟩ = some (.int .i64 m)) (ds := [19]) #[false, false, false, false, false, false, false, false, false, false, false, false, false, false, false, false, false, false, false, false, false] (by kernel_rfl) rfl rfl ⟨q2, q3, r0, r1, r2⟩ (fun hHeld => ?_)
    refine pure_ (i := 1) (N := some 18) (v := ?_) (a' := ?_) #[false, true, false, false, false, false, false, false, false, false, false, false, false, false, false, false, false, false, false, false, false] rfl rfl (by kernel_rfl) (fun _ _ _ h => h) (Or.inl ⟨by rfl, ?_⟩) ?_ ?_
    rotate_left
    · intro w'
      go_simp
      with_reducible rfl
    rotate_left
    · simp only [Act.put, List.setIfInBounds_toArray, List.set_cons_zero, List.set_cons_succ, i64_w, i32_w]
      rfl
    refine pure_ (i := 2) (N := some 19) (v := ?_) (a' := ?_) #[false, true, true, false, false, false, false, false, false, false, false, false, false, false, false, false, false, false, false, false, false] rfl rfl (by kernel_rfl) (fun _ _ _ h => h) (Or.inl ⟨by rfl, ?_⟩) ?_ ?_
    rotate_left
    · intro w'
      go_simp
      with_reducible rfl
    rotate_left
    · simp only [Act.put, List.setIfInBounds_toArray, List.set_cons_zero, List.set_cons_succ, i64_w, i32_w]
      rfl
    refine pure_ (i := 3) (N := some 20) (v := ?_) (a' := ?_) #[false, true, true, true, false, false, false, false, false, false, false, false, false, false, false, false, false, false, false, false, false] rfl rfl (by kernel_rfl) (fun _ _ _ h => h) (Or.inl ⟨by rfl, ?_⟩) ?_ ?_
    rotate_left
    · intro w'
      go_simp
      with_reducible rfl
    rotate_left
    · simp only [Act.put, List.setIfInBounds_toArray, List.set_cons_zero, List.set_cons_succ, i64_w, i32_w]
      rfl
    refine pure_ (i := 4) (N := some 21) (v := ?_) (a' := ?_) #[false, true, true, true, true, false, false, false, false, false, false, false, false, false, false, false, false, false, false, false, false] rfl rfl (by kernel_rfl) (fun _ _ _ h => h) (Or.inl ⟨by rfl, ?_⟩) ?_ ?_
    rotate_left
    · intro w'
      go_simp
      with_reducible rfl
    rotate_left
    · simp only [Act.put, List.setIfInBounds_toArray, List.set_cons_zero, List.set_cons_succ, i64_w, i32_w]
      rfl
    refine pure_ (i := 6) (N := some 23) (v := ?_) (a' := ?_) #[false, true, true, true, true, false, true, false, false, false, false, false, false, false, false, false, false, false, false, false, false] rfl rfl (by kernel_rfl) (fun _ _ _ h => h) (Or.inl ⟨by rfl, ?_⟩) ?_ ?_
    rotate_left
    · intro w'
      go_simp
      with_reducible rfl
    rotate_left
    · simp only [Act.put, List.setIfInBounds_toArray, List.set_cons_zero, List.set_cons_succ, i64_w, i32_w]
      rfl
    refine pure_ (i := 7) (N := some 24) (v := ?_) (a' := ?_) #[false, true, true, true, true, false, true, true, false, false, false, false, false, false, false, false, false, false, false, false, false] rfl rfl (by kernel_rfl) (fun _ _ _ h => h) (Or.inl ⟨by rfl, ?_⟩) ?_ ?_
    rotate_left
    · intro w'
      go_simp
      with_reducible rfl
    rotate_left
    · simp only [Act.put, List.setIfInBounds_toArray, List.set_cons_zero, List.set_cons_succ, i64_w, i32_w]
      rfl
    refine pure_ (i := 8) (N := some 25) (v := ?_) (a' := ?_) #[false, true, true, true, true, false, true, true, true, false, false, false, false, false, false, false, false, false, false, false, false] rfl rfl (by kernel_rfl) (fun _ _ _ h => h) (Or.inl ⟨by rfl, ?_⟩) ?_ ?_
    rotate_left
    · intro w'
      go_simp
      with_reducible rfl
    rotate_left
    · simp only [Act.put, List.setIfInBounds_toArray, List.set_cons_zero, List.set_cons_succ, i64_w, i32_w]
      rfl
    refine pure_ (i := 9) (N := some 26) (v := ?_) (a' := ?_) #[false, true, true, true, true, false, true, true, true, true, false, false, false, false, false, false, false, false, false, false, false] rfl rfl (by kernel_rfl) (fun _ _ _ h => h) (Or.inl ⟨by rfl, ?_⟩) ?_ ?_
    rotate_left
    · intro w'
      go_simp
      with_reducible rfl
    rotate_left
    · simp only [Act.put, List.setIfInBounds_toArray, List.set_cons_zero, List.set_cons_succ, i64_w, i32_w]
      rfl
    refine pure_ (i := 11) (N := some 28) (v := ?_) (a' := ?_) #[false, true, true, true, true, false, true, true, true, true, false, true, false, false, false, false, false, false, false, false, false] rfl rfl (by kernel_rfl) (fun _ _ _ h => h) (Or.inl ⟨by rfl, ?_⟩) ?_ ?_
    rotate_left
    · intro w'
      go_simp
      with_reducible rfl
    rotate_left
    · simp only [Act.put, List.setIfInBounds_toArray, List.set_cons_zero, List.set_cons_succ, i64_w, i32_w]
      rfl
    refine pure_ (i := 12) (N := some 29) (v := ?_) (a' := ?_) #[false, true, true, true, true, false, true, true, true, true, false, true, true, false, false, false, false, false, false, false, false] rfl rfl (by kernel_rfl) (fun _ _ _ h => h) (Or.inl ⟨by rfl, ?_⟩) ?_ ?_
    rotate_left
    · intro w'
      go_simp
      with_reducible rfl
    rotate_left
    · simp only [Act.put, List.setIfInBounds_toArray, List.set_cons_zero, List.set_cons_succ, i64_w, i32_w]
      rfl
    refine pure_ (i := 13) (N := some 30) (v := ?_) (a' := ?_) #[false, true, true, true, true, false, true, true, true, true, false, true, true, true, false, false, false, false, false, false, false] rfl rfl (by kernel_rfl) (fun _ _ _ h => h) (Or.inl ⟨by rfl, ?_⟩) ?_ ?_
    rotate_left
    · intro w'
      go_simp
      with_reducible rfl
    rotate_left
    · simp only [Act.put, List.setIfInBounds_toArray, List.set_cons_zero, List.set_cons_succ, i64_w, i32_w]
      rfl
    refine pure_ (i := 14) (N := some 31) (v := ?_) (a' := ?_) #[false, true, true, true, true, false, true, true, true, true, false, true, true, true, true, false, false, false, false, false, false] rfl rfl (by kernel_rfl) (fun _ _ _ h => h) (Or.inl ⟨by rfl, ?_⟩) ?_ ?_
    rotate_left
    · intro w'
      go_simp
      with_reducible rfl
    rotate_left
    · simp only [Act.put, List.setIfInBounds_toArray, List.set_cons_zero, List.set_cons_succ, i64_w, i32_w]
      rfl
    refine take_ (i := 0) (N := some 17) (v := ?_) (a' := ?_) #[true, true, true, true, true, false, true, true, true, true, false, true, true, true, true, false, false, false, false, false, false] rfl rfl (by kernel_rfl) (fun _ _ _ h => h) (Or.inl ⟨by rfl, ?_⟩) hHeld ?_ ?_
    rotate_left
    · rintro w' ⟨s0, s1, s2, s3, s4⟩
      go_simp
      with_reducible rfl
    rotate_left
    · simp only [Act.put, List.setIfInBounds_toArray, List.set_cons_zero, List.set_cons_succ, i64_w, i32_w]
      rfl
    refine take_ (i := 5) (N := some 22) (v := ?_) (a' := ?_) #[true, true, true, true, true, true, true, true, true, true, false, true, true, true, true, false, false, false, false, false, false] rfl rfl (by kernel_rfl) (fun _ _ _ h => h) (Or.inl ⟨by rfl, ?_⟩) hHeld ?_ ?_
    rotate_left
    · rintro w' ⟨s0, s1, s2, s3, s4⟩
      go_simp
      with_reducible rfl
    rotate_left
    · simp only [Act.put, List.setIfInBounds_toArray, List.set_cons_zero, List.set_cons_succ, i64_w, i32_w]
      rfl
    refine take_ (i := 10) (N := some 27) (v := ?_) (a' := ?_) #[true, true, true, true, true, true, true, true, true, true, true, true, true, true, true, false, false, false, false, false, false] rfl rfl (by kernel_rfl) (fun _ _ _ h => h) (Or.inl ⟨by rfl, ?_⟩) hHeld ?_ ?_
    rotate_left
    · rintro w' ⟨s0, s1, s2, s3, s4⟩
      go_simp
      with_reducible rfl
    rotate_left
    · simp only [Act.put, List.setIfInBounds_toArray, List.set_cons_zero, List.set_cons_succ, i64_w, i32_w]
      rfl
    refine take_ (i := 15) (N := some 32) (v := ?_) (a' := ?_) #[true, true, true, true, true, true, true, true, true, true, true, true, true, true, true, true, false, false, false, false, false] rfl rfl (by kernel_rfl) (fun _ _ _ h => h) (Or.inl ⟨by rfl, ?_⟩) hHeld ?_ ?_
    rotate_left
    · rintro w' ⟨s0, s1, s2, s3, s4⟩
      go_simp
      with_reducible rfl
    rotate_left
    · simp only [Act.put, List.setIfInBounds_toArray, List.set_cons_zero, List.set_cons_succ, i64_w, i32_w]
      rfl
    refine pure_ (i := 16) (N := some 33) (v := ?_) (a' := ?_) #[true, true, true, true, true, true, true, true, true, true, true, true, true, true, true, true, true, false, false, false, false] rfl rfl (by kernel_rfl) (fun _ _ _ h => h) (Or.inl ⟨by rfl, ?_⟩) ?_ ?_
    rotate_left
    · intro w'
      go_simp
      with_reducible rfl
    rotate_left
    · simp only [Act.put, List.setIfInBounds_toArray, List.set_cons_zero, List.set_cons_succ, i64_w, i32_w]
      rfl
    refine take_ (i := 17) (N := some 34) (v := ?_) (a' := ?_) #[true, true, true, true, true, true, true, true, true, true, true, true, true, true, true, true, true, true, false, false, false] rfl rfl (by kernel_rfl) (fun _ _ _ h => h) (Or.inl ⟨by rfl, ?_⟩) hHeld ?_ ?_
    rotate_left
    · rintro w' ⟨s0, s1, s2, s3, s4⟩
      go_simp
      with_reducible rfl
    rotate_left
    · simp only [Act.put, List.setIfInBounds_toArray, List.set_cons_zero, List.set_cons_succ, i64_w, i32_w]
      rfl
    refine one_ (i := 18) (N := some 35) #[true, true, true, true, true, true, true, true, true, true, true, true, true, true, true, true, true, true, true, false, false] rfl rfl (by kernel_rfl) (by decide) (fun K hK => ?_)
    refine goes_ Tryz.func126 (by kernel_rfl) rfl #[.agg #[.int .i64 i, .int .i64 q, .int .i64 m, .int .i64 0], .agg #[.int .i64 sp, .int .i64 n]] (by rfl) rfl rfl (by first | (simp only [List.map_toArray, List.map_cons, List.map_nil]; done) | (simp only [List.map_toArray, List.map_cons, List.map_nil]; rfl)) ?_
    with_reducible refine (HC.out _).mono ?_
    rintro e_ w4 ⟨rfl, hb⟩
    refine ⟨_, rfl, ?_⟩
    have n_ := Aside0.mk (below_step HW.out hb)
    clear HW
    have HW := n_
    clear n_
    have m_ := Aside0.mk (blk_below KA.out hb)
    clear KA
    have KA := m_
    clear m_
    have q0 : w4.cell? ⟨g, 0, none⟩ = some (.int .i64 0) := blk_cell KA.out 0
    have q1 : w4.cell? ⟨g, 1, none⟩ = some (.int .i64 0) := blk_cell KA.out 1
    have f0 := blk_frozen KA.out 0
    have f1 := blk_frozen KA.out 1
    refine hK.out _ _ ⟨(pw_cell_below hb hHeld.1), (pw_cell_below hb hHeld.2.1), (pw_cell_below hb hHeld.2.2.1), (pw_cell_below hb hHeld.2.2.2.1), (pw_cell_below hb hHeld.2.2.2.2)⟩ (fun hHeld => ?_)
    clear hK K
    refine norm_ (a' := ?_) ?_ ?_
    rotate_left
    · show Act.put _ (some 35) _ = _
      simp only [Act.put, List.setIfInBounds_toArray, List.set_cons_zero, List.set_cons_succ, i64_w, i32_w]
      rfl
    refine last_ (i := 19) (N := none) #[true, true, true, true, true, true, true, true, true, true, true, true, true, true, true, true, true, true, true, true, false] rfl rfl (by kernel_rfl) (by decide) (fun K hK => ?_)
    refine skip_ (w1 := ?_) (by rfl) rfl ?_ ?_
    rotate_left
    · go_simp
      rfl
    refine hK.out _ _ ?_
    clear hK K
    refine pure_ (i := 20) (N := some 5) (v := ?_) (a' := ?_) #[true, true, true, true, true, true, true, true, true, true, true, true, true, true, true, true, true, true, true, true, true] rfl rfl (by kernel_rfl) (fun _ _ _ h => h) (Or.inl ⟨by rfl, ?_⟩) ?_ ?_
    rotate_left
    · intro w'
      go_simp
      with_reducible rfl
    rotate_left
    · simp only [Act.put, List.setIfInBounds_toArray, List.set_cons_zero, List.set_cons_succ, i64_w, i32_w]
      rfl
    refine done_ (by kernel_rfl) ?_
    have hgs : w.heap.size ≤ g := by have := HG.out; omega
    have KF : ((w4.setCell ⟨g, 0, none⟩ (.int .i64 sp)).setCell ⟨g, 1, none⟩ (.int .i64 n)).heap[g]? = some (.cells #[.int .i64 sp, .int .i64 n] 57 (0, 0)) := by
      have := blk_set (blk_set KA.out 0 (.int .i64 sp)) 1 (.int .i64 n)
      simpa using this
    have FB : Below w.heap.size w ((w4.setCell ⟨g, 0, none⟩ (.int .i64 sp)).setCell ⟨g, 1, none⟩ (.int .i64 n)) := below_set (below_set HW.out hgs) hgs
    have KF := Aside0.mk KF
    go_wp2
    have c0 := blk_cell KF.out 0
    have c1 := blk_cell KF.out 1
    generalize (w4.setCell ⟨g, 0, none⟩ (.int .i64 sp)).setCell ⟨g, 1, none⟩ (.int .i64 n) = w5 at c0 c1 FB ⊢
    exact bodyPost_ret (v := .tuple #[.agg #[.int .i64 sp, .int .i64 n], .int .i64 ae]) (by simp [results, Tryz.results106, go_sem, c0, c1]) rfl ⟨rfl, FB⟩
  · obtain rfl : ae = e := by rw [← HAE.out, if_neg he0]
    have q0 : w1.cell? ⟨g, 0, none⟩ = some (.int .i64 0) := blk_cell K1.out 0
    have q1 : w1.cell? ⟨g, 1, none⟩ = some (.int .i64 0) := blk_cell K1.out 1
    have f0 := blk_frozen K1.out 0
    have f1 := blk_frozen K1.out 1
    have hgs : w.heap.size ≤ g := by have := HG.out; omega
    have KF : (((w1.setCell ⟨g, 0, none⟩ (.int .i64 sp)).setCell ⟨g, 1, none⟩ (.int .i64 n)).alloc (.cells #[.int .i64 sp, .int .i64 n] 57)).heap[g]? = some (.cells #[.int .i64 sp, .int .i64 n] 57 (0, 0)) := by
      have := blk_alloc (blk_set (blk_set K1.out 0 (.int .i64 sp)) 1 (.int .i64 n)) (.cells #[.int .i64 sp, .int .i64 n] 57)
      simpa using this
    have FB : Below w.heap.size w (((w1.setCell ⟨g, 0, none⟩ (.int .i64 sp)).setCell ⟨g, 1, none⟩ (.int .i64 n)).alloc (.cells #[.int .i64 sp, .int .i64 n] 57)) := below_alloc (below_set (below_set (by have := B1.out; rw [← HG.out] at this; exact this) hgs) hgs) _
    have KF := Aside0.mk KF
    go_wp2
    have c0 := blk_cell KF.out 0
    have c1 := blk_cell KF.out 1
    generalize ((w1.setCell ⟨g, 0, none⟩ (.int .i64 sp)).setCell ⟨g, 1, none⟩ (.int .i64 n)).alloc (.cells #[.int .i64 sp, .int .i64 n] 57) = w5 at c0 c1 FB ⊢
    exact bodyPost_ret (v := .tuple #[.agg #[.int .i64 sp, .int .i64 n], .int .i64 ae]) (by simp [results, Tryz.results106, go_sem, c0, c1]) rfl ⟨rfl, FB⟩
end Go.Proofs.YtolmkdhgnganaaaGreatDoor.H
namespace Go.Proofs.YtolmkdhgnganaaaGreatDoor.H
open Go Go.RowKit Go.Proofs Go.Proofs.YtolmkdhgnganaaaGreatDoorW.PrintWords Go.Proofs.YtolmkdhgnganaaaGreatDoorW.PrintLast Go.Proofs.YtolmkdhgnganaaaGreatDoorW.PrintMore Go.Proofs.YtolmkdhgnganaaaGreatDoor.Sp
theorem obj_lt {w : World} {k : Nat} {o : Obj} (h : w.heap[k]? = some o) : k < w.heap.size := by
  obtain ⟨h2, -⟩ := Array.getElem?_eq_some_iff.1 h
  exact h2
theorem KQ.far {B : Nat} {w wr : World} (h : KQ B w wr) {ga : Nat} (hB : B ≤ w.heap.size) (hg : w.heap.size ≤ ga) (j : Nat) (v : Value) : KQ B w (wr.setCell ⟨ga, j, none⟩ v) :=
  ⟨h.b.setCell (p := ⟨ga, j, none⟩) (Nat.le_trans hB hg) v, fun k o hk ho => (Below.heap_setCell wr ⟨ga, j, none⟩ v k (fun e => by
    have e2 : k = ga := e
    have := obj_lt hk
    omega)).trans (h.k k o hk ho)⟩
theorem types_arr9 : ∀ t, t ∈ 53 :: kRung.E → t ≠ 162 := by decide
theorem PG.arr {B gp ga : Nat} {S : PSt} {vr vl vj : Value} {wr : World} {cs : Array Value} (h : PG B gp S vr vl vj wr) (ha : wr.heap[ga]? = some (.cells cs 162 (0, 0))) (j : Nat) (v : Value) : PG B gp S vr vl vj (wr.setCell ⟨ga, j, none⟩ v) := by
  have hs : B ≤ (wr.setCell ⟨ga, j, none⟩ v).heap.size := by have := h.sz; simpa using this
  exact ⟨h.gb, hs, blk_far h.p (p := ⟨ga, j, none⟩) (fun e => by have e2 : gp = ga := e; have := h.p; rw [e2, ha] at this; cases this) v, Kd.S_set h.r ha types_arr9 j v, Kd.R_set h.l ha (by decide) j v, Kd.R_set h.j ha (by decide) j v, h.lj, h.nl, h.nj, h.n64⟩
/-- The k numbers that have been read. -/
def arrUp (ws : List ByteArray) (k j : Nat) : Int := if j < k then (nAt ws j).1 else 0
/-- While the three numbers are read. -/
structure SzQ (B gp ga : Nat) (w : World) (b wc : Nat) (ws : List ByteArray) (S : PSt) (vr vl vj : Value) (a0 a1 a2 : Int) (wr : World) : Prop where
  p : PG B gp S vr vl vj wr
  ka : wr.heap[ga]? = some (.cells #[.int .i64 a0, .int .i64 a1, .int .i64 a2] 162 (0, 0))
  k : KQ B w wr
  wd : Kd.string.R 9 wr B (fun _ => True) (.slice (some ⟨b, 0, none⟩) 4 wc) ws
  g : w.heap.size ≤ ga
  s : B ≤ w.heap.size
theorem SzQ.below {B gp ga : Nat} {w : World} {b wc : Nat} {ws : List ByteArray} {S : PSt} {vr vl vj : Value} {a0 a1 a2 : Int} {wr w1 : World} (h : SzQ B gp ga w b wc ws S vr vl vj a0 a1 a2 wr) (hb : Below wr.heap.size wr w1) : SzQ B gp ga w b wc ws S vr vl vj a0 a1 a2 w1 :=
  ⟨h.p.below hb, blk_below h.ka hb, h.k.trans (KQ.of_below h.p.sz hb), Kd.R_below h.wd hb, h.g, h.s⟩
theorem SzQ.put {B gp ga : Nat} {w : World} {b wc : Nat} {ws : List ByteArray} {S : PSt} {vr vl vj : Value} {wr : World} {k : Nat} (h : SzQ B gp ga w b wc ws S vr vl vj (arrUp ws k 0) (arrUp ws k 1) (arrUp ws k 2) wr) (hk : k < 3) : SzQ B gp ga w b wc ws S vr vl vj (arrUp ws (k + 1) 0) (arrUp ws (k + 1) 1) (arrUp ws (k + 1) 2) (wr.setCell ⟨ga, k, none⟩ (.int .i64 (nAt ws k).1)) := by
  have hp := blk_set h.ka k (.int .i64 (nAt ws k).1)
  refine ⟨h.p.arr h.ka _ _, ?_, h.k.far h.s h.g _ _, Kd.R_set h.wd h.ka (by decide) _ _, h.g, h.s⟩
  have : k = 0 ∨ k = 1 ∨ k = 2 := by omega
  rcases this with rfl | rfl | rfl <;> simpa [arrUp] using hp
theorem sizeS_all {S : PSt} {ws : List ByteArray} (hs : S.sized = false) (h : ∀ j, j < 3 → (nAt ws j).2 = 0) : sizeS S ws = (((({ S with sized := true } : PSt).put 0 (nAt ws 0).1).put 1 (nAt ws 1).1).put 2 (nAt ws 2).1, 0) := by
  simp [sizeS, hs, h 0 (by omega), h 1 (by omega), h 2 (by omega), PSt.put]
set_option maxHeartbeats 4000000 in
set_option maxRecDepth 100000 in
theorem size9_p {B gp : Nat} {S : PSt} {vr vl vj : Value} {w : World} (h : PG B gp S vr vl vj w) (b wc : Nat) (ws : List ByteArray) (hw : Kd.string.R 9 w B (fun _ => True) (.slice (some ⟨b, 0, none⟩) 4 wc) ws)
    (hsz : ∀ j, (ws.getD j ⟨#[]⟩).size ≤ 65536) :
    Calls Tryz.prog 77 #[.pointer (some ⟨gp, 0, none⟩), .slice (some ⟨b, 0, none⟩) 4 wc] w (ParQ B gp w (sizeS S ws)) := by
  have H := Aside0.mk h
  have p6 := h.cells.2.2.2.2.2.2
  have ltg : gp < w.heap.size := blk_lt h.p
  have HW := Aside0.mk hw
  clear h hw
  cases hs : S.sized with
  | true =>
    have e : sizeS S ws = (S, 9) := by rw [sizeS, if_pos hs]
    rw [hs] at p6
    rw [e]
    go_enter Tryz.func77, Tryz.ntmps77
    go_wp2
    go_ret
    exact ⟨rfl, KQ.of_below H.out.sz (Below.refl _ _), fun e => by cases e⟩
  | false =>
    rw [hs] at p6
    have HSz := Aside0.mk hs
    have hb0 := below_alloc (Below.refl w.heap.size w) (.cells #[.int .i64 0, .int .i64 0, .int .i64 0] 162)
    have HF : Aside0 (SzQ B gp w.heap.size w b wc ws S vr vl vj (arrUp ws 0 0) (arrUp ws 0 1) (arrUp ws 0 2) (w.alloc (.cells #[.int .i64 0, .int .i64 0, .int .i64 0] 162))) :=
      ⟨⟨H.out.below hb0, by simpa [arrUp] using blk_new w (.cells #[.int .i64 0, .int .i64 0, .int .i64 0] 162), KQ.of_below H.out.sz hb0, Kd.R_below HW.out hb0, Nat.le_refl _, H.out.sz⟩⟩
    clear hs hb0
    go_enter Tryz.func77, Tryz.ntmps77
    go_wp2_with fail
    generalize w.alloc (.cells #[.int .i64 0, .int .i64 0, .int .i64 0] 162) = w1 at HF ⊢
    generalize hg : w.heap.size = ga at HF ⊢
    clear p6 hg ltg
    go_loopw [6] (fun cv w' => ∃ k : Nat, cv = .int .i64 k ∧ k ≤ 3 ∧ ∃ wr : World, wr = w' ∧ Aside0 (SzQ B gp ga w b wc ws S vr vl vj (arrUp ws k 0) (arrUp ws k 1) (arrUp ws k 2) wr) ∧ Aside0 (∀ j, j < k → (nAt ws j).2 = 0)) (fun cv _ => (3 - intOf cv).toNat)
    case atStart => exact ⟨0, rfl, by omega, _, rfl, HF, ⟨fun j hj => by omega⟩⟩
    case round =>
      obtain ⟨k, rfl, hk, wr, rfl, HF, HN⟩ := hrel
      by_cases hlt : (k : Int) < 3
      · have hk3 : k < 3 := by omega
        have hwr : wrap64 ((k : Int) + 1) = ((k + 1 : Nat) : Int) := by rw [w64 (by omega) (by omega)]; rfl
        have hat : wr.cell? ⟨b, k + 1, none⟩ = some (.string (ws.getD (k + 1) ⟨#[]⟩)) := words_cell HF.out.wd (k + 1) (by omega)
        have HNu := Aside0.mk (fun W => num9_b (ws.getD (k + 1) ⟨#[]⟩) (by have := hsz (k + 1); omega) W)
        change Aside0 (∀ W, Calls _ _ _ W (RetB W (numV (nAt ws k).1 (nAt ws k).2))) at HNu
        generalize hv : nAt ws k = v at HNu
        have HV := Aside0.mk hv
        clear hv
        obtain ⟨v1, v2⟩ := v
        generalize ws.getD (k + 1) ⟨#[]⟩ = x at *
        have hki : ((k : Int) + 1) < 4 := by omega
        go_wp2_with fail
        refine (HNu.out _).mono ?_
        rintro e w3 ⟨rfl, hb⟩
        unfold numV
        have HF3 := Aside0.mk (HF.out.below hb)
        clear hb HNu hat
        by_cases hv2 : v2 = 0
        · subst hv2
          have hz : ∃ z, w3.cell? ⟨ga, k, none⟩ = some z := by
            have : k = 0 ∨ k = 1 ∨ k = 2 := by omega
            rcases this with rfl | rfl | rfl
            · exact ⟨_, blk_cell HF3.out.ka 0⟩
            · exact ⟨_, blk_cell HF3.out.ka 1⟩
            · exact ⟨_, blk_cell HF3.out.ka 2⟩
          obtain ⟨z, hz⟩ := hz
          have fz := blk_frozen HF3.out.ka k
          have HP : Aside0 (SzQ B gp ga w b wc ws S vr vl vj (arrUp ws (k + 1) 0) (arrUp ws (k + 1) 1) (arrUp ws (k + 1) 2) (w3.setCell ⟨ga, k, none⟩ (.int .i64 v1))) := ⟨by
            have := HF3.out.put hk3
            rw [HV.out] at this
            exact this⟩
          have HN2 : Aside0 (∀ j, j < k + 1 → (nAt ws j).2 = 0) := ⟨fun j hj => by
            by_cases h : j < k
            · exact HN.out j h
            · obtain rfl : j = k := by omega
              rw [HV.out]⟩
          clear HF3 HN HF
          go_wp2
          go_roundw
          case rel => exact ⟨k + 1, by simp [hwr], by omega, _, rfl, HP, HN2⟩
          case measure => simp [intOf, hwr]; omega
        · have HE2 : Aside0 (sizeS S ws = (S, v2)) := ⟨by
            have := sizeS_err HSz.out hk3 HN.out (by rw [HV.out]; exact hv2)
            rw [HV.out] at this
            exact this⟩
          go_wp2
          go_ret
          rw [HE2.out]
          exact ⟨rfl, HF3.out.k, fun e => absurd e hv2⟩
      · obtain rfl : k = 3 := by omega
        have HO := Aside0.mk (sizeS_all HSz.out HN.out)
        have e0 : arrUp ws 3 0 = (nAt ws 0).1 := rfl
        have e1 : arrUp ws 3 1 = (nAt ws 1).1 := rfl
        have e2 : arrUp ws 3 2 = (nAt ws 2).1 := rfl
        rw [e0, e1, e2] at HF
        generalize (nAt ws 0).1 = n0 at HF HO
        generalize (nAt ws 1).1 = n1 at HF HO
        generalize (nAt ws 2).1 = n2 at HF HO
        clear e0 e1 e2 HN
        have y6 := HF.out.p.cells.2.2.2.2.2.2
        have f6 := blk_frozen HF.out.p.p 6
        have K1 := KQ.set (B := B) (j := 6) HF.out.p.gb HF.out.p.p (by rfl) (.bool true)
        have P1 := HF.out.p.sized
        have A1 := K1.blk HF.out.ka (by rfl)
        have K2 := KQ.set (B := B) (j := 0) P1.gb P1.p (by rfl) (.int .i64 n0)
        have P2 := P1.size 0 (by omega) n0
        have A2 := K2.blk A1 (by rfl)
        have K3 := KQ.set (B := B) (j := 1) P2.gb P2.p (by rfl) (.int .i64 n1)
        have P3 := P2.size 1 (by omega) n1
        have A3 := K3.blk A2 (by rfl)
        have K4 := KQ.set (B := B) (j := 2) P3.gb P3.p (by rfl) (.int .i64 n2)
        have P4 := P3.size 2 (by omega) n2
        have HP := Aside0.mk P4
        have HK := Aside0.mk (HF.out.k.trans (K1.trans (K2.trans (K3.trans K4))))
        have a1 := blk_cell A1 0
        have a2 := blk_cell A2 1
        have a3 := blk_cell A3 2
        have z1 := P1.cells.1
        have z2 := P2.cells.2.1
        have z3 := P3.cells.2.2.1
        have fz1 := blk_frozen P1.p 0
        have fz2 := blk_frozen P2.p 1
        have fz3 := blk_frozen P3.p 2
        clear K1 P1 A1 K2 P2 A2 K3 P3 A3 K4 P4 HF H HW HSz
        generalize S.sized = zz at y6
        go_wp2
        go_ret
        rw [HO.out]
        exact ⟨rfl, HK.out, fun _ => ⟨_, _, _, HP.out⟩⟩
end Go.Proofs.YtolmkdhgnganaaaGreatDoor.H
