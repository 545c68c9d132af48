/-
  What the claim's row leans on, part 5: Parse's lines one by one, over the pieces of a text. The three capacities: as many rungs, contacts, coils as are let in, and one more. The example of the chapter: 'busbarlaw10.alive' answers true. Parse's answer but for the ladder; the library's calls of the statements. printer.Equal: it answers what its plain function answers; nothing that was there is changed. printer.Equal's walk. The reference's Same: it answers what printer.Equal's plain function answers. Equal ladders: reflexive, symmetric. 'busbarlaw10.ParseMatchesReference' answers true. From a row's listed variables to what the contracts ask of the world; and arguments laid open. No law in sight. A ladder among the arguments: from its reading to what the contracts ask. From a row's listed variables to what lex.Lines reads; the row's call with the world's shape.
-/
import Derived.Test.YtolmkdhgnganaaaGreatDoorMgPMd
set_option linter.unusedVariables false
set_option linter.unusedSimpArgs false
namespace Go.Proofs.YtolmkdhgnganaaaGreatDoor.H
open Go Go.RowKit Go.Proofs Go.Proofs.YtolmkdhgnganaaaGreatDoorW.PrintWords Go.Proofs.YtolmkdhgnganaaaGreatDoor.Sp
theorem isE0 : (⟨#[]⟩ : ByteArray).toList.isEmpty = true := by rw [toList_data]; rfl
def runP (S : PSt) (n : Int) (ps : List (List UInt8)) : PSt × Int × Int := runS S (linesFrom n ps)
theorem runP_nil (S : PSt) (n : Int) : runP S n [] = (S, 0, 0) := rfl
theorem runP_blank {S : PSt} {n : Int} {p : List UInt8} {r : List (List UInt8)} (h : wds p = []) : runP S n (p :: r) = runP S (n + 1) r := by
  unfold runP
  rw [linesFrom, h]
  rfl
theorem runP_end (S : PSt) (n : Int) : runP S n [[]] = (S, 0, 0) := by
  rw [runP_blank (by decide), runP_nil]
theorem runP_ok {S T : PSt} {n : Int} {p : List UInt8} {r : List (List UInt8)} {ws : List ByteArray} (h : wds p = ws) (h0 : ws ≠ []) (hl : lineS S n ws = (T, 0)) : runP S n (p :: r) = runP T (n + 1) r := by
  unfold runP
  rw [linesFrom, h, if_neg (by simpa using h0), List.cons_append, List.nil_append, runS]
  dsimp only
  rw [hl, if_pos rfl]
theorem badFrom_all : ∀ {ps : List (List UInt8)} (n : Int), (∀ p ∈ ps, isPl (bareL p) = true) → badFrom n ps = none
  | [], n, _ => rfl
  | p :: r, n, h => by
    rw [badFrom, if_pos (h p List.mem_cons_self)]
    exact badFrom_all (n + 1) (fun q hq => h q (List.mem_cons_of_mem _ hq))
theorem parseL_run {ps : List (List UInt8)} (hb : ∀ p ∈ ps, isPl (bareL p) = true) : parseL ps = if (runP S0 1 ps).2.2 = 0 then endS (runP S0 1 ps).1 else runP S0 1 ps := by
  unfold parseL
  rw [badFrom_all 1 hb]
  rfl
/-- A text without a jump ends well. -/
theorem endS_plain {S : PSt} (hs : S.sized = true) (h : ∀ r ∈ S.rungs, r.f3.toList.isEmpty = true) : endS S = (S, 0, 0) := by
  unfold endS
  rw [if_neg (by simp [hs])]
  rw [firstN_none (fun j hj => ?_)]
  unfold jbAt
  have : rdR S.rungs (j : Int) ∈ S.rungs := by
    have e : rdR S.rungs (j : Int) = S.rungs[j] := by simp [PPrinterRoundTrip.rd_T53, List.getD, hj]
    rw [e]; exact List.getElem_mem _
  rw [h _ this]
  rfl
/-- size 1 1 0, size 1 1 1 -/
theorem num_one : numParse [49] 256 = (1, 0) := by decide +kernel
theorem num_zero : numParse [48] 256 = (0, 0) := by decide +kernel
def wSize (x : UInt8) : List ByteArray := [⟨#[115, 105, 122, 101]⟩, ⟨#[49]⟩, ⟨#[49]⟩, ⟨#[x]⟩]
theorem line_size (n : Int) : lineS S0 n (wSize 48) = (⟨1, 1, 0, true, [], [], []⟩, 0) ∧ lineS S0 n (wSize 49) = (⟨1, 1, 1, true, [], [], []⟩, 0) := by
  have e : ∀ x, kindOf ((wSize x).getD 0 ⟨#[]⟩) = some 0 := fun x => by
    show kindOf ⟨#[115, 105, 122, 101]⟩ = some 0
    decide
  constructor
  · rw [lineS, e]
    simp [wSize, sizeS, nAt, S0, num_one, num_zero]
  · rw [lineS, e]
    simp [wSize, sizeS, nAt, S0, num_one, num_zero]
/-- no I0 L R -/
def wNo : List ByteArray := [⟨#[110, 111]⟩, ⟨#[73, 48]⟩, ⟨#[76]⟩, ⟨#[82]⟩]
def cNo : Con := ⟨0, ⟨0, 0⟩, ⟨#[76]⟩, ⟨#[82]⟩⟩
theorem adr_I0 (i q m : Int) (hi : 0 < i) : adrE i q m [73, 48] = 0 := by
  have e : addrParse [73, 48] = (0, 0, 0) := by decide +kernel
  unfold adrE
  rw [e]
  simp [chkAddr, widthOf]
  omega
theorem lastR_append (S : PSt) (l : List Rung) (x : Rung) (h : S.rungs = l ++ [x]) : lastR S = x := by
  unfold lastR
  rw [h]
  simp [PPrinterRoundTrip.rd_T53, List.getD]
theorem line_no {S : PSt} (n : Int) {l : List Rung} {x : Rung} (hs : S.sized = true) (hi : 0 < S.i) (h : S.rungs = l ++ [x]) (h2 : x.f2 = []) (h3 : x.f3.toList.isEmpty = true) (h1 : x.f1.length < 256) :
    lineS S n wNo = (⟨S.i, S.q, S.m, S.sized, l ++ [⟨x.f0, x.f1 ++ [cNo], x.f2, x.f3⟩], S.lines, S.jumps⟩, 0) := by
  have e : kindOf (wNo.getD 0 ⟨#[]⟩) = some 3 := by decide
  have e1 : kwIx kwC ⟨#[110, 111]⟩ = 0 := by decide +kernel
  have e2 : addrParse [73, 48] = (0, 0, 0) := by decide +kernel
  have e3 : isNm [76] = true := by decide
  have e4 : isNm [82] = true := by decide
  have e5 := adr_I0 S.i S.q S.m hi
  have hl := lastR_append S l x h
  have hlen : S.rungs.length = l.length + 1 := by rw [h]; simp
  have hset : ∀ y, S.rungs.set (S.rungs.length - 1) y = l ++ [y] := fun y => by
    rw [hlen, h]
    simp
  rw [lineS, e]
  simp only []
  rw [if_neg (by simp [wNo]), if_neg (by simp [hs, hlen]), conS, hl]
  rw [if_neg (by simp [h2, h3]), if_neg (by omega)]
  rw [show ((wNo.getD 1 ⟨#[]⟩).data.toList) = [73, 48] from rfl, e5, if_neg (by simp)]
  rw [if_neg (by simp [wNo, e3, e4]), e2, hset]
  simp [wNo, cNo, e1]
/-- out Q0 -/
def wOut : List ByteArray := [⟨#[111, 117, 116]⟩, ⟨#[81, 48]⟩]
def cOut : Coil := ⟨0, ⟨1, 0⟩⟩
theorem line_out {S : PSt} (n : Int) {l : List Rung} {x : Rung} (hs : S.sized = true) (hq : 0 < S.q) (h : S.rungs = l ++ [x]) (h3 : x.f3.toList.isEmpty = true) (h1 : x.f2.length < 16) :
    lineS S n wOut = (⟨S.i, S.q, S.m, S.sized, l ++ [⟨x.f0, x.f1, x.f2 ++ [cOut], x.f3⟩], S.lines, S.jumps⟩, 0) := by
  have e : kindOf (wOut.getD 0 ⟨#[]⟩) = some 4 := by decide
  have e1 : kwIx kwO ⟨#[111, 117, 116]⟩ = 0 := by decide +kernel
  have e2 : addrParse [81, 48] = (1, 0, 0) := by decide +kernel
  have e5 : adrE S.i S.q S.m [81, 48] = 0 := by
    unfold adrE
    rw [e2]
    simp [chkAddr, widthOf]
    omega
  have hl := lastR_append S l x h
  have hlen : S.rungs.length = l.length + 1 := by rw [h]; simp
  have hset : ∀ y, S.rungs.set (S.rungs.length - 1) y = l ++ [y] := fun y => by
    rw [hlen, h]
    simp
  rw [lineS, e]
  simp only []
  rw [if_neg (by simp [wOut]), if_neg (by simp [hs, hlen]), coilS, hl]
  rw [if_neg (by simp [h3]), if_neg (by omega)]
  rw [show ((wOut.getD 1 ⟨#[]⟩).data.toList) = [81, 48] from rfl, e5, if_neg (by simp)]
  rw [e2, if_neg (by simp), hset]
  simp [wOut, cOut, e1]
/-- rung, rung x -/
def wRung : List ByteArray := [⟨#[114, 117, 110, 103]⟩]
theorem line_rung {S : PSt} (n : Int) (hs : S.sized = true) (h : S.rungs.length < 64) : lineS S n wRung = (⟨S.i, S.q, S.m, S.sized, S.rungs ++ [newR ⟨#[]⟩], S.lines ++ [n], S.jumps ++ [0]⟩, 0) := by
  have e : kindOf (wRung.getD 0 ⟨#[]⟩) = some 1 := by decide
  rw [lineS, e]
  simp only []
  rw [if_neg (by simp [wRung]), if_neg (by simp [hs]), beginS, if_neg (by simp [wRung]), if_neg (by simp [wRung]), beginT, if_neg (by omega)]
  simp [labOf, wRung]
end Go.Proofs.YtolmkdhgnganaaaGreatDoor.H
namespace Go.Proofs.YtolmkdhgnganaaaGreatDoor.H
open Go Go.RowKit Go.Proofs Go.Proofs.YtolmkdhgnganaaaGreatDoorW.PrintWords Go.Proofs.YtolmkdhgnganaaaGreatDoor.Sp
/-- size 1 1 0 -/
def lSize : List UInt8 := [115, 105, 122, 101, 32, 49, 32, 49, 32, 48]
def lRung : List UInt8 := [114, 117, 110, 103]
def lNo : List UInt8 := [110, 111, 32, 73, 48, 32, 76, 32, 82]
def lOut : List UInt8 := [111, 117, 116, 32, 81, 48]
theorem l_words : wds lSize = wSize 48 ∧ wds lRung = wRung ∧ wds lNo = wNo ∧ wds lOut = wOut := by decide
theorem l_plain : isPl (bareL lSize) = true ∧ isPl (bareL lRung) = true ∧ isPl (bareL lNo) = true ∧ isPl (bareL lOut) = true := by decide
/-- The states behind k rungs, k contacts, k coils. -/
def stR (k : Nat) : PSt := ⟨1, 1, 0, true, List.replicate k (newR ⟨#[]⟩), (List.range k).map fun x : Nat => 2 + (x : Int), List.replicate k 0⟩
def stC (k : Nat) : PSt := ⟨1, 1, 0, true, [] ++ [⟨⟨#[]⟩, List.replicate k cNo, [], ⟨#[]⟩⟩], [2], [0]⟩
theorem stR_step (k : Nat) (h : k < 64) : lineS (stR k) (2 + (k : Int)) wRung = (stR (k + 1), 0) := by
  rw [line_rung _ rfl (by simpa [stR] using h)]
  simp only [stR, List.replicate_succ', List.range_succ, List.map_append, List.map_cons, List.map_nil]
theorem stC_step (k : Nat) (h : k < 256) : lineS (stC k) (3 + (k : Int)) wNo = (stC (k + 1), 0) := by
  rw [line_no (l := []) (x := ⟨⟨#[]⟩, List.replicate k cNo, [], ⟨#[]⟩⟩) _ rfl (by simp [stC]) rfl rfl isE0 (by simpa using h)]
  simp only [stC, List.replicate_succ']
theorem st_size {r : List (List UInt8)} : runP S0 1 (lSize :: r) = runP (stR 0) 2 r := by
  rw [runP_ok l_words.1 (by decide) (line_size 1).1]
  rfl
theorem st_head {r : List (List UInt8)} : runP S0 1 (lSize :: lRung :: r) = runP (stC 0) 3 r := by
  rw [st_size, runP_ok l_words.2.1 (by decide) (show lineS (stR 0) 2 wRung = (stR 1, 0) from stR_step 0 (by omega))]
  rfl
end Go.Proofs.YtolmkdhgnganaaaGreatDoor.H
namespace Go.Proofs.YtolmkdhgnganaaaGreatDoor.H
open Go Go.RowKit Go.Proofs Go.Proofs.YtolmkdhgnganaaaGreatDoorW.PrintWords Go.Proofs.YtolmkdhgnganaaaGreatDoor.Sp
def ex10T : ByteArray := ⟨#[115, 105, 122, 101, 32, 49, 32, 49, 32, 48, 10, 114, 117, 110, 103, 10, 110, 111, 32, 73, 48, 32, 76, 32, 82, 10, 111, 117, 116, 32, 81, 48, 10]⟩
def ex10R : Rung := ⟨⟨#[]⟩, [cNo], [cOut], ⟨#[]⟩⟩
theorem ex_plain : parseP ex10T = (⟨1, 1, 0, true, [ex10R], [2], [0]⟩, 0, 0) := by
  have e : spl ex10T.data.toList = [lSize, lRung, lNo, lOut, []] := by decide
  rw [parseP_spl (by decide), e, parseL_run (fun p hp => by
    simp only [List.mem_cons, List.not_mem_nil, or_false] at hp
    rcases hp with rfl | rfl | rfl | rfl | rfl
    · exact l_plain.1
    · exact l_plain.2.1
    · exact l_plain.2.2.1
    · exact l_plain.2.2.2
    · decide), st_head, runP_ok l_words.2.2.1 (by decide) (show lineS (stC 0) 3 wNo = (stC 1, 0) from stC_step 0 (by omega))]
  rw [runP_ok l_words.2.2.2 (by decide) (line_out (l := []) (x := ⟨⟨#[]⟩, [cNo], [], ⟨#[]⟩⟩) _ rfl (by show (0 : Int) < 1; omega) rfl isE0 (by show (0 : Nat) < 16; omega)), runP_end, if_pos rfl]
  exact endS_plain rfl (fun r hr => by obtain rfl := List.mem_singleton.1 hr; exact isE0)
/-- A row of numbers: its cells. -/
theorem ints_cell {w : World} {B : Nat} {b n c : Nat} {ws : List Int} (h : (Kd.int .i64).R 3 w B (fun _ => True) (.slice (some ⟨b, 0, none⟩) n c) ws) (j : Nat) (hj : j < n) : w.cell? ⟨b, j, none⟩ = some (.int .i64 (ws.getD j 0)) := by
  obtain ⟨hn, _, hC⟩ := Kd.R_reads' h
  subst hn
  obtain ⟨ad, c', e, hl, hK, hcc⟩ := Kd.C_get hC 0 (j : Int) (by omega) (by omega)
  cases e
  have e1 : c' = [.int .i64 (ws.getD j 0)] := by simpa [Kd.int, Kd.scalar] using hK
  subst e1
  have h1 := hcc 0 _ rfl
  have e3 : (⟨b, 0, none⟩ : Addr).add ((j : Int).toNat * (Kd.int .i64).sz + 0) = ⟨b, j, none⟩ := by
    have : (j : Int).toNat * (Kd.int .i64).sz + 0 = j := by simp [Kd.int, Kd.scalar]
    rw [this]
    unfold Addr.add; split <;> simp_all
  rw [e3] at h1
  exact h1
theorem example10_b (w : World) : Calls Tryz.prog 44 #[] w fun e w' => e = .returned (.string ex10T) ∧ w = w' := by
  go_enter Tryz.func44, Tryz.ntmps44
  go_wp2
  go_ret
  exact ⟨rfl, rfl⟩
set_option maxHeartbeats 4000000 in
set_option maxRecDepth 100000 in
theorem alive10_b (w : World) (hL : Lets w) (hE : Errs w) (hK : Kws w) (hG : LexG w) : Calls Tryz.prog 14 #[] w (RetB w (.bool true)) := by
  have HP := Aside0.mk (parse_b ex10T w hL hE hK hG)
  clear hL hE hK hG
  go_enter Tryz.func14, Tryz.ntmps14
  go_wp2_with fail
  refine (example10_b w).mono ?_
  rintro e w1 ⟨rfl, rfl⟩
  go_wp2_with fail
  refine HP.out.mono ?_
  rintro e w1 ⟨hb, hr⟩
  rw [ex_plain] at hr
  rcases hr with ⟨h0, _⟩ | ⟨-, vr, vl, rfl, hS, hl, -, -, -⟩
  · exact absurd rfl h0
  · change Kd.S kRung 53 w1 w.heap.size (fun _ => True) vr [ex10R] at hS
    change (Kd.int .i64).R 3 w1 w.heap.size (fun _ => True) vl [2] at hl
    obtain ⟨gr, c, rfl, -, -, -⟩ := Kd.S_form hS (by show 0 < 1; omega)
    obtain ⟨g, cl, rfl, -, -, -⟩ := Kd.R_form hl (by show 0 < 1; omega)
    have q0 : w1.cell? ⟨g, 0, none⟩ = some (.int .i64 2) := ints_cell hl 0 (by show 0 < 1; omega)
    obtain ⟨a, c1, s1, -, -, -, -, -, e4, -⟩ := S_con hS 0 (by omega) (by show (0 : Int) < 1; omega) 0 (by omega) (by show (0 : Int) < 1; omega)
    obtain ⟨_, _, A2, c2, -, s2, -, -⟩ := S_cells hS 0 (by omega) (by show (0 : Int) < 1; omega)
    change w1.cell? ⟨gr, 1, none⟩ = some (.slice (some ⟨a, 0, none⟩) 1 c1) at s1
    change w1.cell? ⟨gr, 2, none⟩ = some (.slice A2 1 c2) at s2
    change w1.cell? ⟨a, 4, none⟩ = some (.string ⟨#[82]⟩) at e4
    have lt0 : g < w1.heap.size := World.block_lt_of_cell? w1 _ q0
    have lt1 : gr < w1.heap.size := World.block_lt_of_cell? w1 _ s1
    have lt2 : a < w1.heap.size := World.block_lt_of_cell? w1 _ e4
    have FB := Aside0.mk (below_alloc hb (.cells #[.int .i64 1, .int .i64 1, .int .i64 0, .slice (some ⟨gr, 0, none⟩) 1 c] 24))
    clear hS hl hb HP
    have r82 : ((⟨#[82]⟩ : ByteArray).toList == ByteArray.toList ⟨#[82]⟩) = true := by simp
    simp only []
    go_wp2
    go_ret
    exact ⟨rfl, FB.out⟩
end Go.Proofs.YtolmkdhgnganaaaGreatDoor.H
namespace Go.Proofs.YtolmkdhgnganaaaGreatDoor.H
open Go Go.RowKit Go.Proofs Go.Proofs.YtolmkdhgnganaaaGreatDoorW.PrintWords Go.Proofs.YtolmkdhgnganaaaGreatDoor.Sp
theorem endS_zero {S : PSt} (h : (endS S).2.2 = 0) : (endS S).2.1 = 0 := by
  unfold endS at h ⊢
  by_cases h0 : S.sized = false
  · rw [if_pos h0] at h; cases h
  · rw [if_neg h0] at h ⊢
    cases hk : firstN (fun k => jbAt S.rungs (k : Int)) S.rungs.length with
    | some k => rw [hk] at h; cases h
    | none => rfl
theorem parseP_zero {s : ByteArray} (h : (parseP s).2.2 = 0) : (parseP s).2.1 = 0 := by
  unfold parseP at h ⊢
  by_cases h0 : 65536 < s.size
  · rw [if_pos h0] at h; cases h
  · rw [if_neg h0] at h ⊢
    cases hk : badLine s with
    | some k => rw [hk] at h; cases h
    | none =>
      rw [hk] at h
      dsimp only at h ⊢
      by_cases h1 : (runS S0 (lnsOf (cnts s))).2.2 = 0
      · rw [if_pos h1] at h ⊢; exact endS_zero h
      · rw [if_neg h1] at h; exact absurd h h1
end Go.Proofs.YtolmkdhgnganaaaGreatDoor.H
namespace Go.Proofs.YtolmkdhgnganaaaGreatDoor.H
open Go Go.RowKit Go.Proofs Go.Proofs.YtolmkdhgnganaaaGreatDoorW.PrintWords Go.Proofs.YtolmkdhgnganaaaGreatDoor.Sp
def conEq (a b : Con) : Bool := a.f0 == b.f0 && ((a.f1.f0 == b.f1.f0 && (a.f1.f1 == b.f1.f1)) && (seq a.f2 b.f2 && (seq a.f3 b.f3)))
def coilEq (a b : Coil) : Bool := a.f0 == b.f0 && (a.f1.f0 == b.f1.f0 && (a.f1.f1 == b.f1.f1))
def eqL {α : Type} (e : α → α → Bool) (xs ys : List α) : Bool := decide (xs.length = ys.length) && (xs.zip ys).all fun p => e p.1 p.2
theorem eqL_len {α : Type} {e : α → α → Bool} {xs ys : List α} (h : xs.length ≠ ys.length) : eqL e xs ys = false := by simp [eqL, h]
theorem zip_at {α : Type} {xs ys : List α} {j : Nat} (h1 : j < xs.length) (h2 : j < ys.length) : (xs[j], ys[j]) ∈ xs.zip ys := by
  rw [List.mem_iff_getElem]
  exact ⟨j, by simp; omega, by simp⟩
theorem eqL_at {α : Type} {e : α → α → Bool} {xs ys : List α} {z : α} {k : Int} (h0 : 0 ≤ k) (h1 : k < xs.length) (hl : xs.length = ys.length) (h : e (xs.getD k.toNat z) (ys.getD k.toNat z) = false) : eqL e xs ys = false := by
  have n1 : k.toNat < xs.length := by omega
  have n2 : k.toNat < ys.length := by omega
  have e1 : xs.getD k.toNat z = xs[k.toNat] := by simp [List.getD, n1]
  have e2 : ys.getD k.toNat z = ys[k.toNat] := by simp [List.getD, n2]
  rw [e1, e2] at h
  unfold eqL
  rw [Bool.and_eq_false_iff]
  right
  rw [List.all_eq_false]
  exact ⟨_, zip_at n1 n2, by rw [h]; simp⟩
theorem eqL_all {α : Type} {e : α → α → Bool} {xs ys : List α} {z : α} (hl : xs.length = ys.length) (h : ∀ k : Int, 0 ≤ k → k < xs.length → e (xs.getD k.toNat z) (ys.getD k.toNat z) = true) : eqL e xs ys = true := by
  unfold eqL
  rw [Bool.and_eq_true]
  refine ⟨decide_eq_true hl, List.all_eq_true.2 fun p hp => ?_⟩
  obtain ⟨j, hj, rfl⟩ := List.getElem_of_mem hp
  rw [List.length_zip] at hj
  have n1 : j < xs.length := by omega
  have n2 : j < ys.length := by omega
  have := h (j : Int) (by omega) (by omega)
  rw [Int.toNat_natCast] at this
  have e1 : xs.getD j z = xs[j] := by simp [List.getD, n1]
  have e2 : ys.getD j z = ys[j] := by simp [List.getD, n2]
  rw [e1, e2] at this
  simpa using this
def rungEq (a b : Rung) : Bool := ((seq a.f0 b.f0 && seq a.f3 b.f3) && eqL conEq a.f1 b.f1) && eqL coilEq a.f2 b.f2
theorem eqAd (d : Nat) (w : World) (x0 y0 : Int) (x1 y1 : Int) :
    (Op.equalIn (d + 2) 57 (.agg #[.int .i64 x0, .int .i64 x1]) (.agg #[.int .i64 y0, .int .i64 y1])).run Tryz.prog w = .ok (x0 == y0 && (x1 == y1)) w := by
  refine eqA_of Tryz.underlying57 (by kernel_rfl) ?_
  refine eqf_cons (by rfl) (by go_simp; rfl) (by go_simp; rfl) (by go_simp) ?_
  exact eqf_last (by rfl) (by go_simp; rfl) (by go_simp; rfl) (by go_simp)
theorem eqCon (d : Nat) (w : World) (a b : Con) :
    (Op.equalIn (d + 3) 59 (.agg #[.int .i64 a.f0, .int .i64 a.f1.f0, .int .i64 a.f1.f1, .string a.f2, .string a.f3]) (.agg #[.int .i64 b.f0, .int .i64 b.f1.f0, .int .i64 b.f1.f1, .string b.f2, .string b.f3])).run Tryz.prog w = .ok (conEq a b) w := by
  unfold conEq seq
  refine eqA_of Tryz.underlying59 (by kernel_rfl) ?_
  refine eqf_cons (by rfl) (by go_simp; rfl) (by go_simp; rfl) (by go_simp) ?_
  refine eqf_cons (by rfl) (by go_simp) (by go_simp) (eqAd (d + 0) w _ _ _ _) ?_
  refine eqf_cons (by rfl) (by go_simp; rfl) (by go_simp; rfl) (by go_simp) ?_
  exact eqf_last (by rfl) (by go_simp; rfl) (by go_simp; rfl) (by go_simp)
theorem eqCoil (d : Nat) (w : World) (a b : Coil) :
    (Op.equalIn (d + 3) 69 (.agg #[.int .i64 a.f0, .int .i64 a.f1.f0, .int .i64 a.f1.f1]) (.agg #[.int .i64 b.f0, .int .i64 b.f1.f0, .int .i64 b.f1.f1])).run Tryz.prog w = .ok (coilEq a b) w := by
  unfold coilEq
  refine eqA_of Tryz.underlying69 (by kernel_rfl) ?_
  refine eqf_cons (by rfl) (by go_simp; rfl) (by go_simp; rfl) (by go_simp) ?_
  exact eqf_last (by rfl) (by go_simp) (by go_simp) (eqAd (d + 0) w _ _ _ _)
/-- Sizes. -/
def szEq (i q m i2 q2 m2 : Int) : Bool := i == i2 && (q == q2 && (m == m2 && true))
theorem eqSz (d : Nat) (w : World) (i q m i2 q2 m2 : Int) :
    (Op.equalIn (d + 2) 86 (.agg #[.int .i64 i, .int .i64 q, .int .i64 m, .int .i64 0]) (.agg #[.int .i64 i2, .int .i64 q2, .int .i64 m2, .int .i64 0])).run Tryz.prog w = .ok (szEq i q m i2 q2 m2) w := by
  unfold szEq
  refine eqA_of Tryz.underlying86 (by kernel_rfl) ?_
  refine eqf_cons (by rfl) (by go_simp; rfl) (by go_simp; rfl) (by go_simp) ?_
  refine eqf_cons (by rfl) (by go_simp; rfl) (by go_simp; rfl) (by go_simp) ?_
  refine eqf_cons (by rfl) (by go_simp; rfl) (by go_simp; rfl) (by go_simp) ?_
  exact eqf_last (by rfl) (by go_simp; rfl) (by go_simp; rfl) (by go_simp)
attribute [local go_sem high] eqCon eqCoil eqSz
end Go.Proofs.YtolmkdhgnganaaaGreatDoor.H
namespace Go.Proofs.YtolmkdhgnganaaaGreatDoor.H
open Go Go.RowKit Go.Proofs Go.Proofs.YtolmkdhgnganaaaGreatDoorW.PrintWords Go.Proofs.YtolmkdhgnganaaaGreatDoorW.PrintLast Go.Proofs.YtolmkdhgnganaaaGreatDoorW.PrintMore Go.Proofs.YtolmkdhgnganaaaGreatDoor.Sp
attribute [local go_sem high] eqSz
/-- printer.Equal. -/
def ladEq (i q m : Int) (l : List Rung) (i2 q2 m2 : Int) (k : List Rung) : Bool := szEq i q m i2 q2 m2 && eqL rungEq l k
end Go.Proofs.YtolmkdhgnganaaaGreatDoor.H
namespace Go.Proofs.YtolmkdhgnganaaaGreatDoor.H
open Go Go.RowKit Go.Proofs Go.Proofs.YtolmkdhgnganaaaGreatDoorW.PrintWords Go.Proofs.YtolmkdhgnganaaaGreatDoor.Sp
attribute [local go_sem high] eqCon eqCoil
structure SmF (w : World) (ca cb : Array Value) (wr : World) : Prop where
  b : Below w.heap.size w wr
  ka : wr.heap[w.heap.size]? = some (.cells ca 24 (0, 0))
  kb : wr.heap[w.heap.size + 1]? = some (.cells cb 24 (0, 0))
theorem SmF.below {w : World} {ca cb : Array Value} {wr w1 : World} (h : SmF w ca cb wr) (hb : Below wr.heap.size wr w1) : SmF w ca cb w1 := ⟨below_step h.b hb, blk_below h.ka hb, blk_below h.kb hb⟩
theorem SmF.new (w : World) (ca cb : Array Value) : SmF w ca cb ((w.alloc (.cells ca 24)).alloc (.cells cb 24)) :=
  ⟨below_alloc (below_alloc (Below.refl _ _) _) _, blk_alloc (blk_new _ _) _, by have := blk_new (w.alloc (.cells ca 24)) (.cells cb 24); simpa using this⟩
structure SmG (w : World) (ca cb : Array Value) (gx : Nat) (cx cy : Array Value) (wr : World) : Prop where
  f : SmF w ca cb wr
  kx : wr.heap[gx]? = some (.cells cx 53 (0, 0))
  ky : wr.heap[gx + 1]? = some (.cells cy 53 (0, 0))
theorem SmG.below {w : World} {ca cb : Array Value} {gx : Nat} {cx cy : Array Value} {wr w1 : World} (h : SmG w ca cb gx cx cy wr) (hb : Below wr.heap.size wr w1) : SmG w ca cb gx cx cy w1 := ⟨h.f.below hb, blk_below h.kx hb, blk_below h.ky hb⟩
theorem SmG.new {w : World} {ca cb : Array Value} {wr : World} (h : SmF w ca cb wr) (cx cy : Array Value) : SmG w ca cb wr.heap.size cx cy ((wr.alloc (.cells cx 53)).alloc (.cells cy 53)) :=
  ⟨h.below (below_alloc (below_alloc (Below.refl _ _) _) _), blk_alloc (blk_new _ _) _, by have := blk_new (wr.alloc (.cells cx 53)) (.cells cy 53); simpa using this⟩
theorem SmG.drewN {w : World} {ca cb : Array Value} {gx : Nat} {cx cy : Array Value} {wr : World} (h : SmG w ca cb gx cx cy wr) (n : Nat) : SmG w ca cb gx cx cy (wr.drewN n) := h.below (pw_below_drewN (Below.refl _ _) n)
theorem rungEq_lab {x y : Rung} (h : (x.f0.toList == y.f0.toList) = false) : rungEq x y = false := by simp only [rungEq, seq, h, Bool.false_and]
theorem rungEq_jmp {x y : Rung} (h : (x.f3.toList == y.f3.toList) = false) : rungEq x y = false := by simp only [rungEq, seq, h, Bool.and_false, Bool.false_and]
theorem rungEq_con {x y : Rung} (h : eqL conEq x.f1 y.f1 = false) : rungEq x y = false := by simp only [rungEq, h, Bool.and_false, Bool.false_and]
theorem rungEq_coil {x y : Rung} (h : eqL coilEq x.f2 y.f2 = false) : rungEq x y = false := by simp only [rungEq, h, Bool.and_false]
theorem rungEq_all {x y : Rung} (h0 : (x.f0.toList == y.f0.toList) = true) (h3 : (x.f3.toList == y.f3.toList) = true) (h1 : eqL conEq x.f1 y.f1 = true) (h2 : eqL coilEq x.f2 y.f2 = true) : rungEq x y = true := by simp only [rungEq, seq, h0, h1, h2, h3, Bool.and_self]
set_option maxHeartbeats 2000000 in
set_option maxRecDepth 100000 in
theorem same_b (i q m : Int) (A : Option Addr) (c : Nat) (l : List Rung) (i2 q2 m2 : Int) (B : Option Addr) (d : Nat) (k2 : List Rung) (w : World) (h1 : Kd.C kRung w A l.length l) (h2 : Kd.C kRung w B k2.length k2) (hc1 : l.length ≤ c) (hc2 : k2.length ≤ d) :
    Calls Tryz.prog 18 #[.agg #[.int .i64 i, .int .i64 q, .int .i64 m, .slice A l.length c], .agg #[.int .i64 i2, .int .i64 q2, .int .i64 m2, .slice B k2.length d]] w (RetB w (.bool (ladEq i q m l i2 q2 m2 k2))) := by
  have hmx := Kd.C_max h1
  have GA := Aside0.mk h1
  have GB := Aside0.mk h2
  clear h1 h2
  generalize hV : ladEq i q m l i2 q2 m2 k2 = V
  have HV := Aside0.mk hV
  clear hV
  have F0 := Aside0.mk (SmF.new w #[.int .i64 i, .int .i64 q, .int .i64 m, .slice A l.length c] #[.int .i64 i2, .int .i64 q2, .int .i64 m2, .slice B k2.length d])
  by_cases ei : i = i2
  · by_cases eq_ : q = q2
    · by_cases em : m = m2
      · by_cases el : l.length = k2.length
        · have hel : ((l.length : Int) != (k2.length : Int)) = false := by simp [el]
          subst ei eq_ em
          have hsz : szEq i q m i q m = true := by simp [szEq]
          have HV2 : Aside0 (eqL rungEq l k2 = V) := ⟨by rw [← HV.out, ladEq, hsz]; rfl⟩
          have HEl := Aside0.mk el
          have hel2 : ((l.length : Int) = (k2.length : Int)) := by omega
          clear HV hsz el
          go_enter Tryz.func18, Tryz.ntmps18
          go_wp2
          go_loopw [5] (fun cv w' => ∃ k : Int, cv = .int .i64 k ∧ 0 ≤ k ∧ k ≤ l.length ∧ Aside0 (SmF w #[.int .i64 i, .int .i64 q, .int .i64 m, .slice A l.length c] #[.int .i64 i, .int .i64 q, .int .i64 m, .slice B k2.length d] w') ∧ Aside0 (∀ j : Int, 0 ≤ j → j < k → rungEq (PPrinterRoundTrip.rd_T53 l j) (PPrinterRoundTrip.rd_T53 k2 j) = true)) (fun cv _ => l.length - (intOf cv).toNat)
          case atStart => exact ⟨0, rfl, by omega, by omega, F0, ⟨fun j h1 h2 => by omega⟩⟩
          case round =>
            clear F0
            obtain ⟨k, rfl, b0, b1, HF, HA⟩ := hrel
            have la3 := blk_cell HF.out.ka 3
            have lb3 := blk_cell HF.out.kb 3
            have lta := blk_lt HF.out.ka
            have ltb := blk_lt HF.out.kb
            by_cases hk : k < l.length
            · have hk2 : k < k2.length := by omega
              obtain ⟨ad, A1, c1, A2, c2, e1, x0, x1, x2, x3, l1, i1, l2, i2_⟩ := PPrinterRoundTrip.at_T53 GA.out k b0 hk
              obtain ⟨ad2, B1, d1, B2, d2, e2, y0, y1, y2, y3, m1, j1, m2_, j2⟩ := PPrinterRoundTrip.at_T53 GB.out k b0 hk2
              subst e1
              subst e2
              replace x0 := pw_cell_below HF.out.b x0
              replace x1 := pw_cell_below HF.out.b x1
              replace x2 := pw_cell_below HF.out.b x2
              replace x3 := pw_cell_below HF.out.b x3
              replace y0 := pw_cell_below HF.out.b y0
              replace y1 := pw_cell_below HF.out.b y1
              replace y2 := pw_cell_below HF.out.b y2
              replace y3 := pw_cell_below HF.out.b y3
              have hwr : wrap64 (k + 1) = k + 1 := w64 (by omega) (by omega)
              have hfa : rungEq (PPrinterRoundTrip.rd_T53 l k) (PPrinterRoundTrip.rd_T53 k2 k) = false → V = false := fun hq => HV2.out.symm.trans (eqL_at b0 hk HEl.out hq)
              have htr : rungEq (PPrinterRoundTrip.rd_T53 l k) (PPrinterRoundTrip.rd_T53 k2 k) = true → ∀ j : Int, 0 ≤ j → j < k + 1 → rungEq (PPrinterRoundTrip.rd_T53 l j) (PPrinterRoundTrip.rd_T53 k2 j) = true := by
                intro hq j j0 j1
                by_cases hj : j < k
                · exact HA.out j j0 hj
                · obtain rfl : j = k := by omega
                  exact hq
              have HFa := Aside0.mk hfa
              have HTr := Aside0.mk htr
              clear hfa htr
              generalize PPrinterRoundTrip.rd_T53 l k = x at *
              generalize PPrinterRoundTrip.rd_T53 k2 k = y at *
              have hm1 := Kd.C_max i1
              have hm2 := Kd.C_max i2_
              have G1 := Aside0.mk i1
              have G2 := Aside0.mk i2_
              have J1 := Aside0.mk j1
              have J2 := Aside0.mk j2
              clear i1 i2_ j1 j2 l1 l2 m1 m2_
              have HG := Aside0.mk (SmG.new HF.out #[.string x.f0, .slice A1 x.f1.length c1, .slice A2 x.f2.length c2, .string x.f3] #[.string y.f0, .slice B1 y.f1.length d1, .slice B2 y.f2.length d2, .string y.f3])
              have lt0 := World.block_lt_of_cell? _ _ y0
              cases q0 : (x.f0.toList == y.f0.toList) with
              | false =>
                have hV := HFa.out (rungEq_lab q0)
                subst hV
                have q0' : (x.f0.toList != y.f0.toList) = true := by simpa [bne] using q0
                have FB := HG.out.f.b
                go_wp2
                go_ret
                exact ⟨rfl, FB⟩
              | true =>
                have q0' : (x.f0.toList != y.f0.toList) = false := by simp [bne, q0]
                cases q3 : (x.f3.toList == y.f3.toList) with
                | false =>
                  have hV := HFa.out (rungEq_jmp q3)
                  subst hV
                  have q3' : (x.f3.toList != y.f3.toList) = true := by simpa [bne] using q3
                  have FB := HG.out.f.b
                  go_wp2
                  go_ret
                  exact ⟨rfl, FB⟩
                | true =>
                  have q3' : (x.f3.toList != y.f3.toList) = false := by simp [bne, q3]
                  by_cases n1 : x.f1.length = y.f1.length
                  · have n1' : ((x.f1.length : Int) != (y.f1.length : Int)) = false := by simp [n1]
                    by_cases n2 : x.f2.length = y.f2.length
                    · have n2' : ((x.f2.length : Int) != (y.f2.length : Int)) = false := by simp [n2]
                      have HN1 := Aside0.mk n1
                      have HN2 := Aside0.mk n2
                      have hn1 : ((x.f1.length : Int) = (y.f1.length : Int)) := by omega
                      have hn2 : ((x.f2.length : Int) = (y.f2.length : Int)) := by omega
                      clear n1 n2
                      have HQ := Aside0.mk (And.intro q0 q3)
                      go_wp2
                      clear q0 q3 q0' q3' x0 x1 x2 x3 y0 y1 y2 y3 lt0 la3 lb3 lta ltb HF
                      generalize wr.heap.size = gx at HG ⊢
                      go_loopw [8] (fun cv w' => ∃ j : Int, cv = .int .i64 j ∧ 0 ≤ j ∧ j ≤ x.f1.length ∧ Aside0 (SmG w #[.int .i64 i, .int .i64 q, .int .i64 m, .slice (some ad) l.length c] #[.int .i64 i, .int .i64 q, .int .i64 m, .slice (some ad2) k2.length d] gx #[.string x.f0, .slice A1 x.f1.length c1, .slice A2 x.f2.length c2, .string x.f3] #[.string y.f0, .slice B1 y.f1.length d1, .slice B2 y.f2.length d2, .string y.f3] w') ∧ Aside0 (∀ j' : Int, 0 ≤ j' → j' < j → conEq (PPrinterRoundTrip.rd_T59 x.f1 j') (PPrinterRoundTrip.rd_T59 y.f1 j') = true)) (fun cv _ => x.f1.length - (intOf cv).toNat)
                      case atStart => exact ⟨0, rfl, by omega, by omega, HG, ⟨fun j h1 h2 => by omega⟩⟩
                      case round =>
                        clear HG
                        obtain ⟨j, rfl, j0, j1, HG, HJ⟩ := hrel
                        have r1 := blk_cell HG.out.kx 1
                        have r2 := blk_cell HG.out.kx 2
                        have s1 := blk_cell HG.out.ky 1
                        have s2 := blk_cell HG.out.ky 2
                        by_cases hj : j < x.f1.length
                        · have hj2 : j < y.f1.length := by omega
                          obtain ⟨ad3, e1, u0, u1, u2, u3, u4⟩ := PPrinterRoundTrip.at_T59 G1.out j j0 hj
                          obtain ⟨ad4, e2, v0, v1, v2, v3, v4⟩ := PPrinterRoundTrip.at_T59 J1.out j j0 hj2
                          subst e1
                          subst e2
                          replace u0 := pw_cell_below HG.out.f.b u0
                          replace u1 := pw_cell_below HG.out.f.b u1
                          replace u2 := pw_cell_below HG.out.f.b u2
                          replace u3 := pw_cell_below HG.out.f.b u3
                          replace u4 := pw_cell_below HG.out.f.b u4
                          replace v0 := pw_cell_below HG.out.f.b v0
                          replace v1 := pw_cell_below HG.out.f.b v1
                          replace v2 := pw_cell_below HG.out.f.b v2
                          replace v3 := pw_cell_below HG.out.f.b v3
                          replace v4 := pw_cell_below HG.out.f.b v4
                          have hjr : wrap64 (j + 1) = j + 1 := w64 (by omega) (by omega)
                          have hfa : conEq (PPrinterRoundTrip.rd_T59 x.f1 j) (PPrinterRoundTrip.rd_T59 y.f1 j) = false → V = false := fun hq => HFa.out (rungEq_con (eqL_at j0 hj HN1.out hq))
                          have htr : conEq (PPrinterRoundTrip.rd_T59 x.f1 j) (PPrinterRoundTrip.rd_T59 y.f1 j) = true → ∀ j' : Int, 0 ≤ j' → j' < j + 1 → conEq (PPrinterRoundTrip.rd_T59 x.f1 j') (PPrinterRoundTrip.rd_T59 y.f1 j') = true := by
                            intro hq j' a0 a1
                            by_cases hj' : j' < j
                            · exact HJ.out j' a0 hj'
                            · obtain rfl : j' = j := by omega
                              exact hq
                          have HFa2 := Aside0.mk hfa
                          have HTr2 := Aside0.mk htr
                          clear hfa htr
                          generalize PPrinterRoundTrip.rd_T59 x.f1 j = xc at *
                          generalize PPrinterRoundTrip.rd_T59 y.f1 j = yc at *
                          cases hq : conEq xc yc with
                          | false =>
                            have hV := HFa2.out hq
                            subst hV
                            go_wp2
                            go_quiet (fail)
                            go_wp2
                            go_ret
                            exact ⟨rfl, pw_below_drewN HG.out.f.b _⟩
                          | true =>
                            have HT := Aside0.mk (HTr2.out hq)
                            go_wp2
                            go_quiet (fail)
                            go_wp2
                            go_roundw
                            case rel => exact ⟨j + 1, by simp [hjr], by omega, by omega, ⟨HG.out.drewN _⟩, HT⟩
                            case measure => simp [intOf, hjr]; omega
                        · obtain rfl : j = x.f1.length := by omega
                          have HCon := Aside0.mk (eqL_all HN1.out HJ.out)
                          go_wp2
                          clear r1 r2 s1 s2 hj j0 j1 HJ
                          go_loopw [9] (fun cv w' => ∃ j : Int, cv = .int .i64 j ∧ 0 ≤ j ∧ j ≤ x.f2.length ∧ Aside0 (SmG w #[.int .i64 i, .int .i64 q, .int .i64 m, .slice (some ad) l.length c] #[.int .i64 i, .int .i64 q, .int .i64 m, .slice (some ad2) k2.length d] gx #[.string x.f0, .slice A1 x.f1.length c1, .slice A2 x.f2.length c2, .string x.f3] #[.string y.f0, .slice B1 y.f1.length d1, .slice B2 y.f2.length d2, .string y.f3] w') ∧ Aside0 (∀ j' : Int, 0 ≤ j' → j' < j → coilEq (PPrinterRoundTrip.rd_T69 x.f2 j') (PPrinterRoundTrip.rd_T69 y.f2 j') = true)) (fun cv _ => x.f2.length - (intOf cv).toNat)
                          case atStart => exact ⟨0, rfl, by omega, by omega, HG, ⟨fun j h1 h2 => by omega⟩⟩
                          case round =>
                            clear HG
                            obtain ⟨j, rfl, j0, j1, HG, HJ⟩ := hrel
                            have r2 := blk_cell HG.out.kx 2
                            have s2 := blk_cell HG.out.ky 2
                            by_cases hj : j < x.f2.length
                            · have hj2 : j < y.f2.length := by omega
                              obtain ⟨ad3, e1, u0, u1, u2⟩ := PPrinterRoundTrip.at_T69 G2.out j j0 hj
                              obtain ⟨ad4, e2, v0, v1, v2⟩ := PPrinterRoundTrip.at_T69 J2.out j j0 hj2
                              subst e1
                              subst e2
                              replace u0 := pw_cell_below HG.out.f.b u0
                              replace u1 := pw_cell_below HG.out.f.b u1
                              replace u2 := pw_cell_below HG.out.f.b u2
                              replace v0 := pw_cell_below HG.out.f.b v0
                              replace v1 := pw_cell_below HG.out.f.b v1
                              replace v2 := pw_cell_below HG.out.f.b v2
                              have hjr : wrap64 (j + 1) = j + 1 := w64 (by omega) (by omega)
                              have hfa : coilEq (PPrinterRoundTrip.rd_T69 x.f2 j) (PPrinterRoundTrip.rd_T69 y.f2 j) = false → V = false := fun hq => HFa.out (rungEq_coil (eqL_at j0 hj HN2.out hq))
                              have htr : coilEq (PPrinterRoundTrip.rd_T69 x.f2 j) (PPrinterRoundTrip.rd_T69 y.f2 j) = true → ∀ j' : Int, 0 ≤ j' → j' < j + 1 → coilEq (PPrinterRoundTrip.rd_T69 x.f2 j') (PPrinterRoundTrip.rd_T69 y.f2 j') = true := by
                                intro hq j' a0 a1
                                by_cases hj' : j' < j
                                · exact HJ.out j' a0 hj'
                                · obtain rfl : j' = j := by omega
                                  exact hq
                              have HFa2 := Aside0.mk hfa
                              have HTr2 := Aside0.mk htr
                              clear hfa htr
                              generalize PPrinterRoundTrip.rd_T69 x.f2 j = xc at *
                              generalize PPrinterRoundTrip.rd_T69 y.f2 j = yc at *
                              cases hq : coilEq xc yc with
                              | false =>
                                have hV := HFa2.out hq
                                subst hV
                                go_wp2
                                go_quiet (fail)
                                go_wp2
                                go_ret
                                exact ⟨rfl, pw_below_drewN HG.out.f.b _⟩
                              | true =>
                                have HT := Aside0.mk (HTr2.out hq)
                                go_wp2
                                go_quiet (fail)
                                go_wp2
                                go_roundw
                                case rel => exact ⟨j + 1, by simp [hjr], by omega, by omega, ⟨HG.out.drewN _⟩, HT⟩
                                case measure => simp [intOf, hjr]; omega
                            · obtain rfl : j = x.f2.length := by omega
                              have HT := Aside0.mk (HTr.out (rungEq_all HQ.out.1 HQ.out.2 HCon.out (eqL_all HN2.out HJ.out)))
                              have HF2 := Aside0.mk HG.out.f
                              go_wp2
                              go_roundw
                              case rel => exact ⟨k + 1, by simp [hwr], by omega, by omega, HF2, HT⟩
                              case measure => simp [intOf, hwr]; omega
                    · have n2' : ((x.f2.length : Int) != (y.f2.length : Int)) = true := by simp; omega
                      have hV := HFa.out (rungEq_coil (eqL_len n2))
                      subst hV
                      clear n1
                      have FB := HG.out.f.b
                      go_wp2
                      go_ret
                      exact ⟨rfl, FB⟩
                  · have n1' : ((x.f1.length : Int) != (y.f1.length : Int)) = true := by simp; omega
                    have hV := HFa.out (rungEq_con (eqL_len n1))
                    subst hV
                    have FB := HG.out.f.b
                    go_wp2
                    go_ret
                    exact ⟨rfl, FB⟩
            · obtain rfl : k = l.length := by omega
              have hV := HV2.out.symm.trans (eqL_all HEl.out HA.out)
              subst hV
              have FB := HF.out.b
              go_wp2
              go_ret
              exact ⟨rfl, FB⟩
        · obtain rfl : V = false := by rw [← HV.out, ladEq, eqL_len el, Bool.and_false]
          have hel : ((l.length : Int) != (k2.length : Int)) = true := by simp; omega
          subst ei eq_ em
          go_enter Tryz.func18, Tryz.ntmps18
          go_wp2
          go_ret
          exact ⟨rfl, F0.out.b⟩
      · have q1 : (m == m2) = false := by simpa using em
        have q2_ : (m != m2) = true := by simpa using em
        obtain rfl : V = false := by rw [← HV.out, ladEq, szEq, q1]; simp
        subst ei eq_
        go_enter Tryz.func18, Tryz.ntmps18
        go_wp2
        go_ret
        exact ⟨rfl, F0.out.b⟩
    · have q1 : (q == q2) = false := by simpa using eq_
      have q2_ : (q != q2) = true := by simpa using eq_
      obtain rfl : V = false := by rw [← HV.out, ladEq, szEq, q1]; simp
      subst ei
      go_enter Tryz.func18, Tryz.ntmps18
      go_wp2
      go_ret
      exact ⟨rfl, F0.out.b⟩
  · have q1 : (i == i2) = false := by simpa using ei
    have q2_ : (i != i2) = true := by simpa using ei
    obtain rfl : V = false := by rw [← HV.out, ladEq, szEq, q1]; simp
    go_enter Tryz.func18, Tryz.ntmps18
    go_wp2
    go_ret
    exact ⟨rfl, F0.out.b⟩
end Go.Proofs.YtolmkdhgnganaaaGreatDoor.H
namespace Go.Proofs.YtolmkdhgnganaaaGreatDoor.H
open Go Go.RowKit Go.Proofs Go.Proofs.YtolmkdhgnganaaaGreatDoorW.PrintWords Go.Proofs.YtolmkdhgnganaaaGreatDoor.Sp
theorem seq_refl (a : ByteArray) : seq a a = true := by rw [seq_dec]; simp
theorem eqL_refl {α : Type} {e : α → α → Bool} (h : ∀ x, e x x = true) (xs : List α) : eqL e xs xs = true := by
  unfold eqL
  rw [Bool.and_eq_true]
  refine ⟨by simp, List.all_eq_true.2 fun p hp => ?_⟩
  obtain ⟨j, hj, rfl⟩ := List.getElem_of_mem hp
  simp [h]
theorem conEq_refl (a : Con) : conEq a a = true := by simp [conEq, seq_refl]
theorem coilEq_refl (a : Coil) : coilEq a a = true := by simp [coilEq]
theorem rungEq_refl (a : Rung) : rungEq a a = true := by simp only [rungEq, seq_refl, eqL_refl conEq_refl, eqL_refl coilEq_refl, Bool.and_self]
theorem ladEq_refl (i q m : Int) (l : List Rung) : ladEq i q m l i q m l = true := by simp only [ladEq, szEq, eqL_refl rungEq_refl, beq_self_eq_true, Bool.and_self]
end Go.Proofs.YtolmkdhgnganaaaGreatDoor.H
namespace Go.Proofs.YtolmkdhgnganaaaGreatDoor.H
open Go Go.RowKit Go.Proofs Go.Proofs.YtolmkdhgnganaaaGreatDoorW.PrintWords Go.Proofs.YtolmkdhgnganaaaGreatDoorW.PrintLast Go.Proofs.YtolmkdhgnganaaaGreatDoorW.PrintMore Go.Proofs.YtolmkdhgnganaaaGreatDoor.Sp
/-- The ladder and the line numbers that Parse answers. -/
def uS (s : ByteArray) : PSt := if (parseP s).2.2 = 0 then (parseP s).1 else S0
def ParseU (s : ByteArray) (w : World) (e : Ending) (w' : World) : Prop :=
  Below w.heap.size w w' ∧ ∃ A c A' c', e = .returned (.tuple #[.agg #[.int .i64 (uS s).i, .int .i64 (uS s).q, .int .i64 (uS s).m, .slice A (uS s).rungs.length c], .slice A' (uS s).lines.length c', .int .i64 (parseP s).2.1, .int .i64 (parseP s).2.2]) ∧
    Kd.C kRung w' A (uS s).rungs.length (uS s).rungs ∧ (uS s).rungs.length ≤ c ∧ (Kd.int .i64).R 3 w' w.heap.size (fun _ => True) (.slice A' (uS s).lines.length c') (uS s).lines ∧ (uS s).lines.length ≤ 64
theorem ParseU.of {s : ByteArray} {w w' : World} {e : Ending} (h : ParseR s w e w') : ParseU s w e w' := by
  obtain ⟨hb, h⟩ := h
  refine ⟨hb, ?_⟩
  rcases h with ⟨h0, rfl⟩ | ⟨h0, vr, vl, rfl, hS, hl, hll, hn64, -⟩
  · have e : uS s = S0 := by rw [uS, if_neg h0]
    rw [e]
    exact ⟨none, 0, none, 0, rfl, Kd.C_nil _ _, Nat.le_refl _, Kd.R_nil _ _ _ _ _, Nat.zero_le _⟩
  · have e : uS s = (parseP s).1 := by rw [uS, if_pos h0]
    have hz := parseP_zero h0
    rw [e]
    obtain ⟨A, c, rfl, hc, hC⟩ := Kd.S_reads hS
    obtain ⟨A', c', rfl, -, -⟩ := Kd.R_reads hl
    exact ⟨A, c, A', c', by rw [h0, hz], hC, hc, hl, by omega⟩
/-- The words, joined. -/
def kwJ (kw : List ByteArray) : ByteArray := ⟨(Lib.join (kw.map (·.data.toList)) [32]).toArray⟩
theorem join_kw (kw : List ByteArray) (hk : kw.length = 4) (hl : (Lib.join (kw.map (·.data.toList)) [32]).length ≤ 100) {base g cap : Nat} {w : World} (h : KwRow base kw g cap w) :
    Calls Tryz.prog 19 #[.slice (some ⟨g, 0, none⟩) 4 cap, .string ⟨#[32]⟩] w (RetB w (.string (kwJ kw))) := by
  have hc := fun j hj => h.at j hj
  obtain ⟨-, hcap, cur, hg, -⟩ := h
  have := Tryz.strings_Join g 0 cap kw ⟨#[32]⟩ w (fun j x hx => by
    have hj : j < 4 := by rw [← hk]; exact (List.getElem?_eq_some_iff.1 hx).1
    rw [Nat.zero_add, hc j hj]
    simp [List.getD, hx]) (blk_lt hg) (by omega) (by omega) (Nat.le_trans hl (by decide))
  rw [hk] at this
  exact this
theorem kwJC : (Lib.join (kwC.map (·.data.toList)) [32]).length ≤ 100 := by decide
theorem kwJO : (Lib.join (kwO.map (·.data.toList)) [32]).length ≤ 100 := by decide
set_option maxHeartbeats 8000000 in
set_option maxRecDepth 100000 in
theorem pm_b (t : ByteArray) (w : World) (hL : Lets w) (hE : Errs w) (hK : Kws w) (hG : LexG w) :
    Calls Tryz.prog 5 #[.string t] w (RetB w (.bool true)) := by
  have HAl := Aside0.mk (fun W (hW : Below w.heap.size w W) => alive10_b W (hL.below hW) (hE.below hW) (hK.below hW) (hG.below hW))
  have HP := Aside0.mk (fun W (hW : Below w.heap.size w W) => (parse_b t W (hL.below hW) (hE.below hW) (hK.below hW) (hG.below hW)).mono fun _ _ => ParseU.of)
  have HKw := Aside0.mk (fun W (hW : Below w.heap.size w W) => hK.below hW)
  clear hL hE hK hG
  go_enter Tryz.func5, Tryz.ntmps5
  by_cases h5 : (5000 : Int) < t.size
  · go_wp2_with fail
    refine (HAl.out _ (Below.refl _ _)).mono ?_
    rintro e w1 ⟨rfl, hb⟩
    go_wp2
    go_ret
    exact ⟨rfl, hb⟩
  · have HP9 := Aside0.mk (fun W => (parse9_b t W).mono fun _ _ => ParseU.of)
    unfold ParseU at HP HP9
    generalize uS t = S at HP HP9
    generalize (parseP t).2.1 = n at HP HP9
    generalize (parseP t).2.2 = x at HP HP9
    go_wp2_with fail
    refine (HP.out _ (Below.refl _ _)).mono ?_
    rintro e w1 ⟨hb, A, c, A', c', rfl, hC, hc, hl, hll⟩
    have HB2 := Aside0.mk (below_alloc hb (.cells #[.int .i64 S.i, .int .i64 S.q, .int .i64 S.m, .slice A S.rungs.length c] 24))
    have K2 := Aside0.mk (blk_new w1 (.cells #[.int .i64 S.i, .int .i64 S.q, .int .i64 S.m, .slice A S.rungs.length c] 24))
    have HC2 := Aside0.mk (Kd.C_alloc hC (.cells #[.int .i64 S.i, .int .i64 S.q, .int .i64 S.m, .slice A S.rungs.length c] 24))
    have HL2 := Aside0.mk (Kd.R_alloc hl (.cells #[.int .i64 S.i, .int .i64 S.q, .int .i64 S.m, .slice A S.rungs.length c] 24))
    clear hb hC hl HP
    go_wp2_with fail
    generalize w1.alloc (.cells #[.int .i64 S.i, .int .i64 S.q, .int .i64 S.m, .slice A S.rungs.length c] 24) = w2 at HB2 K2 HC2 HL2 ⊢
    generalize w1.heap.size = gl at K2 ⊢
    refine (HP9.out w2).mono ?_
    rintro e w3 ⟨hb, B, d, B', d', rfl, hD, hd, hm, -⟩
    have HB4 := Aside0.mk (below_alloc (below_step HB2.out hb) (.cells #[.int .i64 S.i, .int .i64 S.q, .int .i64 S.m, .slice B S.rungs.length d] 24))
    have K4 := Aside0.mk (blk_alloc (blk_below K2.out hb) (.cells #[.int .i64 S.i, .int .i64 S.q, .int .i64 S.m, .slice B S.rungs.length d] 24))
    have KN := Aside0.mk (blk_new w3 (.cells #[.int .i64 S.i, .int .i64 S.q, .int .i64 S.m, .slice B S.rungs.length d] 24))
    have HC4 := Aside0.mk (Kd.C_alloc (Kd.C_below HC2.out hb) (.cells #[.int .i64 S.i, .int .i64 S.q, .int .i64 S.m, .slice B S.rungs.length d] 24))
    have HL4 := Aside0.mk (Kd.R_alloc (Kd.R_below HL2.out hb) (.cells #[.int .i64 S.i, .int .i64 S.q, .int .i64 S.m, .slice B S.rungs.length d] 24))
    have HD4 := Aside0.mk (Kd.C_alloc hD (.cells #[.int .i64 S.i, .int .i64 S.q, .int .i64 S.m, .slice B S.rungs.length d] 24))
    have HM4 := Aside0.mk (Kd.R_alloc hm (.cells #[.int .i64 S.i, .int .i64 S.q, .int .i64 S.m, .slice B S.rungs.length d] 24))
    have a0 := blk_cell K4.out 0
    have a1 := blk_cell K4.out 1
    have a2 := blk_cell K4.out 2
    have a3 := blk_cell K4.out 3
    have c0 := blk_cell KN.out 0
    have c1 := blk_cell KN.out 1
    have c2 := blk_cell KN.out 2
    have c3 := blk_cell KN.out 3
    have ltA := blk_lt (blk_below K2.out hb)
    clear hb K2 HB2 HC2 HL2 hm hD HP9
    go_wp2_with fail
    refine (same_b S.i S.q S.m A c S.rungs S.i S.q S.m B d S.rungs _ HC4.out HD4.out hc hd).mono ?_
    rintro e w5 ⟨rfl, hb⟩
    rw [ladEq_refl]
    have HB5 := Aside0.mk (below_step HB4.out hb)
    have HL5 := Aside0.mk (Kd.R_below HL4.out hb)
    have HM5 := Aside0.mk (Kd.R_below HM4.out hb)
    clear hb HB4 K4 KN a0 a1 a2 a3 c0 c1 c2 c3 ltA HC4 HD4 HL4 HM4
    generalize w2.heap.size = gm at HM5
    go_wp2
    go_loopw [53] (fun cv w' => ∃ j : Int, cv = .int .i64 j ∧ 0 ≤ j ∧ j ≤ S.lines.length ∧ ∃ wr : World, wr = w' ∧ Aside0 (Below w.heap.size w wr) ∧ Aside0 ((Kd.int .i64).R 3 wr w.heap.size (fun _ => True) (.slice A' S.lines.length c') S.lines) ∧ Aside0 ((Kd.int .i64).R 3 wr gm (fun _ => True) (.slice B' S.lines.length d') S.lines)) (fun cv _ => ((S.lines.length : Int) - intOf cv).toNat)
    case atStart => exact ⟨0, rfl, by omega, by omega, _, rfl, HB5, HL5, HM5⟩
    case round =>
      clear HB5 HL5 HM5
      obtain ⟨j, rfl, j0, j1, wr, rfl, HB7, HL7, HM7⟩ := hrel
      by_cases hj : j < S.lines.length
      · have hjn : j.toNat < S.lines.length := by omega
        have hwr : wrap64 (j + 1) = j + 1 := w64 (by omega) (by omega)
        obtain ⟨ga, ca, e, -, -, -⟩ := Kd.R_form HL7.out (by omega)
        cases e
        obtain ⟨gb, cb, e, -, -, -⟩ := Kd.R_form HM7.out (by omega)
        cases e
        have u0 := ints_cell HL7.out j.toNat hjn
        have u1 := ints_cell HM7.out j.toNat hjn
        generalize S.lines.getD j.toNat 0 = y at u0 u1
        go_wp2_with fail
        go_quiet (fail)
        have HB8 := Aside0.mk (below_step HB7.out (pw_below_drewN (Below.refl _ _) nq))
        have HL8 := Aside0.mk (Kd.R_below HL7.out (pw_below_drewN (Below.refl _ _) nq))
        have HM8 := Aside0.mk (Kd.R_below HM7.out (pw_below_drewN (Below.refl _ _) nq))
        clear u0 u1 HB7 HL7 HM7
        go_wp2
        go_roundw
        case rel => exact ⟨j + 1, by simp [hwr], by omega, by omega, _, rfl, HB8, HL8, HM8⟩
        case measure => simp [intOf, hwr]; omega
      · obtain rfl : j = S.lines.length := by omega
        go_wp2_with fail
        refine (HAl.out _ HB7.out).mono ?_
        rintro e w8 ⟨rfl, hb⟩
        have HB8 := Aside0.mk (below_step HB7.out hb)
        clear hb HB7 HL7 HM7
        go_wp2_with fail
        refine (conKw_b w8 (HKw.out _ HB8.out)).mono ?_
        rintro e w9 ⟨g1, p1, rfl, hr, hb⟩
        have HB9 := Aside0.mk (below_step HB8.out hb)
        have HR := Aside0.mk hr
        clear hb HB8 hr
        go_wp2_with fail
        refine (join_kw kwC rfl kwJC HR.out).mono ?_
        rintro e w10 ⟨rfl, hb⟩
        have HB10 := Aside0.mk (below_step HB9.out hb)
        clear hb HB9 HR
        go_wp2_with fail
        refine (conKw9_b w10).mono ?_
        rintro e w11 ⟨g2, p2, rfl, hr, hb⟩
        have HB11 := Aside0.mk (below_step HB10.out hb)
        have HR := Aside0.mk hr
        clear hb HB10 hr
        go_wp2_with fail
        refine (join_kw kwC rfl kwJC HR.out).mono ?_
        rintro e w12 ⟨rfl, hb⟩
        have HB12 := Aside0.mk (below_step HB11.out hb)
        clear hb HB11 HR
        generalize kwJ kwC = jc
        go_wp2_with fail
        refine (coilKw_b w12 (HKw.out _ HB12.out)).mono ?_
        rintro e w13 ⟨g3, p3, rfl, hr, hb⟩
        have HB13 := Aside0.mk (below_step HB12.out hb)
        have HR := Aside0.mk hr
        clear hb HB12 hr
        go_wp2_with fail
        refine (join_kw kwO rfl kwJO HR.out).mono ?_
        rintro e w14 ⟨rfl, hb⟩
        have HB14 := Aside0.mk (below_step HB13.out hb)
        clear hb HB13 HR
        go_wp2_with fail
        refine (coilKw9_b w14).mono ?_
        rintro e w15 ⟨g4, p4, rfl, hr, hb⟩
        have HB15 := Aside0.mk (below_step HB14.out hb)
        have HR := Aside0.mk hr
        clear hb HB14 hr
        go_wp2_with fail
        refine (join_kw kwO rfl kwJO HR.out).mono ?_
        rintro e w16 ⟨rfl, hb⟩
        have HB16 := Aside0.mk (below_step HB15.out hb)
        clear hb HB15 HR
        generalize kwJ kwO = jo
        go_wp2
        go_ret
        exact ⟨rfl, HB16.out⟩
end Go.Proofs.YtolmkdhgnganaaaGreatDoor.H
namespace Go.Proofs.YtolmkdhgnganaaaGreatDoor.R
open Go Go.RowKit Go.Proofs Go.Proofs.YtolmkdhgnganaaaGreatDoorW.PrintWords Go.Proofs.YtolmkdhgnganaaaGreatDoor.H Go.ChangeShapes Go.WideShapes Go.ChangeAt
theorem own : ownKnob Tryz.prog.godebug = none := by kernel_rfl
theorem laidOut : laidOutB Tryz.prog = true := by kernel_rfl
/-- A listed array of strings: its cells. -/
theorem strs_cells {P : Program} {w : World} {name : String} {ds : List (DataW Unit)} {g t e n : Nat} (h : Lib.VarReads P w name (.agg ds)) (hg : P.globalNamed name = some g) (hty : (P.globals[g]?).map (·.type) = some t)
    (ht : P.underlying t = some (.array n e)) (he : P.underlying e = some .string) (hce : P.cellsOf e = 1) (i : Nat) (hi : i < n) (bs : List UInt8) (hd : ds[i]? = some (.lit (.string bs))) :
    w.cell? ⟨g, i, none⟩ = some (.string ⟨bs.toArray⟩) := by
  obtain ⟨g', t', cs, fuel, p, h1, h2, h3, h4⟩ := h
  obtain rfl := Option.some.inj (hg.symm.trans h1)
  obtain rfl := Option.some.inj (hty.symm.trans h2)
  obtain ⟨f2, d, q, e1, e2⟩ := Lib.array_elem ht h4 i hi
  rw [e1] at hd
  obtain rfl := Option.some.inj hd
  rw [hce] at e2
  obtain ⟨s, hc, hs, _⟩ := DataW.trod_string he e2
  have hcs : cs.toList[i]? = some (.string s) := by
    have := congrArg (·[0]?) hc
    simpa [List.getElem?_take, List.getElem?_drop] using this
  rw [World.var?_cell h1 h3 i]
  have hcs' : cs[i]? = some (.string s) := by simpa using hcs
  rw [hcs']
  simp only [Prod.mk.injEq, DataW.lit.injEq, Lit.string.injEq] at hs
  rw [hs.1]
/-- A listed error: it is not nil. -/
theorem err_var {P : Program} {w : World} {name tn : String} {d : DataW Unit} {g t : Nat} {ms : Array (String × TypeId)} (h : Lib.VarReads P w name (.iface tn d)) (hg : P.globalNamed name = some g) (hty : (P.globals[g]?).map (·.type) = some t)
    (ht : P.underlying t = some (.interface ms)) : ∃ u v, w.var? P name = some #[.iface u v] := by
  obtain ⟨g', t', cs, fuel, p, h1, h2, h3, h4⟩ := h
  obtain rfl := Option.some.inj (hg.symm.trans h1)
  obtain rfl := Option.some.inj (hty.symm.trans h2)
  have key : ∀ l : List Value, DataW.trod (fun _ => ()) P w 0 (fun _ => true) false fuel t l = some (.iface tn d, p) → ∃ u v, l = [.iface u v] := by
    intro l hl
    cases fuel with
    | zero => simp [DataW.trod] at hl
    | succ fuel =>
      unfold DataW.trod at hl
      rw [ht] at hl
      split at hl <;> first | (simp_all; done) | skip
      all_goals rename_i hu _
      all_goals first
        | exact ⟨_, _, rfl⟩
        | (exfalso; simp_all)
  obtain ⟨u, v, e⟩ := key cs.toList h4
  refine ⟨u, v, ?_⟩
  rw [h3]
  congr 1
  apply Array.toList_inj.1
  rw [e]
open Go.ChangeMaps (open_string shut_string)
/-- A datum that is a table of whole numbers. -/
theorem tab_reads {P : Program} {w : World} {name : String} {k : IntKind} {zs : List Int} {d : DataW Unit} {g t e n : Nat} (h : Lib.VarReads P w name d) (hd : d = Lib.tabData k zs) (hg : P.globalNamed name = some g) (hty : (P.globals[g]?).map (·.type) = some t)
    (ht : P.underlying t = some (.array n e)) (he : P.underlying e = some (.int k)) (hce : P.cellsOf e = 1) (hct : P.cellsOf t = n) : Lib.TabIs P w name k zs := by
  subst hd
  obtain ⟨g', t', cs, fuel, p, h1, h2, h3, h4⟩ := h
  obtain rfl := Option.some.inj (hg.symm.trans h1)
  obtain rfl := Option.some.inj (hty.symm.trans h2)
  unfold Lib.TabIs
  rw [h3, ← Lib.cells_of_tab ht he hce hct h4]
section
variable {H : Type} {enc : TypeId × Value → H} {P : Program} {w : World} {base : Nat} {sp : Nat → Bool} {held : Bool}
theorem trod_blocks {t : TypeId} {v : Value} {d : DataW H} {p : List MemPlace} (h : DataW.Trod enc P w base sp held t v d p) : ∀ x ∈ p, x.block < w.heap.size := by
  obtain ⟨m, hm⟩ := h
  exact DataW.trod_lt m _ _ _ hm
end
/-- What a card asks of the parameters. -/
theorem plain_in {P : Program} {name : String} {f : FuncId} {fn : Func} {lk : Bool} (hf : P.funcs[f]? = some fn) (hn : P.funcNamed name = some f) (hlk : lk = P.looks []) (hall : (fn.params.toList.all fun t => !P.wantsStandIn t) = true) :
    ∀ f' fn', P.funcNamed name = some f' → P.funcs[f']? = some fn' → lk = P.looks [] ∧ ∀ (j : Nat) t, fn'.params[j]? = some t → P.wantsStandIn t = false := by
  intro f' fn' h1 h2
  obtain rfl := Option.some.inj (hn.symm.trans h1)
  obtain rfl := Option.some.inj (hf.symm.trans h2)
  refine ⟨hlk, fun j t ht => ?_⟩
  have hm : t ∈ fn.params.toList := by simpa using Array.mem_of_getElem? ht
  simpa using List.all_eq_true.1 hall t hm
theorem lets_of {w : World} (h : Lib.VarReads Tryz.prog w "busbar/addr.letters" (.agg [.lit (.string [73]), .lit (.string [81]), .lit (.string [77])])) : Lets w :=
  ⟨strs_cells (g := 2) h (by kernel_rfl) (by kernel_rfl) Tryz.underlying119 Tryz.underlying9 (by kernel_rfl) 0 (by omega) [73] rfl,
   strs_cells (g := 2) h (by kernel_rfl) (by kernel_rfl) Tryz.underlying119 Tryz.underlying9 (by kernel_rfl) 1 (by omega) [81] rfl,
   strs_cells (g := 2) h (by kernel_rfl) (by kernel_rfl) Tryz.underlying119 Tryz.underlying9 (by kernel_rfl) 2 (by omega) [77] rfl⟩
theorem errs_of {w : World} {n1 n2 : String} {d1 d2 : DataW Unit} (h1 : Lib.VarReads Tryz.prog w "strconv.ErrSyntax" (.iface n1 d1)) (h2 : Lib.VarReads Tryz.prog w "strconv.ErrRange" (.iface n2 d2)) : Errs w :=
  ⟨err_var (g := 11) h1 (by kernel_rfl) (by kernel_rfl) Tryz.underlying108, err_var (g := 12) h2 (by kernel_rfl) (by kernel_rfl) Tryz.underlying108⟩
end Go.Proofs.YtolmkdhgnganaaaGreatDoor.R
namespace Go.Proofs.YtolmkdhgnganaaaGreatDoor.R
open Go Go.RowKit Go.Proofs Go.Proofs.YtolmkdhgnganaaaGreatDoorW.PrintWords Go.Proofs.YtolmkdhgnganaaaGreatDoor.H Go.ChangeShapes Go.WideShapes Go.ChangeAt Go.Deep
section
variable {H : Type} {enc : TypeId × Value → H} {w : World} {base : Nat} {sp : Nat → Bool} {held : Bool}
end
theorem kws_of {w : World} (h : Lib.VarReads Tryz.prog w "busbar/parse.contacts" (.agg [.lit (.string [110, 111]), .lit (.string [110, 99]), .lit (.string [117, 112]), .lit (.string [100, 111, 119, 110])]))
    (h2 : Lib.VarReads Tryz.prog w "busbar/parse.coils" (.agg [.lit (.string [111, 117, 116]), .lit (.string [110, 111, 116]), .lit (.string [115, 101, 116]), .lit (.string [114, 101, 115, 101, 116])])) : Kws w := by
  have k := fun i hi bs hd => strs_cells (g := 0) h (by kernel_rfl) (by kernel_rfl) Tryz.underlying112 Tryz.underlying9 (by kernel_rfl) i hi bs hd
  have k2 := fun i hi bs hd => strs_cells (g := 1) h2 (by kernel_rfl) (by kernel_rfl) Tryz.underlying112 Tryz.underlying9 (by kernel_rfl) i hi bs hd
  refine ⟨fun j hj => ?_, fun j hj => ?_⟩
  · match j, hj with
    | 0, hj => exact k 0 hj _ rfl
    | 1, hj => exact k 1 hj _ rfl
    | 2, hj => exact k 2 hj _ rfl
    | 3, hj => exact k 3 hj _ rfl
  · match j, hj with
    | 0, hj => exact k2 0 hj _ rfl
    | 1, hj => exact k2 1 hj _ rfl
    | 2, hj => exact k2 2 hj _ rfl
    | 3, hj => exact k2 3 hj _ rfl
end Go.Proofs.YtolmkdhgnganaaaGreatDoor.R
namespace Go.Proofs.YtolmkdhgnganaaaGreatDoor.R
open Go Go.RowKit Go.Proofs Go.Proofs.YtolmkdhgnganaaaGreatDoorW.PrintWords Go.Proofs.YtolmkdhgnganaaaGreatDoor.H Go.ChangeShapes Go.WideShapes Go.ChangeAt
/-- A call of a row that lists variables: its contract may ask for the world's shape. -/
theorem handed_sh {H : Type} {enc : TypeId × Value → H} {a : Assume} {C : Checked} {os : Os} {f : FuncId} {fn : Func} {s : ChangeSpec} {conds : List PathCond} {apart fresh handsOn again : Bool} {X : World → Array Value → Prop}
    (keep : ∀ (u v : World) (args : Array Value), u.heap = v.heap → X u args → X v args) (ow : ownKnob C.prog.godebug = none) (st : os.Started) (ni : C.prog.inits.idxOf? f = none) (hf : C.prog.funcs[f]? = some fn)
    (wit : ∃ (w : World) (tape : Tape) (i : Input), w.os = os ∧ (w.forCall tape i).Shaped C.prog ∧ i.vars = [] ∧ Input.okWide C.prog (w.forCall tape i) .any w.heap.size f i ∧
      ((s.pre enc C.prog fn conds apart (w.forCall tape i).memory i.args ∧ X (w.forCall tape i).memory i.args) ∧ sizedMet enc C.prog fn (OpenSpec.ofChange s) apart (w.forCall tape i).memory i.args) ∧ a.holds C.prog (lone (Frame.enter C.prog f i.args .normal) [] (w.forCall tape i)))
    (con : ∀ (W : World) (base : Nat) (args : Array Value) (ds gs : List (DataW H)) (before : List MemPlace), (∀ (j : Nat) t v, fn.params[j]? = some t → args[j]? = some v → Value.okWide C.prog W .any base t v) →
      DataW.Whole enc C.prog fn.params.toList s.vars apart W args.toList ds gs before → conds.all (PathCond.test C.prog ⟨fn.params.toList, ds, s.plain.varTypes C.prog, gs⟩) = true →
      (DataW.weightsEach C.prog (fn.params.toList ++ s.plain.varTypes C.prog) (ds ++ gs)).all (· ≤ reachBytes) = true → X W args → W.ShapedOpen C.prog →
      Calls C.prog f args W fun e W' => ∃ v, e = .returned v ∧ s.post enc C.prog fn apart fresh handsOn again W args v W') :
    ReturnsInHanded a C os f .any (fun w args => (s.pre enc C.prog fn conds apart w args ∧ X w args) ∧ sizedMet enc C.prog fn (OpenSpec.ofChange s) apart w args) (s.post enc C.prog fn apart fresh handsOn again) := by
  refine returnsInHanded_of_calls ow st ni wit ?_
  intro w tape i _ sh _ ok pre _
  obtain ⟨_, _, _, g, hg, _, _, _, _, val⟩ := ok
  obtain rfl : g = fn := Option.some.inj (hg.symm.trans hf)
  obtain ⟨⟨⟨ds, gs, before, hw, hc⟩, hx⟩, hz⟩ := pre
  refine (con (w.forCall tape i) w.heap.size i.args ds gs before val (DataW.Whole.of_heap (w' := w.forCall tape i) (by rfl) hw) hc (hz.weights hw) (keep _ _ _ (by rfl) hx) sh).mono ?_
  rintro e W' ⟨v, rfl, hp⟩
  exact ChangeSpec.post_blind hp
theorem lexg_of {w : World} {d : DataW Unit} (h : Lib.VarReads Tryz.prog w "strings.asciiSpace" d) (hd : d = Lib.tabData .u8 Lib.asciiSpaceTab) (sh : w.ShapedOpen Tryz.prog) : LexG w :=
  ⟨cell_of_shapedOpen_int (zero := #[.int .i64 0]) (t := 3) sh (of_decide_eq_true (by kernel_rfl)) (by kernel_rfl) rfl (by kernel_rfl) (by kernel_rfl) Tryz.underlying3,
   tab_reads (g := 4) h hd (by kernel_rfl) (by kernel_rfl) Tryz.underlying151 Tryz.underlying5 (by kernel_rfl) (by kernel_rfl)⟩
end Go.Proofs.YtolmkdhgnganaaaGreatDoor.R
