/-
  What the claim's row leans on, part 2: printer.line: it writes the words of a line. The keywords of contacts and coils: copies of the package's two tables. Condition: the tables are laid as their initialisers lay them. The plain laws of the address layer: Format and Parse are inverse to each other; a valid address has a textual form. No program in sight. What printer.Print answers, in plain words; what a ladder that Check lets in is; how long its text is. printer.Print: it answers what its plain function answers; nothing that was there is changed. The example of the chapter: alive answers true. TooLarge ends and changes nothing; EdgeCount (both) counts the edge contacts. PrinterIsInjective in memory: the ladder that is built by appends (each rung's rows made anew), while its loop runs, and one part of it stored anew. lex.plain: it answers whether all bytes are permitted; nothing that was there is changed. lex.counts: the closure hands over the lines of a text, one by one, without their comments; nothing that was there is changed. lex.Lines: it answers the lines of a text that hold words, or the number of the first line that holds a byte that is not permitted; nothing that was there is changed. lex.Number at the limit 256: it answers what its plain function answers; nothing that was there is changed. The parser in memory: what its block and its rows hold, and what its methods keep. The parser's sizes, address and rung. The parser's rung pointer and its size line. What is stored into the parser's rows: the jump of a rung, its contacts, its coils. The parser's jump line.
-/
import Derived.Test.YtolmkdhgnganaaaGreatDoorMgRTa
set_option linter.unusedVariables false
set_option linter.unusedSimpArgs false
namespace Go.Proofs.YtolmkdhgnganaaaGreatDoor.H
open Go Go.RowKit Go.Proofs Go.Proofs.YtolmkdhgnganaaaGreatDoorW.PrintWords Go.Proofs.YtolmkdhgnganaaaGreatDoor.Sp
/-- Word j of a line, as it is written. -/
def wordAt (ws : List ByteArray) (j : Nat) : List UInt8 := (if j = 0 ∨ (ws.getD j ⟨#[]⟩).toList.isEmpty then [] else [32]) ++ (ws.getD j ⟨#[]⟩).data.toList
/-- The first n words. -/
def upTo (ws : List ByteArray) (n : Nat) : List UInt8 := ((List.range n).map (wordAt ws)).flatten
/-- A line. -/
def lineText (ws : List ByteArray) : List UInt8 := upTo ws ws.length ++ [10]
theorem upTo_zero (ws : List ByteArray) : upTo ws 0 = [] := rfl
theorem upTo_succ (ws : List ByteArray) (n : Nat) : upTo ws (n + 1) = upTo ws n ++ wordAt ws n := by
  simp [upTo, List.range_succ, List.map_append, List.flatten_append]
theorem upTo_mono (ws : List ByteArray) : ∀ (n m : Nat), n ≤ m → (upTo ws n).length ≤ (upTo ws m).length
  | n, 0, h => by obtain rfl : n = 0 := by omega
                  exact Nat.le_refl _
  | n, m + 1, h => by
    rcases Nat.lt_or_ge m n with h' | h'
    · obtain rfl : n = m + 1 := by omega
      exact Nat.le_refl _
    · have := upTo_mono ws n m h'
      rw [upTo_succ, List.length_append]; omega
abbrev Bld (B b : Nat) (l : List UInt8) (w : World) : Prop := Lib.IsBuilderF 64 5 B b (Lib.byteCells l) w
/-- What stands while a builder is written. -/
structure BldK (B b : Nat) (l : List UInt8) (w w' : World) : Prop where
  bl : Bld B b l w'
  be : Below B w w'
  ok : Lib.OthersKept 5 (some b) w w'
theorem byteCells_str (l : List UInt8) (s : ByteArray) : Lib.byteCells l ++ Lib.strCells s = Lib.byteCells (l ++ s.data.toList) := by
  simp [Lib.byteCells, Lib.strCells]
theorem byteCells_one (l : List UInt8) (c : UInt8) : Lib.byteCells l ++ [.int .u8 (c.toNat : Int)] = Lib.byteCells (l ++ [c]) := by
  simp [Lib.byteCells]
/-- A block that is not the builder's and holds no bytes stays. -/
theorem kept_blk {b g : Nat} {w w' : World} {cs : Array Value} {t : TypeId} (hk : Lib.OthersKept 5 (some b) w w') (h : w.heap[g]? = some (.cells cs t (0, 0))) (hb : g ≠ b) (ht : t ≠ 5) : w'.heap[g]? = some (.cells cs t (0, 0)) :=
  hk g _ h (fun e => hb (by injection e)) (fun c fz e => ht (by injection e))
theorem wb (B b : Nat) (l : List UInt8) (c : UInt8) (ci : Int) (hci : ci = (c.toNat : Int)) (w w0 : World) (h : BldK B b l w0 w) (hlen : l.length + 1 ≤ 140737488355328) (hBw : B ≤ w0.heap.size) :
    Calls Tryz.prog 57 #[.pointer (some ⟨b, 0, none⟩), .int .u8 ci] w fun e w' => e = .returned .nilIface ∧ BldK B b (l ++ [c]) w0 w' := by
  subst hci
  refine (wbyte_b B b (Lib.byteCells l) (c.toNat : Int) w h.bl (by simpa [Lib.byteCells] using hlen) (by have := h.be.size; omega)).mono ?_
  rintro e w' ⟨rfl, h1, h2, h3⟩
  exact ⟨rfl, .inr (byteCells_one l c ▸ h1), h.be.trans h2, h.ok.trans h3⟩
theorem wsr (B b : Nat) (l : List UInt8) (s : ByteArray) (w w0 : World) (h : BldK B b l w0 w) (hlen : l.length + s.size ≤ 140737488355328) (hBw : B ≤ w0.heap.size) :
    Calls Tryz.prog 53 #[.pointer (some ⟨b, 0, none⟩), .string s] w fun e w' => e = .returned (.tuple #[.int .i64 s.size, .nilIface]) ∧ BldK B b (l ++ s.data.toList) w0 w' := by
  refine (wstr_b B b (Lib.byteCells l) s w h.bl (by simpa [Lib.byteCells] using hlen) (by have := h.be.size; omega)).mono ?_
  rintro e w' ⟨rfl, h1, h2, h3⟩
  exact ⟨rfl, .inr (byteCells_str l s ▸ h1), h.be.trans h2, h.ok.trans h3⟩
set_option maxRecDepth 100000 in
theorem line_b (B b : Nat) (l : List UInt8) (g : Nat) (ws : List ByteArray) (w : World) (h : Bld B b l w) (hg : w.heap[g]? = some (.cells (ws.map Value.string).toArray 9 (0, 0))) (hgb : g ≠ b)
    (hlen : l.length + (lineText ws).length ≤ 140737488355328) (hBw : B ≤ w.heap.size) (hmx : ws.length ≤ 4) :
    Calls Tryz.prog 26 #[.pointer (some ⟨b, 0, none⟩), .slice (some ⟨g, 0, none⟩) ws.length ws.length] w fun e w' => e = .returned (.tuple #[]) ∧ BldK B b (l ++ lineText ws) w w' := by
  have HG := Aside0.mk hg
  have HW := Aside0.mk hBw
  have HL := Aside0.mk hlen
  have H0 : Aside0 (BldK B b (l ++ upTo ws 0) w w) := ⟨⟨by simpa [upTo_zero] using h, Below.refl _ _, Lib.OthersKept.refl _ _ _⟩⟩
  have hws : (ws.length : Int) ≤ 9223372036854775807 := by omega
  clear h hg hBw hlen hmx
  go_enter Tryz.func26, Tryz.ntmps26
  go_wp2
  go_loopw [8] (fun cv w' => ∃ k : Int, cv = .int .i64 k ∧ 0 ≤ k ∧ k ≤ ws.length ∧ Aside0 (BldK B b (l ++ upTo ws k.toNat) w w')) (fun cv _ => ws.length - (intOf cv).toNat)
  case atStart => exact ⟨0, rfl, by omega, by omega, H0⟩
  case round =>
    clear H0
    obtain ⟨k, rfl, b0, b1, HK⟩ := hrel
    by_cases hk : k < ws.length
    · have hwr : wrap64 (k + 1) = k + 1 := w64 (by omega) (by omega)
      have x0 := blk_cell (kept_blk HK.out.ok HG.out hgb (by decide)) k.toNat
      have e1 : (ws.map Value.string).toArray[k.toNat]? = some (.string (ws.getD k.toNat ⟨#[]⟩)) := by
        have hn : k.toNat < ws.length := by omega
        simp [List.getD, hn]
      rw [e1] at x0
      clear e1
      have hnx : (k + 1).toNat = k.toNat + 1 := by omega
      have hwd : wordAt ws k.toNat = (if k.toNat = 0 ∨ (ws.getD k.toNat ⟨#[]⟩).toList.isEmpty then [] else [32]) ++ (ws.getD k.toNat ⟨#[]⟩).data.toList := rfl
      have hln : l.length + (upTo ws k.toNat).length + (wordAt ws k.toNat).length ≤ 140737488355328 := by
        have h1 := upTo_mono ws (k.toNat + 1) ws.length (by omega)
        have h2 := HL.out
        rw [upTo_succ, List.length_append] at h1
        simp only [lineText, List.length_append, List.length_cons, List.length_nil] at h2
        omega
      have hgo : ∀ W, BldK B b (l ++ upTo ws k.toNat ++ wordAt ws k.toNat) w W → BldK B b (l ++ upTo ws (k + 1).toNat) w W := by
        intro W hW
        rw [hnx, upTo_succ, ← List.append_assoc]; exact hW
      have HGo := Aside0.mk hgo
      clear hgo
      generalize ws.getD k.toNat ⟨#[]⟩ = s at x0 hwd
      rw [hwd] at hln HGo
      have hsz : s.data.toList.length = s.size := by rw [Array.length_toList]; rfl
      clear hwd
      by_cases hk0 : k = 0
      · have hk1 : ¬ 0 < k := by omega
        have hk2 : k.toNat = 0 := by omega
        simp only [hk2, true_or, if_true, List.nil_append] at hln
        have hgo : ∀ W, BldK B b (l ++ upTo ws k.toNat ++ s.data.toList) w W → BldK B b (l ++ upTo ws (k + 1).toNat) w W := fun W hW => HGo.out W (by rw [if_pos (.inl hk2)]; exact hW)
        have HGo2 := Aside0.mk hgo
        have HLn := Aside0.mk hln
        have HK2 := Aside0.mk hk2
        clear hln hgo HGo hk0 hk2
        go_wp2_with fail
        refine (wsr B b _ s _ w HK.out (by have := HLn.out; have hk2 := HK2.out; simp only [hk2, List.length_append] at *; omega) HW.out).mono ?_
        rintro e w2 ⟨rfl, HK2⟩
        go_wp2
        go_roundw
        case rel => exact ⟨k + 1, by simp [hwr], by omega, by omega, ⟨HGo2.out _ HK2⟩⟩
        case measure => simp [intOf, hwr]; omega
      · have hk1 : 0 < k := by omega
        have hk2 : ¬ k.toNat = 0 := by omega
        by_cases hw : s.toList = []
        · have hw2 : s.toList.isEmpty = true := by rw [hw]; rfl
          simp only [hk2, false_or, hw2, if_true, List.nil_append] at hln HGo
          have HLn := Aside0.mk hln
          clear hln
          go_wp2_with fail
          refine (wsr B b _ s _ w HK.out (by have := HLn.out; simp only [List.length_append] at *; omega) HW.out).mono ?_
          rintro e w2 ⟨rfl, HK2⟩
          go_wp2
          go_roundw
          case rel => exact ⟨k + 1, by simp [hwr], by omega, by omega, ⟨HGo.out _ HK2⟩⟩
          case measure => simp [intOf, hwr]; omega
        · have hw2 : s.toList.isEmpty = false := by simpa using hw
          simp only [hk2, false_or, hw2, Bool.false_eq_true, if_false] at hln HGo
          have HLn := Aside0.mk hln
          clear hln
          go_wp2_with fail
          refine (wb B b _ 32 32 rfl _ w HK.out (by have := HLn.out; simp only [List.length_append, List.length_cons, List.length_nil] at *; omega) HW.out).mono ?_
          rintro e w2 ⟨rfl, HK2⟩
          go_wp2_with fail
          refine (wsr B b _ s _ w HK2 (by have := HLn.out; simp only [List.length_append, List.length_cons, List.length_nil] at *; omega) HW.out).mono ?_
          rintro e w3 ⟨rfl, HK3⟩
          go_wp2
          go_roundw
          case rel => exact ⟨k + 1, by simp [hwr], by omega, by omega, ⟨HGo.out _ (by simpa only [List.append_assoc] using HK3)⟩⟩
          case measure => simp [intOf, hwr]; omega
    · obtain rfl : k = ws.length := by omega
      have hln := HL.out
      go_wp2_with fail
      refine (wb B b _ 10 10 rfl _ w HK.out (by simp only [lineText, Int.toNat_natCast, List.length_append, List.length_cons, List.length_nil] at *; omega) HW.out).mono ?_
      rintro e w2 ⟨rfl, HK2⟩
      go_wp2
      go_end0
      exact ⟨rfl, by simpa only [lineText, Int.toNat_natCast, List.append_assoc] using HK2⟩
end Go.Proofs.YtolmkdhgnganaaaGreatDoor.H
namespace Go.Proofs.YtolmkdhgnganaaaGreatDoor.H
open Go Go.RowKit Go.Proofs Go.Proofs.YtolmkdhgnganaaaGreatDoorW.PrintWords Go.Proofs.YtolmkdhgnganaaaGreatDoor.Sp
def kwC : List ByteArray := [⟨#[110, 111]⟩, ⟨#[110, 99]⟩, ⟨#[117, 112]⟩, ⟨#[100, 111, 119, 110]⟩]
def kwO : List ByteArray := [⟨#[111, 117, 116]⟩, ⟨#[110, 111, 116]⟩, ⟨#[115, 101, 116]⟩, ⟨#[114, 101, 115, 101, 116]⟩]
/-- The two tables' cells. -/
structure Kws (w : World) : Prop where
  c : ∀ j, j < 4 → w.cell? ⟨0, j, none⟩ = some (.string (kwC.getD j ⟨#[]⟩))
  o : ∀ j, j < 4 → w.cell? ⟨1, j, none⟩ = some (.string (kwO.getD j ⟨#[]⟩))
theorem Kws.below {w w' : World} (h : Kws w) (hb : Below w.heap.size w w') : Kws w' := ⟨fun j hj => pw_cell_below hb (h.c j hj), fun j hj => pw_cell_below hb (h.o j hj)⟩
/-- A row of four strings of the call's own. -/
def KwRow (base : Nat) (kw : List ByteArray) (g : Nat) (cap : Nat) (w : World) : Prop := base ≤ g ∧ 4 ≤ cap ∧ ∃ cur, w.heap[g]? = some (.cells cur 9 (0, 0)) ∧ ∀ j, j < 4 → cur[j]? = some (.string (kw.getD j ⟨#[]⟩))
def KwB (w : World) (kw : List ByteArray) (e : Ending) (w' : World) : Prop := ∃ g cap, e = .returned (.slice (some ⟨g, 0, none⟩) 4 cap) ∧ KwRow w.heap.size kw g cap w' ∧ Below w.heap.size w w'
theorem kwRow_of {w : World} {B : Nat} {kw : List ByteArray} {v : Value} (hk : kw.length = 4) (h : w.ownsRow B 9 1 v 4 ((kw.take 4).map Value.string)) : ∃ g cap, v = .slice (some ⟨g, 0, none⟩) 4 cap ∧ KwRow B kw g cap w := by
  rcases h.2 with ⟨_, h0⟩ | ⟨g, cap, cur, rfl, hg, hh, hn, hm, hs, ht⟩
  · omega
  · refine ⟨g, cap, rfl, hg, hn, cur, hh, fun j hj => ?_⟩
    have := congrArg (·[j]?) ht
    simp only [List.getElem?_take, Nat.mul_one, hj, if_true, Array.getElem?_toList, List.getElem?_map] at this
    rw [this]
    simp [List.getD, show j < kw.length by omega]
theorem conKw_b (w : World) (hk : Kws w) : Calls Tryz.prog 20 #[] w (KwB w kwC) := by
  have C := Tryz.slices_Clone_string 0 0 4 4 kwC w (by decide) (by decide) (fun j hj => by rw [Nat.zero_add]; exact hk.c j hj)
  go_enter Tryz.func20, Tryz.ntmps20
  go_wp2_with fail
  refine C.mono ?_
  rintro e w1 ⟨v', rfl, hown, _, hb⟩
  obtain ⟨g, cap, rfl, hr⟩ := kwRow_of rfl hown
  go_wp2
  go_ret
  exact ⟨g, cap, rfl, hr, hb⟩
theorem coilKw_b (w : World) (hk : Kws w) : Calls Tryz.prog 22 #[] w (KwB w kwO) := by
  have C := Tryz.slices_Clone_string 1 0 4 4 kwO w (by decide) (by decide) (fun j hj => by rw [Nat.zero_add]; exact hk.o j hj)
  go_enter Tryz.func22, Tryz.ntmps22
  go_wp2_with fail
  refine C.mono ?_
  rintro e w1 ⟨v', rfl, hown, _, hb⟩
  obtain ⟨g, cap, rfl, hr⟩ := kwRow_of rfl hown
  go_wp2
  go_ret
  exact ⟨g, cap, rfl, hr, hb⟩
end Go.Proofs.YtolmkdhgnganaaaGreatDoor.H
namespace Go.Proofs.YtolmkdhgnganaaaGreatDoor.Sp
theorem digFrom_append (d : List UInt8) (c : UInt8) : ∀ n, digFrom n (d ++ [c]) = 10 * digFrom n d + dv c := by
  induction d with
  | nil => intro n; rw [List.nil_append, digFrom_cons, digFrom_nil, digFrom_nil]
  | cons a r ih => intro n; rw [List.cons_append, digFrom_cons, digFrom_cons, ih]
theorem digNat_append (d : List UInt8) (c : UInt8) : digNat (d ++ [c]) = 10 * digNat d + dv c := digFrom_append d c 0
theorem dv_le (c : UInt8) (h : isDig c = true) : dv c ≤ 9 := by
  have := (isDig_iff c).1 h
  rw [dv_eq]
  omega
theorem dv_back (c : UInt8) (h : isDig c = true) : UInt8.ofNat (48 + dv c) = c := by
  have := (isDig_iff c).1 h
  rw [dv_eq, show 48 + (c.toNat - 48) = c.toNat by omega]
  simp
/-- A numeral without a zero ahead is positive where it has a first digit that is no zero. -/
theorem digFrom_pos (d : List UInt8) : ∀ n, 0 < n → 0 < digFrom n d := by
  induction d with
  | nil => intro n hn; rw [digFrom_nil]; exact hn
  | cons a r ih => intro n hn; rw [digFrom_cons]; exact ih _ (by omega)
theorem digNat_pos (c : UInt8) (r : List UInt8) (h : isDig c = true) (h0 : c ≠ 48) : 0 < digNat (c :: r) := by
  have hc := (isDig_iff c).1 h
  have h1 : c.toNat ≠ 48 := by intro hh; exact h0 (UInt8.toNat_inj.1 (by rw [hh]; rfl))
  show 0 < digFrom 0 (c :: r)
  rw [digFrom_cons]
  exact digFrom_pos r _ (by rw [dv_eq]; omega)
theorem numSyn_iff (d : List UInt8) : numSyn d = true ↔ d ≠ [] ∧ d.all isDig = true ∧ (1 < d.length → d.head? ≠ some 48) := by
  unfold numSyn
  cases d with
  | nil => simp
  | cons a r =>
    simp only [List.isEmpty_cons, Bool.not_false, Bool.true_and, Bool.and_eq_true, ne_eq, reduceCtorEq, not_false_eq_true, true_and]
    refine and_congr_right fun _ => ?_
    cases r with
    | nil => simp
    | cons b q => simp
/-- Itoa gives back the numeral whose value it is given. -/
theorem dec_of_num : ∀ (n : Nat) (d : List UInt8), d.length = n → numSyn d = true → Lib.decDigits (digNat d) = d := by
  intro n
  induction n using Nat.strongRecOn with
  | _ n ih =>
    intro d hn hs
    obtain ⟨h0, hall, hz⟩ := (numSyn_iff d).1 hs
    obtain ⟨e, c, rfl⟩ : ∃ e c, d = e ++ [c] := ⟨d.dropLast, d.getLast h0, (List.dropLast_concat_getLast h0).symm⟩
    have hc : isDig c = true := by
      rw [List.all_append, Bool.and_eq_true] at hall
      simpa using hall.2
    have he : e.all isDig = true := by
      rw [List.all_append, Bool.and_eq_true] at hall
      exact hall.1
    have hv := dv_le c hc
    rw [digNat_append]
    cases e with
    | nil =>
      have : digNat [] = 0 := rfl
      rw [this, Lib.decDigits, dif_pos (by omega)]
      rw [show 48 + (10 * 0 + dv c) = 48 + dv c by omega, dv_back c hc]
      rfl
    | cons a r =>
      have ha : isDig a = true := by
        simp only [List.all_cons, Bool.and_eq_true] at he
        exact he.1
      have ha0 : a ≠ 48 := by
        intro hh
        exact hz (by simp) (by simp [hh])
      have hp := digNat_pos a r ha ha0
      have hs2 : numSyn (a :: r) = true := (numSyn_iff _).2 ⟨by simp, he, fun _ => by simpa using ha0⟩
      have hi := ih (a :: r).length (by rw [← hn]; simp) (a :: r) rfl hs2
      rw [Lib.decDigits, dif_neg (by omega)]
      rw [show (10 * digNat (a :: r) + dv c) / 10 = digNat (a :: r) by omega, show (10 * digNat (a :: r) + dv c) % 10 = dv c by omega, hi, dv_back c hc]
/-- What decDigits writes is a numeral, and its value is what it was given. -/
theorem num_of_dec : ∀ (n : Nat), numSyn (Lib.decDigits n) = true ∧ digNat (Lib.decDigits n) = n := by
  intro n
  induction n using Nat.strongRecOn with
  | _ n ih =>
    have dig : ∀ k, k < 10 → isDig (UInt8.ofNat (48 + k)) = true ∧ dv (UInt8.ofNat (48 + k)) = k ∧ (0 < k → UInt8.ofNat (48 + k) ≠ 48) := by
      intro k hk
      have h1 : (UInt8.ofNat (48 + k)).toNat = 48 + k := by simp; omega
      refine ⟨(isDig_iff _).2 (by rw [h1]; omega), by rw [dv_eq, h1]; omega, fun hp hh => ?_⟩
      rw [hh] at h1
      have : (48 : UInt8).toNat = 48 := rfl
      omega
    by_cases h : n < 10
    · obtain ⟨h1, h2, _⟩ := dig n h
      rw [Lib.decDigits, dif_pos h]
      refine ⟨(numSyn_iff _).2 ⟨List.cons_ne_nil _ _, by rw [List.all_cons, h1]; rfl, fun hh => absurd hh (by rw [List.length_singleton]; omega)⟩, ?_⟩
      show digFrom 0 [UInt8.ofNat (48 + n)] = n
      rw [digFrom_cons, digFrom_nil, h2]
      omega
    · obtain ⟨h1, h2, _⟩ := dig (n % 10) (by omega)
      obtain ⟨i1, i2⟩ := ih (n / 10) (by omega)
      obtain ⟨j0, jall, jz⟩ := (numSyn_iff _).1 i1
      rw [Lib.decDigits, dif_neg h]
      refine ⟨(numSyn_iff _).2 ⟨by simp, by rw [List.all_append, jall, List.all_cons, h1]; rfl, fun _ => ?_⟩, by rw [digNat_append, i2, h2]; omega⟩
      cases hd : Lib.decDigits (n / 10) with
      | nil => exact absurd hd j0
      | cons a r =>
        rw [hd] at jz j0 i2 jall
        simp only [List.cons_append, List.head?_cons, ne_eq, Option.some.injEq]
        by_cases hr : r = []
        · subst hr
          intro ha
          have : digNat [a] = dv a := by
            show digFrom 0 [a] = dv a
            rw [digFrom_cons, digFrom_nil]; omega
          rw [this, ha] at i2
          have : dv 48 = 0 := by rw [dv_eq]; rfl
          omega
        · have := jz (by cases r with | nil => exact absurd rfl hr | cons b q => simp)
          simpa using this
theorem itoa_data (n : Nat) : (itoaS (n : Int)).data.toList = Lib.decDigits n := by
  have h2 : ¬ ((n : Int) < 0) := by omega
  simp [itoaS, Lib.itoa, h2]
theorem fmt_data (s n : Int) (h : ¬ (s < 0 ∨ 2 < s ∨ n < 0 ∨ 255 < n)) : (addrFmt s n).data.toList = letterOf s :: Lib.decDigits n.toNat := by
  unfold addrFmt
  rw [if_neg h, ByteArray.data_append, Array.toList_append]
  obtain ⟨k, rfl⟩ := Int.eq_ofNat_of_zero_le (show 0 ≤ n by omega)
  rw [itoa_data]
  simp
theorem space_letter (s : Int) (h0 : 0 ≤ s) (h2 : s ≤ 2) : spaceOf (letterOf s) = s := by
  have : s = 0 ∨ s = 1 ∨ s = 2 := by omega
  rcases this with rfl | rfl | rfl <;> rfl
theorem parse_fmt (s n : Int) (h : ¬ (s < 0 ∨ 2 < s ∨ n < 0 ∨ 255 < n)) : addrParse (addrFmt s n).data.toList = (s, n, 0) := by
  rw [fmt_data s n h]
  obtain ⟨k, rfl⟩ := Int.eq_ofNat_of_zero_le (show 0 ≤ n by omega)
  obtain ⟨h1, h2⟩ := num_of_dec k
  have hs := space_letter s (by omega) (by omega)
  have hk : k ≤ 255 := by omega
  simp [addrParse, hs, numParse, h1, h2, hk]
  omega
/-- Where Parse is content, Format gives back the text. -/
theorem fmt_parse (t : ByteArray) (h : (addrParse t.data.toList).2.2 = 0) : addrFmt (addrParse t.data.toList).1 (addrParse t.data.toList).2.1 = t := by
  cases hl : t.data.toList with
  | nil => rw [hl] at h; simp [addrParse] at h
  | cons c d =>
    rw [hl] at h
    by_cases hc : spaceOf c < 0
    · simp [addrParse, hc] at h
    · by_cases hn : (numParse d 255).2 = 0
      · have hs : numSyn d = true ∧ digNat d ≤ 255 := by
          unfold numParse at hn
          by_cases h1 : numSyn d = true
          · rw [if_pos h1] at hn
            by_cases h2 : digNat d ≤ 255
            · exact ⟨h1, h2⟩
            · rw [if_neg h2] at hn; simp at hn
          · rw [if_neg h1] at hn; simp at hn
        have e : addrParse (c :: d) = (spaceOf c, (digNat d : Int), 0) := by simp [addrParse, hc, numParse, hs.1, hs.2]
        simp only [e]
        have hcs : letterOf (spaceOf c) = c ∧ spaceOf c ≤ 2 := by
          rcases spaceOf_cases c with ⟨h1, h2⟩ | ⟨h1, h2⟩ | ⟨h1, h2⟩ | ⟨h1, h2, h3, h4⟩
          · rw [h2, h1]; exact ⟨rfl, by omega⟩
          · rw [h2, h1]; exact ⟨rfl, by omega⟩
          · rw [h2, h1]; exact ⟨rfl, by omega⟩
          · omega
        apply bytes_ext
        rw [fmt_data _ _ (by omega), hl, hcs.1]
        simp only [Int.toNat_natCast]
        rw [dec_of_num _ d rfl hs.1]
      · simp only [addrParse, if_neg hc, if_neg hn] at h
        exact absurd h hn
/-- A valid address of valid sizes has a textual form. -/
theorem valid_fmt (i q m e s n : Int) (h1 : chkSize i q m e = 0) (h2 : chkAddr i q m s n = 0) : ¬ (s < 0 ∨ 2 < s ∨ n < 0 ∨ 255 < n) := by
  have hs : (0 ≤ e ∧ e ≤ 16384) ∧ (0 ≤ i ∧ i ≤ 256) ∧ (0 ≤ q ∧ q ≤ 256) ∧ (0 ≤ m ∧ m ≤ 256) := by
    by_cases hh : (0 ≤ e ∧ e ≤ 16384) ∧ (0 ≤ i ∧ i ≤ 256) ∧ (0 ≤ q ∧ q ≤ 256) ∧ (0 ≤ m ∧ m ≤ 256)
    · exact hh
    · unfold chkSize at h1
      rw [if_neg hh] at h1
      omega
  have h3 : ¬ (s < 0 ∨ 2 < s) := by
    intro hh
    unfold chkAddr at h2
    rw [if_pos hh] at h2
    omega
  have h4 : ¬ (n < 0 ∨ widthOf i q m s ≤ n) := by
    intro hh
    unfold chkAddr at h2
    rw [if_neg h3, if_pos hh] at h2
    omega
  have hw : widthOf i q m s ≤ 256 := by
    unfold widthOf
    split
    · omega
    · split
      · omega
      · split <;> omega
  omega
end Go.Proofs.YtolmkdhgnganaaaGreatDoor.Sp
namespace Go.Proofs.YtolmkdhgnganaaaGreatDoor.H
open Go Go.RowKit Go.Proofs Go.Proofs.YtolmkdhgnganaaaGreatDoorW.PrintWords Go.Proofs.YtolmkdhgnganaaaGreatDoor.Sp
def sizeLine (i q m : Int) : List ByteArray := [⟨#[115, 105, 122, 101]⟩, itoaS i, itoaS q, itoaS m]
def conLine (c : Con) : List ByteArray := [kwC.getD c.f0.toNat ⟨#[]⟩, addrFmt c.f1.f0 c.f1.f1, c.f2, c.f3]
def coilLine (c : Coil) : List ByteArray := [kwO.getD c.f0.toNat ⟨#[]⟩, addrFmt c.f1.f0 c.f1.f1]
def rungLine (r : Rung) : List ByteArray := [⟨#[114, 117, 110, 103]⟩, r.f0]
def jumpLine (r : Rung) : List ByteArray := [⟨#[106, 117, 109, 112]⟩, r.f3]
def jumpText (r : Rung) : List UInt8 := if r.f3.toList.isEmpty then [] else lineText (jumpLine r)
/-- The texts of the first k of a list. -/
def flatUp {α : Type} (f : α → List UInt8) (l : List α) (k : Int) : List UInt8 := ((l.take k.toNat).map f).flatten
def conText (c : Con) : List UInt8 := lineText (conLine c)
def coilText (c : Coil) : List UInt8 := lineText (coilLine c)
def rungText (r : Rung) : List UInt8 := lineText (rungLine r) ++ flatUp conText r.f1 r.f1.length ++ flatUp coilText r.f2 r.f2.length ++ jumpText r
def ladText (i q m : Int) (l : List Rung) : List UInt8 := lineText (sizeLine i q m) ++ flatUp rungText l l.length
/-- printer.Print. -/
def ladPrint (i q m : Int) (l : List Rung) : List UInt8 × Int := if (ladChk i q m l).2 = 0 then (if 65536 < (ladText i q m l).length then ([], 7) else (ladText i q m l, 0)) else ([], (ladChk i q m l).2)
theorem flatUp_zero {α : Type} (f : α → List UInt8) (l : List α) : flatUp f l 0 = [] := rfl
theorem flatUp_succ {α : Type} (f : α → List UInt8) (l : List α) (z : α) {k : Int} (h0 : 0 ≤ k) (hk : k < l.length) : flatUp f l (k + 1) = flatUp f l k ++ f (l.getD k.toNat z) := by
  have hn : k.toNat < l.length := by omega
  have e : (k + 1).toNat = k.toNat + 1 := by omega
  unfold flatUp
  have e2 : l.getD k.toNat z = l[k.toNat] := by simp [List.getD, hn]
  rw [e, e2, List.take_add_one, List.getElem?_eq_getElem hn, List.map_append, List.flatten_append]
  simp only [Option.toList_some, List.map_cons, List.map_nil, List.flatten_cons, List.flatten_nil, List.append_nil]
theorem flatUp_le {α : Type} (f : α → List UInt8) (l : List α) {k n : Int} (h : k ≤ n) : (flatUp f l k).length ≤ (flatUp f l n).length := by
  unfold flatUp
  have e : l.take k.toNat = (l.take n.toNat).take k.toNat := by rw [List.take_take]; congr 1; omega
  rw [e]
  generalize l.take n.toNat = l2
  conv => rhs; rw [← List.take_append_drop k.toNat l2]
  rw [List.map_append, List.flatten_append, List.length_append]
  omega
theorem flatUp_bound {α : Type} (f : α → List UInt8) (l : List α) (B : Nat) (h : ∀ x ∈ l, (f x).length ≤ B) (n : Int) : (flatUp f l n).length ≤ l.length * B := by
  unfold flatUp
  have h2 : ∀ l2 : List α, (∀ x ∈ l2, (f x).length ≤ B) → ((l2.map f).flatten).length ≤ l2.length * B := by
    intro l2
    induction l2 with
    | nil => intro _; simp
    | cons x xs ih =>
      intro hx
      rw [List.map_cons, List.flatten_cons, List.length_append, List.length_cons, Nat.add_mul]
      have h1 := hx x List.mem_cons_self
      have h3 := ih fun y hy => hx y (List.mem_cons_of_mem _ hy)
      omega
  refine Nat.le_trans (h2 _ fun x hx => h x (List.mem_of_mem_take hx)) ?_
  exact Nat.mul_le_mul_right _ (by rw [List.length_take]; omega)
theorem wordAt_len (ws : List ByteArray) (j : Nat) (B : Nat) (h : ∀ s ∈ ws, s.size ≤ B) : (wordAt ws j).length ≤ B + 1 := by
  have h1 : (ws.getD j ⟨#[]⟩).data.toList.length ≤ B := by
    rw [Array.length_toList]
    by_cases hj : j < ws.length
    · have : ws.getD j ⟨#[]⟩ = ws[j] := by simp [List.getD, hj]
      rw [this]; exact h _ (List.getElem_mem hj)
    · have : ws.getD j ⟨#[]⟩ = ⟨#[]⟩ := by simp [List.getD, hj]
      rw [this]; simp
  unfold wordAt
  rw [List.length_append]
  split <;> simp only [List.length_nil, List.length_cons] <;> omega
theorem upTo_len (ws : List ByteArray) (B : Nat) (h : ∀ s ∈ ws, s.size ≤ B) : ∀ n, (upTo ws n).length ≤ n * (B + 1)
  | 0 => by simp [upTo_zero]
  | n + 1 => by
    rw [upTo_succ, List.length_append, Nat.add_mul]
    have h1 := upTo_len ws B h n
    have h2 := wordAt_len ws n B h
    omega
theorem lineText_len (ws : List ByteArray) (B : Nat) (h : ∀ s ∈ ws, s.size ≤ B) : (lineText ws).length ≤ ws.length * (B + 1) + 1 := by
  unfold lineText
  rw [List.length_append]
  have := upTo_len ws B h ws.length
  simp only [List.length_cons, List.length_nil]; omega
theorem orE_both {a b : Int} (h : orE a b = 0) : a = 0 ∧ b = 0 := by
  unfold orE at h
  split at h
  · exact ⟨by assumption, h⟩
  · contradiction
theorem firstE_all {α : Type} {f : α → Int} : ∀ {l : List α}, firstE f l = 0 → ∀ x ∈ l, f x = 0
  | x :: xs, h, y, hy => by
    rw [firstE] at h
    obtain ⟨h1, h2⟩ := orE_both h
    rcases List.mem_cons.1 hy with rfl | hy
    · exact h1
    · exact firstE_all h2 y hy
structure OkCon (i q m : Int) (c : Con) : Prop where
  k0 : 0 ≤ c.f0
  k1 : c.f0 < 4
  a : chkAddr i q m c.f1.f0 c.f1.f1 = 0
  n2 : isNm c.f2.data.toList = true
  n3 : isNm c.f3.data.toList = true
structure OkCoil (i q m : Int) (c : Coil) : Prop where
  k0 : 0 ≤ c.f0
  k1 : c.f0 < 4
  a : chkAddr i q m c.f1.f0 c.f1.f1 = 0
  s : c.f1.f0 ≠ 0
structure OkRung (i q m : Int) (r : Rung) : Prop where
  lab : r.f0.toList.isEmpty = true ∨ isNm r.f0.data.toList = true
  n1 : r.f1.length ≤ 256
  cs : ∀ c ∈ r.f1, OkCon i q m c
  n2 : r.f2.length ≤ 16
  os : ∀ c ∈ r.f2, OkCoil i q m c
  jmp : r.f3.toList.isEmpty = true ∨ isNm r.f3.data.toList = true
theorem partE_ok {i q m k sp n : Int} (h : partE i q m k sp n = 0) : 0 ≤ k ∧ k < 4 ∧ chkAddr i q m sp n = 0 := by
  unfold partE at h
  split at h
  · cases h
  · exact ⟨by omega, by omega, h⟩
theorem conE_ok {i q m : Int} {c : Con} (h : conE i q m c = 0) : OkCon i q m c := by
  obtain ⟨h1, h2⟩ := orE_both h
  obtain ⟨h3, h4, h5⟩ := partE_ok h1
  have : (isNm c.f2.data.toList && isNm c.f3.data.toList) = true := by
    cases hb : (isNm c.f2.data.toList && isNm c.f3.data.toList) with
    | true => rfl
    | false => rw [hb] at h2; cases h2
  rw [Bool.and_eq_true] at this
  exact ⟨h3, h4, h5, this.1, this.2⟩
theorem coilE_ok {i q m : Int} {c : Coil} (h : coilE i q m c = 0) : OkCoil i q m c := by
  obtain ⟨h1, h2⟩ := orE_both h
  obtain ⟨h3, h4, h5⟩ := partE_ok h1
  refine ⟨h3, h4, h5, fun h0 => ?_⟩
  rw [if_pos h0] at h2; cases h2
theorem nameE_ok {L : ByteArray} (h : nameE L = 0) : L.toList.isEmpty = true ∨ isNm L.data.toList = true := by
  unfold nameE at h
  split at h
  · exact .inl (by assumption)
  · split at h
    · exact .inr (by assumption)
    · cases h
theorem labE_ok {a : List Rung} {L : ByteArray} (h : labE a L = 0) : L.toList.isEmpty = true ∨ (isNm L.data.toList = true ∧ hasLab a L = false) := by
  unfold labE at h
  split at h
  · exact .inl (by assumption)
  · split at h
    · split at h
      · cases h
      · rename_i hh; exact .inr ⟨by assumption, by simpa using hh⟩
    · cases h
theorem rungE_ok {i q m : Int} {a : List Rung} {r : Rung} (h : rungE i q m a r = 0) : OkRung i q m r := by
  obtain ⟨h1, h⟩ := orE_both h
  obtain ⟨h2, h⟩ := orE_both h
  obtain ⟨h3, h⟩ := orE_both h
  obtain ⟨h4, h⟩ := orE_both h
  obtain ⟨h5, h6⟩ := orE_both h
  refine ⟨(labE_ok h1).imp id (·.1), ?_, fun c hc => conE_ok (firstE_all h3 c hc), ?_, fun c hc => coilE_ok (firstE_all h5 c hc), nameE_ok h6⟩
  · split at h2
    · cases h2
    · omega
  · split at h4
    · cases h4
    · omega
/-- What Check lets in. -/
structure OkLad (i q m : Int) (l : List Rung) : Prop where
  sz : chkSize i q m 0 = 0
  n : l.length ≤ 64
  rg : ∀ k : Int, 0 ≤ k → k < l.length → rgAt i q m l k = 0
  jb : ∀ k : Int, 0 ≤ k → k < l.length → jbAt l k = false
theorem ladChk_okLad {i q m : Int} {l : List Rung} (h : (ladChk i q m l).2 = 0) : OkLad i q m l ∧ ladChk i q m l = ((l.length : Int), 0) := by
  by_cases h1 : chkSize i q m 0 = 0
  · by_cases h2 : 64 < l.length
    · rw [ladChk_many h1 h2] at h; cases h
    · have hz : ∀ k : Int, 0 ≤ k → k < l.length → rgAt i q m l k = 0 := by
        rw [ladChk, if_pos h1, if_neg h2] at h
        cases hf : (List.range l.length).find? (fun k => decide (rgAt i q m l (k : Nat) ≠ 0)) with
        | some k =>
          rw [hf] at h
          have hp := List.find?_some hf
          simp only [decide_eq_true_eq] at hp
          exact absurd h hp
        | none =>
          intro k k0 k1
          have := List.find?_eq_none.1 hf k.toNat (List.mem_range.2 (by omega))
          simpa [show ((k.toNat : Nat) : Int) = k by omega] using this
      have hj : ∀ k : Int, 0 ≤ k → k < l.length → jbAt l k = false := by
        rw [ladChk, if_pos h1, if_neg h2, find_none (fun j hj => decide_eq_false (by simpa using hz j (by omega) (by omega)))] at h
        simp only [] at h
        cases hf : (List.range l.length).find? (fun k => jbAt l (k : Nat)) with
        | some k => rw [hf] at h; cases h
        | none =>
          intro k k0 k1
          have := List.find?_eq_none.1 hf k.toNat (List.mem_range.2 (by omega))
          simpa [show ((k.toNat : Nat) : Int) = k by omega] using this
      exact ⟨⟨h1, by omega, hz, hj⟩, ladChk_ok h1 h2 hz hj⟩
  · rw [ladChk_size h1] at h; cases h
theorem OkLad.rung {i q m : Int} {l : List Rung} (h : OkLad i q m l) {r : Rung} (hr : r ∈ l) : OkRung i q m r := by
  obtain ⟨n, hn, rfl⟩ := List.getElem_of_mem hr
  have h1 := h.rg n (by omega) (by omega)
  have h2 : rdR l (n : Int) = l[n] := by simp [PPrinterRoundTrip.rd_T53, List.getD, hn]
  unfold rgAt at h1
  rw [h2] at h1
  exact rungE_ok h1
theorem isNm_len {l : List UInt8} (h : isNm l = true) : l.length ≤ 16 := by
  simp only [isNm, Bool.and_eq_true, decide_eq_true_eq] at h
  exact h.1.2
theorem nm_size {s : ByteArray} (h : isNm s.data.toList = true) : s.size ≤ 16 := by
  have := isNm_len h
  rwa [Array.length_toList] at this
theorem nm_or_size {s : ByteArray} (h : s.toList.isEmpty = true ∨ isNm s.data.toList = true) : s.size ≤ 16 := by
  rcases h with h | h
  · rw [toList_isEmpty] at h
    have := of_decide_eq_true h
    omega
  · exact nm_size h
theorem addr_size {i q m s n : Int} (hz : chkSize i q m 0 = 0) (h : chkAddr i q m s n = 0) : (addrFmt s n).size ≤ 16 := by
  have hv := valid_fmt i q m 0 s n hz h
  unfold addrFmt
  rw [if_neg hv]
  obtain ⟨k, rfl⟩ := Int.eq_ofNat_of_zero_le (show 0 ≤ n by omega)
  have := itoa_len k (by omega)
  rw [ByteArray.size_append]
  have : (⟨#[letterOf s]⟩ : ByteArray).size = 1 := rfl
  omega
theorem size_ok {i q m : Int} (h : chkSize i q m 0 = 0) : (0 ≤ i ∧ i ≤ 256) ∧ (0 ≤ q ∧ q ≤ 256) ∧ (0 ≤ m ∧ m ≤ 256) := by
  unfold chkSize at h
  split at h
  · rename_i hh; exact hh.2
  · cases h
theorem itoa_size {i : Int} (h : 0 ≤ i ∧ i ≤ 256) : (itoaS i).size ≤ 16 := by
  obtain ⟨k, rfl⟩ := Int.eq_ofNat_of_zero_le h.1
  have := itoa_len k (by omega)
  omega
theorem kw_size (j : Nat) : (kwC.getD j ⟨#[]⟩).size ≤ 16 ∧ (kwO.getD j ⟨#[]⟩).size ≤ 16 := by
  rcases Nat.lt_or_ge j 4 with h | h
  · match j, h with
    | 0, _ => decide
    | 1, _ => decide
    | 2, _ => decide
    | 3, _ => decide
  · have h1 : kwC.getD j ⟨#[]⟩ = ⟨#[]⟩ := by simp [List.getD, kwC, show (4 : Nat) ≤ j from h]
    have h2 : kwO.getD j ⟨#[]⟩ = ⟨#[]⟩ := by simp [List.getD, kwO, show (4 : Nat) ≤ j from h]
    rw [h1, h2]; decide
theorem sizeLine_len {i q m : Int} (h : chkSize i q m 0 = 0) : (lineText (sizeLine i q m)).length ≤ 70 := by
  obtain ⟨h1, h2, h3⟩ := size_ok h
  refine Nat.le_trans (lineText_len _ 16 ?_) (by simp [sizeLine])
  intro s hs
  simp only [sizeLine, List.mem_cons, List.not_mem_nil, or_false] at hs
  rcases hs with rfl | rfl | rfl | rfl
  · decide
  · exact itoa_size h1
  · exact itoa_size h2
  · exact itoa_size h3
theorem conText_len {i q m : Int} {c : Con} (hz : chkSize i q m 0 = 0) (h : OkCon i q m c) : (conText c).length ≤ 70 := by
  refine Nat.le_trans (lineText_len _ 16 ?_) (by simp [conLine])
  intro s hs
  simp only [conLine, List.mem_cons, List.not_mem_nil, or_false] at hs
  rcases hs with rfl | rfl | rfl | rfl
  · exact (kw_size _).1
  · exact addr_size hz h.a
  · exact nm_size h.n2
  · exact nm_size h.n3
theorem coilText_len {i q m : Int} {c : Coil} (hz : chkSize i q m 0 = 0) (h : OkCoil i q m c) : (coilText c).length ≤ 70 := by
  refine Nat.le_trans (lineText_len _ 16 ?_) (by simp [coilLine])
  intro s hs
  simp only [coilLine, List.mem_cons, List.not_mem_nil, or_false] at hs
  rcases hs with rfl | rfl
  · exact (kw_size _).2
  · exact addr_size hz h.a
theorem rungLine_len {i q m : Int} {r : Rung} (h : OkRung i q m r) : (lineText (rungLine r)).length ≤ 70 := by
  refine Nat.le_trans (lineText_len _ 16 ?_) (by simp [rungLine])
  intro s hs
  simp only [rungLine, List.mem_cons, List.not_mem_nil, or_false] at hs
  rcases hs with rfl | rfl
  · decide
  · exact nm_or_size h.lab
theorem jumpText_len {i q m : Int} {r : Rung} (h : OkRung i q m r) : (jumpText r).length ≤ 70 := by
  unfold jumpText
  split
  · simp
  · refine Nat.le_trans (lineText_len _ 16 ?_) (by simp [jumpLine])
    intro s hs
    simp only [jumpLine, List.mem_cons, List.not_mem_nil, or_false] at hs
    rcases hs with rfl | rfl
    · decide
    · exact nm_or_size h.jmp
theorem rungText_len {i q m : Int} {r : Rung} (hz : chkSize i q m 0 = 0) (h : OkRung i q m r) : (rungText r).length ≤ 20000 := by
  have h1 := rungLine_len h
  have h2 := flatUp_bound conText r.f1 70 (fun c hc => conText_len hz (h.cs c hc)) r.f1.length
  have h3 := flatUp_bound coilText r.f2 70 (fun c hc => coilText_len hz (h.os c hc)) r.f2.length
  have h4 := jumpText_len h
  have h5 := h.n1
  have h6 := h.n2
  simp only [rungText, List.length_append]
  omega
theorem ladText_len {i q m : Int} {l : List Rung} (h : OkLad i q m l) : (ladText i q m l).length ≤ 2000000 := by
  have h1 := sizeLine_len h.sz
  have h2 := flatUp_bound rungText l 20000 (fun r hr => rungText_len h.sz (h.rung hr)) l.length
  have h3 := h.n
  simp only [ladText, List.length_append]
  omega
end Go.Proofs.YtolmkdhgnganaaaGreatDoor.H
namespace Go.Proofs.YtolmkdhgnganaaaGreatDoor.H
open Go Go.RowKit Go.Proofs Go.Proofs.YtolmkdhgnganaaaGreatDoorW.PrintWords Go.Proofs.YtolmkdhgnganaaaGreatDoor.Sp
theorem KwRow.below {B : Nat} {kw : List ByteArray} {g p : Nat} {w w1 : World} (h : KwRow B kw g p w) (hb : Below w.heap.size w w1) : KwRow B kw g p w1 := by
  obtain ⟨h1, h2, cur, h3, h4⟩ := h
  exact ⟨h1, h2, cur, blk_below h3 hb, h4⟩
theorem KwRow.kept {B : Nat} {kw : List ByteArray} {g p b : Nat} {w w1 : World} (h : KwRow B kw g p w) (hk : Lib.OthersKept 5 (some b) w w1) (hg : g ≠ b) : KwRow B kw g p w1 := by
  obtain ⟨h1, h2, cur, h3, h4⟩ := h
  exact ⟨h1, h2, cur, kept_blk hk h3 hg (by decide), h4⟩
theorem KwRow.cell {B : Nat} {kw : List ByteArray} {g p : Nat} {w : World} (h : KwRow B kw g p w) (j : Nat) (hj : j < 4) : w.cell? ⟨g, j, none⟩ = some (.string (kw.getD j ⟨#[]⟩)) := by
  obtain ⟨h1, h2, cur, h3, h4⟩ := h
  exact (blk_cell h3 j).trans (h4 j hj)
theorem KwRow.lt {B : Nat} {kw : List ByteArray} {g p : Nat} {w : World} (h : KwRow B kw g p w) : g < w.heap.size := by
  obtain ⟨h1, h2, cur, h3, h4⟩ := h
  exact blk_lt h3
theorem at_below {T e B b : Nat} {p : Value} {bs : List Value} {w w1 : World} (h : Lib.BuilderAtF T e B b p bs w) (hb : Below w.heap.size w w1) : Lib.BuilderAtF T e B b p bs w1 := by
  obtain ⟨hB, v, hbk, hown, hne⟩ := h
  refine ⟨hB, v, blk_below hbk hb, ⟨hown.1, ?_⟩, hne⟩
  rcases hown.2 with h0 | ⟨g, cap, cur, fz, hv, hg, hh, r⟩
  · exact .inl h0
  · exact .inr ⟨g, cap, cur, fz, hv, hg, blk_below hh hb, r⟩
theorem bld_below {B b : Nat} {l : List UInt8} {w w1 : World} (h : Bld B b l w) (hb : Below w.heap.size w w1) : Bld B b l w1 :=
  h.elim (fun x => .inl (at_below x hb)) (fun x => .inr (at_below x hb))
theorem bld_lt {B b : Nat} {l : List UInt8} {w : World} (h : Bld B b l w) : b < w.heap.size := h.elim (fun x => x.lt) (fun x => x.lt)
/-- What stands while a ladder is printed. -/
structure PrF (w : World) (b g1 p1 g2 p2 : Nat) (i q m : Int) (A : Option Addr) (n c : Nat) (t : List UInt8) (wr : World) : Prop where
  be : Below w.heap.size w wr
  lb : w.heap.size < b
  kl : wr.heap[w.heap.size]? = some (.cells #[.int .i64 i, .int .i64 q, .int .i64 m, .slice A n c] 24 (0, 0))
  r1 : KwRow w.heap.size kwC g1 p1 wr
  r2 : KwRow w.heap.size kwO g2 p2 wr
  l1 : g1 < b
  l2 : g2 < b
  bl : Bld b b t wr
section
variable {w : World} {b g1 p1 g2 p2 : Nat} {i q m : Int} {A : Option Addr} {n c : Nat} {t : List UInt8} {wr : World}
theorem PrF.below {w1 : World} (h : PrF w b g1 p1 g2 p2 i q m A n c t wr) (hb : Below wr.heap.size wr w1) : PrF w b g1 p1 g2 p2 i q m A n c t w1 :=
  ⟨below_step h.be hb, h.lb, blk_below h.kl hb, h.r1.below hb, h.r2.below hb, h.l1, h.l2, bld_below h.bl hb⟩
theorem PrF.alloc (h : PrF w b g1 p1 g2 p2 i q m A n c t wr) (o : Obj) : PrF w b g1 p1 g2 p2 i q m A n c t (wr.alloc o) := h.below (below_alloc (Below.refl _ _) _)
theorem PrF.drew (h : PrF w b g1 p1 g2 p2 i q m A n c t wr) : PrF w b g1 p1 g2 p2 i q m A n c t wr.drew := h.below (below_drew (Below.refl _ _))
theorem PrF.line {t' : List UInt8} {w1 : World} (h : PrF w b g1 p1 g2 p2 i q m A n c t wr) (hk : BldK b b t' wr w1) : PrF w b g1 p1 g2 p2 i q m A n c t' w1 :=
  ⟨h.be.trans (Joins.below_le hk.be (Nat.le_of_lt h.lb)), h.lb, kept_blk hk.ok h.kl (by have := h.lb; omega) (by decide), h.r1.kept hk.ok (by have := h.l1; omega), h.r2.kept hk.ok (by have := h.l2; omega), h.l1, h.l2, hk.bl⟩
theorem PrF.cells (h : PrF w b g1 p1 g2 p2 i q m A n c t wr) :
    wr.cell? ⟨w.heap.size, 0, none⟩ = some (.int .i64 i) ∧ wr.cell? ⟨w.heap.size, 1, none⟩ = some (.int .i64 q) ∧ wr.cell? ⟨w.heap.size, 2, none⟩ = some (.int .i64 m) ∧ wr.cell? ⟨w.heap.size, 3, none⟩ = some (.slice A n c) :=
  ⟨blk_cell h.kl 0, blk_cell h.kl 1, blk_cell h.kl 2, blk_cell h.kl 3⟩
end
/-- printer.line, its words in a block that has just been made. -/
theorem line_at (b : Nat) (T : List UInt8) (ws : List ByteArray) (W : World) (h : Bld b b T W) (hmx : ws.length ≤ 4) (hlen : T.length + (lineText ws).length ≤ 140737488355328) (n : Nat) (hn : n = ws.length) (cs : Array Value) (hcs : cs = (ws.map Value.string).toArray) (g : Nat) (hg : g = W.heap.size) :
    Calls Tryz.prog 26 #[.pointer (some ⟨b, 0, none⟩), .slice (some ⟨g, 0, none⟩) n n] (W.alloc (.cells cs 9)) fun e w' => e = .returned (.tuple #[]) ∧ BldK b b (T ++ lineText ws) (W.alloc (.cells cs 9)) w' := by
  subst hn hcs hg
  have lb := bld_lt h
  exact line_b b b T _ ws _ (bld_below h (below_alloc (Below.refl _ _) _)) (blk_new _ _) (by omega) hlen (by have := bld_lt (bld_below h (below_alloc (Below.refl W.heap.size W) (.cells (ws.map Value.string).toArray 9))); omega) hmx
/-- .. and while a rung of it is. -/
structure RgF (w : World) (b g1 p1 g2 p2 : Nat) (i q m : Int) (A : Option Addr) (n c : Nat) (gr : Nat) (r : Rung) (A1 : Option Addr) (c1 : Nat) (A2 : Option Addr) (c2 : Nat) (t : List UInt8) (wr : World) : Prop where
  f : PrF w b g1 p1 g2 p2 i q m A n c t wr
  kr : wr.heap[gr]? = some (.cells #[.string r.f0, .slice A1 r.f1.length c1, .slice A2 r.f2.length c2, .string r.f3] 53 (0, 0))
  lg : b < gr
section
variable {w : World} {b g1 p1 g2 p2 : Nat} {i q m : Int} {A : Option Addr} {n c gr : Nat} {r : Rung} {A1 : Option Addr} {c1 : Nat} {A2 : Option Addr} {c2 : Nat} {t : List UInt8} {wr : World}
theorem RgF.below {w1 : World} (h : RgF w b g1 p1 g2 p2 i q m A n c gr r A1 c1 A2 c2 t wr) (hb : Below wr.heap.size wr w1) : RgF w b g1 p1 g2 p2 i q m A n c gr r A1 c1 A2 c2 t w1 :=
  ⟨h.f.below hb, blk_below h.kr hb, h.lg⟩
theorem RgF.alloc (h : RgF w b g1 p1 g2 p2 i q m A n c gr r A1 c1 A2 c2 t wr) (o : Obj) : RgF w b g1 p1 g2 p2 i q m A n c gr r A1 c1 A2 c2 t (wr.alloc o) := h.below (below_alloc (Below.refl _ _) _)
theorem RgF.drew (h : RgF w b g1 p1 g2 p2 i q m A n c gr r A1 c1 A2 c2 t wr) : RgF w b g1 p1 g2 p2 i q m A n c gr r A1 c1 A2 c2 t wr.drew := h.below (below_drew (Below.refl _ _))
theorem RgF.line {t' : List UInt8} {w1 : World} (h : RgF w b g1 p1 g2 p2 i q m A n c gr r A1 c1 A2 c2 t wr) (hk : BldK b b t' wr w1) : RgF w b g1 p1 g2 p2 i q m A n c gr r A1 c1 A2 c2 t' w1 :=
  ⟨h.f.line hk, kept_blk hk.ok h.kr (by have := h.lg; omega) (by decide), h.lg⟩
theorem RgF.cells (h : RgF w b g1 p1 g2 p2 i q m A n c gr r A1 c1 A2 c2 t wr) :
    wr.cell? ⟨gr, 0, none⟩ = some (.string r.f0) ∧ wr.cell? ⟨gr, 1, none⟩ = some (.slice A1 r.f1.length c1) ∧ wr.cell? ⟨gr, 2, none⟩ = some (.slice A2 r.f2.length c2) ∧ wr.cell? ⟨gr, 3, none⟩ = some (.string r.f3) ∧ gr < wr.heap.size ∧ b < wr.heap.size :=
  ⟨blk_cell h.kr 0, blk_cell h.kr 1, blk_cell h.kr 2, blk_cell h.kr 3, blk_lt h.kr, bld_lt h.f.bl⟩
end
theorem rdR_mem {l : List Rung} {k : Int} (h0 : 0 ≤ k) (hk : k < l.length) : rdR l k ∈ l := by
  have hn : k.toNat < l.length := by omega
  have : rdR l k = l[k.toNat] := by simp [PPrinterRoundTrip.rd_T53, List.getD, hn]
  rw [this]; exact List.getElem_mem hn
abbrev rdC (l : List Con) (k : Int) : Con := PPrinterRoundTrip.rd_T59 l k
abbrev rdO (l : List Coil) (k : Int) : Coil := PPrinterRoundTrip.rd_T69 l k
theorem rdC_mem {l : List Con} {k : Int} (h0 : 0 ≤ k) (hk : k < l.length) : rdC l k ∈ l := by
  have hn : k.toNat < l.length := by omega
  have : rdC l k = l[k.toNat] := by simp [PPrinterRoundTrip.rd_T59, List.getD, hn]
  rw [this]; exact List.getElem_mem hn
theorem rdO_mem {l : List Coil} {k : Int} (h0 : 0 ≤ k) (hk : k < l.length) : rdO l k ∈ l := by
  have hn : k.toNat < l.length := by omega
  have : rdO l k = l[k.toNat] := by simp [PPrinterRoundTrip.rd_T69, List.getD, hn]
  rw [this]; exact List.getElem_mem hn
set_option maxHeartbeats 2000000 in
set_option maxRecDepth 100000 in
theorem print_b (i q m : Int) (A : Option Addr) (c : Nat) (l : List Rung) (w : World) (hr : Kd.C kRung w A l.length l) (hc : l.length ≤ c) (hlt : Lets w) (hpw : Pows w) (hkw : Kws w) :
    Calls Tryz.prog 10 #[.agg #[.int .i64 i, .int .i64 q, .int .i64 m, .slice A l.length c]] w (RetB w (.tuple #[.string ⟨(ladPrint i q m l).1.toArray⟩, .int .i64 (ladPrint i q m l).2])) := by
  generalize hV : ladPrint i q m l = V
  have HV := Aside0.mk hV
  clear hV
  have C1 := ladChk_b i q m A c l (w.alloc (.cells #[.int .i64 i, .int .i64 q, .int .i64 m, .slice A l.length c] 24)) (Kd.C_alloc hr _) hc
  have hmax := Kd.C_max hr
  have GR := Aside0.mk hr
  clear hr
  have HL := Aside0.mk hlt
  have HP := Aside0.mk hpw
  have HK := Aside0.mk hkw
  clear hlt hpw hkw
  by_cases he : (ladChk i q m l).2 = 0
  · obtain ⟨ok, hchk⟩ := ladChk_okLad he
    have hn := ladText_len ok
    have hV2 : V = if 65536 < (ladText i q m l).length then ([], 7) else (ladText i q m l, 0) := by rw [← HV.out, ladPrint, if_pos he]
    have HV2 := Aside0.mk hV2
    have HO := Aside0.mk ok
    have HN := Aside0.mk hn
    clear HV hV2 he ok hn
    rw [hchk] at C1
    clear hchk
    go_enter Tryz.func10, Tryz.ntmps10
    go_wp2_with fail
    refine C1.mono ?_
    rintro e0 w1 ⟨rfl, hb1⟩
    have B1 := below_step (below_alloc (Below.refl w.heap.size w) _) hb1
    have KL1 := blk_below (blk_new w (.cells #[.int .i64 i, .int .i64 q, .int .i64 m, .slice A l.length c] 24)) hb1
    clear C1 hb1
    have HB1 := Aside0.mk B1
    have HKL1 := Aside0.mk KL1
    clear B1 KL1
    go_wp2_with fail
    refine (conKw_b _ (HK.out.below HB1.out)).mono ?_
    rintro e0 w2 ⟨g1, p1, rfl, R1, hb2⟩
    have HB2 := Aside0.mk (below_step HB1.out hb2)
    have HKL2 := Aside0.mk (blk_below HKL1.out hb2)
    have HR1 := Aside0.mk R1
    have lg1 := R1.lt
    clear R1 hb2
    go_wp2_with fail
    refine (coilKw_b _ (HK.out.below HB2.out)).mono ?_
    rintro e0 w3 ⟨g2, p2, rfl, R2, hb3⟩
    have F0 : PrF w w3.heap.size g1 p1 g2 p2 i q m A l.length c [] (w3.alloc (.cells #[.pointer none, .slice none 0 0] 64)) := by
      have hz : w.heap.size < w3.heap.size := Nat.lt_of_lt_of_le (blk_lt HKL2.out) hb3.size
      refine ⟨below_alloc (below_step HB2.out hb3) _, hz, blk_alloc (blk_below HKL2.out hb3) _, ?_, ?_, Nat.lt_of_lt_of_le lg1 hb3.size, R2.lt, Lib.IsBuilderF.of (Lib.fresh_isBuilder _ _ w3)⟩
      · obtain ⟨h1, h2⟩ := (HR1.out.below hb3).below (below_alloc (Below.refl w3.heap.size w3) (.cells #[.pointer none, .slice none 0 0] 64))
        exact ⟨by have := HB1.out.size; omega, h2⟩
      · obtain ⟨h1, h2⟩ := R2.below (below_alloc (Below.refl w3.heap.size w3) (.cells #[.pointer none, .slice none 0 0] 64))
        exact ⟨by have := HB2.out.size; omega, h2⟩
    have HF := Aside0.mk F0
    obtain ⟨l0, l1, l2, l3⟩ := F0.cells
    clear F0 R2 hb3 HR1 HKL2 HB2 HB1 HKL1 lg1
    go_wp2
    generalize hw5 : w3.alloc (.cells #[.pointer none, .slice none 0 0] 64) = w5 at HF l0 l1 l2 l3 ⊢
    clear hw5
    generalize w3.heap.size = b at HF ⊢
    have HI : ∀ x (W : World), (x = i ∨ x = q ∨ x = m) → Below w5.heap.size w5 W → Calls Tryz.prog 27 #[.int .i64 x] W (RetB W (.string (itoaS x))) := by
      intro x W hx hW
      have hz := size_ok HO.out.sz
      exact itoa_b x (by omega) (by omega) W (HP.out.below (below_step HF.out.be hW))
    have HIt := Aside0.mk HI
    clear HI
    have HC : Aside0 (Below w5.heap.size w5 w5.drew) := ⟨below_drew (Below.refl _ _)⟩
    go_region_held3 (fun w' => w'.cell? ⟨w.heap.size, 0, none⟩ = some (.int .i64 i) ∧ w'.cell? ⟨w.heap.size, 1, none⟩ = some (.int .i64 q) ∧ w'.cell? ⟨w.heap.size, 2, none⟩ = some (.int .i64 m))
      (first | go_keep | (refine ⟨pw_cell_below hb ?_, pw_cell_below hb ?_, pw_cell_below hb ?_⟩ <;> go_keep) | exact ⟨z0, z1, z2⟩)
      (first | (go_at_call 27; (with_reducible refine (HIt.out _ _ (by first | exact .inl rfl | exact .inr (.inl rfl) | exact .inr (.inr rfl)) HC.out).mono ?_); rintro e_ w1 ⟨rfl, hb⟩; have HC := Aside0.mk (below_step HC.out hb)) | (go_at_call 26; refine (line_b b b [] _ (sizeLine i q m) _ (bld_below ((HF.out.below HC.out).alloc _).bl (Below.refl _ _)) (blk_new _ _) (by have := bld_lt (HF.out.below HC.out).bl; omega) (by have := sizeLine_len HO.out.sz; simp; omega) (by have := bld_lt ((HF.out.below HC.out).alloc (.cells ((sizeLine i q m).map Value.string).toArray 9)).bl; exact Nat.le_of_lt this) (Nat.le_refl _)).mono ?_; rintro e_ w4 ⟨rfl, hK⟩; have HF2 := Aside0.mk (((HF.out.below HC.out).alloc _).line hK); obtain ⟨z0, z1, z2, z3⟩ := HF2.out.cells))
    have HF3 : Aside0 (PrF w b g1 p1 g2 p2 i q m A l.length c (lineText (sizeLine i q m) ++ flatUp rungText l 0) w4) := ⟨by have := HF2.out; simpa [flatUp_zero] using this⟩
    clear HF2 hK HC HIt hb l0 l1 l2 l3 HF z0 z1 z2
    go_wp2
    clear z3
    go_loopw [42] (fun cv w' => ∃ k : Int, cv = .int .i64 k ∧ 0 ≤ k ∧ k ≤ l.length ∧ Aside0 (PrF w b g1 p1 g2 p2 i q m A l.length c (lineText (sizeLine i q m) ++ flatUp rungText l k) w')) (fun cv _ => l.length - (intOf cv).toNat)
    case atStart => exact ⟨0, rfl, by omega, by omega, HF3⟩
    case round =>
      clear HF3
      obtain ⟨k, rfl, b0, b1, HF⟩ := hrel
      by_cases hk : k < l.length
      · obtain ⟨ad, A1, c1, A2, c2, hAd, x0, x1, x2, x3, hl1, hi1, hl2, hi2⟩ := PPrinterRoundTrip.at_T53 GR.out k b0 hk
        subst hAd
        replace x0 := pw_cell_below HF.out.be x0
        replace x1 := pw_cell_below HF.out.be x1
        replace x2 := pw_cell_below HF.out.be x2
        replace x3 := pw_cell_below HF.out.be x3
        have hwr : wrap64 (k + 1) = k + 1 := w64 (by omega) (by omega)
        have ht := flatUp_succ rungText l PPrinterRoundTrip.z53 b0 hk
        have hlen : (lineText (sizeLine i q m) ++ flatUp rungText l k ++ rungText (PPrinterRoundTrip.rd_T53 l k)).length ≤ 2000000 := by
          have h1 := flatUp_le rungText l (show k + 1 ≤ (l.length : Int) by omega)
          have h2 := HN.out
          rw [ht, List.length_append] at h1
          simp only [ladText, List.length_append] at h2 ⊢
          have e : rungText (PPrinterRoundTrip.rd_T53 l k) = rungText (l.getD k.toNat PPrinterRoundTrip.z53) := rfl
          rw [e]; omega
        have hok : OkRung i q m (PPrinterRoundTrip.rd_T53 l k) := HO.out.rung (rdR_mem b0 hk)
        have HT : Aside0 (∀ W, PrF w b g1 p1 g2 p2 i q m (some ad) l.length c (lineText (sizeLine i q m) ++ flatUp rungText l k ++ rungText (PPrinterRoundTrip.rd_T53 l k)) W → PrF w b g1 p1 g2 p2 i q m (some ad) l.length c (lineText (sizeLine i q m) ++ flatUp rungText l (k + 1)) W) :=
          ⟨fun W h => by rw [ht, ← List.append_assoc]; exact h⟩
        clear ht
        generalize PPrinterRoundTrip.rd_T53 l k = r at *
        generalize hTx : lineText (sizeLine i q m) ++ flatUp rungText l k = T at *
        clear hTx
        have HLen := Aside0.mk hlen
        have HOk := Aside0.mk hok
        have G1 := Aside0.mk hi1
        have G2 := Aside0.mk hi2
        have HC1 := Aside0.mk hl1
        have HC2 := Aside0.mk hl2
        have hm1 := hok.n1
        have hm2 := hok.n2
        clear hlen hok hi1 hi2 hl1 hl2
        have lb := bld_lt HF.out.bl
        have HFa := Aside0.mk (HF.out.alloc (.cells #[.string r.f0, .slice A1 r.f1.length c1, .slice A2 r.f2.length c2, .string r.f3] 53))
        have HKr := Aside0.mk (blk_new wr (.cells #[.string r.f0, .slice A1 r.f1.length c1, .slice A2 r.f2.length c2, .string r.f3] 53))
        go_wp2_with fail
        refine Calls.mono (line_at b T (rungLine r) _ HFa.out.bl (Nat.le_of_ble_eq_true rfl) (by have := HLen.out; simp only [rungText, List.length_append] at this; omega) _ rfl _ rfl _ (by simp)) ?_
        rintro e0 w1 ⟨rfl, hK⟩
        have HG0 : Aside0 (RgF w b g1 p1 g2 p2 i q m (some ad) l.length c wr.heap.size r A1 c1 A2 c2 (T ++ lineText (rungLine r) ++ flatUp conText r.f1 0) w1) := ⟨by have := ((RgF.mk HFa.out HKr.out lb).alloc _).line hK; simpa [flatUp_zero] using this⟩
        clear hK HFa HKr lb HF x0 x1 x2 x3
        generalize wr.heap.size = gr at HG0 ⊢
        obtain ⟨r0, r1, r2, r3, lg, lb⟩ := HG0.out.cells
        go_wp2
        clear r0 r1 r2 r3 lg lb
        go_loopw [54] (fun cv w' => ∃ j : Int, cv = .int .i64 j ∧ 0 ≤ j ∧ j ≤ r.f1.length ∧ Aside0 (RgF w b g1 p1 g2 p2 i q m (some ad) l.length c gr r A1 c1 A2 c2 (T ++ lineText (rungLine r) ++ flatUp conText r.f1 j) w')) (fun cv _ => r.f1.length - (intOf cv).toNat)
        case atStart => exact ⟨0, rfl, by omega, by omega, HG0⟩
        case round =>
          clear HG0
          obtain ⟨j, rfl, j0, j1, HG⟩ := hrel
          by_cases hj : j < r.f1.length
          · obtain ⟨ad1, hAd, x0, x1, x2, x3, x4⟩ := PPrinterRoundTrip.at_T59 G1.out j j0 hj
            subst hAd
            replace x0 := pw_cell_below HG.out.f.be x0
            replace x1 := pw_cell_below HG.out.f.be x1
            replace x2 := pw_cell_below HG.out.f.be x2
            replace x3 := pw_cell_below HG.out.f.be x3
            replace x4 := pw_cell_below HG.out.f.be x4
            have hjr : wrap64 (j + 1) = j + 1 := w64 (by omega) (by omega)
            have ht := flatUp_succ conText r.f1 PPrinterRoundTrip.z59 j0 hj
            have hlen : (T ++ lineText (rungLine r) ++ flatUp conText r.f1 j).length + (lineText (conLine (PPrinterRoundTrip.rd_T59 r.f1 j))).length ≤ 140737488355328 := by
              have h1 := flatUp_le conText r.f1 (show j + 1 ≤ (r.f1.length : Int) by omega)
              have h2 := HLen.out
              rw [ht, List.length_append] at h1
              simp only [rungText, List.length_append] at h2 ⊢
              have e : lineText (conLine (PPrinterRoundTrip.rd_T59 r.f1 j)) = conText (r.f1.getD j.toNat PPrinterRoundTrip.z59) := rfl
              rw [e]; omega
            have hok : OkCon i q m (PPrinterRoundTrip.rd_T59 r.f1 j) := HOk.out.cs _ (rdC_mem j0 hj)
            have HT2 : Aside0 (∀ W, RgF w b g1 p1 g2 p2 i q m (some ad) l.length c gr r (some ad1) c1 A2 c2 (T ++ lineText (rungLine r) ++ flatUp conText r.f1 j ++ lineText (conLine (PPrinterRoundTrip.rd_T59 r.f1 j))) W → RgF w b g1 p1 g2 p2 i q m (some ad) l.length c gr r (some ad1) c1 A2 c2 (T ++ lineText (rungLine r) ++ flatUp conText r.f1 (j + 1)) W) :=
              ⟨fun W h => by rw [ht, ← List.append_assoc]; exact h⟩
            clear ht
            generalize PPrinterRoundTrip.rd_T59 r.f1 j = cn at *
            generalize hTx : T ++ lineText (rungLine r) ++ flatUp conText r.f1 j = T2 at *
            clear hTx
            have k0 := hok.k0
            have k1 := hok.k1
            have HLen2 := Aside0.mk hlen
            have HOkc := Aside0.mk hok
            clear hlen hok
            have HG2 := Aside0.mk (HG.out.alloc (.cells #[.int .i64 cn.f0, .int .i64 cn.f1.f0, .int .i64 cn.f1.f1, .string cn.f2, .string cn.f3] 59))
            have HKc := Aside0.mk (blk_new wr (.cells #[.int .i64 cn.f0, .int .i64 cn.f1.f0, .int .i64 cn.f1.f1, .string cn.f2, .string cn.f3] 59))
            go_wp2
            generalize hW0 : wr.alloc (.cells #[.int .i64 cn.f0, .int .i64 cn.f1.f0, .int .i64 cn.f1.f1, .string cn.f2, .string cn.f3] 59) = W0 at HG2 HKc ⊢
            have hgc : b < wr.heap.size := bld_lt HG.out.f.bl
            clear hW0 x0 x1 x2 x3 x4 HG
            generalize wr.heap.size = gc at hgc HKc ⊢
            have n0 := blk_cell HKc.out 0
            have n1 := blk_cell HKc.out 1
            have n2 := blk_cell HKc.out 2
            have n3 := blk_cell HKc.out 3
            have n4 := blk_cell HKc.out 4
            have n5 := HG2.out.f.r1.cell cn.f0.toNat (by omega)
            obtain ⟨kwv, hkv⟩ : ∃ v, kwC.getD cn.f0.toNat ⟨#[]⟩ = v := ⟨_, rfl⟩
            rw [hkv] at n5
            have HKV := Aside0.mk hkv
            clear hkv
            have HFm : Aside0 (∀ W, Below W0.heap.size W0 W → Calls Tryz.prog 28 #[.agg #[.int .i64 cn.f1.f0, .int .i64 cn.f1.f1]] W (RetB W (.string (addrFmt cn.f1.f0 cn.f1.f1)))) :=
              ⟨fun W hW => fmt_b _ _ W (HL.out.below (below_step HG2.out.f.be hW)) (HP.out.below (below_step HG2.out.f.be hW))⟩
            have HC : Aside0 (Below W0.heap.size W0 W0.drew) := ⟨below_drew (Below.refl _ _)⟩
            go_region_held3 (fun w' => w'.cell? ⟨gc, 0, none⟩ = some (.int .i64 cn.f0) ∧ w'.cell? ⟨gc, 1, none⟩ = some (.int .i64 cn.f1.f0) ∧ w'.cell? ⟨gc, 2, none⟩ = some (.int .i64 cn.f1.f1) ∧ w'.cell? ⟨gc, 3, none⟩ = some (.string cn.f2) ∧ w'.cell? ⟨gc, 4, none⟩ = some (.string cn.f3) ∧ w'.cell? ⟨g1, cn.f0.toNat, none⟩ = some (.string kwv))
              (first | go_keep | (refine ⟨pw_cell_below hb ?_, pw_cell_below hb ?_, pw_cell_below hb ?_, pw_cell_below hb ?_, pw_cell_below hb ?_, pw_cell_below hb ?_⟩ <;> go_keep) | exact ⟨z0, z1, z2, z3, z4, z5⟩)
              (first | (go_at_call 28; (with_reducible refine (HFm.out _ HC.out).mono ?_); rintro e_ w1 ⟨rfl, hb⟩; have HC := Aside0.mk (below_step HC.out hb)) | (go_at_call 26; refine Calls.mono (line_at b T2 (conLine cn) _ (HG2.out.below HC.out).f.bl (Nat.le_of_ble_eq_true rfl) HLen2.out _ rfl _ (by rw [conLine, HKV.out]; rfl) _ (by simp)) ?_; rintro e_ w4 ⟨rfl, hK⟩; have HG3 := Aside0.mk (((HG2.out.below HC.out).alloc _).line hK); have HK3 := kept_blk hK.ok (blk_alloc (blk_below HKc.out HC.out) _) (show gc ≠ b by omega) (by decide); have z0 := blk_cell HK3 0; have z1 := blk_cell HK3 1; have z2 := blk_cell HK3 2; have z3 := blk_cell HK3 3; have z4 := blk_cell HK3 4; have z5 := HKV.out ▸ HG3.out.f.r1.cell cn.f0.toNat (by omega)))
            have HG4 := Aside0.mk (HT2.out _ HG3.out)
            clear HG3 hK HK3 HC HFm z0 z1 z2 z3 z4 z5 n0 n1 n2 n3 n4 n5 hb
            go_wp2
            go_roundw
            case rel => exact ⟨j + 1, by simp [hjr], by omega, by omega, HG4⟩
            case measure => simp [intOf, hjr]; omega
          · obtain rfl : j = r.f1.length := by omega
            have HG0 : Aside0 (RgF w b g1 p1 g2 p2 i q m (some ad) l.length c gr r A1 c1 A2 c2 (T ++ lineText (rungLine r) ++ flatUp conText r.f1 r.f1.length ++ flatUp coilText r.f2 0) wr) := ⟨by have := HG.out; simpa [flatUp_zero] using this⟩
            clear HG j0 j1 hj
            obtain ⟨r0, r1, r2, r3, lg, lb⟩ := HG0.out.cells
            go_wp2
            clear r0 r1 r2 r3 lg lb
            go_loopw [77] (fun cv w' => ∃ j : Int, cv = .int .i64 j ∧ 0 ≤ j ∧ j ≤ r.f2.length ∧ Aside0 (RgF w b g1 p1 g2 p2 i q m (some ad) l.length c gr r A1 c1 A2 c2 (T ++ lineText (rungLine r) ++ flatUp conText r.f1 r.f1.length ++ flatUp coilText r.f2 j) w')) (fun cv _ => r.f2.length - (intOf cv).toNat)
            case atStart => exact ⟨0, rfl, by omega, by omega, HG0⟩
            case round =>
              clear HG0
              obtain ⟨j, rfl, j0, j1, HG⟩ := hrel
              by_cases hj : j < r.f2.length
              · obtain ⟨ad2, hAd, x0, x1, x2⟩ := PPrinterRoundTrip.at_T69 G2.out j j0 hj
                subst hAd
                replace x0 := pw_cell_below HG.out.f.be x0
                replace x1 := pw_cell_below HG.out.f.be x1
                replace x2 := pw_cell_below HG.out.f.be x2
                have hjr : wrap64 (j + 1) = j + 1 := w64 (by omega) (by omega)
                have ht := flatUp_succ coilText r.f2 PPrinterRoundTrip.z69 j0 hj
                have hlen : (T ++ lineText (rungLine r) ++ flatUp conText r.f1 r.f1.length ++ flatUp coilText r.f2 j).length + (lineText (coilLine (PPrinterRoundTrip.rd_T69 r.f2 j))).length ≤ 140737488355328 := by
                  have h1 := flatUp_le coilText r.f2 (show j + 1 ≤ (r.f2.length : Int) by omega)
                  have h2 := HLen.out
                  rw [ht, List.length_append] at h1
                  simp only [rungText, List.length_append] at h2 ⊢
                  have e : lineText (coilLine (PPrinterRoundTrip.rd_T69 r.f2 j)) = coilText (r.f2.getD j.toNat PPrinterRoundTrip.z69) := rfl
                  rw [e]; omega
                have hok : OkCoil i q m (PPrinterRoundTrip.rd_T69 r.f2 j) := HOk.out.os _ (rdO_mem j0 hj)
                have HT2 : Aside0 (∀ W, RgF w b g1 p1 g2 p2 i q m (some ad) l.length c gr r A1 c1 (some ad2) c2 (T ++ lineText (rungLine r) ++ flatUp conText r.f1 r.f1.length ++ flatUp coilText r.f2 j ++ lineText (coilLine (PPrinterRoundTrip.rd_T69 r.f2 j))) W → RgF w b g1 p1 g2 p2 i q m (some ad) l.length c gr r A1 c1 (some ad2) c2 (T ++ lineText (rungLine r) ++ flatUp conText r.f1 r.f1.length ++ flatUp coilText r.f2 (j + 1)) W) :=
                  ⟨fun W h => by rw [ht, ← List.append_assoc]; exact h⟩
                clear ht
                generalize PPrinterRoundTrip.rd_T69 r.f2 j = cn at *
                generalize hTx : T ++ lineText (rungLine r) ++ flatUp conText r.f1 r.f1.length ++ flatUp coilText r.f2 j = T2 at *
                clear hTx
                have k0 := hok.k0
                have k1 := hok.k1
                have HLen2 := Aside0.mk hlen
                clear hlen hok
                have HG2 := Aside0.mk (HG.out.alloc (.cells #[.int .i64 cn.f0, .int .i64 cn.f1.f0, .int .i64 cn.f1.f1] 69))
                have HKc := Aside0.mk (blk_new wr (.cells #[.int .i64 cn.f0, .int .i64 cn.f1.f0, .int .i64 cn.f1.f1] 69))
                go_wp2
                generalize hW0 : wr.alloc (.cells #[.int .i64 cn.f0, .int .i64 cn.f1.f0, .int .i64 cn.f1.f1] 69) = W0 at HG2 HKc ⊢
                have hgc : b < wr.heap.size := bld_lt HG.out.f.bl
                clear hW0 x0 x1 x2 HG
                generalize wr.heap.size = gc at hgc HKc ⊢
                have n0 := blk_cell HKc.out 0
                have n1 := blk_cell HKc.out 1
                have n2 := blk_cell HKc.out 2
                have n5 := HG2.out.f.r2.cell cn.f0.toNat (by omega)
                obtain ⟨kwv, hkv⟩ : ∃ v, kwO.getD cn.f0.toNat ⟨#[]⟩ = v := ⟨_, rfl⟩
                rw [hkv] at n5
                have HKV := Aside0.mk hkv
                clear hkv
                have HFm : Aside0 (∀ W, Below W0.heap.size W0 W → Calls Tryz.prog 28 #[.agg #[.int .i64 cn.f1.f0, .int .i64 cn.f1.f1]] W (RetB W (.string (addrFmt cn.f1.f0 cn.f1.f1)))) :=
                  ⟨fun W hW => fmt_b _ _ W (HL.out.below (below_step HG2.out.f.be hW)) (HP.out.below (below_step HG2.out.f.be hW))⟩
                have HC : Aside0 (Below W0.heap.size W0 W0.drew) := ⟨below_drew (Below.refl _ _)⟩
                go_region_held3 (fun w' => w'.cell? ⟨gc, 0, none⟩ = some (.int .i64 cn.f0) ∧ w'.cell? ⟨gc, 1, none⟩ = some (.int .i64 cn.f1.f0) ∧ w'.cell? ⟨gc, 2, none⟩ = some (.int .i64 cn.f1.f1) ∧ w'.cell? ⟨g2, cn.f0.toNat, none⟩ = some (.string kwv))
                  (first | go_keep | (refine ⟨pw_cell_below hb ?_, pw_cell_below hb ?_, pw_cell_below hb ?_, pw_cell_below hb ?_⟩ <;> go_keep) | exact ⟨z0, z1, z2, z5⟩)
                  (first | (go_at_call 28; (with_reducible refine (HFm.out _ HC.out).mono ?_); rintro e_ w1 ⟨rfl, hb⟩; have HC := Aside0.mk (below_step HC.out hb)) | (go_at_call 26; refine Calls.mono (line_at b T2 (coilLine cn) _ (HG2.out.below HC.out).f.bl (Nat.le_of_ble_eq_true rfl) HLen2.out _ rfl _ (by rw [coilLine, HKV.out]; rfl) _ (by simp)) ?_; rintro e_ w4 ⟨rfl, hK⟩; have HG3 := Aside0.mk (((HG2.out.below HC.out).alloc _).line hK); have HK3 := kept_blk hK.ok (blk_alloc (blk_below HKc.out HC.out) _) (show gc ≠ b by omega) (by decide); have z0 := blk_cell HK3 0; have z1 := blk_cell HK3 1; have z2 := blk_cell HK3 2; have z5 := HKV.out ▸ HG3.out.f.r2.cell cn.f0.toNat (by omega)))
                have HG4 := Aside0.mk (HT2.out _ HG3.out)
                clear HG3 hK HK3 HC HFm z0 z1 z2 z5 n0 n1 n2 n5 hb
                go_wp2
                go_roundw
                case rel => exact ⟨j + 1, by simp [hjr], by omega, by omega, HG4⟩
                case measure => simp [intOf, hjr]; omega
              · obtain rfl : j = r.f2.length := by omega
                clear j0 j1 hj
                obtain ⟨r0, r1, r2, r3, lg, lb⟩ := HG.out.cells
                have hrt : rungText r = lineText (rungLine r) ++ flatUp conText r.f1 r.f1.length ++ flatUp coilText r.f2 r.f2.length ++ jumpText r := rfl
                by_cases hjm : r.f3.toList = []
                · have hjm2 : r.f3.toList.isEmpty = true := by rw [hjm]; rfl
                  have HF9 := Aside0.mk (HT.out _ (by rw [hrt, show jumpText r = [] by unfold jumpText; rw [if_pos hjm2]]; have := HG.out.f; simpa only [List.append_assoc, List.append_nil] using this))
                  go_wp2
                  go_roundw
                  case rel => exact ⟨k + 1, by simp [hwr], by omega, by omega, HF9⟩
                  case measure => simp [intOf, hwr]; omega
                · have hjm2 : r.f3.toList.isEmpty = false := by simpa using hjm
                  have hjt : jumpText r = lineText (jumpLine r) := by unfold jumpText; rw [hjm2]; rfl
                  go_wp2_with fail
                  refine Calls.mono (line_at b _ (jumpLine r) _ HG.out.f.bl (Nat.le_of_ble_eq_true rfl) (by have := HLen.out; rw [hrt, hjt] at this; simp only [List.length_append] at this ⊢; omega) _ rfl _ rfl _ (by simp)) ?_
                  rintro e0 w1 ⟨rfl, hK⟩
                  have HF9 := Aside0.mk (HT.out _ (by rw [hrt, hjt]; have := ((HG.out.alloc _).line hK).f; simpa only [List.append_assoc] using this))
                  go_wp2
                  go_roundw
                  case rel => exact ⟨k + 1, by simp [hwr], by omega, by omega, HF9⟩
                  case measure => simp [intOf, hwr]; omega
      · obtain rfl : k = l.length := by omega
        have HB : Aside0 (Bld b b (ladText i q m l) wr) := ⟨HF.out.bl⟩
        have BE := Aside0.mk HF.out.be
        have lb := HF.out.lb
        clear HF b0 b1 hk
        have hln : (Lib.byteCells (ladText i q m l)).length = (ladText i q m l).length := Lib.byteCells_length _
        go_wp2_with fail
        refine (Tryz.Builder_Len_f b b _ wr HB.out).mono ?_
        rintro e0 w1 ⟨rfl, rfl⟩
        rw [hln]
        by_cases hbig : 65536 < (ladText i q m l).length
        · obtain rfl : V = ([], 7) := by rw [HV2.out, if_pos hbig]
          have hbi : (65536 : Int) < ((ladText i q m l).length : Int) := by omega
          have BB := BE.out
          go_wp2
          go_ret2
          exact ⟨rfl, BB⟩
        · obtain rfl : V = (ladText i q m l, 0) := by rw [HV2.out, if_neg hbig]
          have hbi : ((65536 : Int) < ((ladText i q m l).length : Int)) = False := eq_false (by omega)
          have hbd : decide ((65536 : Int) < ((ladText i q m l).length : Int)) = false := decide_eq_false (by omega)
          clear hbig hln HV2 HN
          go_wp2_with fail
          refine (Tryz.Builder_String_any_f b b (ladText i q m l) _ HB.out (Nat.le_of_lt (bld_lt HB.out))).mono ?_
          rintro e0 w2 ⟨rfl, _, hbe⟩
          have BB := BE.out.trans (Joins.below_le hbe (Nat.le_of_lt lb))
          go_wp2
          go_ret2
          exact ⟨rfl, BB⟩
  · obtain rfl : V = ([], (ladChk i q m l).2) := by rw [← HV.out, ladPrint, if_neg he]
    generalize ladChk i q m l = ck at he C1
    obtain ⟨ck1, ck2⟩ := ck
    simp only [] at he C1
    clear HV
    go_enter Tryz.func10, Tryz.ntmps10
    go_wp2_with fail
    refine C1.mono ?_
    rintro e0 w1 ⟨rfl, hb1⟩
    have B1 := below_step (below_alloc (Below.refl w.heap.size w) _) hb1
    go_wp2
    go_ret2
    exact ⟨rfl, B1⟩
end Go.Proofs.YtolmkdhgnganaaaGreatDoor.H
namespace Go.Proofs.YtolmkdhgnganaaaGreatDoor.H
open Go Go.RowKit Go.Proofs Go.Proofs.YtolmkdhgnganaaaGreatDoorW.PrintWords Go.Proofs.YtolmkdhgnganaaaGreatDoor.Sp
def exR : Rung := ⟨⟨#[]⟩, [⟨0, ⟨0, 0⟩, ⟨#[76]⟩, ⟨#[82]⟩⟩], [⟨0, ⟨1, 0⟩⟩], ⟨#[]⟩⟩
theorem C_one {α : Type} (d : Kd α) (w : World) (ad : Addr) (x : α) (c : List Value) (hs : c.length = d.sz) (hk : d.K w x c) (h : ∀ i u, c[i]? = some u → w.cell? (ad.add i) = some u) : d.C w (some ad) 1 [x] := by
  refine ⟨rfl, by decide, fun _ => ⟨ad, rfl, fun j p hj => ?_⟩⟩
  match j, hj with
  | 0, hj =>
    obtain rfl : x = p := by simpa using hj
    exact ⟨c, hs, hk, fun i u hu => by rw [Nat.zero_mul, Nat.zero_add]; exact h i u hu⟩
theorem example_b (w : World) : Calls Tryz.prog 25 #[] w fun e w' => ∃ g, e = .returned (.agg #[.int .i64 1, .int .i64 1, .int .i64 0, .slice (some ⟨g, 0, none⟩) 1 1]) ∧ Below w.heap.size w w' ∧ Kd.C kRung w' (some ⟨g, 0, none⟩) 1 [exR] := by
  go_enter Tryz.func25, Tryz.ntmps25
  go_wp2
  have K0 : ((((w.alloc (.cells #[.int .i64 1, .int .i64 1, .int .i64 0, .slice (some ⟨w.heap.size + 1 + 1 + 1, 0, none⟩) 1 1] 24)).alloc (.cells #[.int .i64 0, .int .i64 0, .int .i64 0, .string ⟨#[76]⟩, .string ⟨#[82]⟩] 59)).alloc (.cells #[.int .i64 0, .int .i64 1, .int .i64 0] 69)).alloc
      (.cells #[.string ⟨#[]⟩, .slice (some ⟨w.heap.size + 1, 0, none⟩) 1 1, .slice (some ⟨w.heap.size + 1 + 1, 0, none⟩) 1 1, .string ⟨#[]⟩] 53)).heap[w.heap.size]? = _ := blk_alloc (blk_alloc (blk_alloc (blk_new w _) _) _) _
  have K1 : ((((w.alloc (.cells #[.int .i64 1, .int .i64 1, .int .i64 0, .slice (some ⟨w.heap.size + 1 + 1 + 1, 0, none⟩) 1 1] 24)).alloc (.cells #[.int .i64 0, .int .i64 0, .int .i64 0, .string ⟨#[76]⟩, .string ⟨#[82]⟩] 59)).alloc (.cells #[.int .i64 0, .int .i64 1, .int .i64 0] 69)).alloc
      (.cells #[.string ⟨#[]⟩, .slice (some ⟨w.heap.size + 1, 0, none⟩) 1 1, .slice (some ⟨w.heap.size + 1 + 1, 0, none⟩) 1 1, .string ⟨#[]⟩] 53)).heap[w.heap.size + 1]? = some (.cells #[.int .i64 0, .int .i64 0, .int .i64 0, .string ⟨#[76]⟩, .string ⟨#[82]⟩] 59 (0, 0)) :=
    blk_alloc (blk_alloc (by have := blk_new (w.alloc (.cells #[.int .i64 1, .int .i64 1, .int .i64 0, .slice (some ⟨w.heap.size + 1 + 1 + 1, 0, none⟩) 1 1] 24)) (.cells #[.int .i64 0, .int .i64 0, .int .i64 0, .string ⟨#[76]⟩, .string ⟨#[82]⟩] 59); simpa using this) _) _
  have K2 : ((((w.alloc (.cells #[.int .i64 1, .int .i64 1, .int .i64 0, .slice (some ⟨w.heap.size + 1 + 1 + 1, 0, none⟩) 1 1] 24)).alloc (.cells #[.int .i64 0, .int .i64 0, .int .i64 0, .string ⟨#[76]⟩, .string ⟨#[82]⟩] 59)).alloc (.cells #[.int .i64 0, .int .i64 1, .int .i64 0] 69)).alloc
      (.cells #[.string ⟨#[]⟩, .slice (some ⟨w.heap.size + 1, 0, none⟩) 1 1, .slice (some ⟨w.heap.size + 1 + 1, 0, none⟩) 1 1, .string ⟨#[]⟩] 53)).heap[w.heap.size + 1 + 1]? = some (.cells #[.int .i64 0, .int .i64 1, .int .i64 0] 69 (0, 0)) :=
    blk_alloc (by have := blk_new ((w.alloc (.cells #[.int .i64 1, .int .i64 1, .int .i64 0, .slice (some ⟨w.heap.size + 1 + 1 + 1, 0, none⟩) 1 1] 24)).alloc (.cells #[.int .i64 0, .int .i64 0, .int .i64 0, .string ⟨#[76]⟩, .string ⟨#[82]⟩] 59)) (.cells #[.int .i64 0, .int .i64 1, .int .i64 0] 69); simpa using this) _
  have K3 : ((((w.alloc (.cells #[.int .i64 1, .int .i64 1, .int .i64 0, .slice (some ⟨w.heap.size + 1 + 1 + 1, 0, none⟩) 1 1] 24)).alloc (.cells #[.int .i64 0, .int .i64 0, .int .i64 0, .string ⟨#[76]⟩, .string ⟨#[82]⟩] 59)).alloc (.cells #[.int .i64 0, .int .i64 1, .int .i64 0] 69)).alloc
      (.cells #[.string ⟨#[]⟩, .slice (some ⟨w.heap.size + 1, 0, none⟩) 1 1, .slice (some ⟨w.heap.size + 1 + 1, 0, none⟩) 1 1, .string ⟨#[]⟩] 53)).heap[w.heap.size + 1 + 1 + 1]? = some (.cells #[.string ⟨#[]⟩, .slice (some ⟨w.heap.size + 1, 0, none⟩) 1 1, .slice (some ⟨w.heap.size + 1 + 1, 0, none⟩) 1 1, .string ⟨#[]⟩] 53 (0, 0)) := by
    have := blk_new (((w.alloc (.cells #[.int .i64 1, .int .i64 1, .int .i64 0, .slice (some ⟨w.heap.size + 1 + 1 + 1, 0, none⟩) 1 1] 24)).alloc (.cells #[.int .i64 0, .int .i64 0, .int .i64 0, .string ⟨#[76]⟩, .string ⟨#[82]⟩] 59)).alloc (.cells #[.int .i64 0, .int .i64 1, .int .i64 0] 69)) (.cells #[.string ⟨#[]⟩, .slice (some ⟨w.heap.size + 1, 0, none⟩) 1 1, .slice (some ⟨w.heap.size + 1 + 1, 0, none⟩) 1 1, .string ⟨#[]⟩] 53)
    simpa using this
  have hB : Below w.heap.size w ((((w.alloc (.cells #[.int .i64 1, .int .i64 1, .int .i64 0, .slice (some ⟨w.heap.size + 1 + 1 + 1, 0, none⟩) 1 1] 24)).alloc (.cells #[.int .i64 0, .int .i64 0, .int .i64 0, .string ⟨#[76]⟩, .string ⟨#[82]⟩] 59)).alloc (.cells #[.int .i64 0, .int .i64 1, .int .i64 0] 69)).alloc
      (.cells #[.string ⟨#[]⟩, .slice (some ⟨w.heap.size + 1, 0, none⟩) 1 1, .slice (some ⟨w.heap.size + 1 + 1, 0, none⟩) 1 1, .string ⟨#[]⟩] 53)) := below_alloc (below_alloc (below_alloc (below_alloc (Below.refl _ _) _) _) _) _
  generalize ((((w.alloc (.cells #[.int .i64 1, .int .i64 1, .int .i64 0, .slice (some ⟨w.heap.size + 1 + 1 + 1, 0, none⟩) 1 1] 24)).alloc (.cells #[.int .i64 0, .int .i64 0, .int .i64 0, .string ⟨#[76]⟩, .string ⟨#[82]⟩] 59)).alloc (.cells #[.int .i64 0, .int .i64 1, .int .i64 0] 69)).alloc
      (.cells #[.string ⟨#[]⟩, .slice (some ⟨w.heap.size + 1, 0, none⟩) 1 1, .slice (some ⟨w.heap.size + 1 + 1, 0, none⟩) 1 1, .string ⟨#[]⟩] 53)) = W at *
  have c0 := blk_cell K0 0
  have c1 := blk_cell K0 1
  have c2 := blk_cell K0 2
  have c3 := blk_cell K0 3
  have hC : Kd.C kRung W (some ⟨w.heap.size + 1 + 1 + 1, 0, none⟩) 1 [exR] := by
    refine C_one kRung W _ exR [.string ⟨#[]⟩, .slice (some ⟨w.heap.size + 1, 0, none⟩) 1 1, .slice (some ⟨w.heap.size + 1 + 1, 0, none⟩) 1 1, .string ⟨#[]⟩] rfl
      (PPrinterRoundTrip.k53_mk W exR (A1 := some ⟨w.heap.size + 1, 0, none⟩) (c1 := 1) (Nat.le_refl _) ?_ (A2 := some ⟨w.heap.size + 1 + 1, 0, none⟩) (c2 := 1) (Nat.le_refl _) ?_) (fun i u hu => by rw [add_plain]; exact (blk_cell K3 i).trans (by simpa using hu))
    · exact C_one kCon W _ _ [.int .i64 0, .int .i64 0, .int .i64 0, .string ⟨#[76]⟩, .string ⟨#[82]⟩] rfl (PPrinterRoundTrip.k59_mk W _) (fun i u hu => by rw [add_plain]; exact (blk_cell K1 i).trans (by simpa using hu))
    · exact C_one kCoil W _ _ [.int .i64 0, .int .i64 1, .int .i64 0] rfl (PPrinterRoundTrip.k69_mk W _) (fun i u hu => by rw [add_plain]; exact (blk_cell K2 i).trans (by simpa using hu))
  clear K0 K1 K2 K3
  refine bodyPost_ret (v := .agg #[.int .i64 1, .int .i64 1, .int .i64 0, .slice (some ⟨w.heap.size + 1 + 1 + 1, 0, none⟩) 1 1]) ?_ rfl ⟨_, rfl, hB, hC⟩
  simp [results, Tryz.results25, go_sem, c0, c1, c2, c3]
def exT : List UInt8 := [115, 105, 122, 101, 32, 49, 32, 49, 32, 48, 10, 114, 117, 110, 103, 10, 110, 111, 32, 73, 48, 32, 76, 32, 82, 10, 111, 117, 116, 32, 81, 48, 10]
theorem exPrint : ladPrint 1 1 0 [exR] = (exT, 0) := by decide +kernel
theorem alive11_b (w : World) (hlt : Lets w) (hpw : Pows w) (hkw : Kws w) : Calls Tryz.prog 9 #[] w (RetB w (.bool true)) := by
  have HL := Aside0.mk hlt
  have HP := Aside0.mk hpw
  have HK := Aside0.mk hkw
  clear hlt hpw hkw
  go_enter Tryz.func9, Tryz.ntmps9
  go_wp2_with fail
  refine (example_b w).mono ?_
  rintro e w1 ⟨g, rfl, hb, hC⟩
  have C1 := print_b 1 1 0 (some ⟨g, 0, none⟩) 1 [exR] w1 hC (Nat.le_refl _) (HL.out.below hb) (HP.out.below hb) (HK.out.below hb)
  rw [exPrint] at C1
  go_wp2_with fail
  refine C1.mono ?_
  rintro e w2 ⟨rfl, hb2⟩
  have hB := below_step hb hb2
  have ht : (ByteArray.mk exT.toArray) = ⟨#[115, 105, 122, 101, 32, 49, 32, 49, 32, 48, 10, 114, 117, 110, 103, 10, 110, 111, 32, 73, 48, 32, 76, 32, 82, 10, 111, 117, 116, 32, 81, 48, 10]⟩ := rfl
  simp only [ht]
  clear C1 hC
  go_wp2
  go_ret
  exact ⟨rfl, hB⟩
end Go.Proofs.YtolmkdhgnganaaaGreatDoor.H
namespace Go.Proofs.YtolmkdhgnganaaaGreatDoor.H
open Go Go.RowKit Go.Proofs Go.Proofs.YtolmkdhgnganaaaGreatDoorW.PrintWords Go.Proofs.YtolmkdhgnganaaaGreatDoor.Sp
/-- Two blocks of the call's own stand, and what was there is as it was. -/
structure TwoF (w : World) (g1 : Nat) (cs1 : Array Value) (t1 : Nat) (wr : World) : Prop where
  b : Below w.heap.size w wr
  k1 : wr.heap[g1]? = some (.cells cs1 t1 (0, 0))
theorem TwoF.below {w : World} {g1 : Nat} {cs1 : Array Value} {t1 : Nat} {wr w1 : World} (h : TwoF w g1 cs1 t1 wr) (hb : Below wr.heap.size wr w1) : TwoF w g1 cs1 t1 w1 := ⟨below_step h.b hb, blk_below h.k1 hb⟩
theorem TwoF.alloc {w : World} {g1 : Nat} {cs1 : Array Value} {t1 : Nat} {wr : World} (h : TwoF w g1 cs1 t1 wr) (o : Obj) : TwoF w g1 cs1 t1 (wr.alloc o) := h.below (below_alloc (Below.refl _ _) _)
/-- What TooLarge answers: some number. -/
def SomeInt (w : World) (e : Ending) (w' : World) : Prop := ∃ r : Int, e = .returned (.int .i64 r) ∧ Below w.heap.size w w'
set_option maxHeartbeats 1000000 in
set_option maxRecDepth 100000 in
theorem large_b (i q m : Int) (A : Option Addr) (c : Nat) (l : List Rung) (w : World) (hr : Kd.C kRung w A l.length l) (hc : l.length ≤ c) :
    Calls Tryz.prog 8 #[.agg #[.int .i64 i, .int .i64 q, .int .i64 m, .slice A l.length c]] w (SomeInt w) := by
  have hmax := Kd.C_max hr
  have GR := Aside0.mk hr
  clear hr
  have F0 : Aside0 (TwoF w w.heap.size #[.int .i64 i, .int .i64 q, .int .i64 m, .slice A l.length c] 24 (w.alloc (.cells #[.int .i64 i, .int .i64 q, .int .i64 m, .slice A l.length c] 24))) :=
    ⟨⟨below_alloc (Below.refl _ _) _, blk_new _ _⟩⟩
  go_enter Tryz.func8, Tryz.ntmps8
  go_wp2
  go_loopw [3, 11] (fun v3 cv w' => ∃ (n k : Int), v3 = .int .i64 n ∧ cv = .int .i64 k ∧ 0 ≤ k ∧ k ≤ l.length ∧ Aside0 (TwoF w w.heap.size #[.int .i64 i, .int .i64 q, .int .i64 m, .slice A l.length c] 24 w')) (fun _ cv _ => l.length - (intOf cv).toNat)
  case atStart => exact ⟨0, 0, rfl, rfl, by omega, by omega, F0⟩
  case round =>
    clear F0
    obtain ⟨n, k, rfl, rfl, b0, b1, HF⟩ := hrel
    by_cases hk : k < l.length
    · obtain ⟨ad, A1, c1, A2, c2, hAd, x0, x1, x2, x3, hl1, hi1, hl2, hi2⟩ := PPrinterRoundTrip.at_T53 GR.out k b0 hk
      subst hAd
      replace x0 := pw_cell_below HF.out.b x0
      replace x1 := pw_cell_below HF.out.b x1
      replace x2 := pw_cell_below HF.out.b x2
      replace x3 := pw_cell_below HF.out.b x3
      have hwr : wrap64 (k + 1) = k + 1 := w64 (by omega) (by omega)
      generalize PPrinterRoundTrip.rd_T53 l k = r at *
      have hm1 := Kd.C_max hi1
      have G1 := Aside0.mk hi1
      clear hi1 hi2 hl1 hl2
      have HF1 := Aside0.mk (HF.out.alloc (.cells #[.string r.f0, .slice A1 r.f1.length c1, .slice A2 r.f2.length c2, .string r.f3] 53))
      go_wp2
      clear x0 x1 x2 x3 HF
      go_loopw [3, 35] (fun v3 cv w' => ∃ (n j : Int), v3 = .int .i64 n ∧ cv = .int .i64 j ∧ 0 ≤ j ∧ j ≤ r.f1.length ∧ Aside0 (TwoF w w.heap.size #[.int .i64 i, .int .i64 q, .int .i64 m, .slice (some ad) l.length c] 24 w')) (fun _ cv _ => r.f1.length - (intOf cv).toNat)
      case atStart => exact ⟨_, 0, rfl, rfl, by omega, by omega, HF1⟩
      case round =>
        clear HF1
        obtain ⟨n2, j, rfl, rfl, j0, j1, HF⟩ := hrel
        by_cases hj : j < r.f1.length
        · obtain ⟨ad1, hAd, x0, x1, x2, x3, x4⟩ := PPrinterRoundTrip.at_T59 G1.out j j0 hj
          subst hAd
          replace x0 := pw_cell_below HF.out.b x0
          replace x1 := pw_cell_below HF.out.b x1
          replace x2 := pw_cell_below HF.out.b x2
          replace x3 := pw_cell_below HF.out.b x3
          replace x4 := pw_cell_below HF.out.b x4
          have hjr : wrap64 (j + 1) = j + 1 := w64 (by omega) (by omega)
          have HF2 := fun o => Aside0.mk (HF.out.alloc o)
          go_wp2
          go_roundw
          case rel => exact ⟨_, j + 1, rfl, by simp [hjr], by omega, by omega, HF2 _⟩
          case measure => simp [intOf, hjr]; omega
        · go_wp2
          go_roundw
          case rel => exact ⟨_, k + 1, rfl, by simp [hwr], by omega, by omega, HF⟩
          case measure => simp [intOf, hwr]; omega
    · have l3 := blk_cell HF.out.k1 3
      have FB := HF.out.b
      by_cases h1 : (70 : Int) < l.length
      · go_wp2
        go_ret
        exact ⟨_, rfl, FB⟩
      · by_cases h2 : (20000 : Int) < n
        · go_wp2
          go_ret
          exact ⟨_, rfl, FB⟩
        · go_wp2
          go_ret
          exact ⟨_, rfl, FB⟩
end Go.Proofs.YtolmkdhgnganaaaGreatDoor.H
namespace Go.Proofs.YtolmkdhgnganaaaGreatDoor.H
open Go Go.RowKit Go.Proofs Go.Proofs.YtolmkdhgnganaaaGreatDoorW.PrintWords Go.Proofs.YtolmkdhgnganaaaGreatDoor.Sp
/-- A row made since W. -/
def XR {α : Type} (d : Kd α) (e : Nat) (W w : World) (v : Value) (xs : List α) : Prop := d.R e w W.heap.size (fun k => W.heap.size ≤ k) v xs
section
variable {α β : Type} {d : Kd α} {d2 : Kd β} {e e2 : Nat} {W w w1 : World} {u v : Value} {xs : List α} {ys : List β}
theorem XR.below (h : XR d e W w v xs) (hb : Below w.heap.size w w1) : XR d e W w1 v xs := Kd.R_below h hb
theorem XR.empty (hb : W.heap.size ≤ w.heap.size) : XR d e W (w.alloc (.cells #[] e)) (.slice (some ⟨w.heap.size, 0, none⟩) 0 0) [] :=
  ⟨fun k hk => by
    have : w.heap.size = k := by simpa [Value.ownBlock] using hk
    omega, OwnRow.lit w W.heap.size (Reps.none _ _) hb (by simp)⟩
theorem XR.over (h : XR d e W w u xs) (h2 : XR d2 e2 W w v ys) (ht : ∀ q, q ∈ e :: d.E → q ≠ e2) (hg : w.grownBy w1 v.ownBlock) : XR d e W w1 u xs := Kd.R_over' h (Kd.R_typed h2) ht hg
theorem XR.form (h : XR d e W w v xs) : ∃ A c, v = .slice A xs.length c := by
  obtain ⟨A, c, e, _, _⟩ := Kd.R_reads h
  exact ⟨A, c, e⟩
end
abbrev InjS := Value × Value × Value × Value
/-- Which operations have run: 6, 9 (the contacts' row: empty, filled), 10, 13 (the coils'). -/
structure InjF (W : World) (x : Rung) (d6 d9 d10 d13 : Bool) (s : InjS) (w' : World) : Prop where
  b : Below W.heap.size W w'
  o6 : d6 = true → d9 = false → XR kCon 59 W w' s.1 []
  o9 : d9 = true → XR kCon 59 W w' s.2.1 x.f1
  o10 : d10 = true → d13 = false → XR kCoil 69 W w' s.2.2.1 []
  o13 : d13 = true → XR kCoil 69 W w' s.2.2.2 x.f2
theorem InjF.start (W : World) (x : Rung) (s : InjS) : InjF W x false false false false s W := ⟨Below.refl _ _, nofun, nofun, nofun, nofun⟩
section
variable {W w' w1 : World} {x : Rung} {d6 d9 d10 d13 : Bool} {v6 v9 v10 v13 : Value}
theorem InjF.below {s : InjS} (h : InjF W x d6 d9 d10 d13 s w') (hb : Below w'.heap.size w' w1) : InjF W x d6 d9 d10 d13 s w1 :=
  ⟨below_step h.b hb, fun a b => (h.o6 a b).below hb, fun a => (h.o9 a).below hb, fun a b => (h.o10 a b).below hb, fun a => (h.o13 a).below hb⟩
theorem InjF.s6 (h : InjF W x false false d10 d13 (v6, v9, v10, v13) w') : InjF W x true false d10 d13 (.slice (some ⟨w'.heap.size, 0, none⟩) 0 0, v9, v10, v13) (w'.alloc (.cells #[] 59)) where
  b := below_alloc h.b _
  o6 := fun _ _ => XR.empty h.b.size
  o9 := nofun
  o10 := fun a b => (h.o10 a b).below (below_alloc (Below.refl _ _) _)
  o13 := fun a => (h.o13 a).below (below_alloc (Below.refl _ _) _)
theorem InjF.s10 (h : InjF W x d6 d9 false false (v6, v9, v10, v13) w') : InjF W x d6 d9 true false (v6, v9, .slice (some ⟨w'.heap.size, 0, none⟩) 0 0, v13) (w'.alloc (.cells #[] 69)) where
  b := below_alloc h.b _
  o6 := fun a b => (h.o6 a b).below (below_alloc (Below.refl _ _) _)
  o9 := fun a => (h.o9 a).below (below_alloc (Below.refl _ _) _)
  o10 := fun _ _ => XR.empty h.b.size
  o13 := nofun
theorem InjF.s9 (h : InjF W x true false d10 d13 (v6, v9, v10, v13) w') {v1 : Value} (hr : XR kCon 59 W w1 v1 ([] ++ x.f1)) (hb : Below W.heap.size W w1) (hg : w'.grownBy w1 v6.ownBlock) :
    InjF W x true true d10 d13 (v6, v1, v10, v13) w1 where
  b := hb
  o6 := nofun
  o9 := fun _ => hr
  o10 := fun a b => (h.o10 a b).over (h.o6 rfl rfl) (by decide) hg
  o13 := fun a => (h.o13 a).over (h.o6 rfl rfl) (by decide) hg
/-- The rung that has been made. -/
theorem InjF.made (h : InjF W x d6 true d10 true (v6, v9, v10, v13) w') {B : Nat} (hB : B ≤ W.heap.size) : kRung.M w' B (fun k => W.heap.size ≤ k) x [.string x.f0, v9, v13, .string x.f3] :=
  PPrinterRoundTrip.k53_mkM w' B _ x (Kd.R_lower (h.o9 rfl) hB) (Kd.R_lower (h.o13 rfl) hB)
end
theorem types_lad : ∀ t, t ∈ 53 :: kRung.E → t ≠ 24 := by decide
end Go.Proofs.YtolmkdhgnganaaaGreatDoor.H
namespace Go.Proofs.YtolmkdhgnganaaaGreatDoor.H
open Go Go.RowKit Go.Proofs Go.Proofs.YtolmkdhgnganaaaGreatDoorW.PrintWords Go.Proofs.YtolmkdhgnganaaaGreatDoor.Sp
/-- A permitted byte. -/
def plB (b : UInt8) : Bool := decide (b.toNat = 9 ∨ (32 ≤ b.toNat ∧ b.toNat ≤ 126))
/-- All bytes are permitted. -/
def isPl (l : List UInt8) : Bool := l.all plB
def okPl (r : Int) : Bool := decide (r = 9 ∨ (32 ≤ r ∧ r ≤ 126))
theorem okPl_byte (s : ByteArray) (pos : Nat) (h : pos < s.size) :
    1 ≤ (Utf8.decode s pos).2 ∧ okPl ((Utf8.decode s pos).1 : Int) = plB (s.data.toList.getD pos 0) ∧ (okPl ((Utf8.decode s pos).1 : Int) = true → (Utf8.decode s pos).2 = 1) := by
  by_cases ha : (s[pos]'h).toNat < 128
  · rw [decode_ascii s pos h ha]
    refine ⟨Nat.le_refl _, ?_, fun _ => rfl⟩
    rw [getD_at s pos h]
    exact decide_eq_decide.2 (by omega)
  · have hd := decode_high s pos h (by omega)
    have f1 : okPl ((Utf8.decode s pos).1 : Int) = false := by
      simp only [okPl, decide_eq_false_iff_not]
      omega
    have f2 : plB (s.data.toList.getD pos 0) = false := by
      rw [getD_at s pos h]
      simp only [plB, decide_eq_false_iff_not]
      omega
    refine ⟨hd.2, by rw [f1, f2], fun hc => ?_⟩
    rw [f1] at hc; cases hc
theorem isPl_true {s : ByteArray} (h : ∀ j, j < s.size → plB (s.data.toList.getD j 0) = true) : isPl s.data.toList = true := by
  have e : s.data.toList.length = s.size := by rw [Array.length_toList]; rfl
  unfold isPl
  rw [List.all_eq_true]
  intro x hx
  obtain ⟨n, hn, rfl⟩ := List.getElem_of_mem hx
  have := h n (by omega)
  rwa [List.getD, List.getElem?_eq_getElem hn, Option.getD_some] at this
theorem isPl_false {s : ByteArray} {j : Nat} (hj : j < s.size) (h : plB (s.data.toList.getD j 0) = false) : isPl s.data.toList = false := by
  have e : s.data.toList.length = s.size := by rw [Array.length_toList]; rfl
  cases hb : isPl s.data.toList with
  | false => rfl
  | true =>
    unfold isPl at hb
    rw [List.all_eq_true] at hb
    have hn : j < s.data.toList.length := by omega
    have := hb _ (List.getElem_mem hn)
    rw [List.getD, List.getElem?_eq_getElem hn, Option.getD_some, this] at h
    cases h
set_option maxRecDepth 100000 in
theorem plain_b (s : ByteArray) (w : World) : Calls Tryz.prog 61 #[.string s] w (RetB w (.bool (isPl s.data.toList))) := by
  generalize hV : isPl s.data.toList = V
  have HV := Aside0.mk hV
  clear hV
  go_enter Tryz.func61, Tryz.ntmps61
  go_wp2
  go_loopw [] (fun w' => ∃ pos : Nat, w' = w.iter s pos ∧ pos ≤ s.size ∧ Aside0 (∀ j, j < pos → plB (s.data.toList.getD j 0) = true)) (fun w' => s.size - w'.iterPos w.heap.size)
  case atStart => exact ⟨0, rfl, Nat.zero_le _, ⟨fun j hj => by omega⟩⟩
  case round =>
    obtain ⟨pos, rfl, hle, HA⟩ := hrel
    by_cases hp : pos < s.size
    · have hnx : ∀ ty, (Instr.next (.pointer (some ⟨w.heap.size, 0, none⟩)) true ty).run Tryz.prog (w.iter s pos) = _ := fun ty => run_next_any w s pos ty hp
      have hok := okPl_byte s pos hp
      generalize (Utf8.decode s pos).1 = r at hnx hok
      generalize (Utf8.decode s pos).2 = wd at hnx hok
      obtain ⟨hw1, hok, hok1⟩ := hok
      have HO := Aside0.mk hok
      have HO1 := Aside0.mk hok1
      clear hok hok1
      have HBad := Aside0.mk (fun hb : plB (s.data.toList.getD pos 0) = false => (HV.out ▸ isPl_false hp hb : V = false))
      have good : okPl (r : Int) = true → (∃ pos_1, w.iter s (pos + wd) = w.iter s pos_1 ∧ pos_1 ≤ s.size ∧ Aside0 (∀ j, j < pos_1 → plB (s.data.toList.getD j 0) = true)) ∧
          s.size - (w.iter s (pos + wd)).iterPos w.heap.size < s.size - (w.iter s pos).iterPos w.heap.size := by
        intro hg
        have e1 := HO1.out hg
        subst e1
        refine ⟨⟨pos + 1, rfl, by omega, ⟨fun j hj => ?_⟩⟩, by simp; omega⟩
        by_cases hj2 : j < pos
        · exact HA.out j hj2
        · obtain rfl : j = pos := by omega
          rw [← HO.out]; exact hg
      have HGood := Aside0.mk good
      clear good
      by_cases h9 : (r : Int) = 9
      · have HG := Aside0.mk (HGood.out (by simp [okPl, h9]))
        have q1 : ((r : Int) != 9) = false := by simp [h9]
        clear h9
        go_wp2
        all_goals exact HG.out
      · have q1 : ((r : Int) != 9) = true := by simpa using h9
        by_cases h32 : (r : Int) < 32
        · have hb : okPl (r : Int) = false := by simp only [okPl, decide_eq_false_iff_not]; omega
          obtain rfl := HBad.out (HO.out ▸ hb)
          have q2 : decide ((r : Int) < 32) = true := decide_eq_true h32
          clear hb h9
          go_wp2
          go_ret
          exact ⟨rfl, iter_below _ _ _⟩
        · have q2 : decide ((r : Int) < 32) = false := decide_eq_false h32
          by_cases h126 : (126 : Int) < r
          · have hb : okPl (r : Int) = false := by simp only [okPl, decide_eq_false_iff_not]; omega
            obtain rfl := HBad.out (HO.out ▸ hb)
            have q3 : decide ((126 : Int) < (r : Int)) = true := decide_eq_true h126
            clear hb h9
            go_wp2
            go_ret
            exact ⟨rfl, iter_below _ _ _⟩
          · have q3 : decide ((126 : Int) < (r : Int)) = false := decide_eq_false h126
            have HG := Aside0.mk (HGood.out (by simp only [okPl, decide_eq_true_eq]; omega))
            clear h9
            go_wp2
            all_goals exact HG.out
    · have hnx : ∀ ty, (Instr.next (.pointer (some ⟨w.heap.size, 0, none⟩)) true ty).run Tryz.prog (w.iter s pos) = _ := fun ty => run_next_end w s pos ty hp
      obtain rfl : pos = s.size := by omega
      have : V = true := by rw [← HV.out]; exact isPl_true HA.out
      subst this
      go_wp2
      go_ret
      exact ⟨rfl, iter_below _ _ _⟩
end Go.Proofs.YtolmkdhgnganaaaGreatDoor.H
namespace Go.Proofs.YtolmkdhgnganaaaGreatDoor.H
open Go Go.RowKit Go.Shelf Go.Proofs Go.Proofs.YtolmkdhgnganaaaGreatDoorW.PrintWords Go.Proofs.YtolmkdhgnganaaaGreatDoor.Sp
attribute [local go_sem] Oper.semAt_some
/-- What has come when k rounds are over. -/
def upN {α : Type} (f : Nat → α) (k : Nat) : List α := (List.range k).map f
theorem upN_succ {α : Type} (f : Nat → α) (k : Nat) : upN f (k + 1) = upN f k ++ [f k] := by simp [upN, List.range_succ]
theorem upN_length {α : Type} (f : Nat → α) (k : Nat) : (upN f k).length = k := by simp [upN]
/-- The pieces of a text between line ends. -/
def pieces (s : ByteArray) : List ByteArray := Lib.splitB ⟨#[10]⟩ 0 (Lib.countB s ⟨#[10]⟩) s
theorem pieces_len (s : ByteArray) : (pieces s).length = Lib.countB s ⟨#[10]⟩ + 1 := Lib.splitB_all _ (by decide) 0 _ s rfl
theorem split_size (sep : ByteArray) : ∀ (k : Nat) (s x : ByteArray), x ∈ Lib.splitB sep 0 k s → x.size ≤ s.size := by
  intro k
  induction k with
  | zero =>
    intro s x hx
    rw [Lib.splitB_zero] at hx
    obtain rfl : x = s := by simpa using hx
    exact Nat.le_refl _
  | succ k ih =>
    intro s x hx
    unfold Lib.splitB at hx
    split at hx
    · obtain rfl : x = s := by simpa using hx
      exact Nat.le_refl _
    · rcases List.mem_cons.1 hx with rfl | hx
      · rw [ByteArray.size_extract]; omega
      · have := ih _ _ hx
        rw [ByteArray.size_extract] at this
        omega
/-- A piece without its comment. -/
def bare (s : ByteArray) : ByteArray := ⟨(Lib.cut s.data.toList [59]).1.toArray⟩
/-- What is handed over in round j. -/
def cntAt (s : ByteArray) (j : Nat) : Int × ByteArray := ((j : Int) + 1, bare ((pieces s)[j]?.getD ByteArray.empty))
theorem bare_size (x : ByteArray) : (bare x).size ≤ x.size := by
  have h : (Lib.cut x.data.toList [59]).1.length ≤ x.data.toList.length := by
    unfold Lib.cut
    split
    · rw [List.length_take]; exact Nat.min_le_right _ _
    · exact Nat.le_refl _
  rw [Array.length_toList] at h
  show (Lib.cut x.data.toList [59]).1.toArray.size ≤ x.data.size
  rw [List.size_toArray]
  exact h
/-- What is handed over, and that it is not too long. -/
abbrev CX := { p : Int × ByteArray // p.2.size ≤ 65536 }
theorem piece_at_size {s : ByteArray} (hs : s.size ≤ 65536) (j : Nat) : ((pieces s)[j]?.getD ByteArray.empty).size ≤ 65536 := by
  by_cases h : j < (pieces s).length
  · rw [List.getElem?_eq_getElem h, Option.getD_some]
    exact Nat.le_trans (split_size _ _ _ _ (List.getElem_mem h)) hs
  · rw [List.getElem?_eq_none (by omega), Option.getD_none]
    decide
def cntX (s : ByteArray) (hs : s.size ≤ 65536) (j : Nat) : CX := ⟨cntAt s j, Nat.le_trans (bare_size _) (piece_at_size hs j)⟩
theorem grown_of {w w' : World} (h : Below w.heap.size w w') : w.grownBy w' none := ⟨h.os, h.tape, h.output, h.size, fun k hk _ => h.block k hk⟩
theorem split_b (s : ByteArray) (m : Int) (w : World) (hs : s.size ≤ 65536) (hm : w.cell? ⟨3, 0, none⟩ = some (.int .i64 m)) :
    Calls Tryz.prog 89 #[.string s, .string ⟨#[10]⟩] w fun e w' => e = .returned (.slice (some ⟨w.heap.size, 0, none⟩) (pieces s).length (pieces s).length) ∧ w' = w.alloc (.cells ((pieces s).map Value.string).toArray 9) := by
  have := Tryz.strings_Split s ⟨#[10]⟩ m w (by omega) hm (by decide)
  rw [← pieces_len] at this
  exact this
theorem pieces_le (s : ByteArray) (hs : s.size ≤ 65536) : (pieces s).length ≤ 65537 := by
  rw [pieces_len]
  have := Lib.countB_le ⟨#[10]⟩ (by decide) _ s (Nat.le_refl _)
  omega
theorem cut_b (x : ByteArray) (m : Int) (w : World) (hs : x.size ≤ 65536) (hm : w.cell? ⟨3, 0, none⟩ = some (.int .i64 m)) :
    Calls Tryz.prog 90 #[.string x, .string ⟨#[59]⟩] w fun e w' => ∃ y z q, e = .returned (.tuple #[.string (bare x), y, z]) ∧ w' = w.drewN q :=
  (Tryz.strings_Cut x ⟨#[59]⟩ m w (by omega) hm).mono fun e w' ⟨he, q, hq⟩ => ⟨_, _, q, he, hq⟩
theorem piece_size {s x : ByteArray} (hx : x ∈ pieces s) : x.size ≤ s.size := split_size _ _ _ _ hx
/-- The rows of strings are kept. -/
def KeepStr (W W' : World) : Prop := ∀ (k : Nat) (cs : Array Value), W.heap[k]? = some (Obj.cells cs 9 (0, 0)) → W'.heap[k]? = some (Obj.cells cs 9 (0, 0))
theorem KeepStr.refl (W : World) : KeepStr W W := fun _ _ h => h
theorem KeepStr.trans {A B C : World} (h : KeepStr A B) (k : KeepStr B C) : KeepStr A C := fun i cs hi => k i cs (h i cs hi)
theorem KeepStr.of_below {W W' : World} (h : Below W.heap.size W W') : KeepStr W W' := fun i cs hi => blk_below hi h
/-- What a round keeps. -/
def Kr (B : Nat) (W W' : World) : Prop := Below B W W' ∧ KeepStr W W'
theorem Kr.of_below {B : Nat} {W W' : World} (h : Below W.heap.size W W') (hB : B ≤ W.heap.size) : Kr B W W' := ⟨h.mono hB, KeepStr.of_below h⟩
set_option maxRecDepth 100000 in
set_option maxHeartbeats 2000000 in
theorem counts_stops (B Bs n : Nat) (s : ByteArray) (m : Int) (w : World) (hB : B ≤ w.heap.size) (hmB : 3 < B) (hs : s.size ≤ 65536) (hm : w.cell? ⟨3, 0, none⟩ = some (.int .i64 m)) (hc : w.heap[Bs]? = some (.cells #[.string s] 9 (0, 0))) :
    SeqStopsK Fence.wide n Tryz.prog 88 #[.pointer (some ⟨Bs, 0, none⟩)] (fun x : CX => #[Value.int .i64 x.1.1, Value.string x.1.2]) (Kr B) (fun ys => ys = upN (cntX s hs) (pieces s).length)
      (fun pre => ∃ k, k ≤ (pieces s).length ∧ pre = upN (cntX s hs) k) (pieces s).length w := fun l J Jx W hW hJ hJx hY h0 => by
  have hcW := blk_below hc hW
  have c0 := blk_cell hcW 0
  have hm1 := pw_cell_below hW hm
  have hpl := pieces_le s hs
  refine callsIn_of_wp Tryz.func88 rfl trivial ?_ rfl
  simp only [Tryz.ntmps88, List.size_toArray, List.length_cons, List.length_nil, Nat.reduceAdd, Nat.reduceSub, Array.replicate_succ, Array.replicate_zero, List.push_toArray, List.append_toArray, List.nil_append, List.cons_append]
  gi_wp2
  refine ⟨trivial, (fun h => by cases h), ?_⟩
  refine (callsIn_wide.2 (split_b s m _ hs hm1)).mono ?_
  rintro e w' ⟨rfl, rfl⟩
  have hJ1 : J [] (W.alloc (.cells ((pieces s).map Value.string).toArray 9)) := hJ [] _ _ none h0 (grown_of (below_alloc (Below.refl _ _) _)) (fun r e => by cases e)
  have hrow := blk_new W (.cells ((pieces s).map Value.string).toArray 9)
  have hbox := blk_alloc hcW (.cells ((pieces s).map Value.string).toArray 9)
  have hml := pw_cell_below (below_alloc (Below.refl W.heap.size W) (.cells ((pieces s).map Value.string).toArray 9)) hm1
  have hszB : W.heap.size ≤ (W.alloc (.cells ((pieces s).map Value.string).toArray 9)).heap.size := (below_alloc (Below.refl W.heap.size W) _).size
  generalize hW1 : W.alloc (.cells ((pieces s).map Value.string).toArray 9) = W1 at hJ1 hrow hbox hml hszB ⊢
  generalize hg : W.heap.size = g at hrow hszB ⊢
  gi_wp2
  gi_loopw [8] (fun i wr => ∃ k : Nat, k ≤ (pieces s).length ∧ i = .int .i64 k ∧ J (upN (cntX s hs) k) wr ∧ Kr B W1 wr ∧ g ≤ wr.heap.size) (fun i _ => (pieces s).length - (intOf i).toNat)
  case atStart => exact ⟨0, Nat.zero_le _, rfl, hJ1, ⟨Below.refl _ _, KeepStr.refl _⟩, hszB⟩
  case round =>
    obtain ⟨k, hk, rfl, hJs, hK, hsz⟩ := hrel
    have hb := hK.2 _ _ hrow
    by_cases hlt : k < (pieces s).length
    · have hcx : wr.cell? ⟨g, k, none⟩ = some (.string ((pieces s)[k]?.getD ByteArray.empty)) := by
        rw [blk_cell hb k]
        simp [hlt]
      have hpx : ((pieces s)[k]?.getD ByteArray.empty).size ≤ 65536 := by
        rw [List.getElem?_eq_getElem hlt, Option.getD_some]
        exact Nat.le_trans (piece_size (List.getElem_mem hlt)) hs
      have hmk := (hK.1.cell (p := ⟨3, 0, none⟩) hmB).trans hml
      have hwr : wrap64 ((k : Int) + 1) = (k : Int) + 1 := by unfold wrap64; omega
      have hbx : (bare ((pieces s)[k]?.getD ByteArray.empty)).size ≤ 65536 := Nat.le_trans (bare_size _) hpx
      have hat : cntX s hs k = ⟨((k : Int) + 1, bare ((pieces s)[k]?.getD ByteArray.empty)), hbx⟩ := rfl
      have HN := Aside0.mk (upN_succ (cntX s hs) k)
      rw [hat] at HN
      have HLn := Aside0.mk (upN_length (cntX s hs) k)
      have HJ := Aside0.mk hJs
      clear hJs
      generalize (pieces s)[k]?.getD ByteArray.empty = x at hcx hpx hbx hat HN
      gi_wp2
      refine ⟨trivial, (fun h => by cases h), ?_⟩
      refine (callsIn_wide.2 (cut_b x m _ hpx hmk)).mono ?_
      rintro e w' ⟨y, z, q, rfl, rfl⟩
      have hJq : J (upN (cntX s hs) k) (wr.drewN q) := hJ _ _ _ none HJ.out (grown_of (pw_below_drewN (Below.refl _ _) q)) (fun r e => by cases e)
      have hKq : Kr B W1 (wr.drewN q) := ⟨hK.1.trans ((pw_below_drewN (Below.refl _ _) q).mono (Nat.le_trans (Nat.le_trans hB (hg ▸ hW.size)) hsz)), hK.2.trans (KeepStr.of_below (pw_below_drewN (Below.refl _ _) q))⟩
      obtain ⟨fn, tmps, assign, body, hy, hR⟩ := hY _ ⟨((k : Int) + 1, bare x), hbx⟩ _ hJq (by rw [HLn.out]; exact hlt)
      dsimp only at hy
      gi_wp2
      refine ⟨(fun h => by cases h), ?_⟩
      refine hR.mono ?_
      rintro e W3 (⟨rfl, hJ3, hk3⟩ | ⟨rfl, hJx3⟩)
      · gi_wp2
        go_roundw
        case rel => exact ⟨k + 1, by omega, by simp [hwr], by rw [HN.out]; exact hJ3, ⟨hKq.1.trans hk3.1, hKq.2.trans hk3.2⟩, by have := hk3.1.size; have h2 : (wr.drewN q).heap.size = wr.heap.size := rfl; omega⟩
        case measure => simp [intOf, hwr]; omega
      · gi_wp2
        refine bodyPost_ret (results_none rfl _ _ _) rfl ?_
        exact ⟨⟨_, rfl⟩, .inr ⟨_, ⟨k + 1, by omega, HN.out.symm⟩, hJx3⟩⟩
    · obtain rfl : k = (pieces s).length := by omega
      gi_wp2
      go_end0
      exact ⟨⟨_, rfl⟩, .inl ⟨_, rfl, hJs⟩⟩
end Go.Proofs.YtolmkdhgnganaaaGreatDoor.H
namespace Go.Proofs.YtolmkdhgnganaaaGreatDoor.H
open Go Go.RowKit Go.Shelf Go.Proofs Go.Proofs.YtolmkdhgnganaaaGreatDoorW.PrintWords Go.Proofs.YtolmkdhgnganaaaGreatDoor.Sp
attribute [local go_sem] Oper.semAt_some
/-- What strings.Fields and strings.Split read of the library's variables. -/
structure LexG (w : World) : Prop where
  mx : ∃ m, w.cell? ⟨3, 0, none⟩ = some (.int .i64 m)
  tab : Lib.TabIs Tryz.prog w "strings.asciiSpace" .u8 Lib.asciiSpaceTab
theorem LexG.below {w w1 : World} (h : LexG w) (hb : Below w.heap.size w w1) : LexG w1 := by
  obtain ⟨m, hm⟩ := h.mx
  refine ⟨⟨m, pw_cell_below hb hm⟩, ?_⟩
  have ht := h.tab
  have hn : Tryz.prog.globalNamed "strings.asciiSpace" = some 4 := by kernel_rfl
  simp only [Lib.TabIs, World.var?, hn, Option.bind_some] at ht ⊢
  rw [hb.block _ ?_]
  · exact ht
  · exact Nat.lt_of_not_le fun hle => by
      rw [Array.getElem?_eq_none hle] at ht
      cases ht
/-- A line: its number and its words. -/
structure Ln where
  n : Int
  ws : List ByteArray
def zLn : Ln := ⟨0, []⟩
def kLine : Kd Ln := Kd.iso (Kd.pair (Kd.int .i64) (Kd.slice 9 Kd.string)) (fun x : Ln => (x.n, x.ws))
theorem kLine_mkM (w : World) (base : Nat) (ok : Nat → Prop) (x : Ln) {v : Value} (g : Kd.string.R 9 w base ok v x.ws) : kLine.M w base ok x [.int .i64 x.n, v] := ⟨[.int .i64 x.n], [v], rfl, rfl, ⟨v, rfl, g⟩⟩
theorem infoLn : (Tryz.prog.info? 81).map (fun i => (i.zero, i.size, i.bytes)) = some (some (.agg #[.int .i64 0, .slice none 0 0]), 2, 32) := by kernel_rfl
/-- The words of a line. -/
def wordsOf (x : ByteArray) : List ByteArray := (Lib.fields x.data.toList).map fun l => (⟨l.toArray⟩ : ByteArray)
def toLn (p : Int × ByteArray) : Option Ln := if (wordsOf p.2).isEmpty then none else some ⟨p.1, wordsOf p.2⟩
def lnsOf (pre : List (Int × ByteArray)) : List Ln := pre.filterMap toLn
def allPl (pre : List (Int × ByteArray)) : Prop := ∀ p ∈ pre, isPl p.2.data.toList = true
theorem lnsOf_some {pre : List (Int × ByteArray)} {p : Int × ByteArray} (h : ¬ (wordsOf p.2).isEmpty = true) : lnsOf (pre ++ [p]) = lnsOf pre ++ [⟨p.1, wordsOf p.2⟩] := by
  unfold lnsOf
  rw [List.filterMap_append]
  simp [toLn, h]
theorem lnsOf_none {pre : List (Int × ByteArray)} {p : Int × ByteArray} (h : (wordsOf p.2).isEmpty = true) : lnsOf (pre ++ [p]) = lnsOf pre := by
  unfold lnsOf
  rw [List.filterMap_append]
  simp [toLn, h]
theorem lnsOf_le (pre : List (Int × ByteArray)) : (lnsOf pre).length ≤ pre.length := List.length_filterMap_le _ _
theorem fields_b (x : ByteArray) (w : World) (hpl : isPl x.data.toList = true) (hs : x.size ≤ 65536) (htab : Lib.TabIs Tryz.prog w "strings.asciiSpace" .u8 Lib.asciiSpaceTab) :
    Calls Tryz.prog 62 #[.string x] w fun e w' => e = .returned (.slice (some ⟨w.heap.size, 0, none⟩) (wordsOf x).length (wordsOf x).length) ∧ w' = w.alloc (.cells ((wordsOf x).map Value.string).toArray 9) := by
  have h := Tryz.strings_Fields x w (by omega) (fun j b hj => by
    unfold isPl at hpl
    rw [List.all_eq_true] at hpl
    have := hpl b (List.mem_of_getElem? hj)
    simp only [plB, decide_eq_true_eq] at this
    omega) htab
  simpa [wordsOf, Function.comp_def] using h
theorem counts_b (s : ByteArray) (w : World) : Calls Tryz.prog 60 #[.string s] w fun e w' => e = .returned (.func (.func 88) #[] #[.pointer (some ⟨w.heap.size, 0, none⟩)]) ∧ w' = w.alloc (.cells #[.string s] 9) := by
  go_enter Tryz.func60, Tryz.ntmps60
  go_wp2
  go_ret
  exact ⟨rfl, rfl⟩
/-- What holds between two rounds of Lines (w: the world of the call). -/
structure LnI (w : World) (pre : List CX) (W : World) : Prop where
  b : Below w.heap.size w W
  r2 : W.heap[w.heap.size]? = some (.cells #[.slice none 0 0] 72 (0, 0))
  r3 : W.heap[w.heap.size + 1]? = some (.cells #[.int .i64 0] 3 (0, 0))
  r4 : W.heap[w.heap.size + 2]? = some (.cells #[.int .i64 0] 27 (0, 0))
  l : ∃ v, W.heap[w.heap.size + 3]? = some (.cells #[v] 72 (0, 0)) ∧ kLine.R 81 W w.heap.size (fun _ => True) v (lnsOf (pre.map (·.1)))
  ok : allPl (pre.map (·.1))
/-- What holds where a round has left. -/
structure LnX (w : World) (pre : List CX) (W : World) : Prop where
  b : Below w.heap.size w W
  p : ∃ (ini : List CX) (last : CX), pre = ini ++ [last] ∧ allPl (ini.map (·.1)) ∧ isPl last.1.2.data.toList = false ∧ W.heap[w.heap.size + 1]? = some (.cells #[.int .i64 last.1.1] 3 (0, 0))
  r2 : W.heap[w.heap.size]? = some (.cells #[.slice none 0 0] 72 (0, 0))
  r4 : W.heap[w.heap.size + 2]? = some (.cells #[.int .i64 6] 27 (0, 0))
theorem blk_own {W W' : World} {row : Option Nat} {g t : Nat} {cs : Array Value} (h : W.heap[g]? = some (.cells cs t (0, 0))) (hg : W.grownBy W' row) (hr : ∀ r, row = some r → ∃ o : Obj, W.heap[r]? = some o ∧ o.isCells = false) : W'.heap[g]? = some (.cells cs t (0, 0)) :=
  (hg.block g (blk_lt h) (fun e => by
    obtain ⟨o, ho, hc⟩ := hr g e.symm
    rw [h] at ho
    cases ho
    cases hc)).trans h
theorem LnI.own (w : World) : OwnFrom w.heap.size (LnI w) := fun pre W W' row h hg hr => by
  have hr2 : ∀ r, row = some r → ∃ o : Obj, W.heap[r]? = some o ∧ o.isCells = false := fun r e => (hr r e).2
  obtain ⟨v, l1, l2⟩ := h.l
  refine ⟨h.b.grown hg h.b.size (fun k e => (hr k e).1), blk_own h.r2 hg hr2, blk_own h.r3 hg hr2, blk_own h.r4 hg hr2, ⟨v, blk_own l1 hg hr2, ?_⟩, h.ok⟩
  refine Kd.R_mono (Kd.R_move (Kd.R_bound l2) (fun k hk => hg.block k hk.2.2.1 (fun e => ?_))) (fun _ _ => trivial)
  obtain ⟨o, ho, hc⟩ := hr2 k e.symm
  obtain ⟨q, _, cells, hq⟩ := hk.2.2.2
  rw [hq] at ho
  cases ho
  cases hc
theorem LnX.own (w : World) : OwnFrom w.heap.size (LnX w) := fun pre W W' row h hg hr => by
  have hr2 : ∀ r, row = some r → ∃ o : Obj, W.heap[r]? = some o ∧ o.isCells = false := fun r e => (hr r e).2
  obtain ⟨ini, last, e, h1, h2, h3⟩ := h.p
  exact ⟨h.b.grown hg h.b.size (fun k e => (hr k e).1), ⟨ini, last, e, h1, h2, blk_own h3 hg hr2⟩, blk_own h.r2 hg hr2, blk_own h.r4 hg hr2⟩
theorem LnI.below {w W W1 : World} {pre : List CX} (h : LnI w pre W) (hb : Below W.heap.size W W1) : LnI w pre W1 := by
  obtain ⟨v, l1, l2⟩ := h.l
  exact ⟨below_step h.b hb, blk_below h.r2 hb, blk_below h.r3 hb, blk_below h.r4 hb, ⟨v, blk_below l1 hb, Kd.R_below l2 hb⟩, h.ok⟩
theorem Kr.trans {B : Nat} {X Y Z : World} (h : Kr B X Y) (k : Kr B Y Z) : Kr B X Z := ⟨h.1.trans k.1, h.2.trans k.2⟩
theorem Kr.put {B : Nat} {w : World} (hn : B ≤ w.heap.size) (W : World) (l : Nat) (o o' : Obj) (hl : w.heap.size ≤ l) (h : W.heap[l]? = some o) (hc : o.isCells = false) (hw : o.isWalk = false) : Kr B W (W.putObj l o') :=
  ⟨belowK_b hn W l o o' hl h hc hw, fun k cs hk => blk_own hk (grownBy_putObj' W l o') (fun r e => by cases e; exact ⟨o, h, hc⟩)⟩
theorem types_ln : ∀ t, t ∈ 81 :: kLine.E → t ≠ 72 := by decide
/-- A line has been put behind the others, and the row stored. -/
theorem LnI.push {w W4 W5 : World} {pre : List CX} {x : CX} {v v1 : Value} {inner : List Value} {g : Nat} (h : LnI w pre W4) (hl : W4.heap[w.heap.size + 3]? = some (.cells #[v] 72 (0, 0)))
    (ho : W4.ownsRow w.heap.size 81 2 v (lnsOf (pre.map (·.1))).length inner)
    (hr : Reps (kLine.M W4 w.heap.size (fun k => True ∧ some k ≠ v.ownBlock)) 2 (lnsOf (pre.map (·.1))) inner)
    (hw : Kd.string.R 9 W4 w.heap.size (fun k => g ≤ k) (.slice (some ⟨g, 0, none⟩) (wordsOf x.1.2).length (wordsOf x.1.2).length) (wordsOf x.1.2)) (hgv : ∀ k, v.ownBlock = some k → k < g)
    (hne : ¬ (wordsOf x.1.2).isEmpty = true) (hpl : isPl x.1.2.data.toList = true)
    (hown : W5.ownsRow w.heap.size 81 2 v1 ((lnsOf (pre.map (·.1))).length + 1) (inner ++ [.int .i64 x.1.1, .slice (some ⟨g, 0, none⟩) (wordsOf x.1.2).length (wordsOf x.1.2).length]))
    (hg : W4.grownBy W5 v.ownBlock) (hat : v1.ownBlock = v.ownBlock ∨ v1.ownBlock = some W4.heap.size) :
    W5.heap[w.heap.size + 3]? = some (.cells #[v] 72 (0, 0)) ∧ LnI w (pre ++ [x]) (W5.setCell ⟨w.heap.size + 3, 0, none⟩ v1) ∧ KeepsOthers W4 (W5.setCell ⟨w.heap.size + 3, 0, none⟩ v1) ∧ Kr w.heap.size W4 (W5.setCell ⟨w.heap.size + 3, 0, none⟩ v1) := by
  have far : ∀ {k t : Nat} {cs : Array Value}, W4.heap[k]? = some (.cells cs t (0, 0)) → 81 ≠ t → W5.heap[k]? = some (.cells cs t (0, 0)) := fun {k t cs} hh ht => (hg.block k (blk_lt hh) (own_ne ho hh ht)).trans hh
  have hl5 := far hl (by decide)
  have r2 := far h.r2 (by decide)
  have r3 := far h.r3 (by decide)
  have r4 := far h.r4 (by decide)
  have hb5 : Below w.heap.size w W5 := h.b.grown hg h.b.size (fun k e => own_base ho k e)
  have hR : kLine.R 81 W5 w.heap.size (fun _ => True) v1 (lnsOf (pre.map (·.1)) ++ [⟨x.1.1, wordsOf x.1.2⟩]) :=
    Kd.R_appended (d := kLine) (okp := fun k => g ≤ k) (fun _ _ => trivial) hr (kLine_mkM W4 w.heap.size _ ⟨x.1.1, wordsOf x.1.2⟩ hw) (fun k hk => ⟨trivial, fun e => by have := hgv k e.symm; omega⟩) (fun _ _ => trivial) hown hg
      (hat.imp id (fun e => ⟨_, e, Nat.le_refl _⟩))
  refine ⟨hl5, ?_, (KeepsOthers.of_grownBy hg (fun j o e hj => by
    obtain ⟨cells, hc⟩ := own_typed ho j e
    rw [hc] at hj
    cases hj
    rfl)).trans (KeepsOthers.setCell _ _ _), (((Below.refl _ W4).grown hg h.b.size (fun k e => own_base ho k e)).setCell (p := ⟨w.heap.size + 3, 0, none⟩) (by show w.heap.size ≤ w.heap.size + 3; omega) _), fun k cs hk => blk_far (far hk (by decide)) (fun e => by
      have e2 : k = w.heap.size + 3 := e
      subst e2
      rw [hl] at hk
      cases hk) _⟩
  refine ⟨below_set hb5 (by omega), blk_far r2 (by show w.heap.size ≠ w.heap.size + 3; omega) _, blk_far r3 (by show w.heap.size + 1 ≠ w.heap.size + 3; omega) _, blk_far r4 (by show w.heap.size + 2 ≠ w.heap.size + 3; omega) _, ⟨v1, ?_, ?_⟩, ?_⟩
  · have := blk_set hl5 0 v1
    simpa using this
  · rw [List.map_append, List.map_cons, List.map_nil, lnsOf_some hne]
    exact Kd.R_set hR hl5 types_ln 0 v1
  · intro p hp
    rw [List.map_append, List.mem_append] at hp
    rcases hp with hp | hp
    · exact h.ok p hp
    · obtain rfl : p = x.1 := by simpa using hp
      exact hpl
theorem LnI.skip {w W : World} {pre : List CX} {x : CX} (h : LnI w pre W) (he : (wordsOf x.1.2).isEmpty = true) (hpl : isPl x.1.2.data.toList = true) : LnI w (pre ++ [x]) W := by
  refine ⟨h.b, h.r2, h.r3, h.r4, ?_, ?_⟩
  · rw [List.map_append, List.map_cons, List.map_nil, lnsOf_none he]
    exact h.l
  · intro p hp
    rw [List.map_append, List.mem_append] at hp
    rcases hp with hp | hp
    · exact h.ok p hp
    · obtain rfl : p = x.1 := by simpa using hp
      exact hpl
/-- A round that finds a byte that is not permitted. -/
theorem LnI.bad {w W : World} {pre : List CX} {x : CX} (h : LnI w pre W) (hpl : isPl x.1.2.data.toList = false) :
    LnX w (pre ++ [x]) (((W.setCell ⟨w.heap.size, 0, none⟩ (.slice none 0 0)).setCell ⟨w.heap.size + 1, 0, none⟩ (.int .i64 x.1.1)).setCell ⟨w.heap.size + 1 + 1, 0, none⟩ (.int .i64 6)) := by
  refine ⟨below_set (below_set (below_set h.b (by omega)) (by omega)) (by omega), ⟨pre, x, rfl, h.ok, hpl, ?_⟩, ?_, ?_⟩
  · have := blk_set (blk_far h.r3 (p := ⟨w.heap.size, 0, none⟩) (by show w.heap.size + 1 ≠ w.heap.size; omega) (.slice none 0 0)) 0 (.int .i64 x.1.1)
    exact blk_far (by simpa using this) (by show w.heap.size + 1 ≠ w.heap.size + 1 + 1; omega) _
  · have := blk_set h.r2 0 (.slice none 0 0)
    exact blk_far (blk_far (by simpa using this) (by show w.heap.size ≠ w.heap.size + 1; omega) _) (by show w.heap.size ≠ w.heap.size + 1 + 1; omega) _
  · have := blk_set (blk_far (blk_far h.r4 (p := ⟨w.heap.size, 0, none⟩) (by show w.heap.size + 2 ≠ w.heap.size; omega) (.slice none 0 0)) (p := ⟨w.heap.size + 1, 0, none⟩) (by show w.heap.size + 2 ≠ w.heap.size + 1; omega) (.int .i64 x.1.1)) 0 (.int .i64 6)
    simpa using this
theorem reps_str (W : World) (base : Nat) (ok : Nat → Prop) : ∀ l : List ByteArray, Reps (Kd.string.M W base ok) Kd.string.sz l (l.map Value.string)
  | [] => Reps.none _ _
  | x :: l => Reps.one rfl (reps_str W base ok l)
/-- A row of strings that has been laid. -/
theorem str_row (W : World) (base : Nat) (hb : base ≤ W.heap.size) (l : List ByteArray) (hl : l.length ≤ 9223372036854775807) :
    Kd.string.R 9 (W.alloc (.cells (l.map Value.string).toArray 9)) base (fun k => W.heap.size ≤ k) (.slice (some ⟨W.heap.size, 0, none⟩) l.length l.length) l :=
  ⟨fun k hk => by
    have : W.heap.size = k := by simpa [Value.ownBlock] using hk
    omega, OwnRow.lit W base (reps_str _ _ _ l) hb hl⟩
theorem cnt_le : ∀ (l : List UInt8) (ws : Bool), Lib.cntF ws l ≤ l.length
  | [], ws => by cases ws <;> exact Nat.le_refl _
  | b :: l, ws => by
    have := cnt_le l (Lib.isSp b)
    rw [Lib.cntF, List.length_cons]
    split <;> omega
theorem words_le {x : ByteArray} (hx : x.size ≤ 65536) : (wordsOf x).length ≤ 65536 := by
  unfold wordsOf
  rw [List.length_map, Lib.fields_length]
  have := cnt_le x.data.toList true
  rw [Array.length_toList] at this
  exact Nat.le_trans this hx
theorem keeps_of {W W' : World} (h : Below W.heap.size W W') : KeepsOthers W W' := KeepsOthers.of_grownBy (grown_of h) (fun j o e => by cases e)
end Go.Proofs.YtolmkdhgnganaaaGreatDoor.H
namespace Go.Proofs.YtolmkdhgnganaaaGreatDoor.H
open Go Go.RowKit Go.Proofs Go.Proofs.YtolmkdhgnganaaaGreatDoorW.PrintWords Go.Proofs.YtolmkdhgnganaaaGreatDoor.Sp
/-- A number and an error. -/
def numV (v e : Int) : Value := .tuple #[.int .i64 v, .int .i64 e]
set_option maxHeartbeats 1000000 in
theorem num_bad1 (D : ByteArray) (w : World) (d1 : D.toList = []) : Calls Tryz.prog 93 #[.string D, .int .i64 256] w (RetB w (numV 0 6)) := by
  have d2 : D.toList.isEmpty = true := by rw [d1]; rfl
  go_enter Tryz.func93, Tryz.ntmps93
  go_wp2
  go_ret2
  exact ⟨rfl, Below.refl _ _⟩
set_option maxHeartbeats 1000000 in
theorem num_bad3 (D : ByteArray) (w : World) (hDs : D.size ≤ 140737488355328) (d1 : ¬ D.toList = []) (d2 : D.toList.isEmpty = false) (e2 : (trimD D).toList.isEmpty = false) :
    Calls Tryz.prog 93 #[.string D, .int .i64 256] w (RetB w (numV 0 6)) := by
  have e1 : ¬ (trimD D).toList = [] := fun h => by rw [h] at e2; cases e2
  go_enter Tryz.func93, Tryz.ntmps93
  go_wp2_with fail
  refine (trim_b D _ (by omega)).mono ?_
  rintro e w1 ⟨rfl, hb1⟩
  go_wp2
  go_ret2
  exact ⟨rfl, hb1⟩
set_option maxHeartbeats 1000000 in
theorem num_bad4 (D : ByteArray) (w : World) (hDs : D.size ≤ 140737488355328) (d1 : ¬ D.toList = []) (d2 : D.toList.isEmpty = false) (e1 : (trimD D).toList = []) (e2 : (trimD D).toList.isEmpty = true)
    (z0 : 0 < D.size) (z1 : (1 : Int) < (D.size : Int)) (z2 : D[0].toNat = 48) : Calls Tryz.prog 93 #[.string D, .int .i64 256] w (RetB w (numV 0 6)) := by
  have z3 : ((D[0].toNat : Int) == 48) = true := by rw [z2]; rfl
  clear z2
  go_enter Tryz.func93, Tryz.ntmps93
  go_wp2_with fail
  refine (trim_b D _ (by omega)).mono ?_
  rintro e w1 ⟨rfl, hb1⟩
  go_wp2
  go_ret2
  exact ⟨rfl, hb1⟩
set_option maxHeartbeats 1000000 in
theorem num_range (D : ByteArray) (w : World) (hDs : D.size ≤ 140737488355328) (he : Errs w) (d1 : ¬ D.toList = []) (d2 : D.toList.isEmpty = false) (e1 : (trimD D).toList = []) (e2 : (trimD D).toList.isEmpty = true)
    (z0 : 0 < D.size) (z : ¬ (1 : Int) < (D.size : Int) ∨ ((1 : Int) < (D.size : Int) ∧ ((D[0].toNat : Int) == 48) = false)) (hA : Lib.atoiAll D.data.toList = .range) :
    Calls Tryz.prog 93 #[.string D, .int .i64 256] w (RetB w (numV 0 3)) := by
  have HA := Aside0.mk hA
  clear hA
  rcases z with z1 | ⟨z1, z3⟩
  all_goals
    go_enter Tryz.func93, Tryz.ntmps93
    go_wp2_with fail
    refine (trim_b D _ (by omega)).mono ?_
    rintro e w1 ⟨rfl, hb1⟩
    go_wp2_with fail
    refine (atoi_range D hDs HA.out w1 (he.below hb1)).mono ?_
    rintro e w2 ⟨t, p, rfl, hb2⟩
    go_wp2
    go_ret2
    exact ⟨rfl, below_step hb1 hb2⟩
set_option maxHeartbeats 1000000 in
theorem num_num (D : ByteArray) (w : World) (hDs : D.size ≤ 140737488355328) (d1 : ¬ D.toList = []) (d2 : D.toList.isEmpty = false) (e1 : (trimD D).toList = []) (e2 : (trimD D).toList.isEmpty = true)
    (z0 : 0 < D.size) (z : ¬ (1 : Int) < (D.size : Int) ∨ ((1 : Int) < (D.size : Int) ∧ ((D[0].toNat : Int) == 48) = false)) (v : Int) (hA : Lib.atoiAll D.data.toList = .ok v) (r : Value) (hr : (256 < v ∧ r = numV 0 3) ∨ (v ≤ 256 ∧ r = numV v 0)) :
    Calls Tryz.prog 93 #[.string D, .int .i64 256] w (RetB w r) := by
  have HA := Aside0.mk hA
  clear hA
  rcases hr with ⟨hv, rfl⟩ | ⟨hv, rfl⟩
  all_goals
    rcases z with z1 | ⟨z1, z3⟩
    all_goals
      go_enter Tryz.func93, Tryz.ntmps93
      go_wp2_with fail
      refine (trim_b D _ (by omega)).mono ?_
      rintro e w1 ⟨rfl, hb1⟩
      go_wp2_with fail
      refine (atoi_ok D hDs v HA.out w1).mono ?_
      rintro e w2 ⟨rfl, hb2⟩
      go_wp2
      go_ret2
      exact ⟨rfl, below_step hb1 hb2⟩
/-- Number, whatever it is given. -/
theorem num_b (D : ByteArray) (w : World) (hDs : D.size ≤ 140737488355328) (he : Errs w) :
    Calls Tryz.prog 93 #[.string D, .int .i64 256] w (RetB w (numV (numParse D.data.toList 256).1 (numParse D.data.toList 256).2)) := by
  by_cases hs : numSyn D.data.toList = true
  · have hne : D.data.toList ≠ [] := by intro hh; rw [hh] at hs; simp [numSyn] at hs
    have hz0 : 0 < D.size := by rw [← size_data]; exact List.length_pos_iff.2 hne
    have hall : D.data.toList.all isDig = true := by simp only [numSyn, Bool.and_eq_true] at hs; exact hs.1.2
    have d1 : ¬ D.toList = [] := by rw [toList_data]; exact hne
    have d2 : D.toList.isEmpty = false := by rw [toList_isEmpty]; exact decide_eq_false (by omega)
    have e1 : (trimD D).toList = [] := (trimD_nil D).2 hall
    have e2 : (trimD D).toList.isEmpty = true := by rw [e1]; rfl
    have hz : ¬ (1 : Int) < (D.size : Int) ∨ ((1 : Int) < (D.size : Int) ∧ ((D[0].toNat : Int) == 48) = false) := by
      by_cases h1 : (1 : Int) < (D.size : Int)
      · refine .inr ⟨h1, ?_⟩
        have hd := data_cons D hz0
        simp only [numSyn, Bool.and_eq_true] at hs
        have h2 := hs.2
        rw [hd] at h2
        have h3 : decide (1 < (D[0] :: (D.extract 1 D.size).data.toList).length) = true := by rw [← hd, size_data]; simp; omega
        rw [h3] at h2
        simp only [List.head?_cons, Bool.true_and, Bool.not_eq_true'] at h2
        have h4 : D[0] ≠ 48 := by intro hh; rw [hh] at h2; simp at h2
        have h5 : ¬ D[0].toNat = 48 := by intro hh; exact h4 (UInt8.toNat_inj.1 (by rw [hh]; rfl))
        simp; omega
      · exact .inl h1
    obtain ⟨hA1, hA2⟩ := atoi_dig D.data.toList hne hall
    by_cases hv : digNat D.data.toList < 9223372036854775808
    · refine num_num D w hDs d1 d2 e1 e2 hz0 hz _ (hA1 hv) _ ?_
      by_cases h5 : digNat D.data.toList ≤ 256
      · exact .inr ⟨by omega, by simp [numParse, hs, h5]⟩
      · exact .inl ⟨by omega, by simp [numParse, hs, h5]⟩
    · have h5 : ¬ digNat D.data.toList ≤ 256 := by omega
      have e : numParse D.data.toList 256 = (0, 3) := by simp [numParse, hs, h5]
      rw [e]
      exact num_range D w hDs he d1 d2 e1 e2 hz0 hz (hA2 hv)
  · have e : numParse D.data.toList 256 = (0, 6) := by simp [numParse, hs]
    rw [e]
    by_cases hz0 : 0 < D.size
    · have d1 : ¬ D.toList = [] := by rw [toList_nil_iff]; omega
      have d2 : D.toList.isEmpty = false := by rw [toList_isEmpty]; exact decide_eq_false (by omega)
      by_cases hall : D.data.toList.all isDig = true
      · have e1 : (trimD D).toList = [] := (trimD_nil D).2 hall
        have e2 : (trimD D).toList.isEmpty = true := by rw [e1]; rfl
        have hd := data_cons D hz0
        have hl2 : D.data.toList.length = D.size := size_data D
        have hne : D.data.toList.isEmpty = false := by rw [hd]; rfl
        have h2 : (decide (1 < D.data.toList.length) && D.data.toList.head? == some 48) = true := by
          simp only [numSyn, hne, hall, Bool.not_false, Bool.true_and] at hs
          simpa using hs
        simp only [Bool.and_eq_true, decide_eq_true_eq] at h2
        have h3 : D[0] = 48 := by
          have := h2.2
          rw [hd] at this
          simpa using this
        exact num_bad4 D w hDs d1 d2 e1 e2 hz0 (by have := h2.1; omega) (by rw [h3]; rfl)
      · have e2 : (trimD D).toList.isEmpty = false := by
          cases hh : (trimD D).toList with
          | nil => exact absurd ((trimD_nil D).1 hh) hall
          | cons a r => rfl
        exact num_bad3 D w hDs d1 d2 e2
    · exact num_bad1 D w (by rw [toList_nil_iff]; omega)
end Go.Proofs.YtolmkdhgnganaaaGreatDoor.H
namespace Go.Proofs.YtolmkdhgnganaaaGreatDoor.H
open Go Go.RowKit Go.Proofs Go.Proofs.YtolmkdhgnganaaaGreatDoorW.PrintWords Go.Proofs.YtolmkdhgnganaaaGreatDoor.Sp
/-- What the parser holds. -/
structure PSt where
  i : Int
  q : Int
  m : Int
  sized : Bool
  rungs : List Rung
  lines : List Int
  jumps : List Int
/-- The types of the blocks that are the parser's. -/
def parT (t : Nat) : Bool := t == 77 || t == 53 || t == 59 || t == 69 || t == 3
/-- Nothing that lay below B is changed, nor any block that is not of the parser's types. -/
structure KP (B : Nat) (w w' : World) : Prop where
  b : Below B w w'
  k : ∀ (k : Nat) (o : Obj), w.heap[k]? = some o → (∀ cs t fr, o = .cells cs t fr → parT t = false) → w'.heap[k]? = some o
theorem KP.of_below {B : Nat} {w w' : World} (hB : B ≤ w.heap.size) (h : Below w.heap.size w w') : KP B w w' := ⟨h.mono hB, fun k o hk _ => blk_below hk h⟩
theorem KP.trans {B : Nat} {a b c : World} (h : KP B a b) (k : KP B b c) : KP B a c := ⟨h.b.trans k.b, fun i o hi ho => k.k i o (h.k i o hi ho) ho⟩
theorem KP.grown {B : Nat} {w w' : World} {row : Option Nat} {t : Nat} (hB : B ≤ w.heap.size) (hg : w.grownBy w' row) (hr : ∀ k, row = some k → B ≤ k ∧ ∃ cells, w.heap[k]? = some (.cells cells t (0, 0))) (ht : parT t = true) : KP B w w' :=
  ⟨(Below.refl B w).grown hg hB (fun k e => (hr k e).1), fun k o hk ho => (hg.block k (blk_lt hk) (fun e => by
    obtain ⟨_, cells, hc⟩ := hr k e.symm
    rw [hk] at hc
    cases hc
    have := ho _ _ _ rfl
    rw [ht] at this
    cases this)).trans hk⟩
theorem KP.set {B : Nat} {w : World} {g j t : Nat} {cs : Array Value} (hB : B ≤ g) (hg : w.heap[g]? = some (.cells cs t (0, 0))) (ht : parT t = true) (v : Value) : KP B w (w.setCell ⟨g, j, none⟩ v) :=
  ⟨(Below.refl B w).setCell (p := ⟨g, j, none⟩) hB v, fun k o hk ho => (Below.heap_setCell w ⟨g, j, none⟩ v k (fun e => by
    have e2 : k = g := e
    subst e2
    rw [hk] at hg
    cases hg
    have := ho _ _ _ rfl
    rw [ht] at this
    cases this)).trans hk⟩
theorem KP.blk {B : Nat} {w w' : World} (h : KP B w w') {g t : Nat} {cs : Array Value} (hg : w.heap[g]? = some (.cells cs t (0, 0))) (ht : parT t = false) : w'.heap[g]? = some (.cells cs t (0, 0)) :=
  h.k g _ hg (fun cs t fr e => by cases e; exact ht)
/-- The lines are kept. -/
theorem KP.lines {B B' : Nat} {w w' : World} (h : KP B w w') {v : Value} {l : List Ln} (hl : kLine.R 81 w B' (fun _ => True) v l) : kLine.R 81 w' B' (fun _ => True) v l := by
  refine Kd.R_mono (Kd.R_move (Kd.R_bound hl) (fun k hk => ?_)) (fun _ _ => trivial)
  obtain ⟨_, _, _, q, hq, cells, hc⟩ := hk
  rw [hc]
  refine h.blk hc ?_
  have : q = 81 ∨ q = 9 := by simpa [kLine, Kd.iso, Kd.pair, Kd.int, Kd.string, Kd.slice, Kd.scalar] using hq
  rcases this with rfl | rfl <;> rfl
/-- A row of words is kept. -/
theorem KP.words {B B' : Nat} {w w' : World} (h : KP B w w') {v : Value} {l : List ByteArray} (hl : Kd.string.R 9 w B' (fun _ => True) v l) : Kd.string.R 9 w' B' (fun _ => True) v l := by
  refine Kd.R_mono (Kd.R_move (Kd.R_bound hl) (fun k hk => ?_)) (fun _ _ => trivial)
  obtain ⟨_, _, _, q, hq, cells, hc⟩ := hk
  rw [hc]
  refine h.blk hc ?_
  have : q = 9 := by simpa [Kd.string, Kd.scalar] using hq
  subst this
  rfl
/-- What the methods read of the variables, in whatever world keeps what lay below B. -/
structure Env (B : Nat) (w : World) : Prop where
  l : ∀ W, Below B w W → Lets W
  e : ∀ W, Below B w W → Errs W
  k : ∀ W, Below B w W → Kws W
theorem Env.step {B : Nat} {w w1 : World} (h : Env B w) (hb : Below B w w1) : Env B w1 := ⟨fun W hW => h.l W (hb.trans hW), fun W hW => h.e W (hb.trans hW), fun W hW => h.k W (hb.trans hW)⟩
/-- The words' cells. -/
theorem words_cell {w : World} {B : Nat} {b n c : Nat} {ws : List ByteArray} (h : Kd.string.R 9 w B (fun _ => True) (.slice (some ⟨b, 0, none⟩) n c) ws) (j : Nat) (hj : j < n) : w.cell? ⟨b, j, none⟩ = some (.string (ws.getD j ⟨#[]⟩)) := by
  obtain ⟨hn, _, hC⟩ := Kd.R_reads' h
  subst hn
  obtain ⟨ad, c', e, hl, hK, hcc⟩ := Kd.C_get hC ⟨#[]⟩ (j : Int) (by omega) (by omega)
  cases e
  have e1 : c' = [.string (ws.getD j ⟨#[]⟩)] := by simpa [Kd.string, Kd.scalar] using hK
  subst e1
  have h1 := hcc 0 _ rfl
  have e2 : (⟨b, 0, none⟩ : Addr).add j = ⟨b, j, none⟩ := by unfold Addr.add; split <;> simp_all
  have e3 : (⟨b, 0, none⟩ : Addr).add ((j : Int).toNat * Kd.string.sz + 0) = ⟨b, j, none⟩ := by
    have : (j : Int).toNat * Kd.string.sz + 0 = j := by simp [Kd.string, Kd.scalar]
    rw [this]; exact e2
  rw [e3] at h1
  exact h1
/-- The parser at gp, its rows. -/
structure PF (B gp : Nat) (S : PSt) (vr vl vj : Value) (wr : World) : Prop where
  gb : B ≤ gp
  sz : B ≤ wr.heap.size
  p : wr.heap[gp]? = some (.cells #[.int .i64 S.i, .int .i64 S.q, .int .i64 S.m, vr, .bool S.sized, vl, vj] 77 (0, 0))
  r : Kd.S kRung 53 wr B (fun _ => True) vr S.rungs
  l : (Kd.int .i64).R 3 wr B (fun _ => True) vl S.lines
  j : (Kd.int .i64).R 3 wr B (fun _ => True) vj S.jumps
  lj : ∀ k, vl.ownBlock = some k → vj.ownBlock ≠ some k
  nl : S.lines.length = S.rungs.length
  nj : S.jumps.length = S.rungs.length
  n64 : S.rungs.length ≤ 64
theorem PF.below {B gp : Nat} {S : PSt} {vr vl vj : Value} {wr w1 : World} (h : PF B gp S vr vl vj wr) (hb : Below wr.heap.size wr w1) : PF B gp S vr vl vj w1 :=
  ⟨h.gb, Nat.le_trans h.sz hb.size, blk_below h.p hb, Kd.S_below h.r hb, Kd.R_below h.l hb, Kd.R_below h.j hb, h.lj, h.nl, h.nj, h.n64⟩
theorem PF.cells {B gp : Nat} {S : PSt} {vr vl vj : Value} {wr : World} (h : PF B gp S vr vl vj wr) : wr.cell? ⟨gp, 0, none⟩ = some (.int .i64 S.i) ∧ wr.cell? ⟨gp, 1, none⟩ = some (.int .i64 S.q) ∧ wr.cell? ⟨gp, 2, none⟩ = some (.int .i64 S.m) ∧
    wr.cell? ⟨gp, 3, none⟩ = some vr ∧ wr.cell? ⟨gp, 4, none⟩ = some (.bool S.sized) ∧ wr.cell? ⟨gp, 5, none⟩ = some vl ∧ wr.cell? ⟨gp, 6, none⟩ = some vj :=
  ⟨blk_cell h.p 0, blk_cell h.p 1, blk_cell h.p 2, blk_cell h.p 3, blk_cell h.p 4, blk_cell h.p 5, blk_cell h.p 6⟩
theorem types_par : ∀ t, t ∈ 53 :: kRung.E → t ≠ 77 := by decide
/-- The three sizes, one of them stored. -/
def PSt.put (S : PSt) (k : Nat) (v : Int) : PSt := if k = 0 then { S with i := v } else if k = 1 then { S with q := v } else { S with m := v }
theorem PF.size {B gp : Nat} {S : PSt} {vr vl vj : Value} {wr : World} (h : PF B gp S vr vl vj wr) (k : Nat) (hk : k < 3) (v : Int) : PF B gp (S.put k v) vr vl vj (wr.setCell ⟨gp, k, none⟩ (.int .i64 v)) := by
  have hp := blk_set h.p k (.int .i64 v)
  have hr := Kd.S_set h.r h.p types_par k (.int .i64 v)
  have hl := Kd.R_set h.l h.p (by decide) k (.int .i64 v)
  have hj := Kd.R_set h.j h.p (by decide) k (.int .i64 v)
  have hs : B ≤ (wr.setCell ⟨gp, k, none⟩ (.int .i64 v)).heap.size := by have := h.sz; simpa using this
  have : k = 0 ∨ k = 1 ∨ k = 2 := by omega
  rcases this with rfl | rfl | rfl <;> exact ⟨h.gb, hs, by simpa [PSt.put] using hp, hr, hl, hj, h.lj, h.nl, h.nj, h.n64⟩
theorem PF.sized {B gp : Nat} {S : PSt} {vr vl vj : Value} {wr : World} (h : PF B gp S vr vl vj wr) : PF B gp { S with sized := true } vr vl vj (wr.setCell ⟨gp, 4, none⟩ (.bool true)) := by
  have hp := blk_set h.p 4 (.bool true)
  have hs : B ≤ (wr.setCell ⟨gp, 4, none⟩ (.bool true)).heap.size := by have := h.sz; simpa using this
  exact ⟨h.gb, hs, by simpa using hp, Kd.S_set h.r h.p types_par 4 _, Kd.R_set h.l h.p (by decide) 4 _, Kd.R_set h.j h.p (by decide) 4 _, h.lj, h.nl, h.nj, h.n64⟩
end Go.Proofs.YtolmkdhgnganaaaGreatDoor.H
namespace Go.Proofs.YtolmkdhgnganaaaGreatDoor.H
open Go Go.RowKit Go.Proofs Go.Proofs.YtolmkdhgnganaaaGreatDoorW.PrintWords Go.Proofs.YtolmkdhgnganaaaGreatDoorW.PrintLast Go.Proofs.YtolmkdhgnganaaaGreatDoorW.PrintMore Go.Proofs.YtolmkdhgnganaaaGreatDoor.Sp
set_option maxRecDepth 100000 in
theorem sizes_p (gp : Nat) (i q m : Int) (w : World) (h0 : w.cell? ⟨gp, 0, none⟩ = some (.int .i64 i)) (h1 : w.cell? ⟨gp, 1, none⟩ = some (.int .i64 q)) (h2 : w.cell? ⟨gp, 2, none⟩ = some (.int .i64 m)) :
    Calls Tryz.prog 120 #[.pointer (some ⟨gp, 0, none⟩)] w (RetB w (.agg #[.int .i64 i, .int .i64 q, .int .i64 m, .int .i64 0])) := by
  have lt : gp < w.heap.size := World.block_lt_of_cell? w _ h0
  have K0 := Aside0.mk (blk_new w (.cells #[.int .i64 0, .int .i64 0, .int .i64 0, .int .i64 0] 86))
  have B0 := Aside0.mk (below_alloc (Below.refl w.heap.size w) (.cells #[.int .i64 0, .int .i64 0, .int .i64 0, .int .i64 0] 86))
  have u0 := pw_cell_below B0.out h0
  have u1 := pw_cell_below B0.out h1
  have u2 := pw_cell_below B0.out h2
  go_enter Tryz.func120, Tryz.ntmps120
  go_wp2_with fail
  generalize hg : w.heap.size = g at K0 B0 ⊢
  have hB := Aside0.mk hg
  clear hg
  generalize w.alloc (.cells #[.int .i64 0, .int .i64 0, .int .i64 0, .int .i64 0] 86) = w1 at K0 B0 u0 u1 u2 ⊢
  have K1 := Aside0.mk (blk_drew K0.out)
  have B1 := Aside0.mk (below_drew (by have := B0.out; rw [← hB.out] at this; exact this))
  have r0 : w1.cell? ⟨g, 0, none⟩ = some (.int .i64 0) := blk_cell K0.out 0
  have r1 : w1.cell? ⟨g, 1, none⟩ = some (.int .i64 0) := blk_cell K0.out 1
  have r2 : w1.cell? ⟨g, 2, none⟩ = some (.int .i64 0) := blk_cell K0.out 2
  have r3 : w1.cell? ⟨g, 3, none⟩ = some (.int .i64 0) := blk_cell K0.out 3
  have f0 := blk_frozen K0.out 0
  have f1 := blk_frozen K0.out 1
  have f2 := blk_frozen K0.out 2
  have f3 := blk_frozen K0.out 3
  refine start_ (n := 17) (S := fun w' => w'.cell? ⟨gp, 0, none⟩ = some (.int .i64 i) ∧ w'.cell? ⟨gp, 1, none⟩ = some (.int .i64 q) ∧ w'.cell? ⟨gp, 2, none⟩ = some (.int .i64 m)) (ds := [16]) #[false, false, false, false, false, false, false, false, false, false, false, false, false, false, false, false, false] (by kernel_rfl) rfl rfl ⟨u0, u1, u2⟩ (fun hHeld => ?_)
  refine pure_ (i := 0) (N := some 3) (v := ?_) (a' := ?_) #[true, false, false, false, false, false, false, false, false, false, false, false, false, false, false, false, false] rfl rfl (by kernel_rfl) (fun _ _ _ h => h) (Or.inl ⟨by rfl, ?_⟩) ?_ ?_
  rotate_left
  · intro w'
    go_simp
    with_reducible rfl
  rotate_left
  · simp only [Act.put, List.setIfInBounds_toArray, List.set_cons_zero, List.set_cons_succ, i64_w, i32_w]
    rfl
  refine pure_ (i := 1) (N := some 4) (v := ?_) (a' := ?_) #[true, true, false, false, false, false, false, false, false, false, false, false, false, false, false, false, false] rfl rfl (by kernel_rfl) (fun _ _ _ h => h) (Or.inl ⟨by rfl, ?_⟩) ?_ ?_
  rotate_left
  · intro w'
    go_simp
    with_reducible rfl
  rotate_left
  · simp only [Act.put, List.setIfInBounds_toArray, List.set_cons_zero, List.set_cons_succ, i64_w, i32_w]
    rfl
  refine pure_ (i := 2) (N := some 5) (v := ?_) (a' := ?_) #[true, true, true, false, false, false, false, false, false, false, false, false, false, false, false, false, false] rfl rfl (by kernel_rfl) (fun _ _ _ h => h) (Or.inl ⟨by rfl, ?_⟩) ?_ ?_
  rotate_left
  · intro w'
    go_simp
    with_reducible rfl
  rotate_left
  · simp only [Act.put, List.setIfInBounds_toArray, List.set_cons_zero, List.set_cons_succ, i64_w, i32_w]
    rfl
  refine pure_ (i := 3) (N := some 6) (v := ?_) (a' := ?_) #[true, true, true, true, false, false, false, false, false, false, false, false, false, false, false, false, false] rfl rfl (by kernel_rfl) (fun _ _ _ h => h) (Or.inl ⟨by rfl, ?_⟩) ?_ ?_
  rotate_left
  · intro w'
    go_simp
    with_reducible rfl
  rotate_left
  · simp only [Act.put, List.setIfInBounds_toArray, List.set_cons_zero, List.set_cons_succ, i64_w, i32_w]
    rfl
  refine pure_ (i := 5) (N := some 8) (v := ?_) (a' := ?_) #[true, true, true, true, false, true, false, false, false, false, false, false, false, false, false, false, false] rfl rfl (by kernel_rfl) (fun _ _ _ h => h) (Or.inl ⟨by rfl, ?_⟩) ?_ ?_
  rotate_left
  · intro w'
    go_simp
    with_reducible rfl
  rotate_left
  · simp only [Act.put, List.setIfInBounds_toArray, List.set_cons_zero, List.set_cons_succ, i64_w, i32_w]
    rfl
  refine pure_ (i := 6) (N := some 9) (v := ?_) (a' := ?_) #[true, true, true, true, false, true, true, false, false, false, false, false, false, false, false, false, false] rfl rfl (by kernel_rfl) (fun _ _ _ h => h) (Or.inl ⟨by rfl, ?_⟩) ?_ ?_
  rotate_left
  · intro w'
    go_simp
    with_reducible rfl
  rotate_left
  · simp only [Act.put, List.setIfInBounds_toArray, List.set_cons_zero, List.set_cons_succ, i64_w, i32_w]
    rfl
  refine pure_ (i := 7) (N := some 10) (v := ?_) (a' := ?_) #[true, true, true, true, false, true, true, true, false, false, false, false, false, false, false, false, false] rfl rfl (by kernel_rfl) (fun _ _ _ h => h) (Or.inl ⟨by rfl, ?_⟩) ?_ ?_
  rotate_left
  · intro w'
    go_simp
    with_reducible rfl
  rotate_left
  · simp only [Act.put, List.setIfInBounds_toArray, List.set_cons_zero, List.set_cons_succ, i64_w, i32_w]
    rfl
  refine pure_ (i := 8) (N := some 11) (v := ?_) (a' := ?_) #[true, true, true, true, false, true, true, true, true, false, false, false, false, false, false, false, false] rfl rfl (by kernel_rfl) (fun _ _ _ h => h) (Or.inl ⟨by rfl, ?_⟩) ?_ ?_
  rotate_left
  · intro w'
    go_simp
    with_reducible rfl
  rotate_left
  · simp only [Act.put, List.setIfInBounds_toArray, List.set_cons_zero, List.set_cons_succ, i64_w, i32_w]
    rfl
  refine pure_ (i := 10) (N := some 13) (v := ?_) (a' := ?_) #[true, true, true, true, false, true, true, true, true, false, true, false, false, false, false, false, false] rfl rfl (by kernel_rfl) (fun _ _ _ h => h) (Or.inl ⟨by rfl, ?_⟩) ?_ ?_
  rotate_left
  · intro w'
    go_simp
    with_reducible rfl
  rotate_left
  · simp only [Act.put, List.setIfInBounds_toArray, List.set_cons_zero, List.set_cons_succ, i64_w, i32_w]
    rfl
  refine pure_ (i := 11) (N := some 14) (v := ?_) (a' := ?_) #[true, true, true, true, false, true, true, true, true, false, true, true, false, false, false, false, false] rfl rfl (by kernel_rfl) (fun _ _ _ h => h) (Or.inl ⟨by rfl, ?_⟩) ?_ ?_
  rotate_left
  · intro w'
    go_simp
    with_reducible rfl
  rotate_left
  · simp only [Act.put, List.setIfInBounds_toArray, List.set_cons_zero, List.set_cons_succ, i64_w, i32_w]
    rfl
  refine pure_ (i := 12) (N := some 15) (v := ?_) (a' := ?_) #[true, true, true, true, false, true, true, true, true, false, true, true, true, false, false, false, false] rfl rfl (by kernel_rfl) (fun _ _ _ h => h) (Or.inl ⟨by rfl, ?_⟩) ?_ ?_
  rotate_left
  · intro w'
    go_simp
    with_reducible rfl
  rotate_left
  · simp only [Act.put, List.setIfInBounds_toArray, List.set_cons_zero, List.set_cons_succ, i64_w, i32_w]
    rfl
  refine pure_ (i := 13) (N := some 16) (v := ?_) (a' := ?_) #[true, true, true, true, false, true, true, true, true, false, true, true, true, true, false, false, false] rfl rfl (by kernel_rfl) (fun _ _ _ h => h) (Or.inl ⟨by rfl, ?_⟩) ?_ ?_
  rotate_left
  · intro w'
    go_simp
    with_reducible rfl
  rotate_left
  · simp only [Act.put, List.setIfInBounds_toArray, List.set_cons_zero, List.set_cons_succ, i64_w, i32_w]
    rfl
  refine take_ (i := 4) (N := some 7) (v := ?_) (a' := ?_) #[true, true, true, true, true, true, true, true, true, false, true, true, true, true, false, false, false] rfl rfl (by kernel_rfl) (fun _ _ _ h => h) (Or.inl ⟨by rfl, ?_⟩) hHeld ?_ ?_
  rotate_left
  · rintro w' ⟨s0, s1, s2⟩
    go_simp
    with_reducible rfl
  rotate_left
  · simp only [Act.put, List.setIfInBounds_toArray, List.set_cons_zero, List.set_cons_succ, i64_w, i32_w]
    rfl
  refine take_ (i := 9) (N := some 12) (v := ?_) (a' := ?_) #[true, true, true, true, true, true, true, true, true, true, true, true, true, true, false, false, false] rfl rfl (by kernel_rfl) (fun _ _ _ h => h) (Or.inl ⟨by rfl, ?_⟩) hHeld ?_ ?_
  rotate_left
  · rintro w' ⟨s0, s1, s2⟩
    go_simp
    with_reducible rfl
  rotate_left
  · simp only [Act.put, List.setIfInBounds_toArray, List.set_cons_zero, List.set_cons_succ, i64_w, i32_w]
    rfl
  refine take_ (i := 14) (N := some 17) (v := ?_) (a' := ?_) #[true, true, true, true, true, true, true, true, true, true, true, true, true, true, true, false, false] rfl rfl (by kernel_rfl) (fun _ _ _ h => h) (Or.inl ⟨by rfl, ?_⟩) hHeld ?_ ?_
  rotate_left
  · rintro w' ⟨s0, s1, s2⟩
    go_simp
    with_reducible rfl
  rotate_left
  · simp only [Act.put, List.setIfInBounds_toArray, List.set_cons_zero, List.set_cons_succ, i64_w, i32_w]
    rfl
  refine pure_ (i := 15) (N := some 18) (v := ?_) (a' := ?_) #[true, true, true, true, true, true, true, true, true, true, true, true, true, true, true, true, false] rfl rfl (by kernel_rfl) (fun _ _ _ h => h) (Or.inl ⟨by rfl, ?_⟩) ?_ ?_
  rotate_left
  · intro w'
    go_simp
    with_reducible rfl
  rotate_left
  · simp only [Act.put, List.setIfInBounds_toArray, List.set_cons_zero, List.set_cons_succ, i64_w, i32_w]
    rfl
  refine last_ (i := 16) (N := none) #[true, true, true, true, true, true, true, true, true, true, true, true, true, true, true, true, true] rfl rfl (by kernel_rfl) (by decide) (fun K hK => ?_)
  refine skip_ (w1 := ?_) (by rfl) rfl ?_ ?_
  rotate_left
  · go_simp
    rfl
  refine hK.out _ _ ?_
  clear hK K
  refine done_ (by kernel_rfl) ?_
  have KF : (((((w1.setCell ⟨g, 0, none⟩ (.int .i64 i)).setCell ⟨g, 1, none⟩ (.int .i64 q)).setCell ⟨g, 2, none⟩ (.int .i64 m)).setCell ⟨g, 3, none⟩ (.int .i64 0)).drew).heap[g]? = some (.cells #[.int .i64 i, .int .i64 q, .int .i64 m, .int .i64 0] 86 (0, 0)) := by
    have := blk_drew (blk_set (blk_set (blk_set (blk_set K0.out 0 (.int .i64 i)) 1 (.int .i64 q)) 2 (.int .i64 m)) 3 (.int .i64 0))
    simpa using this
  have hgs : w.heap.size ≤ g := by have := hB.out; omega
  have FB : Below w.heap.size w (((((w1.setCell ⟨g, 0, none⟩ (.int .i64 i)).setCell ⟨g, 1, none⟩ (.int .i64 q)).setCell ⟨g, 2, none⟩ (.int .i64 m)).setCell ⟨g, 3, none⟩ (.int .i64 0)).drew) := below_drew (below_set (below_set (below_set (below_set (by have := B0.out; rw [← hB.out] at this; exact this) hgs) hgs) hgs) hgs)
  generalize ((((w1.setCell ⟨g, 0, none⟩ (.int .i64 i)).setCell ⟨g, 1, none⟩ (.int .i64 q)).setCell ⟨g, 2, none⟩ (.int .i64 m)).setCell ⟨g, 3, none⟩ (.int .i64 0)).drew = w2 at KF FB ⊢
  have c0 : w2.cell? ⟨g, 0, none⟩ = some (.int .i64 i) := blk_cell KF 0
  have c1 : w2.cell? ⟨g, 1, none⟩ = some (.int .i64 q) := blk_cell KF 1
  have c2 : w2.cell? ⟨g, 2, none⟩ = some (.int .i64 m) := blk_cell KF 2
  have c3 : w2.cell? ⟨g, 3, none⟩ = some (.int .i64 0) := blk_cell KF 3
  clear r0 r1 r2 r3 f0 f1 f2 f3 u0 u1 u2 hHeld
  go_wp2
  exact bodyPost_ret (v := .agg #[.int .i64 i, .int .i64 q, .int .i64 m, .int .i64 0]) (by simp [results, Tryz.results120, go_sem, c0, c1, c2, c3]) rfl ⟨rfl, FB⟩
/-- What address answers. -/
def adrE (i q m : Int) (t : List UInt8) : Int := if (addrParse t).2.2 = 0 then chkAddr i q m (addrParse t).1 (addrParse t).2.1 else (addrParse t).2.2
set_option maxHeartbeats 2000000 in
set_option maxRecDepth 100000 in
theorem address_p (gp : Nat) (i q m : Int) (t : ByteArray) (w : World) (ht : t.size ≤ 140737488355328) (h0 : w.cell? ⟨gp, 0, none⟩ = some (.int .i64 i)) (h1 : w.cell? ⟨gp, 1, none⟩ = some (.int .i64 q)) (h2 : w.cell? ⟨gp, 2, none⟩ = some (.int .i64 m)) (hl : Lets w) (he : Errs w) :
    Calls Tryz.prog 96 #[.pointer (some ⟨gp, 0, none⟩), .string t] w (RetB w (prsV (addrParse t.data.toList).1 (addrParse t.data.toList).2.1 (adrE i q m t.data.toList))) := by
  have lt : gp < w.heap.size := World.block_lt_of_cell? w _ h0
  have HA := Aside0.mk (fun W (hW : Below w.heap.size w W) => prs_b t W ht (hl.below hW) (he.below hW))
  have HS := Aside0.mk (fun W (hW : Below w.heap.size w W) => sizes_p gp i q m W (pw_cell_below hW h0) (pw_cell_below hW h1) (pw_cell_below hW h2))
  have HC := Aside0.mk (fun W => chk_b i q m 0 (addrParse t.data.toList).1 (addrParse t.data.toList).2.1 W)
  clear hl he h0 h1 h2
  unfold adrE
  generalize (addrParse t.data.toList).1 = sp at *
  generalize (addrParse t.data.toList).2.1 = n at *
  generalize (addrParse t.data.toList).2.2 = e at *
  generalize chkAddr i q m sp n = ce at *
  generalize hae : (if e = 0 then ce else e) = ae
  have HAE := Aside0.mk hae
  clear hae
  have K0 := Aside0.mk (blk_new w (.cells #[.int .i64 0, .int .i64 0] 57))
  have B0 := Aside0.mk (below_alloc (Below.refl w.heap.size w) (.cells #[.int .i64 0, .int .i64 0] 57))
  go_enter Tryz.func96, Tryz.ntmps96
  go_wp2_with fail
  refine (HA.out _ B0.out).mono ?_
  rintro e_ w1 ⟨rfl, hb⟩
  unfold prsV
  have K1 := Aside0.mk (blk_below K0.out hb)
  have B1 := Aside0.mk (below_step B0.out hb)
  clear K0 B0 hb
  generalize hg : w.heap.size = g at K1 B1 ⊢
  have HG := Aside0.mk hg
  clear hg
  have K2 := Aside0.mk (blk_alloc K1.out (.cells #[.int .i64 sp, .int .i64 n] 57))
  have K3 := Aside0.mk (blk_new w1 (.cells #[.int .i64 sp, .int .i64 n] 57))
  have B2 := Aside0.mk (B1.out.alloc (Nat.le_trans (by have := HG.out; omega) B1.out.size) (.cells #[.int .i64 sp, .int .i64 n] 57))
  have B2' : Aside0 (Below w.heap.size w (w1.alloc (.cells #[.int .i64 sp, .int .i64 n] 57))) := ⟨by have := B2.out; rw [← HG.out] at this; exact this⟩
  have hgl : g < w1.heap.size := blk_lt K1.out
  generalize hg2 : w1.heap.size = g2 at K3 hgl
  by_cases he0 : e = 0
  · subst he0
    obtain rfl : ae = ce := by rw [← HAE.out, if_pos rfl]
    have HW := Aside0.mk (below_drew B2'.out)
    have q2 : (w1.alloc (.cells #[.int .i64 sp, .int .i64 n] 57)).drew.cell? ⟨g2, 0, none⟩ = some (.int .i64 sp) := blk_cell K3.out 0
    have q3 : (w1.alloc (.cells #[.int .i64 sp, .int .i64 n] 57)).drew.cell? ⟨g2, 1, none⟩ = some (.int .i64 n) := blk_cell K3.out 1
    go_wp2_with fail
    generalize w1.alloc (.cells #[.int .i64 sp, .int .i64 n] 57) = w2 at *
    have KA := Aside0.mk (blk_drew K2.out)
    refine start_ (n := 5) (S := fun w' => w'.cell? ⟨g2, 0, none⟩ = some (.int .i64 sp) ∧ w'.cell? ⟨g2, 1, none⟩ = some (.int .i64 n)) (ds := []) #[false, false, false, false, false] (by kernel_rfl) rfl rfl ⟨q2, q3⟩ (fun hHeld => ?_)
    refine pure_ (i := 0) (N := some 15) (v := ?_) (a' := ?_) #[true, false, false, false, false] rfl rfl (by kernel_rfl) (fun _ _ _ h => h) (Or.inl ⟨by rfl, ?_⟩) ?_ ?_
    rotate_left
    · intro w'
      go_simp
      with_reducible rfl
    rotate_left
    · simp only [Act.put, List.setIfInBounds_toArray, List.set_cons_zero, List.set_cons_succ, i64_w, i32_w]
      rfl
    refine take_ (i := 2) (N := some 17) (v := ?_) (a' := ?_) #[true, false, true, false, false] rfl rfl (by kernel_rfl) (fun _ _ _ h => h) (Or.inl ⟨by rfl, ?_⟩) hHeld ?_ ?_
    rotate_left
    · rintro w' ⟨s0, s1⟩
      go_simp
      with_reducible rfl
    rotate_left
    · simp only [Act.put, List.setIfInBounds_toArray, List.set_cons_zero, List.set_cons_succ, i64_w, i32_w]
      rfl
    refine one_ (i := 1) (N := some 16) #[true, true, true, false, false] rfl rfl (by kernel_rfl) (by decide) (fun K hK => ?_)
    refine goes_ Tryz.func120 (by kernel_rfl) rfl #[.pointer (some ⟨gp, 0, none⟩)] (by rfl) rfl rfl (by first | (simp only [List.map_toArray, List.map_cons, List.map_nil]; done) | (simp only [List.map_toArray, List.map_cons, List.map_nil]; rfl)) ?_
    with_reducible refine (HS.out _ HW.out).mono ?_
    rintro e_ w3 ⟨rfl, hb⟩
    refine ⟨_, rfl, ?_⟩
    have n_ := Aside0.mk (below_step HW.out hb)
    clear HW
    have HW := n_
    clear n_
    have m_ := Aside0.mk (blk_below KA.out hb)
    clear KA
    have KA := m_
    clear m_
    refine hK.out _ _ ⟨(pw_cell_below hb hHeld.1), (pw_cell_below hb hHeld.2)⟩ (fun hHeld => ?_)
    clear hK K
    refine norm_ (a' := ?_) ?_ ?_
    rotate_left
    · show Act.put _ (some 16) _ = _
      simp only [Act.put, List.setIfInBounds_toArray, List.set_cons_zero, List.set_cons_succ, i64_w, i32_w]
      rfl
    refine one_ (i := 3) (N := some 18) #[true, true, true, true, false] rfl rfl (by kernel_rfl) (by decide) (fun K hK => ?_)
    refine goes_ Tryz.func99 (by kernel_rfl) rfl #[.agg #[.int .i64 i, .int .i64 q, .int .i64 m, .int .i64 0], .agg #[.int .i64 sp, .int .i64 n]] (by rfl) rfl rfl (by first | (simp only [List.map_toArray, List.map_cons, List.map_nil]; done) | (simp only [List.map_toArray, List.map_cons, List.map_nil]; rfl)) ?_
    with_reducible refine (HC.out _).mono ?_
    rintro e_ w4 ⟨rfl, hb⟩
    refine ⟨_, rfl, ?_⟩
    have n_ := Aside0.mk (below_step HW.out hb)
    clear HW
    have HW := n_
    clear n_
    have m_ := Aside0.mk (blk_below KA.out hb)
    clear KA
    have KA := m_
    clear m_
    refine hK.out _ _ ⟨(pw_cell_below hb hHeld.1), (pw_cell_below hb hHeld.2)⟩ (fun hHeld => ?_)
    clear hK K
    refine norm_ (a' := ?_) ?_ ?_
    rotate_left
    · show Act.put _ (some 18) _ = _
      simp only [Act.put, List.setIfInBounds_toArray, List.set_cons_zero, List.set_cons_succ, i64_w, i32_w]
      rfl
    refine pure_ (i := 4) (N := some 7) (v := ?_) (a' := ?_) #[true, true, true, true, true] rfl rfl (by kernel_rfl) (fun _ _ _ h => h) (Or.inl ⟨by rfl, ?_⟩) ?_ ?_
    rotate_left
    · intro w'
      go_simp
      with_reducible rfl
    rotate_left
    · simp only [Act.put, List.setIfInBounds_toArray, List.set_cons_zero, List.set_cons_succ, i64_w, i32_w]
      rfl
    refine done_ (by kernel_rfl) ?_
    obtain ⟨p2, p3⟩ := hHeld
    have q0 : w4.cell? ⟨g, 0, none⟩ = some (.int .i64 0) := blk_cell KA.out 0
    have q1 : w4.cell? ⟨g, 1, none⟩ = some (.int .i64 0) := blk_cell KA.out 1
    have f0 := blk_frozen KA.out 0
    have f1 := blk_frozen KA.out 1
    have hgs : w.heap.size ≤ g := by have := HG.out; omega
    have KF : ((w4.setCell ⟨g, 0, none⟩ (.int .i64 sp)).setCell ⟨g, 1, none⟩ (.int .i64 n)).heap[g]? = some (.cells #[.int .i64 sp, .int .i64 n] 57 (0, 0)) := by
      have := blk_set (blk_set KA.out 0 (.int .i64 sp)) 1 (.int .i64 n)
      simpa using this
    have FB : Below w.heap.size w ((w4.setCell ⟨g, 0, none⟩ (.int .i64 sp)).setCell ⟨g, 1, none⟩ (.int .i64 n)) := below_set (below_set HW.out hgs) hgs
    have KF := Aside0.mk KF
    go_wp2
    have c0 := blk_cell KF.out 0
    have c1 := blk_cell KF.out 1
    generalize (w4.setCell ⟨g, 0, none⟩ (.int .i64 sp)).setCell ⟨g, 1, none⟩ (.int .i64 n) = w5 at c0 c1 FB ⊢
    exact bodyPost_ret (v := .tuple #[.agg #[.int .i64 sp, .int .i64 n], .int .i64 ae]) (by simp [results, Tryz.results96, go_sem, c0, c1]) rfl ⟨rfl, FB⟩
  · obtain rfl : ae = e := by rw [← HAE.out, if_neg he0]
    have q0 : w1.cell? ⟨g, 0, none⟩ = some (.int .i64 0) := blk_cell K1.out 0
    have q1 : w1.cell? ⟨g, 1, none⟩ = some (.int .i64 0) := blk_cell K1.out 1
    have f0 := blk_frozen K1.out 0
    have f1 := blk_frozen K1.out 1
    have hgs : w.heap.size ≤ g := by have := HG.out; omega
    have KF : (((w1.setCell ⟨g, 0, none⟩ (.int .i64 sp)).setCell ⟨g, 1, none⟩ (.int .i64 n)).alloc (.cells #[.int .i64 sp, .int .i64 n] 57)).heap[g]? = some (.cells #[.int .i64 sp, .int .i64 n] 57 (0, 0)) := by
      have := blk_alloc (blk_set (blk_set K1.out 0 (.int .i64 sp)) 1 (.int .i64 n)) (.cells #[.int .i64 sp, .int .i64 n] 57)
      simpa using this
    have FB : Below w.heap.size w (((w1.setCell ⟨g, 0, none⟩ (.int .i64 sp)).setCell ⟨g, 1, none⟩ (.int .i64 n)).alloc (.cells #[.int .i64 sp, .int .i64 n] 57)) := below_alloc (below_set (below_set (by have := B1.out; rw [← HG.out] at this; exact this) hgs) hgs) _
    have KF := Aside0.mk KF
    go_wp2
    have c0 := blk_cell KF.out 0
    have c1 := blk_cell KF.out 1
    generalize ((w1.setCell ⟨g, 0, none⟩ (.int .i64 sp)).setCell ⟨g, 1, none⟩ (.int .i64 n)).alloc (.cells #[.int .i64 sp, .int .i64 n] 57) = w5 at c0 c1 FB ⊢
    exact bodyPost_ret (v := .tuple #[.agg #[.int .i64 sp, .int .i64 n], .int .i64 ae]) (by simp [results, Tryz.results96, go_sem, c0, c1]) rfl ⟨rfl, FB⟩
end Go.Proofs.YtolmkdhgnganaaaGreatDoor.H
namespace Go.Proofs.YtolmkdhgnganaaaGreatDoor.H
open Go Go.RowKit Go.Proofs Go.Proofs.YtolmkdhgnganaaaGreatDoorW.PrintWords Go.Proofs.YtolmkdhgnganaaaGreatDoorW.PrintLast Go.Proofs.YtolmkdhgnganaaaGreatDoorW.PrintMore Go.Proofs.YtolmkdhgnganaaaGreatDoor.Sp
set_option maxRecDepth 100000 in
theorem rungp (gp g n cap : Nat) (w : World) (h3 : w.cell? ⟨gp, 3, none⟩ = some (.slice (some ⟨g, 0, none⟩) n cap)) (hn : 0 < n) (hc : n ≤ 9223372036854775807) :
    Calls Tryz.prog 95 #[.pointer (some ⟨gp, 0, none⟩)] w (RetB w (.pointer (some ⟨g, (n - 1) * 4, none⟩))) := by
  have hw : wrap64 ((n : Int) - 1) = (n : Int) - 1 := w64 (by omega) (by omega)
  have hn1 : (1 : Int) ≤ n := by omega
  go_enter Tryz.func95, Tryz.ntmps95
  go_wp2_with fail
  go_quiet (fail)
  go_wp2
  go_ret
  exact ⟨rfl, pw_below_drewN (Below.refl _ _) _⟩
/-- Word k + 1 as a number of at most 256. -/
def nAt (ws : List ByteArray) (k : Nat) : Int × Int := numParse (ws.getD (k + 1) ⟨#[]⟩).data.toList 256
/-- What a size line does. -/
def sizeS (S : PSt) (ws : List ByteArray) : PSt × Int :=
  if S.sized then (S, 9) else
  if (nAt ws 0).2 ≠ 0 then (S, (nAt ws 0).2) else
  if (nAt ws 1).2 ≠ 0 then (S, (nAt ws 1).2) else
  if (nAt ws 2).2 ≠ 0 then (S, (nAt ws 2).2) else
    (⟨(nAt ws 0).1, (nAt ws 1).1, (nAt ws 2).1, true, S.rungs, S.lines, S.jumps⟩, 0)
/-- What a method of the parser's leaves. -/
def ParR (B gp : Nat) (w : World) (r : PSt × Int) (e : Ending) (w' : World) : Prop :=
  e = .returned (.int .i64 r.2) ∧ KP B w w' ∧ (r.2 = 0 → ∃ vr vl vj, PF B gp r.1 vr vl vj w')
def sizeUp (S : PSt) (ws : List ByteArray) : Nat → PSt
  | 0 => S
  | k + 1 => (sizeUp S ws k).put k (nAt ws k).1
theorem sizeS_err {S : PSt} {ws : List ByteArray} {k : Nat} (hs : S.sized = false) (hk : k < 3) (h : ∀ j, j < k → (nAt ws j).2 = 0) (he : (nAt ws k).2 ≠ 0) : sizeS S ws = (S, (nAt ws k).2) := by
  have : k = 0 ∨ k = 1 ∨ k = 2 := by omega
  rcases this with rfl | rfl | rfl
  · simp [sizeS, hs, he]
  · simp [sizeS, hs, he, h 0 (by omega)]
  · simp [sizeS, hs, he, h 0 (by omega), h 1 (by omega)]
theorem sizeS_ok {S : PSt} {ws : List ByteArray} (hs : S.sized = false) (h : ∀ j, j < 3 → (nAt ws j).2 = 0) : sizeS S ws = ({ sizeUp S ws 3 with sized := true }, 0) := by
  simp [sizeS, hs, h 0 (by omega), h 1 (by omega), h 2 (by omega), sizeUp, PSt.put]
/-- While the three numbers are read. -/
structure SzF (B gp : Nat) (w : World) (n : Int) (b wc gl gr : Nat) (ws : List ByteArray) (S : PSt) (vr vl vj : Value) (wr : World) : Prop where
  p : PF B gp S vr vl vj wr
  kl : wr.heap[gl]? = some (.cells #[.int .i64 n, .slice (some ⟨b, 0, none⟩) 4 wc] 81 (0, 0))
  kr : wr.heap[gr]? = some (.cells #[.pointer (some ⟨gp, 0, none⟩), .pointer (some ⟨gp, 1, none⟩), .pointer (some ⟨gp, 2, none⟩)] 154 (0, 0))
  k : KP B w wr
  w : Kd.string.R 9 wr B (fun _ => True) (.slice (some ⟨b, 0, none⟩) 4 wc) ws
theorem SzF.below {B gp : Nat} {w : World} {n : Int} {b wc gl gr : Nat} {ws : List ByteArray} {S : PSt} {vr vl vj : Value} {wr w1 : World} (h : SzF B gp w n b wc gl gr ws S vr vl vj wr) (hb : Below wr.heap.size wr w1) : SzF B gp w n b wc gl gr ws S vr vl vj w1 :=
  ⟨h.p.below hb, blk_below h.kl hb, blk_below h.kr hb, h.k.trans (KP.of_below h.p.sz hb), Kd.R_below h.w hb⟩
theorem SzF.put {B gp : Nat} {w : World} {n : Int} {b wc gl gr : Nat} {ws : List ByteArray} {S : PSt} {vr vl vj : Value} {wr : World} (h : SzF B gp w n b wc gl gr ws S vr vl vj wr) (k : Nat) (hk : k < 3) (v : Int) : SzF B gp w n b wc gl gr ws (S.put k v) vr vl vj (wr.setCell ⟨gp, k, none⟩ (.int .i64 v)) :=
  ⟨h.p.size k hk v, (KP.set (B := B) h.p.gb h.p.p (by rfl) _).blk h.kl (by rfl), (KP.set (B := B) h.p.gb h.p.p (by rfl) _).blk h.kr (by rfl), h.k.trans (KP.set h.p.gb h.p.p (by rfl) _), (KP.set (B := B) h.p.gb h.p.p (by rfl) _).words h.w⟩
set_option maxHeartbeats 4000000 in
set_option maxRecDepth 100000 in
theorem size_p {B gp : Nat} {S : PSt} {vr vl vj : Value} {w : World} (h : PF B gp S vr vl vj w) (n : Int) (b wc : Nat) (ws : List ByteArray) (hw : Kd.string.R 9 w B (fun _ => True) (.slice (some ⟨b, 0, none⟩) 4 wc) ws)
    (hsz : ∀ j, (ws.getD j ⟨#[]⟩).size ≤ 65536) (hE : Env B w) :
    Calls Tryz.prog 63 #[.pointer (some ⟨gp, 0, none⟩), .agg #[.int .i64 n, .slice (some ⟨b, 0, none⟩) 4 wc]] w (ParR B gp w (sizeS S ws)) := by
  have H := Aside0.mk h
  have HE := Aside0.mk hE
  obtain ⟨p0, p1, p2, p3, p4, p5, p6⟩ := h.cells
  have ltg : gp < w.heap.size := blk_lt h.p
  have HB0 := Aside0.mk (below_alloc (Below.refl w.heap.size w) (.cells #[.int .i64 n, .slice (some ⟨b, 0, none⟩) 4 wc] 81))
  have K0 := Aside0.mk (blk_new w (.cells #[.int .i64 n, .slice (some ⟨b, 0, none⟩) 4 wc] 81))
  have HW := Aside0.mk hw
  clear h hE hw
  cases hs : S.sized with
  | true =>
    have e : sizeS S ws = (S, 9) := by rw [sizeS, if_pos hs]
    rw [hs] at p4
    rw [e]
    go_enter Tryz.func63, Tryz.ntmps63
    go_wp2
    go_ret
    exact ⟨rfl, KP.of_below H.out.sz HB0.out, fun e => by cases e⟩
  | false =>
    rw [hs] at p4
    have HSz := Aside0.mk hs
    clear hs
    go_enter Tryz.func63, Tryz.ntmps63
    go_wp2_with fail
    generalize hg : w.heap.size = g at K0 HB0 ⊢
    have HG := Aside0.mk hg
    generalize w.alloc (.cells #[.int .i64 n, .slice (some ⟨b, 0, none⟩) 4 wc] 81) = w1 at K0 HB0 ⊢
    clear p0 p1 p2 p3 p4 p5 p6 hg
    refine start_ (n := 15) (S := fun w' => True) (ds := []) #[false, false, false, false, false, false, false, false, false, false, false, false, false, false, false] (by kernel_rfl) rfl rfl trivial (fun hHeld => ?_)
    refine pure_ (i := 0) (N := some 13) (v := ?_) (a' := ?_) #[true, false, false, false, false, false, false, false, false, false, false, false, false, false, false] rfl rfl (by kernel_rfl) (fun _ _ _ h => h) (Or.inl ⟨by rfl, ?_⟩) ?_ ?_
    rotate_left
    · intro w'
      go_simp
      with_reducible rfl
    rotate_left
    · simp only [Act.put, List.setIfInBounds_toArray, List.set_cons_zero, List.set_cons_succ, i64_w, i32_w]
      rfl
    refine pure_ (i := 1) (N := some 14) (v := ?_) (a' := ?_) #[true, true, false, false, false, false, false, false, false, false, false, false, false, false, false] rfl rfl (by kernel_rfl) (fun _ _ _ h => h) (Or.inl ⟨by rfl, ?_⟩) ?_ ?_
    rotate_left
    · intro w'
      go_simp
      with_reducible rfl
    rotate_left
    · simp only [Act.put, List.setIfInBounds_toArray, List.set_cons_zero, List.set_cons_succ, i64_w, i32_w]
      rfl
    refine pure_ (i := 2) (N := some 15) (v := ?_) (a' := ?_) #[true, true, true, false, false, false, false, false, false, false, false, false, false, false, false] rfl rfl (by kernel_rfl) (fun _ _ _ h => h) (Or.inl ⟨by rfl, ?_⟩) ?_ ?_
    rotate_left
    · intro w'
      go_simp
      with_reducible rfl
    rotate_left
    · simp only [Act.put, List.setIfInBounds_toArray, List.set_cons_zero, List.set_cons_succ, i64_w, i32_w]
      rfl
    refine pure_ (i := 3) (N := some 16) (v := ?_) (a' := ?_) #[true, true, true, true, false, false, false, false, false, false, false, false, false, false, false] rfl rfl (by kernel_rfl) (fun _ _ _ h => h) (Or.inl ⟨by rfl, ?_⟩) ?_ ?_
    rotate_left
    · intro w'
      go_simp
      with_reducible rfl
    rotate_left
    · simp only [Act.put, List.setIfInBounds_toArray, List.set_cons_zero, List.set_cons_succ, i64_w, i32_w]
      rfl
    refine pure_ (i := 4) (N := some 17) (v := ?_) (a' := ?_) #[true, true, true, true, true, false, false, false, false, false, false, false, false, false, false] rfl rfl (by kernel_rfl) (fun _ _ _ h => h) (Or.inl ⟨by rfl, ?_⟩) ?_ ?_
    rotate_left
    · intro w'
      go_simp
      with_reducible rfl
    rotate_left
    · simp only [Act.put, List.setIfInBounds_toArray, List.set_cons_zero, List.set_cons_succ, i64_w, i32_w]
      rfl
    refine pure_ (i := 5) (N := some 18) (v := ?_) (a' := ?_) #[true, true, true, true, true, true, false, false, false, false, false, false, false, false, false] rfl rfl (by kernel_rfl) (fun _ _ _ h => h) (Or.inl ⟨by rfl, ?_⟩) ?_ ?_
    rotate_left
    · intro w'
      go_simp
      with_reducible rfl
    rotate_left
    · simp only [Act.put, List.setIfInBounds_toArray, List.set_cons_zero, List.set_cons_succ, i64_w, i32_w]
      rfl
    refine pure_ (i := 6) (N := some 19) (v := ?_) (a' := ?_) #[true, true, true, true, true, true, true, false, false, false, false, false, false, false, false] rfl rfl (by kernel_rfl) (fun _ _ _ h => h) (Or.inl ⟨by rfl, ?_⟩) ?_ ?_
    rotate_left
    · intro w'
      go_simp
      with_reducible rfl
    rotate_left
    · simp only [Act.put, List.setIfInBounds_toArray, List.set_cons_zero, List.set_cons_succ, i64_w, i32_w]
      rfl
    refine pure_ (i := 7) (N := some 20) (v := ?_) (a' := ?_) #[true, true, true, true, true, true, true, true, false, false, false, false, false, false, false] rfl rfl (by kernel_rfl) (fun _ _ _ h => h) (Or.inl ⟨by rfl, ?_⟩) ?_ ?_
    rotate_left
    · intro w'
      go_simp
      with_reducible rfl
    rotate_left
    · simp only [Act.put, List.setIfInBounds_toArray, List.set_cons_zero, List.set_cons_succ, i64_w, i32_w]
      rfl
    refine pure_ (i := 8) (N := some 21) (v := ?_) (a' := ?_) #[true, true, true, true, true, true, true, true, true, false, false, false, false, false, false] rfl rfl (by kernel_rfl) (fun _ _ _ h => h) (Or.inl ⟨by rfl, ?_⟩) ?_ ?_
    rotate_left
    · intro w'
      go_simp
      with_reducible rfl
    rotate_left
    · simp only [Act.put, List.setIfInBounds_toArray, List.set_cons_zero, List.set_cons_succ, i64_w, i32_w]
      rfl
    refine pure_ (i := 9) (N := some 22) (v := ?_) (a' := ?_) #[true, true, true, true, true, true, true, true, true, true, false, false, false, false, false] rfl rfl (by kernel_rfl) (fun _ _ _ h => h) (Or.inl ⟨by rfl, ?_⟩) ?_ ?_
    rotate_left
    · intro w'
      go_simp
      with_reducible rfl
    rotate_left
    · simp only [Act.put, List.setIfInBounds_toArray, List.set_cons_zero, List.set_cons_succ, i64_w, i32_w]
      rfl
    refine pure_ (i := 10) (N := some 23) (v := ?_) (a' := ?_) #[true, true, true, true, true, true, true, true, true, true, true, false, false, false, false] rfl rfl (by kernel_rfl) (fun _ _ _ h => h) (Or.inl ⟨by rfl, ?_⟩) ?_ ?_
    rotate_left
    · intro w'
      go_simp
      with_reducible rfl
    rotate_left
    · simp only [Act.put, List.setIfInBounds_toArray, List.set_cons_zero, List.set_cons_succ, i64_w, i32_w]
      rfl
    refine pure_ (i := 11) (N := some 24) (v := ?_) (a' := ?_) #[true, true, true, true, true, true, true, true, true, true, true, true, false, false, false] rfl rfl (by kernel_rfl) (fun _ _ _ h => h) (Or.inl ⟨by rfl, ?_⟩) ?_ ?_
    rotate_left
    · intro w'
      go_simp
      with_reducible rfl
    rotate_left
    · simp only [Act.put, List.setIfInBounds_toArray, List.set_cons_zero, List.set_cons_succ, i64_w, i32_w]
      rfl
    refine pure_ (i := 14) (N := some 27) (v := ?_) (a' := ?_) #[true, true, true, true, true, true, true, true, true, true, true, true, false, false, true] rfl rfl (by kernel_rfl) (fun _ _ _ h => h) (Or.inl ⟨by rfl, ?_⟩) ?_ ?_
    rotate_left
    · intro w'
      go_simp
      with_reducible rfl
    rotate_left
    · simp only [Act.put, List.setIfInBounds_toArray, List.set_cons_zero, List.set_cons_succ, i64_w, i32_w]
      rfl
    refine one_ (i := 12) (N := some 25) #[true, true, true, true, true, true, true, true, true, true, true, true, true, false, true] rfl rfl (by kernel_rfl) (by decide) (fun K hK => ?_)
    refine value_ (w1 := ?_) (v := ?_) (by rfl) rfl ?_ ?_
    rotate_left 2
    · go_simp
      constructor
      · rfl
      · rfl
    refine hK.out _ _ trivial (fun hHeld => ?_)
    clear hK K
    refine norm_ (a' := ?_) ?_ ?_
    rotate_left
    · show Act.put _ (some 25) _ = _
      simp only [Act.put, List.setIfInBounds_toArray, List.set_cons_zero, List.set_cons_succ, i64_w, i32_w]
      rfl
    refine pure_ (i := 13) (N := some 26) (v := ?_) (a' := ?_) #[true, true, true, true, true, true, true, true, true, true, true, true, true, true, true] rfl rfl (by kernel_rfl) (fun _ _ _ h => h) (Or.inl ⟨by rfl, ?_⟩) ?_ ?_
    rotate_left
    · intro w'
      go_simp
      with_reducible rfl
    rotate_left
    · simp only [Act.put, List.setIfInBounds_toArray, List.set_cons_zero, List.set_cons_succ, i64_w, i32_w]
      rfl
    refine done_ (by kernel_rfl) ?_
    have HKr := Aside0.mk (blk_drew (blk_new w1 (.cells #[.pointer (some ⟨gp, 0, none⟩), .pointer (some ⟨gp, 1, none⟩), .pointer (some ⟨gp, 2, none⟩)] 154)))
    have hBw : Below w.heap.size w ((w1.alloc (.cells #[.pointer (some ⟨gp, 0, none⟩), .pointer (some ⟨gp, 1, none⟩), .pointer (some ⟨gp, 2, none⟩)] 154)).drew) := below_drew (below_alloc (by have := HB0.out; rw [← HG.out] at this; exact this) _)
    have HF : Aside0 (SzF B gp w n b wc g w1.heap.size ws S vr vl vj ((w1.alloc (.cells #[.pointer (some ⟨gp, 0, none⟩), .pointer (some ⟨gp, 1, none⟩), .pointer (some ⟨gp, 2, none⟩)] 154)).drew)) :=
      ⟨⟨H.out.below hBw, blk_drew (blk_alloc K0.out _), HKr.out, KP.of_below H.out.sz hBw, Kd.R_below HW.out hBw⟩⟩
    generalize (w1.alloc (.cells #[.pointer (some ⟨gp, 0, none⟩), .pointer (some ⟨gp, 1, none⟩), .pointer (some ⟨gp, 2, none⟩)] 154)).drew = w2 at HF ⊢
    generalize w1.heap.size = gr at HF ⊢
    clear K0 HB0 HKr hBw w1
    go_wp2
    go_loopw [27] (fun cv w' => ∃ k : Nat, cv = .int .i64 k ∧ k ≤ 3 ∧ ∃ wr : World, wr = w' ∧ Aside0 (SzF B gp w n b wc g gr ws (sizeUp S ws k) vr vl vj wr) ∧ Aside0 (∀ j, j < k → (nAt ws j).2 = 0)) (fun cv _ => (3 - intOf cv).toNat)
    case atStart => exact ⟨0, rfl, by omega, _, rfl, HF, ⟨fun j hj => by omega⟩⟩
    case round =>
      obtain ⟨k, rfl, hk, wr, rfl, HF, HN⟩ := hrel
      by_cases hlt : (k : Int) < 3
      · have hk3 : k < 3 := by omega
        have hwr : wrap64 ((k : Int) + 1) = (k : Int) + 1 := w64 (by omega) (by omega)
        have x0 : wr.cell? ⟨g, 0, none⟩ = some (.int .i64 n) := blk_cell HF.out.kl 0
        have x1 : wr.cell? ⟨g, 1, none⟩ = some (.slice (some ⟨b, 0, none⟩) 4 wc) := blk_cell HF.out.kl 1
        have xr : wr.cell? ⟨gr, k, none⟩ = some (.pointer (some ⟨gp, k, none⟩)) := by
          rw [blk_cell HF.out.kr k]
          have : k = 0 ∨ k = 1 ∨ k = 2 := by omega
          rcases this with rfl | rfl | rfl <;> rfl
        have xw : wr.cell? ⟨b, k + 1, none⟩ = some (.string (ws.getD (k + 1) ⟨#[]⟩)) := words_cell HF.out.w (k + 1) (by omega)
        have HNu := Aside0.mk (num_b (ws.getD (k + 1) ⟨#[]⟩) wr (by have := hsz (k + 1); omega) (HE.out.e _ HF.out.k.b))
        have hat : nAt ws k = numParse (ws.getD (k + 1) ⟨#[]⟩).data.toList 256 := rfl
        rw [← hat] at HNu
        clear hat
        generalize hv : nAt ws k = v at HNu
        have HV := Aside0.mk hv
        clear hv
        obtain ⟨v1, v2⟩ := v
        generalize ws.getD (k + 1) ⟨#[]⟩ = x at *
        go_wp2_with fail
        refine HNu.out.mono ?_
        rintro e w3 ⟨rfl, hb⟩
        unfold numV
        have HF3 := Aside0.mk (HF.out.below hb)
        clear hb x0 x1 xr xw HNu
        by_cases hv2 : v2 = 0
        · subst hv2
          have hz : ∃ z, w3.cell? ⟨gp, k, none⟩ = some (.int .i64 z) := by
            obtain ⟨c0, c1, c2, _⟩ := HF3.out.p.cells
            have : k = 0 ∨ k = 1 ∨ k = 2 := by omega
            rcases this with rfl | rfl | rfl
            · exact ⟨_, c0⟩
            · exact ⟨_, c1⟩
            · exact ⟨_, c2⟩
          obtain ⟨z, hz⟩ := hz
          have fz := blk_frozen HF3.out.p.p k
          have HP : Aside0 (SzF B gp w n b wc g gr ws (sizeUp S ws (k + 1)) vr vl vj (w3.setCell ⟨gp, k, none⟩ (.int .i64 v1))) := ⟨by
            have := HF3.out.put k hk3 v1
            rw [sizeUp, HV.out]
            exact this⟩
          have HN2 : Aside0 (∀ j, j < k + 1 → (nAt ws j).2 = 0) := ⟨fun j hj => by
            by_cases h : j < k
            · exact HN.out j h
            · obtain rfl : j = k := by omega
              rw [HV.out]⟩
          clear HF3 HN
          go_wp2
          go_roundw
          case rel => exact ⟨k + 1, by simp [hwr], by omega, _, rfl, HP, HN2⟩
          case measure => simp [intOf, hwr]; omega
        · have HE2 : Aside0 (sizeS S ws = (S, v2)) := ⟨by
            have := sizeS_err HSz.out hk3 HN.out (by rw [HV.out]; exact hv2)
            rw [HV.out] at this
            exact this⟩
          go_wp2
          go_ret
          rw [HE2.out]
          exact ⟨rfl, HF3.out.k, fun e => absurd e hv2⟩
      · obtain rfl : k = 3 := by omega
        have HO := Aside0.mk (sizeS_ok HSz.out HN.out)
        have y4 : wr.cell? ⟨gp, 4, none⟩ = some (.bool (sizeUp S ws 3).sized) := HF.out.p.cells.2.2.2.2.1
        have fz := blk_frozen HF.out.p.p 4
        have HK := Aside0.mk (HF.out.k.trans (KP.set (j := 4) HF.out.p.gb HF.out.p.p (by rfl) (.bool true)))
        have HP := Aside0.mk HF.out.p.sized
        clear HF
        generalize (sizeUp S ws 3).sized = z at y4
        go_wp2
        go_ret
        rw [HO.out]
        exact ⟨rfl, HK.out, fun _ => ⟨_, _, _, HP.out⟩⟩
end Go.Proofs.YtolmkdhgnganaaaGreatDoor.H
namespace Go.Proofs.YtolmkdhgnganaaaGreatDoor.H
open Go Go.RowKit Go.Proofs Go.Proofs.YtolmkdhgnganaaaGreatDoorW.PrintWords Go.Proofs.YtolmkdhgnganaaaGreatDoor.Sp
/-- A rung's jump is stored. -/
theorem S_jump {w : World} {B g n cap : Nat} {l : List Rung} (h : Kd.S kRung 53 w B (fun _ => True) (.slice (some ⟨g, 0, none⟩) n cap) l) (k : Nat) (hk : k < n) (s : ByteArray) :
    Kd.S kRung 53 (w.setCell ⟨g, k * 4 + 3, none⟩ (.string s)) B (fun _ => True) (.slice (some ⟨g, 0, none⟩) n cap) (l.set k ⟨(rdR l k).f0, (rdR l k).f1, (rdR l k).f2, s⟩) ∧ w.grownBy (w.setCell ⟨g, k * 4 + 3, none⟩ (.string s)) (some g) := by
  have h2 : Kd.S kRung 53 w B (fun k => True ∧ ¬ False) (.slice (some ⟨g, 0, none⟩) n cap) l := Kd.S_mono h (fun _ _ => ⟨trivial, fun h => h⟩)
  obtain ⟨oki, c, _, hM, _, _, hoki, hH⟩ := Kd.S_elem h2 PPrinterRoundTrip.z53 (k : Int) (by omega) (by omega)
  obtain ⟨v1, v2, rfl, g1, g2⟩ := PPrinterRoundTrip.k53_openM hM
  have := Kd.S_seg (okg := fun _ => False) (okp := oki) hH (by omega) (by omega) (seg := [.string s]) (j := 3) (by show 3 + 1 ≤ 4; omega) (x' := ⟨(rdR l k).f0, (rdR l k).f1, (rdR l k).f2, s⟩) (PPrinterRoundTrip.k53_mkM w B oki ⟨(rdR l k).f0, (rdR l k).f1, (rdR l k).f2, s⟩ g1 g2) (fun k hk => .inl hk) (fun k hk => hk.elim)
  exact this
/-- A rung's cells. -/
theorem S_cells4 {w : World} {B : Nat} {g n cap : Nat} {l : List Rung} (h : Kd.S kRung 53 w B (fun _ => True) (.slice (some ⟨g, 0, none⟩) n cap) l) (k : Nat) (hk : k < n) :
    ∃ v1 v2, w.cell? ⟨g, k * 4, none⟩ = some (.string (rdR l k).f0) ∧ w.cell? ⟨g, k * 4 + 1, none⟩ = some v1 ∧ w.cell? ⟨g, k * 4 + 2, none⟩ = some v2 ∧ w.cell? ⟨g, k * 4 + 3, none⟩ = some (.string (rdR l k).f3) ∧ (∀ o, w.frozen? ⟨g, k * 4 + o, none⟩ = false) ∧
      (∃ A c, v1 = .slice A (rdR l k).f1.length c) ∧ (∃ A c, v2 = .slice A (rdR l k).f2.length c) := by
  obtain ⟨oki, c, _, hM, hcc0, hfr, _⟩ := Kd.S_elem h PPrinterRoundTrip.z53 (k : Int) (by omega) (by omega)
  have hcc : ∀ i u, c[i]? = some u → w.cell? ⟨g, k * 4 + i, none⟩ = some u := hcc0
  obtain ⟨v1, v2, rfl, g1, g2⟩ := PPrinterRoundTrip.k53_openM hM
  obtain ⟨A1, c1, e1, _, _⟩ := Kd.R_reads g1
  obtain ⟨A2, c2, e2, _, _⟩ := Kd.R_reads g2
  exact ⟨v1, v2, hcc 0 _ rfl, hcc 1 _ rfl, hcc 2 _ rfl, hcc 3 _ rfl, hfr, ⟨A1, c1, e1⟩, ⟨A2, c2, e2⟩⟩
/-- Another row of numbers is kept where one is stored into. -/
theorem R_int_far {w : World} {B : Nat} {v : Value} {l : List Int} (h : (Kd.int .i64).R 3 w B (fun _ => True) v l) {g j : Nat} (hne : ∀ k, v.ownBlock = some k → k ≠ g) (u : Value) : (Kd.int .i64).R 3 (w.setCell ⟨g, j, none⟩ u) B (fun _ => True) v l :=
  Kd.R_mono (Kd.R_far (p := ⟨g, j, none⟩) (Kd.R_tight rfl h) (fun k hk => hne k hk.symm) u) (fun _ _ => trivial)
/-- Behind a jump line. -/
theorem PF.jump {B gp g n cap gj nj cj : Nat} {S : PSt} {vl : Value} {w : World} (h : PF B gp S (.slice (some ⟨g, 0, none⟩) n cap) vl (.slice (some ⟨gj, 0, none⟩) nj cj) w) (k : Nat) (hk : k < n) (s : ByteArray) (x : Int) :
    PF B gp ⟨S.i, S.q, S.m, S.sized, S.rungs.set k ⟨(rdR S.rungs k).f0, (rdR S.rungs k).f1, (rdR S.rungs k).f2, s⟩, S.lines, S.jumps.set k x⟩ (.slice (some ⟨g, 0, none⟩) n cap) vl (.slice (some ⟨gj, 0, none⟩) nj cj) ((w.setCell ⟨g, k * 4 + 3, none⟩ (.string s)).setCell ⟨gj, k, none⟩ (.int .i64 x)) ∧
      KP B w ((w.setCell ⟨g, k * 4 + 3, none⟩ (.string s)).setCell ⟨gj, k, none⟩ (.int .i64 x)) := by
  obtain ⟨hS, hg⟩ := S_jump h.r k hk s
  have hgb : B ≤ g := Kd.S_base h.r g rfl
  have hjb : B ≤ gj := Kd.R_base h.j gj rfl
  obtain ⟨cg, htg⟩ := Kd.S_typed h.r g rfl
  obtain ⟨cj', htj⟩ := Kd.R_typed h.j gj rfl
  have ngp : gp ≠ g := fun e => by have := h.p; rw [e, htg] at this; cases this
  have njg : gj ≠ g := fun e => by rw [e, htg] at htj; cases htj
  have ngj : gp ≠ gj := fun e => by have := h.p; rw [e, htj] at this; cases this
  have hp1 := blk_far h.p (p := ⟨g, k * 4 + 3, none⟩) ngp (.string s)
  have hl1 := Kd.R_set h.l htg (by decide) (k * 4 + 3) (.string s)
  have hj1 := Kd.R_set h.j htg (by decide) (k * 4 + 3) (.string s)
  have htj1 := blk_far htj (p := ⟨g, k * 4 + 3, none⟩) njg (.string s)
  have hk1 : KP B w (w.setCell ⟨g, k * 4 + 3, none⟩ (.string s)) := KP.set hgb htg (by rfl) _
  have hs1 : B ≤ (w.setCell ⟨g, k * 4 + 3, none⟩ (.string s)).heap.size := by have := h.sz; simpa using this
  generalize w.setCell ⟨g, k * 4 + 3, none⟩ (.string s) = w1 at *
  have hnj : nj = S.jumps.length := (Kd.R_reads' h.j).1
  subst hnj
  have hj2 := Kd.R_put hj1 (k : Int) x
  have hs2 : B ≤ (w1.setCell ⟨gj, k, none⟩ (.int .i64 x)).heap.size := by simpa using hs1
  refine ⟨⟨h.gb, hs2, blk_far hp1 (p := ⟨gj, k, none⟩) ngj _, Kd.S_set hS htj1 (by decide) k _, R_int_far hl1 (fun i hi e => h.lj i hi (by rw [e]; rfl)) _, hj2.1, h.lj, by rw [List.length_set]; exact h.nl, by rw [List.length_set, List.length_set]; exact h.nj, by rw [List.length_set]; exact h.n64⟩, hk1.trans (KP.set hjb htj1 (by rfl) _)⟩
/-- A rung's coils, one put behind them. -/
theorem coil_open {w : World} {B g n cap : Nat} {l : List Rung} (h : Kd.S kRung 53 w B (fun _ => True) (.slice (some ⟨g, 0, none⟩) n cap) l) (k : Nat) (hk : k < n) :
    ∃ v2, w.cell? ⟨g, k * 4 + 2, none⟩ = some v2 ∧ (∃ A c, v2 = .slice A (rdR l k).f2.length c) ∧ kCoil.R 69 w B (fun _ => True) v2 (rdR l k).f2 ∧
      ∀ {w1 : World} {v1 : Value} (c : Coil), kCoil.R 69 w1 B (fun _ => True) v1 ((rdR l k).f2 ++ [c]) → w.grownBy w1 v2.ownBlock → (v1.ownBlock = v2.ownBlock ∨ ∃ b, v1.ownBlock = some b ∧ w.heap.size ≤ b) →
        Kd.S kRung 53 (w1.setCell ⟨g, k * 4 + 2, none⟩ v1) B (fun _ => True) (.slice (some ⟨g, 0, none⟩) n cap) (l.set k ⟨(rdR l k).f0, (rdR l k).f1, (rdR l k).f2 ++ [c], (rdR l k).f3⟩) := by
  have h2 : Kd.S kRung 53 w B (fun i => True ∧ ¬ w.heap.size ≤ i) (.slice (some ⟨g, 0, none⟩) n cap) l := Kd.S_mono (Kd.S_old h (Below.refl _ _)) (fun i hi => ⟨trivial, by have := hi.2; omega⟩)
  obtain ⟨oki, c0, _, hM, hcc0, _, hoki, hH⟩ := Kd.S_elem h2 PPrinterRoundTrip.z53 (k : Int) (by omega) (by omega)
  have hcc : ∀ i u, c0[i]? = some u → w.cell? ⟨g, k * 4 + i, none⟩ = some u := hcc0
  obtain ⟨v1', v2, rfl, g1, g2⟩ := PPrinterRoundTrip.k53_openM hM
  change kCon.R 59 w B oki v1' (rdR l k).f1 at g1
  change kCoil.R 69 w B oki v2 (rdR l k).f2 at g2
  obtain ⟨A2, c2, e2, _, _⟩ := Kd.R_reads g2
  refine ⟨v2, hcc 2 _ rfl, ⟨A2, c2, e2⟩, Kd.R_mono g2 (fun _ _ => trivial), fun {w1 v1} c hR hg hat => ?_⟩
  have hR2 : kCoil.R 69 w1 B (fun i => oki i ∨ w.heap.size ≤ i) v1 ((rdR l k).f2 ++ [c]) := Kd.R_mono (Kd.R_tight rfl hR) (fun i hi => by
    rcases hat with e | ⟨b, e, hb⟩
    · exact .inl (g2.1 i (by rw [← e]; exact hi.symm))
    · rw [e] at hi
      cases hi
      exact .inr hb)
  have g1' : kCon.R 59 w1 B (fun i => oki i ∨ w.heap.size ≤ i) v1' (rdR l k).f1 := Kd.R_mono (Kd.R_over' g1 (Kd.R_typed g2) (by decide) hg) (fun i hi => .inl hi)
  have hH1 := Kd.H_grown hH hg (fun i e => g2.1 i e)
  exact (Kd.S_seg (okg := fun i => w.heap.size ≤ i) (okp := fun i => oki i ∨ w.heap.size ≤ i) hH1 (by omega) (by omega) (seg := [v1]) (j := 2) (by show 2 + 1 ≤ 4; omega) (x' := ⟨(rdR l k).f0, (rdR l k).f1, (rdR l k).f2 ++ [c], (rdR l k).f3⟩)
    (PPrinterRoundTrip.k53_mkM w1 B (fun i => oki i ∨ w.heap.size ≤ i) ⟨(rdR l k).f0, (rdR l k).f1, (rdR l k).f2 ++ [c], (rdR l k).f3⟩ g1' hR2) (fun i hi => hi) (fun i hi => ⟨trivial, fun e => by
      have := Kd.S_lt h g rfl
      omega⟩)).1
/-- A rung's contacts, one put behind them. -/
theorem con_open {w : World} {B g n cap : Nat} {l : List Rung} (h : Kd.S kRung 53 w B (fun _ => True) (.slice (some ⟨g, 0, none⟩) n cap) l) (k : Nat) (hk : k < n) :
    ∃ v2, w.cell? ⟨g, k * 4 + 1, none⟩ = some v2 ∧ (∃ A c, v2 = .slice A (rdR l k).f1.length c) ∧ kCon.R 59 w B (fun _ => True) v2 (rdR l k).f1 ∧
      ∀ {w1 : World} {v1 : Value} (c : Con), kCon.R 59 w1 B (fun _ => True) v1 ((rdR l k).f1 ++ [c]) → w.grownBy w1 v2.ownBlock → (v1.ownBlock = v2.ownBlock ∨ ∃ b, v1.ownBlock = some b ∧ w.heap.size ≤ b) →
        Kd.S kRung 53 (w1.setCell ⟨g, k * 4 + 1, none⟩ v1) B (fun _ => True) (.slice (some ⟨g, 0, none⟩) n cap) (l.set k ⟨(rdR l k).f0, (rdR l k).f1 ++ [c], (rdR l k).f2, (rdR l k).f3⟩) := by
  have h2 : Kd.S kRung 53 w B (fun i => True ∧ ¬ w.heap.size ≤ i) (.slice (some ⟨g, 0, none⟩) n cap) l := Kd.S_mono (Kd.S_old h (Below.refl _ _)) (fun i hi => ⟨trivial, by have := hi.2; omega⟩)
  obtain ⟨oki, c0, _, hM, hcc0, _, hoki, hH⟩ := Kd.S_elem h2 PPrinterRoundTrip.z53 (k : Int) (by omega) (by omega)
  have hcc : ∀ i u, c0[i]? = some u → w.cell? ⟨g, k * 4 + i, none⟩ = some u := hcc0
  obtain ⟨v2, v1', rfl, g2, g1⟩ := PPrinterRoundTrip.k53_openM hM
  change kCon.R 59 w B oki v2 (rdR l k).f1 at g2
  change kCoil.R 69 w B oki v1' (rdR l k).f2 at g1
  obtain ⟨A2, c2, e2, _, _⟩ := Kd.R_reads g2
  refine ⟨v2, hcc 1 _ rfl, ⟨A2, c2, e2⟩, Kd.R_mono g2 (fun _ _ => trivial), fun {w1 v1} c hR hg hat => ?_⟩
  have hR2 : kCon.R 59 w1 B (fun i => oki i ∨ w.heap.size ≤ i) v1 ((rdR l k).f1 ++ [c]) := Kd.R_mono (Kd.R_tight rfl hR) (fun i hi => by
    rcases hat with e | ⟨b, e, hb⟩
    · exact .inl (g2.1 i (by rw [← e]; exact hi.symm))
    · rw [e] at hi
      cases hi
      exact .inr hb)
  have g1' : kCoil.R 69 w1 B (fun i => oki i ∨ w.heap.size ≤ i) v1' (rdR l k).f2 := Kd.R_mono (Kd.R_over' g1 (Kd.R_typed g2) (by decide) hg) (fun i hi => .inl hi)
  have hH1 := Kd.H_grown hH hg (fun i e => g2.1 i e)
  exact (Kd.S_seg (okg := fun i => w.heap.size ≤ i) (okp := fun i => oki i ∨ w.heap.size ≤ i) hH1 (by omega) (by omega) (seg := [v1]) (j := 1) (by show 1 + 1 ≤ 4; omega) (x' := ⟨(rdR l k).f0, (rdR l k).f1 ++ [c], (rdR l k).f2, (rdR l k).f3⟩)
    (PPrinterRoundTrip.k53_mkM w1 B (fun i => oki i ∨ w.heap.size ≤ i) ⟨(rdR l k).f0, (rdR l k).f1 ++ [c], (rdR l k).f2, (rdR l k).f3⟩ hR2 g1') (fun i hi => hi) (fun i hi => ⟨trivial, fun e => by
      have := Kd.S_lt h g rfl
      omega⟩)).1
/-- Behind a line of a contact or a coil: a row (type t) has grown, and is stored into its rung. -/
theorem PF.row {B gp g n cap : Nat} {S : PSt} {vl vj : Value} {w w1 : World} (h : PF B gp S (.slice (some ⟨g, 0, none⟩) n cap) vl vj w) {v2 v1 : Value} {t : Nat} (htv : ∀ i, v2.ownBlock = some i → B ≤ i ∧ ∃ cells, w.heap[i]? = some (.cells cells t (0, 0)))
    (ht : parT t = true) (h93 : t ≠ 77) (h3 : t ≠ 3) (h40 : t ≠ 53) (hg : w.grownBy w1 v2.ownBlock) {o : Nat} {rs : List Rung} (hS : Kd.S kRung 53 (w1.setCell ⟨g, o, none⟩ v1) B (fun _ => True) (.slice (some ⟨g, 0, none⟩) n cap) rs) (hlen : rs.length = S.rungs.length) :
    PF B gp ⟨S.i, S.q, S.m, S.sized, rs, S.lines, S.jumps⟩ (.slice (some ⟨g, 0, none⟩) n cap) vl vj (w1.setCell ⟨g, o, none⟩ v1) ∧ KP B w (w1.setCell ⟨g, o, none⟩ v1) := by
  have hgb : B ≤ g := Kd.S_base h.r g rfl
  obtain ⟨cg, htg⟩ := Kd.S_typed h.r g rfl
  have far : ∀ {i t' : Nat} {cs : Array Value}, w.heap[i]? = some (.cells cs t' (0, 0)) → t ≠ t' → w1.heap[i]? = some (.cells cs t' (0, 0)) := fun {i t' cs} hh hne => (hg.block i (blk_lt hh) (fun e => by
    obtain ⟨_, cells, hc⟩ := htv i e.symm
    rw [hh] at hc
    cases hc
    exact hne rfl)).trans hh
  have ngp : gp ≠ g := fun e => by have := h.p; rw [e, htg] at this; cases this
  have hk1 : KP B w w1 := KP.grown h.sz hg htv ht
  have htg1 := far htg h40
  have hs1 : B ≤ (w1.setCell ⟨g, o, none⟩ v1).heap.size := by have := Nat.le_trans h.sz hg.size; simpa using this
  have tys : ∀ q, q ∈ 3 :: (Kd.int .i64).E → q ≠ t := fun q hq => by
    have : q = 3 := by simpa [Kd.int, Kd.scalar] using hq
    subst this
    exact h3.symm
  exact ⟨⟨h.gb, hs1, blk_far (far h.p h93) (p := ⟨g, o, none⟩) ngp _, hS, Kd.R_set (Kd.R_over' h.l (fun i e => (htv i e).2) tys hg) htg1 (by decide) o _, Kd.R_set (Kd.R_over' h.j (fun i e => (htv i e).2) tys hg) htg1 (by decide) o _,
    h.lj, by rw [hlen]; exact h.nl, by rw [hlen]; exact h.nj, by rw [hlen]; exact h.n64⟩, hk1.trans (KP.set hgb htg1 (by rfl) _)⟩
end Go.Proofs.YtolmkdhgnganaaaGreatDoor.H
namespace Go.Proofs.YtolmkdhgnganaaaGreatDoor.H
open Go Go.RowKit Go.Proofs Go.Proofs.YtolmkdhgnganaaaGreatDoorW.PrintWords Go.Proofs.YtolmkdhgnganaaaGreatDoorW.PrintLast Go.Proofs.YtolmkdhgnganaaaGreatDoorW.PrintMore Go.Proofs.YtolmkdhgnganaaaGreatDoor.Sp
/-- What a jump line does (n: its number). -/
def jumpS (S : PSt) (n : Int) (ws : List ByteArray) : PSt × Int :=
  if (rdR S.rungs ((S.rungs.length - 1 : Nat) : Int)).f3.toList.isEmpty = false then (S, 9) else
  if isNm (ws.getD 1 ⟨#[]⟩).data.toList = false then (S, 6) else
    (⟨S.i, S.q, S.m, S.sized, S.rungs.set (S.rungs.length - 1) ⟨(rdR S.rungs ((S.rungs.length - 1 : Nat) : Int)).f0, (rdR S.rungs ((S.rungs.length - 1 : Nat) : Int)).f1, (rdR S.rungs ((S.rungs.length - 1 : Nat) : Int)).f2, ws.getD 1 ⟨#[]⟩⟩, S.lines, S.jumps.set (S.rungs.length - 1) n⟩, 0)
set_option maxHeartbeats 4000000 in
set_option maxRecDepth 100000 in
theorem jump_p {B gp : Nat} {S : PSt} {vr vl vj : Value} {w : World} (h : PF B gp S vr vl vj w) (n : Int) (b wc : Nat) (ws : List ByteArray) (hw : Kd.string.R 9 w B (fun _ => True) (.slice (some ⟨b, 0, none⟩) 2 wc) ws)
    (hin : 0 < S.rungs.length) :
    Calls Tryz.prog 65 #[.pointer (some ⟨gp, 0, none⟩), .agg #[.int .i64 n, .slice (some ⟨b, 0, none⟩) 2 wc]] w (ParR B gp w (jumpS S n ws)) := by
  have hn64 := h.n64
  obtain ⟨g, cap, rfl, hgb, _, htg⟩ := Kd.S_form h.r hin
  obtain ⟨gj, cj, rfl, hjb, _, htj⟩ := Kd.R_form h.j (by rw [h.nj]; exact hin)
  have hnj := h.nj
  rw [hnj] at h
  obtain ⟨k, hk⟩ : ∃ k, k = S.rungs.length - 1 := ⟨_, rfl⟩
  generalize hr : jumpS S n ws = r
  have HR := Aside0.mk hr
  clear hr
  have hk1 : k < S.rungs.length := by omega
  have hkl : S.rungs.length = k + 1 := by omega
  generalize hw1 : ws.getD 1 ⟨#[]⟩ = x
  have H := Aside0.mk h
  have HK := Aside0.mk hk
  have HKL := Aside0.mk hkl
  have hki : (S.rungs.length : Int) = (k : Int) + 1 := by omega
  have HB0 := Aside0.mk (below_alloc (Below.refl w.heap.size w) (.cells #[.int .i64 n, .slice (some ⟨b, 0, none⟩) 2 wc] 81))
  have K0 := Aside0.mk (blk_new w (.cells #[.int .i64 n, .slice (some ⟨b, 0, none⟩) 2 wc] 81))
  have HW := Aside0.mk hw
  have q3 := (h.below HB0.out).cells.2.2.2.1
  clear h hw hk hkl hnj htg htj
  go_enter Tryz.func65, Tryz.ntmps65
  go_wp2_with fail
  refine (rungp gp g S.rungs.length cap _ q3 hin (by omega)).mono ?_
  rintro e w1 ⟨rfl, hb⟩
  have hke : S.rungs.length - 1 = k := HK.out.symm
  rw [hke]
  have HB1 := Aside0.mk (below_step HB0.out hb)
  have K1 := Aside0.mk (blk_below K0.out hb)
  have H1 := Aside0.mk (H.out.below HB1.out)
  have HW1 := Aside0.mk (Kd.R_below HW.out HB1.out)
  clear hb K0 HB0 q3 hke
  generalize hgl : w.heap.size = gl at K1 ⊢
  have ⟨v1, v2, x0, x1, x2, x3, xf, _, _⟩ := S_cells4 H1.out.r k hk1
  have y0 : w1.cell? ⟨gl, 0, none⟩ = some (.int .i64 n) := blk_cell K1.out 0
  have y1 : w1.cell? ⟨gl, 1, none⟩ = some (.slice (some ⟨b, 0, none⟩) 2 wc) := blk_cell K1.out 1
  have z1 : w1.cell? ⟨b, 1, none⟩ = some (.string x) := hw1 ▸ words_cell HW1.out 1 (by omega)
  cases hj : (rdR S.rungs (k : Int)).f3.toList.isEmpty with
  | false =>
    obtain rfl : r = (S, 9) := by rw [← HR.out, jumpS, ← HK.out, if_pos hj]
    have hj2 : ¬ (rdR S.rungs (k : Int)).f3.toList = [] := fun e => by rw [e] at hj; cases hj
    generalize (rdR S.rungs (k : Int)).f3 = f3 at x3 hj hj2
    go_wp2
    go_ret
    exact ⟨rfl, KP.of_below H.out.sz HB1.out, fun e => by cases e⟩
  | true =>
    have hj2 : (rdR S.rungs (k : Int)).f3.toList = [] := by simpa using hj
    have HJ := Aside0.mk hj
    have HNm := Aside0.mk (fun W => isName_b x W)
    have x3' : w1.cell? ⟨g, k * 4 + 3, none⟩ = some (.string ⟨#[]⟩) := by
      rw [x3]
      congr 2
      exact bytes_ext (by rw [toList_data] at hj2; rw [hj2])
    clear x3 hj hj2
    cases hx : isNm x.data.toList with
    | false =>
      obtain rfl : r = (S, 6) := by rw [← HR.out, jumpS, ← HK.out, if_neg (by rw [HJ.out]; simp), hw1, if_pos hx]
      rw [hx] at HNm
      go_wp2_with fail
      refine (HNm.out _).mono ?_
      rintro e w2 ⟨rfl, hb⟩
      go_wp2
      go_ret
      exact ⟨rfl, KP.of_below H.out.sz (below_step HB1.out hb), fun e => by cases e⟩
    | true =>
      have HO : Aside0 (r = (⟨S.i, S.q, S.m, S.sized, S.rungs.set k ⟨(rdR S.rungs k).f0, (rdR S.rungs k).f1, (rdR S.rungs k).f2, x⟩, S.lines, S.jumps.set k n⟩, 0)) := ⟨by rw [← HR.out, jumpS, ← HK.out, if_neg (by rw [HJ.out]; simp), hw1, if_neg (by rw [hx]; simp)]⟩
      rw [hx] at HNm
      go_wp2_with fail
      refine (HNm.out _).mono ?_
      rintro e w2 ⟨rfl, hb⟩
      have HB2 := Aside0.mk (below_step HB1.out hb)
      have K2 := Aside0.mk (blk_drew (blk_below K1.out hb))
      have H2 := Aside0.mk ((H1.out.below hb).below (below_drew (Below.refl _ _)))
      have HW2 := Aside0.mk (Kd.R_below (Kd.R_below HW1.out hb) (below_drew (Below.refl _ _)))
      clear hb y0 y1 z1 x0 x1 x2 x3' xf
      go_wp2_with fail
      have u0 : w2.drew.cell? ⟨gp, 6, none⟩ = some (.slice (some ⟨gj, 0, none⟩) S.rungs.length cj) := H2.out.cells.2.2.2.2.2.2
      have u1 : w2.drew.cell? ⟨gl, 0, none⟩ = some (.int .i64 n) := blk_cell K2.out 0
      have u2 : w2.drew.cell? ⟨gl, 1, none⟩ = some (.slice (some ⟨b, 0, none⟩) 2 wc) := blk_cell K2.out 1
      have u3 : w2.drew.cell? ⟨b, 1, none⟩ = some (.string x) := hw1 ▸ words_cell HW2.out 1 (by omega)
      obtain ⟨cg, htg⟩ := Kd.S_typed H2.out.r g rfl
      obtain ⟨cj', htj⟩ := Kd.R_typed H2.out.j gj rfl
      obtain ⟨cb, htb⟩ := Kd.R_typed HW2.out b rfl
      have hn0 : gp ≠ g := fun e => by have := H2.out.p; rw [e, htg] at this; cases this
      have hn1 : gl ≠ g := fun e => by have := K2.out; rw [e, htg] at this; cases this
      have hn2 : gl ≠ g := hn1
      have hn3 : b ≠ g := fun e => by rw [e, htg] at htb; cases htb
      have hgj : ¬ g = gj := fun e => by rw [e] at htg; rw [htg] at htj; cases htj
      have hgj' : ¬ gj = g := fun e => hgj e.symm
      obtain ⟨_, _, _, _, _, t3, tf, _, _⟩ := S_cells4 H2.out.r k hk1
      have tf3 : w2.frozen? ⟨g, k * 4 + 3, none⟩ = false := tf 3
      have t3' : w2.cell? ⟨g, k * 4 + 3, none⟩ = some (.string (rdR S.rungs (k : Int)).f3) := t3
      obtain ⟨z, tz⟩ : ∃ z, w2.cell? ⟨gj, k, none⟩ = some (.int .i64 z) := by
        obtain ⟨ad, e, hc⟩ := Kd.at_int (Kd.R_reads' H2.out.j).2.2 (k : Int) (by omega) (by rw [H2.out.nj]; omega)
        cases e
        have ea : (⟨gj, 0, none⟩ : Addr).add (k : Int).toNat = ⟨gj, k, none⟩ := by unfold Addr.add; split <;> simp_all
        rw [ea] at hc
        exact ⟨_, hc⟩
      have tfz : w2.frozen? ⟨gj, k, none⟩ = false := blk_frozen htj k
      have hwk : wrap64 ((k : Int) + 1 - 1) = k := by unfold wrap64; omega
      have hkk : (k : Int) < (k : Int) + 1 := by omega
      have hwk2 : wrap64 (k : Int) = k := by unfold wrap64; omega
      have HPJ := Aside0.mk (H2.out.jump k hk1 x n)
      clear htg htj htb t3 tf
      generalize (rdR S.rungs (k : Int)).f3 = f3 at t3'
      refine start_ (n := 22) (S := fun w' => w'.cell? ⟨gp, 6, none⟩ = some (.slice (some ⟨gj, 0, none⟩) S.rungs.length cj) ∧ w'.cell? ⟨gl, 0, none⟩ = some (.int .i64 n) ∧ w'.cell? ⟨gl, 1, none⟩ = some (.slice (some ⟨b, 0, none⟩) 2 wc) ∧ w'.cell? ⟨b, 1, none⟩ = some (.string x)) (ds := [21]) #[false, false, false, false, false, false, false, false, false, false, false, false, false, false, false, false, false, false, false, false, false, false] (by kernel_rfl) rfl rfl ⟨u0, u1, u2, u3⟩ (fun hHeld => ?_)
      refine pure_ (i := 0) (N := some 21) (v := ?_) (a' := ?_) #[true, false, false, false, false, false, false, false, false, false, false, false, false, false, false, false, false, false, false, false, false, false] rfl rfl (by kernel_rfl) (fun _ _ _ h => h) (Or.inl ⟨by rfl, ?_⟩) ?_ ?_
      rotate_left
      · intro w'
        go_simp
        with_reducible rfl
      rotate_left
      · simp only [Act.put, List.setIfInBounds_toArray, List.set_cons_zero, List.set_cons_succ, i64_w, i32_w]
        rfl
      refine pure_ (i := 1) (N := some 22) (v := ?_) (a' := ?_) #[true, true, false, false, false, false, false, false, false, false, false, false, false, false, false, false, false, false, false, false, false, false] rfl rfl (by kernel_rfl) (fun _ _ _ h => h) (Or.inl ⟨by rfl, ?_⟩) ?_ ?_
      rotate_left
      · intro w'
        go_simp
        with_reducible rfl
      rotate_left
      · simp only [Act.put, List.setIfInBounds_toArray, List.set_cons_zero, List.set_cons_succ, i64_w, i32_w]
        rfl
      refine pure_ (i := 2) (N := some 23) (v := ?_) (a' := ?_) #[true, true, true, false, false, false, false, false, false, false, false, false, false, false, false, false, false, false, false, false, false, false] rfl rfl (by kernel_rfl) (fun _ _ _ h => h) (Or.inl ⟨by rfl, ?_⟩) ?_ ?_
      rotate_left
      · intro w'
        go_simp
        with_reducible rfl
      rotate_left
      · simp only [Act.put, List.setIfInBounds_toArray, List.set_cons_zero, List.set_cons_succ, i64_w, i32_w]
        rfl
      refine pure_ (i := 3) (N := some 24) (v := ?_) (a' := ?_) #[true, true, true, true, false, false, false, false, false, false, false, false, false, false, false, false, false, false, false, false, false, false] rfl rfl (by kernel_rfl) (fun _ _ _ h => h) (Or.inl ⟨by rfl, ?_⟩) ?_ ?_
      rotate_left
      · intro w'
        go_simp
        with_reducible rfl
      rotate_left
      · simp only [Act.put, List.setIfInBounds_toArray, List.set_cons_zero, List.set_cons_succ, i64_w, i32_w]
        rfl
      refine pure_ (i := 5) (N := some 26) (v := ?_) (a' := ?_) #[true, true, true, true, false, true, false, false, false, false, false, false, false, false, false, false, false, false, false, false, false, false] rfl rfl (by kernel_rfl) (fun _ _ _ h => h) (Or.inl ⟨by rfl, ?_⟩) ?_ ?_
      rotate_left
      · intro w'
        go_simp
        with_reducible rfl
      rotate_left
      · simp only [Act.put, List.setIfInBounds_toArray, List.set_cons_zero, List.set_cons_succ, i64_w, i32_w]
        rfl
      refine pure_ (i := 6) (N := some 27) (v := ?_) (a' := ?_) #[true, true, true, true, false, true, true, false, false, false, false, false, false, false, false, false, false, false, false, false, false, false] rfl rfl (by kernel_rfl) (fun _ _ _ h => h) (Or.inl ⟨by rfl, ?_⟩) ?_ ?_
      rotate_left
      · intro w'
        go_simp
        with_reducible rfl
      rotate_left
      · simp only [Act.put, List.setIfInBounds_toArray, List.set_cons_zero, List.set_cons_succ, i64_w, i32_w]
        rfl
      refine pure_ (i := 7) (N := some 28) (v := ?_) (a' := ?_) #[true, true, true, true, false, true, true, true, false, false, false, false, false, false, false, false, false, false, false, false, false, false] rfl rfl (by kernel_rfl) (fun _ _ _ h => h) (Or.inl ⟨by rfl, ?_⟩) ?_ ?_
      rotate_left
      · intro w'
        go_simp
        with_reducible rfl
      rotate_left
      · simp only [Act.put, List.setIfInBounds_toArray, List.set_cons_zero, List.set_cons_succ, i64_w, i32_w]
        rfl
      refine pure_ (i := 11) (N := some 32) (v := ?_) (a' := ?_) #[true, true, true, true, false, true, true, true, false, false, false, true, false, false, false, false, false, false, false, false, false, false] rfl rfl (by kernel_rfl) (fun _ _ _ h => h) (Or.inl ⟨by rfl, ?_⟩) ?_ ?_
      rotate_left
      · intro w'
        go_simp
        with_reducible rfl
      rotate_left
      · simp only [Act.put, List.setIfInBounds_toArray, List.set_cons_zero, List.set_cons_succ, i64_w, i32_w]
        rfl
      refine pure_ (i := 15) (N := some 36) (v := ?_) (a' := ?_) #[true, true, true, true, false, true, true, true, false, false, false, true, false, false, false, true, false, false, false, false, false, false] rfl rfl (by kernel_rfl) (fun _ _ _ h => h) (Or.inl ⟨by rfl, ?_⟩) ?_ ?_
      rotate_left
      · intro w'
        go_simp
        with_reducible rfl
      rotate_left
      · simp only [Act.put, List.setIfInBounds_toArray, List.set_cons_zero, List.set_cons_succ, i64_w, i32_w]
        rfl
      refine take_ (i := 4) (N := some 25) (v := ?_) (a' := ?_) #[true, true, true, true, true, true, true, true, false, false, false, true, false, false, false, true, false, false, false, false, false, false] rfl rfl (by kernel_rfl) (fun _ _ _ h => h) (Or.inl ⟨by rfl, ?_⟩) hHeld ?_ ?_
      rotate_left
      · rintro w' ⟨s0, s1, s2, s3⟩
        go_simp
        with_reducible rfl
      rotate_left
      · simp only [Act.put, List.setIfInBounds_toArray, List.set_cons_zero, List.set_cons_succ, i64_w, i32_w]
        rfl
      refine take_ (i := 8) (N := some 29) (v := ?_) (a' := ?_) #[true, true, true, true, true, true, true, true, true, false, false, true, false, false, false, true, false, false, false, false, false, false] rfl rfl (by kernel_rfl) (fun _ _ _ h => h) (Or.inl ⟨by rfl, ?_⟩) hHeld ?_ ?_
      rotate_left
      · rintro w' ⟨s0, s1, s2, s3⟩
        go_simp
        with_reducible rfl
      rotate_left
      · simp only [Act.put, List.setIfInBounds_toArray, List.set_cons_zero, List.set_cons_succ, i64_w, i32_w]
        rfl
      refine pure_ (i := 9) (N := some 30) (v := ?_) (a' := ?_) #[true, true, true, true, true, true, true, true, true, true, false, true, false, false, false, true, false, false, false, false, false, false] rfl rfl (by kernel_rfl) (fun _ _ _ h => h) (Or.inl ⟨by rfl, ?_⟩) ?_ ?_
      rotate_left
      · intro w'
        go_simp
        with_reducible rfl
      rotate_left
      · simp only [Act.put, List.setIfInBounds_toArray, List.set_cons_zero, List.set_cons_succ, i64_w, i32_w]
        rfl
      refine pure_ (i := 10) (N := some 31) (v := ?_) (a' := ?_) #[true, true, true, true, true, true, true, true, true, true, true, true, false, false, false, true, false, false, false, false, false, false] rfl rfl (by kernel_rfl) (fun _ _ _ h => h) (Or.inl ⟨by rfl, ?_⟩) ?_ ?_
      rotate_left
      · intro w'
        go_simp
        with_reducible rfl
      rotate_left
      · simp only [Act.put, List.setIfInBounds_toArray, List.set_cons_zero, List.set_cons_succ, i64_w, i32_w]
        rfl
      refine take_ (i := 12) (N := some 33) (v := ?_) (a' := ?_) #[true, true, true, true, true, true, true, true, true, true, true, true, true, false, false, true, false, false, false, false, false, false] rfl rfl (by kernel_rfl) (fun _ _ _ h => h) (Or.inl ⟨by rfl, ?_⟩) hHeld ?_ ?_
      rotate_left
      · rintro w' ⟨s0, s1, s2, s3⟩
        go_simp
        with_reducible rfl
      rotate_left
      · simp only [Act.put, List.setIfInBounds_toArray, List.set_cons_zero, List.set_cons_succ, i64_w, i32_w]
        rfl
      refine pure_ (i := 13) (N := some 34) (v := ?_) (a' := ?_) #[true, true, true, true, true, true, true, true, true, true, true, true, true, true, false, true, false, false, false, false, false, false] rfl rfl (by kernel_rfl) (fun _ _ _ h => h) (Or.inl ⟨by rfl, ?_⟩) ?_ ?_
      rotate_left
      · intro w'
        go_simp
        with_reducible rfl
      rotate_left
      · simp only [Act.put, List.setIfInBounds_toArray, List.set_cons_zero, List.set_cons_succ, i64_w, i32_w]
        rfl
      refine take_ (i := 14) (N := some 35) (v := ?_) (a' := ?_) #[true, true, true, true, true, true, true, true, true, true, true, true, true, true, true, true, false, false, false, false, false, false] rfl rfl (by kernel_rfl) (fun _ _ _ h => h) (Or.inl ⟨by rfl, ?_⟩) hHeld ?_ ?_
      rotate_left
      · rintro w' ⟨s0, s1, s2, s3⟩
        go_simp
        with_reducible rfl
      rotate_left
      · simp only [Act.put, List.setIfInBounds_toArray, List.set_cons_zero, List.set_cons_succ, i64_w, i32_w]
        rfl
      refine pure_ (i := 17) (N := some 38) (v := ?_) (a' := ?_) #[true, true, true, true, true, true, true, true, true, true, true, true, true, true, true, true, false, true, false, false, false, false] rfl rfl (by kernel_rfl) (fun _ _ _ h => h) (Or.inl ⟨by rfl, ?_⟩) ?_ ?_
      rotate_left
      · intro w'
        go_simp
        with_reducible rfl
      rotate_left
      · simp only [Act.put, List.setIfInBounds_toArray, List.set_cons_zero, List.set_cons_succ, i64_w, i32_w]
        rfl
      refine pure_ (i := 18) (N := some 39) (v := ?_) (a' := ?_) #[true, true, true, true, true, true, true, true, true, true, true, true, true, true, true, true, false, true, true, false, false, false] rfl rfl (by kernel_rfl) (fun _ _ _ h => h) (Or.inl ⟨by rfl, ?_⟩) ?_ ?_
      rotate_left
      · intro w'
        go_simp
        with_reducible rfl
      rotate_left
      · simp only [Act.put, List.setIfInBounds_toArray, List.set_cons_zero, List.set_cons_succ, i64_w, i32_w]
        rfl
      refine take_ (i := 16) (N := some 37) (v := ?_) (a' := ?_) #[true, true, true, true, true, true, true, true, true, true, true, true, true, true, true, true, true, true, true, false, false, false] rfl rfl (by kernel_rfl) (fun _ _ _ h => h) (Or.inl ⟨by rfl, ?_⟩) hHeld ?_ ?_
      rotate_left
      · rintro w' ⟨s0, s1, s2, s3⟩
        go_simp
        with_reducible rfl
      rotate_left
      · simp only [Act.put, List.setIfInBounds_toArray, List.set_cons_zero, List.set_cons_succ, i64_w, i32_w]
        rfl
      refine one_ (i := 19) (N := none) #[true, true, true, true, true, true, true, true, true, true, true, true, true, true, true, true, true, true, true, true, false, false] rfl rfl (by kernel_rfl) (by decide) (fun K hK => ?_)
      refine skip_ (w1 := ?_) (by rfl) rfl ?_ ?_
      rotate_left
      · go_simp
        rfl
      refine hK.out _ _ ⟨((World.cell?_of_block (Below.heap_setCell _ ⟨g, k * 4 + 3, none⟩ _ _ hn0)).trans u0), ((World.cell?_of_block (Below.heap_setCell _ ⟨g, k * 4 + 3, none⟩ _ _ hn1)).trans u1), ((World.cell?_of_block (Below.heap_setCell _ ⟨g, k * 4 + 3, none⟩ _ _ hn2)).trans u2), ((World.cell?_of_block (Below.heap_setCell _ ⟨g, k * 4 + 3, none⟩ _ _ hn3)).trans u3)⟩ (fun hHeld => ?_)
      clear hK K
      refine pure_ (i := 20) (N := some 40) (v := ?_) (a' := ?_) #[true, true, true, true, true, true, true, true, true, true, true, true, true, true, true, true, true, true, true, true, true, false] rfl rfl (by kernel_rfl) (fun _ _ _ h => h) (Or.inl ⟨by rfl, ?_⟩) ?_ ?_
      rotate_left
      · intro w'
        go_simp
        with_reducible rfl
      rotate_left
      · simp only [Act.put, List.setIfInBounds_toArray, List.set_cons_zero, List.set_cons_succ, i64_w, i32_w]
        rfl
      refine last_ (i := 21) (N := none) #[true, true, true, true, true, true, true, true, true, true, true, true, true, true, true, true, true, true, true, true, true, true] rfl rfl (by kernel_rfl) (by decide) (fun K hK => ?_)
      refine skip_ (w1 := ?_) (by rfl) rfl ?_ ?_
      rotate_left
      · go_simp
        rfl
      refine hK.out _ _ ?_
      clear hK K
      refine done_ (by kernel_rfl) ?_
      clear hHeld u0 u1 u2 u3 t3' tf3 tz tfz
      go_wp2
      go_ret
      rw [HO.out]
      exact ⟨rfl, (KP.of_below H.out.sz (below_drew HB2.out)).trans HPJ.out.2, fun _ => ⟨_, _, _, HPJ.out.1⟩⟩
end Go.Proofs.YtolmkdhgnganaaaGreatDoor.H
