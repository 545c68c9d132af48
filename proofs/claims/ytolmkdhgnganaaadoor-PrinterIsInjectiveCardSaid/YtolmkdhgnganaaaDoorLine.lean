/-
  printer.line: it writes the words of a line.
-/
import Derived.Test.YtolmkdhgnganaaaDoorBld
import Derived.Test.YtolmkdhgnganaaaDoorLad
set_option linter.unusedVariables false
set_option linter.unusedSimpArgs false
namespace Go.Proofs.YtolmkdhgnganaaaDoor.H
open Go Go.RowKit Go.Proofs Go.Proofs.YtolmkdhgnganaaaDoorW.PrintWords Go.Proofs.YtolmkdhgnganaaaDoor.Sp

/-- Word j of a line, as it is written. -/
def wordAt (ws : List ByteArray) (j : Nat) : List UInt8 := (if j = 0 ∨ (ws.getD j ⟨#[]⟩).toList.isEmpty then [] else [32]) ++ (ws.getD j ⟨#[]⟩).data.toList
/-- The first n words. -/
def upTo (ws : List ByteArray) (n : Nat) : List UInt8 := ((List.range n).map (wordAt ws)).flatten
/-- A line. -/
def lineText (ws : List ByteArray) : List UInt8 := upTo ws ws.length ++ [10]
theorem upTo_zero (ws : List ByteArray) : upTo ws 0 = [] := rfl
theorem upTo_succ (ws : List ByteArray) (n : Nat) : upTo ws (n + 1) = upTo ws n ++ wordAt ws n := by
  simp [upTo, List.range_succ, List.map_append, List.flatten_append]
theorem upTo_mono (ws : List ByteArray) : ∀ (n m : Nat), n ≤ m → (upTo ws n).length ≤ (upTo ws m).length
  | n, 0, h => by obtain rfl : n = 0 := by omega
                  exact Nat.le_refl _
  | n, m + 1, h => by
    rcases Nat.lt_or_ge m n with h' | h'
    · obtain rfl : n = m + 1 := by omega
      exact Nat.le_refl _
    · have := upTo_mono ws n m h'
      rw [upTo_succ, List.length_append]; omega

abbrev Bld (B b : Nat) (l : List UInt8) (w : World) : Prop := Lib.IsBuilderF 79 5 B b (Lib.byteCells l) w
/-- What stands while a builder is written. -/
structure BldK (B b : Nat) (l : List UInt8) (w w' : World) : Prop where
  bl : Bld B b l w'
  be : Below B w w'
  ok : Lib.OthersKept 5 (some b) w w'
theorem byteCells_str (l : List UInt8) (s : ByteArray) : Lib.byteCells l ++ Lib.strCells s = Lib.byteCells (l ++ s.data.toList) := by
  simp [Lib.byteCells, Lib.strCells]
theorem byteCells_one (l : List UInt8) (c : UInt8) : Lib.byteCells l ++ [.int .u8 (c.toNat : Int)] = Lib.byteCells (l ++ [c]) := by
  simp [Lib.byteCells]
/-- A block that is not the builder's and holds no bytes stays. -/
theorem kept_blk {b g : Nat} {w w' : World} {cs : Array Value} {t : TypeId} (hk : Lib.OthersKept 5 (some b) w w') (h : w.heap[g]? = some (.cells cs t (0, 0))) (hb : g ≠ b) (ht : t ≠ 5) : w'.heap[g]? = some (.cells cs t (0, 0)) :=
  hk g _ h (fun e => hb (by injection e)) (fun c fz e => ht (by injection e))

theorem wb (B b : Nat) (l : List UInt8) (c : UInt8) (ci : Int) (hci : ci = (c.toNat : Int)) (w w0 : World) (h : BldK B b l w0 w) (hlen : l.length + 1 ≤ 140737488355328) (hBw : B ≤ w0.heap.size) :
    Calls Tryd.prog 59 #[.pointer (some ⟨b, 0, none⟩), .int .u8 ci] w fun e w' => e = .returned .nilIface ∧ BldK B b (l ++ [c]) w0 w' := by
  subst hci
  refine (wbyte_b B b (Lib.byteCells l) (c.toNat : Int) w h.bl (by simpa [Lib.byteCells] using hlen) (by have := h.be.size; omega)).mono ?_
  rintro e w' ⟨rfl, h1, h2, h3⟩
  exact ⟨rfl, .inr (byteCells_one l c ▸ h1), h.be.trans h2, h.ok.trans h3⟩
theorem wsr (B b : Nat) (l : List UInt8) (s : ByteArray) (w w0 : World) (h : BldK B b l w0 w) (hlen : l.length + s.size ≤ 140737488355328) (hBw : B ≤ w0.heap.size) :
    Calls Tryd.prog 60 #[.pointer (some ⟨b, 0, none⟩), .string s] w fun e w' => e = .returned (.tuple #[.int .i64 s.size, .nilIface]) ∧ BldK B b (l ++ s.data.toList) w0 w' := by
  refine (wstr_b B b (Lib.byteCells l) s w h.bl (by simpa [Lib.byteCells] using hlen) (by have := h.be.size; omega)).mono ?_
  rintro e w' ⟨rfl, h1, h2, h3⟩
  exact ⟨rfl, .inr (byteCells_str l s ▸ h1), h.be.trans h2, h.ok.trans h3⟩

set_option maxRecDepth 100000 in
theorem line_b (B b : Nat) (l : List UInt8) (g : Nat) (ws : List ByteArray) (w : World) (h : Bld B b l w) (hg : w.heap[g]? = some (.cells (ws.map Value.string).toArray 9 (0, 0))) (hgb : g ≠ b)
    (hlen : l.length + (lineText ws).length ≤ 140737488355328) (hBw : B ≤ w.heap.size) (hmx : ws.length ≤ 4) :
    Calls Tryd.prog 31 #[.pointer (some ⟨b, 0, none⟩), .slice (some ⟨g, 0, none⟩) ws.length ws.length] w fun e w' => e = .returned (.tuple #[]) ∧ BldK B b (l ++ lineText ws) w w' := by
  have HG := Aside0.mk hg
  have HW := Aside0.mk hBw
  have HL := Aside0.mk hlen
  have H0 : Aside0 (BldK B b (l ++ upTo ws 0) w w) := ⟨⟨by simpa [upTo_zero] using h, Below.refl _ _, Lib.OthersKept.refl _ _ _⟩⟩
  have hws : (ws.length : Int) ≤ 9223372036854775807 := by omega
  clear h hg hBw hlen hmx
  go_enter Tryd.func31, Tryd.ntmps31
  go_wp2
  go_loopw [8] (fun cv w' => ∃ k : Int, cv = .int .i64 k ∧ 0 ≤ k ∧ k ≤ ws.length ∧ Aside0 (BldK B b (l ++ upTo ws k.toNat) w w')) (fun cv _ => ws.length - (intOf cv).toNat)
  case atStart => exact ⟨0, rfl, by omega, by omega, H0⟩
  case round =>
    clear H0
    obtain ⟨k, rfl, b0, b1, HK⟩ := hrel
    by_cases hk : k < ws.length
    · have hwr : wrap64 (k + 1) = k + 1 := w64 (by omega) (by omega)
      have x0 := blk_cell (kept_blk HK.out.ok HG.out hgb (by decide)) k.toNat
      have e1 : (ws.map Value.string).toArray[k.toNat]? = some (.string (ws.getD k.toNat ⟨#[]⟩)) := by
        have hn : k.toNat < ws.length := by omega
        simp [List.getD, hn]
      rw [e1] at x0
      clear e1
      have hnx : (k + 1).toNat = k.toNat + 1 := by omega
      have hwd : wordAt ws k.toNat = (if k.toNat = 0 ∨ (ws.getD k.toNat ⟨#[]⟩).toList.isEmpty then [] else [32]) ++ (ws.getD k.toNat ⟨#[]⟩).data.toList := rfl
      have hln : l.length + (upTo ws k.toNat).length + (wordAt ws k.toNat).length ≤ 140737488355328 := by
        have h1 := upTo_mono ws (k.toNat + 1) ws.length (by omega)
        have h2 := HL.out
        rw [upTo_succ, List.length_append] at h1
        simp only [lineText, List.length_append, List.length_cons, List.length_nil] at h2
        omega
      have hgo : ∀ W, BldK B b (l ++ upTo ws k.toNat ++ wordAt ws k.toNat) w W → BldK B b (l ++ upTo ws (k + 1).toNat) w W := by
        intro W hW
        rw [hnx, upTo_succ, ← List.append_assoc]; exact hW
      have HGo := Aside0.mk hgo
      clear hgo
      generalize ws.getD k.toNat ⟨#[]⟩ = s at x0 hwd
      rw [hwd] at hln HGo
      have hsz : s.data.toList.length = s.size := by rw [Array.length_toList]; rfl
      clear hwd
      by_cases hk0 : k = 0
      · have hk1 : ¬ 0 < k := by omega
        have hk2 : k.toNat = 0 := by omega
        simp only [hk2, true_or, if_true, List.nil_append] at hln
        have hgo : ∀ W, BldK B b (l ++ upTo ws k.toNat ++ s.data.toList) w W → BldK B b (l ++ upTo ws (k + 1).toNat) w W := fun W hW => HGo.out W (by rw [if_pos (.inl hk2)]; exact hW)
        have HGo2 := Aside0.mk hgo
        have HLn := Aside0.mk hln
        have HK2 := Aside0.mk hk2
        clear hln hgo HGo hk0 hk2
        go_wp2_with fail
        refine (wsr B b _ s _ w HK.out (by have := HLn.out; have hk2 := HK2.out; simp only [hk2, List.length_append] at *; omega) HW.out).mono ?_
        rintro e w2 ⟨rfl, HK2⟩
        go_wp2
        go_roundw
        case rel => exact ⟨k + 1, by simp [hwr], by omega, by omega, ⟨HGo2.out _ HK2⟩⟩
        case measure => simp [intOf, hwr]; omega
      · have hk1 : 0 < k := by omega
        have hk2 : ¬ k.toNat = 0 := by omega
        by_cases hw : s.toList = []
        · have hw2 : s.toList.isEmpty = true := by rw [hw]; rfl
          simp only [hk2, false_or, hw2, if_true, List.nil_append] at hln HGo
          have HLn := Aside0.mk hln
          clear hln
          go_wp2_with fail
          refine (wsr B b _ s _ w HK.out (by have := HLn.out; simp only [List.length_append] at *; omega) HW.out).mono ?_
          rintro e w2 ⟨rfl, HK2⟩
          go_wp2
          go_roundw
          case rel => exact ⟨k + 1, by simp [hwr], by omega, by omega, ⟨HGo.out _ HK2⟩⟩
          case measure => simp [intOf, hwr]; omega
        · have hw2 : s.toList.isEmpty = false := by simpa using hw
          simp only [hk2, false_or, hw2, Bool.false_eq_true, if_false] at hln HGo
          have HLn := Aside0.mk hln
          clear hln
          go_wp2_with fail
          refine (wb B b _ 32 32 rfl _ w HK.out (by have := HLn.out; simp only [List.length_append, List.length_cons, List.length_nil] at *; omega) HW.out).mono ?_
          rintro e w2 ⟨rfl, HK2⟩
          go_wp2_with fail
          refine (wsr B b _ s _ w HK2 (by have := HLn.out; simp only [List.length_append, List.length_cons, List.length_nil] at *; omega) HW.out).mono ?_
          rintro e w3 ⟨rfl, HK3⟩
          go_wp2
          go_roundw
          case rel => exact ⟨k + 1, by simp [hwr], by omega, by omega, ⟨HGo.out _ (by simpa only [List.append_assoc] using HK3)⟩⟩
          case measure => simp [intOf, hwr]; omega
    · obtain rfl : k = ws.length := by omega
      have hln := HL.out
      go_wp2_with fail
      refine (wb B b _ 10 10 rfl _ w HK.out (by simp only [lineText, Int.toNat_natCast, List.length_append, List.length_cons, List.length_nil] at *; omega) HW.out).mono ?_
      rintro e w2 ⟨rfl, HK2⟩
      go_wp2
      go_end0
      exact ⟨rfl, by simpa only [lineText, Int.toNat_natCast, List.append_assoc] using HK2⟩
end Go.Proofs.YtolmkdhgnganaaaDoor.H
