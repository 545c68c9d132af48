/-
  Ladders in memory: names for the printed kinds, and the contracts of printer.part and of the two closures that look a label up.
-/
import Derived.Test.YtolmkdhgnganaaaDoorLex
import Derived.Test.YtolmkdhgnganaaaDoorPPrinterMatchesReferencex0
set_option linter.unusedVariables false
set_option linter.unusedSimpArgs false
namespace Go.Proofs.YtolmkdhgnganaaaDoor.H
open Go Go.RowKit Go.Proofs Go.Proofs.YtolmkdhgnganaaaDoorW.PrintWords Go.Proofs.YtolmkdhgnganaaaDoor.Sp

abbrev Rung := PPrinterMatchesReference.S40
abbrev Con := PPrinterMatchesReference.S49
abbrev Coil := PPrinterMatchesReference.S52
abbrev kRung := PPrinterMatchesReference.k40
abbrev kCon := PPrinterMatchesReference.k49
abbrev kCoil := PPrinterMatchesReference.k52

/-- A rung's value, its rows at A1, A2. -/
def rungV (x : Rung) (A1 : Option Addr) (c1 : Nat) (A2 : Option Addr) (c2 : Nat) : Value := .agg #[.string x.f0, .slice A1 x.f1.length c1, .slice A2 x.f2.length c2, .string x.f3]
/-- Two strings are the same, as the machine tells it. -/
def seq (a b : ByteArray) : Bool := a.toList == b.toList
theorem seq_dec (a b : ByteArray) : seq a b = decide (a = b) := by
  unfold seq
  rw [toList_data, toList_data]
  by_cases h : a = b
  · subst h; simp
  · rw [decide_eq_false h]
    have : ¬ a.data.toList = b.data.toList := fun e => h (bytes_ext e)
    simpa using this
/-- The label L stands on one of them. -/
def hasLab (l : List Rung) (L : ByteArray) : Bool := l.any fun x => seq x.f0 L
theorem hasLab_none {l : List Rung} {L : ByteArray} (h : ∀ k : Int, 0 ≤ k → k < l.length → seq (PPrinterMatchesReference.rd_T40 l k).f0 L = false) : hasLab l L = false := by
  unfold hasLab
  rw [List.any_eq_false]
  intro x hx
  obtain ⟨n, hn, rfl⟩ := List.getElem_of_mem hx
  have := h n (by omega) (by omega)
  simp only [PPrinterMatchesReference.rd_T40, Int.toNat_natCast, List.getD, List.getElem?_eq_getElem hn, Option.getD_some] at this
  rw [this]; simp
theorem hasLab_some {l : List Rung} {L : ByteArray} {k : Int} (h0 : 0 ≤ k) (h1 : k < l.length) (h : seq (PPrinterMatchesReference.rd_T40 l k).f0 L = true) : hasLab l L = true := by
  unfold hasLab
  rw [List.any_eq_true]
  have hn : k.toNat < l.length := by omega
  refine ⟨l[k.toNat], List.getElem_mem hn, ?_⟩
  simpa only [PPrinterMatchesReference.rd_T40, List.getD, List.getElem?_eq_getElem hn, Option.getD_some] using h

set_option maxRecDepth 100000 in
theorem clo_a (x : Rung) (A1 : Option Addr) (c1 : Nat) (A2 : Option Addr) (c2 : Nat) (L : ByteArray) (g : Nat) (w : World) (h : w.cell? ⟨g, 0, none⟩ = some (.string L)) :
    Calls Tryd.prog 52 #[.agg #[.string x.f0, .slice A1 x.f1.length c1, .slice A2 x.f2.length c2, .string x.f3], .pointer (some ⟨g, 0, none⟩)] w (RetB w (.bool (seq x.f0 L))) := by
  have lt : g < w.heap.size := World.block_lt_of_cell? w _ h
  go_enter Tryd.func52, Tryd.ntmps52
  go_wp2
  go_ret
  exact ⟨rfl, below_alloc (Below.refl _ _) _⟩
set_option maxRecDepth 100000 in
theorem clo_b (x : Rung) (A1 : Option Addr) (c1 : Nat) (A2 : Option Addr) (c2 : Nat) (L : ByteArray) (g : Nat) (w : World) (h : w.cell? ⟨g, 3, none⟩ = some (.string L)) :
    Calls Tryd.prog 26 #[.agg #[.string x.f0, .slice A1 x.f1.length c1, .slice A2 x.f2.length c2, .string x.f3], .pointer (some ⟨g, 0, none⟩)] w (RetB w (.bool (seq x.f0 L))) := by
  have lt : g < w.heap.size := World.block_lt_of_cell? w _ h
  go_enter Tryd.func26, Tryd.ntmps26
  go_wp2
  go_ret
  exact ⟨rfl, below_alloc (Below.refl _ _) _⟩

theorem w64 {x : Int} (h0 : -9223372036854775808 ≤ x) (h1 : x ≤ 9223372036854775807) : wrap64 x = x := by unfold wrap64; omega

/-- What slices.IndexFunc answers where the closure looks the label L up. -/
def FoundB (w : World) (b : Bool) (e : Ending) (w' : World) : Prop := ∃ v : Int, e = .returned (.int .i64 v) ∧ decide (0 ≤ v) = b ∧ Below w.heap.size w w'

set_option maxRecDepth 100000 in
theorem idx_a (A : Option Addr) (c : Nat) (l : List Rung) (L : ByteArray) (g : Nat) (w : World) (hr : Kd.C kRung w A l.length l) (hc : l.length ≤ c) (h : w.cell? ⟨g, 0, none⟩ = some (.string L)) :
    Calls Tryd.prog 54 #[.slice A l.length c, .func (.func 52) #[] #[.pointer (some ⟨g, 0, none⟩)]] w (FoundB w (hasLab l L)) := by
  have hmax := Kd.C_max hr
  have HR := Aside0.mk hr
  have HG := Aside0.mk h
  have HT := fun {b : Bool} (hb : hasLab l L = b) => hb
  clear hr h
  generalize hV : hasLab l L = V
  have HV := Aside0.mk hV
  clear hV HT
  go_enter Tryd.func54, Tryd.ntmps54
  go_wp2
  go_loopw [8] (fun cv w' => ∃ k : Int, cv = .int .i64 k ∧ 0 ≤ k ∧ k ≤ l.length ∧ Aside0 (Below w.heap.size w w') ∧ Aside0 (∀ j : Int, 0 ≤ j → j < k → seq (PPrinterMatchesReference.rd_T40 l j).f0 L = false)) (fun cv _ => l.length - (intOf cv).toNat)
  case atStart => exact ⟨0, rfl, by omega, by omega, ⟨Below.refl _ _⟩, ⟨fun j h1 h2 => by omega⟩⟩
  case round =>
    obtain ⟨k, rfl, h0, h1, HB, HA⟩ := hrel
    by_cases hk : k < l.length
    · obtain ⟨ad, A1, c1, A2, c2, rfl, x0, x1, x2, x3, hl1, hi1, hl2, hi2⟩ := PPrinterMatchesReference.at_T40 HR.out k h0 hk
      clear hl1 hi1 hl2 hi2
      replace x0 := pw_cell_below HB.out x0
      replace x1 := pw_cell_below HB.out x1
      replace x2 := pw_cell_below HB.out x2
      replace x3 := pw_cell_below HB.out x3
      have hwr : wrap64 (k + 1) = k + 1 := w64 (by omega) (by omega)
      cases hs : seq (PPrinterMatchesReference.rd_T40 l k).f0 L with
      | true =>
        obtain rfl : V = true := HV.out ▸ hasLab_some h0 hk hs
        have HS := Aside0.mk hs
        clear hs
        go_wp2_with (go_at_call 52; (with_reducible refine (clo_a _ _ _ _ _ L g _ (pw_cell_below HB.out HG.out)).mono ?_); rintro e_ w1 ⟨rfl, hb⟩; rw [HS.out])
        go_ret
        exact ⟨k, rfl, decide_eq_true h0, below_step HB.out hb⟩
      | false =>
        have HS := Aside0.mk hs
        clear hs
        go_wp2_with (go_at_call 52; (with_reducible refine (clo_a _ _ _ _ _ L g _ (pw_cell_below HB.out HG.out)).mono ?_); rintro e_ w1 ⟨rfl, hb⟩; rw [HS.out])
        go_roundw
        case rel =>
          refine ⟨k + 1, by simp [hwr], by omega, by omega, ⟨below_step HB.out hb⟩, ⟨fun j j0 j1 => ?_⟩⟩
          by_cases hj : j < k
          · exact HA.out j j0 hj
          · obtain rfl : j = k := by omega
            exact HS.out
        case measure => simp [intOf, hwr]; omega
    · obtain rfl : k = l.length := by omega
      obtain rfl : V = false := HV.out ▸ hasLab_none (fun j j0 j1 => HA.out j j0 j1)
      go_wp2
      go_ret
      exact ⟨-1, rfl, rfl, HB.out⟩
set_option maxRecDepth 100000 in
theorem idx_b (A : Option Addr) (c : Nat) (l : List Rung) (L : ByteArray) (g : Nat) (w : World) (hr : Kd.C kRung w A l.length l) (hc : l.length ≤ c) (h : w.cell? ⟨g, 3, none⟩ = some (.string L)) :
    Calls Tryd.prog 54 #[.slice A l.length c, .func (.func 26) #[] #[.pointer (some ⟨g, 0, none⟩)]] w (FoundB w (hasLab l L)) := by
  have hmax := Kd.C_max hr
  have HR := Aside0.mk hr
  have HG := Aside0.mk h
  have HT := fun {b : Bool} (hb : hasLab l L = b) => hb
  clear hr h
  generalize hV : hasLab l L = V
  have HV := Aside0.mk hV
  clear hV HT
  go_enter Tryd.func54, Tryd.ntmps54
  go_wp2
  go_loopw [8] (fun cv w' => ∃ k : Int, cv = .int .i64 k ∧ 0 ≤ k ∧ k ≤ l.length ∧ Aside0 (Below w.heap.size w w') ∧ Aside0 (∀ j : Int, 0 ≤ j → j < k → seq (PPrinterMatchesReference.rd_T40 l j).f0 L = false)) (fun cv _ => l.length - (intOf cv).toNat)
  case atStart => exact ⟨0, rfl, by omega, by omega, ⟨Below.refl _ _⟩, ⟨fun j h1 h2 => by omega⟩⟩
  case round =>
    obtain ⟨k, rfl, h0, h1, HB, HA⟩ := hrel
    by_cases hk : k < l.length
    · obtain ⟨ad, A1, c1, A2, c2, rfl, x0, x1, x2, x3, hl1, hi1, hl2, hi2⟩ := PPrinterMatchesReference.at_T40 HR.out k h0 hk
      clear hl1 hi1 hl2 hi2
      replace x0 := pw_cell_below HB.out x0
      replace x1 := pw_cell_below HB.out x1
      replace x2 := pw_cell_below HB.out x2
      replace x3 := pw_cell_below HB.out x3
      have hwr : wrap64 (k + 1) = k + 1 := w64 (by omega) (by omega)
      cases hs : seq (PPrinterMatchesReference.rd_T40 l k).f0 L with
      | true =>
        obtain rfl : V = true := HV.out ▸ hasLab_some h0 hk hs
        have HS := Aside0.mk hs
        clear hs
        go_wp2_with (go_at_call 26; (with_reducible refine (clo_b _ _ _ _ _ L g _ (pw_cell_below HB.out HG.out)).mono ?_); rintro e_ w1 ⟨rfl, hb⟩; rw [HS.out])
        go_ret
        exact ⟨k, rfl, decide_eq_true h0, below_step HB.out hb⟩
      | false =>
        have HS := Aside0.mk hs
        clear hs
        go_wp2_with (go_at_call 26; (with_reducible refine (clo_b _ _ _ _ _ L g _ (pw_cell_below HB.out HG.out)).mono ?_); rintro e_ w1 ⟨rfl, hb⟩; rw [HS.out])
        go_roundw
        case rel =>
          refine ⟨k + 1, by simp [hwr], by omega, by omega, ⟨below_step HB.out hb⟩, ⟨fun j j0 j1 => ?_⟩⟩
          by_cases hj : j < k
          · exact HA.out j j0 hj
          · obtain rfl : j = k := by omega
            exact HS.out
        case measure => simp [intOf, hwr]; omega
    · obtain rfl : k = l.length := by omega
      obtain rfl : V = false := HV.out ▸ hasLab_none (fun j j0 j1 => HA.out j j0 j1)
      go_wp2
      go_ret
      exact ⟨-1, rfl, rfl, HB.out⟩

theorem has_a (A : Option Addr) (c : Nat) (l : List Rung) (L : ByteArray) (g : Nat) (w : World) (hr : Kd.C kRung w A l.length l) (hc : l.length ≤ c) (h : w.cell? ⟨g, 0, none⟩ = some (.string L)) :
    Calls Tryd.prog 25 #[.slice A l.length c, .func (.func 52) #[] #[.pointer (some ⟨g, 0, none⟩)]] w (RetB w (.bool (hasLab l L))) := by
  have c1 := idx_a A c l L g w hr hc h
  go_enter Tryd.func25, Tryd.ntmps25
  go_wp2_with fail
  refine c1.mono ?_
  rintro e w1 ⟨v, rfl, hv, hb⟩
  go_wp2
  go_ret
  rw [← hv]
  exact ⟨rfl, hb⟩

theorem has_b (A : Option Addr) (c : Nat) (l : List Rung) (L : ByteArray) (g : Nat) (w : World) (hr : Kd.C kRung w A l.length l) (hc : l.length ≤ c) (h : w.cell? ⟨g, 3, none⟩ = some (.string L)) :
    Calls Tryd.prog 25 #[.slice A l.length c, .func (.func 26) #[] #[.pointer (some ⟨g, 0, none⟩)]] w (RetB w (.bool (hasLab l L))) := by
  have c1 := idx_b A c l L g w hr hc h
  go_enter Tryd.func25, Tryd.ntmps25
  go_wp2_with fail
  refine c1.mono ?_
  rintro e w1 ⟨v, rfl, hv, hb⟩
  go_wp2
  go_ret
  rw [← hv]
  exact ⟨rfl, hb⟩
end Go.Proofs.YtolmkdhgnganaaaDoor.H
