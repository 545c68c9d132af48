/-
  lex.IsName: it answers what its plain function answers; nothing that was there is changed.
-/
import Derived.Test.YtolmkdhgnganaaaDoorHAddr
import Derived.Laws.RangeAny
import Derived.LoopTactic
set_option linter.unusedVariables false
set_option linter.unusedSimpArgs false
namespace Go.Proofs.YtolmkdhgnganaaaDoor.H
open Go Go.RowKit Go.Proofs Go.Proofs.YtolmkdhgnganaaaDoorW.PrintWords Go.Proofs.YtolmkdhgnganaaaDoor.Sp

/-- A letter. -/
def isLet (c : Int) : Bool := decide ((97 ≤ c ∧ c ≤ 122) ∨ (65 ≤ c ∧ c ≤ 90))
/-- Byte j of a name. -/
def nmAt (l : List UInt8) (j : Nat) : Bool := isLet ((l.getD j 0).toNat : Int) || (decide (j ≠ 0) && (decide ((l.getD j 0).toNat = 95) || decide (48 ≤ (l.getD j 0).toNat ∧ (l.getD j 0).toNat ≤ 57)))
/-- A name. -/
def isNm (l : List UInt8) : Bool := decide (0 < l.length) && decide (l.length ≤ 16) && (List.range l.length).all (nmAt l)

theorem letter_b (c : Int) (w : World) : Calls Tryd.prog 70 #[.int .i32 c] w fun e w' => e = .returned (.bool (isLet c)) ∧ w = w' := by
  have hv : isLet c = decide ((97 ≤ c ∧ c ≤ 122) ∨ (65 ≤ c ∧ c ≤ 90)) := rfl
  generalize isLet c = v at hv
  by_cases h1 : 97 ≤ c
  · by_cases h2 : c ≤ 122
    · obtain rfl : v = true := by rw [hv]; exact decide_eq_true (by omega)
      clear hv
      go_enter Tryd.func70, Tryd.ntmps70
      go_wp2
      go_ret
      exact ⟨rfl, rfl⟩
    · by_cases h3 : 65 ≤ c
      · obtain rfl : v = false := by rw [hv]; exact decide_eq_false (by omega)
        have h4 : ¬ c ≤ 90 := by omega
        clear hv
        go_enter Tryd.func70, Tryd.ntmps70
        go_wp2
        go_ret
        exact ⟨rfl, rfl⟩
      · exfalso; omega
  · by_cases h3 : 65 ≤ c
    · obtain rfl : v = decide (c ≤ 90) := by rw [hv]; exact decide_eq_decide.2 (by omega)
      clear hv
      go_enter Tryd.func70, Tryd.ntmps70
      go_wp2
      go_ret
      exact ⟨rfl, rfl⟩
    · obtain rfl : v = false := by rw [hv]; exact decide_eq_false (by omega)
      clear hv
      go_enter Tryd.func70, Tryd.ntmps70
      go_wp2
      go_ret
      exact ⟨rfl, rfl⟩

theorem isNm_true {s : ByteArray} (h0 : 0 < s.size) (h1 : s.size ≤ 16) (h : ∀ j, j < s.size → nmAt s.data.toList j = true) : isNm s.data.toList = true := by
  have e : s.data.toList.length = s.size := by rw [Array.length_toList]; rfl
  simp only [isNm, e, Bool.and_eq_true, decide_eq_true_eq, List.all_eq_true, List.mem_range]
  exact ⟨⟨h0, h1⟩, h⟩
theorem isNm_false {s : ByteArray} {j : Nat} (hj : j < s.size) (h : nmAt s.data.toList j = false) : isNm s.data.toList = false := by
  have e : s.data.toList.length = s.size := by rw [Array.length_toList]; rfl
  cases hb : isNm s.data.toList with
  | false => rfl
  | true =>
    simp only [isNm, e, Bool.and_eq_true, decide_eq_true_eq, List.all_eq_true, List.mem_range] at hb
    rw [hb.2 j hj] at h; cases h
theorem getD_at (s : ByteArray) (j : Nat) (h : j < s.size) : s.data.toList.getD j 0 = s[j]'h := by
  have hj : j < s.data.size := h
  have e : s[j]'h = s.data[j]'hj := rfl
  rw [e]
  simp only [List.getD, Array.getElem?_toList, Array.getElem?_eq_getElem hj, Option.getD_some]
theorem iter_below (w : World) (s : ByteArray) (pos : Nat) : Below w.heap.size w (w.iter s pos) := below_alloc (Below.refl _ _) _

/-- One rune of a name, by the byte where it begins. -/
def okRune (pos : Nat) (r : Int) : Bool := isLet r || (decide (pos ≠ 0) && (decide (r = 95) || decide (48 ≤ r ∧ r ≤ 57)))
theorem okRune_byte (s : ByteArray) (pos : Nat) (h : pos < s.size) :
    1 ≤ (Utf8.decode s pos).2 ∧ okRune pos ((Utf8.decode s pos).1 : Int) = nmAt s.data.toList pos ∧ (okRune pos ((Utf8.decode s pos).1 : Int) = true → (Utf8.decode s pos).2 = 1) := by
  by_cases ha : (s[pos]'h).toNat < 128
  · rw [decode_ascii s pos h ha]
    refine ⟨Nat.le_refl _, ?_, fun _ => rfl⟩
    have e : ∀ n : Nat, (decide ((n : Int) = 95) = decide (n = 95)) ∧ (decide (48 ≤ (n : Int) ∧ (n : Int) ≤ 57) = decide (48 ≤ n ∧ n ≤ 57)) := fun n => ⟨decide_eq_decide.2 (by omega), decide_eq_decide.2 (by omega)⟩
    simp only [okRune, nmAt, getD_at s pos h, (e _).1, (e _).2]
  · have hd := decode_high s pos h (by omega)
    have f1 : okRune pos ((Utf8.decode s pos).1 : Int) = false := by
      simp only [okRune, isLet, Bool.or_eq_false_iff, Bool.and_eq_false_iff, decide_eq_false_iff_not]
      omega
    have f2 : nmAt s.data.toList pos = false := by
      simp only [nmAt, isLet, getD_at s pos h, Bool.or_eq_false_iff, Bool.and_eq_false_iff, decide_eq_false_iff_not]
      omega
    refine ⟨hd.2, by rw [f1, f2], fun hc => ?_⟩
    rw [f1] at hc; cases hc

set_option maxRecDepth 100000 in
theorem isName_loop (s : ByteArray) (w : World) (h0 : 0 < s.size) (h1 : s.size ≤ 16) (z : s.toList.isEmpty = false) :
    Calls Tryd.prog 51 #[.string s] w (RetB w (.bool (isNm s.data.toList))) := by
  have g : ¬ (16 : Int) < (s.size : Int) := by omega
  have gd : decide ((16 : Int) < (s.size : Int)) = false := decide_eq_false g
  have H := Aside0.mk h0
  have HB := Aside0.mk h1
  clear h0 h1
  generalize hV : isNm s.data.toList = V
  have HV := Aside0.mk hV
  clear hV
  go_enter Tryd.func51, Tryd.ntmps51
  go_wp2
  go_loopw [] (fun w' => ∃ pos : Nat, w' = w.iter s pos ∧ pos ≤ s.size ∧ Aside0 (∀ j, j < pos → nmAt s.data.toList j = true)) (fun w' => s.size - w'.iterPos w.heap.size)
  case atStart => exact ⟨0, rfl, Nat.zero_le _, ⟨fun j hj => by omega⟩⟩
  case round =>
    obtain ⟨pos, rfl, hle, HA⟩ := hrel
    by_cases hp : pos < s.size
    · have hnx : ∀ ty, (Instr.next (.pointer (some ⟨w.heap.size, 0, none⟩)) true ty).run Tryd.prog (w.iter s pos) = _ := fun ty => run_next_any w s pos ty hp
      have hok := okRune_byte s pos hp
      generalize (Utf8.decode s pos).1 = r at hnx hok
      generalize (Utf8.decode s pos).2 = wd at hnx hok
      obtain ⟨hw1, hok, hok1⟩ := hok
      have HO := Aside0.mk hok
      have HO1 := Aside0.mk hok1
      clear hok hok1
      have bad : nmAt s.data.toList pos = false → V = false := fun hb => HV.out ▸ isNm_false hp hb
      have HBad := Aside0.mk bad
      clear bad
      have good : okRune pos (r : Int) = true → (∃ pos_1, w.iter s (pos + wd) = w.iter s pos_1 ∧ pos_1 ≤ s.size ∧ Aside0 (∀ j, j < pos_1 → nmAt s.data.toList j = true)) ∧
          s.size - (w.iter s (pos + wd)).iterPos w.heap.size < s.size - (w.iter s pos).iterPos w.heap.size := by
        intro hg
        have e1 := HO1.out hg
        subst e1
        refine ⟨⟨pos + 1, rfl, by omega, ⟨fun j hj => ?_⟩⟩, by simp; omega⟩
        by_cases hj2 : j < pos
        · exact HA.out j hj2
        · obtain rfl : j = pos := by omega
          rw [← HO.out]; exact hg
      have HGood := Aside0.mk good
      clear good
      have hk : ∀ b, nmAt s.data.toList pos = b → okRune pos (r : Int) = b := fun b hb => by rw [HO.out]; exact hb
      cases hl : isLet (r : Int) with
      | true =>
        have hg : okRune pos (r : Int) = true := by simp [okRune, hl]
        have HG := Aside0.mk (HGood.out hg)
        clear hg hk
        go_wp2_with (go_at_call 70; (with_reducible refine (letter_b _ _).mono ?_); rintro e_ w1 ⟨rfl, rfl⟩; rw [hl])
        all_goals exact HG.out
      | false =>
        by_cases hp0 : pos = 0
        · subst hp0
          have hb : nmAt s.data.toList 0 = false := by rw [← HO.out]; simp [okRune, hl]
          obtain rfl := HBad.out hb
          clear hk hb
          go_wp2_with (go_at_call 70; (with_reducible refine (letter_b _ _).mono ?_); rintro e_ w1 ⟨rfl, rfl⟩; rw [hl])
          go_ret
          exact ⟨rfl, iter_below _ _ _⟩
        · have q0 : ((pos : Int) == 0) = false := by simp; omega
          by_cases h95 : (r : Int) = 95
          · have hg : okRune pos (r : Int) = true := by simp [okRune, h95, hp0]
            have HG := Aside0.mk (HGood.out hg)
            have q1 : ((r : Int) != 95) = false := by simp [h95]
            clear hg hk h95
            go_wp2_with (go_at_call 70; (with_reducible refine (letter_b _ _).mono ?_); rintro e_ w1 ⟨rfl, rfl⟩; rw [hl])
            all_goals exact HG.out
          · have q1 : ((r : Int) != 95) = true := by simpa using h95
            by_cases h48 : (r : Int) < 48
            · have hb : nmAt s.data.toList pos = false := by
                rw [← HO.out]; simp only [okRune, hl, Bool.false_or, Bool.and_eq_false_iff, Bool.or_eq_false_iff, decide_eq_false_iff_not]; omega
              obtain rfl := HBad.out hb
              have q2 : decide ((r : Int) < 48) = true := decide_eq_true h48
              clear hk hb h95
              go_wp2_with (go_at_call 70; (with_reducible refine (letter_b _ _).mono ?_); rintro e_ w1 ⟨rfl, rfl⟩; rw [hl])
              go_ret
              exact ⟨rfl, iter_below _ _ _⟩
            · have q2 : decide ((r : Int) < 48) = false := decide_eq_false h48
              by_cases h57 : (57 : Int) < r
              · have hb : nmAt s.data.toList pos = false := by
                  rw [← HO.out]; simp only [okRune, hl, Bool.false_or, Bool.and_eq_false_iff, Bool.or_eq_false_iff, decide_eq_false_iff_not]; omega
                obtain rfl := HBad.out hb
                have q3 : decide ((57 : Int) < (r : Int)) = true := decide_eq_true h57
                clear hk hb h95
                go_wp2_with (go_at_call 70; (with_reducible refine (letter_b _ _).mono ?_); rintro e_ w1 ⟨rfl, rfl⟩; rw [hl])
                go_ret
                exact ⟨rfl, iter_below _ _ _⟩
              · have q3 : decide ((57 : Int) < (r : Int)) = false := decide_eq_false h57
                have hg : okRune pos (r : Int) = true := by
                  simp only [okRune, hl, Bool.false_or, Bool.and_eq_true, Bool.or_eq_true, decide_eq_true_eq]; omega
                have HG := Aside0.mk (HGood.out hg)
                clear hg hk h95
                go_wp2_with (go_at_call 70; (with_reducible refine (letter_b _ _).mono ?_); rintro e_ w1 ⟨rfl, rfl⟩; rw [hl])
                all_goals exact HG.out
    · have hnx : ∀ ty, (Instr.next (.pointer (some ⟨w.heap.size, 0, none⟩)) true ty).run Tryd.prog (w.iter s pos) = _ := fun ty => run_next_end w s pos ty hp
      obtain rfl : pos = s.size := by omega
      have : V = true := by rw [← HV.out]; exact isNm_true H.out HB.out HA.out
      subst this
      go_wp2
      go_ret
      exact ⟨rfl, iter_below _ _ _⟩

set_option maxRecDepth 100000 in
theorem isName_b (s : ByteArray) (w : World) : Calls Tryd.prog 51 #[.string s] w (RetB w (.bool (isNm s.data.toList))) := by
  have e : s.data.toList.length = s.size := by rw [Array.length_toList]; rfl
  by_cases h0 : 0 < s.size
  · have z : s.toList.isEmpty = false := by rw [toList_isEmpty]; exact decide_eq_false (by omega)
    by_cases h1 : s.size ≤ 16
    · exact isName_loop s w h0 h1 z
    · have hf : isNm s.data.toList = false := by simp [isNm, e]; omega
      rw [hf]
      have g : (16 : Int) < (s.size : Int) := by omega
      clear hf e h1 h0
      go_enter Tryd.func51, Tryd.ntmps51
      go_wp2
      go_ret
      exact ⟨rfl, Below.refl _ _⟩
  · have z : s.toList.isEmpty = true := by rw [toList_isEmpty]; exact decide_eq_true (by omega)
    have z2 : s.toList = [] := by simpa using z
    have hf : isNm s.data.toList = false := by simp [isNm, e]; omega
    rw [hf]
    clear hf e h0
    go_enter Tryd.func51, Tryd.ntmps51
    go_wp2
    go_ret
    exact ⟨rfl, Below.refl _ _⟩
end Go.Proofs.YtolmkdhgnganaaaDoor.H
