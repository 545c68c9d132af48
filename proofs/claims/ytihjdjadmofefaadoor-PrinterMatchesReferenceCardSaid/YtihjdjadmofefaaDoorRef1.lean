/-
  The reference's own small functions answer what the program's plain functions answer: letter, IsName, Width, CheckAddr.
-/
import Derived.Test.YtihjdjadmofefaaDoorChk3
set_option linter.unusedVariables false
set_option linter.unusedSimpArgs false
namespace Go.Proofs.YtihjdjadmofefaaDoor.H
open Go Go.RowKit Go.Proofs Go.Proofs.YtihjdjadmofefaaDoorW.PrintWords Go.Proofs.YtihjdjadmofefaaDoor.Sp

theorem letter9_b (c : Int) (w : World) : Calls Tryd.prog 73 #[.int .u8 c] w fun e w' => e = .returned (.bool (isLet c)) ∧ w = w' := by
  have hv : isLet c = decide ((97 ≤ c ∧ c ≤ 122) ∨ (65 ≤ c ∧ c ≤ 90)) := rfl
  generalize isLet c = v at hv
  by_cases h1 : 65 ≤ c
  · by_cases h2 : c ≤ 90
    · obtain rfl : v = true := by rw [hv]; exact decide_eq_true (by omega)
      clear hv
      go_enter Tryd.func73, Tryd.ntmps73
      go_wp2
      go_ret
      exact ⟨rfl, rfl⟩
    · by_cases h3 : 97 ≤ c
      · obtain rfl : v = decide (c ≤ 122) := by rw [hv]; exact decide_eq_decide.2 (by omega)
        clear hv
        go_enter Tryd.func73, Tryd.ntmps73
        go_wp2
        go_ret
        exact ⟨rfl, rfl⟩
      · obtain rfl : v = false := by rw [hv]; exact decide_eq_false (by omega)
        clear hv
        go_enter Tryd.func73, Tryd.ntmps73
        go_wp2
        go_ret
        exact ⟨rfl, rfl⟩
  · have h3 : ¬ 97 ≤ c := by omega
    obtain rfl : v = false := by rw [hv]; exact decide_eq_false (by omega)
    clear hv
    go_enter Tryd.func73, Tryd.ntmps73
    go_wp2
    go_ret
    exact ⟨rfl, rfl⟩

/-- Byte j, as the reference's loop sees it. -/
def anyAt (l : List UInt8) (j : Nat) : Bool := isLet ((l.getD j 0).toNat : Int) || (decide ((l.getD j 0).toNat = 95) || decide (48 ≤ (l.getD j 0).toNat ∧ (l.getD j 0).toNat ≤ 57))
theorem nmAt_of_any {l : List UInt8} {j : Nat} (h0 : isLet ((l.getD 0 0).toNat : Int) = true) (h : anyAt l j = true) : nmAt l j = true := by
  unfold nmAt
  by_cases hj : j = 0
  · subst hj; rw [h0]; rfl
  · simpa [anyAt, hj] using h
theorem any_of_nmAt {l : List UInt8} {j : Nat} (h : anyAt l j = false) : nmAt l j = false := by
  simp only [anyAt, Bool.or_eq_false_iff] at h
  simp only [nmAt, h.1, h.2.1, h.2.2, Bool.or_self, Bool.and_false]

set_option maxRecDepth 100000 in
theorem isName9_loop (s : ByteArray) (w : World) (h0 : 0 < s.size) (h1 : s.size ≤ 16) (z : s.toList.isEmpty = false) (hf : isLet (s[0].toNat : Int) = true) :
    Calls Tryd.prog 56 #[.string s] w (RetB w (.bool (isNm s.data.toList))) := by
  have g : ¬ (16 : Int) < (s.size : Int) := by omega
  have gd : decide ((16 : Int) < (s.size : Int)) = false := decide_eq_false g
  have H := Aside0.mk h1
  have hf2 : isLet ((s.data.toList.getD 0 0).toNat : Int) = true := by rw [getD_at s 0 h0]; exact hf
  have HF := Aside0.mk hf2
  clear h1 hf2
  generalize hV : isNm s.data.toList = V
  have HV := Aside0.mk hV
  clear hV
  go_enter Tryd.func56, Tryd.ntmps56
  go_wp2_with (go_at_call 73; (with_reducible refine (letter9_b _ _).mono ?_); rintro e_ w1 ⟨rfl, rfl⟩; rw [hf])
  go_loopw [3] (fun cv w' => ∃ k : Int, cv = .int .i64 k ∧ 0 ≤ k ∧ k ≤ s.size ∧ w' = w ∧ Aside0 (∀ j : Nat, (j : Int) < k → nmAt s.data.toList j = true)) (fun cv _ => s.size - (intOf cv).toNat)
  case atStart => exact ⟨0, rfl, by omega, by omega, rfl, ⟨fun j hj => by omega⟩⟩
  case round =>
    obtain ⟨k, rfl, b0, b1, rfl, HA⟩ := hrel
    by_cases hk : k < s.size
    · have hwr : wrap64 (k + 1) = k + 1 := w64 (by omega) (by omega)
      have hkn : k.toNat < s.size := by omega
      have hgd := getD_at s k.toNat hkn
      have good : anyAt s.data.toList k.toNat = true → ∀ j : Nat, (j : Int) < k + 1 → nmAt s.data.toList j = true := by
        intro hg j hj
        by_cases hj2 : (j : Int) < k
        · exact HA.out j hj2
        · obtain rfl : j = k.toNat := by omega
          exact nmAt_of_any HF.out hg
      have bad : anyAt s.data.toList k.toNat = false → V = false := fun hb => HV.out ▸ isNm_false hkn (any_of_nmAt hb)
      have hany : anyAt s.data.toList k.toNat = (isLet (s[k.toNat].toNat : Int) || (decide (s[k.toNat].toNat = 95) || decide (48 ≤ s[k.toNat].toNat ∧ s[k.toNat].toNat ≤ 57))) := by rw [anyAt, hgd]
      have HGood := Aside0.mk good
      have HBad := Aside0.mk bad
      have HAny := Aside0.mk hany
      clear good bad hany hgd
      cases hl : isLet (s[k.toNat].toNat : Int) with
      | true =>
        have hg : anyAt s.data.toList k.toNat = true := by rw [HAny.out, hl]; rfl
        go_wp2_with (go_at_call 73; (with_reducible refine (letter9_b _ _).mono ?_); rintro e_ w1 ⟨rfl, rfl⟩; rw [hl])
        go_roundw
        case rel => exact ⟨k + 1, by simp [hwr], by omega, by omega, by first | rfl | trivial, ⟨HGood.out hg⟩⟩
        case measure => simp [intOf, hwr]; omega
      | false =>
        by_cases h95 : (s[k.toNat].toNat : Int) = 95
        · have hg : anyAt s.data.toList k.toNat = true := by
            rw [HAny.out, hl, decide_eq_true (show s[k.toNat].toNat = 95 by omega)]; rfl
          have q1 : ((s[k.toNat].toNat : Int) != 95) = false := by simp [h95]
          have HG := Aside0.mk hg
          clear h95 hg
          go_wp2_with (go_at_call 73; (with_reducible refine (letter9_b _ _).mono ?_); rintro e_ w1 ⟨rfl, rfl⟩; rw [hl])
          go_roundw
          case rel => exact ⟨k + 1, by simp [hwr], by omega, by omega, by first | rfl | trivial, ⟨HGood.out HG.out⟩⟩
          case measure => simp [intOf, hwr]; omega
        · have q1 : ((s[k.toNat].toNat : Int) != 95) = true := by simpa using h95
          by_cases h48 : (s[k.toNat].toNat : Int) < 48
          · have hb : anyAt s.data.toList k.toNat = false := by
              rw [HAny.out, hl, decide_eq_false (show ¬ s[k.toNat].toNat = 95 by omega), decide_eq_false (show ¬ (48 ≤ s[k.toNat].toNat ∧ s[k.toNat].toNat ≤ 57) by omega)]; rfl
            have hV := HBad.out hb
            subst hV
            have q2 : decide ((s[k.toNat].toNat : Int) < 48) = true := decide_eq_true h48
            clear hb h95
            go_wp2_with (go_at_call 73; (with_reducible refine (letter9_b _ _).mono ?_); rintro e_ w1 ⟨rfl, rfl⟩; rw [hl])
            go_ret
            exact ⟨rfl, Below.refl _ _⟩
          · have q2 : decide ((s[k.toNat].toNat : Int) < 48) = false := decide_eq_false h48
            by_cases h57 : (57 : Int) < s[k.toNat].toNat
            · have hb : anyAt s.data.toList k.toNat = false := by
                rw [HAny.out, hl, decide_eq_false (show ¬ s[k.toNat].toNat = 95 by omega), decide_eq_false (show ¬ (48 ≤ s[k.toNat].toNat ∧ s[k.toNat].toNat ≤ 57) by omega)]; rfl
              have hV := HBad.out hb
              subst hV
              have q3 : decide ((57 : Int) < (s[k.toNat].toNat : Int)) = true := decide_eq_true h57
              clear hb h95
              go_wp2_with (go_at_call 73; (with_reducible refine (letter9_b _ _).mono ?_); rintro e_ w1 ⟨rfl, rfl⟩; rw [hl])
              go_ret
              exact ⟨rfl, Below.refl _ _⟩
            · have q3 : decide ((57 : Int) < (s[k.toNat].toNat : Int)) = false := decide_eq_false h57
              have hg : anyAt s.data.toList k.toNat = true := by
                rw [HAny.out, hl, decide_eq_true (show (48 ≤ s[k.toNat].toNat ∧ s[k.toNat].toNat ≤ 57) by omega)]; simp
              have HG := Aside0.mk hg
              clear hg h95
              go_wp2_with (go_at_call 73; (with_reducible refine (letter9_b _ _).mono ?_); rintro e_ w1 ⟨rfl, rfl⟩; rw [hl])
              go_roundw
              case rel => exact ⟨k + 1, by simp [hwr], by omega, by omega, by first | rfl | trivial, ⟨HGood.out HG.out⟩⟩
              case measure => simp [intOf, hwr]; omega
    · obtain rfl : k = s.size := by omega
      have hV : V = true := by rw [← HV.out]; exact isNm_true h0 H.out (fun j hj => HA.out j (by omega))
      subst hV
      go_wp2
      go_ret
      exact ⟨rfl, Below.refl _ _⟩

set_option maxRecDepth 100000 in
theorem isName9_b (s : ByteArray) (w : World) : Calls Tryd.prog 56 #[.string s] w (RetB w (.bool (isNm s.data.toList))) := by
  have e : s.data.toList.length = s.size := by rw [Array.length_toList]; rfl
  by_cases h0 : 0 < s.size
  · have z : s.toList.isEmpty = false := by rw [toList_isEmpty]; exact decide_eq_false (by omega)
    by_cases h1 : s.size ≤ 16
    · cases hl : isLet (s[0].toNat : Int) with
      | true => exact isName9_loop s w h0 h1 z hl
      | false =>
        have hf : isNm s.data.toList = false := isNm_false h0 (by simp only [nmAt, getD_at s 0 h0, hl]; rfl)
        rw [hf]
        have g : ¬ (16 : Int) < (s.size : Int) := by omega
        have gd : decide ((16 : Int) < (s.size : Int)) = false := decide_eq_false g
        clear hf e h1
        go_enter Tryd.func56, Tryd.ntmps56
        go_wp2_with (go_at_call 73; (with_reducible refine (letter9_b _ _).mono ?_); rintro e_ w1 ⟨rfl, rfl⟩; rw [hl])
        go_ret
        exact ⟨rfl, Below.refl _ _⟩
    · have hf : isNm s.data.toList = false := by simp [isNm, e]; omega
      rw [hf]
      have g : (16 : Int) < (s.size : Int) := by omega
      clear hf e h1 h0
      go_enter Tryd.func56, Tryd.ntmps56
      go_wp2
      go_ret
      exact ⟨rfl, Below.refl _ _⟩
  · have z : s.toList.isEmpty = true := by rw [toList_isEmpty]; exact decide_eq_true (by omega)
    have z2 : s.toList = [] := by simpa using z
    have hf : isNm s.data.toList = false := by simp [isNm, e]; omega
    rw [hf]
    clear hf e h0
    go_enter Tryd.func56, Tryd.ntmps56
    go_wp2
    go_ret
    exact ⟨rfl, Below.refl _ _⟩

theorem width1_b (i q m e sp : Int) (w : World) : Calls Tryd.prog 86 #[.agg #[.int .i64 i, .int .i64 q, .int .i64 m, .int .i64 e], .int .i64 sp] w (RetB w (.int .i64 (widthOf i q m sp))) := by
  by_cases h0 : sp = 0
  · subst h0
    go_enter Tryd.func86, Tryd.ntmps86
    go_wp2
    go_ret
    exact ⟨rfl, below_alloc (Below.refl _ _) _⟩
  · by_cases h1 : sp = 1
    · subst h1
      go_enter Tryd.func86, Tryd.ntmps86
      go_wp2
      go_ret
      exact ⟨rfl, below_alloc (Below.refl _ _) _⟩
    · by_cases h2 : sp = 2
      · subst h2
        go_enter Tryd.func86, Tryd.ntmps86
        go_wp2
        go_ret
        exact ⟨rfl, below_alloc (Below.refl _ _) _⟩
      · have e0 : widthOf i q m sp = 0 := by simp [widthOf, h0, h1, h2]
        rw [e0]
        go_enter Tryd.func86, Tryd.ntmps86
        go_wp2
        go_ret
        exact ⟨rfl, below_alloc (Below.refl _ _) _⟩
end Go.Proofs.YtihjdjadmofefaaDoor.H
