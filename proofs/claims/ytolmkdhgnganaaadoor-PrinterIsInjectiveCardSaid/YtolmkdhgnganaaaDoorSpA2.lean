/-
  The plain laws of the address layer: Format and Parse are inverse to each other; a valid address has a textual form. No program in sight.
-/
import Derived.Test.YtolmkdhgnganaaaDoorSpA
namespace Go.Proofs.YtolmkdhgnganaaaDoor.Sp

theorem digFrom_append (d : List UInt8) (c : UInt8) : ∀ n, digFrom n (d ++ [c]) = 10 * digFrom n d + dv c := by
  induction d with
  | nil => intro n; rw [List.nil_append, digFrom_cons, digFrom_nil, digFrom_nil]
  | cons a r ih => intro n; rw [List.cons_append, digFrom_cons, digFrom_cons, ih]
theorem digNat_append (d : List UInt8) (c : UInt8) : digNat (d ++ [c]) = 10 * digNat d + dv c := digFrom_append d c 0

theorem dv_le (c : UInt8) (h : isDig c = true) : dv c ≤ 9 := by
  have := (isDig_iff c).1 h
  rw [dv_eq]
  omega
theorem dv_back (c : UInt8) (h : isDig c = true) : UInt8.ofNat (48 + dv c) = c := by
  have := (isDig_iff c).1 h
  rw [dv_eq, show 48 + (c.toNat - 48) = c.toNat by omega]
  simp

/-- A numeral without a zero ahead is positive where it has a first digit that is no zero. -/
theorem digFrom_pos (d : List UInt8) : ∀ n, 0 < n → 0 < digFrom n d := by
  induction d with
  | nil => intro n hn; rw [digFrom_nil]; exact hn
  | cons a r ih => intro n hn; rw [digFrom_cons]; exact ih _ (by omega)
theorem digNat_pos (c : UInt8) (r : List UInt8) (h : isDig c = true) (h0 : c ≠ 48) : 0 < digNat (c :: r) := by
  have hc := (isDig_iff c).1 h
  have h1 : c.toNat ≠ 48 := by intro hh; exact h0 (UInt8.toNat_inj.1 (by rw [hh]; rfl))
  show 0 < digFrom 0 (c :: r)
  rw [digFrom_cons]
  exact digFrom_pos r _ (by rw [dv_eq]; omega)

theorem numSyn_iff (d : List UInt8) : numSyn d = true ↔ d ≠ [] ∧ d.all isDig = true ∧ (1 < d.length → d.head? ≠ some 48) := by
  unfold numSyn
  cases d with
  | nil => simp
  | cons a r =>
    simp only [List.isEmpty_cons, Bool.not_false, Bool.true_and, Bool.and_eq_true, ne_eq, reduceCtorEq, not_false_eq_true, true_and]
    refine and_congr_right fun _ => ?_
    cases r with
    | nil => simp
    | cons b q => simp

/-- Itoa gives back the numeral whose value it is given. -/
theorem dec_of_num : ∀ (n : Nat) (d : List UInt8), d.length = n → numSyn d = true → Lib.decDigits (digNat d) = d := by
  intro n
  induction n using Nat.strongRecOn with
  | _ n ih =>
    intro d hn hs
    obtain ⟨h0, hall, hz⟩ := (numSyn_iff d).1 hs
    obtain ⟨e, c, rfl⟩ : ∃ e c, d = e ++ [c] := ⟨d.dropLast, d.getLast h0, (List.dropLast_concat_getLast h0).symm⟩
    have hc : isDig c = true := by
      rw [List.all_append, Bool.and_eq_true] at hall
      simpa using hall.2
    have he : e.all isDig = true := by
      rw [List.all_append, Bool.and_eq_true] at hall
      exact hall.1
    have hv := dv_le c hc
    rw [digNat_append]
    cases e with
    | nil =>
      have : digNat [] = 0 := rfl
      rw [this, Lib.decDigits, dif_pos (by omega)]
      rw [show 48 + (10 * 0 + dv c) = 48 + dv c by omega, dv_back c hc]
      rfl
    | cons a r =>
      have ha : isDig a = true := by
        simp only [List.all_cons, Bool.and_eq_true] at he
        exact he.1
      have ha0 : a ≠ 48 := by
        intro hh
        exact hz (by simp) (by simp [hh])
      have hp := digNat_pos a r ha ha0
      have hs2 : numSyn (a :: r) = true := (numSyn_iff _).2 ⟨by simp, he, fun _ => by simpa using ha0⟩
      have hi := ih (a :: r).length (by rw [← hn]; simp) (a :: r) rfl hs2
      rw [Lib.decDigits, dif_neg (by omega)]
      rw [show (10 * digNat (a :: r) + dv c) / 10 = digNat (a :: r) by omega, show (10 * digNat (a :: r) + dv c) % 10 = dv c by omega, hi, dv_back c hc]

/-- What decDigits writes is a numeral, and its value is what it was given. -/
theorem num_of_dec : ∀ (n : Nat), numSyn (Lib.decDigits n) = true ∧ digNat (Lib.decDigits n) = n := by
  intro n
  induction n using Nat.strongRecOn with
  | _ n ih =>
    have dig : ∀ k, k < 10 → isDig (UInt8.ofNat (48 + k)) = true ∧ dv (UInt8.ofNat (48 + k)) = k ∧ (0 < k → UInt8.ofNat (48 + k) ≠ 48) := by
      intro k hk
      have h1 : (UInt8.ofNat (48 + k)).toNat = 48 + k := by simp; omega
      refine ⟨(isDig_iff _).2 (by rw [h1]; omega), by rw [dv_eq, h1]; omega, fun hp hh => ?_⟩
      rw [hh] at h1
      have : (48 : UInt8).toNat = 48 := rfl
      omega
    by_cases h : n < 10
    · obtain ⟨h1, h2, _⟩ := dig n h
      rw [Lib.decDigits, dif_pos h]
      refine ⟨(numSyn_iff _).2 ⟨List.cons_ne_nil _ _, by rw [List.all_cons, h1]; rfl, fun hh => absurd hh (by rw [List.length_singleton]; omega)⟩, ?_⟩
      show digFrom 0 [UInt8.ofNat (48 + n)] = n
      rw [digFrom_cons, digFrom_nil, h2]
      omega
    · obtain ⟨h1, h2, _⟩ := dig (n % 10) (by omega)
      obtain ⟨i1, i2⟩ := ih (n / 10) (by omega)
      obtain ⟨j0, jall, jz⟩ := (numSyn_iff _).1 i1
      rw [Lib.decDigits, dif_neg h]
      refine ⟨(numSyn_iff _).2 ⟨by simp, by rw [List.all_append, jall, List.all_cons, h1]; rfl, fun _ => ?_⟩, by rw [digNat_append, i2, h2]; omega⟩
      cases hd : Lib.decDigits (n / 10) with
      | nil => exact absurd hd j0
      | cons a r =>
        rw [hd] at jz j0 i2 jall
        simp only [List.cons_append, List.head?_cons, ne_eq, Option.some.injEq]
        by_cases hr : r = []
        · subst hr
          intro ha
          have : digNat [a] = dv a := by
            show digFrom 0 [a] = dv a
            rw [digFrom_cons, digFrom_nil]; omega
          rw [this, ha] at i2
          have : dv 48 = 0 := by rw [dv_eq]; rfl
          omega
        · have := jz (by cases r with | nil => exact absurd rfl hr | cons b q => simp)
          simpa using this

theorem itoa_data (n : Nat) : (itoaS (n : Int)).data.toList = Lib.decDigits n := by
  have h2 : ¬ ((n : Int) < 0) := by omega
  simp [itoaS, Lib.itoa, h2]

theorem fmt_data (s n : Int) (h : ¬ (s < 0 ∨ 2 < s ∨ n < 0 ∨ 255 < n)) : (addrFmt s n).data.toList = letterOf s :: Lib.decDigits n.toNat := by
  unfold addrFmt
  rw [if_neg h, ByteArray.data_append, Array.toList_append]
  obtain ⟨k, rfl⟩ := Int.eq_ofNat_of_zero_le (show 0 ≤ n by omega)
  rw [itoa_data]
  simp

theorem space_letter (s : Int) (h0 : 0 ≤ s) (h2 : s ≤ 2) : spaceOf (letterOf s) = s := by
  have : s = 0 ∨ s = 1 ∨ s = 2 := by omega
  rcases this with rfl | rfl | rfl <;> rfl

theorem parse_fmt (s n : Int) (h : ¬ (s < 0 ∨ 2 < s ∨ n < 0 ∨ 255 < n)) : addrParse (addrFmt s n).data.toList = (s, n, 0) := by
  rw [fmt_data s n h]
  obtain ⟨k, rfl⟩ := Int.eq_ofNat_of_zero_le (show 0 ≤ n by omega)
  obtain ⟨h1, h2⟩ := num_of_dec k
  have hs := space_letter s (by omega) (by omega)
  have hk : k ≤ 255 := by omega
  simp [addrParse, hs, numParse, h1, h2, hk]
  omega

/-- Where Parse is content, Format gives back the text. -/
theorem fmt_parse (t : ByteArray) (h : (addrParse t.data.toList).2.2 = 0) : addrFmt (addrParse t.data.toList).1 (addrParse t.data.toList).2.1 = t := by
  cases hl : t.data.toList with
  | nil => rw [hl] at h; simp [addrParse] at h
  | cons c d =>
    rw [hl] at h
    by_cases hc : spaceOf c < 0
    · simp [addrParse, hc] at h
    · by_cases hn : (numParse d 255).2 = 0
      · have hs : numSyn d = true ∧ digNat d ≤ 255 := by
          unfold numParse at hn
          by_cases h1 : numSyn d = true
          · rw [if_pos h1] at hn
            by_cases h2 : digNat d ≤ 255
            · exact ⟨h1, h2⟩
            · rw [if_neg h2] at hn; simp at hn
          · rw [if_neg h1] at hn; simp at hn
        have e : addrParse (c :: d) = (spaceOf c, (digNat d : Int), 0) := by simp [addrParse, hc, numParse, hs.1, hs.2]
        simp only [e]
        have hcs : letterOf (spaceOf c) = c ∧ spaceOf c ≤ 2 := by
          rcases spaceOf_cases c with ⟨h1, h2⟩ | ⟨h1, h2⟩ | ⟨h1, h2⟩ | ⟨h1, h2, h3, h4⟩
          · rw [h2, h1]; exact ⟨rfl, by omega⟩
          · rw [h2, h1]; exact ⟨rfl, by omega⟩
          · rw [h2, h1]; exact ⟨rfl, by omega⟩
          · omega
        apply bytes_ext
        rw [fmt_data _ _ (by omega), hl, hcs.1]
        simp only [Int.toNat_natCast]
        rw [dec_of_num _ d rfl hs.1]
      · simp only [addrParse, if_neg hc, if_neg hn] at h
        exact absurd h hn

/-- Where Parse isn't content, it gives the zero address. -/
theorem parse_zero (l : List UInt8) (h : (addrParse l).2.2 ≠ 0) : (addrParse l).1 = 0 ∧ (addrParse l).2.1 = 0 := by
  cases l with
  | nil => exact ⟨rfl, rfl⟩
  | cons c d =>
    by_cases hc : spaceOf c < 0
    · simp [addrParse, hc]
    · by_cases hn : (numParse d 255).2 = 0
      · simp [addrParse, hc, hn] at h
      · simp [addrParse, hc, hn]

theorem fmt_empty (s n : Int) (h : s < 0 ∨ 2 < s ∨ n < 0 ∨ 255 < n) : addrFmt s n = ⟨#[]⟩ := by unfold addrFmt; rw [if_pos h]

/-- A valid address of valid sizes has a textual form. -/
theorem valid_fmt (i q m e s n : Int) (h1 : chkSize i q m e = 0) (h2 : chkAddr i q m s n = 0) : ¬ (s < 0 ∨ 2 < s ∨ n < 0 ∨ 255 < n) := by
  have hs : (0 ≤ e ∧ e ≤ 16384) ∧ (0 ≤ i ∧ i ≤ 256) ∧ (0 ≤ q ∧ q ≤ 256) ∧ (0 ≤ m ∧ m ≤ 256) := by
    by_cases hh : (0 ≤ e ∧ e ≤ 16384) ∧ (0 ≤ i ∧ i ≤ 256) ∧ (0 ≤ q ∧ q ≤ 256) ∧ (0 ≤ m ∧ m ≤ 256)
    · exact hh
    · unfold chkSize at h1
      rw [if_neg hh] at h1
      omega
  have h3 : ¬ (s < 0 ∨ 2 < s) := by
    intro hh
    unfold chkAddr at h2
    rw [if_pos hh] at h2
    omega
  have h4 : ¬ (n < 0 ∨ widthOf i q m s ≤ n) := by
    intro hh
    unfold chkAddr at h2
    rw [if_neg h3, if_pos hh] at h2
    omega
  have hw : widthOf i q m s ≤ 256 := by
    unfold widthOf
    split
    · omega
    · split
      · omega
      · split <;> omega
  omega

theorem chk_width (i q m s n : Int) (h0 : 0 ≤ s) (h2 : s ≤ 2) (hn : 0 ≤ n) : (chkAddr i q m s n = 0) = (n < widthOf i q m s) := by
  unfold chkAddr
  rw [if_neg (by omega)]
  by_cases h : widthOf i q m s ≤ n
  · rw [if_pos (.inr h)]
    exact propext ⟨fun hh => by omega, fun hh => by omega⟩
  · rw [if_neg (by omega)]
    exact propext ⟨fun _ => by omega, fun _ => rfl⟩
theorem width_mono (i q m i' q' m' s : Int) (h1 : 0 ≤ i') (h2 : 0 ≤ q') (h3 : 0 ≤ m') : widthOf i q m s ≤ widthOf (i + i') (q + q') (m + m') s := by
  unfold widthOf
  split
  · omega
  · split
    · omega
    · split <;> omega
end Go.Proofs.YtolmkdhgnganaaaDoor.Sp
