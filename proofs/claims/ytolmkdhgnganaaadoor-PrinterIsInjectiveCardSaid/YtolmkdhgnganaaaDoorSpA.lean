/-
  What the address layer computes, as plain functions on lists of bytes and whole numbers. No program in sight.
-/
import Derived.Lib.SlTrimSet
import Derived.Lib.ItoaNum
import Derived.Lib.SlicesS
import Derived.Lib.AtoiAllCases
namespace Go.Proofs.YtolmkdhgnganaaaDoor.Sp

/-- Is it a digit? -/
def isDig (c : UInt8) : Bool := 48 ≤ c && c ≤ 57
/-- The ten digits. -/
def digs : ByteArray := ⟨#[48, 49, 50, 51, 52, 53, 54, 55, 56, 57]⟩
/-- strings.Trim(s, "0123456789"). -/
def trimD (s : ByteArray) : ByteArray := ⟨(Lib.trimS s.data.toList digs.data.toList).toArray⟩
/-- strconv.Itoa. -/
def itoaS (n : Int) : ByteArray := ⟨(Lib.itoa n).toArray⟩
/-- The space that a letter names, or -1. -/
def spaceOf (c : UInt8) : Int := if c = 73 then 0 else if c = 81 then 1 else if c = 77 then 2 else -1
/-- The letter of a space. -/
def letterOf (s : Int) : UInt8 := if s = 0 then 73 else if s = 1 then 81 else 77
/-- The width of a space. -/
def widthOf (i q m sp : Int) : Int := if sp = 0 then i else if sp = 1 then q else if sp = 2 then m else 0
/-- CheckAddr. -/
def chkAddr (i q m sp n : Int) : Int := if sp < 0 ∨ 2 < sp then 8 else if n < 0 ∨ widthOf i q m sp ≤ n then 3 else 0
/-- CheckSize. -/
def chkSize (i q m e : Int) : Int := if (0 ≤ e ∧ e ≤ 16384) ∧ (0 ≤ i ∧ i ≤ 256) ∧ (0 ≤ q ∧ q ≤ 256) ∧ (0 ≤ m ∧ m ≤ 256) then 0 else 3
/-- Format. -/
def addrFmt (sp n : Int) : ByteArray := if sp < 0 ∨ 2 < sp ∨ n < 0 ∨ 255 < n then ⟨#[]⟩ else ⟨#[letterOf sp]⟩ ++ itoaS n
/-- A digit's value. -/
def dv (c : UInt8) : Nat := c.toNat - 48
attribute [irreducible] dv
/-- The value of n's digits and those of a list behind them. -/
def digFrom (n : Nat) : List UInt8 → Nat
  | [] => n
  | c :: r => digFrom (10 * n + dv c) r
/-- The value of a list of digits. -/
def digNat (d : List UInt8) : Nat := digFrom 0 d
/-- A decimal numeral: digits, no zero ahead of others. -/
def numSyn (d : List UInt8) : Bool := !d.isEmpty && d.all isDig && !(decide (1 < d.length) && d.head? == some 48)
/-- A numeral of at most 'most': its value and no error; 6: no numeral; 3: too great. -/
def numParse (d : List UInt8) (most : Nat) : Int × Int := if numSyn d = true then (if digNat d ≤ most then ((digNat d : Int), 0) else (0, 3)) else (0, 6)
/-- Parse: space, number, error. -/
def addrParse (l : List UInt8) : Int × Int × Int :=
  match l with
  | [] => (0, 0, 6)
  | c :: d => if spaceOf c < 0 then (0, 0, 6) else if (numParse d 255).2 = 0 then (spaceOf c, (numParse d 255).1, 0) else (0, 0, (numParse d 255).2)

theorem toList_data (s : ByteArray) : s.toList = s.data.toList := ByteArray.toList_eq s
theorem toList_nil_iff (s : ByteArray) : s.toList = [] ↔ s.size = 0 := by
  rw [toList_data, ← List.length_eq_zero_iff, Array.length_toList]; exact Iff.rfl
theorem toList_isEmpty (s : ByteArray) : s.toList.isEmpty = decide (s.size = 0) := by
  rw [Bool.eq_iff_iff, List.isEmpty_iff, toList_nil_iff, decide_eq_true_iff]
theorem size_data (s : ByteArray) : s.data.toList.length = s.size := by rw [Array.length_toList]; rfl
theorem bytes_ext {a b : ByteArray} (h : a.data.toList = b.data.toList) : a = b := ByteArray.ext (Array.toList_inj.mp h)

theorem digs_contains (c : UInt8) : digs.data.toList.contains c = isDig c := by
  have h : ∀ n : Fin 256, digs.data.toList.contains (UInt8.ofNat n.val) = isDig (UInt8.ofNat n.val) := by decide +kernel
  have := h ⟨c.toNat, c.toNat_lt⟩
  simpa using this

theorem dropWhile_nil {p : UInt8 → Bool} (l : List UInt8) : l.dropWhile p = [] ↔ l.all p = true := by
  induction l with
  | nil => simp
  | cons a t ih =>
    rw [List.dropWhile_cons]
    by_cases h : p a = true
    · simp [h, ih]
    · simp [h]

/-- Nothing is left of a string that holds digits alone, and of no other. -/
theorem trimD_nil (s : ByteArray) : (trimD s).toList = [] ↔ s.data.toList.all isDig = true := by
  have e : (fun c => digs.data.toList.contains c) = isDig := funext digs_contains
  have h0 : (trimD s).toList = (s.data.toList.reverse.dropWhile isDig).reverse.dropWhile isDig := by
    rw [toList_data]
    simp only [trimD, Lib.trimS, Lib.trimLeftS, Lib.trimRightS]
    rw [e]
  rw [h0, dropWhile_nil]
  constructor
  · intro h
    have h1 : s.data.toList.reverse.dropWhile isDig = [] := by
      cases hd : s.data.toList.reverse.dropWhile isDig with
      | nil => rfl
      | cons a t =>
        exfalso
        have ha : isDig a = true := by
          rw [hd] at h
          exact List.all_eq_true.1 h a (by simp)
        have hb : ∀ l : List UInt8, l.dropWhile isDig = a :: t → isDig a = false := by
          intro l
          induction l with
          | nil => intro hh; simp at hh
          | cons b r ih =>
            intro hh
            rw [List.dropWhile_cons] at hh
            by_cases hbd : isDig b = true
            · rw [if_pos hbd] at hh; exact ih hh
            · rw [if_neg hbd] at hh
              injection hh with hh _
              subst hh
              simpa using hbd
        rw [hb _ hd] at ha
        cases ha
    have h2 := (dropWhile_nil _).1 h1
    rw [List.all_reverse] at h2
    exact h2
  · intro h
    have h1 : s.data.toList.reverse.dropWhile isDig = [] := (dropWhile_nil _).2 (by rw [List.all_reverse]; exact h)
    rw [h1]
    rfl

theorem isDig_iff (c : UInt8) : isDig c = true ↔ 48 ≤ c.toNat ∧ c.toNat ≤ 57 := by
  simp [isDig, UInt8.le_iff_toNat_le]

theorem dv_eq (c : UInt8) : dv c = c.toNat - 48 := by unfold dv; rfl
theorem digFrom_nil (n : Nat) : digFrom n [] = n := rfl
theorem digFrom_cons (n : Nat) (c : UInt8) (r : List UInt8) : digFrom n (c :: r) = digFrom (10 * n + dv c) r := rfl
theorem digFrom_mono (d : List UInt8) : ∀ n, n ≤ digFrom n d := by
  induction d with
  | nil =>
    intro n
    rw [digFrom_nil]
    exact Nat.le_refl _
  | cons c r ih =>
    intro n
    rw [digFrom_cons]
    have := ih (10 * n + dv c)
    omega

theorem pu_step (acc : Nat) (c : UInt8) (r : List UInt8) (hc : 48 ≤ c.toNat ∧ c.toNat ≤ 57) : Lib.parseUint10 acc (c :: r) = if 1844674407370955162 ≤ acc then .range else if 18446744073709551616 ≤ 10 * acc + dv c then .range else Lib.parseUint10 (10 * acc + dv c) r := by
  have e : acc * 10 + (c.toNat - 48) = 10 * acc + dv c := by rw [dv_eq]; omega
  rw [Lib.parseUint10, if_pos hc, e]
theorem parseUint_dig (U : Nat) (hU : U = 18446744073709551616) (d : List UInt8) : ∀ acc, acc < U → d.all isDig = true →
    (digFrom acc d < U → Lib.parseUint10 acc d = .ok (digFrom acc d)) ∧ (¬ digFrom acc d < U → Lib.parseUint10 acc d = .range) := by
  induction d with
  | nil =>
    intro acc ha _
    rw [digFrom_nil]
    exact ⟨fun _ => rfl, fun h => absurd ha h⟩
  | cons c r ih =>
    intro acc ha h
    simp only [List.all_cons, Bool.and_eq_true] at h
    have hc := (isDig_iff c).1 h.1
    rw [digFrom_cons, pu_step acc c r hc]
    have hm := digFrom_mono r (10 * acc + dv c)
    by_cases h1 : 1844674407370955162 ≤ acc
    · rw [if_pos h1]
      exact ⟨fun hh => by omega, fun _ => rfl⟩
    · rw [if_neg h1]
      by_cases h2 : 18446744073709551616 ≤ 10 * acc + dv c
      · rw [if_pos h2]
        exact ⟨fun hh => by omega, fun _ => rfl⟩
      · rw [if_neg h2]
        exact ih _ (by omega) h.2

/-- strconv.Atoi of digits alone: the value, or out of range. -/
theorem atoi_dig (d : List UInt8) (h0 : d ≠ []) (h : d.all isDig = true) : (digNat d < 9223372036854775808 → Lib.atoiAll d = .ok (digNat d : Int)) ∧ (¬ digNat d < 9223372036854775808 → Lib.atoiAll d = .range) := by
  cases d with
  | nil => exact absurd rfl h0
  | cons c r =>
    have hc : 48 ≤ c.toNat ∧ c.toNat ≤ 57 := by
      simp only [List.all_cons, Bool.and_eq_true] at h
      exact (isDig_iff c).1 h.1
    have hp := parseUint_dig _ rfl (c :: r) 0 (by omega) h
    have hg : digFrom 0 (c :: r) = digNat (c :: r) := rfl
    rw [hg] at hp
    generalize digNat (c :: r) = v at *
    have hs : Lib.parseMag (c :: r) = Lib.parseUint10 0 (c :: r) := by unfold Lib.parseMag; rw [if_neg (by simp)]
    rw [Lib.atoiAll_plain c r (by omega) (by omega), hs]
    by_cases h1 : v < 18446744073709551616
    · rw [hp.1 h1]
      simp only [Lib.signless]
      by_cases h2 : v < 9223372036854775808
      · rw [if_neg (by omega)]
        exact ⟨fun _ => rfl, fun hh => absurd h2 hh⟩
      · rw [if_pos (by omega)]
        exact ⟨fun hh => absurd hh h2, fun _ => rfl⟩
    · rw [hp.2 h1]
      exact ⟨fun hh => by omega, fun _ => rfl⟩

theorem spaceOf_cases (c : UInt8) : (c = 73 ∧ spaceOf c = 0) ∨ (c = 81 ∧ spaceOf c = 1) ∨ (c = 77 ∧ spaceOf c = 2) ∨ (c ≠ 73 ∧ c ≠ 81 ∧ c ≠ 77 ∧ spaceOf c = -1) := by
  unfold spaceOf
  by_cases h1 : c = 73
  · exact .inl ⟨h1, by simp [h1]⟩
  · by_cases h2 : c = 81
    · exact .inr (.inl ⟨h2, by simp [h2]⟩)
    · by_cases h3 : c = 77
      · exact .inr (.inr (.inl ⟨h3, by simp [h3]⟩))
      · exact .inr (.inr (.inr ⟨h1, h2, h3, by simp [h1, h2, h3]⟩))

theorem extract_first (t : ByteArray) (h : 0 < t.size) : t.extract 0 1 = ⟨#[t[0]]⟩ := by
  apply bytes_ext
  have h2 : 0 < t.data.toList.length := by rw [size_data]; exact h
  simp only [ByteArray.data_extract, Array.toList_extract]
  cases hl : t.data.toList with
  | nil => rw [hl] at h2; simp at h2
  | cons a r =>
    have : t[0] = a := by
      have h3 : t[0] = t.data.toList[0] := rfl
      rw [h3]; simp only [hl]; rfl
    simp [this, List.extract]

theorem idx_space (t : ByteArray) (h : 0 < t.size) : Lib.idxOfS (([⟨#[73]⟩, ⟨#[81]⟩, ⟨#[77]⟩] : List ByteArray).take 3) (t.extract 0 1) = spaceOf t[0] := by
  rw [extract_first t h]
  have e : ∀ a b : UInt8, ((⟨#[a]⟩ : ByteArray) = ⟨#[b]⟩) ↔ a = b := fun a b => ⟨fun h => by injection h with h; simpa using h, fun h => by rw [h]⟩
  simp only [Lib.idxOfS, Lib.idxFromS, List.take, e]
  rcases spaceOf_cases t[0] with ⟨h1, h2⟩ | ⟨h1, h2⟩ | ⟨h1, h2⟩ | ⟨h1, h2, h3, h4⟩
  · rw [h2]; simp [h1]
  · rw [h2]; simp [h1]
  · rw [h2]; simp [h1]
  · rw [h4]; simp [Ne.symm h1, Ne.symm h2, Ne.symm h3]

theorem extract_tail (t : ByteArray) : (t.extract 1 t.size).data.toList = t.data.toList.tail := by
  simp [ByteArray.data_extract, Array.toList_extract, List.extract]
  have : t.size - 1 = (t.data.toList.drop 1).length := by rw [List.length_drop, size_data]
  rw [this, ← List.drop_one, List.take_length]

theorem data_cons (t : ByteArray) (h : 0 < t.size) : t.data.toList = t[0] :: (t.extract 1 t.size).data.toList := by
  rw [extract_tail]
  have h2 : 0 < t.data.toList.length := by rw [size_data]; exact h
  cases hl : t.data.toList with
  | nil => rw [hl] at h2; simp at h2
  | cons a r =>
    have : t[0] = a := by
      have h3 : t[0] = t.data.toList[0] := rfl
      rw [h3]; simp only [hl]; rfl
    rw [this]
    rfl

theorem dec_len : ∀ n : Fin 1024, (Lib.decDigits n.val).length ≤ 4 := by decide +kernel
theorem itoa_len (n : Nat) (h : n ≤ 1000) : (itoaS (n : Int)).size ≤ 4 := by
  have h1 := dec_len ⟨n, by omega⟩
  have h2 : ¬ ((n : Int) < 0) := by omega
  simpa [itoaS, ByteArray.size, Lib.itoa, h2] using h1
end Go.Proofs.YtolmkdhgnganaaaDoor.Sp
