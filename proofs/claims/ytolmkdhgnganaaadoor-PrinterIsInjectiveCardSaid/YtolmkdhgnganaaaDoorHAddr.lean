/-
  What the functions of package addr do when they are called: each answers what its plain function answers, and nothing that was there is changed. Condition: the package's letters, strconv's table of powers and its two errors are laid as their initialisers lay them.
-/
import Derived.Test.YtolmkdhgnganaaaDoorShelf
import Derived.Test.YtolmkdhgnganaaaDoorWWords
import Derived.Test.YtolmkdhgnganaaaDoorSpA
import Derived.Tactics
import Derived.Tactics2
import Derived.WalkKit
import Derived.WalkSpells
import Derived.WalkLawsBesides
import Derived.OwnWalk
import Derived.Outline
import Derived.Deep.QuietTactic
import Derived.BigQuiet
import Derived.Deep.RegionHeld3
import Derived.Deep.RegionWith
import Derived.KernelRfl
import Derived.Lib.AppendIntMem
import Derived.Shelf.Strings.SlTrimAscii
set_option linter.unusedVariables false
set_option linter.unusedSimpArgs false
namespace Go.Proofs.YtolmkdhgnganaaaDoor.H
open Go Go.RowKit Go.Proofs Go.Proofs.YtolmkdhgnganaaaDoorW.PrintWords Go.Proofs.YtolmkdhgnganaaaDoor.Sp

/-- It returns v; nothing that was there has changed. -/
def RetB (w : World) (v : Value) (e : Ending) (w' : World) : Prop := e = .returned v ∧ Below w.heap.size w w'

/-- The letters' cells. -/
structure Lets (w : World) : Prop where
  l0 : w.cell? ⟨2, 0, none⟩ = some (.string ⟨#[73]⟩)
  l1 : w.cell? ⟨2, 1, none⟩ = some (.string ⟨#[81]⟩)
  l2 : w.cell? ⟨2, 2, none⟩ = some (.string ⟨#[77]⟩)
theorem Lets.below {w w' : World} (h : Lets w) (hb : Below w.heap.size w w') : Lets w' := ⟨pw_cell_below hb h.l0, pw_cell_below hb h.l1, pw_cell_below hb h.l2⟩
theorem Lets.at_ {w : World} (h : Lets w) (s : Nat) (hs : s ≤ 2) : w.cell? ⟨2, s, none⟩ = some (.string ⟨#[letterOf (s : Int)]⟩) := by
  match s, hs with
  | 0, _ => exact h.l0
  | 1, _ => exact h.l1
  | 2, _ => exact h.l2

/-- A variable that was there holds what it held. -/
theorem var_below {P : Program} {w w' : World} {name : String} {cs : Array Value} (h : w.var? P name = some cs) (hb : Below w.heap.size w w') : w'.var? P name = some cs := by
  unfold World.var? at *
  cases hg : P.globalNamed name with
  | none => rw [hg] at h; simp at h
  | some g =>
    rw [hg] at h
    simp only [Option.bind_some] at h ⊢
    cases hh : w.heap[g]? with
    | none => rw [hh] at h; simp at h
    | some o => rw [hb.block g (Array.getElem?_eq_some_iff.1 hh).1, hh]; rw [hh] at h; exact h

/-- strconv's table of powers of ten. -/
structure Pows (w : World) : Prop where
  p : Lib.TabIs Tryd.prog w "internal/strconv.uint64pow10" .u64 Lib.pow10Tab
theorem Pows.below {w w' : World} (h : Pows w) (hb : Below w.heap.size w w') : Pows w' := ⟨var_below h.p hb⟩
/-- strconv's two errors are not nil. -/
structure Errs (w : World) : Prop where
  syn : ∃ t p, w.var? Tryd.prog "strconv.ErrSyntax" = some #[.iface t p]
  rng : ∃ t p, w.var? Tryd.prog "strconv.ErrRange" = some #[.iface t p]
theorem Errs.below {w w' : World} (h : Errs w) (hb : Below w.heap.size w w') : Errs w' := by
  obtain ⟨⟨t, p, h1⟩, ⟨t2, p2, h2⟩⟩ := h
  exact ⟨⟨t, p, var_below h1 hb⟩, ⟨t2, p2, var_below h2 hb⟩⟩

/-! ### the library -/
theorem itoa_b (n : Int) (h0 : -9223372036854775808 ≤ n) (h1 : n ≤ 9223372036854775807) (w : World) (hp : Pows w) :
    Calls Tryd.prog 18 #[.int .i64 n] w (RetB w (.string (itoaS n))) := by
  refine (Tryd.strconv_Itoa n h0 h1 w hp.p).mono ?_
  rintro e w' ⟨rfl, k, os, rfl⟩
  exact ⟨rfl, Lib.below_grow _ _ (Nat.le_refl _) _ _⟩

theorem trim_b (s : ByteArray) (w : World) (hs : s.size ≤ 9223372036854775807) :
    Calls Tryd.prog 100 #[.string s, .string ⟨#[48, 49, 50, 51, 52, 53, 54, 55, 56, 57]⟩] w (RetB w (.string (trimD s))) :=
  Any.strings_Trim_laid Tryd.lays160 (by kernel_rfl) s digs w hs (by decide) (ascii_of_all (by decide))

/-- Behind '[]byte(s)' too nothing that was there has changed. -/
theorem below_bytes (w : World) (e : TypeId) (t : ByteArray) : Below w.heap.size w (Lib.bytesWorld w e t) := bytes_below (Below.refl _ _) (Nat.le_refl _) _ _
theorem atoi_ok (s : ByteArray) (hs : s.size ≤ 140737488355328) (v : Int) (h : Lib.atoiAll s.data.toList = .ok v) (w : World) :
    Calls Tryd.prog 101 #[.string s] w (RetB w (.tuple #[.int .i64 v, .nilIface])) := by
  refine (Tryd.strconv_Atoi_ok s (by omega) v h w).mono ?_
  rintro e w' ⟨rfl, h | ⟨t, rfl⟩⟩
  · rw [h]
    exact ⟨rfl, Below.refl _ _⟩
  · exact ⟨rfl, below_bytes _ _ _⟩

/-- An error that is not nil, and the number v. -/
def ErrB (w : World) (v : Int) (e : Ending) (w' : World) : Prop := ∃ t p, e = .returned (.tuple #[.int .i64 v, .iface t p]) ∧ Below w.heap.size w w'
theorem atoi_range (s : ByteArray) (hs : s.size ≤ 140737488355328) (h : Lib.atoiAll s.data.toList = .range) (w : World) (he : Errs w) :
    Calls Tryd.prog 101 #[.string s] w (ErrB w (Lib.atoiSat s.data.toList)) := by
  obtain ⟨t, p, hv⟩ := he.rng
  refine (Tryd.strconv_Atoi_range_var s (by omega) h t p w hv).mono ?_
  rintro e w' ⟨N, rfl, _, _, hb⟩
  exact ⟨_, _, rfl, hb⟩
theorem atoi_syntax (s : ByteArray) (hs : s.size ≤ 140737488355328) (h : Lib.atoiAll s.data.toList = Go.Lib.NumEnd.syntax) (w : World) (he : Errs w) :
    Calls Tryd.prog 101 #[.string s] w (ErrB w 0) := by
  obtain ⟨t, p, hv⟩ := he.syn
  refine (Tryd.strconv_Atoi_syntax_var s (by omega) h t p w hv).mono ?_
  rintro e w' ⟨N, rfl, _, _, hb⟩
  exact ⟨_, _, rfl, hb⟩

/-! ### Width, CheckAddr, CheckSize -/
set_option maxHeartbeats 1000000 in
theorem width_b (i q m e sp : Int) (w : World) :
   Calls Tryd.prog 89 #[.agg #[.int .i64 i, .int .i64 q, .int .i64 m, .int .i64 e], .int .i64 sp] w (RetB w (.int .i64 (widthOf i q m sp))) := by
  by_cases h0 : sp = 0
  · subst h0
    go_enter Tryd.func89, Tryd.ntmps89
    go_wp2
    go_ret
    exact ⟨rfl, below_alloc (Below.refl _ _) _⟩
  · by_cases h1 : sp = 1
    · subst h1
      go_enter Tryd.func89, Tryd.ntmps89
      go_wp2
      go_ret
      exact ⟨rfl, below_alloc (Below.refl _ _) _⟩
    · by_cases h2 : sp = 2
      · subst h2
        go_enter Tryd.func89, Tryd.ntmps89
        go_wp2
        go_ret
        exact ⟨rfl, below_alloc (Below.refl _ _) _⟩
      · have e0 : widthOf i q m sp = 0 := by simp [widthOf, h0, h1, h2]
        rw [e0]
        clear e0
        go_enter Tryd.func89, Tryd.ntmps89
        go_wp2
        go_ret
        exact ⟨rfl, below_alloc (Below.refl _ _) _⟩

set_option maxHeartbeats 1000000 in
theorem chk_b (i q m e sp n : Int) (w : World) :
   Calls Tryd.prog 71 #[.agg #[.int .i64 i, .int .i64 q, .int .i64 m, .int .i64 e], .agg #[.int .i64 sp, .int .i64 n]] w (RetB w (.int .i64 (chkAddr i q m sp n))) := by
  by_cases h0 : sp < 0
  · have e0 : chkAddr i q m sp n = 8 := by simp [chkAddr, h0]
    rw [e0]
    clear e0
    have h0' : ¬ (0 ≤ sp) := by omega
    go_enter Tryd.func71, Tryd.ntmps71
    go_wp2
    go_ret
    exact ⟨rfl, below_alloc (below_alloc (Below.refl _ _) _) _⟩
  · by_cases h2 : sp ≤ 2
    · have h0' : 0 ≤ sp := by omega
      by_cases h3 : n < 0
      · have e0 : chkAddr i q m sp n = 3 := by simp [chkAddr, h0, h3]; omega
        rw [e0]
        clear e0
        have d3 : decide (n < 0) = true := by simpa using h3
        go_enter Tryd.func71, Tryd.ntmps71
        go_wp2
        go_quiet (fail)
        go_wp2
        go_ret
        exact ⟨rfl, pw_below_drewN (below_alloc (below_alloc (Below.refl _ _) _) _) _⟩
      · have d3 : decide (n < 0) = false := by simpa using h3
        by_cases h4 : widthOf i q m sp ≤ n
        · have e0 : chkAddr i q m sp n = 3 := by simp [chkAddr, h0, h3, h4]; omega
          rw [e0]
          clear e0
          go_enter Tryd.func71, Tryd.ntmps71
          go_wp2
          go_region_held3 (fun w' => w'.cell? ⟨w.heap.size, 0, none⟩ = some (.int .i64 i) ∧ w'.cell? ⟨w.heap.size, 1, none⟩ = some (.int .i64 q) ∧ w'.cell? ⟨w.heap.size, 2, none⟩ = some (.int .i64 m) ∧ w'.cell? ⟨w.heap.size, 3, none⟩ = some (.int .i64 e) ∧ w'.cell? ⟨w.heap.size + 1, 0, none⟩ = some (.int .i64 sp) ∧ w'.cell? ⟨w.heap.size + 1, 1, none⟩ = some (.int .i64 n))
            (first | go_keep | (refine ⟨pw_cell_below hb ?_, pw_cell_below hb ?_, pw_cell_below hb ?_, pw_cell_below hb ?_, pw_cell_below hb ?_, pw_cell_below hb ?_⟩ <;> go_keep))
            (first | (go_at_call 89; (with_reducible refine (width_b i q m e sp _).mono ?_); rintro e_ w1 ⟨rfl, hb⟩))
          go_wp2
          go_ret
          exact ⟨rfl, below_step (below_drew (below_alloc (below_alloc (Below.refl _ _) _) _)) hb⟩
        · have e0 : chkAddr i q m sp n = 0 := by simp [chkAddr, h0, h3, h4]; omega
          rw [e0]
          clear e0
          go_enter Tryd.func71, Tryd.ntmps71
          go_wp2
          go_region_held3 (fun w' => w'.cell? ⟨w.heap.size, 0, none⟩ = some (.int .i64 i) ∧ w'.cell? ⟨w.heap.size, 1, none⟩ = some (.int .i64 q) ∧ w'.cell? ⟨w.heap.size, 2, none⟩ = some (.int .i64 m) ∧ w'.cell? ⟨w.heap.size, 3, none⟩ = some (.int .i64 e) ∧ w'.cell? ⟨w.heap.size + 1, 0, none⟩ = some (.int .i64 sp) ∧ w'.cell? ⟨w.heap.size + 1, 1, none⟩ = some (.int .i64 n))
            (first | go_keep | (refine ⟨pw_cell_below hb ?_, pw_cell_below hb ?_, pw_cell_below hb ?_, pw_cell_below hb ?_, pw_cell_below hb ?_, pw_cell_below hb ?_⟩ <;> go_keep))
            (first | (go_at_call 89; (with_reducible refine (width_b i q m e sp _).mono ?_); rintro e_ w1 ⟨rfl, hb⟩))
          go_wp2
          go_ret
          exact ⟨rfl, below_step (below_drew (below_alloc (below_alloc (Below.refl _ _) _) _)) hb⟩
    · have e0 : chkAddr i q m sp n = 8 := by simp [chkAddr]; omega
      rw [e0]
      clear e0
      have h0' : 0 ≤ sp := by omega
      go_enter Tryd.func71, Tryd.ntmps71
      go_wp2
      go_ret
      exact ⟨rfl, below_alloc (below_alloc (Below.refl _ _) _) _⟩

/-- 0 <= n && n <= most. -/
def inB (n most : Int) : Bool := decide (0 ≤ n) && decide (n ≤ most)
theorem inB_true {n most : Int} (h : inB n most = true) : 0 ≤ n ∧ n ≤ most := by simpa [inB] using h
theorem inB_false {n most : Int} (h : inB n most = false) : ¬ (0 ≤ n ∧ n ≤ most) := by
  intro hh
  simp [inB, hh.1, hh.2] at h
set_option maxHeartbeats 1000000 in
theorem within_b (n most : Int) (w : World) : Calls Tryd.prog 50 #[.int .i64 n, .int .i64 most] w fun e w' => e = .returned (.bool (inB n most)) ∧ w = w' := by
  by_cases h0 : 0 ≤ n
  · have e0 : inB n most = decide (n ≤ most) := by simp [inB, h0]
    rw [e0]
    clear e0
    go_enter Tryd.func50, Tryd.ntmps50
    go_wp2
    go_ret
    exact ⟨rfl, rfl⟩
  · have e0 : inB n most = false := by simp [inB, h0]
    rw [e0]
    clear e0
    go_enter Tryd.func50, Tryd.ntmps50
    go_wp2
    go_ret
    exact ⟨rfl, rfl⟩

set_option maxHeartbeats 1000000 in
theorem chkSize_b (i q m e : Int) (w : World) :
   Calls Tryd.prog 23 #[.agg #[.int .i64 i, .int .i64 q, .int .i64 m, .int .i64 e]] w (RetB w (.int .i64 (chkSize i q m e))) := by
  have key : ∀ v : Int, (v = if inB e 16384 = true ∧ inB i 256 = true ∧ inB q 256 = true ∧ inB m 256 = true then 0 else 3) → v = chkSize i q m e := by
    intro v hv
    rw [hv]
    simp [inB, chkSize]
  generalize hB : inB e 16384 = b1 at key
  generalize hB2 : inB i 256 = b2 at key
  generalize hB3 : inB q 256 = b3 at key
  generalize hB4 : inB m 256 = b4 at key
  have G1 := Aside0.mk hB
  have G2 := Aside0.mk hB2
  have G3 := Aside0.mk hB3
  have G4 := Aside0.mk hB4
  have K := Aside0.mk key
  clear hB hB2 hB3 hB4 key
  cases b1 with
  | false =>
    rw [← K.out 3 (by simp)]
    go_enter Tryd.func23, Tryd.ntmps23
    go_wp2_with (first | (go_at_call 50; (with_reducible refine (within_b _ _ _).mono ?_); rintro e_ w1 ⟨rfl, rfl⟩; (first | rw [G1.out] | rw [G2.out] | rw [G3.out] | rw [G4.out])))
    go_ret
    exact ⟨rfl, below_alloc (Below.refl _ _) _⟩
  | true => cases b2 with
  | false =>
    rw [← K.out 3 (by simp)]
    go_enter Tryd.func23, Tryd.ntmps23
    go_wp2_with (first | (go_at_call 50; (with_reducible refine (within_b _ _ _).mono ?_); rintro e_ w1 ⟨rfl, rfl⟩; (first | rw [G1.out] | rw [G2.out] | rw [G3.out] | rw [G4.out])))
    go_ret
    exact ⟨rfl, below_alloc (Below.refl _ _) _⟩
  | true => cases b3 with
  | false =>
    rw [← K.out 3 (by simp)]
    go_enter Tryd.func23, Tryd.ntmps23
    go_wp2_with (first | (go_at_call 50; (with_reducible refine (within_b _ _ _).mono ?_); rintro e_ w1 ⟨rfl, rfl⟩; (first | rw [G1.out] | rw [G2.out] | rw [G3.out] | rw [G4.out])))
    go_ret
    exact ⟨rfl, below_alloc (Below.refl _ _) _⟩
  | true => cases b4 with
  | false =>
    rw [← K.out 3 (by simp)]
    go_enter Tryd.func23, Tryd.ntmps23
    go_wp2_with (first | (go_at_call 50; (with_reducible refine (within_b _ _ _).mono ?_); rintro e_ w1 ⟨rfl, rfl⟩; (first | rw [G1.out] | rw [G2.out] | rw [G3.out] | rw [G4.out])))
    go_ret
    exact ⟨rfl, below_alloc (Below.refl _ _) _⟩
  | true =>
    rw [← K.out 0 (by simp)]
    go_enter Tryd.func23, Tryd.ntmps23
    go_wp2_with (first | (go_at_call 50; (with_reducible refine (within_b _ _ _).mono ?_); rintro e_ w1 ⟨rfl, rfl⟩; (first | rw [G1.out] | rw [G2.out] | rw [G3.out] | rw [G4.out])))
    go_ret
    exact ⟨rfl, below_alloc (Below.refl _ _) _⟩

/-! ### Format -/
set_option maxHeartbeats 1000000 in
theorem fmt_bad (s n : Int) (w : World) (h : s < 0 ∨ 2 < s ∨ n < 0 ∨ 255 < n) :
    Calls Tryd.prog 32 #[.agg #[.int .i64 s, .int .i64 n]] w (RetB w (.string ⟨#[]⟩)) := by
  by_cases h1 : 0 ≤ s
  · by_cases h2 : s ≤ 2
    · by_cases h3 : 0 ≤ n
      · have h4 : ¬ n ≤ 255 := by omega
        go_enter Tryd.func32, Tryd.ntmps32
        go_wp2
        go_ret
        exact ⟨rfl, below_alloc (Below.refl _ _) _⟩
      · go_enter Tryd.func32, Tryd.ntmps32
        go_wp2
        go_ret
        exact ⟨rfl, below_alloc (Below.refl _ _) _⟩
    · go_enter Tryd.func32, Tryd.ntmps32
      go_wp2
      go_ret
      exact ⟨rfl, below_alloc (Below.refl _ _) _⟩
  · go_enter Tryd.func32, Tryd.ntmps32
    go_wp2
    go_ret
    exact ⟨rfl, below_alloc (Below.refl _ _) _⟩

set_option maxHeartbeats 1000000 in
theorem fmt_ok (s n : Nat) (w : World) (L : ByteArray) (h2 : s ≤ 2) (h4 : n ≤ 255) (hL : w.cell? ⟨2, s, none⟩ = some (.string L)) (hs : L.size = 1) (hp : Pows w) :
    Calls Tryd.prog 32 #[.agg #[.int .i64 s, .int .i64 n]] w (RetB w (.string (L ++ itoaS n))) := by
  have a1 : (0 : Int) ≤ (s : Int) := by omega
  have a2 : (s : Int) < 3 := by omega
  have a3 : (s : Int) ≤ 2 := by omega
  have a4 : (0 : Int) ≤ (n : Int) := by omega
  have a5 : (n : Int) ≤ 255 := by omega
  have lg := World.block_lt_of_cell? w _ hL
  have hadd : (9223372036854775807 < L.size + (itoaS (n : Int)).size) = False := by
    have := itoa_len n (by omega)
    simp; omega
  clear hs
  go_enter Tryd.func32, Tryd.ntmps32
  go_wp2
  go_region_held3 (fun w' => w'.cell? ⟨w.heap.size, 0, none⟩ = some (.int .i64 s) ∧ w'.cell? ⟨w.heap.size, 1, none⟩ = some (.int .i64 n) ∧ w'.cell? ⟨2, s, none⟩ = some (.string L))
    (first | go_keep | (refine ⟨pw_cell_below hb ?_, pw_cell_below hb ?_, pw_cell_below hb ?_⟩ <;> go_keep))
    (first | (go_at_call 18; refine (itoa_b n (by omega) (by omega) _ (by exact hp.below (below_drew (below_alloc (Below.refl _ _) _)))).mono ?_; rintro e w1 ⟨rfl, hb⟩))
  go_wp2
  go_ret
  exact ⟨rfl, below_step (below_drew (below_alloc (Below.refl _ _) _)) hb⟩

/-- Format, whatever it is given. -/
theorem fmt_b (s n : Int) (w : World) (hl : Lets w) (hp : Pows w) :
    Calls Tryd.prog 32 #[.agg #[.int .i64 s, .int .i64 n]] w (RetB w (.string (addrFmt s n))) := by
  by_cases h : s < 0 ∨ 2 < s ∨ n < 0 ∨ 255 < n
  · have e : addrFmt s n = ⟨#[]⟩ := by unfold addrFmt; rw [if_pos h]
    rw [e]
    exact fmt_bad s n w h
  · have e : addrFmt s n = ⟨#[letterOf s]⟩ ++ itoaS n := by unfold addrFmt; rw [if_neg h]
    rw [e]
    obtain ⟨a, rfl⟩ := Int.eq_ofNat_of_zero_le (show 0 ≤ s by omega)
    obtain ⟨b, rfl⟩ := Int.eq_ofNat_of_zero_le (show 0 ≤ n by omega)
    exact fmt_ok a b w _ (by omega) (by omega) (hl.at_ a (by omega)) rfl hp

/-! ### Parse -/
theorem idx_c (t : ByteArray) (h : 0 < t.size) (w : World) (hl : Lets w) :
   Calls Tryd.prog 88 #[.slice (some ⟨2, 0, none⟩) 3 3, .string (t.extract 0 1)] w fun e w' => e = .returned (.int .i64 (spaceOf t[0])) ∧ w' = w := by
  rw [← idx_space t h]
  refine Tryd.slices_Index_string 2 0 3 3 [⟨#[73]⟩, ⟨#[81]⟩, ⟨#[77]⟩] _ _ (by decide) (by decide) ?_
  intro j hj
  match j, hj with
  | 0, _ => exact hl.l0
  | 1, _ => exact hl.l1
  | 2, _ => exact hl.l2

/-- What Parse returns. -/
def prsV (s n e : Int) : Value := .tuple #[.agg #[.int .i64 s, .int .i64 n], .int .i64 e]

set_option maxHeartbeats 1000000 in
theorem prs_empty (w : World) : Calls Tryd.prog 102 #[.string ⟨#[]⟩] w (RetB w (prsV 0 0 6)) := by
  go_enter Tryd.func102, Tryd.ntmps102
  go_wp2
  exact bodyPost_ret (v := prsV 0 0 6) (by simp [results, Tryd.results102, go_sem, prsV]) rfl ⟨rfl, (Below.refl _ _).alloc (Nat.le_refl _) _⟩

set_option maxHeartbeats 1000000 in
theorem prs_bad1 (t D : ByteArray) (w : World) (ht : t.size ≤ 140737488355328) (h0 : 0 < t.size) (hD : t.extract 1 t.size = D) (hb : spaceOf t[0] < 0) (a2 : t.toList.isEmpty = false)
   (hl : Lets w) : Calls Tryd.prog 102 #[.string t] w (RetB w (prsV 0 0 6)) := by
  have a1 : (1 : Int) ≤ (t.size : Int) := by omega
  have HD := Aside0.mk hD
  clear hD
  go_enter Tryd.func102, Tryd.ntmps102
  go_wp2
  go_quiet ((go_at_call 88; exact Calls.quiet_of_same (idx_c t h0 _ (hl.below (pw_below_drewN (below_alloc (Below.refl _ _) _) _)))))
  rw [HD.out]
  go_wp2
  exact bodyPost_ret (v := prsV 0 0 6) (by simp [results, Tryd.results102, go_sem, prsV]) rfl ⟨rfl, below_set (below_set (pw_below_drewN (below_alloc (Below.refl _ _) _) _) (Nat.le_refl _)) (Nat.le_refl _)⟩

set_option maxHeartbeats 1000000 in
theorem prs_bad2 (t D : ByteArray) (w : World) (ht : t.size ≤ 140737488355328) (h0 : 0 < t.size) (hD : t.extract 1 t.size = D) (hb : 0 ≤ spaceOf t[0]) (a2 : t.toList.isEmpty = false)
   (hl : Lets w) (d1 : D.toList = []) (d2 : D.toList.isEmpty = true) : Calls Tryd.prog 102 #[.string t] w (RetB w (prsV 0 0 6)) := by
  have a1 : (1 : Int) ≤ (t.size : Int) := by omega
  have HD := Aside0.mk hD
  have H1 := Aside0.mk d1
  have H2 := Aside0.mk d2
  clear hD d1 d2
  go_enter Tryd.func102, Tryd.ntmps102
  go_wp2
  go_quiet ((go_at_call 88; exact Calls.quiet_of_same (idx_c t h0 _ (hl.below (pw_below_drewN (below_alloc (Below.refl _ _) _) _)))))
  rw [HD.out]
  have d1 := H1.out
  have d2 := H2.out
  go_wp2
  exact bodyPost_ret (v := prsV 0 0 6) (by simp [results, Tryd.results102, go_sem, prsV]) rfl ⟨rfl, below_set (below_set (pw_below_drewN (below_alloc (Below.refl _ _) _) _) (Nat.le_refl _)) (Nat.le_refl _)⟩

/-- What is known of the result's cell behind a call. -/
theorem res_cell {w w1 : World} {cs : Array Value} {t nq : Nat} (hb : Below ((w.alloc (.cells cs t)).drewN nq).heap.size ((w.alloc (.cells cs t)).drewN nq) w1) :
    (∀ i, w1.cell? ⟨w.heap.size, i, none⟩ = cs[i]?) ∧ (∀ i, w1.frozen? ⟨w.heap.size, i, none⟩ = false) ∧ Below w.heap.size w w1 :=
  have hk := blk_below (blk_drewN (blk_new w (.cells cs t)) nq) hb
  ⟨blk_cell hk, blk_frozen hk, below_step (pw_below_drewN (below_alloc (Below.refl _ w) _) _) hb⟩

set_option maxHeartbeats 1000000 in
theorem prs_bad3 (t D : ByteArray) (w : World) (ht : t.size ≤ 140737488355328) (h0 : 0 < t.size) (hD : t.extract 1 t.size = D) (hb : 0 ≤ spaceOf t[0]) (a2 : t.toList.isEmpty = false)
   (hl : Lets w) (hDs : D.size ≤ 140737488355328) (d1 : ¬ D.toList = []) (d2 : D.toList.isEmpty = false) (e2 : (trimD D).toList.isEmpty = false) : Calls Tryd.prog 102 #[.string t] w (RetB w (prsV 0 0 6)) := by
  have a1 : (1 : Int) ≤ (t.size : Int) := by omega
  have HD := Aside0.mk hD
  have H1 := Aside0.mk d1
  have H2 := Aside0.mk d2
  clear hD d1 d2
  go_enter Tryd.func102, Tryd.ntmps102
  go_wp2
  go_quiet ((go_at_call 88; exact Calls.quiet_of_same (idx_c t h0 _ (hl.below (pw_below_drewN (below_alloc (Below.refl _ _) _) _)))))
  rw [HD.out]
  have d1 := H1.out
  have d2 := H2.out
  go_wp2_with (first | (go_at_call 100; (with_reducible refine (trim_b D _ (by omega)).mono ?_); rintro e w1 ⟨rfl, hb1⟩; have hr := res_cell hb1; have q0 := hr.1 0; have q1 := hr.1 1; have f0 := hr.2.1 0; have f1 := hr.2.1 1; have hz := hr.2.2; clear hr hb1; simp only [List.getElem?_toArray, List.getElem?_cons_zero, List.getElem?_cons_succ] at q0 q1))
  exact bodyPost_ret (v := prsV 0 0 6) (by simp [results, Tryd.results102, go_sem, prsV, q0, q1]) rfl ⟨rfl, below_set (below_set hz (Nat.le_refl _)) (Nat.le_refl _)⟩

set_option maxHeartbeats 1000000 in
theorem prs_bad4 (t D : ByteArray) (w : World) (ht : t.size ≤ 140737488355328) (h0 : 0 < t.size) (hD : t.extract 1 t.size = D) (hb : 0 ≤ spaceOf t[0]) (a2 : t.toList.isEmpty = false)
   (hl : Lets w) (hDs : D.size ≤ 140737488355328) (d1 : ¬ D.toList = []) (d2 : D.toList.isEmpty = false) (e1 : (trimD D).toList = []) (e2 : (trimD D).toList.isEmpty = true)
   (z0 : 0 < D.size) (z1 : (1 : Int) < (D.size : Int)) (z2 : D[0].toNat = 48) : Calls Tryd.prog 102 #[.string t] w (RetB w (prsV 0 0 6)) := by
  have a1 : (1 : Int) ≤ (t.size : Int) := by omega
  have HD := Aside0.mk hD
  have H1 := Aside0.mk d1
  have H2 := Aside0.mk d2
  have H3 := Aside0.mk z2
  clear hD d1 d2 z2
  go_enter Tryd.func102, Tryd.ntmps102
  go_wp2
  go_quiet ((go_at_call 88; exact Calls.quiet_of_same (idx_c t h0 _ (hl.below (pw_below_drewN (below_alloc (Below.refl _ _) _) _)))))
  rw [HD.out]
  have d1 := H1.out
  have d2 := H2.out
  have z3 : ((D[0].toNat : Int) == 48) = true := by rw [H3.out]; rfl
  go_wp2_with (first | (go_at_call 100; (with_reducible refine (trim_b D _ (by omega)).mono ?_); rintro e w1 ⟨rfl, hb1⟩; have hr := res_cell hb1; have q0 := hr.1 0; have q1 := hr.1 1; have f0 := hr.2.1 0; have f1 := hr.2.1 1; have hz := hr.2.2; clear hr hb1; simp only [List.getElem?_toArray, List.getElem?_cons_zero, List.getElem?_cons_succ] at q0 q1))
  exact bodyPost_ret (v := prsV 0 0 6) (by simp [results, Tryd.results102, go_sem, prsV, q0, q1]) rfl ⟨rfl, below_set (below_set hz (Nat.le_refl _)) (Nat.le_refl _)⟩

set_option maxHeartbeats 2000000 in
theorem prs_range (t D : ByteArray) (w : World) (ht : t.size ≤ 140737488355328) (h0 : 0 < t.size) (hD : t.extract 1 t.size = D) (hb : 0 ≤ spaceOf t[0]) (a2 : t.toList.isEmpty = false)
   (hl : Lets w) (he : Errs w) (hDs : D.size ≤ 140737488355328) (d1 : ¬ D.toList = []) (d2 : D.toList.isEmpty = false) (e1 : (trimD D).toList = []) (e2 : (trimD D).toList.isEmpty = true)
   (z0 : 0 < D.size) (z : ¬ (1 : Int) < (D.size : Int) ∨ ((1 : Int) < (D.size : Int) ∧ ((D[0].toNat : Int) == 48) = false)) (hA : Lib.atoiAll D.data.toList = .range) : Calls Tryd.prog 102 #[.string t] w (RetB w (prsV 0 0 3)) := by
  have a1 : (1 : Int) ≤ (t.size : Int) := by omega
  have HD := Aside0.mk hD
  have H1 := Aside0.mk d1
  have H2 := Aside0.mk d2
  have HA := Aside0.mk hA
  clear hD d1 d2 hA
  rcases z with z1 | ⟨z1, z3⟩
  all_goals
    go_enter Tryd.func102, Tryd.ntmps102
    go_wp2
    go_quiet ((go_at_call 88; exact Calls.quiet_of_same (idx_c t h0 _ (hl.below (pw_below_drewN (below_alloc (Below.refl _ _) _) _)))))
    rw [HD.out]
    have d1 := H1.out
    have d2 := H2.out
    go_wp2_with (first | (go_at_call 100; (with_reducible refine (trim_b D _ (by omega)).mono ?_); rintro e w1 ⟨rfl, hb1⟩; have hr := res_cell hb1; have q0 := hr.1 0; have q1 := hr.1 1; have f0 := hr.2.1 0; have f1 := hr.2.1 1; have hz := hr.2.2; clear hr hb1; simp only [List.getElem?_toArray, List.getElem?_cons_zero, List.getElem?_cons_succ] at q0 q1) | (go_at_call 101; (with_reducible refine (atoi_range D hDs HA.out _ (by exact he.below hz)).mono ?_); rintro e w2 ⟨tt, pp, rfl, hb2⟩; have hz2 := below_step hz hb2; have g0 := pw_cell_below hb2 q0; have g1 := pw_cell_below hb2 q1; have lt1 := World.block_lt_of_cell? _ _ q0; have k0 := (hb2.frozen (p := ⟨w.heap.size, 0, none⟩) lt1).trans f0; have k1 := (hb2.frozen (p := ⟨w.heap.size, 1, none⟩) lt1).trans f1; clear hb2 q0 q1 f0 f1 lt1 hz))
    exact bodyPost_ret (v := prsV 0 0 3) (by simp [results, Tryd.results102, go_sem, prsV, g0, g1]) rfl ⟨rfl, below_set (below_set hz2 (Nat.le_refl _)) (Nat.le_refl _)⟩

set_option maxHeartbeats 2000000 in
theorem prs_num (t D : ByteArray) (w : World) (ht : t.size ≤ 140737488355328) (h0 : 0 < t.size) (hD : t.extract 1 t.size = D) (hb : 0 ≤ spaceOf t[0]) (a2 : t.toList.isEmpty = false)
   (hl : Lets w) (hDs : D.size ≤ 140737488355328) (d1 : ¬ D.toList = []) (d2 : D.toList.isEmpty = false) (e1 : (trimD D).toList = []) (e2 : (trimD D).toList.isEmpty = true)
   (z0 : 0 < D.size) (z : ¬ (1 : Int) < (D.size : Int) ∨ ((1 : Int) < (D.size : Int) ∧ ((D[0].toNat : Int) == 48) = false)) (v : Int) (hA : Lib.atoiAll D.data.toList = .ok v) (r : Value) (hr : (256 ≤ v ∧ r = prsV 0 0 3) ∨ (v < 256 ∧ r = prsV (spaceOf t[0]) v 0)) : Calls Tryd.prog 102 #[.string t] w (RetB w r) := by
  have a1 : (1 : Int) ≤ (t.size : Int) := by omega
  have HD := Aside0.mk hD
  have H1 := Aside0.mk d1
  have H2 := Aside0.mk d2
  have HA := Aside0.mk hA
  clear hD d1 d2 hA
  rcases hr with ⟨hv, rfl⟩ | ⟨hv, rfl⟩
  · rcases z with z1 | ⟨z1, z3⟩
    all_goals
      go_enter Tryd.func102, Tryd.ntmps102
      go_wp2
      go_quiet ((go_at_call 88; exact Calls.quiet_of_same (idx_c t h0 _ (hl.below (pw_below_drewN (below_alloc (Below.refl _ _) _) _)))))
      rw [HD.out]
      have d1 := H1.out
      have d2 := H2.out
      go_wp2_with (first | (go_at_call 100; (with_reducible refine (trim_b D _ (by omega)).mono ?_); rintro e w1 ⟨rfl, hb1⟩; have hr := res_cell hb1; have q0 := hr.1 0; have q1 := hr.1 1; have f0 := hr.2.1 0; have f1 := hr.2.1 1; have hz := hr.2.2; clear hr hb1; simp only [List.getElem?_toArray, List.getElem?_cons_zero, List.getElem?_cons_succ] at q0 q1) | (go_at_call 101; (with_reducible refine (atoi_ok D hDs _ HA.out _).mono ?_); rintro e w2 ⟨rfl, hb2⟩; have hz2 := below_step hz hb2; have g0 := pw_cell_below hb2 q0; have g1 := pw_cell_below hb2 q1; have lt1 := World.block_lt_of_cell? _ _ q0; have k0 := (hb2.frozen (p := ⟨w.heap.size, 0, none⟩) lt1).trans f0; have k1 := (hb2.frozen (p := ⟨w.heap.size, 1, none⟩) lt1).trans f1; clear hb2 q0 q1 f0 f1 lt1 hz))
      exact bodyPost_ret (v := prsV 0 0 3) (by simp [results, Tryd.results102, go_sem, prsV, g0, g1]) rfl ⟨rfl, below_set (below_set hz2 (Nat.le_refl _)) (Nat.le_refl _)⟩
  · rcases z with z1 | ⟨z1, z3⟩
    all_goals
      go_enter Tryd.func102, Tryd.ntmps102
      go_wp2
      go_quiet ((go_at_call 88; exact Calls.quiet_of_same (idx_c t h0 _ (hl.below (pw_below_drewN (below_alloc (Below.refl _ _) _) _)))))
      rw [HD.out]
      have d1 := H1.out
      have d2 := H2.out
      go_wp2_with (first | (go_at_call 100; (with_reducible refine (trim_b D _ (by omega)).mono ?_); rintro e w1 ⟨rfl, hb1⟩; have hr := res_cell hb1; have q0 := hr.1 0; have q1 := hr.1 1; have f0 := hr.2.1 0; have f1 := hr.2.1 1; have hz := hr.2.2; clear hr hb1; simp only [List.getElem?_toArray, List.getElem?_cons_zero, List.getElem?_cons_succ] at q0 q1) | (go_at_call 101; (with_reducible refine (atoi_ok D hDs _ HA.out _).mono ?_); rintro e w2 ⟨rfl, hb2⟩; have hz2 := below_step hz hb2; have g0 := pw_cell_below hb2 q0; have g1 := pw_cell_below hb2 q1; have lt1 := World.block_lt_of_cell? _ _ q0; have k0 := (hb2.frozen (p := ⟨w.heap.size, 0, none⟩) lt1).trans f0; have k1 := (hb2.frozen (p := ⟨w.heap.size, 1, none⟩) lt1).trans f1; clear hb2 q0 q1 f0 f1 lt1 hz))
      exact bodyPost_ret (v := prsV (spaceOf t[0]) v 0) (by simp [results, Tryd.results102, go_sem, prsV, g0, g1]) rfl ⟨rfl, below_set (below_set hz2 (Nat.le_refl _)) (Nat.le_refl _)⟩

/-- Parse, whatever it is given. -/
theorem prs_b (t : ByteArray) (w : World) (ht : t.size ≤ 140737488355328) (hl : Lets w) (he : Errs w) :
    Calls Tryd.prog 102 #[.string t] w (RetB w (prsV (addrParse t.data.toList).1 (addrParse t.data.toList).2.1 (addrParse t.data.toList).2.2)) := by
  by_cases h0 : 0 < t.size
  · have hc := data_cons t h0
    rw [hc]
    generalize hD : t.extract 1 t.size = D
    have a2 : t.toList.isEmpty = false := by rw [toList_isEmpty]; exact decide_eq_false (by omega)
    have hDs : D.size ≤ 140737488355328 := by rw [← hD, ByteArray.size_extract]; omega
    by_cases hb : spaceOf t[0] < 0
    · have e : addrParse (t[0] :: D.data.toList) = (0, 0, 6) := by simp [addrParse, hb]
      rw [e]
      exact prs_bad1 t D w ht h0 hD hb a2 hl
    · have hb' : 0 ≤ spaceOf t[0] := by omega
      by_cases hs : numSyn D.data.toList = true
      · have hne : D.data.toList ≠ [] := by intro hh; rw [hh] at hs; simp [numSyn] at hs
        have hz0 : 0 < D.size := by rw [← size_data]; exact List.length_pos_iff.2 hne
        have hall : D.data.toList.all isDig = true := by simp only [numSyn, Bool.and_eq_true] at hs; exact hs.1.2
        have d1 : ¬ D.toList = [] := by rw [toList_data]; exact hne
        have d2 : D.toList.isEmpty = false := by rw [toList_isEmpty]; exact decide_eq_false (by omega)
        have e1 : (trimD D).toList = [] := (trimD_nil D).2 hall
        have e2 : (trimD D).toList.isEmpty = true := by rw [e1]; rfl
        have hz : ¬ (1 : Int) < (D.size : Int) ∨ ((1 : Int) < (D.size : Int) ∧ ((D[0].toNat : Int) == 48) = false) := by
          by_cases h1 : (1 : Int) < (D.size : Int)
          · refine .inr ⟨h1, ?_⟩
            have hd := data_cons D hz0
            simp only [numSyn, Bool.and_eq_true] at hs
            have h2 := hs.2
            rw [hd] at h2
            have h3 : decide (1 < (D[0] :: (D.extract 1 D.size).data.toList).length) = true := by rw [← hd, size_data]; simp; omega
            rw [h3] at h2
            simp only [List.head?_cons, Bool.true_and, Bool.not_eq_true'] at h2
            have h4 : D[0] ≠ 48 := by intro hh; rw [hh] at h2; simp at h2
            have h5 : ¬ D[0].toNat = 48 := by intro hh; exact h4 (UInt8.toNat_inj.1 (by rw [hh]; rfl))
            simp; omega
          · exact .inl h1
        obtain ⟨hA1, hA2⟩ := atoi_dig D.data.toList hne hall
        by_cases hv : digNat D.data.toList < 9223372036854775808
        · refine prs_num t D w ht h0 hD hb' a2 hl hDs d1 d2 e1 e2 hz0 hz _ (hA1 hv) _ ?_
          by_cases h5 : digNat D.data.toList ≤ 255
          · exact .inr ⟨by omega, by simp [addrParse, hb, numParse, hs, h5]⟩
          · exact .inl ⟨by omega, by simp [addrParse, hb, numParse, hs, h5]⟩
        · have h5 : ¬ digNat D.data.toList ≤ 255 := by omega
          have e : addrParse (t[0] :: D.data.toList) = (0, 0, 3) := by simp [addrParse, hb, numParse, hs, h5]
          rw [e]
          exact prs_range t D w ht h0 hD hb' a2 hl he hDs d1 d2 e1 e2 hz0 hz (hA2 hv)
      · have e : addrParse (t[0] :: D.data.toList) = (0, 0, 6) := by simp [addrParse, hb, numParse, hs]
        rw [e]
        by_cases hz0 : 0 < D.size
        · have d1 : ¬ D.toList = [] := by rw [toList_nil_iff]; omega
          have d2 : D.toList.isEmpty = false := by rw [toList_isEmpty]; exact decide_eq_false (by omega)
          by_cases hall : D.data.toList.all isDig = true
          · have e1 : (trimD D).toList = [] := (trimD_nil D).2 hall
            have e2 : (trimD D).toList.isEmpty = true := by rw [e1]; rfl
            have hd := data_cons D hz0
            have hl2 : D.data.toList.length = D.size := size_data D
            have hne : D.data.toList.isEmpty = false := by rw [hd]; rfl
            have h2 : (decide (1 < D.data.toList.length) && D.data.toList.head? == some 48) = true := by
              simp only [numSyn, hne, hall, Bool.not_false, Bool.true_and] at hs
              simpa using hs
            simp only [Bool.and_eq_true, decide_eq_true_eq] at h2
            have h3 : D[0] = 48 := by
              have := h2.2
              rw [hd] at this
              simpa using this
            exact prs_bad4 t D w ht h0 hD hb' a2 hl hDs d1 d2 e1 e2 hz0 (by have := h2.1; omega) (by rw [h3]; rfl)
          · have e2 : (trimD D).toList.isEmpty = false := by
              cases hh : (trimD D).toList with
              | nil => exact absurd ((trimD_nil D).1 hh) hall
              | cons a r => rfl
            exact prs_bad3 t D w ht h0 hD hb' a2 hl hDs d1 d2 e2
        · have d1 : D.toList = [] := by rw [toList_nil_iff]; omega
          exact prs_bad2 t D w ht h0 hD hb' a2 hl d1 (by rw [d1]; rfl)
  · obtain rfl : t = ⟨#[]⟩ := by
      apply bytes_ext
      have : t.data.toList.length = 0 := by rw [size_data]; omega
      rw [List.length_eq_zero_iff.1 this]
    exact prs_empty w
end Go.Proofs.YtolmkdhgnganaaaDoor.H
