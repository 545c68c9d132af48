/-
  PrinterAppendRung in plain words: what Check, Print and EdgeCount answer where a rung is put behind a ladder that Print lets in.
-/
import Derived.Test.YtolmkdhgnganaaaDoorPr
import Derived.Test.YtolmkdhgnganaaaDoorSmall
set_option linter.unusedVariables false
set_option linter.unusedSimpArgs false
namespace Go.Proofs.YtolmkdhgnganaaaDoor.H
open Go Go.RowKit Go.Proofs Go.Proofs.YtolmkdhgnganaaaDoorW.PrintWords Go.Proofs.YtolmkdhgnganaaaDoor.Sp

theorem rd_app {l : List Rung} {r : Rung} {k : Int} (h1 : k.toNat < l.length) : rdR (l ++ [r]) k = rdR l k := by
  simp only [PPrinterMatchesReference.rd_T40, List.getD, List.getElem?_append_left h1]
theorem rgAt_app {i q m : Int} {l : List Rung} {r : Rung} {k : Int} (h1 : k.toNat < l.length) : rgAt i q m (l ++ [r]) k = rgAt i q m l k := by
  unfold rgAt
  rw [rd_app h1, List.take_append_of_le_length (by omega)]
theorem hasLab_app {l : List Rung} {r : Rung} {L : ByteArray} (h : hasLab l L = true) : hasLab (l ++ [r]) L = true := by
  unfold hasLab at *
  rw [List.any_append, h]; rfl
theorem jbAt_app {l : List Rung} {r : Rung} {k : Int} (h0 : 0 ≤ k) (h1 : k < l.length) (h : jbAt l k = false) : jbAt (l ++ [r]) k = false := by
  have hk : k.toNat < l.length := by omega
  unfold jbAt at *
  rw [rd_app hk, List.drop_append_of_le_length (by omega)]
  cases he : (rdR l k).f3.toList.isEmpty with
  | true => rfl
  | false =>
    rw [he] at h
    have h2 : hasLab (l.drop (k + 1).toNat) (rdR l k).f3 = true := by simpa using h
    rw [hasLab_app h2]; rfl
theorem ladChk_app {i q m : Int} {l : List Rung} (r : Rung) (h : (ladChk i q m l).2 = 0) :
    ((ladChk i q m (l ++ [r])).2 ≠ 0 ∧ 0 ≤ (ladChk i q m (l ++ [r])).1 ∧ (ladChk i q m (l ++ [r])).1 ≤ l.length) ∨ (OkLad i q m (l ++ [r]) ∧ ladChk i q m (l ++ [r]) = ((l.length : Int) + 1, 0)) := by
  obtain ⟨ok, _⟩ := ladChk_okLad h
  have hn : (l ++ [r]).length = l.length + 1 := by simp
  by_cases hc : (ladChk i q m (l ++ [r])).2 = 0
  · right
    obtain ⟨o2, e2⟩ := ladChk_okLad hc
    refine ⟨o2, ?_⟩
    rw [e2, hn]; simp
  · left
    refine ⟨hc, ?_⟩
    by_cases h2 : 64 < (l ++ [r]).length
    · rw [ladChk_many ok.sz h2]; constructor <;> simp
    · have hz : ∀ j : Int, 0 ≤ j → j < l.length → rgAt i q m (l ++ [r]) j = 0 := fun j j0 j1 => by rw [rgAt_app (by omega)]; exact ok.rg j j0 j1
      by_cases hr : rgAt i q m (l ++ [r]) l.length = 0
      · have hz' : ∀ j : Int, 0 ≤ j → j < (l ++ [r]).length → rgAt i q m (l ++ [r]) j = 0 := fun j j0 j1 => by
          by_cases hj : j < l.length
          · exact hz j j0 hj
          · obtain rfl : j = l.length := by omega
            exact hr
        have hj0 : ∀ j : Int, 0 ≤ j → j < l.length → jbAt (l ++ [r]) j = false := fun j j0 j1 => jbAt_app j0 j1 (ok.jb j j0 j1)
        cases hj : jbAt (l ++ [r]) l.length with
        | true => rw [ladChk_jump ok.sz h2 hz' (k := l.length) (by omega) (by omega) hj0 hj]; exact ⟨by simp, by simp⟩
        | false =>
          refine absurd ?_ hc
          rw [ladChk_ok ok.sz h2 hz' fun j j0 j1 => ?_]
          by_cases hj2 : j < l.length
          · exact hj0 j j0 hj2
          · obtain rfl : j = l.length := by omega
            exact hj
      · rw [ladChk_rung ok.sz h2 (k := l.length) (by omega) (by omega) hz rfl hr]; exact ⟨by simp, by simp⟩
theorem flat_app {α : Type} (f : α → List UInt8) (l : List α) (x : α) : flatUp f (l ++ [x]) ((l ++ [x]).length : Nat) = flatUp f l (l.length : Nat) ++ f x := by
  unfold flatUp
  rw [Int.toNat_natCast, Int.toNat_natCast, List.take_length, List.take_length]
  simp
theorem ladText_app (i q m : Int) (l : List Rung) (r : Rung) : ladText i q m (l ++ [r]) = ladText i q m l ++ rungText r := by
  unfold ladText
  rw [flat_app, List.append_assoc]
theorem ladPrint_ok {i q m : Int} {l : List Rung} (h : (ladPrint i q m l).2 = 0) : (ladChk i q m l).2 = 0 ∧ (ladPrint i q m l).1 = ladText i q m l := by
  unfold ladPrint at *
  by_cases h1 : (ladChk i q m l).2 = 0
  · rw [if_pos h1] at h ⊢
    by_cases h2 : 65536 < (ladText i q m l).length
    · rw [if_pos h2] at h; cases h
    · rw [if_neg h2]; exact ⟨h1, rfl⟩
  · rw [if_neg h1] at h; exact absurd h h1
theorem ladPrint_bad {i q m : Int} {l : List Rung} (h : (ladPrint i q m l).2 ≠ 0) : (ladPrint i q m l).1 = [] ∧ ((ladPrint i q m l).2 = (ladChk i q m l).2 ∧ (ladChk i q m l).2 ≠ 0 ∨ (ladPrint i q m l).2 = 7) := by
  unfold ladPrint at *
  by_cases h1 : (ladChk i q m l).2 = 0
  · rw [if_pos h1] at h ⊢
    by_cases h2 : 65536 < (ladText i q m l).length
    · rw [if_pos h2]; exact ⟨rfl, .inr rfl⟩
    · rw [if_neg h2] at h; exact absurd rfl h
  · rw [if_neg h1]; exact ⟨rfl, .inl ⟨rfl, h1⟩⟩

/-! ### edges -/
def eCnt (cs : List Con) : Nat := cs.countP fun c => decide (c.f0 = 2 ∨ c.f0 = 3)
theorem edge_con : ∀ (cs : List Con) (n : Int), 0 ≤ n → n + cs.length ≤ 9223372036854775807 → cs.foldl edgeStep n = n + eCnt cs
  | [], n, _, _ => by simp [eCnt]
  | c :: cs, n, h0, h1 => by
    rw [List.length_cons] at h1
    rw [List.foldl_cons]
    unfold edgeStep eCnt
    by_cases hc : c.f0 = 2 ∨ c.f0 = 3
    · rw [if_pos hc, List.countP_cons_of_pos (by simpa using hc), w64 (by omega) (by omega)]
      have := edge_con cs (n + 1) (by omega) (by omega)
      unfold edgeStep eCnt at this
      rw [this]; omega
    · rw [if_neg hc, List.countP_cons_of_neg (by simpa using hc)]
      have := edge_con cs n (by omega) (by omega)
      unfold edgeStep eCnt at this
      rw [this]
theorem eCnt_le (cs : List Con) : eCnt cs ≤ cs.length := List.countP_le_length
theorem edge_lad : ∀ (l : List Rung) (n : Int), (∀ r ∈ l, r.f1.length ≤ 256) → 0 ≤ n → n + l.length * 256 ≤ 9223372036854775807 →
    ∃ k : Nat, k ≤ l.length * 256 ∧ ∀ n : Int, 0 ≤ n → n + l.length * 256 ≤ 9223372036854775807 → l.foldl (fun n r => r.f1.foldl edgeStep n) n = n + k
  | [], n, _, _, _ => ⟨0, by simp, fun n _ _ => by simp⟩
  | r :: l, n, hr, h0, h1 => by
    rw [List.length_cons] at h1
    obtain ⟨k, hk, ih⟩ := edge_lad l n (fun x hx => hr x (List.mem_cons_of_mem _ hx)) h0 (by omega)
    have h2 := hr r List.mem_cons_self
    have h3 := eCnt_le r.f1
    refine ⟨eCnt r.f1 + k, by rw [List.length_cons]; omega, fun n h0 h1 => ?_⟩
    rw [List.length_cons] at h1
    rw [List.foldl_cons, edge_con _ _ h0 (by omega), ih _ (by omega) (by omega)]
    omega
theorem edgeN_app {i q m : Int} {l : List Rung} {r : Rung} (h : OkLad i q m (l ++ [r])) : edgeN (l ++ [r]) = wrap64 (edgeN l + edgeN [r]) := by
  have hn := h.n
  rw [List.length_append, List.length_singleton] at hn
  have h1 : r.f1.length ≤ 256 := (h.rung (r := r) (by simp)).n1
  have h3 := eCnt_le r.f1
  obtain ⟨k, hk, e⟩ := edge_lad l 0 (fun x hx => (h.rung (r := x) (by simp [hx])).n1) (by omega) (by omega)
  have e0 := e 0 (by omega) (by omega)
  have e1 := edge_con r.f1 0 (by omega) (by omega)
  have e2 := edge_con r.f1 (0 + k) (by omega) (by omega)
  unfold edgeN
  rw [List.foldl_append, e0]
  simp only [List.foldl_cons, List.foldl_nil]
  rw [e1, e2, w64 (by omega) (by omega)]
  omega
/-- The law. -/
theorem app_law {i q m : Int} {l : List Rung} (r : Rung) (h : (ladPrint i q m l).2 = 0) :
    ((ladPrint i q m (l ++ [r])).2 ≠ 0 → (ladPrint i q m (l ++ [r])).1 = [] ∧ ((ladChk i q m (l ++ [r])).2 = (ladPrint i q m (l ++ [r])).2 ∧ 0 ≤ (ladChk i q m (l ++ [r])).1 ∧ (ladChk i q m (l ++ [r])).1 ≤ l.length ∨ (ladPrint i q m (l ++ [r])).2 = 7)) ∧
    ((ladPrint i q m (l ++ [r])).2 = 0 → (ladChk i q m (l ++ [r])).2 = 0 ∧ (ladChk i q m (l ++ [r])).1 = l.length + 1 ∧ (ladPrint i q m l).1 <+: (ladPrint i q m (l ++ [r])).1 ∧ edgeN (l ++ [r]) = wrap64 (edgeN l + edgeN [r])) := by
  obtain ⟨h1, h2⟩ := ladPrint_ok h
  refine ⟨fun hp => ?_, fun hp => ?_⟩
  · obtain ⟨e1, e2⟩ := ladPrint_bad hp
    refine ⟨e1, e2.imp (fun ⟨e2, e3⟩ => ?_) id⟩
    rcases ladChk_app r h1 with ⟨_, a, b⟩ | ⟨_, a⟩
    · exact ⟨e2.symm, a, b⟩
    · exact absurd (by rw [a]) e3
  · obtain ⟨e1, e2⟩ := ladPrint_ok hp
    rcases ladChk_app r h1 with ⟨a, _⟩ | ⟨a, b⟩
    · exact absurd e1 a
    · refine ⟨e1, by rw [b], ?_, edgeN_app a⟩
      rw [h2, e2, ladText_app]
      exact List.prefix_append _ _
end Go.Proofs.YtolmkdhgnganaaaDoor.H
