/-
  What printer.Print answers, in plain words; what a ladder that Check lets in is; how long its text is.
-/
import Derived.Test.YtolmkdhgnganaaaDoorChk3
import Derived.Test.YtolmkdhgnganaaaDoorKw
import Derived.Test.YtolmkdhgnganaaaDoorSpA2
set_option linter.unusedVariables false
set_option linter.unusedSimpArgs false
namespace Go.Proofs.YtolmkdhgnganaaaDoor.H
open Go Go.RowKit Go.Proofs Go.Proofs.YtolmkdhgnganaaaDoorW.PrintWords Go.Proofs.YtolmkdhgnganaaaDoor.Sp

def sizeLine (i q m : Int) : List ByteArray := [⟨#[115, 105, 122, 101]⟩, itoaS i, itoaS q, itoaS m]
def conLine (c : Con) : List ByteArray := [kwC.getD c.f0.toNat ⟨#[]⟩, addrFmt c.f1.f0 c.f1.f1, c.f2, c.f3]
def coilLine (c : Coil) : List ByteArray := [kwO.getD c.f0.toNat ⟨#[]⟩, addrFmt c.f1.f0 c.f1.f1]
def rungLine (r : Rung) : List ByteArray := [⟨#[114, 117, 110, 103]⟩, r.f0]
def jumpLine (r : Rung) : List ByteArray := [⟨#[106, 117, 109, 112]⟩, r.f3]
def jumpText (r : Rung) : List UInt8 := if r.f3.toList.isEmpty then [] else lineText (jumpLine r)
/-- The texts of the first k of a list. -/
def flatUp {α : Type} (f : α → List UInt8) (l : List α) (k : Int) : List UInt8 := ((l.take k.toNat).map f).flatten
def conText (c : Con) : List UInt8 := lineText (conLine c)
def coilText (c : Coil) : List UInt8 := lineText (coilLine c)
def rungText (r : Rung) : List UInt8 := lineText (rungLine r) ++ flatUp conText r.f1 r.f1.length ++ flatUp coilText r.f2 r.f2.length ++ jumpText r
def ladText (i q m : Int) (l : List Rung) : List UInt8 := lineText (sizeLine i q m) ++ flatUp rungText l l.length
/-- printer.Print. -/
def ladPrint (i q m : Int) (l : List Rung) : List UInt8 × Int := if (ladChk i q m l).2 = 0 then (if 65536 < (ladText i q m l).length then ([], 7) else (ladText i q m l, 0)) else ([], (ladChk i q m l).2)

theorem flatUp_zero {α : Type} (f : α → List UInt8) (l : List α) : flatUp f l 0 = [] := rfl
theorem flatUp_succ {α : Type} (f : α → List UInt8) (l : List α) (z : α) {k : Int} (h0 : 0 ≤ k) (hk : k < l.length) : flatUp f l (k + 1) = flatUp f l k ++ f (l.getD k.toNat z) := by
  have hn : k.toNat < l.length := by omega
  have e : (k + 1).toNat = k.toNat + 1 := by omega
  unfold flatUp
  have e2 : l.getD k.toNat z = l[k.toNat] := by simp [List.getD, hn]
  rw [e, e2, List.take_add_one, List.getElem?_eq_getElem hn, List.map_append, List.flatten_append]
  simp only [Option.toList_some, List.map_cons, List.map_nil, List.flatten_cons, List.flatten_nil, List.append_nil]
theorem flatUp_le {α : Type} (f : α → List UInt8) (l : List α) {k n : Int} (h : k ≤ n) : (flatUp f l k).length ≤ (flatUp f l n).length := by
  unfold flatUp
  have e : l.take k.toNat = (l.take n.toNat).take k.toNat := by rw [List.take_take]; congr 1; omega
  rw [e]
  generalize l.take n.toNat = l2
  conv => rhs; rw [← List.take_append_drop k.toNat l2]
  rw [List.map_append, List.flatten_append, List.length_append]
  omega
theorem flatUp_bound {α : Type} (f : α → List UInt8) (l : List α) (B : Nat) (h : ∀ x ∈ l, (f x).length ≤ B) (n : Int) : (flatUp f l n).length ≤ l.length * B := by
  unfold flatUp
  have h2 : ∀ l2 : List α, (∀ x ∈ l2, (f x).length ≤ B) → ((l2.map f).flatten).length ≤ l2.length * B := by
    intro l2
    induction l2 with
    | nil => intro _; simp
    | cons x xs ih =>
      intro hx
      rw [List.map_cons, List.flatten_cons, List.length_append, List.length_cons, Nat.add_mul]
      have h1 := hx x List.mem_cons_self
      have h3 := ih fun y hy => hx y (List.mem_cons_of_mem _ hy)
      omega
  refine Nat.le_trans (h2 _ fun x hx => h x (List.mem_of_mem_take hx)) ?_
  exact Nat.mul_le_mul_right _ (by rw [List.length_take]; omega)
theorem wordAt_len (ws : List ByteArray) (j : Nat) (B : Nat) (h : ∀ s ∈ ws, s.size ≤ B) : (wordAt ws j).length ≤ B + 1 := by
  have h1 : (ws.getD j ⟨#[]⟩).data.toList.length ≤ B := by
    rw [Array.length_toList]
    by_cases hj : j < ws.length
    · have : ws.getD j ⟨#[]⟩ = ws[j] := by simp [List.getD, hj]
      rw [this]; exact h _ (List.getElem_mem hj)
    · have : ws.getD j ⟨#[]⟩ = ⟨#[]⟩ := by simp [List.getD, hj]
      rw [this]; simp
  unfold wordAt
  rw [List.length_append]
  split <;> simp only [List.length_nil, List.length_cons] <;> omega
theorem upTo_len (ws : List ByteArray) (B : Nat) (h : ∀ s ∈ ws, s.size ≤ B) : ∀ n, (upTo ws n).length ≤ n * (B + 1)
  | 0 => by simp [upTo_zero]
  | n + 1 => by
    rw [upTo_succ, List.length_append, Nat.add_mul]
    have h1 := upTo_len ws B h n
    have h2 := wordAt_len ws n B h
    omega
theorem lineText_len (ws : List ByteArray) (B : Nat) (h : ∀ s ∈ ws, s.size ≤ B) : (lineText ws).length ≤ ws.length * (B + 1) + 1 := by
  unfold lineText
  rw [List.length_append]
  have := upTo_len ws B h ws.length
  simp only [List.length_cons, List.length_nil]; omega

theorem orE_both {a b : Int} (h : orE a b = 0) : a = 0 ∧ b = 0 := by
  unfold orE at h
  split at h
  · exact ⟨by assumption, h⟩
  · contradiction
theorem firstE_all {α : Type} {f : α → Int} : ∀ {l : List α}, firstE f l = 0 → ∀ x ∈ l, f x = 0
  | x :: xs, h, y, hy => by
    rw [firstE] at h
    obtain ⟨h1, h2⟩ := orE_both h
    rcases List.mem_cons.1 hy with rfl | hy
    · exact h1
    · exact firstE_all h2 y hy
structure OkCon (i q m : Int) (c : Con) : Prop where
  k0 : 0 ≤ c.f0
  k1 : c.f0 < 4
  a : chkAddr i q m c.f1.f0 c.f1.f1 = 0
  n2 : isNm c.f2.data.toList = true
  n3 : isNm c.f3.data.toList = true
structure OkCoil (i q m : Int) (c : Coil) : Prop where
  k0 : 0 ≤ c.f0
  k1 : c.f0 < 4
  a : chkAddr i q m c.f1.f0 c.f1.f1 = 0
  s : c.f1.f0 ≠ 0
structure OkRung (i q m : Int) (r : Rung) : Prop where
  lab : r.f0.toList.isEmpty = true ∨ isNm r.f0.data.toList = true
  n1 : r.f1.length ≤ 256
  cs : ∀ c ∈ r.f1, OkCon i q m c
  n2 : r.f2.length ≤ 16
  os : ∀ c ∈ r.f2, OkCoil i q m c
  jmp : r.f3.toList.isEmpty = true ∨ isNm r.f3.data.toList = true
theorem partE_ok {i q m k sp n : Int} (h : partE i q m k sp n = 0) : 0 ≤ k ∧ k < 4 ∧ chkAddr i q m sp n = 0 := by
  unfold partE at h
  split at h
  · cases h
  · exact ⟨by omega, by omega, h⟩
theorem conE_ok {i q m : Int} {c : Con} (h : conE i q m c = 0) : OkCon i q m c := by
  obtain ⟨h1, h2⟩ := orE_both h
  obtain ⟨h3, h4, h5⟩ := partE_ok h1
  have : (isNm c.f2.data.toList && isNm c.f3.data.toList) = true := by
    cases hb : (isNm c.f2.data.toList && isNm c.f3.data.toList) with
    | true => rfl
    | false => rw [hb] at h2; cases h2
  rw [Bool.and_eq_true] at this
  exact ⟨h3, h4, h5, this.1, this.2⟩
theorem coilE_ok {i q m : Int} {c : Coil} (h : coilE i q m c = 0) : OkCoil i q m c := by
  obtain ⟨h1, h2⟩ := orE_both h
  obtain ⟨h3, h4, h5⟩ := partE_ok h1
  refine ⟨h3, h4, h5, fun h0 => ?_⟩
  rw [if_pos h0] at h2; cases h2
theorem nameE_ok {L : ByteArray} (h : nameE L = 0) : L.toList.isEmpty = true ∨ isNm L.data.toList = true := by
  unfold nameE at h
  split at h
  · exact .inl (by assumption)
  · split at h
    · exact .inr (by assumption)
    · cases h
theorem labE_ok {a : List Rung} {L : ByteArray} (h : labE a L = 0) : L.toList.isEmpty = true ∨ (isNm L.data.toList = true ∧ hasLab a L = false) := by
  unfold labE at h
  split at h
  · exact .inl (by assumption)
  · split at h
    · split at h
      · cases h
      · rename_i hh; exact .inr ⟨by assumption, by simpa using hh⟩
    · cases h
theorem rungE_ok {i q m : Int} {a : List Rung} {r : Rung} (h : rungE i q m a r = 0) : OkRung i q m r := by
  obtain ⟨h1, h⟩ := orE_both h
  obtain ⟨h2, h⟩ := orE_both h
  obtain ⟨h3, h⟩ := orE_both h
  obtain ⟨h4, h⟩ := orE_both h
  obtain ⟨h5, h6⟩ := orE_both h
  refine ⟨(labE_ok h1).imp id (·.1), ?_, fun c hc => conE_ok (firstE_all h3 c hc), ?_, fun c hc => coilE_ok (firstE_all h5 c hc), nameE_ok h6⟩
  · split at h2
    · cases h2
    · omega
  · split at h4
    · cases h4
    · omega
/-- What Check lets in. -/
structure OkLad (i q m : Int) (l : List Rung) : Prop where
  sz : chkSize i q m 0 = 0
  n : l.length ≤ 64
  rg : ∀ k : Int, 0 ≤ k → k < l.length → rgAt i q m l k = 0
  jb : ∀ k : Int, 0 ≤ k → k < l.length → jbAt l k = false
theorem ladChk_okLad {i q m : Int} {l : List Rung} (h : (ladChk i q m l).2 = 0) : OkLad i q m l ∧ ladChk i q m l = ((l.length : Int), 0) := by
  by_cases h1 : chkSize i q m 0 = 0
  · by_cases h2 : 64 < l.length
    · rw [ladChk_many h1 h2] at h; cases h
    · have hz : ∀ k : Int, 0 ≤ k → k < l.length → rgAt i q m l k = 0 := by
        rw [ladChk, if_pos h1, if_neg h2] at h
        cases hf : (List.range l.length).find? (fun k => decide (rgAt i q m l (k : Nat) ≠ 0)) with
        | some k =>
          rw [hf] at h
          have hp := List.find?_some hf
          simp only [decide_eq_true_eq] at hp
          exact absurd h hp
        | none =>
          intro k k0 k1
          have := List.find?_eq_none.1 hf k.toNat (List.mem_range.2 (by omega))
          simpa [show ((k.toNat : Nat) : Int) = k by omega] using this
      have hj : ∀ k : Int, 0 ≤ k → k < l.length → jbAt l k = false := by
        rw [ladChk, if_pos h1, if_neg h2, find_none (fun j hj => decide_eq_false (by simpa using hz j (by omega) (by omega)))] at h
        simp only [] at h
        cases hf : (List.range l.length).find? (fun k => jbAt l (k : Nat)) with
        | some k => rw [hf] at h; cases h
        | none =>
          intro k k0 k1
          have := List.find?_eq_none.1 hf k.toNat (List.mem_range.2 (by omega))
          simpa [show ((k.toNat : Nat) : Int) = k by omega] using this
      exact ⟨⟨h1, by omega, hz, hj⟩, ladChk_ok h1 h2 hz hj⟩
  · rw [ladChk_size h1] at h; cases h
theorem OkLad.rung {i q m : Int} {l : List Rung} (h : OkLad i q m l) {r : Rung} (hr : r ∈ l) : OkRung i q m r := by
  obtain ⟨n, hn, rfl⟩ := List.getElem_of_mem hr
  have h1 := h.rg n (by omega) (by omega)
  have h2 : rdR l (n : Int) = l[n] := by simp [PPrinterMatchesReference.rd_T40, List.getD, hn]
  unfold rgAt at h1
  rw [h2] at h1
  exact rungE_ok h1

/-! ### how long it is -/
theorem isNm_len {l : List UInt8} (h : isNm l = true) : l.length ≤ 16 := by
  simp only [isNm, Bool.and_eq_true, decide_eq_true_eq] at h
  exact h.1.2
theorem nm_size {s : ByteArray} (h : isNm s.data.toList = true) : s.size ≤ 16 := by
  have := isNm_len h
  rwa [Array.length_toList] at this
theorem nm_or_size {s : ByteArray} (h : s.toList.isEmpty = true ∨ isNm s.data.toList = true) : s.size ≤ 16 := by
  rcases h with h | h
  · rw [toList_isEmpty] at h
    have := of_decide_eq_true h
    omega
  · exact nm_size h
theorem addr_size {i q m s n : Int} (hz : chkSize i q m 0 = 0) (h : chkAddr i q m s n = 0) : (addrFmt s n).size ≤ 16 := by
  have hv := valid_fmt i q m 0 s n hz h
  unfold addrFmt
  rw [if_neg hv]
  obtain ⟨k, rfl⟩ := Int.eq_ofNat_of_zero_le (show 0 ≤ n by omega)
  have := itoa_len k (by omega)
  rw [ByteArray.size_append]
  have : (⟨#[letterOf s]⟩ : ByteArray).size = 1 := rfl
  omega
theorem size_ok {i q m : Int} (h : chkSize i q m 0 = 0) : (0 ≤ i ∧ i ≤ 256) ∧ (0 ≤ q ∧ q ≤ 256) ∧ (0 ≤ m ∧ m ≤ 256) := by
  unfold chkSize at h
  split at h
  · rename_i hh; exact hh.2
  · cases h
theorem itoa_size {i : Int} (h : 0 ≤ i ∧ i ≤ 256) : (itoaS i).size ≤ 16 := by
  obtain ⟨k, rfl⟩ := Int.eq_ofNat_of_zero_le h.1
  have := itoa_len k (by omega)
  omega
theorem kw_size (j : Nat) : (kwC.getD j ⟨#[]⟩).size ≤ 16 ∧ (kwO.getD j ⟨#[]⟩).size ≤ 16 := by
  rcases Nat.lt_or_ge j 4 with h | h
  · match j, h with
    | 0, _ => decide
    | 1, _ => decide
    | 2, _ => decide
    | 3, _ => decide
  · have h1 : kwC.getD j ⟨#[]⟩ = ⟨#[]⟩ := by simp [List.getD, kwC, show (4 : Nat) ≤ j from h]
    have h2 : kwO.getD j ⟨#[]⟩ = ⟨#[]⟩ := by simp [List.getD, kwO, show (4 : Nat) ≤ j from h]
    rw [h1, h2]; decide
theorem sizeLine_len {i q m : Int} (h : chkSize i q m 0 = 0) : (lineText (sizeLine i q m)).length ≤ 70 := by
  obtain ⟨h1, h2, h3⟩ := size_ok h
  refine Nat.le_trans (lineText_len _ 16 ?_) (by simp [sizeLine])
  intro s hs
  simp only [sizeLine, List.mem_cons, List.not_mem_nil, or_false] at hs
  rcases hs with rfl | rfl | rfl | rfl
  · decide
  · exact itoa_size h1
  · exact itoa_size h2
  · exact itoa_size h3
theorem conText_len {i q m : Int} {c : Con} (hz : chkSize i q m 0 = 0) (h : OkCon i q m c) : (conText c).length ≤ 70 := by
  refine Nat.le_trans (lineText_len _ 16 ?_) (by simp [conLine])
  intro s hs
  simp only [conLine, List.mem_cons, List.not_mem_nil, or_false] at hs
  rcases hs with rfl | rfl | rfl | rfl
  · exact (kw_size _).1
  · exact addr_size hz h.a
  · exact nm_size h.n2
  · exact nm_size h.n3
theorem coilText_len {i q m : Int} {c : Coil} (hz : chkSize i q m 0 = 0) (h : OkCoil i q m c) : (coilText c).length ≤ 70 := by
  refine Nat.le_trans (lineText_len _ 16 ?_) (by simp [coilLine])
  intro s hs
  simp only [coilLine, List.mem_cons, List.not_mem_nil, or_false] at hs
  rcases hs with rfl | rfl
  · exact (kw_size _).2
  · exact addr_size hz h.a
theorem rungLine_len {i q m : Int} {r : Rung} (h : OkRung i q m r) : (lineText (rungLine r)).length ≤ 70 := by
  refine Nat.le_trans (lineText_len _ 16 ?_) (by simp [rungLine])
  intro s hs
  simp only [rungLine, List.mem_cons, List.not_mem_nil, or_false] at hs
  rcases hs with rfl | rfl
  · decide
  · exact nm_or_size h.lab
theorem jumpText_len {i q m : Int} {r : Rung} (h : OkRung i q m r) : (jumpText r).length ≤ 70 := by
  unfold jumpText
  split
  · simp
  · refine Nat.le_trans (lineText_len _ 16 ?_) (by simp [jumpLine])
    intro s hs
    simp only [jumpLine, List.mem_cons, List.not_mem_nil, or_false] at hs
    rcases hs with rfl | rfl
    · decide
    · exact nm_or_size h.jmp
theorem rungText_len {i q m : Int} {r : Rung} (hz : chkSize i q m 0 = 0) (h : OkRung i q m r) : (rungText r).length ≤ 20000 := by
  have h1 := rungLine_len h
  have h2 := flatUp_bound conText r.f1 70 (fun c hc => conText_len hz (h.cs c hc)) r.f1.length
  have h3 := flatUp_bound coilText r.f2 70 (fun c hc => coilText_len hz (h.os c hc)) r.f2.length
  have h4 := jumpText_len h
  have h5 := h.n1
  have h6 := h.n2
  simp only [rungText, List.length_append]
  omega
theorem ladText_len {i q m : Int} {l : List Rung} (h : OkLad i q m l) : (ladText i q m l).length ≤ 2000000 := by
  have h1 := sizeLine_len h.sz
  have h2 := flatUp_bound rungText l 20000 (fun r hr => rungText_len h.sz (h.rung hr)) l.length
  have h3 := h.n
  simp only [ladText, List.length_append]
  omega
end Go.Proofs.YtolmkdhgnganaaaDoor.H
