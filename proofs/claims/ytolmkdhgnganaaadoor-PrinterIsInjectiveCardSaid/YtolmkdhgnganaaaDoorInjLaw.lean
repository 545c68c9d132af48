/-
  PrinterIsInjective in plain words: a ladder that Print lets in and one that differs from it in one part have different texts and are not equal.
-/
import Derived.Test.YtolmkdhgnganaaaDoorAppLaw
import Derived.Test.YtolmkdhgnganaaaDoorEq2
set_option linter.unusedVariables false
set_option linter.unusedSimpArgs false
namespace Go.Proofs.YtolmkdhgnganaaaDoor.H
open Go Go.RowKit Go.Proofs Go.Proofs.YtolmkdhgnganaaaDoorW.PrintWords Go.Proofs.YtolmkdhgnganaaaDoor.Sp

theorem flatUp_full {α : Type} (f : α → List UInt8) (l : List α) : flatUp f l (l.length : Nat) = (l.map f).flatten := by
  unfold flatUp
  rw [Int.toNat_natCast, List.take_length]
theorem set_cancel {α : Type} (f : α → List UInt8) {l : List α} {j : Nat} (hj : j < l.length) (x : α) (h : ((l.set j x).map f).flatten = (l.map f).flatten) : f x = f l[j] := by
  have hl : l.map f = (l.take j).map f ++ f l[j] :: (l.drop (j + 1)).map f := by
    rw [← List.map_cons, ← List.map_append, List.getElem_cons_drop, List.take_append_drop]
  rw [List.set_eq_take_append_cons_drop, if_pos hj, List.map_append, List.map_cons, hl, List.flatten_append, List.flatten_append, List.flatten_cons, List.flatten_cons] at h
  exact List.append_cancel_right (List.append_cancel_left h)
def ln_sp (b : ByteArray) : List UInt8 := if b.toList.isEmpty then [] else [32]
theorem ln2 (a b : ByteArray) : lineText [a, b] = a.data.toList ++ (ln_sp b ++ b.data.toList ++ [10]) := by
  simp [lineText, upTo, wordAt, List.range_succ, ln_sp]
theorem ln4 (a b c d : ByteArray) : lineText [a, b, c, d] = a.data.toList ++ (ln_sp b ++ b.data.toList ++ ln_sp c ++ c.data.toList ++ (ln_sp d ++ d.data.toList ++ [10])) := by
  simp [lineText, upTo, wordAt, List.range_succ, ln_sp]
theorem ln_sp_pos {b : ByteArray} (h : 0 < b.size) : ln_sp b = [32] := by
  unfold ln_sp
  rw [toList_isEmpty, decide_eq_false (by omega)]; rfl
theorem kwC_inj {a b : Int} (a0 : 0 ≤ a) (a1 : a < 4) (b0 : 0 ≤ b) (b1 : b < 4) (h : (kwC.getD a.toNat ⟨#[]⟩).data.toList = (kwC.getD b.toNat ⟨#[]⟩).data.toList) : a = b := by
  have ha : a = 0 ∨ a = 1 ∨ a = 2 ∨ a = 3 := by omega
  have hb : b = 0 ∨ b = 1 ∨ b = 2 ∨ b = 3 := by omega
  rcases ha with rfl | rfl | rfl | rfl <;> rcases hb with rfl | rfl | rfl | rfl <;> first | rfl | (exact absurd h (by decide))
theorem kwO_inj {a b : Int} (a0 : 0 ≤ a) (a1 : a < 4) (b0 : 0 ≤ b) (b1 : b < 4) (h : (kwO.getD a.toNat ⟨#[]⟩).data.toList = (kwO.getD b.toNat ⟨#[]⟩).data.toList) : a = b := by
  have ha : a = 0 ∨ a = 1 ∨ a = 2 ∨ a = 3 := by omega
  have hb : b = 0 ∨ b = 1 ∨ b = 2 ∨ b = 3 := by omega
  rcases ha with rfl | rfl | rfl | rfl <;> rcases hb with rfl | rfl | rfl | rfl <;> first | rfl | (exact absurd h (by decide))
theorem itoa_inj {a b : Int} (a0 : 0 ≤ a) (b0 : 0 ≤ b) (h : itoaS a = itoaS b) : a = b := by
  obtain ⟨n, rfl⟩ := Int.eq_ofNat_of_zero_le a0
  obtain ⟨k, rfl⟩ := Int.eq_ofNat_of_zero_le b0
  have h2 : Lib.decDigits n = Lib.decDigits k := by rw [← itoa_data, ← itoa_data, h]
  have h3 := (num_of_dec n).2
  rw [h2, (num_of_dec k).2] at h3
  omega

theorem itoa_some {a : Int} (a0 : 0 ≤ a) : 0 < (itoaS a).size := by
  obtain ⟨n, rfl⟩ := Int.eq_ofNat_of_zero_le a0
  obtain ⟨h, _⟩ := (numSyn_iff _).1 (num_of_dec n).1
  have h2 := itoa_data n
  rcases Nat.eq_zero_or_pos (itoaS (n : Int)).size with h0 | h0
  · have : (itoaS (n : Int)).data.size = 0 := h0
    rw [Array.eq_empty_of_size_eq_zero this] at h2
    exact absurd h2.symm h
  · exact h0
/-- One part is another one: of a contact its kind, or its end; of a coil its kind; of the ladder the number of its inputs, or a rung behind the last. -/
inductive Chg (i : Int) (l : List Rung) : Int → List Rung → Prop
  | kind {x : Rung} {c : Con} {j k : Nat} {y : Int} (hj : l[j]? = some x) (hk : x.f1[k]? = some c) (y0 : 0 ≤ y) (y1 : y < 4) (hy : y ≠ c.f0) : Chg i l i (l.set j ⟨x.f0, x.f1.set k ⟨y, c.f1, c.f2, c.f3⟩, x.f2, x.f3⟩)
  | dest {x : Rung} {c : Con} {j k : Nat} {d : ByteArray} (hj : l[j]? = some x) (hk : x.f1[k]? = some c) (hd : 0 < d.size) (hne : c.f3 ≠ d) : Chg i l i (l.set j ⟨x.f0, x.f1.set k ⟨c.f0, c.f1, c.f2, d⟩, x.f2, x.f3⟩)
  | coil {x : Rung} {c : Coil} {j k : Nat} {y : Int} (hj : l[j]? = some x) (hk : x.f2[k]? = some c) (y0 : 0 ≤ y) (y1 : y < 4) (hy : y ≠ c.f0) : Chg i l i (l.set j ⟨x.f0, x.f1, x.f2.set k ⟨y, c.f1⟩, x.f3⟩)
  | inputs {y : Int} (y0 : 0 ≤ y) (hy : y ≠ i) : Chg i l y l
  | rung (x : Rung) : Chg i l i (l ++ [x])

theorem eqL_set {α : Type} {e : α → α → Bool} {l : List α} {j : Nat} {x x' : α} (hj : l[j]? = some x) (h : e x x' = false) : eqL e l (l.set j x') = false := by
  obtain ⟨hl, hx⟩ := List.getElem?_eq_some_iff.1 hj
  refine eqL_at (z := x) (k := (j : Int)) (by omega) (by omega) (by rw [List.length_set]) ?_
  rw [Int.toNat_natCast, List.getD, List.getD, hj, List.getElem?_set_self hl]
  exact h
theorem text_set {i q m : Int} {l : List Rung} {j : Nat} {x x' : Rung} (hj : l[j]? = some x) (h : ladText i q m (l.set j x') = ladText i q m l) : rungText x' = rungText x := by
  obtain ⟨hl, rfl⟩ := List.getElem?_eq_some_iff.1 hj
  unfold ladText at h
  rw [flatUp_full, flatUp_full] at h
  exact set_cancel rungText hl x' (List.append_cancel_left h)
theorem rung_con {x : Rung} {cs : List Con} (h : rungText ⟨x.f0, cs, x.f2, x.f3⟩ = rungText x) : (cs.map conText).flatten = (x.f1.map conText).flatten := by
  unfold rungText at h
  rw [flatUp_full conText, flatUp_full conText] at h
  exact List.append_cancel_left (List.append_cancel_right (List.append_cancel_right h))
theorem rung_coil {x : Rung} {cs : List Coil} (h : rungText ⟨x.f0, x.f1, cs, x.f3⟩ = rungText x) : (cs.map coilText).flatten = (x.f2.map coilText).flatten := by
  unfold rungText at h
  rw [flatUp_full coilText, flatUp_full coilText] at h
  exact List.append_cancel_left (List.append_cancel_right h)
theorem con_set {x : Rung} {c c' : Con} {k : Nat} (hk : x.f1[k]? = some c) (h : rungText ⟨x.f0, x.f1.set k c', x.f2, x.f3⟩ = rungText x) : conText c' = conText c := by
  obtain ⟨hl, rfl⟩ := List.getElem?_eq_some_iff.1 hk
  exact set_cancel conText hl c' (rung_con h)
theorem coil_set {x : Rung} {c c' : Coil} {k : Nat} (hk : x.f2[k]? = some c) (h : rungText ⟨x.f0, x.f1, x.f2.set k c', x.f3⟩ = rungText x) : coilText c' = coilText c := by
  obtain ⟨hl, rfl⟩ := List.getElem?_eq_some_iff.1 hk
  exact set_cancel coilText hl c' (rung_coil h)
theorem beq_ne {a b : Int} (h : b ≠ a) : (a == b) = false := by simpa using fun e => h e.symm
/-- The law. -/
theorem inj_law {i q m : Int} {l : List Rung} (h : (ladPrint i q m l).2 = 0) {i' : Int} {l' : List Rung} (hc : Chg i l i' l') :
    ladEq i q m l i' q m l' = false ∧ ((ladPrint i' q m l').2 = 0 → (ladPrint i' q m l').1 ≠ (ladPrint i q m l).1) := by
  obtain ⟨h1, h2⟩ := ladPrint_ok h
  obtain ⟨ok, _⟩ := ladChk_okLad h1
  rw [h2]
  have same : ∀ {P : Prop}, (ladText i' q m l' = ladText i q m l → False) → ((ladPrint i' q m l').2 = 0 → (ladPrint i' q m l').1 ≠ ladText i q m l) := fun {P} hf hp he => hf (by rw [← (ladPrint_ok hp).2]; exact he)
  cases hc with
  | @kind x c j k y hj hk y0 y1 hy =>
    obtain ⟨okc⟩ : Nonempty (OkCon i q m c) := ⟨(ok.rung (List.mem_of_getElem? hj)).cs c (List.mem_of_getElem? hk)⟩
    refine ⟨?_, same (P := True) fun he => ?_⟩
    · have : rungEq x ⟨x.f0, x.f1.set k ⟨y, c.f1, c.f2, c.f3⟩, x.f2, x.f3⟩ = false := by
        unfold rungEq
        rw [eqL_set hk (by simp only [conEq, beq_ne hy, Bool.false_and])]
        simp
      rw [ladEq, eqL_set hj this, Bool.and_false]
    · have he2 := con_set hk (text_set hj he)
      unfold conText conLine at he2
      rw [ln4, ln4] at he2
      exact hy (kwC_inj y0 y1 okc.k0 okc.k1 (List.append_cancel_right he2))
  | @dest x c j k d hj hk hd hne =>
    obtain ⟨okc⟩ : Nonempty (OkCon i q m c) := ⟨(ok.rung (List.mem_of_getElem? hj)).cs c (List.mem_of_getElem? hk)⟩
    refine ⟨?_, same (P := True) fun he => ?_⟩
    · have : rungEq x ⟨x.f0, x.f1.set k ⟨c.f0, c.f1, c.f2, d⟩, x.f2, x.f3⟩ = false := by
        unfold rungEq
        rw [eqL_set hk (by simp only [conEq, seq_dec, decide_eq_false hne, Bool.and_false])]
        simp
      rw [ladEq, eqL_set hj this, Bool.and_false]
    · have he2 := con_set hk (text_set hj he)
      unfold conText conLine at he2
      rw [ln4, ln4] at he2
      have hp : 0 < c.f3.size := by
        have h3 := okc.n3
        rcases Nat.eq_zero_or_pos c.f3.size with h0 | h0
        · have : c.f3.data.size = 0 := h0
          rw [Array.eq_empty_of_size_eq_zero this] at h3
          exact absurd h3 (by decide)
        · exact h0
      rw [ln_sp_pos hp, ln_sp_pos hd] at he2
      have he3 := List.append_cancel_right (List.append_cancel_left (List.append_cancel_left he2))
      exact hne (bytes_ext (by simpa using (List.append_cancel_left he3).symm))
  | @coil x c j k y hj hk y0 y1 hy =>
    obtain ⟨okc⟩ : Nonempty (OkCoil i q m c) := ⟨(ok.rung (List.mem_of_getElem? hj)).os c (List.mem_of_getElem? hk)⟩
    refine ⟨?_, same (P := True) fun he => ?_⟩
    · have : rungEq x ⟨x.f0, x.f1, x.f2.set k ⟨y, c.f1⟩, x.f3⟩ = false := by
        unfold rungEq
        rw [eqL_set hk (by simp only [coilEq, beq_ne hy, Bool.false_and])]
        simp
      rw [ladEq, eqL_set hj this, Bool.and_false]
    · have he2 := coil_set hk (text_set hj he)
      unfold coilText coilLine at he2
      rw [ln2, ln2] at he2
      exact hy (kwO_inj y0 y1 okc.k0 okc.k1 (List.append_cancel_right he2))
  | @inputs y y0 hy =>
    have hz := ok.sz
    refine ⟨by rw [ladEq, szEq, beq_ne hy]; rfl, same (P := True) fun he => ?_⟩
    have hi : 0 ≤ i := (size_ok hz).1.1
    unfold ladText at he
    have he2 := List.append_cancel_right he
    unfold sizeLine at he2
    rw [ln4, ln4] at he2
    have he3 := List.append_cancel_right (List.append_cancel_right (List.append_cancel_right (List.append_cancel_left he2)))
    rw [ln_sp_pos (itoa_some y0), ln_sp_pos (itoa_some hi)] at he3
    exact hy (itoa_inj y0 hi (bytes_ext (by simpa using List.append_cancel_left he3)))
  | rung x =>
    refine ⟨?_, same (P := True) fun he => ?_⟩
    · rw [ladEq, eqL_len (by simp), Bool.and_false]
    · rw [ladText_app] at he
      have hl := congrArg List.length he
      have : 0 < (rungText x).length := by
        unfold rungText lineText
        simp only [List.length_append, List.length_cons, List.length_nil]
        omega
      rw [List.length_append] at hl
      omega
end Go.Proofs.YtolmkdhgnganaaaDoor.H
