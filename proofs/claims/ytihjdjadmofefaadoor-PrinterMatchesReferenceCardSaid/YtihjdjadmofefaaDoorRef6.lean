/-
  The reference's keywords, Print and EdgeCount answer what the program's plain functions answer.
-/
import Derived.Test.YtihjdjadmofefaaDoorRef5
import Derived.Test.YtihjdjadmofefaaDoorPrint
import Derived.Test.YtihjdjadmofefaaDoorWLast
import Derived.Test.YtihjdjadmofefaaDoorWMore
set_option linter.unusedVariables false
set_option linter.unusedSimpArgs false
namespace Go.Proofs.YtihjdjadmofefaaDoor.H
open Go Go.RowKit Go.Proofs Go.Proofs.YtihjdjadmofefaaDoorW.PrintWords Go.Proofs.YtihjdjadmofefaaDoor.Sp

theorem conKw9_b (w : World) : Calls Tryd.prog 40 #[] w (KwB w kwC) := by
  have K := blk_new w (.cells #[.string ⟨#[110, 111]⟩, .string ⟨#[110, 99]⟩, .string ⟨#[117, 112]⟩, .string ⟨#[100, 111, 119, 110]⟩] 9)
  have FB := below_alloc (Below.refl w.heap.size w) (.cells #[.string ⟨#[110, 111]⟩, .string ⟨#[110, 99]⟩, .string ⟨#[117, 112]⟩, .string ⟨#[100, 111, 119, 110]⟩] 9)
  go_enter Tryd.func40, Tryd.ntmps40
  go_wp2
  go_ret
  refine ⟨w.heap.size, 4, rfl, ⟨Nat.le_refl _, Nat.le_refl _, _, K, fun j hj => ?_⟩, FB⟩
  match j, hj with
  | 0, _ => rfl
  | 1, _ => rfl
  | 2, _ => rfl
  | 3, _ => rfl
theorem coilKw9_b (w : World) : Calls Tryd.prog 42 #[] w (KwB w kwO) := by
  have K := blk_new w (.cells #[.string ⟨#[111, 117, 116]⟩, .string ⟨#[110, 111, 116]⟩, .string ⟨#[115, 101, 116]⟩, .string ⟨#[114, 101, 115, 101, 116]⟩] 9)
  have FB := below_alloc (Below.refl w.heap.size w) (.cells #[.string ⟨#[111, 117, 116]⟩, .string ⟨#[110, 111, 116]⟩, .string ⟨#[115, 101, 116]⟩, .string ⟨#[114, 101, 115, 101, 116]⟩] 9)
  go_enter Tryd.func42, Tryd.ntmps42
  go_wp2
  go_ret
  refine ⟨w.heap.size, 4, rfl, ⟨Nat.le_refl _, Nat.le_refl _, _, K, fun j hj => ?_⟩, FB⟩
  match j, hj with
  | 0, _ => rfl
  | 1, _ => rfl
  | 2, _ => rfl
  | 3, _ => rfl

def spB (b : ByteArray) : List UInt8 := if b.toList.isEmpty then [] else [32]
theorem line2 (a b : ByteArray) : lineText [a, b] = a.data.toList ++ spB b ++ b.data.toList ++ [10] := by
  simp [lineText, upTo, wordAt, List.range_succ, spB]
theorem line4 (a b c d : ByteArray) : lineText [a, b, c, d] = a.data.toList ++ spB b ++ b.data.toList ++ spB c ++ c.data.toList ++ spB d ++ d.data.toList ++ [10] := by
  simp [lineText, upTo, wordAt, List.range_succ, spB]
theorem spB_pos {b : ByteArray} (h : 0 < b.size) : spB b = [32] := by
  unfold spB
  rw [toList_isEmpty, decide_eq_false (by omega)]; rfl
theorem itoa_pos {i : Int} (h : 0 ≤ i ∧ i ≤ 256) : 0 < (itoaS i).size := by
  have hd : ∀ n : Fin 257, 0 < (itoaS (n.val : Int)).size := by decide +kernel
  have := hd ⟨i.toNat, by omega⟩
  simpa only [show ((i.toNat : Nat) : Int) = i by omega] using this
theorem addr_pos {i q m s n : Int} (hz : chkSize i q m 0 = 0) (h : chkAddr i q m s n = 0) : 0 < (addrFmt s n).size := by
  have hv := valid_fmt i q m 0 s n hz h
  unfold addrFmt
  rw [if_neg hv, ByteArray.size_append]
  have : (⟨#[letterOf s]⟩ : ByteArray).size = 1 := rfl
  omega
theorem nm_pos {s : ByteArray} (h : isNm s.data.toList = true) : 0 < s.size := by
  simp only [isNm, Bool.and_eq_true, decide_eq_true_eq, Array.length_toList] at h
  exact h.1.1

open Go.Proofs.YtihjdjadmofefaaDoorW.PrintLast Go.Proofs.YtihjdjadmofefaaDoorW.PrintMore
/-- Behind a call the facts that are held may be more. -/
theorem stronger_ {P : Program} {md : Region.Mode} {ops : Array Oper} {Q : Exit → Act → World → Prop} {S S2 : World → Prop} (himp : ∀ x, S2 x → S x) : ∀ (fuel : Nat) (l : Array Bool) (a : Act) (w : World), S2 w → wpAnyLast P md ops Q S2 [] fuel l a w → wpAnyLast P md ops Q S [] fuel l a w
  | 0, _, _, _, _, h => h
  | fuel + 1, _, _, _, hS, h => ⟨h.1, fun i hi => wpOp_mono (fun a' w' h' => ⟨fun _ _ => himp _ (h'.1 (by simp) hS), stronger_ himp fuel _ a' w' (h'.1 (by simp) hS) h'.2⟩) (h.2 i hi)⟩
theorem stronger {P : Program} {md : Region.Mode} {ops : Array Oper} {Q : Exit → Act → World → Prop} {S : World → Prop} {fuel : Nat} {l : Array Bool} {a : Act} {w : World} (S2 : World → Prop) (himp : ∀ x, S2 x → S x) (hS : S2 w) (h : S2 w → wpAnyLast P md ops Q S2 [] fuel l a w) : wpAnyLast P md ops Q S [] fuel l a w :=
  stronger_ himp fuel l a w hS (h hS)
structure LRF (w : World) (i q m : Int) (A : Option Addr) (n c gr : Nat) (r : Rung) (A1 : Option Addr) (c1 : Nat) (A2 : Option Addr) (c2 : Nat) (wr : World) : Prop where
  f : LadB w i q m A n c wr
  kr : wr.heap[gr]? = some (.cells #[.string r.f0, .slice A1 r.f1.length c1, .slice A2 r.f2.length c2, .string r.f3] 40 (0, 0))
theorem LRF.below {w : World} {i q m : Int} {A : Option Addr} {n c gr : Nat} {r : Rung} {A1 : Option Addr} {c1 : Nat} {A2 : Option Addr} {c2 : Nat} {wr w1 : World} (h : LRF w i q m A n c gr r A1 c1 A2 c2 wr) (hb : Below wr.heap.size wr w1) : LRF w i q m A n c gr r A1 c1 A2 c2 w1 := ⟨h.f.below hb, blk_below h.kr hb⟩
theorem LRF.cells {w : World} {i q m : Int} {A : Option Addr} {n c gr : Nat} {r : Rung} {A1 : Option Addr} {c1 : Nat} {A2 : Option Addr} {c2 : Nat} {wr : World} (h : LRF w i q m A n c gr r A1 c1 A2 c2 wr) :
    wr.cell? ⟨gr, 0, none⟩ = some (.string r.f0) ∧ wr.cell? ⟨gr, 1, none⟩ = some (.slice A1 r.f1.length c1) ∧ wr.cell? ⟨gr, 2, none⟩ = some (.slice A2 r.f2.length c2) ∧ wr.cell? ⟨gr, 3, none⟩ = some (.string r.f3) :=
  ⟨blk_cell h.kr 0, blk_cell h.kr 1, blk_cell h.kr 2, blk_cell h.kr 3⟩
set_option maxHeartbeats 4000000 in
set_option maxRecDepth 100000 in
theorem print9_ok (i q m : Int) (A : Option Addr) (c : Nat) (l : List Rung) (w : World) (hr : Kd.C kRung w A l.length l) (hc : l.length ≤ c) (he : (ladChk i q m l).2 = 0) :
    Calls Tryd.prog 14 #[.agg #[.int .i64 i, .int .i64 q, .int .i64 m, .slice A l.length c]] w (RetB w (.tuple #[.string ⟨(ladPrint i q m l).1.toArray⟩, .int .i64 (ladPrint i q m l).2])) := by
  generalize hV : ladPrint i q m l = V
  have HV := Aside0.mk hV
  clear hV
  have C1 := ladChk9_b i q m A c l (w.alloc (.cells #[.int .i64 i, .int .i64 q, .int .i64 m, .slice A l.length c] 24)) (Kd.C_alloc hr _) hc
  have hmax := Kd.C_max hr
  have GR := Aside0.mk hr
  clear hr
  obtain ⟨ok, hchk⟩ := ladChk_okLad he
  have hn := ladText_len ok
  have hV2 : V = if 65536 < (ladText i q m l).length then ([], 7) else (ladText i q m l, 0) := by rw [← HV.out, ladPrint, if_pos he]
  have HV2 := Aside0.mk hV2
  have HO := Aside0.mk ok
  have HN := Aside0.mk hn
  rw [hchk] at C1
  clear HV hV2 he hchk
  have F0 : Aside0 (LadB w i q m A l.length c (w.alloc (.cells #[.int .i64 i, .int .i64 q, .int .i64 m, .slice A l.length c] 24))) := ⟨⟨below_alloc (Below.refl _ _) _, blk_new _ _⟩⟩
  have hz := size_ok ok.sz
  have s1 := itoa_size hz.1
  have s2 := itoa_size hz.2.1
  have s3 := itoa_size hz.2.2
  have HDi := Aside0.mk (fun W => dec9_b i (by omega) (by omega) W)
  have HDq := Aside0.mk (fun W => dec9_b q (by omega) (by omega) W)
  have HDm := Aside0.mk (fun W => dec9_b m (by omega) (by omega) W)
  have hst : lineText (sizeLine i q m) = [115, 105, 122, 101, 32] ++ (itoaS i).data.toList ++ [32] ++ (itoaS q).data.toList ++ [32] ++ (itoaS m).data.toList ++ [10] := by
    rw [sizeLine, line4, spB_pos (itoa_pos hz.1), spB_pos (itoa_pos hz.2.1), spB_pos (itoa_pos hz.2.2)]
    simp
  go_enter Tryd.func14, Tryd.ntmps14
  go_wp2_with fail
  refine C1.mono ?_
  rintro e0 w1 ⟨rfl, hb1⟩
  have HF := Aside0.mk (F0.out.below hb1)
  clear C1 hb1 F0 ok hn
  have HST := Aside0.mk hst
  clear hst
  have l0 := blk_cell HF.out.k1 0
  have l1 := blk_cell HF.out.k1 1
  have l2 := blk_cell HF.out.k1 2
  have l3 := blk_cell HF.out.k1 3
  go_wp2
  generalize itoaS i = di at *
  generalize itoaS q = dq at *
  generalize itoaS m = dm at *
  have z1 : (⟨#[115, 105, 122, 101, 32]⟩ : ByteArray).size = 5 := rfl
  have z2 : (⟨#[32]⟩ : ByteArray).size = 1 := rfl
  have z3 : (⟨#[10]⟩ : ByteArray).size = 1 := rfl
  have f1 : (9223372036854775807 < 5 + di.size) = False := eq_false (by omega)
  have f2 : (9223372036854775807 < 5 + di.size + 1) = False := eq_false (by omega)
  have f3 : (9223372036854775807 < 5 + di.size + 1 + dq.size) = False := eq_false (by omega)
  have f4 : (9223372036854775807 < 5 + di.size + 1 + dq.size + 1) = False := eq_false (by omega)
  have f5 : (9223372036854775807 < 5 + di.size + 1 + dq.size + 1 + dm.size) = False := eq_false (by omega)
  have f6 : (9223372036854775807 < 5 + di.size + 1 + dq.size + 1 + dm.size + 1) = False := eq_false (by omega)
  clear z1 z2 z3 s1 s2 s3 hz
  have HFd := Aside0.mk (HF.out.below (below_drew (Below.refl w1.heap.size w1)))
  go_region_held3 (fun w' => w'.cell? ⟨w.heap.size, 0, none⟩ = some (.int .i64 i) ∧ w'.cell? ⟨w.heap.size, 1, none⟩ = some (.int .i64 q) ∧ w'.cell? ⟨w.heap.size, 2, none⟩ = some (.int .i64 m))
    (first | go_keep | (refine ⟨pw_cell_below hb ?_, pw_cell_below hb ?_, pw_cell_below hb ?_⟩ <;> go_keep))
    (first | (go_at_call 39; (first | (with_reducible refine (HDi.out _).mono ?_) | (with_reducible refine (HDq.out _).mono ?_) | (with_reducible refine (HDm.out _).mono ?_)); rintro e_ w1 ⟨rfl, hb⟩; have HFd := Aside0.mk (HFd.out.below hb)))
  have HT0 : Aside0 (((⟨#[115, 105, 122, 101, 32]⟩ : ByteArray) ++ di ++ ⟨#[32]⟩ ++ dq ++ ⟨#[32]⟩ ++ dm ++ ⟨#[10]⟩).data.toList = lineText (sizeLine i q m) ++ flatUp rungText l 0) := ⟨by rw [flatUp_zero, List.append_nil, HST.out]; simp only [ByteArray.data_append, Array.toList_append]⟩
  have hT0 : ((⟨#[115, 105, 122, 101, 32]⟩ : ByteArray) ++ di ++ ⟨#[32]⟩ ++ dq ++ ⟨#[32]⟩ ++ dm ++ ⟨#[10]⟩).size ≤ 2000000 := by
    have e : ((⟨#[115, 105, 122, 101, 32]⟩ : ByteArray) ++ di ++ ⟨#[32]⟩ ++ dq ++ ⟨#[32]⟩ ++ dm ++ ⟨#[10]⟩).size = ((⟨#[115, 105, 122, 101, 32]⟩ : ByteArray) ++ di ++ ⟨#[32]⟩ ++ dq ++ ⟨#[32]⟩ ++ dm ++ ⟨#[10]⟩).data.toList.length := by rw [Array.length_toList]; rfl
    rw [e, HT0.out, flatUp_zero, List.append_nil]
    have := sizeLine_len HO.out.sz
    omega
  generalize ((⟨#[115, 105, 122, 101, 32]⟩ : ByteArray) ++ di ++ ⟨#[32]⟩ ++ dq ++ ⟨#[32]⟩ ++ dm ++ ⟨#[10]⟩) = T0 at HT0 hT0 ⊢
  go_wp2
  clear f1 f2 f3 f4 f5 f6 l0 l1 l2 l3 HDi HDq HDm HST HF
  go_loopw [6, 7] (fun v6 cv w' => ∃ (T : ByteArray) (k : Int), v6 = .string T ∧ cv = .int .i64 k ∧ 0 ≤ k ∧ k ≤ l.length ∧ T.size ≤ 2000000 ∧ Aside0 (LadB w i q m A l.length c w') ∧ Aside0 (T.data.toList = lineText (sizeLine i q m) ++ flatUp rungText l k)) (fun _ cv _ => l.length - (intOf cv).toNat)
  case atStart => exact ⟨_, 0, rfl, rfl, by omega, by omega, hT0, HFd, HT0⟩
  case round =>
    clear HFd HT0 hT0
    obtain ⟨T, k, rfl, rfl, b0, b1, hT, HF, HT⟩ := hrel
    have l0 := blk_cell HF.out.k1 0
    have l1 := blk_cell HF.out.k1 1
    have l2 := blk_cell HF.out.k1 2
    have l3 := blk_cell HF.out.k1 3
    by_cases hk : k < l.length
    · obtain ⟨ad, A1, c1, A2, c2, hAd, x0, x1, x2, x3, hl1, hi1, hl2, hi2⟩ := PPrinterMatchesReference.at_T40 GR.out k b0 hk
      subst hAd
      replace x0 := pw_cell_below HF.out.b x0
      replace x1 := pw_cell_below HF.out.b x1
      replace x2 := pw_cell_below HF.out.b x2
      replace x3 := pw_cell_below HF.out.b x3
      have hwr : wrap64 (k + 1) = k + 1 := w64 (by omega) (by omega)
      have ht := flatUp_succ rungText l PPrinterMatchesReference.z40 b0 hk
      have hok : OkRung i q m (PPrinterMatchesReference.rd_T40 l k) := HO.out.rung (rdR_mem b0 hk)
      have e0 : l.getD k.toNat PPrinterMatchesReference.z40 = PPrinterMatchesReference.rd_T40 l k := rfl
      rw [e0] at ht
      clear e0
      have hlen : (lineText (sizeLine i q m) ++ flatUp rungText l k ++ rungText (PPrinterMatchesReference.rd_T40 l k)).length ≤ 2000000 := by
        have h1 := flatUp_le rungText l (show k + 1 ≤ (l.length : Int) by omega)
        have h2 := HN.out
        rw [ht, List.length_append] at h1
        simp only [ladText, List.length_append] at h2 ⊢
        omega
      have HTk : Aside0 (lineText (sizeLine i q m) ++ flatUp rungText l k ++ rungText (PPrinterMatchesReference.rd_T40 l k) = lineText (sizeLine i q m) ++ flatUp rungText l (k + 1)) := ⟨by rw [ht, List.append_assoc]⟩
      clear ht
      generalize PPrinterMatchesReference.rd_T40 l k = r at *
      generalize lineText (sizeLine i q m) ++ flatUp rungText l k = Bl at *
      have HLen := Aside0.mk hlen
      have HOk := Aside0.mk hok
      have G1 := Aside0.mk hi1
      have G2 := Aside0.mk hi2
      have hm1 := hok.n1
      have hm2 := hok.n2
      have pl := nm_or_size hok.lab
      clear hlen hok hi1 hi2 hl1 hl2
      have HG : Aside0 (LRF w i q m (some ad) l.length c wr.heap.size r A1 c1 A2 c2 (wr.alloc (.cells #[.string r.f0, .slice A1 r.f1.length c1, .slice A2 r.f2.length c2, .string r.f3] 40))) := ⟨⟨HF.out.alloc _, blk_new _ _⟩⟩
      by_cases hlb : r.f0.toList = []
      · have hlb2 : r.f0.toList.isEmpty = true := by rw [hlb]; rfl
        have f1 : (9223372036854775807 < T.size + 4) = False := eq_false (by omega)
        have f2 : (9223372036854775807 < T.size + 4 + 1) = False := eq_false (by omega)
        have hr0 : r.f0.data.toList = [] := by rw [← toList_data]; exact hlb
        have HT1 : Aside0 ((T ++ ⟨#[114, 117, 110, 103]⟩ ++ ⟨#[10]⟩ : ByteArray).data.toList = Bl ++ lineText (rungLine r) ++ flatUp conText r.f1 0) := ⟨by
          rw [rungLine, line2, spB, hlb2, hr0, flatUp_zero, ← HT.out]; simp [ByteArray.data_append]⟩
        have hT1 : (T ++ ⟨#[114, 117, 110, 103]⟩ ++ ⟨#[10]⟩ : ByteArray).size ≤ 2000000 := by
          have e : (T ++ ⟨#[114, 117, 110, 103]⟩ ++ ⟨#[10]⟩ : ByteArray).size = (T ++ ⟨#[114, 117, 110, 103]⟩ ++ ⟨#[10]⟩ : ByteArray).data.toList.length := by rw [Array.length_toList]; rfl
          have h2 := HLen.out
          rw [e, HT1.out, flatUp_zero, List.append_nil]
          simp only [rungText, List.length_append] at h2 ⊢
          omega
        clear hr0 HT pl hT
        go_wp2
        generalize (T ++ ⟨#[114, 117, 110, 103]⟩ ++ ⟨#[10]⟩ : ByteArray) = T1 at HT1 hT1 ⊢
        clear f1 f2 hlb hlb2 x0 x1 x2 x3 HF l0 l1 l2 l3
        have HG0 := HG
        clear HG
        generalize wr.heap.size = gr at HG0 ⊢
        go_loopw [6, 9] (fun v6 cv w' => ∃ (T : ByteArray) (j : Int), v6 = .string T ∧ cv = .int .i64 j ∧ 0 ≤ j ∧ j ≤ r.f1.length ∧ T.size ≤ 2000000 ∧ Aside0 (LRF w i q m (some ad) l.length c gr r A1 c1 A2 c2 w') ∧ Aside0 (T.data.toList = Bl ++ lineText (rungLine r) ++ flatUp conText r.f1 j)) (fun _ cv _ => r.f1.length - (intOf cv).toNat)
        case atStart => exact ⟨_, 0, rfl, rfl, by omega, by omega, hT1, HG0, HT1⟩
        case round =>
          clear HG0 HT1 hT1
          obtain ⟨T, j, rfl, rfl, j0, j1, hT, HG, HT⟩ := hrel
          obtain ⟨r0, r1, r2, r3⟩ := HG.out.cells
          by_cases hj : j < r.f1.length
          · obtain ⟨ad1, hAd, x0, x1, x2, x3, x4⟩ := PPrinterMatchesReference.at_T50 G1.out j j0 hj
            subst hAd
            replace x0 := pw_cell_below HG.out.f.b x0
            replace x1 := pw_cell_below HG.out.f.b x1
            replace x2 := pw_cell_below HG.out.f.b x2
            replace x3 := pw_cell_below HG.out.f.b x3
            replace x4 := pw_cell_below HG.out.f.b x4
            have hjr : wrap64 (j + 1) = j + 1 := w64 (by omega) (by omega)
            have ht := flatUp_succ conText r.f1 PPrinterMatchesReference.z50 j0 hj
            have hok : OkCon i q m (PPrinterMatchesReference.rd_T50 r.f1 j) := HOk.out.cs _ (rdC_mem j0 hj)
            have hlen : (Bl ++ lineText (rungLine r) ++ flatUp conText r.f1 (j + 1)).length ≤ 2000000 := by
              have h1 := flatUp_le conText r.f1 (show j + 1 ≤ (r.f1.length : Int) by omega)
              have h2 := HLen.out
              simp only [rungText, List.length_append] at h2 ⊢
              omega
            have e0 : r.f1.getD j.toNat PPrinterMatchesReference.z50 = PPrinterMatchesReference.rd_T50 r.f1 j := rfl
            rw [e0] at ht
            clear e0
            generalize PPrinterMatchesReference.rd_T50 r.f1 j = cn at *
            have k0 := hok.k0
            have k1 := hok.k1
            have p2 := nm_size hok.n2
            have p3 := nm_size hok.n3
            have pf := addr_size HO.out.sz hok.a
            have hv := valid_fmt i q m 0 _ _ HO.out.sz hok.a
            have pk := (kw_size cn.f0.toNat).1
            have hct : conText cn = (kwC.getD cn.f0.toNat ⟨#[]⟩).data.toList ++ [32] ++ (addrFmt cn.f1.f0 cn.f1.f1).data.toList ++ [32] ++ cn.f2.data.toList ++ [32] ++ cn.f3.data.toList ++ [10] := by
              rw [conText, conLine, line4, spB_pos (addr_pos HO.out.sz hok.a), spB_pos (nm_pos hok.n2), spB_pos (nm_pos hok.n3)]
            have HFm := Aside0.mk (fun W => fmt9_b cn.f1.f0 cn.f1.f1 (by omega) (by omega) (by omega) (by omega) W)
            have HKw : Aside0 (∀ g p (W : World), KwRow 0 kwC g p W → W.cell? ⟨g, cn.f0.toNat, none⟩ = some (.string (kwC.getD cn.f0.toNat ⟨#[]⟩))) := ⟨fun g p W h => h.cell _ (by omega)⟩
            generalize addrFmt cn.f1.f0 cn.f1.f1 = fm at *
            generalize kwC.getD cn.f0.toNat ⟨#[]⟩ = kwv at *
            have HTn : Aside0 ((T ++ kwv ++ ⟨#[32]⟩ ++ fm ++ ⟨#[32]⟩ ++ cn.f2 ++ ⟨#[32]⟩ ++ cn.f3 ++ ⟨#[10]⟩ : ByteArray).data.toList = Bl ++ lineText (rungLine r) ++ flatUp conText r.f1 (j + 1)) := ⟨by
              rw [ht, hct, ← List.append_assoc, ← HT.out]; simp only [ByteArray.data_append, Array.toList_append, List.append_assoc]⟩
            have HSn : (T ++ kwv ++ ⟨#[32]⟩ ++ fm ++ ⟨#[32]⟩ ++ cn.f2 ++ ⟨#[32]⟩ ++ cn.f3 ++ ⟨#[10]⟩ : ByteArray).size ≤ 2000000 := by
              have e : (T ++ kwv ++ ⟨#[32]⟩ ++ fm ++ ⟨#[32]⟩ ++ cn.f2 ++ ⟨#[32]⟩ ++ cn.f3 ++ ⟨#[10]⟩ : ByteArray).size = (T ++ kwv ++ ⟨#[32]⟩ ++ fm ++ ⟨#[32]⟩ ++ cn.f2 ++ ⟨#[32]⟩ ++ cn.f3 ++ ⟨#[10]⟩ : ByteArray).data.toList.length := by rw [Array.length_toList]; rfl
              rw [e, HTn.out]; exact hlen
            have HSn2 := Aside0.mk HSn
            clear HSn hlen hct ht hok HT
            have f1 : (9223372036854775807 < T.size + kwv.size) = False := eq_false (by omega)
            have f2 : (9223372036854775807 < T.size + kwv.size + 1) = False := eq_false (by omega)
            have f3 : (9223372036854775807 < T.size + kwv.size + 1 + fm.size) = False := eq_false (by omega)
            have f4 : (9223372036854775807 < T.size + kwv.size + 1 + fm.size + 1) = False := eq_false (by omega)
            have f5 : (9223372036854775807 < T.size + kwv.size + 1 + fm.size + 1 + cn.f2.size) = False := eq_false (by omega)
            have f6 : (9223372036854775807 < T.size + kwv.size + 1 + fm.size + 1 + cn.f2.size + 1) = False := eq_false (by omega)
            have f7 : (9223372036854775807 < T.size + kwv.size + 1 + fm.size + 1 + cn.f2.size + 1 + cn.f3.size) = False := eq_false (by omega)
            have f8 : (9223372036854775807 < T.size + kwv.size + 1 + fm.size + 1 + cn.f2.size + 1 + cn.f3.size + 1) = False := eq_false (by omega)
            clear hT p2 p3 pf pk hv
            have HG2 := Aside0.mk (HG.out.below (below_alloc (Below.refl wr.heap.size wr) (.cells #[.int .i64 cn.f0, .int .i64 cn.f1.f0, .int .i64 cn.f1.f1, .string cn.f2, .string cn.f3] 50)))
            have HKc := Aside0.mk (blk_new wr (.cells #[.int .i64 cn.f0, .int .i64 cn.f1.f0, .int .i64 cn.f1.f1, .string cn.f2, .string cn.f3] 50))
            go_wp2
            generalize hW0 : wr.alloc (.cells #[.int .i64 cn.f0, .int .i64 cn.f1.f0, .int .i64 cn.f1.f1, .string cn.f2, .string cn.f3] 50) = W0 at HG2 HKc ⊢
            clear hW0 x0 x1 x2 x3 x4 HG r0 r1 r2 r3
            generalize wr.heap.size = gc at HKc ⊢
            have n0 := blk_cell HKc.out 0
            have n1 := blk_cell HKc.out 1
            have n2 := blk_cell HKc.out 2
            have n3 := blk_cell HKc.out 3
            have n4 := blk_cell HKc.out 4
            have HC : Aside0 (Below W0.heap.size W0 W0.drew) := ⟨below_drew (Below.refl _ _)⟩
            refine start_ (n := 22) (S := fun w' => w'.cell? ⟨gc, 0, none⟩ = some (.int .i64 cn.f0) ∧ w'.cell? ⟨gc, 1, none⟩ = some (.int .i64 cn.f1.f0) ∧ w'.cell? ⟨gc, 2, none⟩ = some (.int .i64 cn.f1.f1) ∧ w'.cell? ⟨gc, 3, none⟩ = some (.string cn.f2) ∧ w'.cell? ⟨gc, 4, none⟩ = some (.string cn.f3)) (ds := []) #[false, false, false, false, false, false, false, false, false, false, false, false, false, false, false, false, false, false, false, false, false, false] (by kernel_rfl) rfl rfl ⟨(blk_cell (blk_drew HKc.out) 0), (blk_cell (blk_drew HKc.out) 1), (blk_cell (blk_drew HKc.out) 2), (blk_cell (blk_drew HKc.out) 3), (blk_cell (blk_drew HKc.out) 4)⟩ (fun hHeld => ?_)
            refine pure_ (i := 0) (N := some 71) (v := ?_) (a' := ?_) #[true, false, false, false, false, false, false, false, false, false, false, false, false, false, false, false, false, false, false, false, false, false] rfl rfl (by kernel_rfl) (fun _ _ _ h => h) (Or.inl ⟨by rfl, ?_⟩) ?_ ?_
            rotate_left
            · intro w'
              go_simp
              with_reducible rfl
            rotate_left
            · simp only [Act.put, List.setIfInBounds_toArray, List.set_cons_zero, List.set_cons_succ, i64_w, i32_w]
              rfl
            refine pure_ (i := 2) (N := some 73) (v := ?_) (a' := ?_) #[true, false, true, false, false, false, false, false, false, false, false, false, false, false, false, false, false, false, false, false, false, false] rfl rfl (by kernel_rfl) (fun _ _ _ h => h) (Or.inl ⟨by rfl, ?_⟩) ?_ ?_
            rotate_left
            · intro w'
              go_simp
              with_reducible rfl
            rotate_left
            · simp only [Act.put, List.setIfInBounds_toArray, List.set_cons_zero, List.set_cons_succ, i64_w, i32_w]
              rfl
            refine pure_ (i := 8) (N := some 79) (v := ?_) (a' := ?_) #[true, false, true, false, false, false, false, false, true, false, false, false, false, false, false, false, false, false, false, false, false, false] rfl rfl (by kernel_rfl) (fun _ _ _ h => h) (Or.inl ⟨by rfl, ?_⟩) ?_ ?_
            rotate_left
            · intro w'
              go_simp
              with_reducible rfl
            rotate_left
            · simp only [Act.put, List.setIfInBounds_toArray, List.set_cons_zero, List.set_cons_succ, i64_w, i32_w]
              rfl
            refine pure_ (i := 13) (N := some 84) (v := ?_) (a' := ?_) #[true, false, true, false, false, false, false, false, true, false, false, false, false, true, false, false, false, false, false, false, false, false] rfl rfl (by kernel_rfl) (fun _ _ _ h => h) (Or.inl ⟨by rfl, ?_⟩) ?_ ?_
            rotate_left
            · intro w'
              go_simp
              with_reducible rfl
            rotate_left
            · simp only [Act.put, List.setIfInBounds_toArray, List.set_cons_zero, List.set_cons_succ, i64_w, i32_w]
              rfl
            refine pure_ (i := 17) (N := some 88) (v := ?_) (a' := ?_) #[true, false, true, false, false, false, false, false, true, false, false, false, false, true, false, false, false, true, false, false, false, false] rfl rfl (by kernel_rfl) (fun _ _ _ h => h) (Or.inl ⟨by rfl, ?_⟩) ?_ ?_
            rotate_left
            · intro w'
              go_simp
              with_reducible rfl
            rotate_left
            · simp only [Act.put, List.setIfInBounds_toArray, List.set_cons_zero, List.set_cons_succ, i64_w, i32_w]
              rfl
            refine take_ (i := 3) (N := some 74) (v := ?_) (a' := ?_) #[true, false, true, true, false, false, false, false, true, false, false, false, false, true, false, false, false, true, false, false, false, false] rfl rfl (by kernel_rfl) (fun _ _ _ h => h) (Or.inl ⟨by rfl, ?_⟩) hHeld ?_ ?_
            rotate_left
            · rintro w' ⟨s0, s1, s2, s3, s4⟩
              go_simp
              with_reducible rfl
            rotate_left
            · simp only [Act.put, List.setIfInBounds_toArray, List.set_cons_zero, List.set_cons_succ, i64_w, i32_w]
              rfl
            refine take_ (i := 9) (N := some 80) (v := ?_) (a' := ?_) #[true, false, true, true, false, false, false, false, true, true, false, false, false, true, false, false, false, true, false, false, false, false] rfl rfl (by kernel_rfl) (fun _ _ _ h => h) (Or.inl ⟨by rfl, ?_⟩) hHeld ?_ ?_
            rotate_left
            · rintro w' ⟨s0, s1, s2, s3, s4⟩
              go_simp
              with_reducible rfl
            rotate_left
            · simp only [Act.put, List.setIfInBounds_toArray, List.set_cons_zero, List.set_cons_succ, i64_w, i32_w]
              rfl
            refine take_ (i := 14) (N := some 85) (v := ?_) (a' := ?_) #[true, false, true, true, false, false, false, false, true, true, false, false, false, true, true, false, false, true, false, false, false, false] rfl rfl (by kernel_rfl) (fun _ _ _ h => h) (Or.inl ⟨by rfl, ?_⟩) hHeld ?_ ?_
            rotate_left
            · rintro w' ⟨s0, s1, s2, s3, s4⟩
              go_simp
              with_reducible rfl
            rotate_left
            · simp only [Act.put, List.setIfInBounds_toArray, List.set_cons_zero, List.set_cons_succ, i64_w, i32_w]
              rfl
            refine take_ (i := 18) (N := some 89) (v := ?_) (a' := ?_) #[true, false, true, true, false, false, false, false, true, true, false, false, false, true, true, false, false, true, true, false, false, false] rfl rfl (by kernel_rfl) (fun _ _ _ h => h) (Or.inl ⟨by rfl, ?_⟩) hHeld ?_ ?_
            rotate_left
            · rintro w' ⟨s0, s1, s2, s3, s4⟩
              go_simp
              with_reducible rfl
            rotate_left
            · simp only [Act.put, List.setIfInBounds_toArray, List.set_cons_zero, List.set_cons_succ, i64_w, i32_w]
              rfl
            refine one_ (i := 1) (N := some 72) #[true, true, true, true, false, false, false, false, true, true, false, false, false, true, true, false, false, true, true, false, false, false] rfl rfl (by kernel_rfl) (by decide) (fun K hK => ?_)
            refine goes_ Tryd.func40 (by kernel_rfl) rfl #[] (by rfl) rfl rfl (by first | (simp only [List.map_toArray, List.map_cons, List.map_nil]; done) | (simp only [List.map_toArray, List.map_cons, List.map_nil]; rfl)) ?_
            with_reducible refine (conKw9_b _).mono ?_
            rintro e_ w1 ⟨g, p, rfl, hR, hb⟩
            refine ⟨_, rfl, ?_⟩
            have n_ := Aside0.mk (below_step HC.out hb)
            clear HC
            have HC := n_
            clear n_
            have n5 := HKw.out g p _ ⟨Nat.zero_le _, hR.2⟩
            refine hK.out _ _ ⟨(pw_cell_below hb hHeld.1), (pw_cell_below hb hHeld.2.1), (pw_cell_below hb hHeld.2.2.1), (pw_cell_below hb hHeld.2.2.2.1), (pw_cell_below hb hHeld.2.2.2.2)⟩ (fun hHeld => ?_)
            refine stronger (fun w' => w'.cell? ⟨gc, 0, none⟩ = some (.int .i64 cn.f0) ∧ w'.cell? ⟨gc, 1, none⟩ = some (.int .i64 cn.f1.f0) ∧ w'.cell? ⟨gc, 2, none⟩ = some (.int .i64 cn.f1.f1) ∧ w'.cell? ⟨gc, 3, none⟩ = some (.string cn.f2) ∧ w'.cell? ⟨gc, 4, none⟩ = some (.string cn.f3) ∧ w'.cell? ⟨g, cn.f0.toNat, none⟩ = some (.string kwv)) (fun x h => ⟨h.1, h.2.1, h.2.2.1, h.2.2.2.1, h.2.2.2.2.1⟩) ⟨hHeld.1, hHeld.2.1, hHeld.2.2.1, hHeld.2.2.2.1, hHeld.2.2.2.2, n5⟩ (fun hHeld => ?_)
            clear hK K
            refine norm_ (a' := ?_) ?_ ?_
            rotate_left
            · show Act.put _ (some 72) _ = _
              simp only [Act.put, List.setIfInBounds_toArray, List.set_cons_zero, List.set_cons_succ, i64_w, i32_w]
              rfl
            refine pure_ (i := 4) (N := some 75) (v := ?_) (a' := ?_) #[true, true, true, true, true, false, false, false, true, true, false, false, false, true, true, false, false, true, true, false, false, false] rfl rfl (by kernel_rfl) (fun _ _ _ h => h) (Or.inl ⟨by rfl, ?_⟩) ?_ ?_
            rotate_left
            · intro w'
              go_simp
              with_reducible rfl
            rotate_left
            · simp only [Act.put, List.setIfInBounds_toArray, List.set_cons_zero, List.set_cons_succ, i64_w, i32_w]
              rfl
            refine take_ (i := 5) (N := some 76) (v := ?_) (a' := ?_) #[true, true, true, true, true, true, false, false, true, true, false, false, false, true, true, false, false, true, true, false, false, false] rfl rfl (by kernel_rfl) (fun _ _ _ h => h) (Or.inl ⟨by rfl, ?_⟩) hHeld ?_ ?_
            rotate_left
            · rintro w' ⟨s0, s1, s2, s3, s4⟩
              go_simp
              with_reducible rfl
            rotate_left
            · simp only [Act.put, List.setIfInBounds_toArray, List.set_cons_zero, List.set_cons_succ, i64_w, i32_w]
              rfl
            refine pure_ (i := 6) (N := some 77) (v := ?_) (a' := ?_) #[true, true, true, true, true, true, true, false, true, true, false, false, false, true, true, false, false, true, true, false, false, false] rfl rfl (by kernel_rfl) (fun _ _ _ h => h) (Or.inl ⟨by rfl, ?_⟩) ?_ ?_
            rotate_left
            · intro w'
              go_simp
              with_reducible rfl
            rotate_left
            · simp only [Act.put, List.setIfInBounds_toArray, List.set_cons_zero, List.set_cons_succ, i64_w, i32_w]
              rfl
            refine pure_ (i := 7) (N := some 78) (v := ?_) (a' := ?_) #[true, true, true, true, true, true, true, true, true, true, false, false, false, true, true, false, false, true, true, false, false, false] rfl rfl (by kernel_rfl) (fun _ _ _ h => h) (Or.inl ⟨by rfl, ?_⟩) ?_ ?_
            rotate_left
            · intro w'
              go_simp
              with_reducible rfl
            rotate_left
            · simp only [Act.put, List.setIfInBounds_toArray, List.set_cons_zero, List.set_cons_succ, i64_w, i32_w]
              rfl
            refine one_ (i := 10) (N := some 81) #[true, true, true, true, true, true, true, true, true, true, true, false, false, true, true, false, false, true, true, false, false, false] rfl rfl (by kernel_rfl) (by decide) (fun K hK => ?_)
            refine goes_ Tryd.func41 (by kernel_rfl) rfl #[.agg #[.int .i64 cn.f1.f0, .int .i64 cn.f1.f1]] (by rfl) rfl rfl (by first | (simp only [List.map_toArray, List.map_cons, List.map_nil]; done) | (simp only [List.map_toArray, List.map_cons, List.map_nil]; rfl)) ?_
            with_reducible refine (HFm.out _).mono ?_
            rintro e_ w1 ⟨rfl, hb⟩
            refine ⟨_, rfl, ?_⟩
            have n_ := Aside0.mk (below_step HC.out hb)
            clear HC
            have HC := n_
            clear n_
            refine hK.out _ _ ⟨(pw_cell_below hb hHeld.1), (pw_cell_below hb hHeld.2.1), (pw_cell_below hb hHeld.2.2.1), (pw_cell_below hb hHeld.2.2.2.1), ⟨pw_cell_below hb hHeld.2.2.2.2.1, pw_cell_below hb hHeld.2.2.2.2.2⟩⟩ (fun hHeld => ?_)
            clear hK K
            refine norm_ (a' := ?_) ?_ ?_
            rotate_left
            · show Act.put _ (some 81) _ = _
              simp only [Act.put, List.setIfInBounds_toArray, List.set_cons_zero, List.set_cons_succ, i64_w, i32_w]
              rfl
            refine pure_ (i := 11) (N := some 82) (v := ?_) (a' := ?_) #[true, true, true, true, true, true, true, true, true, true, true, true, false, true, true, false, false, true, true, false, false, false] rfl rfl (by kernel_rfl) (fun _ _ _ h => h) (Or.inl ⟨by rfl, ?_⟩) ?_ ?_
            rotate_left
            · intro w'
              go_simp
              with_reducible rfl
            rotate_left
            · simp only [Act.put, List.setIfInBounds_toArray, List.set_cons_zero, List.set_cons_succ, i64_w, i32_w]
              rfl
            refine pure_ (i := 12) (N := some 83) (v := ?_) (a' := ?_) #[true, true, true, true, true, true, true, true, true, true, true, true, true, true, true, false, false, true, true, false, false, false] rfl rfl (by kernel_rfl) (fun _ _ _ h => h) (Or.inl ⟨by rfl, ?_⟩) ?_ ?_
            rotate_left
            · intro w'
              go_simp
              with_reducible rfl
            rotate_left
            · simp only [Act.put, List.setIfInBounds_toArray, List.set_cons_zero, List.set_cons_succ, i64_w, i32_w]
              rfl
            refine pure_ (i := 15) (N := some 86) (v := ?_) (a' := ?_) #[true, true, true, true, true, true, true, true, true, true, true, true, true, true, true, true, false, true, true, false, false, false] rfl rfl (by kernel_rfl) (fun _ _ _ h => h) (Or.inl ⟨by rfl, ?_⟩) ?_ ?_
            rotate_left
            · intro w'
              go_simp
              with_reducible rfl
            rotate_left
            · simp only [Act.put, List.setIfInBounds_toArray, List.set_cons_zero, List.set_cons_succ, i64_w, i32_w]
              rfl
            refine pure_ (i := 16) (N := some 87) (v := ?_) (a' := ?_) #[true, true, true, true, true, true, true, true, true, true, true, true, true, true, true, true, true, true, true, false, false, false] rfl rfl (by kernel_rfl) (fun _ _ _ h => h) (Or.inl ⟨by rfl, ?_⟩) ?_ ?_
            rotate_left
            · intro w'
              go_simp
              with_reducible rfl
            rotate_left
            · simp only [Act.put, List.setIfInBounds_toArray, List.set_cons_zero, List.set_cons_succ, i64_w, i32_w]
              rfl
            refine pure_ (i := 19) (N := some 90) (v := ?_) (a' := ?_) #[true, true, true, true, true, true, true, true, true, true, true, true, true, true, true, true, true, true, true, true, false, false] rfl rfl (by kernel_rfl) (fun _ _ _ h => h) (Or.inl ⟨by rfl, ?_⟩) ?_ ?_
            rotate_left
            · intro w'
              go_simp
              with_reducible rfl
            rotate_left
            · simp only [Act.put, List.setIfInBounds_toArray, List.set_cons_zero, List.set_cons_succ, i64_w, i32_w]
              rfl
            refine pure_ (i := 20) (N := some 91) (v := ?_) (a' := ?_) #[true, true, true, true, true, true, true, true, true, true, true, true, true, true, true, true, true, true, true, true, true, false] rfl rfl (by kernel_rfl) (fun _ _ _ h => h) (Or.inl ⟨by rfl, ?_⟩) ?_ ?_
            rotate_left
            · intro w'
              go_simp
              with_reducible rfl
            rotate_left
            · simp only [Act.put, List.setIfInBounds_toArray, List.set_cons_zero, List.set_cons_succ, i64_w, i32_w]
              rfl
            refine pure_ (i := 21) (N := some 6) (v := ?_) (a' := ?_) #[true, true, true, true, true, true, true, true, true, true, true, true, true, true, true, true, true, true, true, true, true, true] rfl rfl (by kernel_rfl) (fun _ _ _ h => h) (Or.inl ⟨by rfl, ?_⟩) ?_ ?_
            rotate_left
            · intro w'
              go_simp
              with_reducible rfl
            rotate_left
            · simp only [Act.put, List.setIfInBounds_toArray, List.set_cons_zero, List.set_cons_succ, i64_w, i32_w]
              rfl
            refine done_ (by kernel_rfl) ?_
            have HG4 := Aside0.mk (HG2.out.below HC.out)
            go_wp2
            go_roundw
            case rel => exact ⟨_, j + 1, rfl, by simp [hjr], by omega, by omega, HSn2.out, HG4, HTn⟩
            case measure => simp [intOf, hjr]; omega
          · obtain rfl : j = r.f1.length := by omega
            have HT1 : Aside0 (T.data.toList = Bl ++ lineText (rungLine r) ++ flatUp conText r.f1 r.f1.length ++ flatUp coilText r.f2 0) := ⟨by rw [flatUp_zero, List.append_nil]; exact HT.out⟩
            go_wp2
            clear HT r0 r1 r2 r3 hj j0 j1
            go_loopw [6, 11] (fun v6 cv w' => ∃ (T : ByteArray) (j : Int), v6 = .string T ∧ cv = .int .i64 j ∧ 0 ≤ j ∧ j ≤ r.f2.length ∧ T.size ≤ 2000000 ∧ Aside0 (LRF w i q m (some ad) l.length c gr r A1 c1 A2 c2 w') ∧ Aside0 (T.data.toList = Bl ++ lineText (rungLine r) ++ flatUp conText r.f1 r.f1.length ++ flatUp coilText r.f2 j)) (fun _ cv _ => r.f2.length - (intOf cv).toNat)
            case atStart => exact ⟨_, 0, rfl, rfl, by omega, by omega, hT, HG, HT1⟩
            case round =>
              clear HG HT1 hT
              obtain ⟨T, j, rfl, rfl, j0, j1, hT, HG, HT⟩ := hrel
              obtain ⟨r0, r1, r2, r3⟩ := HG.out.cells
              by_cases hj : j < r.f2.length
              · obtain ⟨ad1, hAd, x0, x1, x2⟩ := PPrinterMatchesReference.at_T53 G2.out j j0 hj
                subst hAd
                replace x0 := pw_cell_below HG.out.f.b x0
                replace x1 := pw_cell_below HG.out.f.b x1
                replace x2 := pw_cell_below HG.out.f.b x2
                have hjr : wrap64 (j + 1) = j + 1 := w64 (by omega) (by omega)
                have ht := flatUp_succ coilText r.f2 PPrinterMatchesReference.z53 j0 hj
                have hok : OkCoil i q m (PPrinterMatchesReference.rd_T53 r.f2 j) := HOk.out.os _ (rdO_mem j0 hj)
                have hlen : (Bl ++ lineText (rungLine r) ++ flatUp conText r.f1 r.f1.length ++ flatUp coilText r.f2 (j + 1)).length ≤ 2000000 := by
                  have h1 := flatUp_le coilText r.f2 (show j + 1 ≤ (r.f2.length : Int) by omega)
                  have h2 := HLen.out
                  simp only [rungText, List.length_append] at h2 ⊢
                  omega
                have e0 : r.f2.getD j.toNat PPrinterMatchesReference.z53 = PPrinterMatchesReference.rd_T53 r.f2 j := rfl
                rw [e0] at ht
                clear e0
                generalize PPrinterMatchesReference.rd_T53 r.f2 j = cn at *
                have k0 := hok.k0
                have k1 := hok.k1
                have pf := addr_size HO.out.sz hok.a
                have hv := valid_fmt i q m 0 _ _ HO.out.sz hok.a
                have pk := (kw_size cn.f0.toNat).2
                have hct : coilText cn = (kwO.getD cn.f0.toNat ⟨#[]⟩).data.toList ++ [32] ++ (addrFmt cn.f1.f0 cn.f1.f1).data.toList ++ [10] := by
                  rw [coilText, coilLine, line2, spB_pos (addr_pos HO.out.sz hok.a)]
                have HFm := Aside0.mk (fun W => fmt9_b cn.f1.f0 cn.f1.f1 (by omega) (by omega) (by omega) (by omega) W)
                have HKw : Aside0 (∀ g p (W : World), KwRow 0 kwO g p W → W.cell? ⟨g, cn.f0.toNat, none⟩ = some (.string (kwO.getD cn.f0.toNat ⟨#[]⟩))) := ⟨fun g p W h => h.cell _ (by omega)⟩
                generalize addrFmt cn.f1.f0 cn.f1.f1 = fm at *
                generalize kwO.getD cn.f0.toNat ⟨#[]⟩ = kwv at *
                have HTn : Aside0 ((T ++ kwv ++ ⟨#[32]⟩ ++ fm ++ ⟨#[10]⟩ : ByteArray).data.toList = Bl ++ lineText (rungLine r) ++ flatUp conText r.f1 r.f1.length ++ flatUp coilText r.f2 (j + 1)) := ⟨by
                  rw [ht, hct, ← List.append_assoc, ← HT.out]; simp only [ByteArray.data_append, Array.toList_append, List.append_assoc]⟩
                have HSn : (T ++ kwv ++ ⟨#[32]⟩ ++ fm ++ ⟨#[10]⟩ : ByteArray).size ≤ 2000000 := by
                  have e : (T ++ kwv ++ ⟨#[32]⟩ ++ fm ++ ⟨#[10]⟩ : ByteArray).size = (T ++ kwv ++ ⟨#[32]⟩ ++ fm ++ ⟨#[10]⟩ : ByteArray).data.toList.length := by rw [Array.length_toList]; rfl
                  rw [e, HTn.out]; exact hlen
                have HSn2 := Aside0.mk HSn
                clear HSn hlen hct ht hok HT
                have f1 : (9223372036854775807 < T.size + kwv.size) = False := eq_false (by omega)
                have f2 : (9223372036854775807 < T.size + kwv.size + 1) = False := eq_false (by omega)
                have f3 : (9223372036854775807 < T.size + kwv.size + 1 + fm.size) = False := eq_false (by omega)
                have f4 : (9223372036854775807 < T.size + kwv.size + 1 + fm.size + 1) = False := eq_false (by omega)
                clear hT pf pk hv
                have HX0 := Aside0.mk (And.intro r2 (And.intro x0 (And.intro x1 x2)))
                have HC : Aside0 (Below wr.heap.size wr wr.drew) := ⟨below_drew (Below.refl _ _)⟩
                go_wp2
                clear r0 r1 r2 r3 x0 x1 x2
                refine start_ (n := 22) (S := fun w' => w'.cell? ⟨gr, 2, none⟩ = some (.slice (some ad1) r.f2.length c2) ∧ w'.cell? (ad1.add (j.toNat * 3)) = some (.int .i64 cn.f0) ∧ w'.cell? ⟨(ad1.add (j.toNat * 3)).block, (ad1.add (j.toNat * 3)).off + 1, none⟩ = some (.int .i64 cn.f1.f0) ∧ w'.cell? ⟨(ad1.add (j.toNat * 3)).block, (ad1.add (j.toNat * 3)).off + 2, none⟩ = some (.int .i64 cn.f1.f1)) (ds := []) #[false, false, false, false, false, false, false, false, false, false, false, false, false, false, false, false, false, false, false, false, false, false] (by kernel_rfl) rfl rfl ⟨HX0.out.1, HX0.out.2.1, HX0.out.2.2.1, HX0.out.2.2.2⟩ (fun hHeld => ?_)
                refine pure_ (i := 0) (N := some 99) (v := ?_) (a' := ?_) #[true, false, false, false, false, false, false, false, false, false, false, false, false, false, false, false, false, false, false, false, false, false] rfl rfl (by kernel_rfl) (fun _ _ _ h => h) (Or.inl ⟨by rfl, ?_⟩) ?_ ?_
                rotate_left
                · intro w'
                  go_simp
                  with_reducible rfl
                rotate_left
                · simp only [Act.put, List.setIfInBounds_toArray, List.set_cons_zero, List.set_cons_succ, i64_w, i32_w]
                  rfl
                refine pure_ (i := 2) (N := some 101) (v := ?_) (a' := ?_) #[true, false, true, false, false, false, false, false, false, false, false, false, false, false, false, false, false, false, false, false, false, false] rfl rfl (by kernel_rfl) (fun _ _ _ h => h) (Or.inl ⟨by rfl, ?_⟩) ?_ ?_
                rotate_left
                · intro w'
                  go_simp
                  with_reducible rfl
                rotate_left
                · simp only [Act.put, List.setIfInBounds_toArray, List.set_cons_zero, List.set_cons_succ, i64_w, i32_w]
                  rfl
                refine pure_ (i := 4) (N := some 103) (v := ?_) (a' := ?_) #[true, false, true, false, true, false, false, false, false, false, false, false, false, false, false, false, false, false, false, false, false, false] rfl rfl (by kernel_rfl) (fun _ _ _ h => h) (Or.inl ⟨by rfl, ?_⟩) ?_ ?_
                rotate_left
                · intro w'
                  go_simp
                  with_reducible rfl
                rotate_left
                · simp only [Act.put, List.setIfInBounds_toArray, List.set_cons_zero, List.set_cons_succ, i64_w, i32_w]
                  rfl
                refine pure_ (i := 12) (N := some 111) (v := ?_) (a' := ?_) #[true, false, true, false, true, false, false, false, false, false, false, false, true, false, false, false, false, false, false, false, false, false] rfl rfl (by kernel_rfl) (fun _ _ _ h => h) (Or.inl ⟨by rfl, ?_⟩) ?_ ?_
                rotate_left
                · intro w'
                  go_simp
                  with_reducible rfl
                rotate_left
                · simp only [Act.put, List.setIfInBounds_toArray, List.set_cons_zero, List.set_cons_succ, i64_w, i32_w]
                  rfl
                refine pure_ (i := 14) (N := some 113) (v := ?_) (a' := ?_) #[true, false, true, false, true, false, false, false, false, false, false, false, true, false, true, false, false, false, false, false, false, false] rfl rfl (by kernel_rfl) (fun _ _ _ h => h) (Or.inl ⟨by rfl, ?_⟩) ?_ ?_
                rotate_left
                · intro w'
                  go_simp
                  with_reducible rfl
                rotate_left
                · simp only [Act.put, List.setIfInBounds_toArray, List.set_cons_zero, List.set_cons_succ, i64_w, i32_w]
                  rfl
                refine take_ (i := 3) (N := some 102) (v := ?_) (a' := ?_) #[true, false, true, true, true, false, false, false, false, false, false, false, true, false, true, false, false, false, false, false, false, false] rfl rfl (by kernel_rfl) (fun _ _ _ h => h) (Or.inl ⟨by rfl, ?_⟩) hHeld ?_ ?_
                rotate_left
                · rintro w' ⟨s0, s1, s2, s3⟩
                  go_simp
                  with_reducible rfl
                rotate_left
                · simp only [Act.put, List.setIfInBounds_toArray, List.set_cons_zero, List.set_cons_succ, i64_w, i32_w]
                  rfl
                refine pure_ (i := 5) (N := some 104) (v := ?_) (a' := ?_) #[true, false, true, true, true, true, false, false, false, false, false, false, true, false, true, false, false, false, false, false, false, false] rfl rfl (by kernel_rfl) (fun _ _ _ h => h) (Or.inl ⟨by rfl, ?_⟩) ?_ ?_
                rotate_left
                · intro w'
                  go_simp
                  with_reducible rfl
                rotate_left
                · simp only [Act.put, List.setIfInBounds_toArray, List.set_cons_zero, List.set_cons_succ, i64_w, i32_w]
                  rfl
                refine pure_ (i := 6) (N := some 105) (v := ?_) (a' := ?_) #[true, false, true, true, true, true, true, false, false, false, false, false, true, false, true, false, false, false, false, false, false, false] rfl rfl (by kernel_rfl) (fun _ _ _ h => h) (Or.inl ⟨by rfl, ?_⟩) ?_ ?_
                rotate_left
                · intro w'
                  go_simp
                  with_reducible rfl
                rotate_left
                · simp only [Act.put, List.setIfInBounds_toArray, List.set_cons_zero, List.set_cons_succ, i64_w, i32_w]
                  rfl
                refine take_ (i := 7) (N := some 106) (v := ?_) (a' := ?_) #[true, false, true, true, true, true, true, true, false, false, false, false, true, false, true, false, false, false, false, false, false, false] rfl rfl (by kernel_rfl) (fun _ _ _ h => h) (Or.inl ⟨by rfl, ?_⟩) hHeld ?_ ?_
                rotate_left
                · rintro w' ⟨s0, s1, s2, s3⟩
                  go_simp
                  with_reducible rfl
                rotate_left
                · simp only [Act.put, List.setIfInBounds_toArray, List.set_cons_zero, List.set_cons_succ, i64_w, i32_w]
                  rfl
                refine take_ (i := 13) (N := some 112) (v := ?_) (a' := ?_) #[true, false, true, true, true, true, true, true, false, false, false, false, true, true, true, false, false, false, false, false, false, false] rfl rfl (by kernel_rfl) (fun _ _ _ h => h) (Or.inl ⟨by rfl, ?_⟩) hHeld ?_ ?_
                rotate_left
                · rintro w' ⟨s0, s1, s2, s3⟩
                  go_simp
                  with_reducible rfl
                rotate_left
                · simp only [Act.put, List.setIfInBounds_toArray, List.set_cons_zero, List.set_cons_succ, i64_w, i32_w]
                  rfl
                refine pure_ (i := 15) (N := some 114) (v := ?_) (a' := ?_) #[true, false, true, true, true, true, true, true, false, false, false, false, true, true, true, true, false, false, false, false, false, false] rfl rfl (by kernel_rfl) (fun _ _ _ h => h) (Or.inl ⟨by rfl, ?_⟩) ?_ ?_
                rotate_left
                · intro w'
                  go_simp
                  with_reducible rfl
                rotate_left
                · simp only [Act.put, List.setIfInBounds_toArray, List.set_cons_zero, List.set_cons_succ, i64_w, i32_w]
                  rfl
                refine pure_ (i := 16) (N := some 115) (v := ?_) (a' := ?_) #[true, false, true, true, true, true, true, true, false, false, false, false, true, true, true, true, true, false, false, false, false, false] rfl rfl (by kernel_rfl) (fun _ _ _ h => h) (Or.inl ⟨by rfl, ?_⟩) ?_ ?_
                rotate_left
                · intro w'
                  go_simp
                  with_reducible rfl
                rotate_left
                · simp only [Act.put, List.setIfInBounds_toArray, List.set_cons_zero, List.set_cons_succ, i64_w, i32_w]
                  rfl
                refine take_ (i := 17) (N := some 116) (v := ?_) (a' := ?_) #[true, false, true, true, true, true, true, true, false, false, false, false, true, true, true, true, true, true, false, false, false, false] rfl rfl (by kernel_rfl) (fun _ _ _ h => h) (Or.inl ⟨by rfl, ?_⟩) hHeld ?_ ?_
                rotate_left
                · rintro w' ⟨s0, s1, s2, s3⟩
                  go_simp
                  with_reducible rfl
                rotate_left
                · simp only [Act.put, List.setIfInBounds_toArray, List.set_cons_zero, List.set_cons_succ, i64_w, i32_w]
                  rfl
                refine one_ (i := 1) (N := some 100) #[true, true, true, true, true, true, true, true, false, false, false, false, true, true, true, true, true, true, false, false, false, false] rfl rfl (by kernel_rfl) (by decide) (fun K hK => ?_)
                refine goes_ Tryd.func42 (by kernel_rfl) rfl #[] (by rfl) rfl rfl (by first | (simp only [List.map_toArray, List.map_cons, List.map_nil]; done) | (simp only [List.map_toArray, List.map_cons, List.map_nil]; rfl)) ?_
                with_reducible refine (coilKw9_b _).mono ?_
                rintro e_ w1 ⟨g, p, rfl, hR, hb⟩
                refine ⟨_, rfl, ?_⟩
                have n_ := Aside0.mk (below_step HC.out hb)
                clear HC
                have HC := n_
                clear n_
                have n5 := HKw.out g p _ ⟨Nat.zero_le _, hR.2⟩
                refine hK.out _ _ ⟨(pw_cell_below hb hHeld.1), (pw_cell_below hb hHeld.2.1), (pw_cell_below hb hHeld.2.2.1), (pw_cell_below hb hHeld.2.2.2)⟩ (fun hHeld => ?_)
                refine stronger (fun w' => w'.cell? ⟨gr, 2, none⟩ = some (.slice (some ad1) r.f2.length c2) ∧ w'.cell? (ad1.add (j.toNat * 3)) = some (.int .i64 cn.f0) ∧ w'.cell? ⟨(ad1.add (j.toNat * 3)).block, (ad1.add (j.toNat * 3)).off + 1, none⟩ = some (.int .i64 cn.f1.f0) ∧ w'.cell? ⟨(ad1.add (j.toNat * 3)).block, (ad1.add (j.toNat * 3)).off + 2, none⟩ = some (.int .i64 cn.f1.f1) ∧ w'.cell? ⟨g, cn.f0.toNat, none⟩ = some (.string kwv)) (fun x h => ⟨h.1, h.2.1, h.2.2.1, h.2.2.2.1⟩) ⟨hHeld.1, hHeld.2.1, hHeld.2.2.1, hHeld.2.2.2, n5⟩ (fun hHeld => ?_)
                clear hK K
                refine norm_ (a' := ?_) ?_ ?_
                rotate_left
                · show Act.put _ (some 100) _ = _
                  simp only [Act.put, List.setIfInBounds_toArray, List.set_cons_zero, List.set_cons_succ, i64_w, i32_w]
                  rfl
                refine pure_ (i := 8) (N := some 107) (v := ?_) (a' := ?_) #[true, true, true, true, true, true, true, true, true, false, false, false, true, true, true, true, true, true, false, false, false, false] rfl rfl (by kernel_rfl) (fun _ _ _ h => h) (Or.inl ⟨by rfl, ?_⟩) ?_ ?_
                rotate_left
                · intro w'
                  go_simp
                  with_reducible rfl
                rotate_left
                · simp only [Act.put, List.setIfInBounds_toArray, List.set_cons_zero, List.set_cons_succ, i64_w, i32_w]
                  rfl
                refine take_ (i := 9) (N := some 108) (v := ?_) (a' := ?_) #[true, true, true, true, true, true, true, true, true, true, false, false, true, true, true, true, true, true, false, false, false, false] rfl rfl (by kernel_rfl) (fun _ _ _ h => h) (Or.inl ⟨by rfl, ?_⟩) hHeld ?_ ?_
                rotate_left
                · rintro w' ⟨s0, s1, s2, s3⟩
                  go_simp
                  with_reducible rfl
                rotate_left
                · simp only [Act.put, List.setIfInBounds_toArray, List.set_cons_zero, List.set_cons_succ, i64_w, i32_w]
                  rfl
                refine pure_ (i := 10) (N := some 109) (v := ?_) (a' := ?_) #[true, true, true, true, true, true, true, true, true, true, true, false, true, true, true, true, true, true, false, false, false, false] rfl rfl (by kernel_rfl) (fun _ _ _ h => h) (Or.inl ⟨by rfl, ?_⟩) ?_ ?_
                rotate_left
                · intro w'
                  go_simp
                  with_reducible rfl
                rotate_left
                · simp only [Act.put, List.setIfInBounds_toArray, List.set_cons_zero, List.set_cons_succ, i64_w, i32_w]
                  rfl
                refine pure_ (i := 11) (N := some 110) (v := ?_) (a' := ?_) #[true, true, true, true, true, true, true, true, true, true, true, true, true, true, true, true, true, true, false, false, false, false] rfl rfl (by kernel_rfl) (fun _ _ _ h => h) (Or.inl ⟨by rfl, ?_⟩) ?_ ?_
                rotate_left
                · intro w'
                  go_simp
                  with_reducible rfl
                rotate_left
                · simp only [Act.put, List.setIfInBounds_toArray, List.set_cons_zero, List.set_cons_succ, i64_w, i32_w]
                  rfl
                refine one_ (i := 18) (N := some 117) #[true, true, true, true, true, true, true, true, true, true, true, true, true, true, true, true, true, true, true, false, false, false] rfl rfl (by kernel_rfl) (by decide) (fun K hK => ?_)
                refine goes_ Tryd.func41 (by kernel_rfl) rfl #[.agg #[.int .i64 cn.f1.f0, .int .i64 cn.f1.f1]] (by rfl) rfl rfl (by first | (simp only [List.map_toArray, List.map_cons, List.map_nil]; done) | (simp only [List.map_toArray, List.map_cons, List.map_nil]; rfl)) ?_
                with_reducible refine (HFm.out _).mono ?_
                rintro e_ w1 ⟨rfl, hb⟩
                refine ⟨_, rfl, ?_⟩
                have n_ := Aside0.mk (below_step HC.out hb)
                clear HC
                have HC := n_
                clear n_
                refine hK.out _ _ ⟨(pw_cell_below hb hHeld.1), (pw_cell_below hb hHeld.2.1), (pw_cell_below hb hHeld.2.2.1), ⟨pw_cell_below hb hHeld.2.2.2.1, pw_cell_below hb hHeld.2.2.2.2⟩⟩ (fun hHeld => ?_)
                clear hK K
                refine norm_ (a' := ?_) ?_ ?_
                rotate_left
                · show Act.put _ (some 117) _ = _
                  simp only [Act.put, List.setIfInBounds_toArray, List.set_cons_zero, List.set_cons_succ, i64_w, i32_w]
                  rfl
                refine pure_ (i := 19) (N := some 118) (v := ?_) (a' := ?_) #[true, true, true, true, true, true, true, true, true, true, true, true, true, true, true, true, true, true, true, true, false, false] rfl rfl (by kernel_rfl) (fun _ _ _ h => h) (Or.inl ⟨by rfl, ?_⟩) ?_ ?_
                rotate_left
                · intro w'
                  go_simp
                  with_reducible rfl
                rotate_left
                · simp only [Act.put, List.setIfInBounds_toArray, List.set_cons_zero, List.set_cons_succ, i64_w, i32_w]
                  rfl
                refine pure_ (i := 20) (N := some 119) (v := ?_) (a' := ?_) #[true, true, true, true, true, true, true, true, true, true, true, true, true, true, true, true, true, true, true, true, true, false] rfl rfl (by kernel_rfl) (fun _ _ _ h => h) (Or.inl ⟨by rfl, ?_⟩) ?_ ?_
                rotate_left
                · intro w'
                  go_simp
                  with_reducible rfl
                rotate_left
                · simp only [Act.put, List.setIfInBounds_toArray, List.set_cons_zero, List.set_cons_succ, i64_w, i32_w]
                  rfl
                refine pure_ (i := 21) (N := some 6) (v := ?_) (a' := ?_) #[true, true, true, true, true, true, true, true, true, true, true, true, true, true, true, true, true, true, true, true, true, true] rfl rfl (by kernel_rfl) (fun _ _ _ h => h) (Or.inl ⟨by rfl, ?_⟩) ?_ ?_
                rotate_left
                · intro w'
                  go_simp
                  with_reducible rfl
                rotate_left
                · simp only [Act.put, List.setIfInBounds_toArray, List.set_cons_zero, List.set_cons_succ, i64_w, i32_w]
                  rfl
                refine done_ (by kernel_rfl) ?_
                have HG4 := Aside0.mk (HG.out.below HC.out)
                go_wp2
                go_roundw
                case rel => exact ⟨_, j + 1, rfl, by simp [hjr], by omega, by omega, HSn2.out, HG4, HTn⟩
                case measure => simp [intOf, hjr]; omega
              · obtain rfl : j = r.f2.length := by omega
                have hrt : rungText r = lineText (rungLine r) ++ flatUp conText r.f1 r.f1.length ++ flatUp coilText r.f2 r.f2.length ++ jumpText r := rfl
                have HF9 := Aside0.mk HG.out.f
                by_cases hjm : r.f3.toList = []
                · have hjm2 : r.f3.toList.isEmpty = true := by rw [hjm]; rfl
                  have HT9 : Aside0 (T.data.toList = lineText (sizeLine i q m) ++ flatUp rungText l (k + 1)) := ⟨by
                    rw [← HTk.out, hrt, show jumpText r = [] by unfold jumpText; rw [if_pos hjm2], HT.out]; simp only [List.append_assoc, List.append_nil]⟩
                  clear hrt
                  go_wp2
                  go_roundw
                  case rel => exact ⟨_, k + 1, rfl, by simp [hwr], by omega, by omega, hT, HF9, HT9⟩
                  case measure => simp [intOf, hwr]; omega
                · have hjm2 : r.f3.toList.isEmpty = false := by simpa using hjm
                  have pj := nm_or_size HOk.out.jmp
                  have hjt : jumpText r = [106, 117, 109, 112] ++ [32] ++ r.f3.data.toList ++ [10] := by
                    unfold jumpText
                    rw [hjm2, if_neg (by decide), jumpLine, line2, spB, hjm2]; rfl
                  have HT9 : Aside0 ((T ++ ⟨#[106, 117, 109, 112, 32]⟩ ++ r.f3 ++ ⟨#[10]⟩ : ByteArray).data.toList = lineText (sizeLine i q m) ++ flatUp rungText l (k + 1)) := ⟨by
                    rw [← HTk.out, hrt, hjt]; simp only [ByteArray.data_append, Array.toList_append, HT.out, List.append_assoc]; simp⟩
                  have HS9 : Aside0 ((T ++ ⟨#[106, 117, 109, 112, 32]⟩ ++ r.f3 ++ ⟨#[10]⟩ : ByteArray).size ≤ 2000000) := ⟨by
                    have e : (T ++ ⟨#[106, 117, 109, 112, 32]⟩ ++ r.f3 ++ ⟨#[10]⟩ : ByteArray).size = (T ++ ⟨#[106, 117, 109, 112, 32]⟩ ++ r.f3 ++ ⟨#[10]⟩ : ByteArray).data.toList.length := by rw [Array.length_toList]; rfl
                    rw [e, HT9.out, ← HTk.out]; exact HLen.out⟩
                  have f1 : (9223372036854775807 < T.size + 5) = False := eq_false (by omega)
                  have f2 : (9223372036854775807 < T.size + 5 + r.f3.size) = False := eq_false (by omega)
                  have f3 : (9223372036854775807 < T.size + 5 + r.f3.size + 1) = False := eq_false (by omega)
                  clear hrt hjt hT pj
                  go_wp2
                  go_roundw
                  case rel => exact ⟨_, k + 1, rfl, by simp [hwr], by omega, by omega, HS9.out, HF9, HT9⟩
                  case measure => simp [intOf, hwr]; omega
      · have hlb2 : r.f0.toList.isEmpty = false := by simpa using hlb
        have f1 : (9223372036854775807 < T.size + 4) = False := eq_false (by omega)
        have f2 : (9223372036854775807 < T.size + 4 + 1) = False := eq_false (by omega)
        have f3 : (9223372036854775807 < T.size + 4 + 1 + r.f0.size) = False := eq_false (by omega)
        have f4 : (9223372036854775807 < T.size + 4 + 1 + r.f0.size + 1) = False := eq_false (by omega)
        have HT1 : Aside0 ((T ++ ⟨#[114, 117, 110, 103]⟩ ++ ⟨#[32]⟩ ++ r.f0 ++ ⟨#[10]⟩ : ByteArray).data.toList = Bl ++ lineText (rungLine r) ++ flatUp conText r.f1 0) := ⟨by
          rw [rungLine, line2, spB, hlb2, flatUp_zero, ← HT.out]; simp [ByteArray.data_append]⟩
        have hT1 : (T ++ ⟨#[114, 117, 110, 103]⟩ ++ ⟨#[32]⟩ ++ r.f0 ++ ⟨#[10]⟩ : ByteArray).size ≤ 2000000 := by
          have e : (T ++ ⟨#[114, 117, 110, 103]⟩ ++ ⟨#[32]⟩ ++ r.f0 ++ ⟨#[10]⟩ : ByteArray).size = (T ++ ⟨#[114, 117, 110, 103]⟩ ++ ⟨#[32]⟩ ++ r.f0 ++ ⟨#[10]⟩ : ByteArray).data.toList.length := by rw [Array.length_toList]; rfl
          have h2 := HLen.out
          rw [e, HT1.out, flatUp_zero, List.append_nil]
          simp only [rungText, List.length_append] at h2 ⊢
          omega
        clear HT pl hT
        go_wp2
        generalize (T ++ ⟨#[114, 117, 110, 103]⟩ ++ ⟨#[32]⟩ ++ r.f0 ++ ⟨#[10]⟩ : ByteArray) = T1 at HT1 hT1 ⊢
        clear f1 f2 f3 f4 hlb hlb2 x0 x1 x2 x3 HF l0 l1 l2 l3
        have HG0 := HG
        clear HG
        generalize wr.heap.size = gr at HG0 ⊢
        go_loopw [6, 9] (fun v6 cv w' => ∃ (T : ByteArray) (j : Int), v6 = .string T ∧ cv = .int .i64 j ∧ 0 ≤ j ∧ j ≤ r.f1.length ∧ T.size ≤ 2000000 ∧ Aside0 (LRF w i q m (some ad) l.length c gr r A1 c1 A2 c2 w') ∧ Aside0 (T.data.toList = Bl ++ lineText (rungLine r) ++ flatUp conText r.f1 j)) (fun _ cv _ => r.f1.length - (intOf cv).toNat)
        case atStart => exact ⟨_, 0, rfl, rfl, by omega, by omega, hT1, HG0, HT1⟩
        case round =>
          clear HG0 HT1 hT1
          obtain ⟨T, j, rfl, rfl, j0, j1, hT, HG, HT⟩ := hrel
          obtain ⟨r0, r1, r2, r3⟩ := HG.out.cells
          by_cases hj : j < r.f1.length
          · obtain ⟨ad1, hAd, x0, x1, x2, x3, x4⟩ := PPrinterMatchesReference.at_T50 G1.out j j0 hj
            subst hAd
            replace x0 := pw_cell_below HG.out.f.b x0
            replace x1 := pw_cell_below HG.out.f.b x1
            replace x2 := pw_cell_below HG.out.f.b x2
            replace x3 := pw_cell_below HG.out.f.b x3
            replace x4 := pw_cell_below HG.out.f.b x4
            have hjr : wrap64 (j + 1) = j + 1 := w64 (by omega) (by omega)
            have ht := flatUp_succ conText r.f1 PPrinterMatchesReference.z50 j0 hj
            have hok : OkCon i q m (PPrinterMatchesReference.rd_T50 r.f1 j) := HOk.out.cs _ (rdC_mem j0 hj)
            have hlen : (Bl ++ lineText (rungLine r) ++ flatUp conText r.f1 (j + 1)).length ≤ 2000000 := by
              have h1 := flatUp_le conText r.f1 (show j + 1 ≤ (r.f1.length : Int) by omega)
              have h2 := HLen.out
              simp only [rungText, List.length_append] at h2 ⊢
              omega
            have e0 : r.f1.getD j.toNat PPrinterMatchesReference.z50 = PPrinterMatchesReference.rd_T50 r.f1 j := rfl
            rw [e0] at ht
            clear e0
            generalize PPrinterMatchesReference.rd_T50 r.f1 j = cn at *
            have k0 := hok.k0
            have k1 := hok.k1
            have p2 := nm_size hok.n2
            have p3 := nm_size hok.n3
            have pf := addr_size HO.out.sz hok.a
            have hv := valid_fmt i q m 0 _ _ HO.out.sz hok.a
            have pk := (kw_size cn.f0.toNat).1
            have hct : conText cn = (kwC.getD cn.f0.toNat ⟨#[]⟩).data.toList ++ [32] ++ (addrFmt cn.f1.f0 cn.f1.f1).data.toList ++ [32] ++ cn.f2.data.toList ++ [32] ++ cn.f3.data.toList ++ [10] := by
              rw [conText, conLine, line4, spB_pos (addr_pos HO.out.sz hok.a), spB_pos (nm_pos hok.n2), spB_pos (nm_pos hok.n3)]
            have HFm := Aside0.mk (fun W => fmt9_b cn.f1.f0 cn.f1.f1 (by omega) (by omega) (by omega) (by omega) W)
            have HKw : Aside0 (∀ g p (W : World), KwRow 0 kwC g p W → W.cell? ⟨g, cn.f0.toNat, none⟩ = some (.string (kwC.getD cn.f0.toNat ⟨#[]⟩))) := ⟨fun g p W h => h.cell _ (by omega)⟩
            generalize addrFmt cn.f1.f0 cn.f1.f1 = fm at *
            generalize kwC.getD cn.f0.toNat ⟨#[]⟩ = kwv at *
            have HTn : Aside0 ((T ++ kwv ++ ⟨#[32]⟩ ++ fm ++ ⟨#[32]⟩ ++ cn.f2 ++ ⟨#[32]⟩ ++ cn.f3 ++ ⟨#[10]⟩ : ByteArray).data.toList = Bl ++ lineText (rungLine r) ++ flatUp conText r.f1 (j + 1)) := ⟨by
              rw [ht, hct, ← List.append_assoc, ← HT.out]; simp only [ByteArray.data_append, Array.toList_append, List.append_assoc]⟩
            have HSn : (T ++ kwv ++ ⟨#[32]⟩ ++ fm ++ ⟨#[32]⟩ ++ cn.f2 ++ ⟨#[32]⟩ ++ cn.f3 ++ ⟨#[10]⟩ : ByteArray).size ≤ 2000000 := by
              have e : (T ++ kwv ++ ⟨#[32]⟩ ++ fm ++ ⟨#[32]⟩ ++ cn.f2 ++ ⟨#[32]⟩ ++ cn.f3 ++ ⟨#[10]⟩ : ByteArray).size = (T ++ kwv ++ ⟨#[32]⟩ ++ fm ++ ⟨#[32]⟩ ++ cn.f2 ++ ⟨#[32]⟩ ++ cn.f3 ++ ⟨#[10]⟩ : ByteArray).data.toList.length := by rw [Array.length_toList]; rfl
              rw [e, HTn.out]; exact hlen
            have HSn2 := Aside0.mk HSn
            clear HSn hlen hct ht hok HT
            have f1 : (9223372036854775807 < T.size + kwv.size) = False := eq_false (by omega)
            have f2 : (9223372036854775807 < T.size + kwv.size + 1) = False := eq_false (by omega)
            have f3 : (9223372036854775807 < T.size + kwv.size + 1 + fm.size) = False := eq_false (by omega)
            have f4 : (9223372036854775807 < T.size + kwv.size + 1 + fm.size + 1) = False := eq_false (by omega)
            have f5 : (9223372036854775807 < T.size + kwv.size + 1 + fm.size + 1 + cn.f2.size) = False := eq_false (by omega)
            have f6 : (9223372036854775807 < T.size + kwv.size + 1 + fm.size + 1 + cn.f2.size + 1) = False := eq_false (by omega)
            have f7 : (9223372036854775807 < T.size + kwv.size + 1 + fm.size + 1 + cn.f2.size + 1 + cn.f3.size) = False := eq_false (by omega)
            have f8 : (9223372036854775807 < T.size + kwv.size + 1 + fm.size + 1 + cn.f2.size + 1 + cn.f3.size + 1) = False := eq_false (by omega)
            clear hT p2 p3 pf pk hv
            have HG2 := Aside0.mk (HG.out.below (below_alloc (Below.refl wr.heap.size wr) (.cells #[.int .i64 cn.f0, .int .i64 cn.f1.f0, .int .i64 cn.f1.f1, .string cn.f2, .string cn.f3] 50)))
            have HKc := Aside0.mk (blk_new wr (.cells #[.int .i64 cn.f0, .int .i64 cn.f1.f0, .int .i64 cn.f1.f1, .string cn.f2, .string cn.f3] 50))
            go_wp2
            generalize hW0 : wr.alloc (.cells #[.int .i64 cn.f0, .int .i64 cn.f1.f0, .int .i64 cn.f1.f1, .string cn.f2, .string cn.f3] 50) = W0 at HG2 HKc ⊢
            clear hW0 x0 x1 x2 x3 x4 HG r0 r1 r2 r3
            generalize wr.heap.size = gc at HKc ⊢
            have n0 := blk_cell HKc.out 0
            have n1 := blk_cell HKc.out 1
            have n2 := blk_cell HKc.out 2
            have n3 := blk_cell HKc.out 3
            have n4 := blk_cell HKc.out 4
            have HC : Aside0 (Below W0.heap.size W0 W0.drew) := ⟨below_drew (Below.refl _ _)⟩
            refine start_ (n := 22) (S := fun w' => w'.cell? ⟨gc, 0, none⟩ = some (.int .i64 cn.f0) ∧ w'.cell? ⟨gc, 1, none⟩ = some (.int .i64 cn.f1.f0) ∧ w'.cell? ⟨gc, 2, none⟩ = some (.int .i64 cn.f1.f1) ∧ w'.cell? ⟨gc, 3, none⟩ = some (.string cn.f2) ∧ w'.cell? ⟨gc, 4, none⟩ = some (.string cn.f3)) (ds := []) #[false, false, false, false, false, false, false, false, false, false, false, false, false, false, false, false, false, false, false, false, false, false] (by kernel_rfl) rfl rfl ⟨(blk_cell (blk_drew HKc.out) 0), (blk_cell (blk_drew HKc.out) 1), (blk_cell (blk_drew HKc.out) 2), (blk_cell (blk_drew HKc.out) 3), (blk_cell (blk_drew HKc.out) 4)⟩ (fun hHeld => ?_)
            refine pure_ (i := 0) (N := some 71) (v := ?_) (a' := ?_) #[true, false, false, false, false, false, false, false, false, false, false, false, false, false, false, false, false, false, false, false, false, false] rfl rfl (by kernel_rfl) (fun _ _ _ h => h) (Or.inl ⟨by rfl, ?_⟩) ?_ ?_
            rotate_left
            · intro w'
              go_simp
              with_reducible rfl
            rotate_left
            · simp only [Act.put, List.setIfInBounds_toArray, List.set_cons_zero, List.set_cons_succ, i64_w, i32_w]
              rfl
            refine pure_ (i := 2) (N := some 73) (v := ?_) (a' := ?_) #[true, false, true, false, false, false, false, false, false, false, false, false, false, false, false, false, false, false, false, false, false, false] rfl rfl (by kernel_rfl) (fun _ _ _ h => h) (Or.inl ⟨by rfl, ?_⟩) ?_ ?_
            rotate_left
            · intro w'
              go_simp
              with_reducible rfl
            rotate_left
            · simp only [Act.put, List.setIfInBounds_toArray, List.set_cons_zero, List.set_cons_succ, i64_w, i32_w]
              rfl
            refine pure_ (i := 8) (N := some 79) (v := ?_) (a' := ?_) #[true, false, true, false, false, false, false, false, true, false, false, false, false, false, false, false, false, false, false, false, false, false] rfl rfl (by kernel_rfl) (fun _ _ _ h => h) (Or.inl ⟨by rfl, ?_⟩) ?_ ?_
            rotate_left
            · intro w'
              go_simp
              with_reducible rfl
            rotate_left
            · simp only [Act.put, List.setIfInBounds_toArray, List.set_cons_zero, List.set_cons_succ, i64_w, i32_w]
              rfl
            refine pure_ (i := 13) (N := some 84) (v := ?_) (a' := ?_) #[true, false, true, false, false, false, false, false, true, false, false, false, false, true, false, false, false, false, false, false, false, false] rfl rfl (by kernel_rfl) (fun _ _ _ h => h) (Or.inl ⟨by rfl, ?_⟩) ?_ ?_
            rotate_left
            · intro w'
              go_simp
              with_reducible rfl
            rotate_left
            · simp only [Act.put, List.setIfInBounds_toArray, List.set_cons_zero, List.set_cons_succ, i64_w, i32_w]
              rfl
            refine pure_ (i := 17) (N := some 88) (v := ?_) (a' := ?_) #[true, false, true, false, false, false, false, false, true, false, false, false, false, true, false, false, false, true, false, false, false, false] rfl rfl (by kernel_rfl) (fun _ _ _ h => h) (Or.inl ⟨by rfl, ?_⟩) ?_ ?_
            rotate_left
            · intro w'
              go_simp
              with_reducible rfl
            rotate_left
            · simp only [Act.put, List.setIfInBounds_toArray, List.set_cons_zero, List.set_cons_succ, i64_w, i32_w]
              rfl
            refine take_ (i := 3) (N := some 74) (v := ?_) (a' := ?_) #[true, false, true, true, false, false, false, false, true, false, false, false, false, true, false, false, false, true, false, false, false, false] rfl rfl (by kernel_rfl) (fun _ _ _ h => h) (Or.inl ⟨by rfl, ?_⟩) hHeld ?_ ?_
            rotate_left
            · rintro w' ⟨s0, s1, s2, s3, s4⟩
              go_simp
              with_reducible rfl
            rotate_left
            · simp only [Act.put, List.setIfInBounds_toArray, List.set_cons_zero, List.set_cons_succ, i64_w, i32_w]
              rfl
            refine take_ (i := 9) (N := some 80) (v := ?_) (a' := ?_) #[true, false, true, true, false, false, false, false, true, true, false, false, false, true, false, false, false, true, false, false, false, false] rfl rfl (by kernel_rfl) (fun _ _ _ h => h) (Or.inl ⟨by rfl, ?_⟩) hHeld ?_ ?_
            rotate_left
            · rintro w' ⟨s0, s1, s2, s3, s4⟩
              go_simp
              with_reducible rfl
            rotate_left
            · simp only [Act.put, List.setIfInBounds_toArray, List.set_cons_zero, List.set_cons_succ, i64_w, i32_w]
              rfl
            refine take_ (i := 14) (N := some 85) (v := ?_) (a' := ?_) #[true, false, true, true, false, false, false, false, true, true, false, false, false, true, true, false, false, true, false, false, false, false] rfl rfl (by kernel_rfl) (fun _ _ _ h => h) (Or.inl ⟨by rfl, ?_⟩) hHeld ?_ ?_
            rotate_left
            · rintro w' ⟨s0, s1, s2, s3, s4⟩
              go_simp
              with_reducible rfl
            rotate_left
            · simp only [Act.put, List.setIfInBounds_toArray, List.set_cons_zero, List.set_cons_succ, i64_w, i32_w]
              rfl
            refine take_ (i := 18) (N := some 89) (v := ?_) (a' := ?_) #[true, false, true, true, false, false, false, false, true, true, false, false, false, true, true, false, false, true, true, false, false, false] rfl rfl (by kernel_rfl) (fun _ _ _ h => h) (Or.inl ⟨by rfl, ?_⟩) hHeld ?_ ?_
            rotate_left
            · rintro w' ⟨s0, s1, s2, s3, s4⟩
              go_simp
              with_reducible rfl
            rotate_left
            · simp only [Act.put, List.setIfInBounds_toArray, List.set_cons_zero, List.set_cons_succ, i64_w, i32_w]
              rfl
            refine one_ (i := 1) (N := some 72) #[true, true, true, true, false, false, false, false, true, true, false, false, false, true, true, false, false, true, true, false, false, false] rfl rfl (by kernel_rfl) (by decide) (fun K hK => ?_)
            refine goes_ Tryd.func40 (by kernel_rfl) rfl #[] (by rfl) rfl rfl (by first | (simp only [List.map_toArray, List.map_cons, List.map_nil]; done) | (simp only [List.map_toArray, List.map_cons, List.map_nil]; rfl)) ?_
            with_reducible refine (conKw9_b _).mono ?_
            rintro e_ w1 ⟨g, p, rfl, hR, hb⟩
            refine ⟨_, rfl, ?_⟩
            have n_ := Aside0.mk (below_step HC.out hb)
            clear HC
            have HC := n_
            clear n_
            have n5 := HKw.out g p _ ⟨Nat.zero_le _, hR.2⟩
            refine hK.out _ _ ⟨(pw_cell_below hb hHeld.1), (pw_cell_below hb hHeld.2.1), (pw_cell_below hb hHeld.2.2.1), (pw_cell_below hb hHeld.2.2.2.1), (pw_cell_below hb hHeld.2.2.2.2)⟩ (fun hHeld => ?_)
            refine stronger (fun w' => w'.cell? ⟨gc, 0, none⟩ = some (.int .i64 cn.f0) ∧ w'.cell? ⟨gc, 1, none⟩ = some (.int .i64 cn.f1.f0) ∧ w'.cell? ⟨gc, 2, none⟩ = some (.int .i64 cn.f1.f1) ∧ w'.cell? ⟨gc, 3, none⟩ = some (.string cn.f2) ∧ w'.cell? ⟨gc, 4, none⟩ = some (.string cn.f3) ∧ w'.cell? ⟨g, cn.f0.toNat, none⟩ = some (.string kwv)) (fun x h => ⟨h.1, h.2.1, h.2.2.1, h.2.2.2.1, h.2.2.2.2.1⟩) ⟨hHeld.1, hHeld.2.1, hHeld.2.2.1, hHeld.2.2.2.1, hHeld.2.2.2.2, n5⟩ (fun hHeld => ?_)
            clear hK K
            refine norm_ (a' := ?_) ?_ ?_
            rotate_left
            · show Act.put _ (some 72) _ = _
              simp only [Act.put, List.setIfInBounds_toArray, List.set_cons_zero, List.set_cons_succ, i64_w, i32_w]
              rfl
            refine pure_ (i := 4) (N := some 75) (v := ?_) (a' := ?_) #[true, true, true, true, true, false, false, false, true, true, false, false, false, true, true, false, false, true, true, false, false, false] rfl rfl (by kernel_rfl) (fun _ _ _ h => h) (Or.inl ⟨by rfl, ?_⟩) ?_ ?_
            rotate_left
            · intro w'
              go_simp
              with_reducible rfl
            rotate_left
            · simp only [Act.put, List.setIfInBounds_toArray, List.set_cons_zero, List.set_cons_succ, i64_w, i32_w]
              rfl
            refine take_ (i := 5) (N := some 76) (v := ?_) (a' := ?_) #[true, true, true, true, true, true, false, false, true, true, false, false, false, true, true, false, false, true, true, false, false, false] rfl rfl (by kernel_rfl) (fun _ _ _ h => h) (Or.inl ⟨by rfl, ?_⟩) hHeld ?_ ?_
            rotate_left
            · rintro w' ⟨s0, s1, s2, s3, s4⟩
              go_simp
              with_reducible rfl
            rotate_left
            · simp only [Act.put, List.setIfInBounds_toArray, List.set_cons_zero, List.set_cons_succ, i64_w, i32_w]
              rfl
            refine pure_ (i := 6) (N := some 77) (v := ?_) (a' := ?_) #[true, true, true, true, true, true, true, false, true, true, false, false, false, true, true, false, false, true, true, false, false, false] rfl rfl (by kernel_rfl) (fun _ _ _ h => h) (Or.inl ⟨by rfl, ?_⟩) ?_ ?_
            rotate_left
            · intro w'
              go_simp
              with_reducible rfl
            rotate_left
            · simp only [Act.put, List.setIfInBounds_toArray, List.set_cons_zero, List.set_cons_succ, i64_w, i32_w]
              rfl
            refine pure_ (i := 7) (N := some 78) (v := ?_) (a' := ?_) #[true, true, true, true, true, true, true, true, true, true, false, false, false, true, true, false, false, true, true, false, false, false] rfl rfl (by kernel_rfl) (fun _ _ _ h => h) (Or.inl ⟨by rfl, ?_⟩) ?_ ?_
            rotate_left
            · intro w'
              go_simp
              with_reducible rfl
            rotate_left
            · simp only [Act.put, List.setIfInBounds_toArray, List.set_cons_zero, List.set_cons_succ, i64_w, i32_w]
              rfl
            refine one_ (i := 10) (N := some 81) #[true, true, true, true, true, true, true, true, true, true, true, false, false, true, true, false, false, true, true, false, false, false] rfl rfl (by kernel_rfl) (by decide) (fun K hK => ?_)
            refine goes_ Tryd.func41 (by kernel_rfl) rfl #[.agg #[.int .i64 cn.f1.f0, .int .i64 cn.f1.f1]] (by rfl) rfl rfl (by first | (simp only [List.map_toArray, List.map_cons, List.map_nil]; done) | (simp only [List.map_toArray, List.map_cons, List.map_nil]; rfl)) ?_
            with_reducible refine (HFm.out _).mono ?_
            rintro e_ w1 ⟨rfl, hb⟩
            refine ⟨_, rfl, ?_⟩
            have n_ := Aside0.mk (below_step HC.out hb)
            clear HC
            have HC := n_
            clear n_
            refine hK.out _ _ ⟨(pw_cell_below hb hHeld.1), (pw_cell_below hb hHeld.2.1), (pw_cell_below hb hHeld.2.2.1), (pw_cell_below hb hHeld.2.2.2.1), ⟨pw_cell_below hb hHeld.2.2.2.2.1, pw_cell_below hb hHeld.2.2.2.2.2⟩⟩ (fun hHeld => ?_)
            clear hK K
            refine norm_ (a' := ?_) ?_ ?_
            rotate_left
            · show Act.put _ (some 81) _ = _
              simp only [Act.put, List.setIfInBounds_toArray, List.set_cons_zero, List.set_cons_succ, i64_w, i32_w]
              rfl
            refine pure_ (i := 11) (N := some 82) (v := ?_) (a' := ?_) #[true, true, true, true, true, true, true, true, true, true, true, true, false, true, true, false, false, true, true, false, false, false] rfl rfl (by kernel_rfl) (fun _ _ _ h => h) (Or.inl ⟨by rfl, ?_⟩) ?_ ?_
            rotate_left
            · intro w'
              go_simp
              with_reducible rfl
            rotate_left
            · simp only [Act.put, List.setIfInBounds_toArray, List.set_cons_zero, List.set_cons_succ, i64_w, i32_w]
              rfl
            refine pure_ (i := 12) (N := some 83) (v := ?_) (a' := ?_) #[true, true, true, true, true, true, true, true, true, true, true, true, true, true, true, false, false, true, true, false, false, false] rfl rfl (by kernel_rfl) (fun _ _ _ h => h) (Or.inl ⟨by rfl, ?_⟩) ?_ ?_
            rotate_left
            · intro w'
              go_simp
              with_reducible rfl
            rotate_left
            · simp only [Act.put, List.setIfInBounds_toArray, List.set_cons_zero, List.set_cons_succ, i64_w, i32_w]
              rfl
            refine pure_ (i := 15) (N := some 86) (v := ?_) (a' := ?_) #[true, true, true, true, true, true, true, true, true, true, true, true, true, true, true, true, false, true, true, false, false, false] rfl rfl (by kernel_rfl) (fun _ _ _ h => h) (Or.inl ⟨by rfl, ?_⟩) ?_ ?_
            rotate_left
            · intro w'
              go_simp
              with_reducible rfl
            rotate_left
            · simp only [Act.put, List.setIfInBounds_toArray, List.set_cons_zero, List.set_cons_succ, i64_w, i32_w]
              rfl
            refine pure_ (i := 16) (N := some 87) (v := ?_) (a' := ?_) #[true, true, true, true, true, true, true, true, true, true, true, true, true, true, true, true, true, true, true, false, false, false] rfl rfl (by kernel_rfl) (fun _ _ _ h => h) (Or.inl ⟨by rfl, ?_⟩) ?_ ?_
            rotate_left
            · intro w'
              go_simp
              with_reducible rfl
            rotate_left
            · simp only [Act.put, List.setIfInBounds_toArray, List.set_cons_zero, List.set_cons_succ, i64_w, i32_w]
              rfl
            refine pure_ (i := 19) (N := some 90) (v := ?_) (a' := ?_) #[true, true, true, true, true, true, true, true, true, true, true, true, true, true, true, true, true, true, true, true, false, false] rfl rfl (by kernel_rfl) (fun _ _ _ h => h) (Or.inl ⟨by rfl, ?_⟩) ?_ ?_
            rotate_left
            · intro w'
              go_simp
              with_reducible rfl
            rotate_left
            · simp only [Act.put, List.setIfInBounds_toArray, List.set_cons_zero, List.set_cons_succ, i64_w, i32_w]
              rfl
            refine pure_ (i := 20) (N := some 91) (v := ?_) (a' := ?_) #[true, true, true, true, true, true, true, true, true, true, true, true, true, true, true, true, true, true, true, true, true, false] rfl rfl (by kernel_rfl) (fun _ _ _ h => h) (Or.inl ⟨by rfl, ?_⟩) ?_ ?_
            rotate_left
            · intro w'
              go_simp
              with_reducible rfl
            rotate_left
            · simp only [Act.put, List.setIfInBounds_toArray, List.set_cons_zero, List.set_cons_succ, i64_w, i32_w]
              rfl
            refine pure_ (i := 21) (N := some 6) (v := ?_) (a' := ?_) #[true, true, true, true, true, true, true, true, true, true, true, true, true, true, true, true, true, true, true, true, true, true] rfl rfl (by kernel_rfl) (fun _ _ _ h => h) (Or.inl ⟨by rfl, ?_⟩) ?_ ?_
            rotate_left
            · intro w'
              go_simp
              with_reducible rfl
            rotate_left
            · simp only [Act.put, List.setIfInBounds_toArray, List.set_cons_zero, List.set_cons_succ, i64_w, i32_w]
              rfl
            refine done_ (by kernel_rfl) ?_
            have HG4 := Aside0.mk (HG2.out.below HC.out)
            go_wp2
            go_roundw
            case rel => exact ⟨_, j + 1, rfl, by simp [hjr], by omega, by omega, HSn2.out, HG4, HTn⟩
            case measure => simp [intOf, hjr]; omega
          · obtain rfl : j = r.f1.length := by omega
            have HT1 : Aside0 (T.data.toList = Bl ++ lineText (rungLine r) ++ flatUp conText r.f1 r.f1.length ++ flatUp coilText r.f2 0) := ⟨by rw [flatUp_zero, List.append_nil]; exact HT.out⟩
            go_wp2
            clear HT r0 r1 r2 r3 hj j0 j1
            go_loopw [6, 11] (fun v6 cv w' => ∃ (T : ByteArray) (j : Int), v6 = .string T ∧ cv = .int .i64 j ∧ 0 ≤ j ∧ j ≤ r.f2.length ∧ T.size ≤ 2000000 ∧ Aside0 (LRF w i q m (some ad) l.length c gr r A1 c1 A2 c2 w') ∧ Aside0 (T.data.toList = Bl ++ lineText (rungLine r) ++ flatUp conText r.f1 r.f1.length ++ flatUp coilText r.f2 j)) (fun _ cv _ => r.f2.length - (intOf cv).toNat)
            case atStart => exact ⟨_, 0, rfl, rfl, by omega, by omega, hT, HG, HT1⟩
            case round =>
              clear HG HT1 hT
              obtain ⟨T, j, rfl, rfl, j0, j1, hT, HG, HT⟩ := hrel
              obtain ⟨r0, r1, r2, r3⟩ := HG.out.cells
              by_cases hj : j < r.f2.length
              · obtain ⟨ad1, hAd, x0, x1, x2⟩ := PPrinterMatchesReference.at_T53 G2.out j j0 hj
                subst hAd
                replace x0 := pw_cell_below HG.out.f.b x0
                replace x1 := pw_cell_below HG.out.f.b x1
                replace x2 := pw_cell_below HG.out.f.b x2
                have hjr : wrap64 (j + 1) = j + 1 := w64 (by omega) (by omega)
                have ht := flatUp_succ coilText r.f2 PPrinterMatchesReference.z53 j0 hj
                have hok : OkCoil i q m (PPrinterMatchesReference.rd_T53 r.f2 j) := HOk.out.os _ (rdO_mem j0 hj)
                have hlen : (Bl ++ lineText (rungLine r) ++ flatUp conText r.f1 r.f1.length ++ flatUp coilText r.f2 (j + 1)).length ≤ 2000000 := by
                  have h1 := flatUp_le coilText r.f2 (show j + 1 ≤ (r.f2.length : Int) by omega)
                  have h2 := HLen.out
                  simp only [rungText, List.length_append] at h2 ⊢
                  omega
                have e0 : r.f2.getD j.toNat PPrinterMatchesReference.z53 = PPrinterMatchesReference.rd_T53 r.f2 j := rfl
                rw [e0] at ht
                clear e0
                generalize PPrinterMatchesReference.rd_T53 r.f2 j = cn at *
                have k0 := hok.k0
                have k1 := hok.k1
                have pf := addr_size HO.out.sz hok.a
                have hv := valid_fmt i q m 0 _ _ HO.out.sz hok.a
                have pk := (kw_size cn.f0.toNat).2
                have hct : coilText cn = (kwO.getD cn.f0.toNat ⟨#[]⟩).data.toList ++ [32] ++ (addrFmt cn.f1.f0 cn.f1.f1).data.toList ++ [10] := by
                  rw [coilText, coilLine, line2, spB_pos (addr_pos HO.out.sz hok.a)]
                have HFm := Aside0.mk (fun W => fmt9_b cn.f1.f0 cn.f1.f1 (by omega) (by omega) (by omega) (by omega) W)
                have HKw : Aside0 (∀ g p (W : World), KwRow 0 kwO g p W → W.cell? ⟨g, cn.f0.toNat, none⟩ = some (.string (kwO.getD cn.f0.toNat ⟨#[]⟩))) := ⟨fun g p W h => h.cell _ (by omega)⟩
                generalize addrFmt cn.f1.f0 cn.f1.f1 = fm at *
                generalize kwO.getD cn.f0.toNat ⟨#[]⟩ = kwv at *
                have HTn : Aside0 ((T ++ kwv ++ ⟨#[32]⟩ ++ fm ++ ⟨#[10]⟩ : ByteArray).data.toList = Bl ++ lineText (rungLine r) ++ flatUp conText r.f1 r.f1.length ++ flatUp coilText r.f2 (j + 1)) := ⟨by
                  rw [ht, hct, ← List.append_assoc, ← HT.out]; simp only [ByteArray.data_append, Array.toList_append, List.append_assoc]⟩
                have HSn : (T ++ kwv ++ ⟨#[32]⟩ ++ fm ++ ⟨#[10]⟩ : ByteArray).size ≤ 2000000 := by
                  have e : (T ++ kwv ++ ⟨#[32]⟩ ++ fm ++ ⟨#[10]⟩ : ByteArray).size = (T ++ kwv ++ ⟨#[32]⟩ ++ fm ++ ⟨#[10]⟩ : ByteArray).data.toList.length := by rw [Array.length_toList]; rfl
                  rw [e, HTn.out]; exact hlen
                have HSn2 := Aside0.mk HSn
                clear HSn hlen hct ht hok HT
                have f1 : (9223372036854775807 < T.size + kwv.size) = False := eq_false (by omega)
                have f2 : (9223372036854775807 < T.size + kwv.size + 1) = False := eq_false (by omega)
                have f3 : (9223372036854775807 < T.size + kwv.size + 1 + fm.size) = False := eq_false (by omega)
                have f4 : (9223372036854775807 < T.size + kwv.size + 1 + fm.size + 1) = False := eq_false (by omega)
                clear hT pf pk hv
                have HX0 := Aside0.mk (And.intro r2 (And.intro x0 (And.intro x1 x2)))
                have HC : Aside0 (Below wr.heap.size wr wr.drew) := ⟨below_drew (Below.refl _ _)⟩
                go_wp2
                clear r0 r1 r2 r3 x0 x1 x2
                refine start_ (n := 22) (S := fun w' => w'.cell? ⟨gr, 2, none⟩ = some (.slice (some ad1) r.f2.length c2) ∧ w'.cell? (ad1.add (j.toNat * 3)) = some (.int .i64 cn.f0) ∧ w'.cell? ⟨(ad1.add (j.toNat * 3)).block, (ad1.add (j.toNat * 3)).off + 1, none⟩ = some (.int .i64 cn.f1.f0) ∧ w'.cell? ⟨(ad1.add (j.toNat * 3)).block, (ad1.add (j.toNat * 3)).off + 2, none⟩ = some (.int .i64 cn.f1.f1)) (ds := []) #[false, false, false, false, false, false, false, false, false, false, false, false, false, false, false, false, false, false, false, false, false, false] (by kernel_rfl) rfl rfl ⟨HX0.out.1, HX0.out.2.1, HX0.out.2.2.1, HX0.out.2.2.2⟩ (fun hHeld => ?_)
                refine pure_ (i := 0) (N := some 99) (v := ?_) (a' := ?_) #[true, false, false, false, false, false, false, false, false, false, false, false, false, false, false, false, false, false, false, false, false, false] rfl rfl (by kernel_rfl) (fun _ _ _ h => h) (Or.inl ⟨by rfl, ?_⟩) ?_ ?_
                rotate_left
                · intro w'
                  go_simp
                  with_reducible rfl
                rotate_left
                · simp only [Act.put, List.setIfInBounds_toArray, List.set_cons_zero, List.set_cons_succ, i64_w, i32_w]
                  rfl
                refine pure_ (i := 2) (N := some 101) (v := ?_) (a' := ?_) #[true, false, true, false, false, false, false, false, false, false, false, false, false, false, false, false, false, false, false, false, false, false] rfl rfl (by kernel_rfl) (fun _ _ _ h => h) (Or.inl ⟨by rfl, ?_⟩) ?_ ?_
                rotate_left
                · intro w'
                  go_simp
                  with_reducible rfl
                rotate_left
                · simp only [Act.put, List.setIfInBounds_toArray, List.set_cons_zero, List.set_cons_succ, i64_w, i32_w]
                  rfl
                refine pure_ (i := 4) (N := some 103) (v := ?_) (a' := ?_) #[true, false, true, false, true, false, false, false, false, false, false, false, false, false, false, false, false, false, false, false, false, false] rfl rfl (by kernel_rfl) (fun _ _ _ h => h) (Or.inl ⟨by rfl, ?_⟩) ?_ ?_
                rotate_left
                · intro w'
                  go_simp
                  with_reducible rfl
                rotate_left
                · simp only [Act.put, List.setIfInBounds_toArray, List.set_cons_zero, List.set_cons_succ, i64_w, i32_w]
                  rfl
                refine pure_ (i := 12) (N := some 111) (v := ?_) (a' := ?_) #[true, false, true, false, true, false, false, false, false, false, false, false, true, false, false, false, false, false, false, false, false, false] rfl rfl (by kernel_rfl) (fun _ _ _ h => h) (Or.inl ⟨by rfl, ?_⟩) ?_ ?_
                rotate_left
                · intro w'
                  go_simp
                  with_reducible rfl
                rotate_left
                · simp only [Act.put, List.setIfInBounds_toArray, List.set_cons_zero, List.set_cons_succ, i64_w, i32_w]
                  rfl
                refine pure_ (i := 14) (N := some 113) (v := ?_) (a' := ?_) #[true, false, true, false, true, false, false, false, false, false, false, false, true, false, true, false, false, false, false, false, false, false] rfl rfl (by kernel_rfl) (fun _ _ _ h => h) (Or.inl ⟨by rfl, ?_⟩) ?_ ?_
                rotate_left
                · intro w'
                  go_simp
                  with_reducible rfl
                rotate_left
                · simp only [Act.put, List.setIfInBounds_toArray, List.set_cons_zero, List.set_cons_succ, i64_w, i32_w]
                  rfl
                refine take_ (i := 3) (N := some 102) (v := ?_) (a' := ?_) #[true, false, true, true, true, false, false, false, false, false, false, false, true, false, true, false, false, false, false, false, false, false] rfl rfl (by kernel_rfl) (fun _ _ _ h => h) (Or.inl ⟨by rfl, ?_⟩) hHeld ?_ ?_
                rotate_left
                · rintro w' ⟨s0, s1, s2, s3⟩
                  go_simp
                  with_reducible rfl
                rotate_left
                · simp only [Act.put, List.setIfInBounds_toArray, List.set_cons_zero, List.set_cons_succ, i64_w, i32_w]
                  rfl
                refine pure_ (i := 5) (N := some 104) (v := ?_) (a' := ?_) #[true, false, true, true, true, true, false, false, false, false, false, false, true, false, true, false, false, false, false, false, false, false] rfl rfl (by kernel_rfl) (fun _ _ _ h => h) (Or.inl ⟨by rfl, ?_⟩) ?_ ?_
                rotate_left
                · intro w'
                  go_simp
                  with_reducible rfl
                rotate_left
                · simp only [Act.put, List.setIfInBounds_toArray, List.set_cons_zero, List.set_cons_succ, i64_w, i32_w]
                  rfl
                refine pure_ (i := 6) (N := some 105) (v := ?_) (a' := ?_) #[true, false, true, true, true, true, true, false, false, false, false, false, true, false, true, false, false, false, false, false, false, false] rfl rfl (by kernel_rfl) (fun _ _ _ h => h) (Or.inl ⟨by rfl, ?_⟩) ?_ ?_
                rotate_left
                · intro w'
                  go_simp
                  with_reducible rfl
                rotate_left
                · simp only [Act.put, List.setIfInBounds_toArray, List.set_cons_zero, List.set_cons_succ, i64_w, i32_w]
                  rfl
                refine take_ (i := 7) (N := some 106) (v := ?_) (a' := ?_) #[true, false, true, true, true, true, true, true, false, false, false, false, true, false, true, false, false, false, false, false, false, false] rfl rfl (by kernel_rfl) (fun _ _ _ h => h) (Or.inl ⟨by rfl, ?_⟩) hHeld ?_ ?_
                rotate_left
                · rintro w' ⟨s0, s1, s2, s3⟩
                  go_simp
                  with_reducible rfl
                rotate_left
                · simp only [Act.put, List.setIfInBounds_toArray, List.set_cons_zero, List.set_cons_succ, i64_w, i32_w]
                  rfl
                refine take_ (i := 13) (N := some 112) (v := ?_) (a' := ?_) #[true, false, true, true, true, true, true, true, false, false, false, false, true, true, true, false, false, false, false, false, false, false] rfl rfl (by kernel_rfl) (fun _ _ _ h => h) (Or.inl ⟨by rfl, ?_⟩) hHeld ?_ ?_
                rotate_left
                · rintro w' ⟨s0, s1, s2, s3⟩
                  go_simp
                  with_reducible rfl
                rotate_left
                · simp only [Act.put, List.setIfInBounds_toArray, List.set_cons_zero, List.set_cons_succ, i64_w, i32_w]
                  rfl
                refine pure_ (i := 15) (N := some 114) (v := ?_) (a' := ?_) #[true, false, true, true, true, true, true, true, false, false, false, false, true, true, true, true, false, false, false, false, false, false] rfl rfl (by kernel_rfl) (fun _ _ _ h => h) (Or.inl ⟨by rfl, ?_⟩) ?_ ?_
                rotate_left
                · intro w'
                  go_simp
                  with_reducible rfl
                rotate_left
                · simp only [Act.put, List.setIfInBounds_toArray, List.set_cons_zero, List.set_cons_succ, i64_w, i32_w]
                  rfl
                refine pure_ (i := 16) (N := some 115) (v := ?_) (a' := ?_) #[true, false, true, true, true, true, true, true, false, false, false, false, true, true, true, true, true, false, false, false, false, false] rfl rfl (by kernel_rfl) (fun _ _ _ h => h) (Or.inl ⟨by rfl, ?_⟩) ?_ ?_
                rotate_left
                · intro w'
                  go_simp
                  with_reducible rfl
                rotate_left
                · simp only [Act.put, List.setIfInBounds_toArray, List.set_cons_zero, List.set_cons_succ, i64_w, i32_w]
                  rfl
                refine take_ (i := 17) (N := some 116) (v := ?_) (a' := ?_) #[true, false, true, true, true, true, true, true, false, false, false, false, true, true, true, true, true, true, false, false, false, false] rfl rfl (by kernel_rfl) (fun _ _ _ h => h) (Or.inl ⟨by rfl, ?_⟩) hHeld ?_ ?_
                rotate_left
                · rintro w' ⟨s0, s1, s2, s3⟩
                  go_simp
                  with_reducible rfl
                rotate_left
                · simp only [Act.put, List.setIfInBounds_toArray, List.set_cons_zero, List.set_cons_succ, i64_w, i32_w]
                  rfl
                refine one_ (i := 1) (N := some 100) #[true, true, true, true, true, true, true, true, false, false, false, false, true, true, true, true, true, true, false, false, false, false] rfl rfl (by kernel_rfl) (by decide) (fun K hK => ?_)
                refine goes_ Tryd.func42 (by kernel_rfl) rfl #[] (by rfl) rfl rfl (by first | (simp only [List.map_toArray, List.map_cons, List.map_nil]; done) | (simp only [List.map_toArray, List.map_cons, List.map_nil]; rfl)) ?_
                with_reducible refine (coilKw9_b _).mono ?_
                rintro e_ w1 ⟨g, p, rfl, hR, hb⟩
                refine ⟨_, rfl, ?_⟩
                have n_ := Aside0.mk (below_step HC.out hb)
                clear HC
                have HC := n_
                clear n_
                have n5 := HKw.out g p _ ⟨Nat.zero_le _, hR.2⟩
                refine hK.out _ _ ⟨(pw_cell_below hb hHeld.1), (pw_cell_below hb hHeld.2.1), (pw_cell_below hb hHeld.2.2.1), (pw_cell_below hb hHeld.2.2.2)⟩ (fun hHeld => ?_)
                refine stronger (fun w' => w'.cell? ⟨gr, 2, none⟩ = some (.slice (some ad1) r.f2.length c2) ∧ w'.cell? (ad1.add (j.toNat * 3)) = some (.int .i64 cn.f0) ∧ w'.cell? ⟨(ad1.add (j.toNat * 3)).block, (ad1.add (j.toNat * 3)).off + 1, none⟩ = some (.int .i64 cn.f1.f0) ∧ w'.cell? ⟨(ad1.add (j.toNat * 3)).block, (ad1.add (j.toNat * 3)).off + 2, none⟩ = some (.int .i64 cn.f1.f1) ∧ w'.cell? ⟨g, cn.f0.toNat, none⟩ = some (.string kwv)) (fun x h => ⟨h.1, h.2.1, h.2.2.1, h.2.2.2.1⟩) ⟨hHeld.1, hHeld.2.1, hHeld.2.2.1, hHeld.2.2.2, n5⟩ (fun hHeld => ?_)
                clear hK K
                refine norm_ (a' := ?_) ?_ ?_
                rotate_left
                · show Act.put _ (some 100) _ = _
                  simp only [Act.put, List.setIfInBounds_toArray, List.set_cons_zero, List.set_cons_succ, i64_w, i32_w]
                  rfl
                refine pure_ (i := 8) (N := some 107) (v := ?_) (a' := ?_) #[true, true, true, true, true, true, true, true, true, false, false, false, true, true, true, true, true, true, false, false, false, false] rfl rfl (by kernel_rfl) (fun _ _ _ h => h) (Or.inl ⟨by rfl, ?_⟩) ?_ ?_
                rotate_left
                · intro w'
                  go_simp
                  with_reducible rfl
                rotate_left
                · simp only [Act.put, List.setIfInBounds_toArray, List.set_cons_zero, List.set_cons_succ, i64_w, i32_w]
                  rfl
                refine take_ (i := 9) (N := some 108) (v := ?_) (a' := ?_) #[true, true, true, true, true, true, true, true, true, true, false, false, true, true, true, true, true, true, false, false, false, false] rfl rfl (by kernel_rfl) (fun _ _ _ h => h) (Or.inl ⟨by rfl, ?_⟩) hHeld ?_ ?_
                rotate_left
                · rintro w' ⟨s0, s1, s2, s3⟩
                  go_simp
                  with_reducible rfl
                rotate_left
                · simp only [Act.put, List.setIfInBounds_toArray, List.set_cons_zero, List.set_cons_succ, i64_w, i32_w]
                  rfl
                refine pure_ (i := 10) (N := some 109) (v := ?_) (a' := ?_) #[true, true, true, true, true, true, true, true, true, true, true, false, true, true, true, true, true, true, false, false, false, false] rfl rfl (by kernel_rfl) (fun _ _ _ h => h) (Or.inl ⟨by rfl, ?_⟩) ?_ ?_
                rotate_left
                · intro w'
                  go_simp
                  with_reducible rfl
                rotate_left
                · simp only [Act.put, List.setIfInBounds_toArray, List.set_cons_zero, List.set_cons_succ, i64_w, i32_w]
                  rfl
                refine pure_ (i := 11) (N := some 110) (v := ?_) (a' := ?_) #[true, true, true, true, true, true, true, true, true, true, true, true, true, true, true, true, true, true, false, false, false, false] rfl rfl (by kernel_rfl) (fun _ _ _ h => h) (Or.inl ⟨by rfl, ?_⟩) ?_ ?_
                rotate_left
                · intro w'
                  go_simp
                  with_reducible rfl
                rotate_left
                · simp only [Act.put, List.setIfInBounds_toArray, List.set_cons_zero, List.set_cons_succ, i64_w, i32_w]
                  rfl
                refine one_ (i := 18) (N := some 117) #[true, true, true, true, true, true, true, true, true, true, true, true, true, true, true, true, true, true, true, false, false, false] rfl rfl (by kernel_rfl) (by decide) (fun K hK => ?_)
                refine goes_ Tryd.func41 (by kernel_rfl) rfl #[.agg #[.int .i64 cn.f1.f0, .int .i64 cn.f1.f1]] (by rfl) rfl rfl (by first | (simp only [List.map_toArray, List.map_cons, List.map_nil]; done) | (simp only [List.map_toArray, List.map_cons, List.map_nil]; rfl)) ?_
                with_reducible refine (HFm.out _).mono ?_
                rintro e_ w1 ⟨rfl, hb⟩
                refine ⟨_, rfl, ?_⟩
                have n_ := Aside0.mk (below_step HC.out hb)
                clear HC
                have HC := n_
                clear n_
                refine hK.out _ _ ⟨(pw_cell_below hb hHeld.1), (pw_cell_below hb hHeld.2.1), (pw_cell_below hb hHeld.2.2.1), ⟨pw_cell_below hb hHeld.2.2.2.1, pw_cell_below hb hHeld.2.2.2.2⟩⟩ (fun hHeld => ?_)
                clear hK K
                refine norm_ (a' := ?_) ?_ ?_
                rotate_left
                · show Act.put _ (some 117) _ = _
                  simp only [Act.put, List.setIfInBounds_toArray, List.set_cons_zero, List.set_cons_succ, i64_w, i32_w]
                  rfl
                refine pure_ (i := 19) (N := some 118) (v := ?_) (a' := ?_) #[true, true, true, true, true, true, true, true, true, true, true, true, true, true, true, true, true, true, true, true, false, false] rfl rfl (by kernel_rfl) (fun _ _ _ h => h) (Or.inl ⟨by rfl, ?_⟩) ?_ ?_
                rotate_left
                · intro w'
                  go_simp
                  with_reducible rfl
                rotate_left
                · simp only [Act.put, List.setIfInBounds_toArray, List.set_cons_zero, List.set_cons_succ, i64_w, i32_w]
                  rfl
                refine pure_ (i := 20) (N := some 119) (v := ?_) (a' := ?_) #[true, true, true, true, true, true, true, true, true, true, true, true, true, true, true, true, true, true, true, true, true, false] rfl rfl (by kernel_rfl) (fun _ _ _ h => h) (Or.inl ⟨by rfl, ?_⟩) ?_ ?_
                rotate_left
                · intro w'
                  go_simp
                  with_reducible rfl
                rotate_left
                · simp only [Act.put, List.setIfInBounds_toArray, List.set_cons_zero, List.set_cons_succ, i64_w, i32_w]
                  rfl
                refine pure_ (i := 21) (N := some 6) (v := ?_) (a' := ?_) #[true, true, true, true, true, true, true, true, true, true, true, true, true, true, true, true, true, true, true, true, true, true] rfl rfl (by kernel_rfl) (fun _ _ _ h => h) (Or.inl ⟨by rfl, ?_⟩) ?_ ?_
                rotate_left
                · intro w'
                  go_simp
                  with_reducible rfl
                rotate_left
                · simp only [Act.put, List.setIfInBounds_toArray, List.set_cons_zero, List.set_cons_succ, i64_w, i32_w]
                  rfl
                refine done_ (by kernel_rfl) ?_
                have HG4 := Aside0.mk (HG.out.below HC.out)
                go_wp2
                go_roundw
                case rel => exact ⟨_, j + 1, rfl, by simp [hjr], by omega, by omega, HSn2.out, HG4, HTn⟩
                case measure => simp [intOf, hjr]; omega
              · obtain rfl : j = r.f2.length := by omega
                have hrt : rungText r = lineText (rungLine r) ++ flatUp conText r.f1 r.f1.length ++ flatUp coilText r.f2 r.f2.length ++ jumpText r := rfl
                have HF9 := Aside0.mk HG.out.f
                by_cases hjm : r.f3.toList = []
                · have hjm2 : r.f3.toList.isEmpty = true := by rw [hjm]; rfl
                  have HT9 : Aside0 (T.data.toList = lineText (sizeLine i q m) ++ flatUp rungText l (k + 1)) := ⟨by
                    rw [← HTk.out, hrt, show jumpText r = [] by unfold jumpText; rw [if_pos hjm2], HT.out]; simp only [List.append_assoc, List.append_nil]⟩
                  clear hrt
                  go_wp2
                  go_roundw
                  case rel => exact ⟨_, k + 1, rfl, by simp [hwr], by omega, by omega, hT, HF9, HT9⟩
                  case measure => simp [intOf, hwr]; omega
                · have hjm2 : r.f3.toList.isEmpty = false := by simpa using hjm
                  have pj := nm_or_size HOk.out.jmp
                  have hjt : jumpText r = [106, 117, 109, 112] ++ [32] ++ r.f3.data.toList ++ [10] := by
                    unfold jumpText
                    rw [hjm2, if_neg (by decide), jumpLine, line2, spB, hjm2]; rfl
                  have HT9 : Aside0 ((T ++ ⟨#[106, 117, 109, 112, 32]⟩ ++ r.f3 ++ ⟨#[10]⟩ : ByteArray).data.toList = lineText (sizeLine i q m) ++ flatUp rungText l (k + 1)) := ⟨by
                    rw [← HTk.out, hrt, hjt]; simp only [ByteArray.data_append, Array.toList_append, HT.out, List.append_assoc]; simp⟩
                  have HS9 : Aside0 ((T ++ ⟨#[106, 117, 109, 112, 32]⟩ ++ r.f3 ++ ⟨#[10]⟩ : ByteArray).size ≤ 2000000) := ⟨by
                    have e : (T ++ ⟨#[106, 117, 109, 112, 32]⟩ ++ r.f3 ++ ⟨#[10]⟩ : ByteArray).size = (T ++ ⟨#[106, 117, 109, 112, 32]⟩ ++ r.f3 ++ ⟨#[10]⟩ : ByteArray).data.toList.length := by rw [Array.length_toList]; rfl
                    rw [e, HT9.out, ← HTk.out]; exact HLen.out⟩
                  have f1 : (9223372036854775807 < T.size + 5) = False := eq_false (by omega)
                  have f2 : (9223372036854775807 < T.size + 5 + r.f3.size) = False := eq_false (by omega)
                  have f3 : (9223372036854775807 < T.size + 5 + r.f3.size + 1) = False := eq_false (by omega)
                  clear hrt hjt hT pj
                  go_wp2
                  go_roundw
                  case rel => exact ⟨_, k + 1, rfl, by simp [hwr], by omega, by omega, HS9.out, HF9, HT9⟩
                  case measure => simp [intOf, hwr]; omega
    · obtain rfl : k = l.length := by omega
      have FB := HF.out.b
      have hfin : T.data.toList = ladText i q m l := HT.out
      have hts : T.size = (ladText i q m l).length := by rw [← hfin, Array.length_toList]; rfl
      have hTe : T = ⟨(ladText i q m l).toArray⟩ := bytes_ext (by rw [hfin])
      by_cases hbig : 65536 < (ladText i q m l).length
      · have hV : V = ([], 7) := by rw [HV2.out, if_pos hbig]
        subst hV
        have hbi : (65536 : Int) < (T.size : Int) := by omega
        clear hTe hts hfin hbig HT
        go_wp2
        go_ret2
        exact ⟨rfl, FB⟩
      · have hV : V = (ladText i q m l, 0) := by rw [HV2.out, if_neg hbig]
        subst hV
        have hbi : ¬ (65536 : Int) < (T.size : Int) := by omega
        have HTe := Aside0.mk hTe
        clear hTe hts hfin hbig HT HV2
        go_wp2
        go_ret2
        exact ⟨by rw [HTe.out]; rfl, FB⟩
end Go.Proofs.YtihjdjadmofefaaDoor.H
