/-
  printer.Print: it answers what its plain function answers; nothing that was there is changed.
-/
import Derived.Test.YtolmkdhgnganaaaDoorPr
import Derived.Lib.SmallJoins
set_option linter.unusedVariables false
set_option linter.unusedSimpArgs false
namespace Go.Proofs.YtolmkdhgnganaaaDoor.H
open Go Go.RowKit Go.Proofs Go.Proofs.YtolmkdhgnganaaaDoorW.PrintWords Go.Proofs.YtolmkdhgnganaaaDoor.Sp

theorem KwRow.below {B : Nat} {kw : List ByteArray} {g p : Nat} {w w1 : World} (h : KwRow B kw g p w) (hb : Below w.heap.size w w1) : KwRow B kw g p w1 := by
  obtain ⟨h1, h2, cur, h3, h4⟩ := h
  exact ⟨h1, h2, cur, blk_below h3 hb, h4⟩
theorem KwRow.kept {B : Nat} {kw : List ByteArray} {g p b : Nat} {w w1 : World} (h : KwRow B kw g p w) (hk : Lib.OthersKept 5 (some b) w w1) (hg : g ≠ b) : KwRow B kw g p w1 := by
  obtain ⟨h1, h2, cur, h3, h4⟩ := h
  exact ⟨h1, h2, cur, kept_blk hk h3 hg (by decide), h4⟩
theorem KwRow.cell {B : Nat} {kw : List ByteArray} {g p : Nat} {w : World} (h : KwRow B kw g p w) (j : Nat) (hj : j < 4) : w.cell? ⟨g, j, none⟩ = some (.string (kw.getD j ⟨#[]⟩)) := by
  obtain ⟨h1, h2, cur, h3, h4⟩ := h
  exact (blk_cell h3 j).trans (h4 j hj)
theorem KwRow.lt {B : Nat} {kw : List ByteArray} {g p : Nat} {w : World} (h : KwRow B kw g p w) : g < w.heap.size := by
  obtain ⟨h1, h2, cur, h3, h4⟩ := h
  exact blk_lt h3
theorem at_below {T e B b : Nat} {p : Value} {bs : List Value} {w w1 : World} (h : Lib.BuilderAtF T e B b p bs w) (hb : Below w.heap.size w w1) : Lib.BuilderAtF T e B b p bs w1 := by
  obtain ⟨hB, v, hbk, hown, hne⟩ := h
  refine ⟨hB, v, blk_below hbk hb, ⟨hown.1, ?_⟩, hne⟩
  rcases hown.2 with h0 | ⟨g, cap, cur, fz, hv, hg, hh, r⟩
  · exact .inl h0
  · exact .inr ⟨g, cap, cur, fz, hv, hg, blk_below hh hb, r⟩
theorem bld_below {B b : Nat} {l : List UInt8} {w w1 : World} (h : Bld B b l w) (hb : Below w.heap.size w w1) : Bld B b l w1 :=
  h.elim (fun x => .inl (at_below x hb)) (fun x => .inr (at_below x hb))
theorem bld_lt {B b : Nat} {l : List UInt8} {w : World} (h : Bld B b l w) : b < w.heap.size := h.elim (fun x => x.lt) (fun x => x.lt)

/-- What stands while a ladder is printed. -/
structure PrF (w : World) (b g1 p1 g2 p2 : Nat) (i q m : Int) (A : Option Addr) (n c : Nat) (t : List UInt8) (wr : World) : Prop where
  be : Below w.heap.size w wr
  lb : w.heap.size < b
  kl : wr.heap[w.heap.size]? = some (.cells #[.int .i64 i, .int .i64 q, .int .i64 m, .slice A n c] 24 (0, 0))
  r1 : KwRow w.heap.size kwC g1 p1 wr
  r2 : KwRow w.heap.size kwO g2 p2 wr
  l1 : g1 < b
  l2 : g2 < b
  bl : Bld b b t wr
section
variable {w : World} {b g1 p1 g2 p2 : Nat} {i q m : Int} {A : Option Addr} {n c : Nat} {t : List UInt8} {wr : World}
theorem PrF.below {w1 : World} (h : PrF w b g1 p1 g2 p2 i q m A n c t wr) (hb : Below wr.heap.size wr w1) : PrF w b g1 p1 g2 p2 i q m A n c t w1 :=
  ⟨below_step h.be hb, h.lb, blk_below h.kl hb, h.r1.below hb, h.r2.below hb, h.l1, h.l2, bld_below h.bl hb⟩
theorem PrF.alloc (h : PrF w b g1 p1 g2 p2 i q m A n c t wr) (o : Obj) : PrF w b g1 p1 g2 p2 i q m A n c t (wr.alloc o) := h.below (below_alloc (Below.refl _ _) _)
theorem PrF.drew (h : PrF w b g1 p1 g2 p2 i q m A n c t wr) : PrF w b g1 p1 g2 p2 i q m A n c t wr.drew := h.below (below_drew (Below.refl _ _))
theorem PrF.line {t' : List UInt8} {w1 : World} (h : PrF w b g1 p1 g2 p2 i q m A n c t wr) (hk : BldK b b t' wr w1) : PrF w b g1 p1 g2 p2 i q m A n c t' w1 :=
  ⟨h.be.trans (Joins.below_le hk.be (Nat.le_of_lt h.lb)), h.lb, kept_blk hk.ok h.kl (by have := h.lb; omega) (by decide), h.r1.kept hk.ok (by have := h.l1; omega), h.r2.kept hk.ok (by have := h.l2; omega), h.l1, h.l2, hk.bl⟩
theorem PrF.cells (h : PrF w b g1 p1 g2 p2 i q m A n c t wr) :
    wr.cell? ⟨w.heap.size, 0, none⟩ = some (.int .i64 i) ∧ wr.cell? ⟨w.heap.size, 1, none⟩ = some (.int .i64 q) ∧ wr.cell? ⟨w.heap.size, 2, none⟩ = some (.int .i64 m) ∧ wr.cell? ⟨w.heap.size, 3, none⟩ = some (.slice A n c) :=
  ⟨blk_cell h.kl 0, blk_cell h.kl 1, blk_cell h.kl 2, blk_cell h.kl 3⟩
end

/-- printer.line, its words in a block that has just been made. -/
theorem line_at (b : Nat) (T : List UInt8) (ws : List ByteArray) (W : World) (h : Bld b b T W) (hmx : ws.length ≤ 4) (hlen : T.length + (lineText ws).length ≤ 140737488355328) (n : Nat) (hn : n = ws.length) (cs : Array Value) (hcs : cs = (ws.map Value.string).toArray) (g : Nat) (hg : g = W.heap.size) :
    Calls Tryd.prog 31 #[.pointer (some ⟨b, 0, none⟩), .slice (some ⟨g, 0, none⟩) n n] (W.alloc (.cells cs 9)) fun e w' => e = .returned (.tuple #[]) ∧ BldK b b (T ++ lineText ws) (W.alloc (.cells cs 9)) w' := by
  subst hn hcs hg
  have lb := bld_lt h
  exact line_b b b T _ ws _ (bld_below h (below_alloc (Below.refl _ _) _)) (blk_new _ _) (by omega) hlen (by have := bld_lt (bld_below h (below_alloc (Below.refl W.heap.size W) (.cells (ws.map Value.string).toArray 9))); omega) hmx

/-- .. and while a rung of it is. -/
structure RgF (w : World) (b g1 p1 g2 p2 : Nat) (i q m : Int) (A : Option Addr) (n c : Nat) (gr : Nat) (r : Rung) (A1 : Option Addr) (c1 : Nat) (A2 : Option Addr) (c2 : Nat) (t : List UInt8) (wr : World) : Prop where
  f : PrF w b g1 p1 g2 p2 i q m A n c t wr
  kr : wr.heap[gr]? = some (.cells #[.string r.f0, .slice A1 r.f1.length c1, .slice A2 r.f2.length c2, .string r.f3] 40 (0, 0))
  lg : b < gr
section
variable {w : World} {b g1 p1 g2 p2 : Nat} {i q m : Int} {A : Option Addr} {n c gr : Nat} {r : Rung} {A1 : Option Addr} {c1 : Nat} {A2 : Option Addr} {c2 : Nat} {t : List UInt8} {wr : World}
theorem RgF.below {w1 : World} (h : RgF w b g1 p1 g2 p2 i q m A n c gr r A1 c1 A2 c2 t wr) (hb : Below wr.heap.size wr w1) : RgF w b g1 p1 g2 p2 i q m A n c gr r A1 c1 A2 c2 t w1 :=
  ⟨h.f.below hb, blk_below h.kr hb, h.lg⟩
theorem RgF.alloc (h : RgF w b g1 p1 g2 p2 i q m A n c gr r A1 c1 A2 c2 t wr) (o : Obj) : RgF w b g1 p1 g2 p2 i q m A n c gr r A1 c1 A2 c2 t (wr.alloc o) := h.below (below_alloc (Below.refl _ _) _)
theorem RgF.drew (h : RgF w b g1 p1 g2 p2 i q m A n c gr r A1 c1 A2 c2 t wr) : RgF w b g1 p1 g2 p2 i q m A n c gr r A1 c1 A2 c2 t wr.drew := h.below (below_drew (Below.refl _ _))
theorem RgF.line {t' : List UInt8} {w1 : World} (h : RgF w b g1 p1 g2 p2 i q m A n c gr r A1 c1 A2 c2 t wr) (hk : BldK b b t' wr w1) : RgF w b g1 p1 g2 p2 i q m A n c gr r A1 c1 A2 c2 t' w1 :=
  ⟨h.f.line hk, kept_blk hk.ok h.kr (by have := h.lg; omega) (by decide), h.lg⟩
theorem RgF.cells (h : RgF w b g1 p1 g2 p2 i q m A n c gr r A1 c1 A2 c2 t wr) :
    wr.cell? ⟨gr, 0, none⟩ = some (.string r.f0) ∧ wr.cell? ⟨gr, 1, none⟩ = some (.slice A1 r.f1.length c1) ∧ wr.cell? ⟨gr, 2, none⟩ = some (.slice A2 r.f2.length c2) ∧ wr.cell? ⟨gr, 3, none⟩ = some (.string r.f3) ∧ gr < wr.heap.size ∧ b < wr.heap.size :=
  ⟨blk_cell h.kr 0, blk_cell h.kr 1, blk_cell h.kr 2, blk_cell h.kr 3, blk_lt h.kr, bld_lt h.f.bl⟩
end
theorem rdR_mem {l : List Rung} {k : Int} (h0 : 0 ≤ k) (hk : k < l.length) : rdR l k ∈ l := by
  have hn : k.toNat < l.length := by omega
  have : rdR l k = l[k.toNat] := by simp [PPrinterMatchesReference.rd_T40, List.getD, hn]
  rw [this]; exact List.getElem_mem hn
abbrev rdC (l : List Con) (k : Int) : Con := PPrinterMatchesReference.rd_T49 l k
abbrev rdO (l : List Coil) (k : Int) : Coil := PPrinterMatchesReference.rd_T52 l k
theorem rdC_mem {l : List Con} {k : Int} (h0 : 0 ≤ k) (hk : k < l.length) : rdC l k ∈ l := by
  have hn : k.toNat < l.length := by omega
  have : rdC l k = l[k.toNat] := by simp [PPrinterMatchesReference.rd_T49, List.getD, hn]
  rw [this]; exact List.getElem_mem hn
theorem rdO_mem {l : List Coil} {k : Int} (h0 : 0 ≤ k) (hk : k < l.length) : rdO l k ∈ l := by
  have hn : k.toNat < l.length := by omega
  have : rdO l k = l[k.toNat] := by simp [PPrinterMatchesReference.rd_T52, List.getD, hn]
  rw [this]; exact List.getElem_mem hn

set_option maxHeartbeats 2000000 in
set_option maxRecDepth 100000 in
theorem print_b (i q m : Int) (A : Option Addr) (c : Nat) (l : List Rung) (w : World) (hr : Kd.C kRung w A l.length l) (hc : l.length ≤ c) (hlt : Lets w) (hpw : Pows w) (hkw : Kws w) :
    Calls Tryd.prog 12 #[.agg #[.int .i64 i, .int .i64 q, .int .i64 m, .slice A l.length c]] w (RetB w (.tuple #[.string ⟨(ladPrint i q m l).1.toArray⟩, .int .i64 (ladPrint i q m l).2])) := by
  generalize hV : ladPrint i q m l = V
  have HV := Aside0.mk hV
  clear hV
  have C1 := ladChk_b i q m A c l (w.alloc (.cells #[.int .i64 i, .int .i64 q, .int .i64 m, .slice A l.length c] 24)) (Kd.C_alloc hr _) hc
  have hmax := Kd.C_max hr
  have GR := Aside0.mk hr
  clear hr
  have HL := Aside0.mk hlt
  have HP := Aside0.mk hpw
  have HK := Aside0.mk hkw
  clear hlt hpw hkw
  by_cases he : (ladChk i q m l).2 = 0
  · obtain ⟨ok, hchk⟩ := ladChk_okLad he
    have hn := ladText_len ok
    have hV2 : V = if 65536 < (ladText i q m l).length then ([], 7) else (ladText i q m l, 0) := by rw [← HV.out, ladPrint, if_pos he]
    have HV2 := Aside0.mk hV2
    have HO := Aside0.mk ok
    have HN := Aside0.mk hn
    clear HV hV2 he ok hn
    rw [hchk] at C1
    clear hchk
    go_enter Tryd.func12, Tryd.ntmps12
    go_wp2_with fail
    refine C1.mono ?_
    rintro e0 w1 ⟨rfl, hb1⟩
    have B1 := below_step (below_alloc (Below.refl w.heap.size w) _) hb1
    have KL1 := blk_below (blk_new w (.cells #[.int .i64 i, .int .i64 q, .int .i64 m, .slice A l.length c] 24)) hb1
    clear C1 hb1
    have HB1 := Aside0.mk B1
    have HKL1 := Aside0.mk KL1
    clear B1 KL1
    go_wp2_with fail
    refine (conKw_b _ (HK.out.below HB1.out)).mono ?_
    rintro e0 w2 ⟨g1, p1, rfl, R1, hb2⟩
    have HB2 := Aside0.mk (below_step HB1.out hb2)
    have HKL2 := Aside0.mk (blk_below HKL1.out hb2)
    have HR1 := Aside0.mk R1
    have lg1 := R1.lt
    clear R1 hb2
    go_wp2_with fail
    refine (coilKw_b _ (HK.out.below HB2.out)).mono ?_
    rintro e0 w3 ⟨g2, p2, rfl, R2, hb3⟩
    have F0 : PrF w w3.heap.size g1 p1 g2 p2 i q m A l.length c [] (w3.alloc (.cells #[.pointer none, .slice none 0 0] 79)) := by
      have hz : w.heap.size < w3.heap.size := Nat.lt_of_lt_of_le (blk_lt HKL2.out) hb3.size
      refine ⟨below_alloc (below_step HB2.out hb3) _, hz, blk_alloc (blk_below HKL2.out hb3) _, ?_, ?_, Nat.lt_of_lt_of_le lg1 hb3.size, R2.lt, Lib.IsBuilderF.of (Lib.fresh_isBuilder _ _ w3)⟩
      · obtain ⟨h1, h2⟩ := (HR1.out.below hb3).below (below_alloc (Below.refl w3.heap.size w3) (.cells #[.pointer none, .slice none 0 0] 79))
        exact ⟨by have := HB1.out.size; omega, h2⟩
      · obtain ⟨h1, h2⟩ := R2.below (below_alloc (Below.refl w3.heap.size w3) (.cells #[.pointer none, .slice none 0 0] 79))
        exact ⟨by have := HB2.out.size; omega, h2⟩
    have HF := Aside0.mk F0
    obtain ⟨l0, l1, l2, l3⟩ := F0.cells
    clear F0 R2 hb3 HR1 HKL2 HB2 HB1 HKL1 lg1
    go_wp2
    generalize hw5 : w3.alloc (.cells #[.pointer none, .slice none 0 0] 79) = w5 at HF l0 l1 l2 l3 ⊢
    clear hw5
    generalize w3.heap.size = b at HF ⊢
    have HI : ∀ x (W : World), (x = i ∨ x = q ∨ x = m) → Below w5.heap.size w5 W → Calls Tryd.prog 18 #[.int .i64 x] W (RetB W (.string (itoaS x))) := by
      intro x W hx hW
      have hz := size_ok HO.out.sz
      exact itoa_b x (by omega) (by omega) W (HP.out.below (below_step HF.out.be hW))
    have HIt := Aside0.mk HI
    clear HI
    have HC : Aside0 (Below w5.heap.size w5 w5.drew) := ⟨below_drew (Below.refl _ _)⟩
    go_region_held3 (fun w' => w'.cell? ⟨w.heap.size, 0, none⟩ = some (.int .i64 i) ∧ w'.cell? ⟨w.heap.size, 1, none⟩ = some (.int .i64 q) ∧ w'.cell? ⟨w.heap.size, 2, none⟩ = some (.int .i64 m))
      (first | go_keep | (refine ⟨pw_cell_below hb ?_, pw_cell_below hb ?_, pw_cell_below hb ?_⟩ <;> go_keep) | exact ⟨z0, z1, z2⟩)
      (first | (go_at_call 18; (with_reducible refine (HIt.out _ _ (by first | exact .inl rfl | exact .inr (.inl rfl) | exact .inr (.inr rfl)) HC.out).mono ?_); rintro e_ w1 ⟨rfl, hb⟩; have HC := Aside0.mk (below_step HC.out hb)) | (go_at_call 31; refine (line_b b b [] _ (sizeLine i q m) _ (bld_below ((HF.out.below HC.out).alloc _).bl (Below.refl _ _)) (blk_new _ _) (by have := bld_lt (HF.out.below HC.out).bl; omega) (by have := sizeLine_len HO.out.sz; simp; omega) (by have := bld_lt ((HF.out.below HC.out).alloc (.cells ((sizeLine i q m).map Value.string).toArray 9)).bl; exact Nat.le_of_lt this) (Nat.le_refl _)).mono ?_; rintro e_ w4 ⟨rfl, hK⟩; have HF2 := Aside0.mk (((HF.out.below HC.out).alloc _).line hK); obtain ⟨z0, z1, z2, z3⟩ := HF2.out.cells))
    have HF3 : Aside0 (PrF w b g1 p1 g2 p2 i q m A l.length c (lineText (sizeLine i q m) ++ flatUp rungText l 0) w4) := ⟨by have := HF2.out; simpa [flatUp_zero] using this⟩
    clear HF2 hK HC HIt hb l0 l1 l2 l3 HF z0 z1 z2
    go_wp2
    clear z3
    go_loopw [42] (fun cv w' => ∃ k : Int, cv = .int .i64 k ∧ 0 ≤ k ∧ k ≤ l.length ∧ Aside0 (PrF w b g1 p1 g2 p2 i q m A l.length c (lineText (sizeLine i q m) ++ flatUp rungText l k) w')) (fun cv _ => l.length - (intOf cv).toNat)
    case atStart => exact ⟨0, rfl, by omega, by omega, HF3⟩
    case round =>
      clear HF3
      obtain ⟨k, rfl, b0, b1, HF⟩ := hrel
      by_cases hk : k < l.length
      · obtain ⟨ad, A1, c1, A2, c2, hAd, x0, x1, x2, x3, hl1, hi1, hl2, hi2⟩ := PPrinterMatchesReference.at_T40 GR.out k b0 hk
        subst hAd
        replace x0 := pw_cell_below HF.out.be x0
        replace x1 := pw_cell_below HF.out.be x1
        replace x2 := pw_cell_below HF.out.be x2
        replace x3 := pw_cell_below HF.out.be x3
        have hwr : wrap64 (k + 1) = k + 1 := w64 (by omega) (by omega)
        have ht := flatUp_succ rungText l PPrinterMatchesReference.z40 b0 hk
        have hlen : (lineText (sizeLine i q m) ++ flatUp rungText l k ++ rungText (PPrinterMatchesReference.rd_T40 l k)).length ≤ 2000000 := by
          have h1 := flatUp_le rungText l (show k + 1 ≤ (l.length : Int) by omega)
          have h2 := HN.out
          rw [ht, List.length_append] at h1
          simp only [ladText, List.length_append] at h2 ⊢
          have e : rungText (PPrinterMatchesReference.rd_T40 l k) = rungText (l.getD k.toNat PPrinterMatchesReference.z40) := rfl
          rw [e]; omega
        have hok : OkRung i q m (PPrinterMatchesReference.rd_T40 l k) := HO.out.rung (rdR_mem b0 hk)
        have HT : Aside0 (∀ W, PrF w b g1 p1 g2 p2 i q m (some ad) l.length c (lineText (sizeLine i q m) ++ flatUp rungText l k ++ rungText (PPrinterMatchesReference.rd_T40 l k)) W → PrF w b g1 p1 g2 p2 i q m (some ad) l.length c (lineText (sizeLine i q m) ++ flatUp rungText l (k + 1)) W) :=
          ⟨fun W h => by rw [ht, ← List.append_assoc]; exact h⟩
        clear ht
        generalize PPrinterMatchesReference.rd_T40 l k = r at *
        generalize hTx : lineText (sizeLine i q m) ++ flatUp rungText l k = T at *
        clear hTx
        have HLen := Aside0.mk hlen
        have HOk := Aside0.mk hok
        have G1 := Aside0.mk hi1
        have G2 := Aside0.mk hi2
        have HC1 := Aside0.mk hl1
        have HC2 := Aside0.mk hl2
        have hm1 := hok.n1
        have hm2 := hok.n2
        clear hlen hok hi1 hi2 hl1 hl2
        have lb := bld_lt HF.out.bl
        have HFa := Aside0.mk (HF.out.alloc (.cells #[.string r.f0, .slice A1 r.f1.length c1, .slice A2 r.f2.length c2, .string r.f3] 40))
        have HKr := Aside0.mk (blk_new wr (.cells #[.string r.f0, .slice A1 r.f1.length c1, .slice A2 r.f2.length c2, .string r.f3] 40))
        go_wp2_with fail
        refine Calls.mono (line_at b T (rungLine r) _ HFa.out.bl (Nat.le_of_ble_eq_true rfl) (by have := HLen.out; simp only [rungText, List.length_append] at this; omega) _ rfl _ rfl _ (by simp)) ?_
        rintro e0 w1 ⟨rfl, hK⟩
        have HG0 : Aside0 (RgF w b g1 p1 g2 p2 i q m (some ad) l.length c wr.heap.size r A1 c1 A2 c2 (T ++ lineText (rungLine r) ++ flatUp conText r.f1 0) w1) := ⟨by have := ((RgF.mk HFa.out HKr.out lb).alloc _).line hK; simpa [flatUp_zero] using this⟩
        clear hK HFa HKr lb HF x0 x1 x2 x3
        generalize wr.heap.size = gr at HG0 ⊢
        obtain ⟨r0, r1, r2, r3, lg, lb⟩ := HG0.out.cells
        go_wp2
        clear r0 r1 r2 r3 lg lb
        go_loopw [54] (fun cv w' => ∃ j : Int, cv = .int .i64 j ∧ 0 ≤ j ∧ j ≤ r.f1.length ∧ Aside0 (RgF w b g1 p1 g2 p2 i q m (some ad) l.length c gr r A1 c1 A2 c2 (T ++ lineText (rungLine r) ++ flatUp conText r.f1 j) w')) (fun cv _ => r.f1.length - (intOf cv).toNat)
        case atStart => exact ⟨0, rfl, by omega, by omega, HG0⟩
        case round =>
          clear HG0
          obtain ⟨j, rfl, j0, j1, HG⟩ := hrel
          by_cases hj : j < r.f1.length
          · obtain ⟨ad1, hAd, x0, x1, x2, x3, x4⟩ := PPrinterMatchesReference.at_T49 G1.out j j0 hj
            subst hAd
            replace x0 := pw_cell_below HG.out.f.be x0
            replace x1 := pw_cell_below HG.out.f.be x1
            replace x2 := pw_cell_below HG.out.f.be x2
            replace x3 := pw_cell_below HG.out.f.be x3
            replace x4 := pw_cell_below HG.out.f.be x4
            have hjr : wrap64 (j + 1) = j + 1 := w64 (by omega) (by omega)
            have ht := flatUp_succ conText r.f1 PPrinterMatchesReference.z49 j0 hj
            have hlen : (T ++ lineText (rungLine r) ++ flatUp conText r.f1 j).length + (lineText (conLine (PPrinterMatchesReference.rd_T49 r.f1 j))).length ≤ 140737488355328 := by
              have h1 := flatUp_le conText r.f1 (show j + 1 ≤ (r.f1.length : Int) by omega)
              have h2 := HLen.out
              rw [ht, List.length_append] at h1
              simp only [rungText, List.length_append] at h2 ⊢
              have e : lineText (conLine (PPrinterMatchesReference.rd_T49 r.f1 j)) = conText (r.f1.getD j.toNat PPrinterMatchesReference.z49) := rfl
              rw [e]; omega
            have hok : OkCon i q m (PPrinterMatchesReference.rd_T49 r.f1 j) := HOk.out.cs _ (rdC_mem j0 hj)
            have HT2 : Aside0 (∀ W, RgF w b g1 p1 g2 p2 i q m (some ad) l.length c gr r (some ad1) c1 A2 c2 (T ++ lineText (rungLine r) ++ flatUp conText r.f1 j ++ lineText (conLine (PPrinterMatchesReference.rd_T49 r.f1 j))) W → RgF w b g1 p1 g2 p2 i q m (some ad) l.length c gr r (some ad1) c1 A2 c2 (T ++ lineText (rungLine r) ++ flatUp conText r.f1 (j + 1)) W) :=
              ⟨fun W h => by rw [ht, ← List.append_assoc]; exact h⟩
            clear ht
            generalize PPrinterMatchesReference.rd_T49 r.f1 j = cn at *
            generalize hTx : T ++ lineText (rungLine r) ++ flatUp conText r.f1 j = T2 at *
            clear hTx
            have k0 := hok.k0
            have k1 := hok.k1
            have HLen2 := Aside0.mk hlen
            have HOkc := Aside0.mk hok
            clear hlen hok
            have HG2 := Aside0.mk (HG.out.alloc (.cells #[.int .i64 cn.f0, .int .i64 cn.f1.f0, .int .i64 cn.f1.f1, .string cn.f2, .string cn.f3] 49))
            have HKc := Aside0.mk (blk_new wr (.cells #[.int .i64 cn.f0, .int .i64 cn.f1.f0, .int .i64 cn.f1.f1, .string cn.f2, .string cn.f3] 49))
            go_wp2
            generalize hW0 : wr.alloc (.cells #[.int .i64 cn.f0, .int .i64 cn.f1.f0, .int .i64 cn.f1.f1, .string cn.f2, .string cn.f3] 49) = W0 at HG2 HKc ⊢
            have hgc : b < wr.heap.size := bld_lt HG.out.f.bl
            clear hW0 x0 x1 x2 x3 x4 HG
            generalize wr.heap.size = gc at hgc HKc ⊢
            have n0 := blk_cell HKc.out 0
            have n1 := blk_cell HKc.out 1
            have n2 := blk_cell HKc.out 2
            have n3 := blk_cell HKc.out 3
            have n4 := blk_cell HKc.out 4
            have n5 := HG2.out.f.r1.cell cn.f0.toNat (by omega)
            obtain ⟨kwv, hkv⟩ : ∃ v, kwC.getD cn.f0.toNat ⟨#[]⟩ = v := ⟨_, rfl⟩
            rw [hkv] at n5
            have HKV := Aside0.mk hkv
            clear hkv
            have HFm : Aside0 (∀ W, Below W0.heap.size W0 W → Calls Tryd.prog 32 #[.agg #[.int .i64 cn.f1.f0, .int .i64 cn.f1.f1]] W (RetB W (.string (addrFmt cn.f1.f0 cn.f1.f1)))) :=
              ⟨fun W hW => fmt_b _ _ W (HL.out.below (below_step HG2.out.f.be hW)) (HP.out.below (below_step HG2.out.f.be hW))⟩
            have HC : Aside0 (Below W0.heap.size W0 W0.drew) := ⟨below_drew (Below.refl _ _)⟩
            go_region_held3 (fun w' => w'.cell? ⟨gc, 0, none⟩ = some (.int .i64 cn.f0) ∧ w'.cell? ⟨gc, 1, none⟩ = some (.int .i64 cn.f1.f0) ∧ w'.cell? ⟨gc, 2, none⟩ = some (.int .i64 cn.f1.f1) ∧ w'.cell? ⟨gc, 3, none⟩ = some (.string cn.f2) ∧ w'.cell? ⟨gc, 4, none⟩ = some (.string cn.f3) ∧ w'.cell? ⟨g1, cn.f0.toNat, none⟩ = some (.string kwv))
              (first | go_keep | (refine ⟨pw_cell_below hb ?_, pw_cell_below hb ?_, pw_cell_below hb ?_, pw_cell_below hb ?_, pw_cell_below hb ?_, pw_cell_below hb ?_⟩ <;> go_keep) | exact ⟨z0, z1, z2, z3, z4, z5⟩)
              (first | (go_at_call 32; (with_reducible refine (HFm.out _ HC.out).mono ?_); rintro e_ w1 ⟨rfl, hb⟩; have HC := Aside0.mk (below_step HC.out hb)) | (go_at_call 31; refine Calls.mono (line_at b T2 (conLine cn) _ (HG2.out.below HC.out).f.bl (Nat.le_of_ble_eq_true rfl) HLen2.out _ rfl _ (by rw [conLine, HKV.out]; rfl) _ (by simp)) ?_; rintro e_ w4 ⟨rfl, hK⟩; have HG3 := Aside0.mk (((HG2.out.below HC.out).alloc _).line hK); have HK3 := kept_blk hK.ok (blk_alloc (blk_below HKc.out HC.out) _) (show gc ≠ b by omega) (by decide); have z0 := blk_cell HK3 0; have z1 := blk_cell HK3 1; have z2 := blk_cell HK3 2; have z3 := blk_cell HK3 3; have z4 := blk_cell HK3 4; have z5 := HKV.out ▸ HG3.out.f.r1.cell cn.f0.toNat (by omega)))
            have HG4 := Aside0.mk (HT2.out _ HG3.out)
            clear HG3 hK HK3 HC HFm z0 z1 z2 z3 z4 z5 n0 n1 n2 n3 n4 n5 hb
            go_wp2
            go_roundw
            case rel => exact ⟨j + 1, by simp [hjr], by omega, by omega, HG4⟩
            case measure => simp [intOf, hjr]; omega
          · obtain rfl : j = r.f1.length := by omega
            have HG0 : Aside0 (RgF w b g1 p1 g2 p2 i q m (some ad) l.length c gr r A1 c1 A2 c2 (T ++ lineText (rungLine r) ++ flatUp conText r.f1 r.f1.length ++ flatUp coilText r.f2 0) wr) := ⟨by have := HG.out; simpa [flatUp_zero] using this⟩
            clear HG j0 j1 hj
            obtain ⟨r0, r1, r2, r3, lg, lb⟩ := HG0.out.cells
            go_wp2
            clear r0 r1 r2 r3 lg lb
            go_loopw [77] (fun cv w' => ∃ j : Int, cv = .int .i64 j ∧ 0 ≤ j ∧ j ≤ r.f2.length ∧ Aside0 (RgF w b g1 p1 g2 p2 i q m (some ad) l.length c gr r A1 c1 A2 c2 (T ++ lineText (rungLine r) ++ flatUp conText r.f1 r.f1.length ++ flatUp coilText r.f2 j) w')) (fun cv _ => r.f2.length - (intOf cv).toNat)
            case atStart => exact ⟨0, rfl, by omega, by omega, HG0⟩
            case round =>
              clear HG0
              obtain ⟨j, rfl, j0, j1, HG⟩ := hrel
              by_cases hj : j < r.f2.length
              · obtain ⟨ad2, hAd, x0, x1, x2⟩ := PPrinterMatchesReference.at_T52 G2.out j j0 hj
                subst hAd
                replace x0 := pw_cell_below HG.out.f.be x0
                replace x1 := pw_cell_below HG.out.f.be x1
                replace x2 := pw_cell_below HG.out.f.be x2
                have hjr : wrap64 (j + 1) = j + 1 := w64 (by omega) (by omega)
                have ht := flatUp_succ coilText r.f2 PPrinterMatchesReference.z52 j0 hj
                have hlen : (T ++ lineText (rungLine r) ++ flatUp conText r.f1 r.f1.length ++ flatUp coilText r.f2 j).length + (lineText (coilLine (PPrinterMatchesReference.rd_T52 r.f2 j))).length ≤ 140737488355328 := by
                  have h1 := flatUp_le coilText r.f2 (show j + 1 ≤ (r.f2.length : Int) by omega)
                  have h2 := HLen.out
                  rw [ht, List.length_append] at h1
                  simp only [rungText, List.length_append] at h2 ⊢
                  have e : lineText (coilLine (PPrinterMatchesReference.rd_T52 r.f2 j)) = coilText (r.f2.getD j.toNat PPrinterMatchesReference.z52) := rfl
                  rw [e]; omega
                have hok : OkCoil i q m (PPrinterMatchesReference.rd_T52 r.f2 j) := HOk.out.os _ (rdO_mem j0 hj)
                have HT2 : Aside0 (∀ W, RgF w b g1 p1 g2 p2 i q m (some ad) l.length c gr r A1 c1 (some ad2) c2 (T ++ lineText (rungLine r) ++ flatUp conText r.f1 r.f1.length ++ flatUp coilText r.f2 j ++ lineText (coilLine (PPrinterMatchesReference.rd_T52 r.f2 j))) W → RgF w b g1 p1 g2 p2 i q m (some ad) l.length c gr r A1 c1 (some ad2) c2 (T ++ lineText (rungLine r) ++ flatUp conText r.f1 r.f1.length ++ flatUp coilText r.f2 (j + 1)) W) :=
                  ⟨fun W h => by rw [ht, ← List.append_assoc]; exact h⟩
                clear ht
                generalize PPrinterMatchesReference.rd_T52 r.f2 j = cn at *
                generalize hTx : T ++ lineText (rungLine r) ++ flatUp conText r.f1 r.f1.length ++ flatUp coilText r.f2 j = T2 at *
                clear hTx
                have k0 := hok.k0
                have k1 := hok.k1
                have HLen2 := Aside0.mk hlen
                clear hlen hok
                have HG2 := Aside0.mk (HG.out.alloc (.cells #[.int .i64 cn.f0, .int .i64 cn.f1.f0, .int .i64 cn.f1.f1] 52))
                have HKc := Aside0.mk (blk_new wr (.cells #[.int .i64 cn.f0, .int .i64 cn.f1.f0, .int .i64 cn.f1.f1] 52))
                go_wp2
                generalize hW0 : wr.alloc (.cells #[.int .i64 cn.f0, .int .i64 cn.f1.f0, .int .i64 cn.f1.f1] 52) = W0 at HG2 HKc ⊢
                have hgc : b < wr.heap.size := bld_lt HG.out.f.bl
                clear hW0 x0 x1 x2 HG
                generalize wr.heap.size = gc at hgc HKc ⊢
                have n0 := blk_cell HKc.out 0
                have n1 := blk_cell HKc.out 1
                have n2 := blk_cell HKc.out 2
                have n5 := HG2.out.f.r2.cell cn.f0.toNat (by omega)
                obtain ⟨kwv, hkv⟩ : ∃ v, kwO.getD cn.f0.toNat ⟨#[]⟩ = v := ⟨_, rfl⟩
                rw [hkv] at n5
                have HKV := Aside0.mk hkv
                clear hkv
                have HFm : Aside0 (∀ W, Below W0.heap.size W0 W → Calls Tryd.prog 32 #[.agg #[.int .i64 cn.f1.f0, .int .i64 cn.f1.f1]] W (RetB W (.string (addrFmt cn.f1.f0 cn.f1.f1)))) :=
                  ⟨fun W hW => fmt_b _ _ W (HL.out.below (below_step HG2.out.f.be hW)) (HP.out.below (below_step HG2.out.f.be hW))⟩
                have HC : Aside0 (Below W0.heap.size W0 W0.drew) := ⟨below_drew (Below.refl _ _)⟩
                go_region_held3 (fun w' => w'.cell? ⟨gc, 0, none⟩ = some (.int .i64 cn.f0) ∧ w'.cell? ⟨gc, 1, none⟩ = some (.int .i64 cn.f1.f0) ∧ w'.cell? ⟨gc, 2, none⟩ = some (.int .i64 cn.f1.f1) ∧ w'.cell? ⟨g2, cn.f0.toNat, none⟩ = some (.string kwv))
                  (first | go_keep | (refine ⟨pw_cell_below hb ?_, pw_cell_below hb ?_, pw_cell_below hb ?_, pw_cell_below hb ?_⟩ <;> go_keep) | exact ⟨z0, z1, z2, z5⟩)
                  (first | (go_at_call 32; (with_reducible refine (HFm.out _ HC.out).mono ?_); rintro e_ w1 ⟨rfl, hb⟩; have HC := Aside0.mk (below_step HC.out hb)) | (go_at_call 31; refine Calls.mono (line_at b T2 (coilLine cn) _ (HG2.out.below HC.out).f.bl (Nat.le_of_ble_eq_true rfl) HLen2.out _ rfl _ (by rw [coilLine, HKV.out]; rfl) _ (by simp)) ?_; rintro e_ w4 ⟨rfl, hK⟩; have HG3 := Aside0.mk (((HG2.out.below HC.out).alloc _).line hK); have HK3 := kept_blk hK.ok (blk_alloc (blk_below HKc.out HC.out) _) (show gc ≠ b by omega) (by decide); have z0 := blk_cell HK3 0; have z1 := blk_cell HK3 1; have z2 := blk_cell HK3 2; have z5 := HKV.out ▸ HG3.out.f.r2.cell cn.f0.toNat (by omega)))
                have HG4 := Aside0.mk (HT2.out _ HG3.out)
                clear HG3 hK HK3 HC HFm z0 z1 z2 z5 n0 n1 n2 n5 hb
                go_wp2
                go_roundw
                case rel => exact ⟨j + 1, by simp [hjr], by omega, by omega, HG4⟩
                case measure => simp [intOf, hjr]; omega
              · obtain rfl : j = r.f2.length := by omega
                clear j0 j1 hj
                obtain ⟨r0, r1, r2, r3, lg, lb⟩ := HG.out.cells
                have hrt : rungText r = lineText (rungLine r) ++ flatUp conText r.f1 r.f1.length ++ flatUp coilText r.f2 r.f2.length ++ jumpText r := rfl
                by_cases hjm : r.f3.toList = []
                · have hjm2 : r.f3.toList.isEmpty = true := by rw [hjm]; rfl
                  have HF9 := Aside0.mk (HT.out _ (by rw [hrt, show jumpText r = [] by unfold jumpText; rw [if_pos hjm2]]; have := HG.out.f; simpa only [List.append_assoc, List.append_nil] using this))
                  go_wp2
                  go_roundw
                  case rel => exact ⟨k + 1, by simp [hwr], by omega, by omega, HF9⟩
                  case measure => simp [intOf, hwr]; omega
                · have hjm2 : r.f3.toList.isEmpty = false := by simpa using hjm
                  have hjt : jumpText r = lineText (jumpLine r) := by unfold jumpText; rw [hjm2]; rfl
                  go_wp2_with fail
                  refine Calls.mono (line_at b _ (jumpLine r) _ HG.out.f.bl (Nat.le_of_ble_eq_true rfl) (by have := HLen.out; rw [hrt, hjt] at this; simp only [List.length_append] at this ⊢; omega) _ rfl _ rfl _ (by simp)) ?_
                  rintro e0 w1 ⟨rfl, hK⟩
                  have HF9 := Aside0.mk (HT.out _ (by rw [hrt, hjt]; have := ((HG.out.alloc _).line hK).f; simpa only [List.append_assoc] using this))
                  go_wp2
                  go_roundw
                  case rel => exact ⟨k + 1, by simp [hwr], by omega, by omega, HF9⟩
                  case measure => simp [intOf, hwr]; omega
      · obtain rfl : k = l.length := by omega
        have HB : Aside0 (Bld b b (ladText i q m l) wr) := ⟨HF.out.bl⟩
        have BE := Aside0.mk HF.out.be
        have lb := HF.out.lb
        clear HF b0 b1 hk
        have hln : (Lib.byteCells (ladText i q m l)).length = (ladText i q m l).length := Lib.byteCells_length _
        go_wp2_with fail
        refine (Tryd.Builder_Len_f b b _ wr HB.out).mono ?_
        rintro e0 w1 ⟨rfl, rfl⟩
        rw [hln]
        by_cases hbig : 65536 < (ladText i q m l).length
        · obtain rfl : V = ([], 7) := by rw [HV2.out, if_pos hbig]
          have hbi : (65536 : Int) < ((ladText i q m l).length : Int) := by omega
          have BB := BE.out
          go_wp2
          go_ret2
          exact ⟨rfl, BB⟩
        · obtain rfl : V = (ladText i q m l, 0) := by rw [HV2.out, if_neg hbig]
          have hbi : ((65536 : Int) < ((ladText i q m l).length : Int)) = False := eq_false (by omega)
          have hbd : decide ((65536 : Int) < ((ladText i q m l).length : Int)) = false := decide_eq_false (by omega)
          clear hbig hln HV2 HN
          go_wp2_with fail
          refine (Tryd.Builder_String_any_f b b (ladText i q m l) _ HB.out (Nat.le_of_lt (bld_lt HB.out))).mono ?_
          rintro e0 w2 ⟨rfl, _, hbe⟩
          have BB := BE.out.trans (Joins.below_le hbe (Nat.le_of_lt lb))
          go_wp2
          go_ret2
          exact ⟨rfl, BB⟩
  · obtain rfl : V = ([], (ladChk i q m l).2) := by rw [← HV.out, ladPrint, if_neg he]
    generalize ladChk i q m l = ck at he C1
    obtain ⟨ck1, ck2⟩ := ck
    simp only [] at he C1
    clear HV
    go_enter Tryd.func12, Tryd.ntmps12
    go_wp2_with fail
    refine C1.mono ?_
    rintro e0 w1 ⟨rfl, hb1⟩
    have B1 := below_step (below_alloc (Below.refl w.heap.size w) _) hb1
    go_wp2
    go_ret2
    exact ⟨rfl, B1⟩
end Go.Proofs.YtolmkdhgnganaaaDoor.H
