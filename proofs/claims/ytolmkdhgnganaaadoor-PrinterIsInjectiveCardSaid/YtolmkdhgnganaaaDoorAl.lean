/-
  The example of the chapter: alive answers true.
-/
import Derived.Test.YtolmkdhgnganaaaDoorPrint
set_option linter.unusedVariables false
set_option linter.unusedSimpArgs false
namespace Go.Proofs.YtolmkdhgnganaaaDoor.H
open Go Go.RowKit Go.Proofs Go.Proofs.YtolmkdhgnganaaaDoorW.PrintWords Go.Proofs.YtolmkdhgnganaaaDoor.Sp

def exR : Rung := ⟨⟨#[]⟩, [⟨0, ⟨0, 0⟩, ⟨#[76]⟩, ⟨#[82]⟩⟩], [⟨0, ⟨1, 0⟩⟩], ⟨#[]⟩⟩
theorem C_one {α : Type} (d : Kd α) (w : World) (ad : Addr) (x : α) (c : List Value) (hs : c.length = d.sz) (hk : d.K w x c) (h : ∀ i u, c[i]? = some u → w.cell? (ad.add i) = some u) : d.C w (some ad) 1 [x] := by
  refine ⟨rfl, by decide, fun _ => ⟨ad, rfl, fun j p hj => ?_⟩⟩
  match j, hj with
  | 0, hj =>
    obtain rfl : x = p := by simpa using hj
    exact ⟨c, hs, hk, fun i u hu => by rw [Nat.zero_mul, Nat.zero_add]; exact h i u hu⟩
theorem example_b (w : World) : Calls Tryd.prog 21 #[] w fun e w' => ∃ g, e = .returned (.agg #[.int .i64 1, .int .i64 1, .int .i64 0, .slice (some ⟨g, 0, none⟩) 1 1]) ∧ Below w.heap.size w w' ∧ Kd.C kRung w' (some ⟨g, 0, none⟩) 1 [exR] := by
  go_enter Tryd.func21, Tryd.ntmps21
  go_wp2
  have K0 : ((((w.alloc (.cells #[.int .i64 1, .int .i64 1, .int .i64 0, .slice (some ⟨w.heap.size + 1 + 1 + 1, 0, none⟩) 1 1] 24)).alloc (.cells #[.int .i64 0, .int .i64 0, .int .i64 0, .string ⟨#[76]⟩, .string ⟨#[82]⟩] 49)).alloc (.cells #[.int .i64 0, .int .i64 1, .int .i64 0] 52)).alloc
      (.cells #[.string ⟨#[]⟩, .slice (some ⟨w.heap.size + 1, 0, none⟩) 1 1, .slice (some ⟨w.heap.size + 1 + 1, 0, none⟩) 1 1, .string ⟨#[]⟩] 40)).heap[w.heap.size]? = _ := blk_alloc (blk_alloc (blk_alloc (blk_new w _) _) _) _
  have K1 : ((((w.alloc (.cells #[.int .i64 1, .int .i64 1, .int .i64 0, .slice (some ⟨w.heap.size + 1 + 1 + 1, 0, none⟩) 1 1] 24)).alloc (.cells #[.int .i64 0, .int .i64 0, .int .i64 0, .string ⟨#[76]⟩, .string ⟨#[82]⟩] 49)).alloc (.cells #[.int .i64 0, .int .i64 1, .int .i64 0] 52)).alloc
      (.cells #[.string ⟨#[]⟩, .slice (some ⟨w.heap.size + 1, 0, none⟩) 1 1, .slice (some ⟨w.heap.size + 1 + 1, 0, none⟩) 1 1, .string ⟨#[]⟩] 40)).heap[w.heap.size + 1]? = some (.cells #[.int .i64 0, .int .i64 0, .int .i64 0, .string ⟨#[76]⟩, .string ⟨#[82]⟩] 49 (0, 0)) :=
    blk_alloc (blk_alloc (by have := blk_new (w.alloc (.cells #[.int .i64 1, .int .i64 1, .int .i64 0, .slice (some ⟨w.heap.size + 1 + 1 + 1, 0, none⟩) 1 1] 24)) (.cells #[.int .i64 0, .int .i64 0, .int .i64 0, .string ⟨#[76]⟩, .string ⟨#[82]⟩] 49); simpa using this) _) _
  have K2 : ((((w.alloc (.cells #[.int .i64 1, .int .i64 1, .int .i64 0, .slice (some ⟨w.heap.size + 1 + 1 + 1, 0, none⟩) 1 1] 24)).alloc (.cells #[.int .i64 0, .int .i64 0, .int .i64 0, .string ⟨#[76]⟩, .string ⟨#[82]⟩] 49)).alloc (.cells #[.int .i64 0, .int .i64 1, .int .i64 0] 52)).alloc
      (.cells #[.string ⟨#[]⟩, .slice (some ⟨w.heap.size + 1, 0, none⟩) 1 1, .slice (some ⟨w.heap.size + 1 + 1, 0, none⟩) 1 1, .string ⟨#[]⟩] 40)).heap[w.heap.size + 1 + 1]? = some (.cells #[.int .i64 0, .int .i64 1, .int .i64 0] 52 (0, 0)) :=
    blk_alloc (by have := blk_new ((w.alloc (.cells #[.int .i64 1, .int .i64 1, .int .i64 0, .slice (some ⟨w.heap.size + 1 + 1 + 1, 0, none⟩) 1 1] 24)).alloc (.cells #[.int .i64 0, .int .i64 0, .int .i64 0, .string ⟨#[76]⟩, .string ⟨#[82]⟩] 49)) (.cells #[.int .i64 0, .int .i64 1, .int .i64 0] 52); simpa using this) _
  have K3 : ((((w.alloc (.cells #[.int .i64 1, .int .i64 1, .int .i64 0, .slice (some ⟨w.heap.size + 1 + 1 + 1, 0, none⟩) 1 1] 24)).alloc (.cells #[.int .i64 0, .int .i64 0, .int .i64 0, .string ⟨#[76]⟩, .string ⟨#[82]⟩] 49)).alloc (.cells #[.int .i64 0, .int .i64 1, .int .i64 0] 52)).alloc
      (.cells #[.string ⟨#[]⟩, .slice (some ⟨w.heap.size + 1, 0, none⟩) 1 1, .slice (some ⟨w.heap.size + 1 + 1, 0, none⟩) 1 1, .string ⟨#[]⟩] 40)).heap[w.heap.size + 1 + 1 + 1]? = some (.cells #[.string ⟨#[]⟩, .slice (some ⟨w.heap.size + 1, 0, none⟩) 1 1, .slice (some ⟨w.heap.size + 1 + 1, 0, none⟩) 1 1, .string ⟨#[]⟩] 40 (0, 0)) := by
    have := blk_new (((w.alloc (.cells #[.int .i64 1, .int .i64 1, .int .i64 0, .slice (some ⟨w.heap.size + 1 + 1 + 1, 0, none⟩) 1 1] 24)).alloc (.cells #[.int .i64 0, .int .i64 0, .int .i64 0, .string ⟨#[76]⟩, .string ⟨#[82]⟩] 49)).alloc (.cells #[.int .i64 0, .int .i64 1, .int .i64 0] 52)) (.cells #[.string ⟨#[]⟩, .slice (some ⟨w.heap.size + 1, 0, none⟩) 1 1, .slice (some ⟨w.heap.size + 1 + 1, 0, none⟩) 1 1, .string ⟨#[]⟩] 40)
    simpa using this
  have hB : Below w.heap.size w ((((w.alloc (.cells #[.int .i64 1, .int .i64 1, .int .i64 0, .slice (some ⟨w.heap.size + 1 + 1 + 1, 0, none⟩) 1 1] 24)).alloc (.cells #[.int .i64 0, .int .i64 0, .int .i64 0, .string ⟨#[76]⟩, .string ⟨#[82]⟩] 49)).alloc (.cells #[.int .i64 0, .int .i64 1, .int .i64 0] 52)).alloc
      (.cells #[.string ⟨#[]⟩, .slice (some ⟨w.heap.size + 1, 0, none⟩) 1 1, .slice (some ⟨w.heap.size + 1 + 1, 0, none⟩) 1 1, .string ⟨#[]⟩] 40)) := below_alloc (below_alloc (below_alloc (below_alloc (Below.refl _ _) _) _) _) _
  generalize ((((w.alloc (.cells #[.int .i64 1, .int .i64 1, .int .i64 0, .slice (some ⟨w.heap.size + 1 + 1 + 1, 0, none⟩) 1 1] 24)).alloc (.cells #[.int .i64 0, .int .i64 0, .int .i64 0, .string ⟨#[76]⟩, .string ⟨#[82]⟩] 49)).alloc (.cells #[.int .i64 0, .int .i64 1, .int .i64 0] 52)).alloc
      (.cells #[.string ⟨#[]⟩, .slice (some ⟨w.heap.size + 1, 0, none⟩) 1 1, .slice (some ⟨w.heap.size + 1 + 1, 0, none⟩) 1 1, .string ⟨#[]⟩] 40)) = W at *
  have c0 := blk_cell K0 0
  have c1 := blk_cell K0 1
  have c2 := blk_cell K0 2
  have c3 := blk_cell K0 3
  have hC : Kd.C kRung W (some ⟨w.heap.size + 1 + 1 + 1, 0, none⟩) 1 [exR] := by
    refine C_one kRung W _ exR [.string ⟨#[]⟩, .slice (some ⟨w.heap.size + 1, 0, none⟩) 1 1, .slice (some ⟨w.heap.size + 1 + 1, 0, none⟩) 1 1, .string ⟨#[]⟩] rfl
      (PPrinterMatchesReference.k40_mk W exR (A1 := some ⟨w.heap.size + 1, 0, none⟩) (c1 := 1) (Nat.le_refl _) ?_ (A2 := some ⟨w.heap.size + 1 + 1, 0, none⟩) (c2 := 1) (Nat.le_refl _) ?_) (fun i u hu => by rw [add_plain]; exact (blk_cell K3 i).trans (by simpa using hu))
    · exact C_one kCon W _ _ [.int .i64 0, .int .i64 0, .int .i64 0, .string ⟨#[76]⟩, .string ⟨#[82]⟩] rfl (PPrinterMatchesReference.k49_mk W _) (fun i u hu => by rw [add_plain]; exact (blk_cell K1 i).trans (by simpa using hu))
    · exact C_one kCoil W _ _ [.int .i64 0, .int .i64 1, .int .i64 0] rfl (PPrinterMatchesReference.k52_mk W _) (fun i u hu => by rw [add_plain]; exact (blk_cell K2 i).trans (by simpa using hu))
  clear K0 K1 K2 K3
  refine bodyPost_ret (v := .agg #[.int .i64 1, .int .i64 1, .int .i64 0, .slice (some ⟨w.heap.size + 1 + 1 + 1, 0, none⟩) 1 1]) ?_ rfl ⟨_, rfl, hB, hC⟩
  simp [results, Tryd.results21, go_sem, c0, c1, c2, c3]

def exT : List UInt8 := [115, 105, 122, 101, 32, 49, 32, 49, 32, 48, 10, 114, 117, 110, 103, 10, 110, 111, 32, 73, 48, 32, 76, 32, 82, 10, 111, 117, 116, 32, 81, 48, 10]
theorem exPrint : ladPrint 1 1 0 [exR] = (exT, 0) := by decide +kernel
theorem alive11_b (w : World) (hlt : Lets w) (hpw : Pows w) (hkw : Kws w) : Calls Tryd.prog 9 #[] w (RetB w (.bool true)) := by
  have HL := Aside0.mk hlt
  have HP := Aside0.mk hpw
  have HK := Aside0.mk hkw
  clear hlt hpw hkw
  go_enter Tryd.func9, Tryd.ntmps9
  go_wp2_with fail
  refine (example_b w).mono ?_
  rintro e w1 ⟨g, rfl, hb, hC⟩
  have C1 := print_b 1 1 0 (some ⟨g, 0, none⟩) 1 [exR] w1 hC (Nat.le_refl _) (HL.out.below hb) (HP.out.below hb) (HK.out.below hb)
  rw [exPrint] at C1
  go_wp2_with fail
  refine C1.mono ?_
  rintro e w2 ⟨rfl, hb2⟩
  have hB := below_step hb hb2
  have ht : (ByteArray.mk exT.toArray) = ⟨#[115, 105, 122, 101, 32, 49, 32, 49, 32, 48, 10, 114, 117, 110, 103, 10, 110, 111, 32, 73, 48, 32, 76, 32, 82, 10, 111, 117, 116, 32, 81, 48, 10]⟩ := rfl
  simp only [ht]
  clear C1 hC
  go_wp2
  go_ret
  exact ⟨rfl, hB⟩
end Go.Proofs.YtolmkdhgnganaaaDoor.H
