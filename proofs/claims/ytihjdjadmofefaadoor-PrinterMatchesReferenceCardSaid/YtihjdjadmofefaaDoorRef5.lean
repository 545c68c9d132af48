/-
  The reference's Decimal (0 to 1000) and Format answer what the program's plain functions answer.
-/
import Derived.Test.YtihjdjadmofefaaDoorRef4
import Derived.Lib.ConvBytes
set_option linter.unusedVariables false
set_option linter.unusedSimpArgs false
namespace Go.Proofs.YtihjdjadmofefaaDoor.H
open Go Go.RowKit Go.Proofs Go.Proofs.YtihjdjadmofefaaDoorW.PrintWords Go.Proofs.YtihjdjadmofefaaDoor.Sp

def decUp : Nat → Nat → List UInt8 → Option (List UInt8)
  | 0, _, _ => none
  | k + 1, m, s => if m = 0 ∧ s ≠ [] then some s else decUp k (m / 10) (UInt8.ofNat (48 + m % 10) :: s)
theorem decUp_itoa : ∀ n : Fin 1001, decUp 6 n.val [] = some (itoaS (n.val : Int)).data.toList := by decide +kernel
def emptyV : Value → Nat
  | .string s => if s.size = 0 then 1 else 0
  | _ => 0

theorem one_digit (wr : World) (m : Int) (m0 : 0 ≤ m) : ∃ D : ByteArray, D.data.toList = [UInt8.ofNat (48 + m.toNat % 10)] ∧ D.size = 1 ∧
    (convert 77 9 (.slice (some ⟨wr.heap.size, 0, none⟩) 1 1)).run Tryd.prog (wr.alloc (.cells #[.int .u8 (48 + m % 10)] 5)) = .ok (.string D) (wr.alloc (.cells #[.int .u8 (48 + m % 10)] 5)) := by
  refine ⟨strOfNums [48 + m % 10], ?_, ?_, string_of_reads Tryd.underlying77 Tryd.underlying5 Tryd.underlying9 ⟨rfl, by decide, fun _ => ⟨_, rfl, fun j hj => ?_⟩⟩⟩
  · have e : (48 + m % 10).toNat = 48 + m.toNat % 10 := by omega
    simp [strOfNums, e]
  · simp [strOfNums, ByteArray.size]
  · match j, hj with
    | 0, _ => rw [add_plain]; exact (blk_cell (blk_new wr _) 0).trans rfl

set_option maxHeartbeats 1000000 in
set_option maxRecDepth 100000 in
theorem dec9_b (n : Int) (h0 : 0 ≤ n) (h1 : n ≤ 1000) (w : World) : Calls Tryd.prog 39 #[.int .i64 n] w (RetB w (.string (itoaS n))) := by
  have h := decUp_itoa ⟨n.toNat, by omega⟩
  simp only [show ((n.toNat : Nat) : Int) = n by omega] at h
  generalize itoaS n = V at h
  have HD := Aside0.mk h
  clear h
  go_enter Tryd.func39, Tryd.ntmps39
  go_wp2
  go_loopw [0, 3] (fun v0 v3 w' => ∃ (m : Int) (s : ByteArray) (kf : Nat), v0 = .int .i64 m ∧ v3 = .string s ∧ 0 ≤ m ∧ m ≤ 1000 ∧ s.size + kf ≤ 6 ∧ Aside0 (Below w.heap.size w w') ∧ Aside0 (decUp kf m.toNat s.data.toList = some V.data.toList)) (fun v0 v3 _ => 2 * (intOf v0).toNat + emptyV v3)
  case atStart => exact ⟨n, ⟨#[]⟩, 6, rfl, rfl, h0, h1, by decide, ⟨Below.refl _ _⟩, HD⟩
  case round =>
    obtain ⟨m, s, kf, rfl, rfl, m0, m1, hs, HB, HD⟩ := hrel
    have hsl : s.data.toList.length = s.size := by rw [Array.length_toList]; rfl
    obtain ⟨D, hD, hD1, hcv⟩ := one_digit wr m m0
    have hadd : (9223372036854775807 < D.size + s.size) = False := by simp; omega
    have hDS : (D ++ s).data.toList = UInt8.ofNat (48 + m.toNat % 10) :: s.data.toList := by
      rw [ByteArray.data_append, Array.toList_append, hD]; rfl
    have hDz : (D ++ s).size = 1 + s.size := by rw [ByteArray.size_append, hD1]
    have HDS := Aside0.mk hDS
    have HDz := Aside0.mk hDz
    have hmd : (m / 10).toNat = m.toNat / 10 := by omega
    clear hDS hDz hD hD1
    by_cases hm : 0 < m
    · obtain ⟨kf, rfl⟩ : ∃ k, kf = k + 1 := by
        cases kf with
        | zero => have := HD.out; cases this
        | succ k => exact ⟨k, rfl⟩
      have HD2 : Aside0 (decUp kf (m / 10).toNat (D ++ s).data.toList = some V.data.toList) := ⟨by
        have := HD.out
        rw [decUp, if_neg (fun h => by omega)] at this
        rw [hmd, HDS.out]; exact this⟩
      have HB2 := Aside0.mk (below_alloc HB.out (.cells #[.int .u8 (48 + m % 10)] 5))
      go_wp2
      go_roundw
      case rel => exact ⟨_, _, kf, rfl, rfl, by omega, by omega, by have := HDz.out; omega, HB2, HD2⟩
      case measure => simp only [intOf, emptyV]; have := HDz.out; split <;> split <;> omega
    · obtain rfl : m = 0 := by omega
      simp only [show (48 : Int) + 0 % 10 = 48 by decide] at hcv
      by_cases hz : s.size = 0
      · have z1 : s.toList.isEmpty = true := by rw [toList_isEmpty]; exact decide_eq_true hz
        have z2 : s.toList = [] := by simpa using z1
        have hsn : s.data.toList = [] := List.eq_nil_of_length_eq_zero (hsl.trans hz)
        obtain ⟨kf, rfl⟩ : ∃ k, kf = k + 1 := by
          cases kf with
          | zero => have := HD.out; cases this
          | succ k => exact ⟨k, rfl⟩
        have HD2 : Aside0 (decUp kf (0 : Int).toNat (D ++ s).data.toList = some V.data.toList) := ⟨by
          have := HD.out
          rw [decUp, if_neg (fun h => h.2 hsn)] at this
          rw [HDS.out]; exact this⟩
        have HB2 := Aside0.mk (below_alloc HB.out (.cells #[.int .u8 48] 5))
        have HZ := Aside0.mk hz
        clear hsn hz
        go_wp2
        go_roundw
        case rel => exact ⟨_, _, kf, rfl, rfl, by omega, by omega, by have := HDz.out; omega, HB2, HD2⟩
        case measure => simp only [intOf, emptyV]; rw [if_neg (by have := HDz.out; omega), if_pos HZ.out]; omega
      · have z1 : s.toList.isEmpty = false := by rw [toList_isEmpty]; exact decide_eq_false hz
        have z2 : ¬ s.toList = [] := by simpa using z1
        have hsn : s.data.toList ≠ [] := fun h => by rw [h] at hsl; exact hz hsl.symm
        have hV : s = V := by
          have := HD.out
          cases kf with
          | zero => cases this
          | succ k =>
            rw [decUp, if_pos ⟨rfl, hsn⟩] at this
            exact bytes_ext (Option.some.inj this)
        subst hV
        have FB := HB.out
        go_wp2
        go_ret
        exact ⟨rfl, FB⟩

theorem iqm (s : Int) (h0 : 0 ≤ s) (h2 : s ≤ 2) (W : World) : (Instr.slice 9 (.string ⟨#[73, 81, 77]⟩) (some (.int .i64 s)) (some (.int .i64 (s + 1))) none).run Tryd.prog W = .ok (.string ⟨#[letterOf s]⟩) W := by
  have hcase : s = 0 ∨ s = 1 ∨ s = 2 := by omega
  rcases hcase with rfl | rfl | rfl
  all_goals
    rw [run_slice_string_if _ _ _ _ _ _ _ Tryd.underlying9, if_pos (by decide), if_pos (by decide)]
    rfl

set_option maxHeartbeats 1000000 in
set_option maxRecDepth 100000 in
theorem fmt9_b (s n : Int) (h0 : 0 ≤ s) (h2 : s ≤ 2) (n0 : 0 ≤ n) (n1 : n ≤ 255) (w : World) :
    Calls Tryd.prog 41 #[.agg #[.int .i64 s, .int .i64 n]] w (RetB w (.string (addrFmt s n))) := by
  have e0 : addrFmt s n = ⟨#[letterOf s]⟩ ++ itoaS n := by unfold addrFmt; rw [if_neg (by omega)]
  rw [e0]
  clear e0
  have HDc := Aside0.mk (fun W => dec9_b n n0 (by omega) W)
  have hadd : (9223372036854775807 < (⟨#[letterOf s]⟩ : ByteArray).size + (itoaS n).size) = False := by
    obtain ⟨k, rfl⟩ := Int.eq_ofNat_of_zero_le n0
    have := itoa_len k (by omega)
    have h1 : (⟨#[letterOf s]⟩ : ByteArray).size = 1 := rfl
    simp; omega
  generalize itoaS n = D at HDc hadd
  have hsl := iqm s h0 h2
  have hsw : IntKind.i64.wrap (s + 1) = s + 1 := IntWalk.i64_in _ (by omega)
  have hsw2 : wrap64 (s + 1) = s + 1 := w64 (by omega) (by omega)
  generalize (⟨#[letterOf s]⟩ : ByteArray) = Lt at hsl hadd ⊢
  have F0 := below_alloc (Below.refl w.heap.size w) (.cells #[.int .i64 s, .int .i64 n] 48)
  go_enter Tryd.func41, Tryd.ntmps41
  go_wp2
  go_region_held3 (fun w' => w'.cell? ⟨w.heap.size, 0, none⟩ = some (.int .i64 s) ∧ w'.cell? ⟨w.heap.size, 1, none⟩ = some (.int .i64 n))
    (first | go_keep | (refine ⟨pw_cell_below hb ?_, pw_cell_below hb ?_⟩ <;> go_keep))
    (first | (go_at_call 39; (with_reducible refine (HDc.out _).mono ?_); rintro e_ w1 ⟨rfl, hb⟩))
  have FB := below_step (below_drew F0) hb
  go_wp2
  go_ret
  exact ⟨rfl, FB⟩
end Go.Proofs.YtihjdjadmofefaaDoor.H
