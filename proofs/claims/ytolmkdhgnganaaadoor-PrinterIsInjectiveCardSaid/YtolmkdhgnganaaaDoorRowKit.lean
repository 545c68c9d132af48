/-
  From a row's listed variables to what the contracts ask of the world; and arguments laid open. No law in sight.
-/
import Derived.Test.YtolmkdhgnganaaaDoorHAddr
import Derived.ProofKit
import Derived.OpenShut
import Derived.ShutString
import Derived.Lib.LaidU8
import Derived.Lib.SmallJoins
import Derived.Lay
import Derived.SizedLaws
import Derived.SevenTiedAt
set_option linter.unusedVariables false
set_option linter.unusedSimpArgs false
namespace Go.Proofs.YtolmkdhgnganaaaDoor.R
open Go Go.RowKit Go.Proofs Go.Proofs.YtolmkdhgnganaaaDoorW.PrintWords Go.Proofs.YtolmkdhgnganaaaDoor.H Go.ChangeShapes Go.WideShapes Go.ChangeAt

theorem own : ownKnob Tryd.prog.godebug = none := by kernel_rfl
theorem laidOut : laidOutB Tryd.prog = true := by kernel_rfl

/-- A listed array of strings: its cells. -/
theorem strs_cells {P : Program} {w : World} {name : String} {ds : List (DataW Unit)} {g t e n : Nat} (h : Lib.VarReads P w name (.agg ds)) (hg : P.globalNamed name = some g) (hty : (P.globals[g]?).map (·.type) = some t)
    (ht : P.underlying t = some (.array n e)) (he : P.underlying e = some .string) (hce : P.cellsOf e = 1) (i : Nat) (hi : i < n) (bs : List UInt8) (hd : ds[i]? = some (.lit (.string bs))) :
    w.cell? ⟨g, i, none⟩ = some (.string ⟨bs.toArray⟩) := by
  obtain ⟨g', t', cs, fuel, p, h1, h2, h3, h4⟩ := h
  obtain rfl := Option.some.inj (hg.symm.trans h1)
  obtain rfl := Option.some.inj (hty.symm.trans h2)
  obtain ⟨f2, d, q, e1, e2⟩ := Lib.array_elem ht h4 i hi
  rw [e1] at hd
  obtain rfl := Option.some.inj hd
  rw [hce] at e2
  obtain ⟨s, hc, hs, _⟩ := DataW.trod_string he e2
  have hcs : cs.toList[i]? = some (.string s) := by
    have := congrArg (·[0]?) hc
    simpa [List.getElem?_take, List.getElem?_drop] using this
  rw [World.var?_cell h1 h3 i]
  have hcs' : cs[i]? = some (.string s) := by simpa using hcs
  rw [hcs']
  simp only [Prod.mk.injEq, DataW.lit.injEq, Lit.string.injEq] at hs
  rw [hs.1]

/-- A listed error: it is not nil. -/
theorem err_var {P : Program} {w : World} {name tn : String} {d : DataW Unit} {g t : Nat} {ms : Array (String × TypeId)} (h : Lib.VarReads P w name (.iface tn d)) (hg : P.globalNamed name = some g) (hty : (P.globals[g]?).map (·.type) = some t)
    (ht : P.underlying t = some (.interface ms)) : ∃ u v, w.var? P name = some #[.iface u v] := by
  obtain ⟨g', t', cs, fuel, p, h1, h2, h3, h4⟩ := h
  obtain rfl := Option.some.inj (hg.symm.trans h1)
  obtain rfl := Option.some.inj (hty.symm.trans h2)
  have key : ∀ l : List Value, DataW.trod (fun _ => ()) P w 0 (fun _ => true) false fuel t l = some (.iface tn d, p) → ∃ u v, l = [.iface u v] := by
    intro l hl
    cases fuel with
    | zero => simp [DataW.trod] at hl
    | succ fuel =>
      unfold DataW.trod at hl
      rw [ht] at hl
      split at hl <;> first | (simp_all; done) | skip
      all_goals rename_i hu _
      all_goals first
        | exact ⟨_, _, rfl⟩
        | (exfalso; simp_all)
  obtain ⟨u, v, e⟩ := key cs.toList h4
  refine ⟨u, v, ?_⟩
  rw [h3]
  congr 1
  apply Array.toList_inj.1
  rw [e]

open Go.ChangeMaps (open_string shut_string)
/-- A datum that is a table of whole numbers. -/
theorem tab_reads {P : Program} {w : World} {name : String} {k : IntKind} {zs : List Int} {d : DataW Unit} {g t e n : Nat} (h : Lib.VarReads P w name d) (hd : d = Lib.tabData k zs) (hg : P.globalNamed name = some g) (hty : (P.globals[g]?).map (·.type) = some t)
    (ht : P.underlying t = some (.array n e)) (he : P.underlying e = some (.int k)) (hce : P.cellsOf e = 1) (hct : P.cellsOf t = n) : Lib.TabIs P w name k zs := by
  subst hd
  obtain ⟨g', t', cs, fuel, p, h1, h2, h3, h4⟩ := h
  obtain rfl := Option.some.inj (hg.symm.trans h1)
  obtain rfl := Option.some.inj (hty.symm.trans h2)
  unfold Lib.TabIs
  rw [h3, ← Lib.cells_of_tab ht he hce hct h4]
section
variable {H : Type} {enc : TypeId × Value → H} {P : Program} {w : World} {base : Nat} {sp : Nat → Bool} {held : Bool}
theorem open_one {t n : Nat} {k : IntKind} {v : Value} {y : DataW H × List MemPlace} (ht : P.underlying t = some (.int k)) (h : DataW.trod enc P w base sp held n t [v] = some y) : ∃ x, v = .int k x ∧ (Lit.int k x).wf = true := by
  obtain ⟨x, hx, _, hw⟩ := DataW.trod_int ht h
  exact ⟨x, by simpa using hx, hw⟩
/-- An array of three whole numbers. -/
theorem open_arr3 {r : Reach} {b0 : Nat} {t e : TypeId} {k : IntKind} {v : Value} {d : DataW H} {p : List MemPlace} (ht : P.underlying t = some (.array 3 e)) (he : P.underlying e = some (.int k)) (hce : P.cellsOf e = 1) (hct : P.cellsOf t = 3)
    (hv : Value.okWide P w r b0 t v) (h : DataW.Trod enc P w base sp held t v d p) :
    ∃ x y z, v = .agg #[.int k x, .int k y, .int k z] ∧ (Lit.int k x).wf = true ∧ (Lit.int k y).wf = true ∧ (Lit.int k z).wf = true := by
  obtain ⟨cs, rfl, hsz⟩ : ∃ cs, v = .agg cs ∧ cs.size = P.cellsOf t := by
    simp only [Value.okWide, ht] at hv
    obtain ⟨cs, h1, h2, _⟩ := hv
    exact ⟨cs, h1, h2⟩
  obtain ⟨c0, c1, c2, rfl⟩ := Joins.array3 (hsz.trans hct)
  obtain ⟨fuel, hf⟩ := h
  obtain ⟨d, hd⟩ : ∃ ds, d = .agg ds := by
    cases fuel with
    | zero => simp [DataW.trod] at hf
    | succ fuel =>
      simp only [DataW.trod, ht] at hf
      split at hf
      · obtain ⟨xs, hm, hx⟩ := Option.map_eq_some_iff.1 hf
        simp only [Prod.mk.injEq] at hx
        exact ⟨_, hx.1.symm⟩
      · cases hf
  subst hd
  have key : ∀ i (hi : i < 3) (c : Value), ([c0, c1, c2] : List Value)[i]? = some c → ∃ x, c = .int k x ∧ (Lit.int k x).wf = true := by
    intro i hi c hc
    obtain ⟨f2, d2, q, e1, e2⟩ := Lib.array_elem ht hf i hi
    rw [hce] at e2
    obtain ⟨x, hx, _, hw⟩ := DataW.trod_int he e2
    have := congrArg (·[0]?) hx
    refine ⟨x, ?_, hw⟩
    simp only [Value.cells, List.getElem?_take, List.getElem?_drop] at this
    simp only [Nat.mul_one, Nat.add_zero, Nat.zero_lt_one, if_true] at this
    simpa [hc] using this
  obtain ⟨x, rfl, wx⟩ := key 0 (by omega) c0 rfl
  obtain ⟨y, rfl, wy⟩ := key 1 (by omega) c1 rfl
  obtain ⟨z, rfl, wz⟩ := key 2 (by omega) c2 rfl
  exact ⟨x, y, z, rfl, wx, wy, wz⟩
theorem trod_blocks {t : TypeId} {v : Value} {d : DataW H} {p : List MemPlace} (h : DataW.Trod enc P w base sp held t v d p) : ∀ x ∈ p, x.block < w.heap.size := by
  obtain ⟨m, hm⟩ := h
  exact DataW.trod_lt m _ _ _ hm
end

/-- What a card asks of the parameters. -/
theorem plain_in {P : Program} {name : String} {f : FuncId} {fn : Func} {lk : Bool} (hf : P.funcs[f]? = some fn) (hn : P.funcNamed name = some f) (hlk : lk = P.looks []) (hall : (fn.params.toList.all fun t => !P.wantsStandIn t) = true) :
    ∀ f' fn', P.funcNamed name = some f' → P.funcs[f']? = some fn' → lk = P.looks [] ∧ ∀ (j : Nat) t, fn'.params[j]? = some t → P.wantsStandIn t = false := by
  intro f' fn' h1 h2
  obtain rfl := Option.some.inj (hn.symm.trans h1)
  obtain rfl := Option.some.inj (hf.symm.trans h2)
  refine ⟨hlk, fun j t ht => ?_⟩
  have hm : t ∈ fn.params.toList := by simpa using Array.mem_of_getElem? ht
  simpa using List.all_eq_true.1 hall t hm

theorem lets_of {w : World} (h : Lib.VarReads Tryd.prog w "busbar/addr.letters" (.agg [.lit (.string [73]), .lit (.string [81]), .lit (.string [77])])) : Lets w :=
  ⟨strs_cells (g := 2) h (by kernel_rfl) (by kernel_rfl) Tryd.underlying111 Tryd.underlying9 (by kernel_rfl) 0 (by omega) [73] rfl,
   strs_cells (g := 2) h (by kernel_rfl) (by kernel_rfl) Tryd.underlying111 Tryd.underlying9 (by kernel_rfl) 1 (by omega) [81] rfl,
   strs_cells (g := 2) h (by kernel_rfl) (by kernel_rfl) Tryd.underlying111 Tryd.underlying9 (by kernel_rfl) 2 (by omega) [77] rfl⟩
theorem pows_of {w : World} {d : DataW Unit} (h : Lib.VarReads Tryd.prog w "internal/strconv.uint64pow10" d) (hd : d = Lib.tabData .u64 Lib.pow10Tab) : Pows w :=
  ⟨tab_reads (g := 4) h hd (by kernel_rfl) (by kernel_rfl) Tryd.underlying149 Tryd.underlying126 (by kernel_rfl) (by kernel_rfl)⟩
theorem errs_of {w : World} {n1 n2 : String} {d1 d2 : DataW Unit} (h1 : Lib.VarReads Tryd.prog w "strconv.ErrSyntax" (.iface n1 d1)) (h2 : Lib.VarReads Tryd.prog w "strconv.ErrRange" (.iface n2 d2)) : Errs w :=
  ⟨err_var (g := 9) h1 (by kernel_rfl) (by kernel_rfl) Tryd.underlying107, err_var (g := 10) h2 (by kernel_rfl) (by kernel_rfl) Tryd.underlying107⟩

end Go.Proofs.YtolmkdhgnganaaaDoor.R
