/-
  What the claim's row leans on, part 1: The library's contracts that are used. What the address layer computes, as plain functions on lists of bytes and whole numbers. No program in sight. What the functions of package addr do when they are called: each answers what its plain function answers, and nothing that was there is changed. Condition: the package's letters, strconv's table of powers and its two errors are laid as their initialisers lay them. lex.IsName: it answers what its plain function answers; nothing that was there is changed. Ladders in memory: names for the printed kinds, and the contracts of printer.part and of the two closures that look a label up. printer.part and printer.rung: they answer what their plain functions answer; nothing that was there is changed. printer.rung's walk. printer.Check: it answers what its plain function answers; nothing that was there is changed. printer.Equal: it answers what its plain function answers; nothing that was there is changed. printer.Equal's walk. Equal ladders: reflexive, symmetric. strings.Builder: copyCheck, WriteByte, WriteString of a builder that the call has made. The walks follow the kit's own of another numbering (Builder1).
-/
import Derived.Shelf.Strings.Builder1
import Derived.Shelf.Strings.Builder2
import Derived.Shelf.Strings.OnBuilder
import Derived.Shelf.Strings.Trim
import Derived.Shelf.Small.Utf8
import Derived.Shelf.Small.Strs
import Derived.Shelf.Strings.BuilderF
import Derived.Shelf.Strings.BuilderK
import Derived.Shelf.Utf8.RuneCount
import Derived.Shelf.Strings.Builder2Cap
import Derived.Shelf.Strconv.Atoi
import Derived.Shelf.Strconv.Itoa0
import Derived.Shelf.Strconv.Itoa1
import Derived.Shelf.LaysM
import Derived.Shelf.Strconv.Itoa2
import Derived.Shelf.Strconv.Itoa3
import Derived.Shelf.Strconv.AtoiErrFast
import Derived.Shelf.Strconv.ParseIntEmpty
import Derived.Shelf.Strconv.AtoiFail
import Derived.Shelf.Strconv.Clone
import Derived.Shelf.Strconv.SyntaxError
import Derived.Shelf.LaysC
import Derived.Shelf.Strconv.ToError
import Derived.Shelf.Strconv.AtoiErr
import Derived.Shelf.Strconv.ErrVar
import Derived.Shelf.Strconv.Lower
import Derived.Shelf.Strconv.ParseUint10
import Derived.Shelf.Strconv.ParseUint10Empty
import Derived.Shelf.Strconv.ParseUint10Any
import Derived.Shelf.Strconv.ParseInt10
import Derived.Shelf.Strconv.AtoiLong
import Derived.Shelf.Strconv.AtoiInnerAll
import Derived.Shelf.Strconv.RangeError
import Derived.Shelf.Strconv.ToErrorRange
import Derived.Shelf.Strconv.AtoiAll
import Derived.Shelf.Strconv.ErrVarAll
import Derived.Shelf.Strconv.ParseUintEmpty
import Derived.Shelf.Strconv.ParseUint10b64
import Derived.Shelf.Strconv.ParseUint10b32
import Derived.Shelf.Strconv.ParseUint10b16
import Derived.Shelf.Strconv.ParseUint10b8
import Derived.Shelf.Strconv.ParseUint10At
import Derived.Shelf.Strconv.ParseInt10At64
import Derived.Shelf.Strconv.ParseInt10At32
import Derived.Shelf.Strconv.ParseInt10At16
import Derived.Shelf.Strconv.ParseInt10At8
import Derived.Shelf.Strconv.ParseInt10All
import Derived.Shelf.Strings.Search1
import Derived.Shelf.Strings.Search2
import Derived.Shelf.Strings.Search3
import Derived.Shelf.Strings.Cut
import Derived.Shelf.Strings.Count
import Derived.Shelf.Strings.Shaped
import Derived.Shelf.Strings.Prefix
import Derived.Shelf.Strings.Split
import Derived.Shelf.Strings.Fields
import Derived.Shelf.Strings.Replace
import Derived.Shelf.Strings.SplitShaped
import Derived.Shelf.Unicode.Latin
import Derived.Shelf.Unicode.Decode
import Derived.Shelf.Strings.Runes
import Derived.Shelf.Strings.RuneCount
import Derived.Shelf.Strings.AsciiSet
import Derived.Shelf.Strings.Explode
import Derived.Shelf.Bits.Mul64
import Derived.Shelf.Strings.Repeat
import Derived.Shelf.Unicode.DecodeSlow
import Derived.Shelf.Unicode.DecodeAny
import Derived.Shelf.Unicode.Is16White
import Derived.Shelf.Unicode.IsSpaceAny
import Derived.Shelf.Unicode.DecodeLast
import Derived.Shelf.Unicode.Is16WhiteD
import Derived.Shelf.Unicode.IsSpaceAnyD
import Derived.Shelf.Strings.FieldsAny
import Derived.Shelf.Strings.FieldsFuncAny
import Derived.Shelf.Unicode.Is16Any
import Derived.Shelf.Unicode.Is32Any
import Derived.Shelf.Unicode.ExclAny
import Derived.Shelf.Strings.FieldsFuncGrows
import Derived.Shelf.Strings.BuilderCap
import Derived.Shelf.Slices.Turned
import Derived.Ground.Names2Prog
import Derived.Shelf.Slices.Clone
import Derived.Test.YtolmkdhgnganaaaGreatDoorProg
import Derived.Test.YtolmkdhgnganaaaGreatDoorWWords
import Derived.Lib.SlTrimSet
import Derived.Lib.ItoaNum
import Derived.Lib.SlicesS
import Derived.Lib.AtoiAllCases
import Derived.Tactics
import Derived.Tactics2
import Derived.WalkKit
import Derived.WalkSpells
import Derived.WalkLawsBesides
import Derived.OwnWalk
import Derived.Outline
import Derived.Deep.QuietTactic
import Derived.BigQuiet
import Derived.Deep.RegionHeld3
import Derived.Deep.RegionWith
import Derived.KernelRfl
import Derived.Lib.AppendIntMem
import Derived.Shelf.Strings.SlTrimAscii
import Derived.Laws.RangeAny
import Derived.LoopTactic
import Derived.Test.YtolmkdhgnganaaaGreatDoorPPrinterRoundTripx0
import Derived.Test.YtolmkdhgnganaaaGreatDoorPPrinterRoundTripx1
import Derived.Test.YtolmkdhgnganaaaGreatDoorWEqStruct
import Derived.Test.YtolmkdhgnganaaaGreatDoorWLast
import Derived.Test.YtolmkdhgnganaaaGreatDoorWMore
import Derived.Lib.Strings
import Derived.Lib.Slices
import Derived.Lib.Walk
import Derived.Lib.Builder
import Derived.Lib.AppendStr
import Derived.Lib.UnsafeStr
import Derived.Laws.Externs
import Derived.Laws.IdiomCopy
import Derived.Laws.BitsLemmas
import Derived.Lib.SmallJoins
import Derived.Test.YtolmkdhgnganaaaGreatDoorWApart
import Derived.RangeFuncNested
import Derived.RangeFuncBound
import Derived.RangeFuncBox
import Derived.RangeFuncCalls
import Derived.RangeFuncLeaves
import Derived.Shelf.Abstract
import Derived.Shelf.RegionOpen
import Derived.OwnWalkIn
import Derived.TacticsInMore
import Derived.LoopNIn
import Derived.LoopIn
import Derived.Lib.SplitLaws
import Derived.Test.YtolmkdhgnganaaaGreatDoorWRepsOne
import Derived.Maps.OwnIn
import Derived.Maps.Own
import Derived.Maps.OwnOps
import Derived.Laws.EntriesVeiled
import Derived.Lib.Replace
import Derived.ProofKit
import Derived.OpenShut
import Derived.ShutString
import Derived.Lib.LaidU8
import Derived.Lay
import Derived.SizedLaws
import Derived.SevenTiedAt
import Derived.Shelf.Vars
import Derived.HandedShaped
import Derived.Test.YtolmkdhgnganaaaGreatDoorCards
import Derived.Test.YtolmkdhgnganaaaGreatDoorTie
import Derived.LaidOnce
set_option linter.unusedVariables false
set_option linter.unusedSimpArgs false
namespace Go.Proofs
open Go.Shelf
def Tryz.lays170_ren : Go.Shelf.Ren := ⟨fun | 170 => 29 | n => n, fun | 70 => 61 | 3 => 3 | 0 => 0 | 72 => 64 | 37 => 62 | 5 => 5 | n => n, fun | n => n⟩
theorem Tryz.lays170 : Go.Proofs.Lays.n170 Tryz.prog Tryz.lays170_ren := {
  mixed := by kernel_rfl
  f170 := Tryz.func29.trans (congrArg some (by kernel_rfl))
  t0 := Tryz.underlying0
  a0 := Tryz.isAgg0
  z0 := Tryz.sizeOf0
  v0 := Tryz.zeroValue0
  t3 := Tryz.underlying3
  a3 := Tryz.isAgg3
  z3 := Tryz.sizeOf3
  v3 := Tryz.zeroValue3
  t37 := Tryz.underlying62
  a37 := Tryz.isAgg62
  z37 := Tryz.sizeOf62
  v37 := Tryz.zeroValue62
  t70 := Tryz.underlying61
  a70 := Tryz.isAgg61
  z70 := Tryz.sizeOf61
  v70 := Tryz.zeroValue61
  t72 := Tryz.underlying64
  a72 := Tryz.isAgg64
  z72 := Tryz.sizeOf64
  v72 := Tryz.zeroValue64 }
def Tryz.lays169_ren : Go.Shelf.Ren := ⟨fun | 169 => 30 | n => n, fun | 70 => 61 | 9 => 9 | 0 => 0 | 72 => 64 | 37 => 62 | 127 => 120 | 3 => 3 | 5 => 5 | n => n, fun | n => n⟩
theorem Tryz.lays169 : Go.Proofs.Lays.n169 Tryz.prog Tryz.lays169_ren := {
  mixed := by kernel_rfl
  f169 := Tryz.func30.trans (congrArg some (by kernel_rfl))
  t0 := Tryz.underlying0
  a0 := Tryz.isAgg0
  z0 := Tryz.sizeOf0
  v0 := Tryz.zeroValue0
  t3 := Tryz.underlying3
  a3 := Tryz.isAgg3
  z3 := Tryz.sizeOf3
  v3 := Tryz.zeroValue3
  t9 := Tryz.underlying9
  a9 := Tryz.isAgg9
  z9 := Tryz.sizeOf9
  v9 := Tryz.zeroValue9
  t37 := Tryz.underlying62
  a37 := Tryz.isAgg62
  z37 := Tryz.sizeOf62
  v37 := Tryz.zeroValue62
  t70 := Tryz.underlying61
  a70 := Tryz.isAgg61
  z70 := Tryz.sizeOf61
  v70 := Tryz.zeroValue61
  t72 := Tryz.underlying64
  a72 := Tryz.isAgg64
  z72 := Tryz.sizeOf64
  v72 := Tryz.zeroValue64
  t127 := Tryz.underlying120
  a127 := Tryz.isAgg120
  z127 := Tryz.sizeOf120
  v127 := Tryz.zeroValue120 }
theorem Tryz.Builder_Extra_169 : Builder.Extra Tryz.prog Tryz.lays169_ren := {
  sizeBuilder := by kernel_rfl
  liesBuilder := by kernel_rfl
  t5 := Tryz.underlying5
  a5 := Tryz.isAgg5
  z5 := Tryz.sizeOf5
  v5 := Tryz.zeroValue5
  infoByte := by kernel_rfl
  cellsByte := by kernel_rfl
  sizeByte := by kernel_rfl
  neB5 := by decide }
def Tryz.lays160_ren : Go.Shelf.Ren := ⟨fun | 160 => 117 | 232 => 136 | 231 => 135 | 227 => 137 | 234 => 139 | 233 => 138 | 236 => 141 | 235 => 140 | 228 => 147 | 271 => 149 | 151 => 148 | 197 => 73 | 120 => 156 | 152 => 155 | 260 => 104 | 137 => 160 | 119 => 161 | 224 => 102 | 225 => 101 | 217 => 100 | 266 => 122 | n => n, fun | 9 => 9 | 4 => 4 | 3 => 3 | 5 => 5 | 117 => 209 | 116 => 208 | 0 => 0 | 124 => 212 | 21 => 21 | 105 => 130 | 46 => 113 | 119 => 151 | 139 => 188 | 138 => 187 | n => n, fun | 3 => 6 | 4 => 7 | n => n⟩
theorem Tryz.lays160 : Go.Proofs.Lays.n160 Tryz.prog Tryz.lays160_ren := {
  mixed := by kernel_rfl
  f119 := Tryz.func161.trans (congrArg some (by kernel_rfl))
  f120 := Tryz.func156.trans (congrArg some (by kernel_rfl))
  f137 := Tryz.func160.trans (congrArg some (by kernel_rfl))
  f151 := Tryz.func148.trans (congrArg some (by kernel_rfl))
  f152 := Tryz.func155.trans (congrArg some (by kernel_rfl))
  f160 := Tryz.func117.trans (congrArg some (by kernel_rfl))
  f197 := Tryz.func73.trans (congrArg some (by kernel_rfl))
  f217 := Tryz.func100.trans (congrArg some (by kernel_rfl))
  f224 := Tryz.func102.trans (congrArg some (by kernel_rfl))
  f225 := Tryz.func101.trans (congrArg some (by kernel_rfl))
  f227 := Tryz.func137.trans (congrArg some (by kernel_rfl))
  f228 := Tryz.func147.trans (congrArg some (by kernel_rfl))
  f231 := Tryz.func135.trans (congrArg some (by kernel_rfl))
  f232 := Tryz.func136.trans (congrArg some (by kernel_rfl))
  f233 := Tryz.func138.trans (congrArg some (by kernel_rfl))
  f234 := Tryz.func139.trans (congrArg some (by kernel_rfl))
  f235 := Tryz.func140.trans (congrArg some (by kernel_rfl))
  f236 := Tryz.func141.trans (congrArg some (by kernel_rfl))
  f260 := Tryz.func104.trans (congrArg some (by kernel_rfl))
  f266 := Tryz.func122.trans (congrArg some (by kernel_rfl))
  f271 := Tryz.func149.trans (congrArg some (by kernel_rfl))
  t0 := Tryz.underlying0
  a0 := Tryz.isAgg0
  z0 := Tryz.sizeOf0
  v0 := Tryz.zeroValue0
  t3 := Tryz.underlying3
  a3 := Tryz.isAgg3
  z3 := Tryz.sizeOf3
  v3 := Tryz.zeroValue3
  t4 := Tryz.underlying4
  a4 := Tryz.isAgg4
  z4 := Tryz.sizeOf4
  v4 := Tryz.zeroValue4
  t5 := Tryz.underlying5
  a5 := Tryz.isAgg5
  z5 := Tryz.sizeOf5
  v5 := Tryz.zeroValue5
  t9 := Tryz.underlying9
  a9 := Tryz.isAgg9
  z9 := Tryz.sizeOf9
  v9 := Tryz.zeroValue9
  t21 := Tryz.underlying21
  a21 := Tryz.isAgg21
  z21 := Tryz.sizeOf21
  v21 := Tryz.zeroValue21
  t46 := Tryz.underlying113
  a46 := Tryz.isAgg113
  z46 := Tryz.sizeOf113
  v46 := Tryz.zeroValue113
  t105 := Tryz.underlying130
  a105 := Tryz.isAgg130
  z105 := Tryz.sizeOf130
  v105 := Tryz.zeroValue130
  t116 := Tryz.underlying208
  a116 := Tryz.isAgg208
  z116 := Tryz.sizeOf208
  t117 := Tryz.underlying209
  a117 := Tryz.isAgg209
  z117 := Tryz.sizeOf209
  v117 := Tryz.zeroValue209
  t119 := Tryz.underlying151
  a119 := Tryz.isAgg151
  z119 := Tryz.sizeOf151
  t124 := Tryz.underlying212
  a124 := Tryz.isAgg212
  z124 := Tryz.sizeOf212
  v124 := Tryz.zeroValue212
  t138 := Tryz.underlying187
  a138 := Tryz.isAgg187
  z138 := Tryz.sizeOf187
  v138 := Tryz.zeroValue187
  t139 := Tryz.underlying188
  a139 := Tryz.isAgg188
  z139 := Tryz.sizeOf188
  v139 := Tryz.zeroValue188
  g3 := by kernel_rfl
  g4 := by kernel_rfl }
open Go.RowKit in
/-- (*strings.Builder).Len: "Len returns the number of accumulated bytes; b.Len() == len(b.String()).": the world is as it was. (THE FORM '_f': 'Lib.IsBuilderF'.) (LAID: no walk: one application.) -/
theorem Tryz.Builder_Len_f (B b : Nat) (bs : List Value) (w : World) (h : Lib.IsBuilderF 64 5 B b bs w) :
    Calls Tryz.prog 29 #[.pointer (some ⟨b, 0, none⟩)] w fun e w' => e = .returned (.int .i64 bs.length) ∧ w' = w := Any.Builder_Len_f Tryz.lays170 B b bs w h
open Go.RowKit in
/-- (*strings.Builder).String: "String returns the accumulated string.": WHATEVER THE BUILDER HOLDS; THE FORM '_f': OF A BUILDER THAT MAY HAVE BEEN READ BEFORE; AND IT IS A BUILDER STILL, holding the same bytes: it can be written on. (LAID: no walk: one application.) -/
theorem Tryz.Builder_String_any_f (B b : Nat) (l : List UInt8) (w : World) (h : Lib.IsBuilderF 64 5 B b (Lib.byteCells l) w) (hBw : B ≤ w.heap.size) :
    Calls Tryz.prog 30 #[.pointer (some ⟨b, 0, none⟩)] w fun e w' => e = .returned (.string ⟨l.toArray⟩) ∧ (Lib.IsBuilderF 64 5 B b (Lib.byteCells l) w' ∧ Below B w w') := Any.Builder_String_any_f Tryz.lays169 Tryz.Builder_Extra_169 B b l w h hBw
def Tryz.laysM171_ren : Go.Shelf.Ren := ⟨fun | 171 => 27 | 243 => 58 | 246 => 87 | 283 => 110 | 284 => 111 | 285 => 112 | 286 => 113 | 129 => 128 | 317 => 127 | 318 => 129 | 319 => 130 | 320 => 131 | 337 => 145 | 338 => 146 | n => n, fun | 3 => 3 | 9 => 9 | 2 => 2 | 4 => 4 | 171 => 171 | 0 => 0 | 53 => 143 | 37 => 62 | 5 => 5 | 173 => 174 | 212 => 191 | 51 => 140 | 20 => 20 | 213 => 192 | 46 => 113 | 232 => 224 | 233 => 225 | n => n, fun | 17 => 8 | 18 => 9 | 19 => 10 | n => n⟩
theorem Tryz.laysM171 : Go.Proofs.LaysM.n171 Tryz.prog Tryz.laysM171_ren := {
  mixed := by kernel_rfl
  f129 := Tryz.func128.trans (congrArg some (by kernel_rfl))
  f171 := Tryz.func27.trans (congrArg some (by kernel_rfl))
  f243 := Tryz.func58.trans (congrArg some (by kernel_rfl))
  f246 := Tryz.func87.trans (congrArg some (by kernel_rfl))
  f283 := Tryz.func110.trans (congrArg some (by kernel_rfl))
  f284 := Tryz.func111.trans (congrArg some (by kernel_rfl))
  f285 := Tryz.func112.trans (congrArg some (by kernel_rfl))
  f286 := Tryz.func113.trans (congrArg some (by kernel_rfl))
  f317 := Tryz.func127.trans (congrArg some (by kernel_rfl))
  f318 := Tryz.func129.trans (congrArg some (by kernel_rfl))
  f319 := Tryz.func130.trans (congrArg some (by kernel_rfl))
  f320 := Tryz.func131.trans (congrArg some (by kernel_rfl))
  f337 := Tryz.func145.trans (congrArg some (by kernel_rfl))
  f338 := Tryz.func146.trans (congrArg some (by kernel_rfl))
  t0 := Tryz.underlying0
  a0 := Tryz.isAgg0
  z0 := Tryz.sizeOf0
  v0 := Tryz.zeroValue0
  t2 := Tryz.underlying2
  a2 := Tryz.isAgg2
  z2 := Tryz.sizeOf2
  v2 := Tryz.zeroValue2
  t3 := Tryz.underlying3
  a3 := Tryz.isAgg3
  z3 := Tryz.sizeOf3
  v3 := Tryz.zeroValue3
  t4 := Tryz.underlying4
  a4 := Tryz.isAgg4
  z4 := Tryz.sizeOf4
  v4 := Tryz.zeroValue4
  t5 := Tryz.underlying5
  a5 := Tryz.isAgg5
  z5 := Tryz.sizeOf5
  v5 := Tryz.zeroValue5
  t9 := Tryz.underlying9
  a9 := Tryz.isAgg9
  z9 := Tryz.sizeOf9
  v9 := Tryz.zeroValue9
  t20 := Tryz.underlying20
  a20 := Tryz.isAgg20
  z20 := Tryz.sizeOf20
  v20 := Tryz.zeroValue20
  t37 := Tryz.underlying62
  a37 := Tryz.isAgg62
  z37 := Tryz.sizeOf62
  v37 := Tryz.zeroValue62
  t46 := Tryz.underlying113
  a46 := Tryz.isAgg113
  z46 := Tryz.sizeOf113
  v46 := Tryz.zeroValue113
  t51 := Tryz.underlying140
  a51 := Tryz.isAgg140
  z51 := Tryz.sizeOf140
  v51 := Tryz.zeroValue140
  t53 := Tryz.underlying143
  a53 := Tryz.isAgg143
  z53 := Tryz.sizeOf143
  v53 := Tryz.zeroValue143
  t171 := Tryz.underlying171
  a171 := Tryz.isAgg171
  z171 := Tryz.sizeOf171
  v171 := Tryz.zeroValue171
  t173 := Tryz.underlying174
  a173 := Tryz.isAgg174
  z173 := Tryz.sizeOf174
  v173 := Tryz.zeroValue174
  t212 := Tryz.underlying191
  a212 := Tryz.isAgg191
  z212 := Tryz.sizeOf191
  v212 := Tryz.zeroValue191
  t213 := Tryz.underlying192
  a213 := Tryz.isAgg192
  z213 := Tryz.sizeOf192
  t232 := Tryz.underlying224
  a232 := Tryz.isAgg224
  z232 := Tryz.sizeOf224
  v232 := Tryz.zeroValue224
  t233 := Tryz.underlying225
  a233 := Tryz.isAgg225
  z233 := Tryz.sizeOf225
  v233 := Tryz.zeroValue225
  g17 := by kernel_rfl
  g18 := by kernel_rfl
  g19 := by kernel_rfl
  i0 := by kernel_rfl
  i2 := by kernel_rfl
  i3 := by kernel_rfl
  i4 := by kernel_rfl
  i5 := by kernel_rfl
  i9 := by kernel_rfl
  i20 := by kernel_rfl
  i37 := by kernel_rfl
  i46 := by kernel_rfl
  i51 := by kernel_rfl
  i53 := by kernel_rfl
  i171 := by kernel_rfl
  i173 := by kernel_rfl
  i212 := by kernel_rfl
  i232 := by kernel_rfl
  i233 := by kernel_rfl
  m17 := by kernel_rfl
  m18 := by kernel_rfl
  m19 := by kernel_rfl }
open Go.RowKit Go.Sort Go.Lib in
/-- strconv.Itoa: "Itoa is equivalent to FormatInt(int64(i), 10).": i's DECIMAL NUMERAL ('Lib.itoa': a '-' where i is negative, then the digits), FOR EVERY int. The world behind the call: the world before it, new blocks behind the heap (the library's 'var a [24]byte'), draws. (LAID: no walk: one application.) -/
theorem Tryz.strconv_Itoa (n : Int) (h0 : -9223372036854775808 ≤ n) (h1 : n ≤ 9223372036854775807) (w : World) (htab : Lib.TabIs Tryz.prog w "internal/strconv.uint64pow10" .u64 Lib.pow10Tab) :
    Calls Tryz.prog 27 #[.int .i64 n] w fun e w' => e = .returned (.string ⟨(Lib.itoa n).toArray⟩) ∧ ∃ k os, w' = grow (w.drewN k) os := Any.strconv_Itoa Tryz.laysM171 n h0 h1 w htab
def Tryz.laysC172_ren : Go.Shelf.Ren := ⟨fun | 172 => 118 | 244 => 142 | 245 => 143 | 247 => 150 | 279 => 151 | 280 => 152 | 281 => 153 | 282 => 154 | 287 => 157 | 316 => 158 | 171 => 27 | 205 => 159 | 321 => 162 | 322 => 163 | 243 => 58 | 246 => 87 | 283 => 110 | 284 => 111 | 285 => 112 | 286 => 113 | 129 => 128 | 317 => 127 | 318 => 129 | 319 => 130 | 320 => 131 | 337 => 145 | 338 => 146 | n => n, fun | 9 => 9 | 3 => 3 | 75 => 108 | 76 => 109 | 4 => 4 | 5 => 5 | 167 => 218 | 37 => 62 | 0 => 0 | 85 => 219 | 2 => 2 | 168 => 221 | 53 => 143 | 175 => 227 | 46 => 113 | 210 => 231 | 127 => 120 | 145 => 236 | 143 => 234 | 21 => 21 | 171 => 171 | 173 => 174 | 212 => 191 | 51 => 140 | 20 => 20 | 213 => 192 | 232 => 224 | 233 => 225 | 80 => 71 | n => n, fun | 15 => 11 | 16 => 12 | 17 => 8 | 18 => 9 | 19 => 10 | n => n⟩
theorem Tryz.laysC172 : Go.Proofs.LaysC.n172 Tryz.prog Tryz.laysC172_ren := {
  mixed := by kernel_rfl
  f129 := Tryz.func128.trans (congrArg some (by kernel_rfl))
  f171 := Tryz.func27.trans (congrArg some (by kernel_rfl))
  f172 := Tryz.func118.trans (congrArg some (by kernel_rfl))
  f205 := Tryz.func159.trans (congrArg some (by kernel_rfl))
  f243 := Tryz.func58.trans (congrArg some (by kernel_rfl))
  f244 := Tryz.func142.trans (congrArg some (by kernel_rfl))
  f245 := Tryz.func143.trans (congrArg some (by kernel_rfl))
  f246 := Tryz.func87.trans (congrArg some (by kernel_rfl))
  f247 := Tryz.func150.trans (congrArg some (by kernel_rfl))
  f279 := Tryz.func151.trans (congrArg some (by kernel_rfl))
  f280 := Tryz.func152.trans (congrArg some (by kernel_rfl))
  f281 := Tryz.func153.trans (congrArg some (by kernel_rfl))
  f282 := Tryz.func154.trans (congrArg some (by kernel_rfl))
  f283 := Tryz.func110.trans (congrArg some (by kernel_rfl))
  f284 := Tryz.func111.trans (congrArg some (by kernel_rfl))
  f285 := Tryz.func112.trans (congrArg some (by kernel_rfl))
  f286 := Tryz.func113.trans (congrArg some (by kernel_rfl))
  f287 := Tryz.func157.trans (congrArg some (by kernel_rfl))
  f316 := Tryz.func158.trans (congrArg some (by kernel_rfl))
  f317 := Tryz.func127.trans (congrArg some (by kernel_rfl))
  f318 := Tryz.func129.trans (congrArg some (by kernel_rfl))
  f319 := Tryz.func130.trans (congrArg some (by kernel_rfl))
  f320 := Tryz.func131.trans (congrArg some (by kernel_rfl))
  f321 := Tryz.func162.trans (congrArg some (by kernel_rfl))
  f322 := Tryz.func163.trans (congrArg some (by kernel_rfl))
  f337 := Tryz.func145.trans (congrArg some (by kernel_rfl))
  f338 := Tryz.func146.trans (congrArg some (by kernel_rfl))
  t0 := Tryz.underlying0
  a0 := Tryz.isAgg0
  z0 := Tryz.sizeOf0
  v0 := Tryz.zeroValue0
  t2 := Tryz.underlying2
  a2 := Tryz.isAgg2
  z2 := Tryz.sizeOf2
  v2 := Tryz.zeroValue2
  t3 := Tryz.underlying3
  a3 := Tryz.isAgg3
  z3 := Tryz.sizeOf3
  v3 := Tryz.zeroValue3
  t4 := Tryz.underlying4
  a4 := Tryz.isAgg4
  z4 := Tryz.sizeOf4
  v4 := Tryz.zeroValue4
  t5 := Tryz.underlying5
  a5 := Tryz.isAgg5
  z5 := Tryz.sizeOf5
  v5 := Tryz.zeroValue5
  t9 := Tryz.underlying9
  a9 := Tryz.isAgg9
  z9 := Tryz.sizeOf9
  v9 := Tryz.zeroValue9
  t20 := Tryz.underlying20
  a20 := Tryz.isAgg20
  z20 := Tryz.sizeOf20
  v20 := Tryz.zeroValue20
  t21 := Tryz.underlying21
  a21 := Tryz.isAgg21
  z21 := Tryz.sizeOf21
  v21 := Tryz.zeroValue21
  t37 := Tryz.underlying62
  a37 := Tryz.isAgg62
  z37 := Tryz.sizeOf62
  v37 := Tryz.zeroValue62
  t46 := Tryz.underlying113
  a46 := Tryz.isAgg113
  z46 := Tryz.sizeOf113
  v46 := Tryz.zeroValue113
  t51 := Tryz.underlying140
  a51 := Tryz.isAgg140
  z51 := Tryz.sizeOf140
  v51 := Tryz.zeroValue140
  t53 := Tryz.underlying143
  a53 := Tryz.isAgg143
  z53 := Tryz.sizeOf143
  v53 := Tryz.zeroValue143
  t75 := Tryz.underlying108
  a75 := Tryz.isAgg108
  z75 := Tryz.sizeOf108
  v75 := Tryz.zeroValue108
  t76 := Tryz.underlying109
  a76 := Tryz.isAgg109
  z76 := Tryz.sizeOf109
  v76 := Tryz.zeroValue109
  t85 := Tryz.underlying219
  a85 := Tryz.isAgg219
  z85 := Tryz.sizeOf219
  v85 := Tryz.zeroValue219
  t127 := Tryz.underlying120
  a127 := Tryz.isAgg120
  z127 := Tryz.sizeOf120
  v127 := Tryz.zeroValue120
  t143 := Tryz.underlying234
  a143 := Tryz.isAgg234
  z143 := Tryz.sizeOf234
  v143 := Tryz.zeroValue234
  t145 := Tryz.underlying236
  a145 := Tryz.isAgg236
  z145 := Tryz.sizeOf236
  v145 := Tryz.zeroValue236
  t167 := Tryz.underlying218
  a167 := Tryz.isAgg218
  z167 := Tryz.sizeOf218
  v167 := Tryz.zeroValue218
  t168 := Tryz.underlying221
  a168 := Tryz.isAgg221
  z168 := Tryz.sizeOf221
  v168 := Tryz.zeroValue221
  t171 := Tryz.underlying171
  a171 := Tryz.isAgg171
  z171 := Tryz.sizeOf171
  v171 := Tryz.zeroValue171
  t173 := Tryz.underlying174
  a173 := Tryz.isAgg174
  z173 := Tryz.sizeOf174
  v173 := Tryz.zeroValue174
  t175 := Tryz.underlying227
  a175 := Tryz.isAgg227
  z175 := Tryz.sizeOf227
  v175 := Tryz.zeroValue227
  t210 := Tryz.underlying231
  a210 := Tryz.isAgg231
  z210 := Tryz.sizeOf231
  v210 := Tryz.zeroValue231
  t212 := Tryz.underlying191
  a212 := Tryz.isAgg191
  z212 := Tryz.sizeOf191
  v212 := Tryz.zeroValue191
  t213 := Tryz.underlying192
  a213 := Tryz.isAgg192
  z213 := Tryz.sizeOf192
  t232 := Tryz.underlying224
  a232 := Tryz.isAgg224
  z232 := Tryz.sizeOf224
  v232 := Tryz.zeroValue224
  t233 := Tryz.underlying225
  a233 := Tryz.isAgg225
  z233 := Tryz.sizeOf225
  v233 := Tryz.zeroValue225
  g15 := by kernel_rfl
  g16 := by kernel_rfl
  g17 := by kernel_rfl
  g18 := by kernel_rfl
  g19 := by kernel_rfl
  t80 := Tryz.underlying71
  a80 := Tryz.isAgg71
  z80 := Tryz.sizeOf71
  v80 := Tryz.zeroValue71
  i0 := by kernel_rfl
  i2 := by kernel_rfl
  i3 := by kernel_rfl
  i4 := by kernel_rfl
  i5 := by kernel_rfl
  i9 := by kernel_rfl
  i20 := by kernel_rfl
  i21 := by kernel_rfl
  i37 := by kernel_rfl
  i46 := by kernel_rfl
  i51 := by kernel_rfl
  i53 := by kernel_rfl
  i75 := by kernel_rfl
  i76 := by kernel_rfl
  i80 := by kernel_rfl
  i85 := by kernel_rfl
  i127 := by kernel_rfl
  i143 := by kernel_rfl
  i145 := by kernel_rfl
  i167 := by kernel_rfl
  i168 := by kernel_rfl
  i171 := by kernel_rfl
  i173 := by kernel_rfl
  i175 := by kernel_rfl
  i210 := by kernel_rfl
  i212 := by kernel_rfl
  i232 := by kernel_rfl
  i233 := by kernel_rfl
  m15 := by kernel_rfl
  m16 := by kernel_rfl
  m17 := by kernel_rfl
  m18 := by kernel_rfl
  m19 := by kernel_rfl
  c0 := by kernel_rfl
  c2 := by kernel_rfl
  c3 := by kernel_rfl
  c4 := by kernel_rfl
  c5 := by kernel_rfl
  c9 := by kernel_rfl
  c20 := by kernel_rfl
  c21 := by kernel_rfl
  c37 := by kernel_rfl
  c46 := by kernel_rfl
  c51 := by kernel_rfl
  c53 := by kernel_rfl
  c75 := by kernel_rfl
  c76 := by kernel_rfl
  c80 := by kernel_rfl
  c85 := by kernel_rfl
  c127 := by kernel_rfl
  c143 := by kernel_rfl
  c145 := by kernel_rfl
  c167 := by kernel_rfl
  c168 := by kernel_rfl
  c171 := by kernel_rfl
  c173 := by kernel_rfl
  c175 := by kernel_rfl
  c210 := by kernel_rfl
  c212 := by kernel_rfl
  c213 := by kernel_rfl
  c232 := by kernel_rfl
  c233 := by kernel_rfl }
open Go.RowKit in
/-- strconv.Atoi, AT EVERY STRING THAT SPELLS AN int ('Lib.atoiAll .. = .ok v'; of whatever length: leading zeros count): v, AND NO ERROR. The world: as it was, or with the one new row that '[]byte(..)' lays. (LAID: no walk: one application.) -/
theorem Tryz.strconv_Atoi_ok (s : ByteArray) (hmax : s.size ≤ 9223372036854775806) (v : Int) (h : Lib.atoiAll s.data.toList = .ok v) (w : World) :
    Calls Tryz.prog 118 #[.string s] w fun e w' => e = .returned (.tuple #[.int .i64 v, .nilIface]) ∧ (w' = w ∨ ∃ t, w' = Lib.bytesWorld w 5 t) := Any.strconv_Atoi_ok Tryz.laysC172 s hmax v h w
open Go.RowKit in
theorem Tryz.strconv_Atoi_range_var (s : ByteArray) (hlim : s.size ≤ 281474976710656) (h : Lib.atoiAll s.data.toList = .range) (tp : TypeId) (p : Value) (w : World) (hvar : w.var? Tryz.prog "strconv.ErrRange" = some #[.iface tp p]) :
    Calls Tryz.prog 118 #[.string s] w fun e w' => ∃ N, e = .returned (.tuple #[.int .i64 (Lib.atoiSat s.data.toList), .iface 221 (.pointer (some ⟨N, 0, none⟩))]) ∧ w.heap.size ≤ N ∧ w'.heap[N]? = some (.cells #[.string ⟨#[65, 116, 111, 105]⟩, .string s, .iface tp p] 231 (0, 0)) ∧ Below w.heap.size w w' := Any.strconv_Atoi_range_var Tryz.laysC172 s hlim h tp p w hvar
def Tryz.lays145_ren : Go.Shelf.Ren := ⟨fun | 145 => 90 | 220 => 115 | 219 => 72 | 217 => 100 | 225 => 101 | 224 => 102 | 267 => 103 | 266 => 122 | 314 => 123 | n => n, fun | 9 => 9 | 4 => 4 | 59 => 149 | 3 => 3 | 5 => 5 | 46 => 113 | 146 => 141 | 51 => 140 | n => n, fun | 1 => 3 | n => n⟩
theorem Tryz.lays145 : Go.Proofs.Lays.n145 Tryz.prog Tryz.lays145_ren := {
  mixed := by kernel_rfl
  f145 := Tryz.func90.trans (congrArg some (by kernel_rfl))
  f217 := Tryz.func100.trans (congrArg some (by kernel_rfl))
  f219 := Tryz.func72.trans (congrArg some (by kernel_rfl))
  f220 := Tryz.func115.trans (congrArg some (by kernel_rfl))
  f224 := Tryz.func102.trans (congrArg some (by kernel_rfl))
  f225 := Tryz.func101.trans (congrArg some (by kernel_rfl))
  f266 := Tryz.func122.trans (congrArg some (by kernel_rfl))
  f267 := Tryz.func103.trans (congrArg some (by kernel_rfl))
  f314 := Tryz.func123.trans (congrArg some (by kernel_rfl))
  t3 := Tryz.underlying3
  a3 := Tryz.isAgg3
  z3 := Tryz.sizeOf3
  v3 := Tryz.zeroValue3
  t4 := Tryz.underlying4
  a4 := Tryz.isAgg4
  z4 := Tryz.sizeOf4
  v4 := Tryz.zeroValue4
  t5 := Tryz.underlying5
  a5 := Tryz.isAgg5
  z5 := Tryz.sizeOf5
  v5 := Tryz.zeroValue5
  t9 := Tryz.underlying9
  a9 := Tryz.isAgg9
  z9 := Tryz.sizeOf9
  v9 := Tryz.zeroValue9
  t46 := Tryz.underlying113
  a46 := Tryz.isAgg113
  z46 := Tryz.sizeOf113
  v46 := Tryz.zeroValue113
  t51 := Tryz.underlying140
  a51 := Tryz.isAgg140
  z51 := Tryz.sizeOf140
  v51 := Tryz.zeroValue140
  t59 := Tryz.underlying149
  a59 := Tryz.isAgg149
  z59 := Tryz.sizeOf149
  v59 := Tryz.zeroValue149
  t146 := Tryz.underlying141
  a146 := Tryz.isAgg141
  z146 := Tryz.sizeOf141
  v146 := Tryz.zeroValue141
  g1 := by kernel_rfl }
open Go.RowKit Go.Lib in
/-- strings.Cut: "Cut slices s around the first instance of sep, returning the text before and after sep. The found result reports whether sep appears in s. If sep does not appear in s, cut returns s, "", false.": IT RETURNS 'Lib.cut s sep'; the world is as it was but for the count of draws. (LAID: no walk: one application.) -/
theorem Tryz.strings_Cut (s sep : ByteArray) (m : Int) (w : World) (hs : s.size < 4294967281) (hm : w.cell? ⟨3, 0, none⟩ = some (.int .i64 m)) :
    Calls Tryz.prog 90 #[.string s, .string sep] w fun e w' => e = .returned (.tuple #[.string ⟨(Lib.cut s.data.toList sep.data.toList).1.toArray⟩, .string ⟨(Lib.cut s.data.toList sep.data.toList).2.1.toArray⟩, .bool (Lib.cut s.data.toList sep.data.toList).2.2]) ∧ ∃ n, w' = w.drewN n := Any.strings_Cut Tryz.lays145 s sep m w hs hm
def Tryz.lays146_ren : Go.Shelf.Ren := ⟨fun | 146 => 89 | 221 => 114 | 268 => 132 | 138 => 15 | 143 => 47 | 195 => 45 | 197 => 73 | 218 => 46 | 219 => 72 | 260 => 104 | 217 => 100 | 225 => 101 | 224 => 102 | 267 => 103 | 266 => 122 | 314 => 123 | n => n, fun | 9 => 9 | 31 => 38 | 3 => 3 | 4 => 4 | 0 => 0 | 105 => 130 | 21 => 21 | 5 => 5 | 46 => 113 | 119 => 151 | 139 => 188 | 138 => 187 | 146 => 141 | 51 => 140 | n => n, fun | 1 => 3 | 3 => 6 | 4 => 7 | n => n⟩
theorem Tryz.lays146 : Go.Proofs.Lays.n146 Tryz.prog Tryz.lays146_ren := {
  mixed := by kernel_rfl
  f138 := Tryz.func15.trans (congrArg some (by kernel_rfl))
  f143 := Tryz.func47.trans (congrArg some (by kernel_rfl))
  f146 := Tryz.func89.trans (congrArg some (by kernel_rfl))
  f195 := Tryz.func45.trans (congrArg some (by kernel_rfl))
  f197 := Tryz.func73.trans (congrArg some (by kernel_rfl))
  f217 := Tryz.func100.trans (congrArg some (by kernel_rfl))
  f218 := Tryz.func46.trans (congrArg some (by kernel_rfl))
  f219 := Tryz.func72.trans (congrArg some (by kernel_rfl))
  f221 := Tryz.func114.trans (congrArg some (by kernel_rfl))
  f224 := Tryz.func102.trans (congrArg some (by kernel_rfl))
  f225 := Tryz.func101.trans (congrArg some (by kernel_rfl))
  f260 := Tryz.func104.trans (congrArg some (by kernel_rfl))
  f266 := Tryz.func122.trans (congrArg some (by kernel_rfl))
  f267 := Tryz.func103.trans (congrArg some (by kernel_rfl))
  f268 := Tryz.func132.trans (congrArg some (by kernel_rfl))
  f314 := Tryz.func123.trans (congrArg some (by kernel_rfl))
  t0 := Tryz.underlying0
  a0 := Tryz.isAgg0
  z0 := Tryz.sizeOf0
  v0 := Tryz.zeroValue0
  t3 := Tryz.underlying3
  a3 := Tryz.isAgg3
  z3 := Tryz.sizeOf3
  v3 := Tryz.zeroValue3
  t4 := Tryz.underlying4
  a4 := Tryz.isAgg4
  z4 := Tryz.sizeOf4
  v4 := Tryz.zeroValue4
  t5 := Tryz.underlying5
  a5 := Tryz.isAgg5
  z5 := Tryz.sizeOf5
  v5 := Tryz.zeroValue5
  t9 := Tryz.underlying9
  a9 := Tryz.isAgg9
  z9 := Tryz.sizeOf9
  v9 := Tryz.zeroValue9
  t21 := Tryz.underlying21
  a21 := Tryz.isAgg21
  z21 := Tryz.sizeOf21
  v21 := Tryz.zeroValue21
  t31 := Tryz.underlying38
  a31 := Tryz.isAgg38
  z31 := Tryz.sizeOf38
  v31 := Tryz.zeroValue38
  t46 := Tryz.underlying113
  a46 := Tryz.isAgg113
  z46 := Tryz.sizeOf113
  v46 := Tryz.zeroValue113
  t51 := Tryz.underlying140
  a51 := Tryz.isAgg140
  z51 := Tryz.sizeOf140
  v51 := Tryz.zeroValue140
  t105 := Tryz.underlying130
  a105 := Tryz.isAgg130
  z105 := Tryz.sizeOf130
  v105 := Tryz.zeroValue130
  t119 := Tryz.underlying151
  a119 := Tryz.isAgg151
  z119 := Tryz.sizeOf151
  t138 := Tryz.underlying187
  a138 := Tryz.isAgg187
  z138 := Tryz.sizeOf187
  v138 := Tryz.zeroValue187
  t139 := Tryz.underlying188
  a139 := Tryz.isAgg188
  z139 := Tryz.sizeOf188
  v139 := Tryz.zeroValue188
  t146 := Tryz.underlying141
  a146 := Tryz.isAgg141
  z146 := Tryz.sizeOf141
  v146 := Tryz.zeroValue141
  g1 := by kernel_rfl
  g3 := by kernel_rfl
  g4 := by kernel_rfl }
open Go.RowKit Go.Lib in
/-- strings.Split. (LAID: no walk: one application.) -/
theorem Tryz.strings_Split (s sep : ByteArray) (m : Int) (w : World) (hs : s.size < 4294967281) (hm : w.cell? ⟨3, 0, none⟩ = some (.int .i64 m)) (h1 : 1 ≤ sep.size) :
    Calls Tryz.prog 89 #[.string s, .string sep] w fun e w' =>
      e = .returned (.slice (some ⟨w.heap.size, 0, none⟩) (Lib.countB s sep + 1) (Lib.countB s sep + 1)) ∧ w' = w.alloc (.cells ((Lib.splitB sep 0 (Lib.countB s sep) s).map Value.string).toArray 9) := Any.strings_Split Tryz.lays146 (by kernel_rfl) s sep m w hs hm h1
def Tryz.lays157_ren : Go.Shelf.Ren := ⟨fun | 157 => 62 | 229 => 91 | 199 => 92 | 261 => 116 | 311 => 133 | 312 => 134 | n => n, fun | 9 => 9 | 31 => 38 | 3 => 3 | 5 => 5 | 4 => 4 | 119 => 151 | 0 => 0 | 40 => 153 | 152 => 177 | 21 => 21 | 154 => 179 | 51 => 140 | 141 => 181 | 196 => 199 | 193 => 196 | 198 => 201 | 49 => 46 | 194 => 197 | 201 => 204 | 226 => 215 | 46 => 113 | 227 => 216 | n => n, fun | 0 => 4 | 6 => 5 | n => n⟩
theorem Tryz.lays157 : Go.Proofs.Lays.n157 Tryz.prog Tryz.lays157_ren := {
  mixed := by kernel_rfl
  f157 := Tryz.func62.trans (congrArg some (by kernel_rfl))
  f199 := Tryz.func92.trans (congrArg some (by kernel_rfl))
  f229 := Tryz.func91.trans (congrArg some (by kernel_rfl))
  f261 := Tryz.func116.trans (congrArg some (by kernel_rfl))
  f311 := Tryz.func133.trans (congrArg some (by kernel_rfl))
  f312 := Tryz.func134.trans (congrArg some (by kernel_rfl))
  t0 := Tryz.underlying0
  a0 := Tryz.isAgg0
  z0 := Tryz.sizeOf0
  v0 := Tryz.zeroValue0
  t3 := Tryz.underlying3
  a3 := Tryz.isAgg3
  z3 := Tryz.sizeOf3
  v3 := Tryz.zeroValue3
  t4 := Tryz.underlying4
  a4 := Tryz.isAgg4
  z4 := Tryz.sizeOf4
  v4 := Tryz.zeroValue4
  t5 := Tryz.underlying5
  a5 := Tryz.isAgg5
  z5 := Tryz.sizeOf5
  v5 := Tryz.zeroValue5
  t9 := Tryz.underlying9
  a9 := Tryz.isAgg9
  z9 := Tryz.sizeOf9
  v9 := Tryz.zeroValue9
  t21 := Tryz.underlying21
  a21 := Tryz.isAgg21
  z21 := Tryz.sizeOf21
  v21 := Tryz.zeroValue21
  t31 := Tryz.underlying38
  a31 := Tryz.isAgg38
  z31 := Tryz.sizeOf38
  v31 := Tryz.zeroValue38
  t40 := Tryz.underlying153
  a40 := Tryz.isAgg153
  z40 := Tryz.sizeOf153
  v40 := Tryz.zeroValue153
  t46 := Tryz.underlying113
  a46 := Tryz.isAgg113
  z46 := Tryz.sizeOf113
  v46 := Tryz.zeroValue113
  t49 := Tryz.underlying46
  a49 := Tryz.isAgg46
  z49 := Tryz.sizeOf46
  v49 := Tryz.zeroValue46
  t51 := Tryz.underlying140
  a51 := Tryz.isAgg140
  z51 := Tryz.sizeOf140
  v51 := Tryz.zeroValue140
  t119 := Tryz.underlying151
  a119 := Tryz.isAgg151
  z119 := Tryz.sizeOf151
  t141 := Tryz.underlying181
  a141 := Tryz.isAgg181
  z141 := Tryz.sizeOf181
  v141 := Tryz.zeroValue181
  t152 := Tryz.underlying177
  a152 := Tryz.isAgg177
  z152 := Tryz.sizeOf177
  v152 := Tryz.zeroValue177
  t154 := Tryz.underlying179
  a154 := Tryz.isAgg179
  z154 := Tryz.sizeOf179
  v154 := Tryz.zeroValue179
  t193 := Tryz.underlying196
  a193 := Tryz.isAgg196
  z193 := Tryz.sizeOf196
  v193 := Tryz.zeroValue196
  t194 := Tryz.underlying197
  a194 := Tryz.isAgg197
  z194 := Tryz.sizeOf197
  v194 := Tryz.zeroValue197
  t196 := Tryz.underlying199
  a196 := Tryz.isAgg199
  z196 := Tryz.sizeOf199
  v196 := Tryz.zeroValue199
  t198 := Tryz.underlying201
  a198 := Tryz.isAgg201
  z198 := Tryz.sizeOf201
  v198 := Tryz.zeroValue201
  t201 := Tryz.underlying204
  a201 := Tryz.isAgg204
  z201 := Tryz.sizeOf204
  v201 := Tryz.zeroValue204
  t226 := Tryz.underlying215
  a226 := Tryz.isAgg215
  z226 := Tryz.sizeOf215
  v226 := Tryz.zeroValue215
  t227 := Tryz.underlying216
  a227 := Tryz.isAgg216
  z227 := Tryz.sizeOf216
  v227 := Tryz.zeroValue216
  g0 := by kernel_rfl
  g6 := by kernel_rfl }
open Go.RowKit Go.Lib in
/-- strings.Fields, the table by 'Lib.TabIs' (as strings.TrimSpace's contract). 'hg': the table's number, by its name: at a dump 'by kernel_rfl'. (LAID: no walk: one application.) -/
theorem Tryz.strings_Fields (s : ByteArray) (w : World) (hs : s.size < 4294967281) (hascii : ∀ (j : Nat) b, s.data.toList[j]? = some b → b.toNat < 128) (htab : Lib.TabIs Tryz.prog w "strings.asciiSpace" .u8 Lib.asciiSpaceTab) :
    Calls Tryz.prog 62 #[.string s] w fun e w' =>
      e = .returned (.slice (some ⟨w.heap.size, 0, none⟩) (Lib.fields s.data.toList).length (Lib.fields s.data.toList).length) ∧ w' = w.alloc (.cells ((Lib.fields s.data.toList).map fun l => Value.string ⟨l.toArray⟩).toArray 9) := Any.strings_Fields Tryz.lays157 (by kernel_rfl) (by kernel_rfl) s w hs hascii htab
def Tryz.lays109_ren : Go.Shelf.Ren := ⟨fun | 109 => 97 | n => n, fun | 31 => 38 | 9 => 9 | 3 => 3 | 0 => 0 | 4 => 4 | n => n, fun | n => n⟩
theorem Tryz.lays109 : Go.Proofs.Lays.n109 Tryz.prog Tryz.lays109_ren := {
  mixed := by kernel_rfl
  f109 := Tryz.func97.trans (congrArg some (by kernel_rfl))
  t0 := Tryz.underlying0
  a0 := Tryz.isAgg0
  z0 := Tryz.sizeOf0
  v0 := Tryz.zeroValue0
  t3 := Tryz.underlying3
  a3 := Tryz.isAgg3
  z3 := Tryz.sizeOf3
  v3 := Tryz.zeroValue3
  t4 := Tryz.underlying4
  a4 := Tryz.isAgg4
  z4 := Tryz.sizeOf4
  v4 := Tryz.zeroValue4
  t9 := Tryz.underlying9
  a9 := Tryz.isAgg9
  z9 := Tryz.sizeOf9
  v9 := Tryz.zeroValue9
  t31 := Tryz.underlying38
  a31 := Tryz.isAgg38
  z31 := Tryz.sizeOf38
  v31 := Tryz.zeroValue38 }
open Go.Lib in
/-- slices.Index at []string: "Index returns the index of the first occurrence of v in s, or -1 if not present.": IT RETURNS 'Lib.idxOfS (the elements) v'; the world is as it was. 'zs': what the cells behind the slice's address hold (its spare capacity too, if you have it); 'zs.take n': its elements. (LAID: no walk: one application.) -/
theorem Tryz.slices_Index_string (b off n c : Nat) (zs : List ByteArray) (x : ByteArray) (w : World) (hz : n ≤ zs.length) (hbig : n ≤ 9223372036854775807) (hc : ∀ j, j < zs.length → w.cell? ⟨b, off + j, none⟩ = some (.string (zs.getD j ByteArray.empty))) :
    Calls Tryz.prog 97 #[.slice (some ⟨b, off, none⟩) n c, .string x] w fun e w' => e = .returned (.int .i64 (Lib.idxOfS (zs.take n) x)) ∧ w' = w := Any.slices_Index_string Tryz.lays109 b off n c zs x w hz hbig hc
def Tryz.laysNm216_ren : Go.Shelf.Ren := ⟨fun | 16 => 54 | n => n, fun | 24 => 38 | 9 => 9 | 4 => 4 | n => n, fun | n => n⟩
theorem Tryz.laysNm216 : Go.Proofs.Lays2.n16 Tryz.prog Tryz.laysNm216_ren := {
  mixed := by kernel_rfl
  f16 := Tryz.func54.trans (congrArg some (by kernel_rfl))
  t4 := Tryz.underlying4
  a4 := Tryz.isAgg4
  z4 := Tryz.sizeOf4
  v4 := Tryz.zeroValue4
  t9 := Tryz.underlying9
  a9 := Tryz.isAgg9
  z9 := Tryz.sizeOf9
  v9 := Tryz.zeroValue9
  t24 := Tryz.underlying38
  a24 := Tryz.isAgg38
  z24 := Tryz.sizeOf38
  v24 := Tryz.zeroValue38
  i9 := by kernel_rfl }
open Go.RowKit Go.Lib in
/-- slices.Clone at []string: "Clone returns a copy of the slice. The elements are copied using assignment, so this is a shallow clone. The result may have additional unused capacity. The result preserves the nilness of s.": OF A SLICE THAT IS NOT nil IT RETURNS A SLICE THAT IS NOT nil, OF THE SAME ELEMENTS, IN MEMORY OF THE CALL's OWN: in the how-to's words (6f): 'w'.ownsRow B e 1 v' n cells': v' begins at the head of a row among the blocks from B on (B: the heap's size at the call), not frozen, whose first cells are the elements · 'Below B w w'': below B all is as it was. The capacity is whatever the run-time gives. 'zs': what the cells behind the slice's address hold; 'zs.take n': its elements. (LAID: no walk: one application.) -/
theorem Tryz.slices_Clone_string (b off n c : Nat) (zs : List ByteArray) (w : World) (hz : n ≤ zs.length) (hbig : n * 16 ≤ 140737488355328) (hc : ∀ j, j < zs.length → w.cell? ⟨b, off + j, none⟩ = some (.string (zs.getD j ByteArray.empty))) :
    Calls Tryz.prog 54 #[.slice (some ⟨b, off, none⟩) n c] w fun e w' => ∃ v', e = .returned v' ∧ w'.ownsRow w.heap.size 9 1 v' n ((zs.take n).map (Value.string)) ∧ v' ≠ .slice none 0 0 ∧ Below w.heap.size w w' := Any.slices_Clone_string Tryz.laysNm216 b off n c zs w hz hbig hc
end Go.Proofs
namespace Go.Proofs.YtolmkdhgnganaaaGreatDoor.Sp
/-- Is it a digit? -/
def isDig (c : UInt8) : Bool := 48 ≤ c && c ≤ 57
/-- The ten digits. -/
def digs : ByteArray := ⟨#[48, 49, 50, 51, 52, 53, 54, 55, 56, 57]⟩
/-- strings.Trim(s, "0123456789"). -/
def trimD (s : ByteArray) : ByteArray := ⟨(Lib.trimS s.data.toList digs.data.toList).toArray⟩
/-- strconv.Itoa. -/
def itoaS (n : Int) : ByteArray := ⟨(Lib.itoa n).toArray⟩
/-- The space that a letter names, or -1. -/
def spaceOf (c : UInt8) : Int := if c = 73 then 0 else if c = 81 then 1 else if c = 77 then 2 else -1
/-- The letter of a space. -/
def letterOf (s : Int) : UInt8 := if s = 0 then 73 else if s = 1 then 81 else 77
/-- The width of a space. -/
def widthOf (i q m sp : Int) : Int := if sp = 0 then i else if sp = 1 then q else if sp = 2 then m else 0
/-- CheckAddr. -/
def chkAddr (i q m sp n : Int) : Int := if sp < 0 ∨ 2 < sp then 8 else if n < 0 ∨ widthOf i q m sp ≤ n then 3 else 0
/-- CheckSize. -/
def chkSize (i q m e : Int) : Int := if (0 ≤ e ∧ e ≤ 16384) ∧ (0 ≤ i ∧ i ≤ 256) ∧ (0 ≤ q ∧ q ≤ 256) ∧ (0 ≤ m ∧ m ≤ 256) then 0 else 3
/-- Format. -/
def addrFmt (sp n : Int) : ByteArray := if sp < 0 ∨ 2 < sp ∨ n < 0 ∨ 255 < n then ⟨#[]⟩ else ⟨#[letterOf sp]⟩ ++ itoaS n
/-- A digit's value. -/
def dv (c : UInt8) : Nat := c.toNat - 48
attribute [irreducible] dv
/-- The value of n's digits and those of a list behind them. -/
def digFrom (n : Nat) : List UInt8 → Nat
  | [] => n
  | c :: r => digFrom (10 * n + dv c) r
/-- The value of a list of digits. -/
def digNat (d : List UInt8) : Nat := digFrom 0 d
/-- A decimal numeral: digits, no zero ahead of others. -/
def numSyn (d : List UInt8) : Bool := !d.isEmpty && d.all isDig && !(decide (1 < d.length) && d.head? == some 48)
/-- A numeral of at most 'most': its value and no error; 6: no numeral; 3: too great. -/
def numParse (d : List UInt8) (most : Nat) : Int × Int := if numSyn d = true then (if digNat d ≤ most then ((digNat d : Int), 0) else (0, 3)) else (0, 6)
/-- Parse: space, number, error. -/
def addrParse (l : List UInt8) : Int × Int × Int :=
  match l with
  | [] => (0, 0, 6)
  | c :: d => if spaceOf c < 0 then (0, 0, 6) else if (numParse d 255).2 = 0 then (spaceOf c, (numParse d 255).1, 0) else (0, 0, (numParse d 255).2)
theorem toList_data (s : ByteArray) : s.toList = s.data.toList := ByteArray.toList_eq s
theorem toList_nil_iff (s : ByteArray) : s.toList = [] ↔ s.size = 0 := by
  rw [toList_data, ← List.length_eq_zero_iff, Array.length_toList]; exact Iff.rfl
theorem toList_isEmpty (s : ByteArray) : s.toList.isEmpty = decide (s.size = 0) := by
  rw [Bool.eq_iff_iff, List.isEmpty_iff, toList_nil_iff, decide_eq_true_iff]
theorem size_data (s : ByteArray) : s.data.toList.length = s.size := by rw [Array.length_toList]; rfl
theorem bytes_ext {a b : ByteArray} (h : a.data.toList = b.data.toList) : a = b := ByteArray.ext (Array.toList_inj.mp h)
theorem digs_contains (c : UInt8) : digs.data.toList.contains c = isDig c := by
  have h : ∀ n : Fin 256, digs.data.toList.contains (UInt8.ofNat n.val) = isDig (UInt8.ofNat n.val) := by decide +kernel
  have := h ⟨c.toNat, c.toNat_lt⟩
  simpa using this
theorem dropWhile_nil {p : UInt8 → Bool} (l : List UInt8) : l.dropWhile p = [] ↔ l.all p = true := by
  induction l with
  | nil => simp
  | cons a t ih =>
    rw [List.dropWhile_cons]
    by_cases h : p a = true
    · simp [h, ih]
    · simp [h]
/-- Nothing is left of a string that holds digits alone, and of no other. -/
theorem trimD_nil (s : ByteArray) : (trimD s).toList = [] ↔ s.data.toList.all isDig = true := by
  have e : (fun c => digs.data.toList.contains c) = isDig := funext digs_contains
  have h0 : (trimD s).toList = (s.data.toList.reverse.dropWhile isDig).reverse.dropWhile isDig := by
    rw [toList_data]
    simp only [trimD, Lib.trimS, Lib.trimLeftS, Lib.trimRightS]
    rw [e]
  rw [h0, dropWhile_nil]
  constructor
  · intro h
    have h1 : s.data.toList.reverse.dropWhile isDig = [] := by
      cases hd : s.data.toList.reverse.dropWhile isDig with
      | nil => rfl
      | cons a t =>
        exfalso
        have ha : isDig a = true := by
          rw [hd] at h
          exact List.all_eq_true.1 h a (by simp)
        have hb : ∀ l : List UInt8, l.dropWhile isDig = a :: t → isDig a = false := by
          intro l
          induction l with
          | nil => intro hh; simp at hh
          | cons b r ih =>
            intro hh
            rw [List.dropWhile_cons] at hh
            by_cases hbd : isDig b = true
            · rw [if_pos hbd] at hh; exact ih hh
            · rw [if_neg hbd] at hh
              injection hh with hh _
              subst hh
              simpa using hbd
        rw [hb _ hd] at ha
        cases ha
    have h2 := (dropWhile_nil _).1 h1
    rw [List.all_reverse] at h2
    exact h2
  · intro h
    have h1 : s.data.toList.reverse.dropWhile isDig = [] := (dropWhile_nil _).2 (by rw [List.all_reverse]; exact h)
    rw [h1]
    rfl
theorem isDig_iff (c : UInt8) : isDig c = true ↔ 48 ≤ c.toNat ∧ c.toNat ≤ 57 := by
  simp [isDig, UInt8.le_iff_toNat_le]
theorem dv_eq (c : UInt8) : dv c = c.toNat - 48 := by unfold dv; rfl
theorem digFrom_nil (n : Nat) : digFrom n [] = n := rfl
theorem digFrom_cons (n : Nat) (c : UInt8) (r : List UInt8) : digFrom n (c :: r) = digFrom (10 * n + dv c) r := rfl
theorem digFrom_mono (d : List UInt8) : ∀ n, n ≤ digFrom n d := by
  induction d with
  | nil =>
    intro n
    rw [digFrom_nil]
    exact Nat.le_refl _
  | cons c r ih =>
    intro n
    rw [digFrom_cons]
    have := ih (10 * n + dv c)
    omega
theorem pu_step (acc : Nat) (c : UInt8) (r : List UInt8) (hc : 48 ≤ c.toNat ∧ c.toNat ≤ 57) : Lib.parseUint10 acc (c :: r) = if 1844674407370955162 ≤ acc then .range else if 18446744073709551616 ≤ 10 * acc + dv c then .range else Lib.parseUint10 (10 * acc + dv c) r := by
  have e : acc * 10 + (c.toNat - 48) = 10 * acc + dv c := by rw [dv_eq]; omega
  rw [Lib.parseUint10, if_pos hc, e]
theorem parseUint_dig (U : Nat) (hU : U = 18446744073709551616) (d : List UInt8) : ∀ acc, acc < U → d.all isDig = true →
    (digFrom acc d < U → Lib.parseUint10 acc d = .ok (digFrom acc d)) ∧ (¬ digFrom acc d < U → Lib.parseUint10 acc d = .range) := by
  induction d with
  | nil =>
    intro acc ha _
    rw [digFrom_nil]
    exact ⟨fun _ => rfl, fun h => absurd ha h⟩
  | cons c r ih =>
    intro acc ha h
    simp only [List.all_cons, Bool.and_eq_true] at h
    have hc := (isDig_iff c).1 h.1
    rw [digFrom_cons, pu_step acc c r hc]
    have hm := digFrom_mono r (10 * acc + dv c)
    by_cases h1 : 1844674407370955162 ≤ acc
    · rw [if_pos h1]
      exact ⟨fun hh => by omega, fun _ => rfl⟩
    · rw [if_neg h1]
      by_cases h2 : 18446744073709551616 ≤ 10 * acc + dv c
      · rw [if_pos h2]
        exact ⟨fun hh => by omega, fun _ => rfl⟩
      · rw [if_neg h2]
        exact ih _ (by omega) h.2
/-- strconv.Atoi of digits alone: the value, or out of range. -/
theorem atoi_dig (d : List UInt8) (h0 : d ≠ []) (h : d.all isDig = true) : (digNat d < 9223372036854775808 → Lib.atoiAll d = .ok (digNat d : Int)) ∧ (¬ digNat d < 9223372036854775808 → Lib.atoiAll d = .range) := by
  cases d with
  | nil => exact absurd rfl h0
  | cons c r =>
    have hc : 48 ≤ c.toNat ∧ c.toNat ≤ 57 := by
      simp only [List.all_cons, Bool.and_eq_true] at h
      exact (isDig_iff c).1 h.1
    have hp := parseUint_dig _ rfl (c :: r) 0 (by omega) h
    have hg : digFrom 0 (c :: r) = digNat (c :: r) := rfl
    rw [hg] at hp
    generalize digNat (c :: r) = v at *
    have hs : Lib.parseMag (c :: r) = Lib.parseUint10 0 (c :: r) := by unfold Lib.parseMag; rw [if_neg (by simp)]
    rw [Lib.atoiAll_plain c r (by omega) (by omega), hs]
    by_cases h1 : v < 18446744073709551616
    · rw [hp.1 h1]
      simp only [Lib.signless]
      by_cases h2 : v < 9223372036854775808
      · rw [if_neg (by omega)]
        exact ⟨fun _ => rfl, fun hh => absurd h2 hh⟩
      · rw [if_pos (by omega)]
        exact ⟨fun hh => absurd hh h2, fun _ => rfl⟩
    · rw [hp.2 h1]
      exact ⟨fun hh => by omega, fun _ => rfl⟩
theorem spaceOf_cases (c : UInt8) : (c = 73 ∧ spaceOf c = 0) ∨ (c = 81 ∧ spaceOf c = 1) ∨ (c = 77 ∧ spaceOf c = 2) ∨ (c ≠ 73 ∧ c ≠ 81 ∧ c ≠ 77 ∧ spaceOf c = -1) := by
  unfold spaceOf
  by_cases h1 : c = 73
  · exact .inl ⟨h1, by simp [h1]⟩
  · by_cases h2 : c = 81
    · exact .inr (.inl ⟨h2, by simp [h2]⟩)
    · by_cases h3 : c = 77
      · exact .inr (.inr (.inl ⟨h3, by simp [h3]⟩))
      · exact .inr (.inr (.inr ⟨h1, h2, h3, by simp [h1, h2, h3]⟩))
theorem extract_first (t : ByteArray) (h : 0 < t.size) : t.extract 0 1 = ⟨#[t[0]]⟩ := by
  apply bytes_ext
  have h2 : 0 < t.data.toList.length := by rw [size_data]; exact h
  simp only [ByteArray.data_extract, Array.toList_extract]
  cases hl : t.data.toList with
  | nil => rw [hl] at h2; simp at h2
  | cons a r =>
    have : t[0] = a := by
      have h3 : t[0] = t.data.toList[0] := rfl
      rw [h3]; simp only [hl]; rfl
    simp [this, List.extract]
theorem idx_space (t : ByteArray) (h : 0 < t.size) : Lib.idxOfS (([⟨#[73]⟩, ⟨#[81]⟩, ⟨#[77]⟩] : List ByteArray).take 3) (t.extract 0 1) = spaceOf t[0] := by
  rw [extract_first t h]
  have e : ∀ a b : UInt8, ((⟨#[a]⟩ : ByteArray) = ⟨#[b]⟩) ↔ a = b := fun a b => ⟨fun h => by injection h with h; simpa using h, fun h => by rw [h]⟩
  simp only [Lib.idxOfS, Lib.idxFromS, List.take, e]
  rcases spaceOf_cases t[0] with ⟨h1, h2⟩ | ⟨h1, h2⟩ | ⟨h1, h2⟩ | ⟨h1, h2, h3, h4⟩
  · rw [h2]; simp [h1]
  · rw [h2]; simp [h1]
  · rw [h2]; simp [h1]
  · rw [h4]; simp [Ne.symm h1, Ne.symm h2, Ne.symm h3]
theorem extract_tail (t : ByteArray) : (t.extract 1 t.size).data.toList = t.data.toList.tail := by
  simp [ByteArray.data_extract, Array.toList_extract, List.extract]
  have : t.size - 1 = (t.data.toList.drop 1).length := by rw [List.length_drop, size_data]
  rw [this, ← List.drop_one, List.take_length]
theorem data_cons (t : ByteArray) (h : 0 < t.size) : t.data.toList = t[0] :: (t.extract 1 t.size).data.toList := by
  rw [extract_tail]
  have h2 : 0 < t.data.toList.length := by rw [size_data]; exact h
  cases hl : t.data.toList with
  | nil => rw [hl] at h2; simp at h2
  | cons a r =>
    have : t[0] = a := by
      have h3 : t[0] = t.data.toList[0] := rfl
      rw [h3]; simp only [hl]; rfl
    rw [this]
    rfl
theorem dec_len : ∀ n : Fin 1024, (Lib.decDigits n.val).length ≤ 4 := by decide +kernel
theorem itoa_len (n : Nat) (h : n ≤ 1000) : (itoaS (n : Int)).size ≤ 4 := by
  have h1 := dec_len ⟨n, by omega⟩
  have h2 : ¬ ((n : Int) < 0) := by omega
  simpa [itoaS, ByteArray.size, Lib.itoa, h2] using h1
end Go.Proofs.YtolmkdhgnganaaaGreatDoor.Sp
namespace Go.Proofs.YtolmkdhgnganaaaGreatDoor.H
open Go Go.RowKit Go.Proofs Go.Proofs.YtolmkdhgnganaaaGreatDoorW.PrintWords Go.Proofs.YtolmkdhgnganaaaGreatDoor.Sp
/-- It returns v; nothing that was there has changed. -/
def RetB (w : World) (v : Value) (e : Ending) (w' : World) : Prop := e = .returned v ∧ Below w.heap.size w w'
/-- The letters' cells. -/
structure Lets (w : World) : Prop where
  l0 : w.cell? ⟨2, 0, none⟩ = some (.string ⟨#[73]⟩)
  l1 : w.cell? ⟨2, 1, none⟩ = some (.string ⟨#[81]⟩)
  l2 : w.cell? ⟨2, 2, none⟩ = some (.string ⟨#[77]⟩)
theorem Lets.below {w w' : World} (h : Lets w) (hb : Below w.heap.size w w') : Lets w' := ⟨pw_cell_below hb h.l0, pw_cell_below hb h.l1, pw_cell_below hb h.l2⟩
theorem Lets.at_ {w : World} (h : Lets w) (s : Nat) (hs : s ≤ 2) : w.cell? ⟨2, s, none⟩ = some (.string ⟨#[letterOf (s : Int)]⟩) := by
  match s, hs with
  | 0, _ => exact h.l0
  | 1, _ => exact h.l1
  | 2, _ => exact h.l2
/-- A variable that was there holds what it held. -/
theorem var_below {P : Program} {w w' : World} {name : String} {cs : Array Value} (h : w.var? P name = some cs) (hb : Below w.heap.size w w') : w'.var? P name = some cs := by
  unfold World.var? at *
  cases hg : P.globalNamed name with
  | none => rw [hg] at h; simp at h
  | some g =>
    rw [hg] at h
    simp only [Option.bind_some] at h ⊢
    cases hh : w.heap[g]? with
    | none => rw [hh] at h; simp at h
    | some o => rw [hb.block g (Array.getElem?_eq_some_iff.1 hh).1, hh]; rw [hh] at h; exact h
/-- strconv's table of powers of ten. -/
structure Pows (w : World) : Prop where
  p : Lib.TabIs Tryz.prog w "internal/strconv.uint64pow10" .u64 Lib.pow10Tab
theorem Pows.below {w w' : World} (h : Pows w) (hb : Below w.heap.size w w') : Pows w' := ⟨var_below h.p hb⟩
/-- strconv's two errors are not nil. -/
structure Errs (w : World) : Prop where
  syn : ∃ t p, w.var? Tryz.prog "strconv.ErrSyntax" = some #[.iface t p]
  rng : ∃ t p, w.var? Tryz.prog "strconv.ErrRange" = some #[.iface t p]
theorem Errs.below {w w' : World} (h : Errs w) (hb : Below w.heap.size w w') : Errs w' := by
  obtain ⟨⟨t, p, h1⟩, ⟨t2, p2, h2⟩⟩ := h
  exact ⟨⟨t, p, var_below h1 hb⟩, ⟨t2, p2, var_below h2 hb⟩⟩
theorem itoa_b (n : Int) (h0 : -9223372036854775808 ≤ n) (h1 : n ≤ 9223372036854775807) (w : World) (hp : Pows w) :
    Calls Tryz.prog 27 #[.int .i64 n] w (RetB w (.string (itoaS n))) := by
  refine (Tryz.strconv_Itoa n h0 h1 w hp.p).mono ?_
  rintro e w' ⟨rfl, k, os, rfl⟩
  exact ⟨rfl, Lib.below_grow _ _ (Nat.le_refl _) _ _⟩
theorem trim_b (s : ByteArray) (w : World) (hs : s.size ≤ 9223372036854775807) :
    Calls Tryz.prog 117 #[.string s, .string ⟨#[48, 49, 50, 51, 52, 53, 54, 55, 56, 57]⟩] w (RetB w (.string (trimD s))) :=
  Any.strings_Trim_laid Tryz.lays160 (by kernel_rfl) s digs w hs (by decide) (ascii_of_all (by decide))
/-- Behind '[]byte(s)' too nothing that was there has changed. -/
theorem below_bytes (w : World) (e : TypeId) (t : ByteArray) : Below w.heap.size w (Lib.bytesWorld w e t) := bytes_below (Below.refl _ _) (Nat.le_refl _) _ _
theorem atoi_ok (s : ByteArray) (hs : s.size ≤ 140737488355328) (v : Int) (h : Lib.atoiAll s.data.toList = .ok v) (w : World) :
    Calls Tryz.prog 118 #[.string s] w (RetB w (.tuple #[.int .i64 v, .nilIface])) := by
  refine (Tryz.strconv_Atoi_ok s (by omega) v h w).mono ?_
  rintro e w' ⟨rfl, h | ⟨t, rfl⟩⟩
  · rw [h]
    exact ⟨rfl, Below.refl _ _⟩
  · exact ⟨rfl, below_bytes _ _ _⟩
/-- An error that is not nil, and the number v. -/
def ErrB (w : World) (v : Int) (e : Ending) (w' : World) : Prop := ∃ t p, e = .returned (.tuple #[.int .i64 v, .iface t p]) ∧ Below w.heap.size w w'
theorem atoi_range (s : ByteArray) (hs : s.size ≤ 140737488355328) (h : Lib.atoiAll s.data.toList = .range) (w : World) (he : Errs w) :
    Calls Tryz.prog 118 #[.string s] w (ErrB w (Lib.atoiSat s.data.toList)) := by
  obtain ⟨t, p, hv⟩ := he.rng
  refine (Tryz.strconv_Atoi_range_var s (by omega) h t p w hv).mono ?_
  rintro e w' ⟨N, rfl, _, _, hb⟩
  exact ⟨_, _, rfl, hb⟩
set_option maxHeartbeats 1000000 in
theorem width_b (i q m e sp : Int) (w : World) :
   Calls Tryz.prog 121 #[.agg #[.int .i64 i, .int .i64 q, .int .i64 m, .int .i64 e], .int .i64 sp] w (RetB w (.int .i64 (widthOf i q m sp))) := by
  by_cases h0 : sp = 0
  · subst h0
    go_enter Tryz.func121, Tryz.ntmps121
    go_wp2
    go_ret
    exact ⟨rfl, below_alloc (Below.refl _ _) _⟩
  · by_cases h1 : sp = 1
    · subst h1
      go_enter Tryz.func121, Tryz.ntmps121
      go_wp2
      go_ret
      exact ⟨rfl, below_alloc (Below.refl _ _) _⟩
    · by_cases h2 : sp = 2
      · subst h2
        go_enter Tryz.func121, Tryz.ntmps121
        go_wp2
        go_ret
        exact ⟨rfl, below_alloc (Below.refl _ _) _⟩
      · have e0 : widthOf i q m sp = 0 := by simp [widthOf, h0, h1, h2]
        rw [e0]
        clear e0
        go_enter Tryz.func121, Tryz.ntmps121
        go_wp2
        go_ret
        exact ⟨rfl, below_alloc (Below.refl _ _) _⟩
set_option maxHeartbeats 1000000 in
theorem chk_b (i q m e sp n : Int) (w : World) :
   Calls Tryz.prog 99 #[.agg #[.int .i64 i, .int .i64 q, .int .i64 m, .int .i64 e], .agg #[.int .i64 sp, .int .i64 n]] w (RetB w (.int .i64 (chkAddr i q m sp n))) := by
  by_cases h0 : sp < 0
  · have e0 : chkAddr i q m sp n = 8 := by simp [chkAddr, h0]
    rw [e0]
    clear e0
    have h0' : ¬ (0 ≤ sp) := by omega
    go_enter Tryz.func99, Tryz.ntmps99
    go_wp2
    go_ret
    exact ⟨rfl, below_alloc (below_alloc (Below.refl _ _) _) _⟩
  · by_cases h2 : sp ≤ 2
    · have h0' : 0 ≤ sp := by omega
      by_cases h3 : n < 0
      · have e0 : chkAddr i q m sp n = 3 := by simp [chkAddr, h0, h3]; omega
        rw [e0]
        clear e0
        have d3 : decide (n < 0) = true := by simpa using h3
        go_enter Tryz.func99, Tryz.ntmps99
        go_wp2
        go_quiet (fail)
        go_wp2
        go_ret
        exact ⟨rfl, pw_below_drewN (below_alloc (below_alloc (Below.refl _ _) _) _) _⟩
      · have d3 : decide (n < 0) = false := by simpa using h3
        by_cases h4 : widthOf i q m sp ≤ n
        · have e0 : chkAddr i q m sp n = 3 := by simp [chkAddr, h0, h3, h4]; omega
          rw [e0]
          clear e0
          go_enter Tryz.func99, Tryz.ntmps99
          go_wp2
          go_region_held3 (fun w' => w'.cell? ⟨w.heap.size, 0, none⟩ = some (.int .i64 i) ∧ w'.cell? ⟨w.heap.size, 1, none⟩ = some (.int .i64 q) ∧ w'.cell? ⟨w.heap.size, 2, none⟩ = some (.int .i64 m) ∧ w'.cell? ⟨w.heap.size, 3, none⟩ = some (.int .i64 e) ∧ w'.cell? ⟨w.heap.size + 1, 0, none⟩ = some (.int .i64 sp) ∧ w'.cell? ⟨w.heap.size + 1, 1, none⟩ = some (.int .i64 n))
            (first | go_keep | (refine ⟨pw_cell_below hb ?_, pw_cell_below hb ?_, pw_cell_below hb ?_, pw_cell_below hb ?_, pw_cell_below hb ?_, pw_cell_below hb ?_⟩ <;> go_keep))
            (first | (go_at_call 121; (with_reducible refine (width_b i q m e sp _).mono ?_); rintro e_ w1 ⟨rfl, hb⟩))
          go_wp2
          go_ret
          exact ⟨rfl, below_step (below_drew (below_alloc (below_alloc (Below.refl _ _) _) _)) hb⟩
        · have e0 : chkAddr i q m sp n = 0 := by simp [chkAddr, h0, h3, h4]; omega
          rw [e0]
          clear e0
          go_enter Tryz.func99, Tryz.ntmps99
          go_wp2
          go_region_held3 (fun w' => w'.cell? ⟨w.heap.size, 0, none⟩ = some (.int .i64 i) ∧ w'.cell? ⟨w.heap.size, 1, none⟩ = some (.int .i64 q) ∧ w'.cell? ⟨w.heap.size, 2, none⟩ = some (.int .i64 m) ∧ w'.cell? ⟨w.heap.size, 3, none⟩ = some (.int .i64 e) ∧ w'.cell? ⟨w.heap.size + 1, 0, none⟩ = some (.int .i64 sp) ∧ w'.cell? ⟨w.heap.size + 1, 1, none⟩ = some (.int .i64 n))
            (first | go_keep | (refine ⟨pw_cell_below hb ?_, pw_cell_below hb ?_, pw_cell_below hb ?_, pw_cell_below hb ?_, pw_cell_below hb ?_, pw_cell_below hb ?_⟩ <;> go_keep))
            (first | (go_at_call 121; (with_reducible refine (width_b i q m e sp _).mono ?_); rintro e_ w1 ⟨rfl, hb⟩))
          go_wp2
          go_ret
          exact ⟨rfl, below_step (below_drew (below_alloc (below_alloc (Below.refl _ _) _) _)) hb⟩
    · have e0 : chkAddr i q m sp n = 8 := by simp [chkAddr]; omega
      rw [e0]
      clear e0
      have h0' : 0 ≤ sp := by omega
      go_enter Tryz.func99, Tryz.ntmps99
      go_wp2
      go_ret
      exact ⟨rfl, below_alloc (below_alloc (Below.refl _ _) _) _⟩
/-- 0 <= n && n <= most. -/
def inB (n most : Int) : Bool := decide (0 ≤ n) && decide (n ≤ most)
set_option maxHeartbeats 1000000 in
theorem within_b (n most : Int) (w : World) : Calls Tryz.prog 59 #[.int .i64 n, .int .i64 most] w fun e w' => e = .returned (.bool (inB n most)) ∧ w = w' := by
  by_cases h0 : 0 ≤ n
  · have e0 : inB n most = decide (n ≤ most) := by simp [inB, h0]
    rw [e0]
    clear e0
    go_enter Tryz.func59, Tryz.ntmps59
    go_wp2
    go_ret
    exact ⟨rfl, rfl⟩
  · have e0 : inB n most = false := by simp [inB, h0]
    rw [e0]
    clear e0
    go_enter Tryz.func59, Tryz.ntmps59
    go_wp2
    go_ret
    exact ⟨rfl, rfl⟩
set_option maxHeartbeats 1000000 in
theorem chkSize_b (i q m e : Int) (w : World) :
   Calls Tryz.prog 41 #[.agg #[.int .i64 i, .int .i64 q, .int .i64 m, .int .i64 e]] w (RetB w (.int .i64 (chkSize i q m e))) := by
  have key : ∀ v : Int, (v = if inB e 16384 = true ∧ inB i 256 = true ∧ inB q 256 = true ∧ inB m 256 = true then 0 else 3) → v = chkSize i q m e := by
    intro v hv
    rw [hv]
    simp [inB, chkSize]
  generalize hB : inB e 16384 = b1 at key
  generalize hB2 : inB i 256 = b2 at key
  generalize hB3 : inB q 256 = b3 at key
  generalize hB4 : inB m 256 = b4 at key
  have G1 := Aside0.mk hB
  have G2 := Aside0.mk hB2
  have G3 := Aside0.mk hB3
  have G4 := Aside0.mk hB4
  have K := Aside0.mk key
  clear hB hB2 hB3 hB4 key
  cases b1 with
  | false =>
    rw [← K.out 3 (by simp)]
    go_enter Tryz.func41, Tryz.ntmps41
    go_wp2_with (first | (go_at_call 59; (with_reducible refine (within_b _ _ _).mono ?_); rintro e_ w1 ⟨rfl, rfl⟩; (first | rw [G1.out] | rw [G2.out] | rw [G3.out] | rw [G4.out])))
    go_ret
    exact ⟨rfl, below_alloc (Below.refl _ _) _⟩
  | true => cases b2 with
  | false =>
    rw [← K.out 3 (by simp)]
    go_enter Tryz.func41, Tryz.ntmps41
    go_wp2_with (first | (go_at_call 59; (with_reducible refine (within_b _ _ _).mono ?_); rintro e_ w1 ⟨rfl, rfl⟩; (first | rw [G1.out] | rw [G2.out] | rw [G3.out] | rw [G4.out])))
    go_ret
    exact ⟨rfl, below_alloc (Below.refl _ _) _⟩
  | true => cases b3 with
  | false =>
    rw [← K.out 3 (by simp)]
    go_enter Tryz.func41, Tryz.ntmps41
    go_wp2_with (first | (go_at_call 59; (with_reducible refine (within_b _ _ _).mono ?_); rintro e_ w1 ⟨rfl, rfl⟩; (first | rw [G1.out] | rw [G2.out] | rw [G3.out] | rw [G4.out])))
    go_ret
    exact ⟨rfl, below_alloc (Below.refl _ _) _⟩
  | true => cases b4 with
  | false =>
    rw [← K.out 3 (by simp)]
    go_enter Tryz.func41, Tryz.ntmps41
    go_wp2_with (first | (go_at_call 59; (with_reducible refine (within_b _ _ _).mono ?_); rintro e_ w1 ⟨rfl, rfl⟩; (first | rw [G1.out] | rw [G2.out] | rw [G3.out] | rw [G4.out])))
    go_ret
    exact ⟨rfl, below_alloc (Below.refl _ _) _⟩
  | true =>
    rw [← K.out 0 (by simp)]
    go_enter Tryz.func41, Tryz.ntmps41
    go_wp2_with (first | (go_at_call 59; (with_reducible refine (within_b _ _ _).mono ?_); rintro e_ w1 ⟨rfl, rfl⟩; (first | rw [G1.out] | rw [G2.out] | rw [G3.out] | rw [G4.out])))
    go_ret
    exact ⟨rfl, below_alloc (Below.refl _ _) _⟩
set_option maxHeartbeats 1000000 in
theorem fmt_bad (s n : Int) (w : World) (h : s < 0 ∨ 2 < s ∨ n < 0 ∨ 255 < n) :
    Calls Tryz.prog 28 #[.agg #[.int .i64 s, .int .i64 n]] w (RetB w (.string ⟨#[]⟩)) := by
  by_cases h1 : 0 ≤ s
  · by_cases h2 : s ≤ 2
    · by_cases h3 : 0 ≤ n
      · have h4 : ¬ n ≤ 255 := by omega
        go_enter Tryz.func28, Tryz.ntmps28
        go_wp2
        go_ret
        exact ⟨rfl, below_alloc (Below.refl _ _) _⟩
      · go_enter Tryz.func28, Tryz.ntmps28
        go_wp2
        go_ret
        exact ⟨rfl, below_alloc (Below.refl _ _) _⟩
    · go_enter Tryz.func28, Tryz.ntmps28
      go_wp2
      go_ret
      exact ⟨rfl, below_alloc (Below.refl _ _) _⟩
  · go_enter Tryz.func28, Tryz.ntmps28
    go_wp2
    go_ret
    exact ⟨rfl, below_alloc (Below.refl _ _) _⟩
set_option maxHeartbeats 1000000 in
theorem fmt_ok (s n : Nat) (w : World) (L : ByteArray) (h2 : s ≤ 2) (h4 : n ≤ 255) (hL : w.cell? ⟨2, s, none⟩ = some (.string L)) (hs : L.size = 1) (hp : Pows w) :
    Calls Tryz.prog 28 #[.agg #[.int .i64 s, .int .i64 n]] w (RetB w (.string (L ++ itoaS n))) := by
  have a1 : (0 : Int) ≤ (s : Int) := by omega
  have a2 : (s : Int) < 3 := by omega
  have a3 : (s : Int) ≤ 2 := by omega
  have a4 : (0 : Int) ≤ (n : Int) := by omega
  have a5 : (n : Int) ≤ 255 := by omega
  have lg := World.block_lt_of_cell? w _ hL
  have hadd : (9223372036854775807 < L.size + (itoaS (n : Int)).size) = False := by
    have := itoa_len n (by omega)
    simp; omega
  clear hs
  go_enter Tryz.func28, Tryz.ntmps28
  go_wp2
  go_region_held3 (fun w' => w'.cell? ⟨w.heap.size, 0, none⟩ = some (.int .i64 s) ∧ w'.cell? ⟨w.heap.size, 1, none⟩ = some (.int .i64 n) ∧ w'.cell? ⟨2, s, none⟩ = some (.string L))
    (first | go_keep | (refine ⟨pw_cell_below hb ?_, pw_cell_below hb ?_, pw_cell_below hb ?_⟩ <;> go_keep))
    (first | (go_at_call 27; refine (itoa_b n (by omega) (by omega) _ (by exact hp.below (below_drew (below_alloc (Below.refl _ _) _)))).mono ?_; rintro e w1 ⟨rfl, hb⟩))
  go_wp2
  go_ret
  exact ⟨rfl, below_step (below_drew (below_alloc (Below.refl _ _) _)) hb⟩
/-- Format, whatever it is given. -/
theorem fmt_b (s n : Int) (w : World) (hl : Lets w) (hp : Pows w) :
    Calls Tryz.prog 28 #[.agg #[.int .i64 s, .int .i64 n]] w (RetB w (.string (addrFmt s n))) := by
  by_cases h : s < 0 ∨ 2 < s ∨ n < 0 ∨ 255 < n
  · have e : addrFmt s n = ⟨#[]⟩ := by unfold addrFmt; rw [if_pos h]
    rw [e]
    exact fmt_bad s n w h
  · have e : addrFmt s n = ⟨#[letterOf s]⟩ ++ itoaS n := by unfold addrFmt; rw [if_neg h]
    rw [e]
    obtain ⟨a, rfl⟩ := Int.eq_ofNat_of_zero_le (show 0 ≤ s by omega)
    obtain ⟨b, rfl⟩ := Int.eq_ofNat_of_zero_le (show 0 ≤ n by omega)
    exact fmt_ok a b w _ (by omega) (by omega) (hl.at_ a (by omega)) rfl hp
theorem idx_c (t : ByteArray) (h : 0 < t.size) (w : World) (hl : Lets w) :
   Calls Tryz.prog 97 #[.slice (some ⟨2, 0, none⟩) 3 3, .string (t.extract 0 1)] w fun e w' => e = .returned (.int .i64 (spaceOf t[0])) ∧ w' = w := by
  rw [← idx_space t h]
  refine Tryz.slices_Index_string 2 0 3 3 [⟨#[73]⟩, ⟨#[81]⟩, ⟨#[77]⟩] _ _ (by decide) (by decide) ?_
  intro j hj
  match j, hj with
  | 0, _ => exact hl.l0
  | 1, _ => exact hl.l1
  | 2, _ => exact hl.l2
/-- What Parse returns. -/
def prsV (s n e : Int) : Value := .tuple #[.agg #[.int .i64 s, .int .i64 n], .int .i64 e]
set_option maxHeartbeats 1000000 in
theorem prs_empty (w : World) : Calls Tryz.prog 119 #[.string ⟨#[]⟩] w (RetB w (prsV 0 0 6)) := by
  go_enter Tryz.func119, Tryz.ntmps119
  go_wp2
  exact bodyPost_ret (v := prsV 0 0 6) (by simp [results, Tryz.results119, go_sem, prsV]) rfl ⟨rfl, (Below.refl _ _).alloc (Nat.le_refl _) _⟩
set_option maxHeartbeats 1000000 in
theorem prs_bad1 (t D : ByteArray) (w : World) (ht : t.size ≤ 140737488355328) (h0 : 0 < t.size) (hD : t.extract 1 t.size = D) (hb : spaceOf t[0] < 0) (a2 : t.toList.isEmpty = false)
   (hl : Lets w) : Calls Tryz.prog 119 #[.string t] w (RetB w (prsV 0 0 6)) := by
  have a1 : (1 : Int) ≤ (t.size : Int) := by omega
  have HD := Aside0.mk hD
  clear hD
  go_enter Tryz.func119, Tryz.ntmps119
  go_wp2
  go_quiet ((go_at_call 97; exact Calls.quiet_of_same (idx_c t h0 _ (hl.below (pw_below_drewN (below_alloc (Below.refl _ _) _) _)))))
  rw [HD.out]
  go_wp2
  exact bodyPost_ret (v := prsV 0 0 6) (by simp [results, Tryz.results119, go_sem, prsV]) rfl ⟨rfl, below_set (below_set (pw_below_drewN (below_alloc (Below.refl _ _) _) _) (Nat.le_refl _)) (Nat.le_refl _)⟩
set_option maxHeartbeats 1000000 in
theorem prs_bad2 (t D : ByteArray) (w : World) (ht : t.size ≤ 140737488355328) (h0 : 0 < t.size) (hD : t.extract 1 t.size = D) (hb : 0 ≤ spaceOf t[0]) (a2 : t.toList.isEmpty = false)
   (hl : Lets w) (d1 : D.toList = []) (d2 : D.toList.isEmpty = true) : Calls Tryz.prog 119 #[.string t] w (RetB w (prsV 0 0 6)) := by
  have a1 : (1 : Int) ≤ (t.size : Int) := by omega
  have HD := Aside0.mk hD
  have H1 := Aside0.mk d1
  have H2 := Aside0.mk d2
  clear hD d1 d2
  go_enter Tryz.func119, Tryz.ntmps119
  go_wp2
  go_quiet ((go_at_call 97; exact Calls.quiet_of_same (idx_c t h0 _ (hl.below (pw_below_drewN (below_alloc (Below.refl _ _) _) _)))))
  rw [HD.out]
  have d1 := H1.out
  have d2 := H2.out
  go_wp2
  exact bodyPost_ret (v := prsV 0 0 6) (by simp [results, Tryz.results119, go_sem, prsV]) rfl ⟨rfl, below_set (below_set (pw_below_drewN (below_alloc (Below.refl _ _) _) _) (Nat.le_refl _)) (Nat.le_refl _)⟩
/-- What is known of the result's cell behind a call. -/
theorem res_cell {w w1 : World} {cs : Array Value} {t nq : Nat} (hb : Below ((w.alloc (.cells cs t)).drewN nq).heap.size ((w.alloc (.cells cs t)).drewN nq) w1) :
    (∀ i, w1.cell? ⟨w.heap.size, i, none⟩ = cs[i]?) ∧ (∀ i, w1.frozen? ⟨w.heap.size, i, none⟩ = false) ∧ Below w.heap.size w w1 :=
  have hk := blk_below (blk_drewN (blk_new w (.cells cs t)) nq) hb
  ⟨blk_cell hk, blk_frozen hk, below_step (pw_below_drewN (below_alloc (Below.refl _ w) _) _) hb⟩
set_option maxHeartbeats 1000000 in
theorem prs_bad3 (t D : ByteArray) (w : World) (ht : t.size ≤ 140737488355328) (h0 : 0 < t.size) (hD : t.extract 1 t.size = D) (hb : 0 ≤ spaceOf t[0]) (a2 : t.toList.isEmpty = false)
   (hl : Lets w) (hDs : D.size ≤ 140737488355328) (d1 : ¬ D.toList = []) (d2 : D.toList.isEmpty = false) (e2 : (trimD D).toList.isEmpty = false) : Calls Tryz.prog 119 #[.string t] w (RetB w (prsV 0 0 6)) := by
  have a1 : (1 : Int) ≤ (t.size : Int) := by omega
  have HD := Aside0.mk hD
  have H1 := Aside0.mk d1
  have H2 := Aside0.mk d2
  clear hD d1 d2
  go_enter Tryz.func119, Tryz.ntmps119
  go_wp2
  go_quiet ((go_at_call 97; exact Calls.quiet_of_same (idx_c t h0 _ (hl.below (pw_below_drewN (below_alloc (Below.refl _ _) _) _)))))
  rw [HD.out]
  have d1 := H1.out
  have d2 := H2.out
  go_wp2_with (first | (go_at_call 117; (with_reducible refine (trim_b D _ (by omega)).mono ?_); rintro e w1 ⟨rfl, hb1⟩; have hr := res_cell hb1; have q0 := hr.1 0; have q1 := hr.1 1; have f0 := hr.2.1 0; have f1 := hr.2.1 1; have hz := hr.2.2; clear hr hb1; simp only [List.getElem?_toArray, List.getElem?_cons_zero, List.getElem?_cons_succ] at q0 q1))
  exact bodyPost_ret (v := prsV 0 0 6) (by simp [results, Tryz.results119, go_sem, prsV, q0, q1]) rfl ⟨rfl, below_set (below_set hz (Nat.le_refl _)) (Nat.le_refl _)⟩
set_option maxHeartbeats 1000000 in
theorem prs_bad4 (t D : ByteArray) (w : World) (ht : t.size ≤ 140737488355328) (h0 : 0 < t.size) (hD : t.extract 1 t.size = D) (hb : 0 ≤ spaceOf t[0]) (a2 : t.toList.isEmpty = false)
   (hl : Lets w) (hDs : D.size ≤ 140737488355328) (d1 : ¬ D.toList = []) (d2 : D.toList.isEmpty = false) (e1 : (trimD D).toList = []) (e2 : (trimD D).toList.isEmpty = true)
   (z0 : 0 < D.size) (z1 : (1 : Int) < (D.size : Int)) (z2 : D[0].toNat = 48) : Calls Tryz.prog 119 #[.string t] w (RetB w (prsV 0 0 6)) := by
  have a1 : (1 : Int) ≤ (t.size : Int) := by omega
  have HD := Aside0.mk hD
  have H1 := Aside0.mk d1
  have H2 := Aside0.mk d2
  have H3 := Aside0.mk z2
  clear hD d1 d2 z2
  go_enter Tryz.func119, Tryz.ntmps119
  go_wp2
  go_quiet ((go_at_call 97; exact Calls.quiet_of_same (idx_c t h0 _ (hl.below (pw_below_drewN (below_alloc (Below.refl _ _) _) _)))))
  rw [HD.out]
  have d1 := H1.out
  have d2 := H2.out
  have z3 : ((D[0].toNat : Int) == 48) = true := by rw [H3.out]; rfl
  go_wp2_with (first | (go_at_call 117; (with_reducible refine (trim_b D _ (by omega)).mono ?_); rintro e w1 ⟨rfl, hb1⟩; have hr := res_cell hb1; have q0 := hr.1 0; have q1 := hr.1 1; have f0 := hr.2.1 0; have f1 := hr.2.1 1; have hz := hr.2.2; clear hr hb1; simp only [List.getElem?_toArray, List.getElem?_cons_zero, List.getElem?_cons_succ] at q0 q1))
  exact bodyPost_ret (v := prsV 0 0 6) (by simp [results, Tryz.results119, go_sem, prsV, q0, q1]) rfl ⟨rfl, below_set (below_set hz (Nat.le_refl _)) (Nat.le_refl _)⟩
set_option maxHeartbeats 2000000 in
theorem prs_range (t D : ByteArray) (w : World) (ht : t.size ≤ 140737488355328) (h0 : 0 < t.size) (hD : t.extract 1 t.size = D) (hb : 0 ≤ spaceOf t[0]) (a2 : t.toList.isEmpty = false)
   (hl : Lets w) (he : Errs w) (hDs : D.size ≤ 140737488355328) (d1 : ¬ D.toList = []) (d2 : D.toList.isEmpty = false) (e1 : (trimD D).toList = []) (e2 : (trimD D).toList.isEmpty = true)
   (z0 : 0 < D.size) (z : ¬ (1 : Int) < (D.size : Int) ∨ ((1 : Int) < (D.size : Int) ∧ ((D[0].toNat : Int) == 48) = false)) (hA : Lib.atoiAll D.data.toList = .range) : Calls Tryz.prog 119 #[.string t] w (RetB w (prsV 0 0 3)) := by
  have a1 : (1 : Int) ≤ (t.size : Int) := by omega
  have HD := Aside0.mk hD
  have H1 := Aside0.mk d1
  have H2 := Aside0.mk d2
  have HA := Aside0.mk hA
  clear hD d1 d2 hA
  rcases z with z1 | ⟨z1, z3⟩
  all_goals
    go_enter Tryz.func119, Tryz.ntmps119
    go_wp2
    go_quiet ((go_at_call 97; exact Calls.quiet_of_same (idx_c t h0 _ (hl.below (pw_below_drewN (below_alloc (Below.refl _ _) _) _)))))
    rw [HD.out]
    have d1 := H1.out
    have d2 := H2.out
    go_wp2_with (first | (go_at_call 117; (with_reducible refine (trim_b D _ (by omega)).mono ?_); rintro e w1 ⟨rfl, hb1⟩; have hr := res_cell hb1; have q0 := hr.1 0; have q1 := hr.1 1; have f0 := hr.2.1 0; have f1 := hr.2.1 1; have hz := hr.2.2; clear hr hb1; simp only [List.getElem?_toArray, List.getElem?_cons_zero, List.getElem?_cons_succ] at q0 q1) | (go_at_call 118; (with_reducible refine (atoi_range D hDs HA.out _ (by exact he.below hz)).mono ?_); rintro e w2 ⟨tt, pp, rfl, hb2⟩; have hz2 := below_step hz hb2; have g0 := pw_cell_below hb2 q0; have g1 := pw_cell_below hb2 q1; have lt1 := World.block_lt_of_cell? _ _ q0; have k0 := (hb2.frozen (p := ⟨w.heap.size, 0, none⟩) lt1).trans f0; have k1 := (hb2.frozen (p := ⟨w.heap.size, 1, none⟩) lt1).trans f1; clear hb2 q0 q1 f0 f1 lt1 hz))
    exact bodyPost_ret (v := prsV 0 0 3) (by simp [results, Tryz.results119, go_sem, prsV, g0, g1]) rfl ⟨rfl, below_set (below_set hz2 (Nat.le_refl _)) (Nat.le_refl _)⟩
set_option maxHeartbeats 2000000 in
theorem prs_num (t D : ByteArray) (w : World) (ht : t.size ≤ 140737488355328) (h0 : 0 < t.size) (hD : t.extract 1 t.size = D) (hb : 0 ≤ spaceOf t[0]) (a2 : t.toList.isEmpty = false)
   (hl : Lets w) (hDs : D.size ≤ 140737488355328) (d1 : ¬ D.toList = []) (d2 : D.toList.isEmpty = false) (e1 : (trimD D).toList = []) (e2 : (trimD D).toList.isEmpty = true)
   (z0 : 0 < D.size) (z : ¬ (1 : Int) < (D.size : Int) ∨ ((1 : Int) < (D.size : Int) ∧ ((D[0].toNat : Int) == 48) = false)) (v : Int) (hA : Lib.atoiAll D.data.toList = .ok v) (r : Value) (hr : (256 ≤ v ∧ r = prsV 0 0 3) ∨ (v < 256 ∧ r = prsV (spaceOf t[0]) v 0)) : Calls Tryz.prog 119 #[.string t] w (RetB w r) := by
  have a1 : (1 : Int) ≤ (t.size : Int) := by omega
  have HD := Aside0.mk hD
  have H1 := Aside0.mk d1
  have H2 := Aside0.mk d2
  have HA := Aside0.mk hA
  clear hD d1 d2 hA
  rcases hr with ⟨hv, rfl⟩ | ⟨hv, rfl⟩
  · rcases z with z1 | ⟨z1, z3⟩
    all_goals
      go_enter Tryz.func119, Tryz.ntmps119
      go_wp2
      go_quiet ((go_at_call 97; exact Calls.quiet_of_same (idx_c t h0 _ (hl.below (pw_below_drewN (below_alloc (Below.refl _ _) _) _)))))
      rw [HD.out]
      have d1 := H1.out
      have d2 := H2.out
      go_wp2_with (first | (go_at_call 117; (with_reducible refine (trim_b D _ (by omega)).mono ?_); rintro e w1 ⟨rfl, hb1⟩; have hr := res_cell hb1; have q0 := hr.1 0; have q1 := hr.1 1; have f0 := hr.2.1 0; have f1 := hr.2.1 1; have hz := hr.2.2; clear hr hb1; simp only [List.getElem?_toArray, List.getElem?_cons_zero, List.getElem?_cons_succ] at q0 q1) | (go_at_call 118; (with_reducible refine (atoi_ok D hDs _ HA.out _).mono ?_); rintro e w2 ⟨rfl, hb2⟩; have hz2 := below_step hz hb2; have g0 := pw_cell_below hb2 q0; have g1 := pw_cell_below hb2 q1; have lt1 := World.block_lt_of_cell? _ _ q0; have k0 := (hb2.frozen (p := ⟨w.heap.size, 0, none⟩) lt1).trans f0; have k1 := (hb2.frozen (p := ⟨w.heap.size, 1, none⟩) lt1).trans f1; clear hb2 q0 q1 f0 f1 lt1 hz))
      exact bodyPost_ret (v := prsV 0 0 3) (by simp [results, Tryz.results119, go_sem, prsV, g0, g1]) rfl ⟨rfl, below_set (below_set hz2 (Nat.le_refl _)) (Nat.le_refl _)⟩
  · rcases z with z1 | ⟨z1, z3⟩
    all_goals
      go_enter Tryz.func119, Tryz.ntmps119
      go_wp2
      go_quiet ((go_at_call 97; exact Calls.quiet_of_same (idx_c t h0 _ (hl.below (pw_below_drewN (below_alloc (Below.refl _ _) _) _)))))
      rw [HD.out]
      have d1 := H1.out
      have d2 := H2.out
      go_wp2_with (first | (go_at_call 117; (with_reducible refine (trim_b D _ (by omega)).mono ?_); rintro e w1 ⟨rfl, hb1⟩; have hr := res_cell hb1; have q0 := hr.1 0; have q1 := hr.1 1; have f0 := hr.2.1 0; have f1 := hr.2.1 1; have hz := hr.2.2; clear hr hb1; simp only [List.getElem?_toArray, List.getElem?_cons_zero, List.getElem?_cons_succ] at q0 q1) | (go_at_call 118; (with_reducible refine (atoi_ok D hDs _ HA.out _).mono ?_); rintro e w2 ⟨rfl, hb2⟩; have hz2 := below_step hz hb2; have g0 := pw_cell_below hb2 q0; have g1 := pw_cell_below hb2 q1; have lt1 := World.block_lt_of_cell? _ _ q0; have k0 := (hb2.frozen (p := ⟨w.heap.size, 0, none⟩) lt1).trans f0; have k1 := (hb2.frozen (p := ⟨w.heap.size, 1, none⟩) lt1).trans f1; clear hb2 q0 q1 f0 f1 lt1 hz))
      exact bodyPost_ret (v := prsV (spaceOf t[0]) v 0) (by simp [results, Tryz.results119, go_sem, prsV, g0, g1]) rfl ⟨rfl, below_set (below_set hz2 (Nat.le_refl _)) (Nat.le_refl _)⟩
/-- Parse, whatever it is given. -/
theorem prs_b (t : ByteArray) (w : World) (ht : t.size ≤ 140737488355328) (hl : Lets w) (he : Errs w) :
    Calls Tryz.prog 119 #[.string t] w (RetB w (prsV (addrParse t.data.toList).1 (addrParse t.data.toList).2.1 (addrParse t.data.toList).2.2)) := by
  by_cases h0 : 0 < t.size
  · have hc := data_cons t h0
    rw [hc]
    generalize hD : t.extract 1 t.size = D
    have a2 : t.toList.isEmpty = false := by rw [toList_isEmpty]; exact decide_eq_false (by omega)
    have hDs : D.size ≤ 140737488355328 := by rw [← hD, ByteArray.size_extract]; omega
    by_cases hb : spaceOf t[0] < 0
    · have e : addrParse (t[0] :: D.data.toList) = (0, 0, 6) := by simp [addrParse, hb]
      rw [e]
      exact prs_bad1 t D w ht h0 hD hb a2 hl
    · have hb' : 0 ≤ spaceOf t[0] := by omega
      by_cases hs : numSyn D.data.toList = true
      · have hne : D.data.toList ≠ [] := by intro hh; rw [hh] at hs; simp [numSyn] at hs
        have hz0 : 0 < D.size := by rw [← size_data]; exact List.length_pos_iff.2 hne
        have hall : D.data.toList.all isDig = true := by simp only [numSyn, Bool.and_eq_true] at hs; exact hs.1.2
        have d1 : ¬ D.toList = [] := by rw [toList_data]; exact hne
        have d2 : D.toList.isEmpty = false := by rw [toList_isEmpty]; exact decide_eq_false (by omega)
        have e1 : (trimD D).toList = [] := (trimD_nil D).2 hall
        have e2 : (trimD D).toList.isEmpty = true := by rw [e1]; rfl
        have hz : ¬ (1 : Int) < (D.size : Int) ∨ ((1 : Int) < (D.size : Int) ∧ ((D[0].toNat : Int) == 48) = false) := by
          by_cases h1 : (1 : Int) < (D.size : Int)
          · refine .inr ⟨h1, ?_⟩
            have hd := data_cons D hz0
            simp only [numSyn, Bool.and_eq_true] at hs
            have h2 := hs.2
            rw [hd] at h2
            have h3 : decide (1 < (D[0] :: (D.extract 1 D.size).data.toList).length) = true := by rw [← hd, size_data]; simp; omega
            rw [h3] at h2
            simp only [List.head?_cons, Bool.true_and, Bool.not_eq_true'] at h2
            have h4 : D[0] ≠ 48 := by intro hh; rw [hh] at h2; simp at h2
            have h5 : ¬ D[0].toNat = 48 := by intro hh; exact h4 (UInt8.toNat_inj.1 (by rw [hh]; rfl))
            simp; omega
          · exact .inl h1
        obtain ⟨hA1, hA2⟩ := atoi_dig D.data.toList hne hall
        by_cases hv : digNat D.data.toList < 9223372036854775808
        · refine prs_num t D w ht h0 hD hb' a2 hl hDs d1 d2 e1 e2 hz0 hz _ (hA1 hv) _ ?_
          by_cases h5 : digNat D.data.toList ≤ 255
          · exact .inr ⟨by omega, by simp [addrParse, hb, numParse, hs, h5]⟩
          · exact .inl ⟨by omega, by simp [addrParse, hb, numParse, hs, h5]⟩
        · have h5 : ¬ digNat D.data.toList ≤ 255 := by omega
          have e : addrParse (t[0] :: D.data.toList) = (0, 0, 3) := by simp [addrParse, hb, numParse, hs, h5]
          rw [e]
          exact prs_range t D w ht h0 hD hb' a2 hl he hDs d1 d2 e1 e2 hz0 hz (hA2 hv)
      · have e : addrParse (t[0] :: D.data.toList) = (0, 0, 6) := by simp [addrParse, hb, numParse, hs]
        rw [e]
        by_cases hz0 : 0 < D.size
        · have d1 : ¬ D.toList = [] := by rw [toList_nil_iff]; omega
          have d2 : D.toList.isEmpty = false := by rw [toList_isEmpty]; exact decide_eq_false (by omega)
          by_cases hall : D.data.toList.all isDig = true
          · have e1 : (trimD D).toList = [] := (trimD_nil D).2 hall
            have e2 : (trimD D).toList.isEmpty = true := by rw [e1]; rfl
            have hd := data_cons D hz0
            have hl2 : D.data.toList.length = D.size := size_data D
            have hne : D.data.toList.isEmpty = false := by rw [hd]; rfl
            have h2 : (decide (1 < D.data.toList.length) && D.data.toList.head? == some 48) = true := by
              simp only [numSyn, hne, hall, Bool.not_false, Bool.true_and] at hs
              simpa using hs
            simp only [Bool.and_eq_true, decide_eq_true_eq] at h2
            have h3 : D[0] = 48 := by
              have := h2.2
              rw [hd] at this
              simpa using this
            exact prs_bad4 t D w ht h0 hD hb' a2 hl hDs d1 d2 e1 e2 hz0 (by have := h2.1; omega) (by rw [h3]; rfl)
          · have e2 : (trimD D).toList.isEmpty = false := by
              cases hh : (trimD D).toList with
              | nil => exact absurd ((trimD_nil D).1 hh) hall
              | cons a r => rfl
            exact prs_bad3 t D w ht h0 hD hb' a2 hl hDs d1 d2 e2
        · have d1 : D.toList = [] := by rw [toList_nil_iff]; omega
          exact prs_bad2 t D w ht h0 hD hb' a2 hl d1 (by rw [d1]; rfl)
  · obtain rfl : t = ⟨#[]⟩ := by
      apply bytes_ext
      have : t.data.toList.length = 0 := by rw [size_data]; omega
      rw [List.length_eq_zero_iff.1 this]
    exact prs_empty w
end Go.Proofs.YtolmkdhgnganaaaGreatDoor.H
namespace Go.Proofs.YtolmkdhgnganaaaGreatDoor.H
open Go Go.RowKit Go.Proofs Go.Proofs.YtolmkdhgnganaaaGreatDoorW.PrintWords Go.Proofs.YtolmkdhgnganaaaGreatDoor.Sp
/-- A letter. -/
def isLet (c : Int) : Bool := decide ((97 ≤ c ∧ c ≤ 122) ∨ (65 ≤ c ∧ c ≤ 90))
/-- Byte j of a name. -/
def nmAt (l : List UInt8) (j : Nat) : Bool := isLet ((l.getD j 0).toNat : Int) || (decide (j ≠ 0) && (decide ((l.getD j 0).toNat = 95) || decide (48 ≤ (l.getD j 0).toNat ∧ (l.getD j 0).toNat ≤ 57)))
/-- A name. -/
def isNm (l : List UInt8) : Bool := decide (0 < l.length) && decide (l.length ≤ 16) && (List.range l.length).all (nmAt l)
theorem letter_b (c : Int) (w : World) : Calls Tryz.prog 98 #[.int .i32 c] w fun e w' => e = .returned (.bool (isLet c)) ∧ w = w' := by
  have hv : isLet c = decide ((97 ≤ c ∧ c ≤ 122) ∨ (65 ≤ c ∧ c ≤ 90)) := rfl
  generalize isLet c = v at hv
  by_cases h1 : 97 ≤ c
  · by_cases h2 : c ≤ 122
    · obtain rfl : v = true := by rw [hv]; exact decide_eq_true (by omega)
      clear hv
      go_enter Tryz.func98, Tryz.ntmps98
      go_wp2
      go_ret
      exact ⟨rfl, rfl⟩
    · by_cases h3 : 65 ≤ c
      · obtain rfl : v = false := by rw [hv]; exact decide_eq_false (by omega)
        have h4 : ¬ c ≤ 90 := by omega
        clear hv
        go_enter Tryz.func98, Tryz.ntmps98
        go_wp2
        go_ret
        exact ⟨rfl, rfl⟩
      · exfalso; omega
  · by_cases h3 : 65 ≤ c
    · obtain rfl : v = decide (c ≤ 90) := by rw [hv]; exact decide_eq_decide.2 (by omega)
      clear hv
      go_enter Tryz.func98, Tryz.ntmps98
      go_wp2
      go_ret
      exact ⟨rfl, rfl⟩
    · obtain rfl : v = false := by rw [hv]; exact decide_eq_false (by omega)
      clear hv
      go_enter Tryz.func98, Tryz.ntmps98
      go_wp2
      go_ret
      exact ⟨rfl, rfl⟩
theorem isNm_true {s : ByteArray} (h0 : 0 < s.size) (h1 : s.size ≤ 16) (h : ∀ j, j < s.size → nmAt s.data.toList j = true) : isNm s.data.toList = true := by
  have e : s.data.toList.length = s.size := by rw [Array.length_toList]; rfl
  simp only [isNm, e, Bool.and_eq_true, decide_eq_true_eq, List.all_eq_true, List.mem_range]
  exact ⟨⟨h0, h1⟩, h⟩
theorem isNm_false {s : ByteArray} {j : Nat} (hj : j < s.size) (h : nmAt s.data.toList j = false) : isNm s.data.toList = false := by
  have e : s.data.toList.length = s.size := by rw [Array.length_toList]; rfl
  cases hb : isNm s.data.toList with
  | false => rfl
  | true =>
    simp only [isNm, e, Bool.and_eq_true, decide_eq_true_eq, List.all_eq_true, List.mem_range] at hb
    rw [hb.2 j hj] at h; cases h
theorem getD_at (s : ByteArray) (j : Nat) (h : j < s.size) : s.data.toList.getD j 0 = s[j]'h := by
  have hj : j < s.data.size := h
  have e : s[j]'h = s.data[j]'hj := rfl
  rw [e]
  simp only [List.getD, Array.getElem?_toList, Array.getElem?_eq_getElem hj, Option.getD_some]
theorem iter_below (w : World) (s : ByteArray) (pos : Nat) : Below w.heap.size w (w.iter s pos) := below_alloc (Below.refl _ _) _
/-- One rune of a name, by the byte where it begins. -/
def okRune (pos : Nat) (r : Int) : Bool := isLet r || (decide (pos ≠ 0) && (decide (r = 95) || decide (48 ≤ r ∧ r ≤ 57)))
theorem okRune_byte (s : ByteArray) (pos : Nat) (h : pos < s.size) :
    1 ≤ (Utf8.decode s pos).2 ∧ okRune pos ((Utf8.decode s pos).1 : Int) = nmAt s.data.toList pos ∧ (okRune pos ((Utf8.decode s pos).1 : Int) = true → (Utf8.decode s pos).2 = 1) := by
  by_cases ha : (s[pos]'h).toNat < 128
  · rw [decode_ascii s pos h ha]
    refine ⟨Nat.le_refl _, ?_, fun _ => rfl⟩
    have e : ∀ n : Nat, (decide ((n : Int) = 95) = decide (n = 95)) ∧ (decide (48 ≤ (n : Int) ∧ (n : Int) ≤ 57) = decide (48 ≤ n ∧ n ≤ 57)) := fun n => ⟨decide_eq_decide.2 (by omega), decide_eq_decide.2 (by omega)⟩
    simp only [okRune, nmAt, getD_at s pos h, (e _).1, (e _).2]
  · have hd := decode_high s pos h (by omega)
    have f1 : okRune pos ((Utf8.decode s pos).1 : Int) = false := by
      simp only [okRune, isLet, Bool.or_eq_false_iff, Bool.and_eq_false_iff, decide_eq_false_iff_not]
      omega
    have f2 : nmAt s.data.toList pos = false := by
      simp only [nmAt, isLet, getD_at s pos h, Bool.or_eq_false_iff, Bool.and_eq_false_iff, decide_eq_false_iff_not]
      omega
    refine ⟨hd.2, by rw [f1, f2], fun hc => ?_⟩
    rw [f1] at hc; cases hc
set_option maxRecDepth 100000 in
theorem isName_loop (s : ByteArray) (w : World) (h0 : 0 < s.size) (h1 : s.size ≤ 16) (z : s.toList.isEmpty = false) :
    Calls Tryz.prog 69 #[.string s] w (RetB w (.bool (isNm s.data.toList))) := by
  have g : ¬ (16 : Int) < (s.size : Int) := by omega
  have gd : decide ((16 : Int) < (s.size : Int)) = false := decide_eq_false g
  have H := Aside0.mk h0
  have HB := Aside0.mk h1
  clear h0 h1
  generalize hV : isNm s.data.toList = V
  have HV := Aside0.mk hV
  clear hV
  go_enter Tryz.func69, Tryz.ntmps69
  go_wp2
  go_loopw [] (fun w' => ∃ pos : Nat, w' = w.iter s pos ∧ pos ≤ s.size ∧ Aside0 (∀ j, j < pos → nmAt s.data.toList j = true)) (fun w' => s.size - w'.iterPos w.heap.size)
  case atStart => exact ⟨0, rfl, Nat.zero_le _, ⟨fun j hj => by omega⟩⟩
  case round =>
    obtain ⟨pos, rfl, hle, HA⟩ := hrel
    by_cases hp : pos < s.size
    · have hnx : ∀ ty, (Instr.next (.pointer (some ⟨w.heap.size, 0, none⟩)) true ty).run Tryz.prog (w.iter s pos) = _ := fun ty => run_next_any w s pos ty hp
      have hok := okRune_byte s pos hp
      generalize (Utf8.decode s pos).1 = r at hnx hok
      generalize (Utf8.decode s pos).2 = wd at hnx hok
      obtain ⟨hw1, hok, hok1⟩ := hok
      have HO := Aside0.mk hok
      have HO1 := Aside0.mk hok1
      clear hok hok1
      have bad : nmAt s.data.toList pos = false → V = false := fun hb => HV.out ▸ isNm_false hp hb
      have HBad := Aside0.mk bad
      clear bad
      have good : okRune pos (r : Int) = true → (∃ pos_1, w.iter s (pos + wd) = w.iter s pos_1 ∧ pos_1 ≤ s.size ∧ Aside0 (∀ j, j < pos_1 → nmAt s.data.toList j = true)) ∧
          s.size - (w.iter s (pos + wd)).iterPos w.heap.size < s.size - (w.iter s pos).iterPos w.heap.size := by
        intro hg
        have e1 := HO1.out hg
        subst e1
        refine ⟨⟨pos + 1, rfl, by omega, ⟨fun j hj => ?_⟩⟩, by simp; omega⟩
        by_cases hj2 : j < pos
        · exact HA.out j hj2
        · obtain rfl : j = pos := by omega
          rw [← HO.out]; exact hg
      have HGood := Aside0.mk good
      clear good
      have hk : ∀ b, nmAt s.data.toList pos = b → okRune pos (r : Int) = b := fun b hb => by rw [HO.out]; exact hb
      cases hl : isLet (r : Int) with
      | true =>
        have hg : okRune pos (r : Int) = true := by simp [okRune, hl]
        have HG := Aside0.mk (HGood.out hg)
        clear hg hk
        go_wp2_with (go_at_call 98; (with_reducible refine (letter_b _ _).mono ?_); rintro e_ w1 ⟨rfl, rfl⟩; rw [hl])
        all_goals exact HG.out
      | false =>
        by_cases hp0 : pos = 0
        · subst hp0
          have hb : nmAt s.data.toList 0 = false := by rw [← HO.out]; simp [okRune, hl]
          obtain rfl := HBad.out hb
          clear hk hb
          go_wp2_with (go_at_call 98; (with_reducible refine (letter_b _ _).mono ?_); rintro e_ w1 ⟨rfl, rfl⟩; rw [hl])
          go_ret
          exact ⟨rfl, iter_below _ _ _⟩
        · have q0 : ((pos : Int) == 0) = false := by simp; omega
          by_cases h95 : (r : Int) = 95
          · have hg : okRune pos (r : Int) = true := by simp [okRune, h95, hp0]
            have HG := Aside0.mk (HGood.out hg)
            have q1 : ((r : Int) != 95) = false := by simp [h95]
            clear hg hk h95
            go_wp2_with (go_at_call 98; (with_reducible refine (letter_b _ _).mono ?_); rintro e_ w1 ⟨rfl, rfl⟩; rw [hl])
            all_goals exact HG.out
          · have q1 : ((r : Int) != 95) = true := by simpa using h95
            by_cases h48 : (r : Int) < 48
            · have hb : nmAt s.data.toList pos = false := by
                rw [← HO.out]; simp only [okRune, hl, Bool.false_or, Bool.and_eq_false_iff, Bool.or_eq_false_iff, decide_eq_false_iff_not]; omega
              obtain rfl := HBad.out hb
              have q2 : decide ((r : Int) < 48) = true := decide_eq_true h48
              clear hk hb h95
              go_wp2_with (go_at_call 98; (with_reducible refine (letter_b _ _).mono ?_); rintro e_ w1 ⟨rfl, rfl⟩; rw [hl])
              go_ret
              exact ⟨rfl, iter_below _ _ _⟩
            · have q2 : decide ((r : Int) < 48) = false := decide_eq_false h48
              by_cases h57 : (57 : Int) < r
              · have hb : nmAt s.data.toList pos = false := by
                  rw [← HO.out]; simp only [okRune, hl, Bool.false_or, Bool.and_eq_false_iff, Bool.or_eq_false_iff, decide_eq_false_iff_not]; omega
                obtain rfl := HBad.out hb
                have q3 : decide ((57 : Int) < (r : Int)) = true := decide_eq_true h57
                clear hk hb h95
                go_wp2_with (go_at_call 98; (with_reducible refine (letter_b _ _).mono ?_); rintro e_ w1 ⟨rfl, rfl⟩; rw [hl])
                go_ret
                exact ⟨rfl, iter_below _ _ _⟩
              · have q3 : decide ((57 : Int) < (r : Int)) = false := decide_eq_false h57
                have hg : okRune pos (r : Int) = true := by
                  simp only [okRune, hl, Bool.false_or, Bool.and_eq_true, Bool.or_eq_true, decide_eq_true_eq]; omega
                have HG := Aside0.mk (HGood.out hg)
                clear hg hk h95
                go_wp2_with (go_at_call 98; (with_reducible refine (letter_b _ _).mono ?_); rintro e_ w1 ⟨rfl, rfl⟩; rw [hl])
                all_goals exact HG.out
    · have hnx : ∀ ty, (Instr.next (.pointer (some ⟨w.heap.size, 0, none⟩)) true ty).run Tryz.prog (w.iter s pos) = _ := fun ty => run_next_end w s pos ty hp
      obtain rfl : pos = s.size := by omega
      have : V = true := by rw [← HV.out]; exact isNm_true H.out HB.out HA.out
      subst this
      go_wp2
      go_ret
      exact ⟨rfl, iter_below _ _ _⟩
set_option maxRecDepth 100000 in
theorem isName_b (s : ByteArray) (w : World) : Calls Tryz.prog 69 #[.string s] w (RetB w (.bool (isNm s.data.toList))) := by
  have e : s.data.toList.length = s.size := by rw [Array.length_toList]; rfl
  by_cases h0 : 0 < s.size
  · have z : s.toList.isEmpty = false := by rw [toList_isEmpty]; exact decide_eq_false (by omega)
    by_cases h1 : s.size ≤ 16
    · exact isName_loop s w h0 h1 z
    · have hf : isNm s.data.toList = false := by simp [isNm, e]; omega
      rw [hf]
      have g : (16 : Int) < (s.size : Int) := by omega
      clear hf e h1 h0
      go_enter Tryz.func69, Tryz.ntmps69
      go_wp2
      go_ret
      exact ⟨rfl, Below.refl _ _⟩
  · have z : s.toList.isEmpty = true := by rw [toList_isEmpty]; exact decide_eq_true (by omega)
    have z2 : s.toList = [] := by simpa using z
    have hf : isNm s.data.toList = false := by simp [isNm, e]; omega
    rw [hf]
    clear hf e h0
    go_enter Tryz.func69, Tryz.ntmps69
    go_wp2
    go_ret
    exact ⟨rfl, Below.refl _ _⟩
end Go.Proofs.YtolmkdhgnganaaaGreatDoor.H
namespace Go.Proofs.YtolmkdhgnganaaaGreatDoor.H
open Go Go.RowKit Go.Proofs Go.Proofs.YtolmkdhgnganaaaGreatDoorW.PrintWords Go.Proofs.YtolmkdhgnganaaaGreatDoor.Sp
abbrev Rung := PPrinterRoundTrip.S53
abbrev Con := PPrinterRoundTrip.S59
abbrev Coil := PPrinterRoundTrip.S69
abbrev kRung := PPrinterRoundTrip.k53
abbrev kCon := PPrinterRoundTrip.k59
abbrev kCoil := PPrinterRoundTrip.k69
/-- Two strings are the same, as the machine tells it. -/
def seq (a b : ByteArray) : Bool := a.toList == b.toList
theorem seq_dec (a b : ByteArray) : seq a b = decide (a = b) := by
  unfold seq
  rw [toList_data, toList_data]
  by_cases h : a = b
  · subst h; simp
  · rw [decide_eq_false h]
    have : ¬ a.data.toList = b.data.toList := fun e => h (bytes_ext e)
    simpa using this
/-- The label L stands on one of them. -/
def hasLab (l : List Rung) (L : ByteArray) : Bool := l.any fun x => seq x.f0 L
theorem hasLab_none {l : List Rung} {L : ByteArray} (h : ∀ k : Int, 0 ≤ k → k < l.length → seq (PPrinterRoundTrip.rd_T53 l k).f0 L = false) : hasLab l L = false := by
  unfold hasLab
  rw [List.any_eq_false]
  intro x hx
  obtain ⟨n, hn, rfl⟩ := List.getElem_of_mem hx
  have := h n (by omega) (by omega)
  simp only [PPrinterRoundTrip.rd_T53, Int.toNat_natCast, List.getD, List.getElem?_eq_getElem hn, Option.getD_some] at this
  rw [this]; simp
theorem hasLab_some {l : List Rung} {L : ByteArray} {k : Int} (h0 : 0 ≤ k) (h1 : k < l.length) (h : seq (PPrinterRoundTrip.rd_T53 l k).f0 L = true) : hasLab l L = true := by
  unfold hasLab
  rw [List.any_eq_true]
  have hn : k.toNat < l.length := by omega
  refine ⟨l[k.toNat], List.getElem_mem hn, ?_⟩
  simpa only [PPrinterRoundTrip.rd_T53, List.getD, List.getElem?_eq_getElem hn, Option.getD_some] using h
set_option maxRecDepth 100000 in
theorem clo_a (x : Rung) (A1 : Option Addr) (c1 : Nat) (A2 : Option Addr) (c2 : Nat) (L : ByteArray) (g : Nat) (w : World) (h : w.cell? ⟨g, 0, none⟩ = some (.string L)) :
    Calls Tryz.prog 70 #[.agg #[.string x.f0, .slice A1 x.f1.length c1, .slice A2 x.f2.length c2, .string x.f3], .pointer (some ⟨g, 0, none⟩)] w (RetB w (.bool (seq x.f0 L))) := by
  have lt : g < w.heap.size := World.block_lt_of_cell? w _ h
  go_enter Tryz.func70, Tryz.ntmps70
  go_wp2
  go_ret
  exact ⟨rfl, below_alloc (Below.refl _ _) _⟩
set_option maxRecDepth 100000 in
theorem clo_b (x : Rung) (A1 : Option Addr) (c1 : Nat) (A2 : Option Addr) (c2 : Nat) (L : ByteArray) (g : Nat) (w : World) (h : w.cell? ⟨g, 3, none⟩ = some (.string L)) :
    Calls Tryz.prog 43 #[.agg #[.string x.f0, .slice A1 x.f1.length c1, .slice A2 x.f2.length c2, .string x.f3], .pointer (some ⟨g, 0, none⟩)] w (RetB w (.bool (seq x.f0 L))) := by
  have lt : g < w.heap.size := World.block_lt_of_cell? w _ h
  go_enter Tryz.func43, Tryz.ntmps43
  go_wp2
  go_ret
  exact ⟨rfl, below_alloc (Below.refl _ _) _⟩
theorem w64 {x : Int} (h0 : -9223372036854775808 ≤ x) (h1 : x ≤ 9223372036854775807) : wrap64 x = x := by unfold wrap64; omega
/-- What slices.IndexFunc answers where the closure looks the label L up. -/
def FoundB (w : World) (b : Bool) (e : Ending) (w' : World) : Prop := ∃ v : Int, e = .returned (.int .i64 v) ∧ decide (0 ≤ v) = b ∧ Below w.heap.size w w'
set_option maxRecDepth 100000 in
theorem idx_a (A : Option Addr) (c : Nat) (l : List Rung) (L : ByteArray) (g : Nat) (w : World) (hr : Kd.C kRung w A l.length l) (hc : l.length ≤ c) (h : w.cell? ⟨g, 0, none⟩ = some (.string L)) :
    Calls Tryz.prog 68 #[.slice A l.length c, .func (.func 70) #[] #[.pointer (some ⟨g, 0, none⟩)]] w (FoundB w (hasLab l L)) := by
  have hmax := Kd.C_max hr
  have HR := Aside0.mk hr
  have HG := Aside0.mk h
  have HT := fun {b : Bool} (hb : hasLab l L = b) => hb
  clear hr h
  generalize hV : hasLab l L = V
  have HV := Aside0.mk hV
  clear hV HT
  go_enter Tryz.func68, Tryz.ntmps68
  go_wp2
  go_loopw [8] (fun cv w' => ∃ k : Int, cv = .int .i64 k ∧ 0 ≤ k ∧ k ≤ l.length ∧ Aside0 (Below w.heap.size w w') ∧ Aside0 (∀ j : Int, 0 ≤ j → j < k → seq (PPrinterRoundTrip.rd_T53 l j).f0 L = false)) (fun cv _ => l.length - (intOf cv).toNat)
  case atStart => exact ⟨0, rfl, by omega, by omega, ⟨Below.refl _ _⟩, ⟨fun j h1 h2 => by omega⟩⟩
  case round =>
    obtain ⟨k, rfl, h0, h1, HB, HA⟩ := hrel
    by_cases hk : k < l.length
    · obtain ⟨ad, A1, c1, A2, c2, rfl, x0, x1, x2, x3, hl1, hi1, hl2, hi2⟩ := PPrinterRoundTrip.at_T53 HR.out k h0 hk
      clear hl1 hi1 hl2 hi2
      replace x0 := pw_cell_below HB.out x0
      replace x1 := pw_cell_below HB.out x1
      replace x2 := pw_cell_below HB.out x2
      replace x3 := pw_cell_below HB.out x3
      have hwr : wrap64 (k + 1) = k + 1 := w64 (by omega) (by omega)
      cases hs : seq (PPrinterRoundTrip.rd_T53 l k).f0 L with
      | true =>
        obtain rfl : V = true := HV.out ▸ hasLab_some h0 hk hs
        have HS := Aside0.mk hs
        clear hs
        go_wp2_with (go_at_call 70; (with_reducible refine (clo_a _ _ _ _ _ L g _ (pw_cell_below HB.out HG.out)).mono ?_); rintro e_ w1 ⟨rfl, hb⟩; rw [HS.out])
        go_ret
        exact ⟨k, rfl, decide_eq_true h0, below_step HB.out hb⟩
      | false =>
        have HS := Aside0.mk hs
        clear hs
        go_wp2_with (go_at_call 70; (with_reducible refine (clo_a _ _ _ _ _ L g _ (pw_cell_below HB.out HG.out)).mono ?_); rintro e_ w1 ⟨rfl, hb⟩; rw [HS.out])
        go_roundw
        case rel =>
          refine ⟨k + 1, by simp [hwr], by omega, by omega, ⟨below_step HB.out hb⟩, ⟨fun j j0 j1 => ?_⟩⟩
          by_cases hj : j < k
          · exact HA.out j j0 hj
          · obtain rfl : j = k := by omega
            exact HS.out
        case measure => simp [intOf, hwr]; omega
    · obtain rfl : k = l.length := by omega
      obtain rfl : V = false := HV.out ▸ hasLab_none (fun j j0 j1 => HA.out j j0 j1)
      go_wp2
      go_ret
      exact ⟨-1, rfl, rfl, HB.out⟩
set_option maxRecDepth 100000 in
theorem idx_b (A : Option Addr) (c : Nat) (l : List Rung) (L : ByteArray) (g : Nat) (w : World) (hr : Kd.C kRung w A l.length l) (hc : l.length ≤ c) (h : w.cell? ⟨g, 3, none⟩ = some (.string L)) :
    Calls Tryz.prog 68 #[.slice A l.length c, .func (.func 43) #[] #[.pointer (some ⟨g, 0, none⟩)]] w (FoundB w (hasLab l L)) := by
  have hmax := Kd.C_max hr
  have HR := Aside0.mk hr
  have HG := Aside0.mk h
  have HT := fun {b : Bool} (hb : hasLab l L = b) => hb
  clear hr h
  generalize hV : hasLab l L = V
  have HV := Aside0.mk hV
  clear hV HT
  go_enter Tryz.func68, Tryz.ntmps68
  go_wp2
  go_loopw [8] (fun cv w' => ∃ k : Int, cv = .int .i64 k ∧ 0 ≤ k ∧ k ≤ l.length ∧ Aside0 (Below w.heap.size w w') ∧ Aside0 (∀ j : Int, 0 ≤ j → j < k → seq (PPrinterRoundTrip.rd_T53 l j).f0 L = false)) (fun cv _ => l.length - (intOf cv).toNat)
  case atStart => exact ⟨0, rfl, by omega, by omega, ⟨Below.refl _ _⟩, ⟨fun j h1 h2 => by omega⟩⟩
  case round =>
    obtain ⟨k, rfl, h0, h1, HB, HA⟩ := hrel
    by_cases hk : k < l.length
    · obtain ⟨ad, A1, c1, A2, c2, rfl, x0, x1, x2, x3, hl1, hi1, hl2, hi2⟩ := PPrinterRoundTrip.at_T53 HR.out k h0 hk
      clear hl1 hi1 hl2 hi2
      replace x0 := pw_cell_below HB.out x0
      replace x1 := pw_cell_below HB.out x1
      replace x2 := pw_cell_below HB.out x2
      replace x3 := pw_cell_below HB.out x3
      have hwr : wrap64 (k + 1) = k + 1 := w64 (by omega) (by omega)
      cases hs : seq (PPrinterRoundTrip.rd_T53 l k).f0 L with
      | true =>
        obtain rfl : V = true := HV.out ▸ hasLab_some h0 hk hs
        have HS := Aside0.mk hs
        clear hs
        go_wp2_with (go_at_call 43; (with_reducible refine (clo_b _ _ _ _ _ L g _ (pw_cell_below HB.out HG.out)).mono ?_); rintro e_ w1 ⟨rfl, hb⟩; rw [HS.out])
        go_ret
        exact ⟨k, rfl, decide_eq_true h0, below_step HB.out hb⟩
      | false =>
        have HS := Aside0.mk hs
        clear hs
        go_wp2_with (go_at_call 43; (with_reducible refine (clo_b _ _ _ _ _ L g _ (pw_cell_below HB.out HG.out)).mono ?_); rintro e_ w1 ⟨rfl, hb⟩; rw [HS.out])
        go_roundw
        case rel =>
          refine ⟨k + 1, by simp [hwr], by omega, by omega, ⟨below_step HB.out hb⟩, ⟨fun j j0 j1 => ?_⟩⟩
          by_cases hj : j < k
          · exact HA.out j j0 hj
          · obtain rfl : j = k := by omega
            exact HS.out
        case measure => simp [intOf, hwr]; omega
    · obtain rfl : k = l.length := by omega
      obtain rfl : V = false := HV.out ▸ hasLab_none (fun j j0 j1 => HA.out j j0 j1)
      go_wp2
      go_ret
      exact ⟨-1, rfl, rfl, HB.out⟩
theorem has_a (A : Option Addr) (c : Nat) (l : List Rung) (L : ByteArray) (g : Nat) (w : World) (hr : Kd.C kRung w A l.length l) (hc : l.length ≤ c) (h : w.cell? ⟨g, 0, none⟩ = some (.string L)) :
    Calls Tryz.prog 34 #[.slice A l.length c, .func (.func 70) #[] #[.pointer (some ⟨g, 0, none⟩)]] w (RetB w (.bool (hasLab l L))) := by
  have c1 := idx_a A c l L g w hr hc h
  go_enter Tryz.func34, Tryz.ntmps34
  go_wp2_with fail
  refine c1.mono ?_
  rintro e w1 ⟨v, rfl, hv, hb⟩
  go_wp2
  go_ret
  rw [← hv]
  exact ⟨rfl, hb⟩
theorem has_b (A : Option Addr) (c : Nat) (l : List Rung) (L : ByteArray) (g : Nat) (w : World) (hr : Kd.C kRung w A l.length l) (hc : l.length ≤ c) (h : w.cell? ⟨g, 3, none⟩ = some (.string L)) :
    Calls Tryz.prog 34 #[.slice A l.length c, .func (.func 43) #[] #[.pointer (some ⟨g, 0, none⟩)]] w (RetB w (.bool (hasLab l L))) := by
  have c1 := idx_b A c l L g w hr hc h
  go_enter Tryz.func34, Tryz.ntmps34
  go_wp2_with fail
  refine c1.mono ?_
  rintro e w1 ⟨v, rfl, hv, hb⟩
  go_wp2
  go_ret
  rw [← hv]
  exact ⟨rfl, hb⟩
end Go.Proofs.YtolmkdhgnganaaaGreatDoor.H
namespace Go.Proofs.YtolmkdhgnganaaaGreatDoor.H
open Go Go.RowKit Go.Proofs Go.Proofs.YtolmkdhgnganaaaGreatDoorW.PrintWords Go.Proofs.YtolmkdhgnganaaaGreatDoor.Sp
/-- printer.part. -/
def partE (i q m kind sp n : Int) : Int := if kind < 0 ∨ 4 ≤ kind then 8 else chkAddr i q m sp n
/-- The first that is not 0. -/
def orE (a b : Int) : Int := if a = 0 then b else a
def firstE {α : Type} (f : α → Int) : List α → Int
  | [] => 0
  | x :: xs => orE (f x) (firstE f xs)
def conE (i q m : Int) (c : Con) : Int := orE (partE i q m c.f0 c.f1.f0 c.f1.f1) (if isNm c.f2.data.toList && isNm c.f3.data.toList then 0 else 6)
def coilE (i q m : Int) (c : Coil) : Int := orE (partE i q m c.f0 c.f1.f0 c.f1.f1) (if c.f1.f0 = 0 then 2 else 0)
def labE (ahead : List Rung) (L : ByteArray) : Int := if L.toList.isEmpty then 0 else if isNm L.data.toList then (if hasLab ahead L then 9 else 0) else 6
def nameE (L : ByteArray) : Int := if L.toList.isEmpty then 0 else if isNm L.data.toList then 0 else 6
/-- printer.rung. -/
def rungE (i q m : Int) (ahead : List Rung) (r : Rung) : Int :=
  orE (labE ahead r.f0) (orE (if 256 < r.f1.length then 10 else 0) (orE (firstE (conE i q m) r.f1) (orE (if 16 < r.f2.length then 10 else 0) (orE (firstE (coilE i q m) r.f2) (nameE r.f3)))))
theorem orE_zero (b : Int) : orE 0 b = b := rfl
theorem orE_ne {a : Int} (b : Int) (h : a ≠ 0) : orE a b = a := if_neg h
theorem firstE_zero {α : Type} {f : α → Int} : ∀ {l : List α}, (∀ x ∈ l, f x = 0) → firstE f l = 0
  | [], _ => rfl
  | x :: xs, h => by rw [firstE, h x List.mem_cons_self, orE_zero]; exact firstE_zero fun y hy => h y (List.mem_cons_of_mem _ hy)
theorem firstE_at {α : Type} {f : α → Int} : ∀ {l : List α} {k : Nat} (hk : k < l.length), (∀ j (hj : j < k), f (l[j]'(by omega)) = 0) → f (l[k]'hk) ≠ 0 → firstE f l = f (l[k]'hk)
  | x :: xs, 0, hk, _, h => by rw [firstE]; exact orE_ne _ h
  | x :: xs, k + 1, hk, h0, h => by
    have := h0 0 (by omega)
    rw [firstE, show f x = 0 from this, orE_zero]
    exact firstE_at (l := xs) (k := k) (by simpa using hk) (fun j hj => h0 (j + 1) (by omega)) h
/-- The same, as a loop reads its list. -/
theorem firstE_rd {α : Type} {f : α → Int} {l : List α} {z : α} {k : Int} (h0 : 0 ≤ k) (hk : k < l.length) (h : ∀ j : Int, 0 ≤ j → j < k → f (l.getD j.toNat z) = 0) (hv : f (l.getD k.toNat z) ≠ 0) : firstE f l = f (l.getD k.toNat z) := by
  have hn : k.toNat < l.length := by omega
  have g : ∀ (n : Nat) (hn : n < l.length), l.getD n z = l[n] := by intro n hn; simp [List.getD, hn]
  rw [g _ hn] at hv ⊢
  refine firstE_at hn (fun j hj => ?_) hv
  have := h (j : Int) (by omega) (by omega)
  rwa [Int.toNat_natCast, g j (by omega)] at this
theorem firstE_rd0 {α : Type} {f : α → Int} {l : List α} {z : α} (h : ∀ j : Int, 0 ≤ j → j < l.length → f (l.getD j.toNat z) = 0) : firstE f l = 0 := by
  refine firstE_zero fun x hx => ?_
  obtain ⟨n, hn, rfl⟩ := List.getElem_of_mem hx
  have := h (n : Int) (by omega) (by omega)
  simpa [List.getD, hn] using this
theorem part_b (i q m e kind sp n : Int) (w : World) :
    Calls Tryz.prog 71 #[.agg #[.int .i64 i, .int .i64 q, .int .i64 m, .int .i64 e], .int .i64 kind, .agg #[.int .i64 sp, .int .i64 n]] w (RetB w (.int .i64 (partE i q m kind sp n))) := by
  by_cases h0 : kind < 0
  · have e0 : partE i q m kind sp n = 8 := by simp [partE, h0]
    rw [e0]
    go_enter Tryz.func71, Tryz.ntmps71
    go_wp2
    go_ret
    exact ⟨rfl, below_alloc (below_alloc (Below.refl _ _) _) _⟩
  · by_cases h4 : 4 ≤ kind
    · have e0 : partE i q m kind sp n = 8 := by simp [partE, h4]
      rw [e0]
      go_enter Tryz.func71, Tryz.ntmps71
      go_wp2
      go_ret
      exact ⟨rfl, below_alloc (below_alloc (Below.refl _ _) _) _⟩
    · have e0 : partE i q m kind sp n = chkAddr i q m sp n := by simp [partE, h0, h4]
      rw [e0]
      have F := chk_b i q m e sp n
      generalize chkAddr i q m sp n = v at F
      go_enter Tryz.func71, Tryz.ntmps71
      go_wp2_with fail
      refine (F _).mono ?_
      rintro e1 w1 ⟨rfl, hb⟩
      have hz := below_step (below_alloc (below_alloc (Below.refl w.heap.size w) _) _) hb
      go_wp2
      go_ret
      exact ⟨rfl, hz⟩
/-- What stands while a rung is looked through: the sizes and the rung in blocks of the call's own. -/
structure RungF (w : World) (i q m e : Int) (r : Rung) (A1 : Option Addr) (c1 : Nat) (A2 : Option Addr) (c2 : Nat) (wr : World) : Prop where
  b : Below w.heap.size w wr
  ks : wr.heap[w.heap.size]? = some (.cells #[.int .i64 i, .int .i64 q, .int .i64 m, .int .i64 e] 86 (0, 0))
  kr : wr.heap[w.heap.size + 1]? = some (.cells #[.string r.f0, .slice A1 r.f1.length c1, .slice A2 r.f2.length c2, .string r.f3] 53 (0, 0))
theorem RungF.step {w : World} {i q m e : Int} {r : Rung} {A1 : Option Addr} {c1 : Nat} {A2 : Option Addr} {c2 : Nat} {wr w1 : World} (h : RungF w i q m e r A1 c1 A2 c2 wr) (hb : Below wr.heap.size wr w1) : RungF w i q m e r A1 c1 A2 c2 w1 :=
  ⟨below_step h.b hb, blk_below h.ks hb, blk_below h.kr hb⟩
/-- The cells. -/
theorem RungF.cells {w : World} {i q m e : Int} {r : Rung} {A1 : Option Addr} {c1 : Nat} {A2 : Option Addr} {c2 : Nat} {wr : World} (h : RungF w i q m e r A1 c1 A2 c2 wr) :
    wr.cell? ⟨w.heap.size, 0, none⟩ = some (.int .i64 i) ∧ wr.cell? ⟨w.heap.size, 1, none⟩ = some (.int .i64 q) ∧ wr.cell? ⟨w.heap.size, 2, none⟩ = some (.int .i64 m) ∧ wr.cell? ⟨w.heap.size, 3, none⟩ = some (.int .i64 e) ∧
    wr.cell? ⟨w.heap.size + 1, 0, none⟩ = some (.string r.f0) ∧ wr.cell? ⟨w.heap.size + 1, 1, none⟩ = some (.slice A1 r.f1.length c1) ∧ wr.cell? ⟨w.heap.size + 1, 2, none⟩ = some (.slice A2 r.f2.length c2) ∧ wr.cell? ⟨w.heap.size + 1, 3, none⟩ = some (.string r.f3) ∧
    w.heap.size + 1 < wr.heap.size ∧ w.heap.size < wr.heap.size :=
  ⟨blk_cell h.ks 0, blk_cell h.ks 1, blk_cell h.ks 2, blk_cell h.ks 3, blk_cell h.kr 0, blk_cell h.kr 1, blk_cell h.kr 2, blk_cell h.kr 3, blk_lt h.kr, blk_lt h.ks⟩
end Go.Proofs.YtolmkdhgnganaaaGreatDoor.H
namespace Go.Proofs.YtolmkdhgnganaaaGreatDoor.H
open Go Go.RowKit Go.Proofs Go.Proofs.YtolmkdhgnganaaaGreatDoorW.PrintWords Go.Proofs.YtolmkdhgnganaaaGreatDoor.Sp
theorem orE_pos {a b V v : Int} (h : orE a b = V) (ha : a = v) (hv : v ≠ 0) : V = v := by rw [← h, ha]; exact orE_ne _ hv
theorem orE_next {a b V : Int} (h : orE a b = V) (ha : a = 0) : b = V := by rw [← h, ha]; rfl
theorem RungF.alloc {w : World} {i q m e : Int} {r : Rung} {A1 : Option Addr} {c1 : Nat} {A2 : Option Addr} {c2 : Nat} {wr : World} (h : RungF w i q m e r A1 c1 A2 c2 wr) (o : Obj) : RungF w i q m e r A1 c1 A2 c2 (wr.alloc o) :=
  ⟨below_alloc h.b _, blk_alloc h.ks _, blk_alloc h.kr _⟩
theorem RungF.new (w : World) (i q m e : Int) (r : Rung) (A1 : Option Addr) (c1 : Nat) (A2 : Option Addr) (c2 : Nat) : RungF w i q m e r A1 c1 A2 c2 ((w.alloc (.cells #[.int .i64 i, .int .i64 q, .int .i64 m, .int .i64 e] 86)).alloc (.cells #[.string r.f0, .slice A1 r.f1.length c1, .slice A2 r.f2.length c2, .string r.f3] 53)) :=
  ⟨below_alloc (below_alloc (Below.refl _ _) _) _, blk_alloc (blk_new _ _) _, by have := blk_new (w.alloc (.cells #[.int .i64 i, .int .i64 q, .int .i64 m, .int .i64 e] 86)) (.cells #[.string r.f0, .slice A1 r.f1.length c1, .slice A2 r.f2.length c2, .string r.f3] 53); simpa using this⟩
set_option maxRecDepth 100000 in
theorem rung_e (i q m e : Int) (A : Option Addr) (c : Nat) (l : List Rung) (r : Rung) (A1 : Option Addr) (c1 : Nat) (A2 : Option Addr) (c2 : Nat) (w : World)
    (hr : Kd.C kRung w A l.length l) (hc : l.length ≤ c) (h1 : Kd.C kCon w A1 r.f1.length r.f1) (hc1 : r.f1.length ≤ c1) (h2 : Kd.C kCoil w A2 r.f2.length r.f2) (hc2 : r.f2.length ≤ c2) (z : r.f0.toList.isEmpty = true) :
    Calls Tryz.prog 42 #[.agg #[.int .i64 i, .int .i64 q, .int .i64 m, .int .i64 e], .slice A l.length c, .agg #[.string r.f0, .slice A1 r.f1.length c1, .slice A2 r.f2.length c2, .string r.f3]] w (RetB w (.int .i64 (rungE i q m l r))) := by
  have z2 : r.f0.toList = [] := by simpa using z
  generalize hV : rungE i q m l r = V
  have HV := Aside0.mk hV
  clear hV
  have GR := Aside0.mk hr
  have G1 := Aside0.mk h1
  have G2 := Aside0.mk h2
  clear hr h1 h2
  have F0 := RungF.new w i q m e r A1 c1 A2 c2

  replace HV := Aside0.mk (orE_next HV.out (show labE l r.f0 = 0 by simp [labE, z]))
  go_enter Tryz.func42, Tryz.ntmps42

  obtain ⟨s0, s1, s2, s3, r0, r1, r2, r3, lt1, lt0⟩ := F0.cells
  by_cases z3 : (256 : Int) < r.f1.length
  · have HV2 := orE_pos HV.out (show (if 256 < r.f1.length then (10 : Int) else 0) = 10 from if_pos (by omega)) (by decide)
    subst HV2
    clear HV
    have FB := F0.b
    go_wp2
    go_ret
    exact ⟨rfl, FB⟩
  · replace HV := Aside0.mk (orE_next HV.out (show (if 256 < r.f1.length then (10 : Int) else 0) = 0 from if_neg (by omega)))
    have HF := Aside0.mk F0
    go_wp2
    clear s0 s1 s2 s3 r0 r1 r2 r3 lt1 lt0
    go_loopw [32] (fun cv w' => ∃ k : Int, cv = .int .i64 k ∧ 0 ≤ k ∧ k ≤ r.f1.length ∧ Aside0 (RungF w i q m e r A1 c1 A2 c2 w') ∧ Aside0 (∀ j : Int, 0 ≤ j → j < k → conE i q m (PPrinterRoundTrip.rd_T59 r.f1 j) = 0)) (fun cv _ => r.f1.length - (intOf cv).toNat)
    case atStart => exact ⟨0, rfl, by omega, by omega, HF, ⟨fun j h1 h2 => by omega⟩⟩
    case round =>
      clear HF
      obtain ⟨k, rfl, b0, b1, HF, HA⟩ := hrel
      obtain ⟨s0, s1, s2, s3, r0, r1, r2, r3, lt1, lt0⟩ := HF.out.cells
      by_cases hk : k < r.f1.length
      · obtain ⟨ad, rfl, x0, x1, x2, x3, x4⟩ := PPrinterRoundTrip.at_T59 G1.out k b0 hk
        replace x0 := pw_cell_below HF.out.b x0
        replace x1 := pw_cell_below HF.out.b x1
        replace x2 := pw_cell_below HF.out.b x2
        replace x3 := pw_cell_below HF.out.b x3
        replace x4 := pw_cell_below HF.out.b x4
        have hwr : wrap64 (k + 1) = k + 1 := w64 (by omega) (by omega)
        have hce : conE i q m (PPrinterRoundTrip.rd_T59 r.f1 k) = orE (partE i q m (PPrinterRoundTrip.rd_T59 r.f1 k).f0 (PPrinterRoundTrip.rd_T59 r.f1 k).f1.f0 (PPrinterRoundTrip.rd_T59 r.f1 k).f1.f1) (if isNm (PPrinterRoundTrip.rd_T59 r.f1 k).f2.data.toList && isNm (PPrinterRoundTrip.rd_T59 r.f1 k).f3.data.toList then 0 else 6) := rfl
        have P := part_b i q m e (PPrinterRoundTrip.rd_T59 r.f1 k).f0 (PPrinterRoundTrip.rd_T59 r.f1 k).f1.f0 (PPrinterRoundTrip.rd_T59 r.f1 k).f1.f1
        have N1 := isName_b (PPrinterRoundTrip.rd_T59 r.f1 k).f2
        have N2 := isName_b (PPrinterRoundTrip.rd_T59 r.f1 k).f3
        generalize hpe : partE i q m (PPrinterRoundTrip.rd_T59 r.f1 k).f0 (PPrinterRoundTrip.rd_T59 r.f1 k).f1.f0 (PPrinterRoundTrip.rd_T59 r.f1 k).f1.f1 = pe at P hce
        generalize hn1 : isNm (PPrinterRoundTrip.rd_T59 r.f1 k).f2.data.toList = n1 at N1 hce
        generalize hn2 : isNm (PPrinterRoundTrip.rd_T59 r.f1 k).f3.data.toList = n2 at N2 hce
        clear hpe hn1 hn2
        have bad : ∀ v : Int, conE i q m (PPrinterRoundTrip.rd_T59 r.f1 k) = v → v ≠ 0 → V = v := fun v hv hne => orE_pos HV.out ((firstE_rd b0 hk HA.out (by rw [show conE i q m (r.f1.getD k.toNat _) = v from hv]; exact hne)).trans hv) hne
        have HBad := Aside0.mk bad
        have HC := Aside0.mk hce
        have HP := Aside0.mk P
        have HN1 := Aside0.mk N1
        have HN2 := Aside0.mk N2
        clear bad hce P N1 N2
        go_wp2_with fail
        refine (HP.out _).mono ?_
        rintro e1 w1 ⟨rfl, hb⟩
        have KC := blk_below (blk_new wr _) hb
        have HF1 := Aside0.mk ((HF.out.alloc _).step hb)
        clear s0 s1 s2 s3 r0 r1 r2 r3 lt1 lt0 x0 x1 x2 x3 x4
        obtain ⟨s0, s1, s2, s3, r0, r1, r2, r3, lt1, lt0⟩ := HF1.out.cells
        have y2 := blk_cell KC 2
        have y3 := blk_cell KC 3
        have y4 := blk_cell KC 4
        by_cases hpe : pe = 0
        · subst hpe
          cases n1 with
          | false =>
            have hV := HBad.out 6 (by rw [HC.out]; rfl) (by decide)
            subst hV
            go_wp2_with fail
            refine (HN1.out _).mono ?_
            rintro e2 w2 ⟨rfl, hb2⟩
            have HF2 := below_step HF1.out.b hb2
            go_wp2
            go_ret
            exact ⟨rfl, HF2⟩
          | true =>
            cases n2 with
            | false =>
              have hV := HBad.out 6 (by rw [HC.out]; rfl) (by decide)
              subst hV
              go_wp2_with fail
              refine (HN1.out _).mono ?_
              rintro e2 w2 ⟨rfl, hb2⟩
              have HF2 := Aside0.mk (below_step HF1.out.b hb2)
              have y3' := pw_cell_below hb2 y3
              have y4' := pw_cell_below hb2 y4
              go_wp2_with fail
              refine (HN2.out _).mono ?_
              rintro e3 w3 ⟨rfl, hb3⟩
              have HF3 := below_step HF2.out hb3
              go_wp2
              go_ret
              exact ⟨rfl, HF3⟩
            | true =>
              go_wp2_with fail
              refine (HN1.out _).mono ?_
              rintro e2 w2 ⟨rfl, hb2⟩
              have HF2 := Aside0.mk (HF1.out.step hb2)
              have y3' := pw_cell_below hb2 y3
              have y4' := pw_cell_below hb2 y4
              go_wp2_with fail
              refine (HN2.out _).mono ?_
              rintro e3 w3 ⟨rfl, hb3⟩
              have HF3 := Aside0.mk (HF2.out.step hb3)
              go_wp2
              go_roundw
              case rel =>
                refine ⟨k + 1, by simp [hwr], by omega, by omega, HF3, ⟨fun j j0 j1 => ?_⟩⟩
                by_cases hj : j < k
                · exact HA.out j j0 hj
                · obtain rfl : j = k := by omega
                  rw [HC.out]; rfl
              case measure => simp [intOf, hwr]; omega
        · have hV := HBad.out pe (by rw [HC.out]; exact orE_ne _ hpe) hpe
          subst hV
          have FB := HF1.out.b
          go_wp2
          go_ret
          exact ⟨rfl, FB⟩
      · obtain rfl : k = r.f1.length := by omega
        replace HV := Aside0.mk (orE_next HV.out (firstE_rd0 HA.out))
        clear HA
        by_cases z4 : (16 : Int) < r.f2.length
        · have HV2 := orE_pos HV.out (show (if 16 < r.f2.length then (10 : Int) else 0) = 10 from if_pos (by omega)) (by decide)
          subst HV2
          clear HV
          have FB := HF.out.b
          go_wp2
          go_ret
          exact ⟨rfl, FB⟩
        · replace HV := Aside0.mk (orE_next HV.out (show (if 16 < r.f2.length then (10 : Int) else 0) = 0 from if_neg (by omega)))
          go_wp2
          clear s0 s1 s2 s3 r0 r1 r2 r3 lt1 lt0 hk b0 b1
          go_loopw [63] (fun cv w' => ∃ k : Int, cv = .int .i64 k ∧ 0 ≤ k ∧ k ≤ r.f2.length ∧ Aside0 (RungF w i q m e r A1 c1 A2 c2 w') ∧ Aside0 (∀ j : Int, 0 ≤ j → j < k → coilE i q m (PPrinterRoundTrip.rd_T69 r.f2 j) = 0)) (fun cv _ => r.f2.length - (intOf cv).toNat)
          case atStart => exact ⟨0, rfl, by omega, by omega, HF, ⟨fun j h1 h2 => by omega⟩⟩
          case round =>
            clear HF
            rename_i wr2 _
            obtain ⟨k, rfl, b0, b1, HF, HA⟩ := hrel
            obtain ⟨s0, s1, s2, s3, r0, r1, r2, r3, lt1, lt0⟩ := HF.out.cells
            by_cases hk : k < r.f2.length
            · obtain ⟨ad, rfl, x0, x1, x2⟩ := PPrinterRoundTrip.at_T69 G2.out k b0 hk
              replace x0 := pw_cell_below HF.out.b x0
              replace x1 := pw_cell_below HF.out.b x1
              replace x2 := pw_cell_below HF.out.b x2
              have hwr : wrap64 (k + 1) = k + 1 := w64 (by omega) (by omega)
              have hce : coilE i q m (PPrinterRoundTrip.rd_T69 r.f2 k) = orE (partE i q m (PPrinterRoundTrip.rd_T69 r.f2 k).f0 (PPrinterRoundTrip.rd_T69 r.f2 k).f1.f0 (PPrinterRoundTrip.rd_T69 r.f2 k).f1.f1) (if (PPrinterRoundTrip.rd_T69 r.f2 k).f1.f0 = 0 then 2 else 0) := rfl
              have P := part_b i q m e (PPrinterRoundTrip.rd_T69 r.f2 k).f0 (PPrinterRoundTrip.rd_T69 r.f2 k).f1.f0 (PPrinterRoundTrip.rd_T69 r.f2 k).f1.f1
              generalize hpe : partE i q m (PPrinterRoundTrip.rd_T69 r.f2 k).f0 (PPrinterRoundTrip.rd_T69 r.f2 k).f1.f0 (PPrinterRoundTrip.rd_T69 r.f2 k).f1.f1 = pe at P hce
              clear hpe
              have bad : ∀ v : Int, coilE i q m (PPrinterRoundTrip.rd_T69 r.f2 k) = v → v ≠ 0 → V = v := fun v hv hne => orE_pos HV.out ((firstE_rd b0 hk HA.out (by rw [show coilE i q m (r.f2.getD k.toNat _) = v from hv]; exact hne)).trans hv) hne
              have HBad := Aside0.mk bad
              have HC := Aside0.mk hce
              have HP := Aside0.mk P
              clear bad hce P
              go_wp2_with fail
              refine (HP.out _).mono ?_
              rintro e1 w1 ⟨rfl, hb⟩
              have KC := blk_below (blk_new _ _) hb
              have HF1 := Aside0.mk ((HF.out.alloc _).step hb)
              clear s0 s1 s2 s3 r0 r1 r2 r3 lt1 lt0 x0 x1 x2
              obtain ⟨s0, s1, s2, s3, r0, r1, r2, r3, lt1, lt0⟩ := HF1.out.cells
              have y0 := blk_cell KC 0
              have y1 := blk_cell KC 1
              have y2 := blk_cell KC 2
              by_cases hpe : pe = 0
              · subst hpe
                by_cases hs : (PPrinterRoundTrip.rd_T69 r.f2 k).f1.f0 = 0
                · have hV := HBad.out 2 (by rw [HC.out, if_pos hs]; rfl) (by decide)
                  subst hV
                  have FB := HF1.out.b
                  go_wp2
                  go_ret
                  exact ⟨rfl, FB⟩
                · go_wp2
                  go_roundw
                  case rel =>
                    refine ⟨k + 1, by simp [hwr], by omega, by omega, HF1, ⟨fun j j0 j1 => ?_⟩⟩
                    by_cases hj : j < k
                    · exact HA.out j j0 hj
                    · obtain rfl : j = k := by omega
                      rw [HC.out, if_neg hs]; rfl
                  case measure => simp [intOf, hwr]; omega
              · have hV := HBad.out pe (by rw [HC.out]; exact orE_ne _ hpe) hpe
                subst hV
                have FB := HF1.out.b
                go_wp2
                go_ret
                exact ⟨rfl, FB⟩
            · obtain rfl : k = r.f2.length := by omega
              replace HV := Aside0.mk (orE_next HV.out (firstE_rd0 HA.out))
              have FB := HF.out.b
              have N1 := isName_b r.f3
              have hne : nameE r.f3 = if r.f3.toList.isEmpty then 0 else if isNm r.f3.data.toList then 0 else 6 := rfl
              rw [hne] at HV
              generalize isNm r.f3.data.toList = n1 at N1 HV
              have HN1 := Aside0.mk N1
              clear N1 hne
              by_cases j0 : r.f3.toList = []
              · have j1 : r.f3.toList.isEmpty = true := by rw [j0]; rfl
                have hV : V = 0 := by rw [← HV.out, j1]; rfl
                subst hV
                go_wp2
                go_ret
                exact ⟨rfl, FB⟩
              · have j1 : r.f3.toList.isEmpty = false := by simpa using j0
                have hV : V = if n1 then 0 else 6 := by rw [← HV.out, j1]; rfl
                clear HV
                cases n1 with
                | false =>
                  obtain rfl : V = 6 := hV
                  go_wp2_with fail
                  refine (HN1.out _).mono ?_
                  rintro e2 w2 ⟨rfl, hb2⟩
                  have HF2 := below_step FB hb2
                  go_wp2
                  go_ret
                  exact ⟨rfl, HF2⟩
                | true =>
                  obtain rfl : V = 0 := hV
                  go_wp2_with fail
                  refine (HN1.out _).mono ?_
                  rintro e2 w2 ⟨rfl, hb2⟩
                  have HF2 := below_step FB hb2
                  go_wp2
                  go_ret
                  exact ⟨rfl, HF2⟩
set_option maxRecDepth 100000 in
theorem rung_l (i q m e : Int) (A : Option Addr) (c : Nat) (l : List Rung) (r : Rung) (A1 : Option Addr) (c1 : Nat) (A2 : Option Addr) (c2 : Nat) (w : World)
    (hr : Kd.C kRung w A l.length l) (hc : l.length ≤ c) (h1 : Kd.C kCon w A1 r.f1.length r.f1) (hc1 : r.f1.length ≤ c1) (h2 : Kd.C kCoil w A2 r.f2.length r.f2) (hc2 : r.f2.length ≤ c2) (z : r.f0.toList.isEmpty = false) :
    Calls Tryz.prog 42 #[.agg #[.int .i64 i, .int .i64 q, .int .i64 m, .int .i64 e], .slice A l.length c, .agg #[.string r.f0, .slice A1 r.f1.length c1, .slice A2 r.f2.length c2, .string r.f3]] w (RetB w (.int .i64 (rungE i q m l r))) := by
  have z2 : ¬ r.f0.toList = [] := by simpa using z
  have N0 := isName_b r.f0
  have hle : labE l r.f0 = if isNm r.f0.data.toList then (if hasLab l r.f0 then 9 else 0) else 6 := by simp [labE, z]

  generalize hV : rungE i q m l r = V
  have HV := Aside0.mk hV
  clear hV
  have GR := Aside0.mk hr
  have G1 := Aside0.mk h1
  have G2 := Aside0.mk h2
  clear hr h1 h2
  have F0 := RungF.new w i q m e r A1 c1 A2 c2

  generalize isNm r.f0.data.toList = n0 at N0 hle
  have HL := Aside0.mk hle
  have HN0 := Aside0.mk N0
  clear hle N0
  obtain ⟨s0, s1, s2, s3, r0, r1, r2, r3, lt1, lt0⟩ := F0.cells
  have HF0 := Aside0.mk F0
  clear F0
  cases n0 with
  | false =>
    have hV := orE_pos (v := 6) HV.out (HL.out.trans rfl) (by decide)
    subst hV
    go_enter Tryz.func42, Tryz.ntmps42
    go_wp2_with fail
    refine (HN0.out _).mono ?_
    rintro e1 w1 ⟨rfl, hb⟩
    have FB := below_step HF0.out.b hb
    go_wp2
    go_ret
    exact ⟨rfl, FB⟩
  | true =>
    have HB0 := fun (W : World) (hW : Below w.heap.size w W) (h : W.cell? ⟨w.heap.size + 1, 0, none⟩ = some (.string r.f0)) => has_a A c l r.f0 (w.heap.size + 1) W (Kd.C_below GR.out hW) hc h
    generalize hasLab l r.f0 = hl at HB0 HL
    have HB1 := Aside0.mk HB0
    clear HB0
    cases hl with
    | true =>
      have hV := orE_pos (v := 9) HV.out (HL.out.trans rfl) (by decide)
      subst hV
      go_enter Tryz.func42, Tryz.ntmps42
      go_wp2_with fail
      refine (HN0.out _).mono ?_
      rintro e1 w1 ⟨rfl, hb⟩
      have F1 := HF0.out.step hb
      clear s0 s1 s2 s3 r0 r1 r2 r3 lt1 lt0
      obtain ⟨s0, s1, s2, s3, r0, r1, r2, r3, lt1, lt0⟩ := F1.cells
      have HF1 := Aside0.mk F1
      clear F1
      go_wp2_with fail
      refine (HB1.out _ HF1.out.b r0).mono ?_
      rintro e2 w2 ⟨rfl, hb2⟩
      have FB := below_step HF1.out.b hb2
      go_wp2
      go_ret
      exact ⟨rfl, FB⟩
    | false =>
      replace HV := Aside0.mk (orE_next HV.out (HL.out.trans rfl))
      clear HL
      go_enter Tryz.func42, Tryz.ntmps42
      go_wp2_with fail
      refine (HN0.out _).mono ?_
      rintro e1 w1 ⟨rfl, hb⟩
      have F1 := HF0.out.step hb
      clear s0 s1 s2 s3 r0 r1 r2 r3 lt1 lt0 HF0
      obtain ⟨s0, s1, s2, s3, r0, r1, r2, r3, lt1, lt0⟩ := F1.cells
      have HF1 := Aside0.mk F1
      clear F1
      go_wp2_with fail
      refine (HB1.out _ HF1.out.b r0).mono ?_
      rintro e2 w2 ⟨rfl, hb2⟩
      have F0 := HF1.out.step hb2
      clear s0 s1 s2 s3 r0 r1 r2 r3 lt1 lt0 HF1
      obtain ⟨s0, s1, s2, s3, r0, r1, r2, r3, lt1, lt0⟩ := F0.cells
      by_cases z3 : (256 : Int) < r.f1.length
      · have HV2 := orE_pos HV.out (show (if 256 < r.f1.length then (10 : Int) else 0) = 10 from if_pos (by omega)) (by decide)
        subst HV2
        clear HV
        have FB := F0.b
        go_wp2
        go_ret
        exact ⟨rfl, FB⟩
      · replace HV := Aside0.mk (orE_next HV.out (show (if 256 < r.f1.length then (10 : Int) else 0) = 0 from if_neg (by omega)))
        have HF := Aside0.mk F0
        go_wp2
        clear s0 s1 s2 s3 r0 r1 r2 r3 lt1 lt0
        go_loopw [32] (fun cv w' => ∃ k : Int, cv = .int .i64 k ∧ 0 ≤ k ∧ k ≤ r.f1.length ∧ Aside0 (RungF w i q m e r A1 c1 A2 c2 w') ∧ Aside0 (∀ j : Int, 0 ≤ j → j < k → conE i q m (PPrinterRoundTrip.rd_T59 r.f1 j) = 0)) (fun cv _ => r.f1.length - (intOf cv).toNat)
        case atStart => exact ⟨0, rfl, by omega, by omega, HF, ⟨fun j h1 h2 => by omega⟩⟩
        case round =>
          clear HF
          obtain ⟨k, rfl, b0, b1, HF, HA⟩ := hrel
          obtain ⟨s0, s1, s2, s3, r0, r1, r2, r3, lt1, lt0⟩ := HF.out.cells
          by_cases hk : k < r.f1.length
          · obtain ⟨ad, rfl, x0, x1, x2, x3, x4⟩ := PPrinterRoundTrip.at_T59 G1.out k b0 hk
            replace x0 := pw_cell_below HF.out.b x0
            replace x1 := pw_cell_below HF.out.b x1
            replace x2 := pw_cell_below HF.out.b x2
            replace x3 := pw_cell_below HF.out.b x3
            replace x4 := pw_cell_below HF.out.b x4
            have hwr : wrap64 (k + 1) = k + 1 := w64 (by omega) (by omega)
            have hce : conE i q m (PPrinterRoundTrip.rd_T59 r.f1 k) = orE (partE i q m (PPrinterRoundTrip.rd_T59 r.f1 k).f0 (PPrinterRoundTrip.rd_T59 r.f1 k).f1.f0 (PPrinterRoundTrip.rd_T59 r.f1 k).f1.f1) (if isNm (PPrinterRoundTrip.rd_T59 r.f1 k).f2.data.toList && isNm (PPrinterRoundTrip.rd_T59 r.f1 k).f3.data.toList then 0 else 6) := rfl
            have P := part_b i q m e (PPrinterRoundTrip.rd_T59 r.f1 k).f0 (PPrinterRoundTrip.rd_T59 r.f1 k).f1.f0 (PPrinterRoundTrip.rd_T59 r.f1 k).f1.f1
            have N1 := isName_b (PPrinterRoundTrip.rd_T59 r.f1 k).f2
            have N2 := isName_b (PPrinterRoundTrip.rd_T59 r.f1 k).f3
            generalize hpe : partE i q m (PPrinterRoundTrip.rd_T59 r.f1 k).f0 (PPrinterRoundTrip.rd_T59 r.f1 k).f1.f0 (PPrinterRoundTrip.rd_T59 r.f1 k).f1.f1 = pe at P hce
            generalize hn1 : isNm (PPrinterRoundTrip.rd_T59 r.f1 k).f2.data.toList = n1 at N1 hce
            generalize hn2 : isNm (PPrinterRoundTrip.rd_T59 r.f1 k).f3.data.toList = n2 at N2 hce
            clear hpe hn1 hn2
            have bad : ∀ v : Int, conE i q m (PPrinterRoundTrip.rd_T59 r.f1 k) = v → v ≠ 0 → V = v := fun v hv hne => orE_pos HV.out ((firstE_rd b0 hk HA.out (by rw [show conE i q m (r.f1.getD k.toNat _) = v from hv]; exact hne)).trans hv) hne
            have HBad := Aside0.mk bad
            have HC := Aside0.mk hce
            have HP := Aside0.mk P
            have HN1 := Aside0.mk N1
            have HN2 := Aside0.mk N2
            clear bad hce P N1 N2
            go_wp2_with fail
            refine (HP.out _).mono ?_
            rintro e1 w1 ⟨rfl, hb⟩
            have KC := blk_below (blk_new wr _) hb
            have HF1 := Aside0.mk ((HF.out.alloc _).step hb)
            clear s0 s1 s2 s3 r0 r1 r2 r3 lt1 lt0 x0 x1 x2 x3 x4
            obtain ⟨s0, s1, s2, s3, r0, r1, r2, r3, lt1, lt0⟩ := HF1.out.cells
            have y2 := blk_cell KC 2
            have y3 := blk_cell KC 3
            have y4 := blk_cell KC 4
            by_cases hpe : pe = 0
            · subst hpe
              cases n1 with
              | false =>
                have hV := HBad.out 6 (by rw [HC.out]; rfl) (by decide)
                subst hV
                go_wp2_with fail
                refine (HN1.out _).mono ?_
                rintro e2 w2 ⟨rfl, hb2⟩
                have HF2 := below_step HF1.out.b hb2
                go_wp2
                go_ret
                exact ⟨rfl, HF2⟩
              | true =>
                cases n2 with
                | false =>
                  have hV := HBad.out 6 (by rw [HC.out]; rfl) (by decide)
                  subst hV
                  go_wp2_with fail
                  refine (HN1.out _).mono ?_
                  rintro e2 w2 ⟨rfl, hb2⟩
                  have HF2 := Aside0.mk (below_step HF1.out.b hb2)
                  have y3' := pw_cell_below hb2 y3
                  have y4' := pw_cell_below hb2 y4
                  go_wp2_with fail
                  refine (HN2.out _).mono ?_
                  rintro e3 w3 ⟨rfl, hb3⟩
                  have HF3 := below_step HF2.out hb3
                  go_wp2
                  go_ret
                  exact ⟨rfl, HF3⟩
                | true =>
                  go_wp2_with fail
                  refine (HN1.out _).mono ?_
                  rintro e2 w2 ⟨rfl, hb2⟩
                  have HF2 := Aside0.mk (HF1.out.step hb2)
                  have y3' := pw_cell_below hb2 y3
                  have y4' := pw_cell_below hb2 y4
                  go_wp2_with fail
                  refine (HN2.out _).mono ?_
                  rintro e3 w3 ⟨rfl, hb3⟩
                  have HF3 := Aside0.mk (HF2.out.step hb3)
                  go_wp2
                  go_roundw
                  case rel =>
                    refine ⟨k + 1, by simp [hwr], by omega, by omega, HF3, ⟨fun j j0 j1 => ?_⟩⟩
                    by_cases hj : j < k
                    · exact HA.out j j0 hj
                    · obtain rfl : j = k := by omega
                      rw [HC.out]; rfl
                  case measure => simp [intOf, hwr]; omega
            · have hV := HBad.out pe (by rw [HC.out]; exact orE_ne _ hpe) hpe
              subst hV
              have FB := HF1.out.b
              go_wp2
              go_ret
              exact ⟨rfl, FB⟩
          · obtain rfl : k = r.f1.length := by omega
            replace HV := Aside0.mk (orE_next HV.out (firstE_rd0 HA.out))
            clear HA
            by_cases z4 : (16 : Int) < r.f2.length
            · have HV2 := orE_pos HV.out (show (if 16 < r.f2.length then (10 : Int) else 0) = 10 from if_pos (by omega)) (by decide)
              subst HV2
              clear HV
              have FB := HF.out.b
              go_wp2
              go_ret
              exact ⟨rfl, FB⟩
            · replace HV := Aside0.mk (orE_next HV.out (show (if 16 < r.f2.length then (10 : Int) else 0) = 0 from if_neg (by omega)))
              go_wp2
              clear s0 s1 s2 s3 r0 r1 r2 r3 lt1 lt0 hk b0 b1
              go_loopw [63] (fun cv w' => ∃ k : Int, cv = .int .i64 k ∧ 0 ≤ k ∧ k ≤ r.f2.length ∧ Aside0 (RungF w i q m e r A1 c1 A2 c2 w') ∧ Aside0 (∀ j : Int, 0 ≤ j → j < k → coilE i q m (PPrinterRoundTrip.rd_T69 r.f2 j) = 0)) (fun cv _ => r.f2.length - (intOf cv).toNat)
              case atStart => exact ⟨0, rfl, by omega, by omega, HF, ⟨fun j h1 h2 => by omega⟩⟩
              case round =>
                clear HF
                rename_i wr2 _
                obtain ⟨k, rfl, b0, b1, HF, HA⟩ := hrel
                obtain ⟨s0, s1, s2, s3, r0, r1, r2, r3, lt1, lt0⟩ := HF.out.cells
                by_cases hk : k < r.f2.length
                · obtain ⟨ad, rfl, x0, x1, x2⟩ := PPrinterRoundTrip.at_T69 G2.out k b0 hk
                  replace x0 := pw_cell_below HF.out.b x0
                  replace x1 := pw_cell_below HF.out.b x1
                  replace x2 := pw_cell_below HF.out.b x2
                  have hwr : wrap64 (k + 1) = k + 1 := w64 (by omega) (by omega)
                  have hce : coilE i q m (PPrinterRoundTrip.rd_T69 r.f2 k) = orE (partE i q m (PPrinterRoundTrip.rd_T69 r.f2 k).f0 (PPrinterRoundTrip.rd_T69 r.f2 k).f1.f0 (PPrinterRoundTrip.rd_T69 r.f2 k).f1.f1) (if (PPrinterRoundTrip.rd_T69 r.f2 k).f1.f0 = 0 then 2 else 0) := rfl
                  have P := part_b i q m e (PPrinterRoundTrip.rd_T69 r.f2 k).f0 (PPrinterRoundTrip.rd_T69 r.f2 k).f1.f0 (PPrinterRoundTrip.rd_T69 r.f2 k).f1.f1
                  generalize hpe : partE i q m (PPrinterRoundTrip.rd_T69 r.f2 k).f0 (PPrinterRoundTrip.rd_T69 r.f2 k).f1.f0 (PPrinterRoundTrip.rd_T69 r.f2 k).f1.f1 = pe at P hce
                  clear hpe
                  have bad : ∀ v : Int, coilE i q m (PPrinterRoundTrip.rd_T69 r.f2 k) = v → v ≠ 0 → V = v := fun v hv hne => orE_pos HV.out ((firstE_rd b0 hk HA.out (by rw [show coilE i q m (r.f2.getD k.toNat _) = v from hv]; exact hne)).trans hv) hne
                  have HBad := Aside0.mk bad
                  have HC := Aside0.mk hce
                  have HP := Aside0.mk P
                  clear bad hce P
                  go_wp2_with fail
                  refine (HP.out _).mono ?_
                  rintro e1 w1 ⟨rfl, hb⟩
                  have KC := blk_below (blk_new _ _) hb
                  have HF1 := Aside0.mk ((HF.out.alloc _).step hb)
                  clear s0 s1 s2 s3 r0 r1 r2 r3 lt1 lt0 x0 x1 x2
                  obtain ⟨s0, s1, s2, s3, r0, r1, r2, r3, lt1, lt0⟩ := HF1.out.cells
                  have y0 := blk_cell KC 0
                  have y1 := blk_cell KC 1
                  have y2 := blk_cell KC 2
                  by_cases hpe : pe = 0
                  · subst hpe
                    by_cases hs : (PPrinterRoundTrip.rd_T69 r.f2 k).f1.f0 = 0
                    · have hV := HBad.out 2 (by rw [HC.out, if_pos hs]; rfl) (by decide)
                      subst hV
                      have FB := HF1.out.b
                      go_wp2
                      go_ret
                      exact ⟨rfl, FB⟩
                    · go_wp2
                      go_roundw
                      case rel =>
                        refine ⟨k + 1, by simp [hwr], by omega, by omega, HF1, ⟨fun j j0 j1 => ?_⟩⟩
                        by_cases hj : j < k
                        · exact HA.out j j0 hj
                        · obtain rfl : j = k := by omega
                          rw [HC.out, if_neg hs]; rfl
                      case measure => simp [intOf, hwr]; omega
                  · have hV := HBad.out pe (by rw [HC.out]; exact orE_ne _ hpe) hpe
                    subst hV
                    have FB := HF1.out.b
                    go_wp2
                    go_ret
                    exact ⟨rfl, FB⟩
                · obtain rfl : k = r.f2.length := by omega
                  replace HV := Aside0.mk (orE_next HV.out (firstE_rd0 HA.out))
                  have FB := HF.out.b
                  have N1 := isName_b r.f3
                  have hne : nameE r.f3 = if r.f3.toList.isEmpty then 0 else if isNm r.f3.data.toList then 0 else 6 := rfl
                  rw [hne] at HV
                  generalize isNm r.f3.data.toList = n1 at N1 HV
                  have HN1 := Aside0.mk N1
                  clear N1 hne
                  by_cases j0 : r.f3.toList = []
                  · have j1 : r.f3.toList.isEmpty = true := by rw [j0]; rfl
                    have hV : V = 0 := by rw [← HV.out, j1]; rfl
                    subst hV
                    go_wp2
                    go_ret
                    exact ⟨rfl, FB⟩
                  · have j1 : r.f3.toList.isEmpty = false := by simpa using j0
                    have hV : V = if n1 then 0 else 6 := by rw [← HV.out, j1]; rfl
                    clear HV
                    cases n1 with
                    | false =>
                      obtain rfl : V = 6 := hV
                      go_wp2_with fail
                      refine (HN1.out _).mono ?_
                      rintro e2 w2 ⟨rfl, hb2⟩
                      have HF2 := below_step FB hb2
                      go_wp2
                      go_ret
                      exact ⟨rfl, HF2⟩
                    | true =>
                      obtain rfl : V = 0 := hV
                      go_wp2_with fail
                      refine (HN1.out _).mono ?_
                      rintro e2 w2 ⟨rfl, hb2⟩
                      have HF2 := below_step FB hb2
                      go_wp2
                      go_ret
                      exact ⟨rfl, HF2⟩
theorem rung_b (i q m e : Int) (A : Option Addr) (c : Nat) (l : List Rung) (r : Rung) (A1 : Option Addr) (c1 : Nat) (A2 : Option Addr) (c2 : Nat) (w : World)
    (hr : Kd.C kRung w A l.length l) (hc : l.length ≤ c) (h1 : Kd.C kCon w A1 r.f1.length r.f1) (hc1 : r.f1.length ≤ c1) (h2 : Kd.C kCoil w A2 r.f2.length r.f2) (hc2 : r.f2.length ≤ c2) :
    Calls Tryz.prog 42 #[.agg #[.int .i64 i, .int .i64 q, .int .i64 m, .int .i64 e], .slice A l.length c, .agg #[.string r.f0, .slice A1 r.f1.length c1, .slice A2 r.f2.length c2, .string r.f3]] w (RetB w (.int .i64 (rungE i q m l r))) := by
  cases z : r.f0.toList.isEmpty with
  | true => exact rung_e i q m e A c l r A1 c1 A2 c2 w hr hc h1 hc1 h2 hc2 z
  | false => exact rung_l i q m e A c l r A1 c1 A2 c2 w hr hc h1 hc1 h2 hc2 z
end Go.Proofs.YtolmkdhgnganaaaGreatDoor.H
namespace Go.Proofs.YtolmkdhgnganaaaGreatDoor.H
open Go Go.RowKit Go.Proofs Go.Proofs.YtolmkdhgnganaaaGreatDoorW.PrintWords Go.Proofs.YtolmkdhgnganaaaGreatDoor.Sp
abbrev rdR (l : List Rung) (k : Int) : Rung := PPrinterRoundTrip.rd_T53 l k
/-- What rung k is told to be. -/
def rgAt (i q m : Int) (l : List Rung) (k : Int) : Int := rungE i q m (l.take k.toNat) (rdR l k)
/-- Rung k jumps to no later rung. -/
def jbAt (l : List Rung) (k : Int) : Bool := !(rdR l k).f3.toList.isEmpty && !hasLab (l.drop (k + 1).toNat) (rdR l k).f3
/-- printer.Check. -/
def ladChk (i q m : Int) (l : List Rung) : Int × Int :=
  if chkSize i q m 0 = 0 then (if 64 < l.length then (0, 10) else
    match (List.range l.length).find? (fun k => decide (rgAt i q m l (k : Nat) ≠ 0)) with
    | some k => ((k : Int), rgAt i q m l (k : Nat))
    | none => match (List.range l.length).find? (fun k => jbAt l (k : Nat)) with
      | some k => ((k : Int), 15)
      | none => ((l.length : Int), 0)) else (0, 3)
theorem find_at {p : Nat → Bool} {n k : Nat} (hk : k < n) (h : ∀ j, j < k → p j = false) (hp : p k = true) : (List.range n).find? p = some k :=
  List.find?_range_eq_some.2 ⟨hp, List.mem_range.2 hk, fun j hj => by rw [h j hj]; rfl⟩
theorem find_none {p : Nat → Bool} {n : Nat} (h : ∀ j, j < n → p j = false) : (List.range n).find? p = none := by
  rw [List.find?_eq_none]
  intro x hx
  rw [h x (List.mem_range.1 hx)]; simp
theorem ladChk_size {i q m : Int} {l : List Rung} (h : chkSize i q m 0 ≠ 0) : ladChk i q m l = (0, 3) := if_neg h
theorem ladChk_many {i q m : Int} {l : List Rung} (h : chkSize i q m 0 = 0) (h2 : 64 < l.length) : ladChk i q m l = (0, 10) := by rw [ladChk, if_pos h, if_pos h2]
theorem ladChk_rung {i q m : Int} {l : List Rung} (h : chkSize i q m 0 = 0) (h2 : ¬ 64 < l.length) {k e : Int} (b0 : 0 ≤ k) (b1 : k < l.length) (hz : ∀ j : Int, 0 ≤ j → j < k → rgAt i q m l j = 0) (he : rgAt i q m l k = e) (hne : e ≠ 0) :
    ladChk i q m l = (k, e) := by
  have hk : ((k.toNat : Nat) : Int) = k := by omega
  rw [ladChk, if_pos h, if_neg h2, find_at (k := k.toNat) (by omega) (fun j hj => decide_eq_false (by simpa using hz j (by omega) (by omega))) (by rw [hk, he]; exact decide_eq_true hne)]
  simp only [hk, he]
theorem ladChk_jump {i q m : Int} {l : List Rung} (h : chkSize i q m 0 = 0) (h2 : ¬ 64 < l.length) (hz : ∀ j : Int, 0 ≤ j → j < l.length → rgAt i q m l j = 0) {k : Int} (b0 : 0 ≤ k) (b1 : k < l.length) (hj0 : ∀ j : Int, 0 ≤ j → j < k → jbAt l j = false) (he : jbAt l k = true) :
    ladChk i q m l = (k, 15) := by
  have hk : ((k.toNat : Nat) : Int) = k := by omega
  rw [ladChk, if_pos h, if_neg h2, find_none (fun j hj => decide_eq_false (by simpa using hz j (by omega) (by omega)))]
  simp only []
  rw [find_at (k := k.toNat) (by omega) (fun j hj => hj0 j (by omega) (by omega)) (by rw [hk, he])]
  simp only [hk]
theorem ladChk_ok {i q m : Int} {l : List Rung} (h : chkSize i q m 0 = 0) (h2 : ¬ 64 < l.length) (hz : ∀ j : Int, 0 ≤ j → j < l.length → rgAt i q m l j = 0) (hj0 : ∀ j : Int, 0 ≤ j → j < l.length → jbAt l j = false) :
    ladChk i q m l = ((l.length : Int), 0) := by
  rw [ladChk, if_pos h, if_neg h2, find_none (fun j hj => decide_eq_false (by simpa using hz j (by omega) (by omega)))]
  simp only []
  rw [find_none (fun j hj => hj0 j (by omega) (by omega))]
theorem sizes_b (i q m : Int) (A : Option Addr) (c : Nat) (l : List Rung) (w : World) (hr : Kd.C kRung w A l.length l) (hc : l.length ≤ c) :
    Calls Tryz.prog 36 #[.agg #[.int .i64 i, .int .i64 q, .int .i64 m, .slice A l.length c]] w (RetB w (.agg #[.int .i64 i, .int .i64 q, .int .i64 m, .int .i64 0])) :=
  PPrinterRoundTrip.printer_sizes.calls i q m A c l i q m 0 w hr hc rfl
theorem rungs_to {w : World} {A : Option Addr} {c : Nat} {l : List Rung} (hr : Kd.C kRung w A l.length l) (hc : l.length ≤ c) {k : Int} (h0 : 0 ≤ k) (hk : k ≤ l.length) :
    (∀ W : World, (Instr.slice 22 (.slice A l.length c) none (some (.int .i64 k)) none).run Tryz.prog W = .ok (.slice A (l.take k.toNat).length c) W) ∧ Kd.C kRung w A (l.take k.toNat).length (l.take k.toNat) ∧ (l.take k.toNat).length ≤ c := by
  obtain ⟨i0, hi, hz⟩ := Option.map_eq_some_iff.1 PPrinterRoundTrip.info53
  have hl : (l.take k.toNat).length = k.toNat := by rw [List.length_take]; omega
  refine ⟨fun W => ?_, Kd.C_take hr (by omega), by omega⟩
  rw [hl]
  exact cut_to 22 53 .i64 Tryz.underlying22 hi A l.length c k h0 hk hc W
theorem rungs_from {w : World} {A : Option Addr} {c : Nat} {l : List Rung} (hr : Kd.C kRung w A l.length l) (hc : l.length ≤ c) {k : Int} (h0 : 0 ≤ k) (hk : k ≤ l.length) :
    ∃ A', (∀ W : World, (Instr.slice 22 (.slice A l.length c) (some (.int .i64 k)) none none).run Tryz.prog W = .ok (.slice A' (l.drop k.toNat).length (c - k.toNat)) W) ∧ Kd.C kRung w A' (l.drop k.toNat).length (l.drop k.toNat) ∧ (l.drop k.toNat).length ≤ c - k.toNat := by
  obtain ⟨i0, hi, hz⟩ := Option.map_eq_some_iff.1 PPrinterRoundTrip.info53
  simp only [Prod.mk.injEq] at hz
  have hl : (l.drop k.toNat).length = l.length - k.toNat := List.length_drop
  refine ⟨_, fun W => ?_, Kd.C_drop hr (by omega) hc, by omega⟩
  rw [hl]
  exact cut_from 22 53 .i64 Tryz.underlying22 hi kRung.sz (hz.2.1.trans rfl) A l.length c k h0 hk W
structure LadF (w : World) (g : Nat) (i q m : Int) (A : Option Addr) (n c : Nat) (wr : World) : Prop where
  b : Below w.heap.size w wr
  kl : wr.heap[w.heap.size]? = some (.cells #[.int .i64 i, .int .i64 q, .int .i64 m, .slice A n c] 24 (0, 0))
  ks : wr.heap[g]? = some (.cells #[.int .i64 i, .int .i64 q, .int .i64 m, .int .i64 0] 86 (0, 0))
theorem LadF.step {w : World} {g : Nat} {i q m : Int} {A : Option Addr} {n c : Nat} {wr w1 : World} (h : LadF w g i q m A n c wr) (hb : Below wr.heap.size wr w1) : LadF w g i q m A n c w1 :=
  ⟨below_step h.b hb, blk_below h.kl hb, blk_below h.ks hb⟩
theorem LadF.alloc {w : World} {g : Nat} {i q m : Int} {A : Option Addr} {n c : Nat} {wr : World} (h : LadF w g i q m A n c wr) (o : Obj) : LadF w g i q m A n c (wr.alloc o) :=
  ⟨below_alloc h.b _, blk_alloc h.kl _, blk_alloc h.ks _⟩
theorem LadF.drew {w : World} {g : Nat} {i q m : Int} {A : Option Addr} {n c : Nat} {wr : World} (h : LadF w g i q m A n c wr) : LadF w g i q m A n c wr.drew :=
  ⟨below_drew h.b, blk_drew h.kl, blk_drew h.ks⟩
theorem LadF.cells {w : World} {g : Nat} {i q m : Int} {A : Option Addr} {n c : Nat} {wr : World} (h : LadF w g i q m A n c wr) :
    wr.cell? ⟨w.heap.size, 0, none⟩ = some (.int .i64 i) ∧ wr.cell? ⟨w.heap.size, 1, none⟩ = some (.int .i64 q) ∧ wr.cell? ⟨w.heap.size, 2, none⟩ = some (.int .i64 m) ∧ wr.cell? ⟨w.heap.size, 3, none⟩ = some (.slice A n c) ∧
    wr.cell? ⟨g, 0, none⟩ = some (.int .i64 i) ∧ wr.cell? ⟨g, 1, none⟩ = some (.int .i64 q) ∧ wr.cell? ⟨g, 2, none⟩ = some (.int .i64 m) ∧ wr.cell? ⟨g, 3, none⟩ = some (.int .i64 0) ∧
    g < wr.heap.size ∧ w.heap.size < wr.heap.size :=
  ⟨blk_cell h.kl 0, blk_cell h.kl 1, blk_cell h.kl 2, blk_cell h.kl 3, blk_cell h.ks 0, blk_cell h.ks 1, blk_cell h.ks 2, blk_cell h.ks 3, blk_lt h.ks, blk_lt h.kl⟩
set_option maxHeartbeats 1000000 in
set_option maxRecDepth 100000 in
theorem ladChk_b (i q m : Int) (A : Option Addr) (c : Nat) (l : List Rung) (w : World) (hr : Kd.C kRung w A l.length l) (hc : l.length ≤ c) :
    Calls Tryz.prog 13 #[.agg #[.int .i64 i, .int .i64 q, .int .i64 m, .slice A l.length c]] w (RetB w (.tuple #[.int .i64 (ladChk i q m l).1, .int .i64 (ladChk i q m l).2])) := by
  generalize hV : ladChk i q m l = V
  have HV := Aside0.mk hV
  clear hV
  have hmax := Kd.C_max hr
  have GR := Aside0.mk hr
  clear hr
  have S1 := fun W (hW : Below w.heap.size w W) => sizes_b i q m A c l W (Kd.C_below GR.out hW) hc
  have S2 := chkSize_b i q m 0
  generalize hz : chkSize i q m 0 = sz at S2
  have HS := Aside0.mk hz
  clear hz
  go_enter Tryz.func13, Tryz.ntmps13
  go_wp2_with fail
  refine (S1 _ (below_alloc (Below.refl _ _) _)).mono ?_
  rintro e0 w1 ⟨rfl, hb⟩
  have F0 : LadF w w1.heap.size i q m A l.length c (w1.alloc (.cells #[.int .i64 i, .int .i64 q, .int .i64 m, .int .i64 0] 86)) :=
    ⟨below_alloc (below_step (below_alloc (Below.refl _ _) _) hb) _, blk_alloc (blk_below (blk_new _ _) hb) _, blk_new _ _⟩
  have HF := Aside0.mk F0
  obtain ⟨l0, l1, l2, l3, s0, s1, s2, s3, lt1, lt0⟩ := F0.cells
  have ltw : w.heap.size < w1.heap.size := by have := hb.size; simp at this; omega
  have kl1 := blk_below (blk_new w (.cells #[.int .i64 i, .int .i64 q, .int .i64 m, .slice A l.length c] 24)) hb
  have l3' := blk_cell kl1 3
  clear F0 kl1
  generalize hg : w1.heap.size = g at *
  go_wp2_with fail
  refine (S2 _).mono ?_
  rintro e0 w2 ⟨rfl, hb2⟩
  have HF2 := Aside0.mk (HF.out.step hb2)
  clear l0 l1 l2 l3 s0 s1 s2 s3 lt1 lt0 ltw l3' hb2 HF S1 S2 hg hb
  obtain ⟨l0, l1, l2, l3, s0, s1, s2, s3, lt1, lt0⟩ := HF2.out.cells
  have FB := HF2.out.b
  by_cases hs0 : sz = 0
  · subst hs0
    by_cases h64 : (64 : Int) < l.length
    · have hV := HV.out.symm.trans (ladChk_many HS.out (by omega))
      subst hV
      go_wp2
      go_ret2
      exact ⟨rfl, FB⟩
    · go_wp2
      clear l0 l1 l2 l3 s0 s1 s2 s3 lt1 lt0 FB
      go_loopw [24] (fun cv w' => ∃ k : Int, cv = .int .i64 k ∧ 0 ≤ k ∧ k ≤ l.length ∧ Aside0 (LadF w g i q m A l.length c w') ∧ Aside0 (∀ j : Int, 0 ≤ j → j < k → rgAt i q m l j = 0)) (fun cv _ => l.length - (intOf cv).toNat)
      case atStart => exact ⟨0, rfl, by omega, by omega, HF2, ⟨fun j h1 h2 => by omega⟩⟩
      case round =>
        clear HF2
        obtain ⟨k, rfl, b0, b1, HF, HA⟩ := hrel
        obtain ⟨l0, l1, l2, l3, s0, s1, s2, s3, lt1, lt0⟩ := HF.out.cells
        by_cases hk : k < l.length
        · obtain ⟨ad, A1, c1, A2, c2, rfl, x0, x1, x2, x3, hl1, hi1, hl2, hi2⟩ := PPrinterRoundTrip.at_T53 GR.out k b0 hk
          replace x0 := pw_cell_below HF.out.b x0
          replace x1 := pw_cell_below HF.out.b x1
          replace x2 := pw_cell_below HF.out.b x2
          replace x3 := pw_cell_below HF.out.b x3
          have hwr : wrap64 (k + 1) = k + 1 := w64 (by omega) (by omega)
          obtain ⟨hsl, hct, hcl⟩ := rungs_to GR.out hc b0 (by omega : k ≤ l.length)
          have HR := fun W (hW : Below w.heap.size w W) => rung_b i q m 0 (some ad) c (l.take k.toNat) (rdR l k) A1 c1 A2 c2 W (Kd.C_below hct hW) hcl (Kd.C_below hi1 hW) hl1 (Kd.C_below hi2 hW) hl2
          simp only [show (l.take k.toNat).length = k.toNat by rw [List.length_take]; omega] at HR hsl
          generalize hre : rungE i q m (l.take k.toNat) (rdR l k) = re at HR
          have HE := Aside0.mk (show rgAt i q m l k = re from hre)
          have HR' := Aside0.mk HR
          clear hre HR hl1 hi1 hl2 hi2 hct hcl
          have KR := blk_new wr (.cells #[.string (rdR l k).f0, .slice A1 (rdR l k).f1.length c1, .slice A2 (rdR l k).f2.length c2, .string (rdR l k).f3] 53)
          have n0 := blk_cell KR 0
          have n1 := blk_cell KR 1
          have n2 := blk_cell KR 2
          have n3 := blk_cell KR 3
          clear KR
          go_wp2
          have y0 : (wr.alloc (.cells #[.string (rdR l k).f0, .slice A1 (rdR l k).f1.length c1, .slice A2 (rdR l k).f2.length c2, .string (rdR l k).f3] 53)).cell? ⟨g, 0, none⟩ = some (.int .i64 i) := pw_cell_below (below_alloc (Below.refl _ _) _) s0
          have HF1 := Aside0.mk (HF.out.alloc (.cells #[.string (rdR l k).f0, .slice A1 (rdR l k).f1.length c1, .slice A2 (rdR l k).f2.length c2, .string (rdR l k).f3] 53)).drew
          go_region_held3 (fun w' => w'.cell? ⟨g, 0, none⟩ = some (.int .i64 i) ∧ w'.cell? ⟨g, 1, none⟩ = some (.int .i64 q) ∧ w'.cell? ⟨g, 2, none⟩ = some (.int .i64 m) ∧ w'.cell? ⟨g, 3, none⟩ = some (.int .i64 0) ∧ w'.cell? ⟨w.heap.size, 3, none⟩ = some (.slice (some ad) l.length c) ∧ w'.cell? ⟨wr.heap.size, 0, none⟩ = some (.string (rdR l k).f0) ∧ w'.cell? ⟨wr.heap.size, 1, none⟩ = some (.slice A1 (rdR l k).f1.length c1) ∧ w'.cell? ⟨wr.heap.size, 2, none⟩ = some (.slice A2 (rdR l k).f2.length c2) ∧ w'.cell? ⟨wr.heap.size, 3, none⟩ = some (.string (rdR l k).f3))
            (first | go_keep | (refine ⟨pw_cell_below hb ?_, pw_cell_below hb ?_, pw_cell_below hb ?_, pw_cell_below hb ?_, pw_cell_below hb ?_, pw_cell_below hb ?_, pw_cell_below hb ?_, pw_cell_below hb ?_, pw_cell_below hb ?_⟩ <;> go_keep))
            (first | (go_at_call 42; (with_reducible refine (HR'.out _ HF1.out.b).mono ?_); rintro e_ w3 ⟨rfl, hb⟩))
          have HF3 := Aside0.mk (HF1.out.step hb)
          by_cases hre : re = 0
          · subst hre
            go_wp2
            go_roundw
            case rel =>
              refine ⟨k + 1, by simp [hwr], by omega, by omega, HF3, ⟨fun j j0 j1 => ?_⟩⟩
              by_cases hj : j < k
              · exact HA.out j j0 hj
              · obtain rfl : j = k := by omega
                exact HE.out
            case measure => simp [intOf, hwr]; omega
          · have hV := HV.out.symm.trans (ladChk_rung HS.out (by omega) b0 hk HA.out HE.out hre)
            subst hV
            have FB := HF3.out.b
            go_wp2
            go_ret2
            exact ⟨rfl, FB⟩
        · obtain rfl : k = l.length := by omega
          go_wp2
          clear l0 l1 l2 l3 s0 s1 s2 s3 lt1 lt0 hk b0 b1
          have HZ := HA
          clear HA
          go_loopw [44] (fun cv w' => ∃ k : Int, cv = .int .i64 k ∧ 0 ≤ k ∧ k ≤ l.length ∧ Aside0 (LadF w g i q m A l.length c w') ∧ Aside0 (∀ j : Int, 0 ≤ j → j < k → jbAt l j = false)) (fun cv _ => l.length - (intOf cv).toNat)
          case atStart => exact ⟨0, rfl, by omega, by omega, HF, ⟨fun j h1 h2 => by omega⟩⟩
          case round =>
            clear HF
            obtain ⟨k, rfl, b0, b1, HF, HA⟩ := hrel
            obtain ⟨l0, l1, l2, l3, s0, s1, s2, s3, lt1, lt0⟩ := HF.out.cells
            by_cases hk : k < l.length
            · obtain ⟨ad, A1, c1, A2, c2, rfl, x0, x1, x2, x3, hl1, hi1, hl2, hi2⟩ := PPrinterRoundTrip.at_T53 GR.out k b0 hk
              clear hl1 hi1 hl2 hi2
              replace x0 := pw_cell_below HF.out.b x0
              replace x1 := pw_cell_below HF.out.b x1
              replace x2 := pw_cell_below HF.out.b x2
              replace x3 := pw_cell_below HF.out.b x3
              have hwr : wrap64 (k + 1) = k + 1 := w64 (by omega) (by omega)
              have hjb : jbAt l k = (!(rdR l k).f3.toList.isEmpty && !hasLab (l.drop (k + 1).toNat) (rdR l k).f3) := rfl
              by_cases j0 : (rdR l k).f3.toList = []
              · have j1 : (rdR l k).f3.toList.isEmpty = true := by rw [j0]; rfl
                have HJ := Aside0.mk (show jbAt l k = false by rw [hjb, j1]; rfl)
                have HF1 := fun o => Aside0.mk (HF.out.alloc o)
                clear hjb
                go_wp2
                go_roundw
                case rel =>
                  refine ⟨k + 1, by simp [hwr], by omega, by omega, HF1 _, ⟨fun j j0 j1 => ?_⟩⟩
                  by_cases hj : j < k
                  · exact HA.out j j0 hj
                  · obtain rfl : j = k := by omega
                    exact HJ.out
                case measure => simp [intOf, hwr]; omega
              · have j1 : (rdR l k).f3.toList.isEmpty = false := by simpa using j0
                obtain ⟨A', hsl, hct, hcl⟩ := rungs_from GR.out hc (show (0 : Int) ≤ k + 1 by omega) (by omega : k + 1 ≤ l.length)
                have HHas := fun W (hW : Below w.heap.size w W) (g2 : Nat) (h : W.cell? ⟨g2, 3, none⟩ = some (.string (rdR l k).f3)) => has_b A' (c - (k + 1).toNat) (l.drop (k + 1).toNat) (rdR l k).f3 g2 W (Kd.C_below hct hW) hcl h
                simp only [List.length_drop] at HHas hsl
                generalize hasLab (l.drop (k + 1).toNat) (rdR l k).f3 = hl at HHas hjb
                have HH := Aside0.mk HHas
                have HJ := Aside0.mk hjb
                have HF1 := Aside0.mk (HF.out.alloc (.cells #[.string (rdR l k).f0, .slice A1 (rdR l k).f1.length c1, .slice A2 (rdR l k).f2.length c2, .string (rdR l k).f3] 53))
                have n3 := Aside0.mk (blk_cell (blk_new wr (.cells #[.string (rdR l k).f0, .slice A1 (rdR l k).f1.length c1, .slice A2 (rdR l k).f2.length c2, .string (rdR l k).f3] 53)) 3)
                clear hct hcl HHas hjb
                go_wp2_with fail
                refine (HH.out _ HF1.out.b _ n3.out).mono ?_
                rintro e1 w3 ⟨rfl, hb⟩
                have HF3 := Aside0.mk (HF1.out.step hb)
                cases hl with
                | true =>
                  have HJ2 := Aside0.mk (show jbAt l k = false by rw [HJ.out, j1]; rfl)
                  go_wp2
                  go_roundw
                  case rel =>
                    refine ⟨k + 1, by simp [hwr], by omega, by omega, HF3, ⟨fun j j0 j1 => ?_⟩⟩
                    by_cases hj : j < k
                    · exact HA.out j j0 hj
                    · obtain rfl : j = k := by omega
                      exact HJ2.out
                  case measure => simp [intOf, hwr]; omega
                | false =>
                  have hV := HV.out.symm.trans (ladChk_jump HS.out (by omega) HZ.out b0 hk HA.out (by rw [HJ.out, j1]; rfl))
                  subst hV
                  have FB := HF3.out.b
                  go_wp2
                  go_ret2
                  exact ⟨rfl, FB⟩
            · obtain rfl : k = l.length := by omega
              have hV := HV.out.symm.trans (ladChk_ok HS.out (by omega) HZ.out HA.out)
              subst hV
              have FB := HF.out.b
              go_wp2
              go_ret2
              exact ⟨rfl, FB⟩
  · have hV := HV.out.symm.trans (ladChk_size (by rw [HS.out]; exact hs0))
    subst hV
    go_wp2
    go_ret2
    exact ⟨rfl, FB⟩
end Go.Proofs.YtolmkdhgnganaaaGreatDoor.H
namespace Go.Proofs.YtolmkdhgnganaaaGreatDoor.H
open Go Go.RowKit Go.Proofs Go.Proofs.YtolmkdhgnganaaaGreatDoorW.PrintWords Go.Proofs.YtolmkdhgnganaaaGreatDoor.Sp
def conEq (a b : Con) : Bool := a.f0 == b.f0 && ((a.f1.f0 == b.f1.f0 && (a.f1.f1 == b.f1.f1)) && (seq a.f2 b.f2 && (seq a.f3 b.f3)))
def coilEq (a b : Coil) : Bool := a.f0 == b.f0 && (a.f1.f0 == b.f1.f0 && (a.f1.f1 == b.f1.f1))
def eqL {α : Type} (e : α → α → Bool) (xs ys : List α) : Bool := decide (xs.length = ys.length) && (xs.zip ys).all fun p => e p.1 p.2
theorem eqL_len {α : Type} {e : α → α → Bool} {xs ys : List α} (h : xs.length ≠ ys.length) : eqL e xs ys = false := by simp [eqL, h]
theorem zip_at {α : Type} {xs ys : List α} {j : Nat} (h1 : j < xs.length) (h2 : j < ys.length) : (xs[j], ys[j]) ∈ xs.zip ys := by
  rw [List.mem_iff_getElem]
  exact ⟨j, by simp; omega, by simp⟩
theorem eqL_at {α : Type} {e : α → α → Bool} {xs ys : List α} {z : α} {k : Int} (h0 : 0 ≤ k) (h1 : k < xs.length) (hl : xs.length = ys.length) (h : e (xs.getD k.toNat z) (ys.getD k.toNat z) = false) : eqL e xs ys = false := by
  have n1 : k.toNat < xs.length := by omega
  have n2 : k.toNat < ys.length := by omega
  have e1 : xs.getD k.toNat z = xs[k.toNat] := by simp [List.getD, n1]
  have e2 : ys.getD k.toNat z = ys[k.toNat] := by simp [List.getD, n2]
  rw [e1, e2] at h
  unfold eqL
  rw [Bool.and_eq_false_iff]
  right
  rw [List.all_eq_false]
  exact ⟨_, zip_at n1 n2, by rw [h]; simp⟩
theorem eqL_all {α : Type} {e : α → α → Bool} {xs ys : List α} {z : α} (hl : xs.length = ys.length) (h : ∀ k : Int, 0 ≤ k → k < xs.length → e (xs.getD k.toNat z) (ys.getD k.toNat z) = true) : eqL e xs ys = true := by
  unfold eqL
  rw [Bool.and_eq_true]
  refine ⟨decide_eq_true hl, List.all_eq_true.2 fun p hp => ?_⟩
  obtain ⟨j, hj, rfl⟩ := List.getElem_of_mem hp
  rw [List.length_zip] at hj
  have n1 : j < xs.length := by omega
  have n2 : j < ys.length := by omega
  have := h (j : Int) (by omega) (by omega)
  rw [Int.toNat_natCast] at this
  have e1 : xs.getD j z = xs[j] := by simp [List.getD, n1]
  have e2 : ys.getD j z = ys[j] := by simp [List.getD, n2]
  rw [e1, e2] at this
  simpa using this
def rungEq (a b : Rung) : Bool := ((seq a.f0 b.f0 && seq a.f3 b.f3) && eqL conEq a.f1 b.f1) && eqL coilEq a.f2 b.f2
theorem eqAd (d : Nat) (w : World) (x0 y0 : Int) (x1 y1 : Int) :
    (Op.equalIn (d + 2) 57 (.agg #[.int .i64 x0, .int .i64 x1]) (.agg #[.int .i64 y0, .int .i64 y1])).run Tryz.prog w = .ok (x0 == y0 && (x1 == y1)) w := by
  refine eqA_of Tryz.underlying57 (by kernel_rfl) ?_
  refine eqf_cons (by rfl) (by go_simp; rfl) (by go_simp; rfl) (by go_simp) ?_
  exact eqf_last (by rfl) (by go_simp; rfl) (by go_simp; rfl) (by go_simp)
theorem eqCon (d : Nat) (w : World) (a b : Con) :
    (Op.equalIn (d + 3) 59 (.agg #[.int .i64 a.f0, .int .i64 a.f1.f0, .int .i64 a.f1.f1, .string a.f2, .string a.f3]) (.agg #[.int .i64 b.f0, .int .i64 b.f1.f0, .int .i64 b.f1.f1, .string b.f2, .string b.f3])).run Tryz.prog w = .ok (conEq a b) w := by
  unfold conEq seq
  refine eqA_of Tryz.underlying59 (by kernel_rfl) ?_
  refine eqf_cons (by rfl) (by go_simp; rfl) (by go_simp; rfl) (by go_simp) ?_
  refine eqf_cons (by rfl) (by go_simp) (by go_simp) (eqAd (d + 0) w _ _ _ _) ?_
  refine eqf_cons (by rfl) (by go_simp; rfl) (by go_simp; rfl) (by go_simp) ?_
  exact eqf_last (by rfl) (by go_simp; rfl) (by go_simp; rfl) (by go_simp)
theorem eqCoil (d : Nat) (w : World) (a b : Coil) :
    (Op.equalIn (d + 3) 69 (.agg #[.int .i64 a.f0, .int .i64 a.f1.f0, .int .i64 a.f1.f1]) (.agg #[.int .i64 b.f0, .int .i64 b.f1.f0, .int .i64 b.f1.f1])).run Tryz.prog w = .ok (coilEq a b) w := by
  unfold coilEq
  refine eqA_of Tryz.underlying69 (by kernel_rfl) ?_
  refine eqf_cons (by rfl) (by go_simp; rfl) (by go_simp; rfl) (by go_simp) ?_
  exact eqf_last (by rfl) (by go_simp) (by go_simp) (eqAd (d + 0) w _ _ _ _)
/-- Sizes. -/
def szEq (i q m i2 q2 m2 : Int) : Bool := i == i2 && (q == q2 && (m == m2 && true))
theorem eqSz (d : Nat) (w : World) (i q m i2 q2 m2 : Int) :
    (Op.equalIn (d + 2) 86 (.agg #[.int .i64 i, .int .i64 q, .int .i64 m, .int .i64 0]) (.agg #[.int .i64 i2, .int .i64 q2, .int .i64 m2, .int .i64 0])).run Tryz.prog w = .ok (szEq i q m i2 q2 m2) w := by
  unfold szEq
  refine eqA_of Tryz.underlying86 (by kernel_rfl) ?_
  refine eqf_cons (by rfl) (by go_simp; rfl) (by go_simp; rfl) (by go_simp) ?_
  refine eqf_cons (by rfl) (by go_simp; rfl) (by go_simp; rfl) (by go_simp) ?_
  refine eqf_cons (by rfl) (by go_simp; rfl) (by go_simp; rfl) (by go_simp) ?_
  exact eqf_last (by rfl) (by go_simp; rfl) (by go_simp; rfl) (by go_simp)
attribute [local go_sem high] eqCon eqCoil eqSz
set_option maxRecDepth 100000 in
theorem eqCons_b (A1 : Option Addr) (c1 : Nat) (xs : List Con) (A2 : Option Addr) (c2 : Nat) (ys : List Con) (w : World) (h1 : Kd.C kCon w A1 xs.length xs) (h2 : Kd.C kCon w A2 ys.length ys) (hc1 : xs.length ≤ c1) (hc2 : ys.length ≤ c2) :
    Calls Tryz.prog 39 #[.slice A1 xs.length c1, .slice A2 ys.length c2] w (RetB w (.bool (eqL conEq xs ys))) := by
  have hm := Kd.C_max h1
  have G1 := Aside0.mk h1
  have G2 := Aside0.mk h2
  clear h1 h2
  generalize hV : eqL conEq xs ys = V
  have HV := Aside0.mk hV
  clear hV
  by_cases hl : xs.length = ys.length
  · have hl2 : ((xs.length : Int) = (ys.length : Int)) := by omega
    go_enter Tryz.func39, Tryz.ntmps39
    go_wp2
    go_loopw [13] (fun cv w' => ∃ k : Int, cv = .int .i64 k ∧ 0 ≤ k ∧ k ≤ xs.length ∧ Aside0 (Below w.heap.size w w') ∧ Aside0 (∀ j : Int, 0 ≤ j → j < k → conEq (PPrinterRoundTrip.rd_T59 xs j) (PPrinterRoundTrip.rd_T59 ys j) = true)) (fun cv _ => xs.length - (intOf cv).toNat)
    case atStart => exact ⟨0, rfl, by omega, by omega, ⟨Below.refl _ _⟩, ⟨fun j h1 h2 => by omega⟩⟩
    case round =>
      obtain ⟨k, rfl, b0, b1, HB, HA⟩ := hrel
      by_cases hk : k < xs.length
      · have hk2 : k < ys.length := by omega
        obtain ⟨ad, e1, x0, x1, x2, x3, x4⟩ := PPrinterRoundTrip.at_T59 G1.out k b0 hk
        obtain ⟨ad2, e2, y0, y1, y2, y3, y4⟩ := PPrinterRoundTrip.at_T59 G2.out k b0 hk2
        subst e1
        subst e2
        replace x0 := pw_cell_below HB.out x0
        replace x1 := pw_cell_below HB.out x1
        replace x2 := pw_cell_below HB.out x2
        replace x3 := pw_cell_below HB.out x3
        replace x4 := pw_cell_below HB.out x4
        replace y0 := pw_cell_below HB.out y0
        replace y1 := pw_cell_below HB.out y1
        replace y2 := pw_cell_below HB.out y2
        replace y3 := pw_cell_below HB.out y3
        replace y4 := pw_cell_below HB.out y4
        have hwr : wrap64 (k + 1) = k + 1 := w64 (by omega) (by omega)
        have hfa : conEq (PPrinterRoundTrip.rd_T59 xs k) (PPrinterRoundTrip.rd_T59 ys k) = false → V = false := fun hq => HV.out.symm.trans (eqL_at b0 hk hl hq)
        have htr : conEq (PPrinterRoundTrip.rd_T59 xs k) (PPrinterRoundTrip.rd_T59 ys k) = true → ∀ j : Int, 0 ≤ j → j < k + 1 → conEq (PPrinterRoundTrip.rd_T59 xs j) (PPrinterRoundTrip.rd_T59 ys j) = true := by
          intro hq j j0 j1
          by_cases hj : j < k
          · exact HA.out j j0 hj
          · obtain rfl : j = k := by omega
            exact hq
        have HFa := Aside0.mk hfa
        have HTr := Aside0.mk htr
        clear hfa htr
        generalize PPrinterRoundTrip.rd_T59 xs k = x at *
        generalize PPrinterRoundTrip.rd_T59 ys k = y at *
        cases hq : conEq x y with
        | false =>
          have hV := HFa.out hq
          subst hV
          go_wp2
          go_quiet (fail)
          go_wp2
          go_ret
          exact ⟨rfl, pw_below_drewN HB.out _⟩
        | true =>
          have HT := Aside0.mk (HTr.out hq)
          go_wp2
          go_quiet (fail)
          go_wp2
          go_roundw
          case rel => exact ⟨k + 1, by simp [hwr], by omega, by omega, ⟨pw_below_drewN HB.out _⟩, HT⟩
          case measure => simp [intOf, hwr]; omega
      · obtain rfl : k = xs.length := by omega
        have hV := HV.out.symm.trans (eqL_all hl HA.out)
        subst hV
        have FB := HB.out
        go_wp2
        go_ret
        exact ⟨rfl, FB⟩
  · have hl2 : ¬ ((xs.length : Int) = (ys.length : Int)) := by omega
    have hV := HV.out.symm.trans (eqL_len hl)
    subst hV
    go_enter Tryz.func39, Tryz.ntmps39
    go_wp2
    go_ret
    exact ⟨rfl, Below.refl _ _⟩
set_option maxRecDepth 100000 in
theorem eqCoils_b (A1 : Option Addr) (c1 : Nat) (xs : List Coil) (A2 : Option Addr) (c2 : Nat) (ys : List Coil) (w : World) (h1 : Kd.C kCoil w A1 xs.length xs) (h2 : Kd.C kCoil w A2 ys.length ys) (hc1 : xs.length ≤ c1) (hc2 : ys.length ≤ c2) :
    Calls Tryz.prog 40 #[.slice A1 xs.length c1, .slice A2 ys.length c2] w (RetB w (.bool (eqL coilEq xs ys))) := by
  have hm := Kd.C_max h1
  have G1 := Aside0.mk h1
  have G2 := Aside0.mk h2
  clear h1 h2
  generalize hV : eqL coilEq xs ys = V
  have HV := Aside0.mk hV
  clear hV
  by_cases hl : xs.length = ys.length
  · have hl2 : ((xs.length : Int) = (ys.length : Int)) := by omega
    go_enter Tryz.func40, Tryz.ntmps40
    go_wp2
    go_loopw [13] (fun cv w' => ∃ k : Int, cv = .int .i64 k ∧ 0 ≤ k ∧ k ≤ xs.length ∧ Aside0 (Below w.heap.size w w') ∧ Aside0 (∀ j : Int, 0 ≤ j → j < k → coilEq (PPrinterRoundTrip.rd_T69 xs j) (PPrinterRoundTrip.rd_T69 ys j) = true)) (fun cv _ => xs.length - (intOf cv).toNat)
    case atStart => exact ⟨0, rfl, by omega, by omega, ⟨Below.refl _ _⟩, ⟨fun j h1 h2 => by omega⟩⟩
    case round =>
      obtain ⟨k, rfl, b0, b1, HB, HA⟩ := hrel
      by_cases hk : k < xs.length
      · have hk2 : k < ys.length := by omega
        obtain ⟨ad, e1, x0, x1, x2⟩ := PPrinterRoundTrip.at_T69 G1.out k b0 hk
        obtain ⟨ad2, e2, y0, y1, y2⟩ := PPrinterRoundTrip.at_T69 G2.out k b0 hk2
        subst e1
        subst e2
        replace x0 := pw_cell_below HB.out x0
        replace x1 := pw_cell_below HB.out x1
        replace x2 := pw_cell_below HB.out x2
        replace y0 := pw_cell_below HB.out y0
        replace y1 := pw_cell_below HB.out y1
        replace y2 := pw_cell_below HB.out y2
        have hwr : wrap64 (k + 1) = k + 1 := w64 (by omega) (by omega)
        have hfa : coilEq (PPrinterRoundTrip.rd_T69 xs k) (PPrinterRoundTrip.rd_T69 ys k) = false → V = false := fun hq => HV.out.symm.trans (eqL_at b0 hk hl hq)
        have htr : coilEq (PPrinterRoundTrip.rd_T69 xs k) (PPrinterRoundTrip.rd_T69 ys k) = true → ∀ j : Int, 0 ≤ j → j < k + 1 → coilEq (PPrinterRoundTrip.rd_T69 xs j) (PPrinterRoundTrip.rd_T69 ys j) = true := by
          intro hq j j0 j1
          by_cases hj : j < k
          · exact HA.out j j0 hj
          · obtain rfl : j = k := by omega
            exact hq
        have HFa := Aside0.mk hfa
        have HTr := Aside0.mk htr
        clear hfa htr
        generalize PPrinterRoundTrip.rd_T69 xs k = x at *
        generalize PPrinterRoundTrip.rd_T69 ys k = y at *
        cases hq : coilEq x y with
        | false =>
          have hV := HFa.out hq
          subst hV
          go_wp2
          go_quiet (fail)
          go_wp2
          go_ret
          exact ⟨rfl, pw_below_drewN HB.out _⟩
        | true =>
          have HT := Aside0.mk (HTr.out hq)
          go_wp2
          go_quiet (fail)
          go_wp2
          go_roundw
          case rel => exact ⟨k + 1, by simp [hwr], by omega, by omega, ⟨pw_below_drewN HB.out _⟩, HT⟩
          case measure => simp [intOf, hwr]; omega
      · obtain rfl : k = xs.length := by omega
        have hV := HV.out.symm.trans (eqL_all hl HA.out)
        subst hV
        have FB := HB.out
        go_wp2
        go_ret
        exact ⟨rfl, FB⟩
  · have hl2 : ¬ ((xs.length : Int) = (ys.length : Int)) := by omega
    have hV := HV.out.symm.trans (eqL_len hl)
    subst hV
    go_enter Tryz.func40, Tryz.ntmps40
    go_wp2
    go_ret
    exact ⟨rfl, Below.refl _ _⟩
set_option maxRecDepth 100000 in
theorem clo_e (x y : Rung) (A1 : Option Addr) (c1 : Nat) (A2 : Option Addr) (c2 : Nat) (B1 : Option Addr) (d1 : Nat) (B2 : Option Addr) (d2 : Nat) (w : World) (h1 : Kd.C kCon w A1 x.f1.length x.f1) (hc1 : x.f1.length ≤ c1) (h2 : Kd.C kCoil w A2 x.f2.length x.f2) (hc2 : x.f2.length ≤ c2)
    (k1 : Kd.C kCon w B1 y.f1.length y.f1) (hd1 : y.f1.length ≤ d1) (k2 : Kd.C kCoil w B2 y.f2.length y.f2) (hd2 : y.f2.length ≤ d2) :
    Calls Tryz.prog 38 #[.agg #[.string x.f0, .slice A1 x.f1.length c1, .slice A2 x.f2.length c2, .string x.f3], .agg #[.string y.f0, .slice B1 y.f1.length d1, .slice B2 y.f2.length d2, .string y.f3]] w (RetB w (.bool (rungEq x y))) := by
  have H1 := Aside0.mk (fun W (hW : Below w.heap.size w W) => eqCons_b A1 c1 x.f1 B1 d1 y.f1 W (Kd.C_below h1 hW) (Kd.C_below k1 hW) hc1 hd1)
  have H2 := Aside0.mk (fun W (hW : Below w.heap.size w W) => eqCoils_b A2 c2 x.f2 B2 d2 y.f2 W (Kd.C_below h2 hW) (Kd.C_below k2 hW) hc2 hd2)
  clear h1 h2 k1 k2
  have hv : rungEq x y = (((x.f0.toList == y.f0.toList) && (x.f3.toList == y.f3.toList)) && eqL conEq x.f1 y.f1 && eqL coilEq x.f2 y.f2) := rfl
  generalize rungEq x y = V at hv
  generalize eqL conEq x.f1 y.f1 = v1 at hv H1
  generalize eqL coilEq x.f2 y.f2 = v2 at hv H2
  have HV := Aside0.mk hv
  clear hv
  have F0 := Aside0.mk (below_alloc (below_alloc (Below.refl w.heap.size w) (.cells #[.string x.f0, .slice A1 x.f1.length c1, .slice A2 x.f2.length c2, .string x.f3] 53)) (.cells #[.string y.f0, .slice B1 y.f1.length d1, .slice B2 y.f2.length d2, .string y.f3] 53))
  have KX := Aside0.mk (blk_alloc (blk_new w (.cells #[.string x.f0, .slice A1 x.f1.length c1, .slice A2 x.f2.length c2, .string x.f3] 53)) (.cells #[.string y.f0, .slice B1 y.f1.length d1, .slice B2 y.f2.length d2, .string y.f3] 53))
  have KY : Aside0 (((w.alloc (.cells #[.string x.f0, .slice A1 x.f1.length c1, .slice A2 x.f2.length c2, .string x.f3] 53)).alloc (.cells #[.string y.f0, .slice B1 y.f1.length d1, .slice B2 y.f2.length d2, .string y.f3] 53)).heap[w.heap.size + 1]? = some (.cells #[.string y.f0, .slice B1 y.f1.length d1, .slice B2 y.f2.length d2, .string y.f3] 53 (0, 0))) :=
    ⟨by have := blk_new (w.alloc (.cells #[.string x.f0, .slice A1 x.f1.length c1, .slice A2 x.f2.length c2, .string x.f3] 53)) (.cells #[.string y.f0, .slice B1 y.f1.length d1, .slice B2 y.f2.length d2, .string y.f3] 53); simpa using this⟩
  cases q0 : (x.f0.toList == y.f0.toList) with
  | false =>
    obtain rfl : V = false := by rw [HV.out, q0]; rfl
    go_enter Tryz.func38, Tryz.ntmps38
    go_wp2
    go_ret
    exact ⟨rfl, F0.out⟩
  | true =>
    cases q3 : (x.f3.toList == y.f3.toList) with
    | false =>
      obtain rfl : V = false := by rw [HV.out, q0, q3]; rfl
      go_enter Tryz.func38, Tryz.ntmps38
      go_wp2
      go_ret
      exact ⟨rfl, F0.out⟩
    | true =>
      cases v1 with
      | false =>
        obtain rfl : V = false := by rw [HV.out, q0, q3]; rfl
        go_enter Tryz.func38, Tryz.ntmps38
        go_wp2_with fail
        refine (H1.out _ F0.out).mono ?_
        rintro e w1 ⟨rfl, hb⟩
        have FB := below_step F0.out hb
        go_wp2
        go_ret
        exact ⟨rfl, FB⟩
      | true =>
        obtain rfl : V = v2 := by rw [HV.out, q0, q3]; rfl
        go_enter Tryz.func38, Tryz.ntmps38
        go_wp2_with fail
        refine (H1.out _ F0.out).mono ?_
        rintro e w1 ⟨rfl, hb⟩
        have F1 := Aside0.mk (below_step F0.out hb)
        have x2 := blk_cell (blk_below KX.out hb) 2
        have y2 := blk_cell (blk_below KY.out hb) 2
        go_wp2_with fail
        refine (H2.out _ F1.out).mono ?_
        rintro e w2 ⟨rfl, hb2⟩
        have FB := below_step F1.out hb2
        go_wp2
        go_ret
        exact ⟨rfl, FB⟩
set_option maxRecDepth 100000 in
theorem eqRungs_b (A : Option Addr) (c : Nat) (xs : List Rung) (B : Option Addr) (d : Nat) (ys : List Rung) (w : World) (h1 : Kd.C kRung w A xs.length xs) (h2 : Kd.C kRung w B ys.length ys) (hc1 : xs.length ≤ c) (hc2 : ys.length ≤ d) :
    Calls Tryz.prog 37 #[.slice A xs.length c, .slice B ys.length d, .func (.func 38) #[] #[]] w (RetB w (.bool (eqL rungEq xs ys))) := by
  have hm := Kd.C_max h1
  have G1 := Aside0.mk h1
  have G2 := Aside0.mk h2
  clear h1 h2
  generalize hV : eqL rungEq xs ys = V
  have HV := Aside0.mk hV
  clear hV
  by_cases hl : xs.length = ys.length
  · have hl2 : ((xs.length : Int) = (ys.length : Int)) := by omega
    have HLn := Aside0.mk hl
    clear hl
    go_enter Tryz.func37, Tryz.ntmps37
    go_wp2
    go_loopw [17] (fun cv w' => ∃ k : Int, cv = .int .i64 k ∧ 0 ≤ k ∧ k ≤ xs.length ∧ Aside0 (Below w.heap.size w w') ∧ Aside0 (∀ j : Int, 0 ≤ j → j < k → rungEq (PPrinterRoundTrip.rd_T53 xs j) (PPrinterRoundTrip.rd_T53 ys j) = true)) (fun cv _ => xs.length - (intOf cv).toNat)
    case atStart => exact ⟨0, rfl, by omega, by omega, ⟨Below.refl _ _⟩, ⟨fun j h1 h2 => by omega⟩⟩
    case round =>
      obtain ⟨k, rfl, b0, b1, HB, HA⟩ := hrel
      by_cases hk : k < xs.length
      · have hk2 : k < ys.length := by omega
        obtain ⟨ad, A1, c1, A2, c2, e1, x0, x1, x2, x3, l1, i1, l2, i2⟩ := PPrinterRoundTrip.at_T53 G1.out k b0 hk
        obtain ⟨ad2, B1, d1, B2, d2, e2, y0, y1, y2, y3, m1, j1, m2, j2⟩ := PPrinterRoundTrip.at_T53 G2.out k b0 hk2
        subst e1
        subst e2
        replace x0 := pw_cell_below HB.out x0
        replace x1 := pw_cell_below HB.out x1
        replace x2 := pw_cell_below HB.out x2
        replace x3 := pw_cell_below HB.out x3
        replace y0 := pw_cell_below HB.out y0
        replace y1 := pw_cell_below HB.out y1
        replace y2 := pw_cell_below HB.out y2
        replace y3 := pw_cell_below HB.out y3
        have hwr : wrap64 (k + 1) = k + 1 := w64 (by omega) (by omega)
        have hfa : rungEq (PPrinterRoundTrip.rd_T53 xs k) (PPrinterRoundTrip.rd_T53 ys k) = false → V = false := fun hq => HV.out.symm.trans (eqL_at b0 hk HLn.out hq)
        have htr : rungEq (PPrinterRoundTrip.rd_T53 xs k) (PPrinterRoundTrip.rd_T53 ys k) = true → ∀ j : Int, 0 ≤ j → j < k + 1 → rungEq (PPrinterRoundTrip.rd_T53 xs j) (PPrinterRoundTrip.rd_T53 ys j) = true := by
          intro hq j j0 j1
          by_cases hj : j < k
          · exact HA.out j j0 hj
          · obtain rfl : j = k := by omega
            exact hq
        have HFa := Aside0.mk hfa
        have HTr := Aside0.mk htr
        clear hfa htr
        generalize PPrinterRoundTrip.rd_T53 xs k = x at *
        generalize PPrinterRoundTrip.rd_T53 ys k = y at *
        have HE := Aside0.mk (fun W (hW : Below w.heap.size w W) => clo_e x y A1 c1 A2 c2 B1 d1 B2 d2 W (Kd.C_below i1 hW) l1 (Kd.C_below i2 hW) l2 (Kd.C_below j1 hW) m1 (Kd.C_below j2 hW) m2)
        have HB2 := Aside0.mk (below_alloc (below_alloc HB.out (.cells #[.string x.f0, .slice A1 x.f1.length c1, .slice A2 x.f2.length c2, .string x.f3] 53)) (.cells #[.string y.f0, .slice B1 y.f1.length d1, .slice B2 y.f2.length d2, .string y.f3] 53))
        clear i1 i2 j1 j2 l1 l2 m1 m2
        have lt0 := World.block_lt_of_cell? _ _ y0
        cases hq : rungEq x y with
        | false =>
          have hV := HFa.out hq
          subst hV
          rw [hq] at HE
          go_wp2_with fail
          refine (HE.out _ HB2.out).mono ?_
          rintro e w1 ⟨rfl, hb⟩
          have FB := below_step HB2.out hb
          go_wp2
          go_ret
          exact ⟨rfl, FB⟩
        | true =>
          have HT := Aside0.mk (HTr.out hq)
          rw [hq] at HE
          go_wp2_with fail
          refine (HE.out _ HB2.out).mono ?_
          rintro e w1 ⟨rfl, hb⟩
          have FB := Aside0.mk (below_step HB2.out hb)
          go_wp2
          go_roundw
          case rel => exact ⟨k + 1, by simp [hwr], by omega, by omega, FB, HT⟩
          case measure => simp [intOf, hwr]; omega
      · obtain rfl : k = xs.length := by omega
        have hV := HV.out.symm.trans (eqL_all HLn.out HA.out)
        subst hV
        have FB := HB.out
        go_wp2
        go_ret
        exact ⟨rfl, FB⟩
  · have hl2 : ¬ ((xs.length : Int) = (ys.length : Int)) := by omega
    have hV := HV.out.symm.trans (eqL_len hl)
    subst hV
    go_enter Tryz.func37, Tryz.ntmps37
    go_wp2
    go_ret
    exact ⟨rfl, Below.refl _ _⟩
end Go.Proofs.YtolmkdhgnganaaaGreatDoor.H
namespace Go.Proofs.YtolmkdhgnganaaaGreatDoor.H
open Go Go.RowKit Go.Proofs Go.Proofs.YtolmkdhgnganaaaGreatDoorW.PrintWords Go.Proofs.YtolmkdhgnganaaaGreatDoorW.PrintLast Go.Proofs.YtolmkdhgnganaaaGreatDoorW.PrintMore Go.Proofs.YtolmkdhgnganaaaGreatDoor.Sp
attribute [local go_sem high] eqSz
/-- printer.Equal. -/
def ladEq (i q m : Int) (l : List Rung) (i2 q2 m2 : Int) (k : List Rung) : Bool := szEq i q m i2 q2 m2 && eqL rungEq l k
set_option maxHeartbeats 2000000 in
set_option maxRecDepth 100000 in
theorem equal_b (i q m : Int) (A : Option Addr) (c : Nat) (l : List Rung) (i2 q2 m2 : Int) (B : Option Addr) (d : Nat) (k : List Rung) (w : World) (h1 : Kd.C kRung w A l.length l) (h2 : Kd.C kRung w B k.length k) (hc1 : l.length ≤ c) (hc2 : k.length ≤ d) :
    Calls Tryz.prog 12 #[.agg #[.int .i64 i, .int .i64 q, .int .i64 m, .slice A l.length c], .agg #[.int .i64 i2, .int .i64 q2, .int .i64 m2, .slice B k.length d]] w (RetB w (.bool (ladEq i q m l i2 q2 m2 k))) := by
  have HS1 := Aside0.mk (fun W (hW : Below w.heap.size w W) => sizes_b i q m A c l W (Kd.C_below h1 hW) hc1)
  have HS2 := Aside0.mk (fun W (hW : Below w.heap.size w W) => sizes_b i2 q2 m2 B d k W (Kd.C_below h2 hW) hc2)
  have HE := Aside0.mk (fun W (hW : Below w.heap.size w W) => eqRungs_b A c l B d k W (Kd.C_below h1 hW) (Kd.C_below h2 hW) hc1 hc2)
  clear h1 h2
  have hv : ladEq i q m l i2 q2 m2 k = (szEq i q m i2 q2 m2 && eqL rungEq l k) := rfl
  generalize ladEq i q m l i2 q2 m2 k = V at hv
  generalize eqL rungEq l k = v1 at hv HE
  have HW : Aside0 (Below w.heap.size w ((w.alloc (.cells #[.int .i64 i, .int .i64 q, .int .i64 m, .slice A l.length c] 24)).alloc (.cells #[.int .i64 i2, .int .i64 q2, .int .i64 m2, .slice B k.length d] 24)).drew) := ⟨below_drew (below_alloc (below_alloc (Below.refl _ _) _) _)⟩
  have KA := Aside0.mk (blk_alloc (blk_new w (.cells #[.int .i64 i, .int .i64 q, .int .i64 m, .slice A l.length c] 24)) (.cells #[.int .i64 i2, .int .i64 q2, .int .i64 m2, .slice B k.length d] 24))
  have KB : Aside0 (((w.alloc (.cells #[.int .i64 i, .int .i64 q, .int .i64 m, .slice A l.length c] 24)).alloc (.cells #[.int .i64 i2, .int .i64 q2, .int .i64 m2, .slice B k.length d] 24)).heap[w.heap.size + 1]? = some (.cells #[.int .i64 i2, .int .i64 q2, .int .i64 m2, .slice B k.length d] 24 (0, 0))) :=
    ⟨by have := blk_new (w.alloc (.cells #[.int .i64 i, .int .i64 q, .int .i64 m, .slice A l.length c] 24)) (.cells #[.int .i64 i2, .int .i64 q2, .int .i64 m2, .slice B k.length d] 24); simpa using this⟩
  cases hs : szEq i q m i2 q2 m2 with
  | true =>
    obtain rfl : V = v1 := by rw [hv, hs]; rfl
    clear hv
    go_enter Tryz.func12, Tryz.ntmps12
    go_wp2_with fail
    refine start_ (n := 13) (S := fun w' => w'.cell? ⟨w.heap.size, 0, none⟩ = some (.int .i64 i) ∧ w'.cell? ⟨w.heap.size, 1, none⟩ = some (.int .i64 q) ∧ w'.cell? ⟨w.heap.size, 2, none⟩ = some (.int .i64 m) ∧ w'.cell? ⟨w.heap.size, 3, none⟩ = some (.slice A l.length c) ∧ w'.cell? ⟨w.heap.size + 1, 0, none⟩ = some (.int .i64 i2) ∧ w'.cell? ⟨w.heap.size + 1, 1, none⟩ = some (.int .i64 q2) ∧ w'.cell? ⟨w.heap.size + 1, 2, none⟩ = some (.int .i64 m2) ∧ w'.cell? ⟨w.heap.size + 1, 3, none⟩ = some (.slice B k.length d)) (ds := []) #[false, false, false, false, false, false, false, false, false, false, false, false, false] (by kernel_rfl) rfl rfl ⟨(blk_cell (blk_drew KA.out) 0), (blk_cell (blk_drew KA.out) 1), (blk_cell (blk_drew KA.out) 2), (blk_cell (blk_drew KA.out) 3), (blk_cell (blk_drew KB.out) 0), (blk_cell (blk_drew KB.out) 1), (blk_cell (blk_drew KB.out) 2), (blk_cell (blk_drew KB.out) 3)⟩ (fun hHeld => ?_)
    refine take_ (i := 0) (N := some 5) (v := ?_) (a' := ?_) #[true, false, false, false, false, false, false, false, false, false, false, false, false] rfl rfl (by kernel_rfl) (fun _ _ _ h => h) (Or.inl ⟨by rfl, ?_⟩) hHeld ?_ ?_
    rotate_left
    · rintro w' ⟨s0, s1, s2, s3, s4, s5, s6, s7⟩
      go_simp
      with_reducible rfl
    rotate_left
    · simp only [Act.put, List.setIfInBounds_toArray, List.set_cons_zero, List.set_cons_succ, i64_w, i32_w]
      rfl
    refine take_ (i := 2) (N := some 7) (v := ?_) (a' := ?_) #[true, false, true, false, false, false, false, false, false, false, false, false, false] rfl rfl (by kernel_rfl) (fun _ _ _ h => h) (Or.inl ⟨by rfl, ?_⟩) hHeld ?_ ?_
    rotate_left
    · rintro w' ⟨s0, s1, s2, s3, s4, s5, s6, s7⟩
      go_simp
      with_reducible rfl
    rotate_left
    · simp only [Act.put, List.setIfInBounds_toArray, List.set_cons_zero, List.set_cons_succ, i64_w, i32_w]
      rfl
    refine one_ (i := 1) (N := some 6) #[true, true, true, false, false, false, false, false, false, false, false, false, false] rfl rfl (by kernel_rfl) (by decide) (fun K hK => ?_)
    refine goes_ Tryz.func36 (by kernel_rfl) rfl #[.agg #[.int .i64 i, .int .i64 q, .int .i64 m, .slice A l.length c]] (by rfl) rfl rfl (by first | (simp only [List.map_toArray, List.map_cons, List.map_nil]; done) | (simp only [List.map_toArray, List.map_cons, List.map_nil]; rfl)) ?_
    with_reducible refine (HS1.out _ HW.out).mono ?_
    rintro e_ w1 ⟨rfl, hb⟩
    refine ⟨_, rfl, ?_⟩
    have n_ := Aside0.mk (below_step HW.out hb)
    clear HW
    have HW := n_
    clear n_
    refine hK.out _ _ ⟨(pw_cell_below hb hHeld.1), (pw_cell_below hb hHeld.2.1), (pw_cell_below hb hHeld.2.2.1), (pw_cell_below hb hHeld.2.2.2.1), (pw_cell_below hb hHeld.2.2.2.2.1), (pw_cell_below hb hHeld.2.2.2.2.2.1), (pw_cell_below hb hHeld.2.2.2.2.2.2.1), (pw_cell_below hb hHeld.2.2.2.2.2.2.2)⟩ (fun hHeld => ?_)
    clear hK K
    refine norm_ (a' := ?_) ?_ ?_
    rotate_left
    · show Act.put _ (some 6) _ = _
      simp only [Act.put, List.setIfInBounds_toArray, List.set_cons_zero, List.set_cons_succ, i64_w, i32_w]
      rfl
    refine one_ (i := 3) (N := some 8) #[true, true, true, true, false, false, false, false, false, false, false, false, false] rfl rfl (by kernel_rfl) (by decide) (fun K hK => ?_)
    refine goes_ Tryz.func36 (by kernel_rfl) rfl #[.agg #[.int .i64 i2, .int .i64 q2, .int .i64 m2, .slice B k.length d]] (by rfl) rfl rfl (by first | (simp only [List.map_toArray, List.map_cons, List.map_nil]; done) | (simp only [List.map_toArray, List.map_cons, List.map_nil]; rfl)) ?_
    with_reducible refine (HS2.out _ HW.out).mono ?_
    rintro e_ w1 ⟨rfl, hb⟩
    refine ⟨_, rfl, ?_⟩
    have n_ := Aside0.mk (below_step HW.out hb)
    clear HW
    have HW := n_
    clear n_
    refine hK.out _ _ ⟨(pw_cell_below hb hHeld.1), (pw_cell_below hb hHeld.2.1), (pw_cell_below hb hHeld.2.2.1), (pw_cell_below hb hHeld.2.2.2.1), (pw_cell_below hb hHeld.2.2.2.2.1), (pw_cell_below hb hHeld.2.2.2.2.2.1), (pw_cell_below hb hHeld.2.2.2.2.2.2.1), (pw_cell_below hb hHeld.2.2.2.2.2.2.2)⟩ (fun hHeld => ?_)
    clear hK K
    refine norm_ (a' := ?_) ?_ ?_
    rotate_left
    · show Act.put _ (some 8) _ = _
      simp only [Act.put, List.setIfInBounds_toArray, List.set_cons_zero, List.set_cons_succ, i64_w, i32_w]
      rfl
    refine pure_ (i := 4) (N := some 9) (v := ?_) (a' := ?_) #[true, true, true, true, true, false, false, false, false, false, false, false, false] rfl rfl (by kernel_rfl) (fun _ _ _ h => h) (Or.inl ⟨by rfl, ?_⟩) ?_ ?_
    rotate_left
    · intro w'
      go_simp
      with_reducible rfl
    rotate_left
    · simp only [Act.put, List.setIfInBounds_toArray, List.set_cons_zero, List.set_cons_succ, i64_w, i32_w]
      rfl
    refine pure_ (i := 5) (N := some 10) (v := ?_) (a' := ?_) #[true, true, true, true, true, true, false, false, false, false, false, false, false] rfl rfl (by kernel_rfl) (fun _ _ _ h => h) (Or.inl ⟨by rfl, ?_⟩) ?_ ?_
    rotate_left
    · intro w'
      go_simp
      with_reducible rfl
    rotate_left
    · simp only [Act.put, List.setIfInBounds_toArray, List.set_cons_zero, List.set_cons_succ, i64_w, i32_w]
      rfl
    refine pure_ (i := 6) (N := some 11) (v := ?_) (a' := ?_) #[true, true, true, true, true, true, true, false, false, false, false, false, false] rfl rfl (by kernel_rfl) (fun _ _ _ h => h) (Or.inl ⟨by rfl, ?_⟩) ?_ ?_
    rotate_left
    · intro w'
      go_simp
      with_reducible rfl
    rotate_left
    · simp only [Act.put, List.setIfInBounds_toArray, List.set_cons_zero, List.set_cons_succ, i64_w, i32_w]
      rfl
    refine pure_ (i := 8) (N := some 13) (v := ?_) (a' := ?_) #[true, true, true, true, true, true, true, false, true, false, false, false, false] rfl rfl (by kernel_rfl) (fun _ _ _ h => h) (Or.inl ⟨by rfl, ?_⟩) ?_ ?_
    rotate_left
    · intro w'
      go_simp
      with_reducible rfl
    rotate_left
    · simp only [Act.put, List.setIfInBounds_toArray, List.set_cons_zero, List.set_cons_succ, i64_w, i32_w]
      rfl
    refine take_ (i := 7) (N := some 12) (v := ?_) (a' := ?_) #[true, true, true, true, true, true, true, true, true, false, false, false, false] rfl rfl (by kernel_rfl) (fun _ _ _ h => h) (Or.inl ⟨by rfl, ?_⟩) hHeld ?_ ?_
    rotate_left
    · rintro w' ⟨s0, s1, s2, s3, s4, s5, s6, s7⟩
      go_simp
      with_reducible rfl
    rotate_left
    · simp only [Act.put, List.setIfInBounds_toArray, List.set_cons_zero, List.set_cons_succ, i64_w, i32_w]
      rfl
    refine take_ (i := 9) (N := some 14) (v := ?_) (a' := ?_) #[true, true, true, true, true, true, true, true, true, true, false, false, false] rfl rfl (by kernel_rfl) (fun _ _ _ h => h) (Or.inl ⟨by rfl, ?_⟩) hHeld ?_ ?_
    rotate_left
    · rintro w' ⟨s0, s1, s2, s3, s4, s5, s6, s7⟩
      go_simp
      with_reducible rfl
    rotate_left
    · simp only [Act.put, List.setIfInBounds_toArray, List.set_cons_zero, List.set_cons_succ, i64_w, i32_w]
      rfl
    refine one_ (i := 10) (N := some 15) #[true, true, true, true, true, true, true, true, true, true, true, false, false] rfl rfl (by kernel_rfl) (by decide) (fun K hK => ?_)
    refine goes_ Tryz.func37 (by kernel_rfl) rfl #[.slice A l.length c, .slice B k.length d, .func (.func 38) #[] #[]] (by rfl) rfl rfl (by first | (simp only [List.map_toArray, List.map_cons, List.map_nil]; done) | (simp only [List.map_toArray, List.map_cons, List.map_nil]; rfl)) ?_
    with_reducible refine (HE.out _ HW.out).mono ?_
    rintro e_ w1 ⟨rfl, hb⟩
    refine ⟨_, rfl, ?_⟩
    have n_ := Aside0.mk (below_step HW.out hb)
    clear HW
    have HW := n_
    clear n_
    refine hK.out _ _ ⟨(pw_cell_below hb hHeld.1), (pw_cell_below hb hHeld.2.1), (pw_cell_below hb hHeld.2.2.1), (pw_cell_below hb hHeld.2.2.2.1), (pw_cell_below hb hHeld.2.2.2.2.1), (pw_cell_below hb hHeld.2.2.2.2.2.1), (pw_cell_below hb hHeld.2.2.2.2.2.2.1), (pw_cell_below hb hHeld.2.2.2.2.2.2.2)⟩ (fun hHeld => ?_)
    clear hK K
    refine norm_ (a' := ?_) ?_ ?_
    rotate_left
    · show Act.put _ (some 15) _ = _
      simp only [Act.put, List.setIfInBounds_toArray, List.set_cons_zero, List.set_cons_succ, i64_w, i32_w]
      rfl
    refine pure_ (i := 11) (N := some 16) (v := ?_) (a' := ?_) #[true, true, true, true, true, true, true, true, true, true, true, true, false] rfl rfl (by kernel_rfl) (fun _ _ _ h => h) (Or.inl ⟨by rfl, ?_⟩) ?_ ?_
    rotate_left
    · intro w'
      go_simp
      with_reducible rfl
    rotate_left
    · simp only [Act.put, List.setIfInBounds_toArray, List.set_cons_zero, List.set_cons_succ, i64_w, i32_w]
      rfl
    refine pure_ (i := 12) (N := some 4) (v := ?_) (a' := ?_) #[true, true, true, true, true, true, true, true, true, true, true, true, true] rfl rfl (by kernel_rfl) (fun _ _ _ h => h) (Or.inl ⟨by rfl, ?_⟩) ?_ ?_
    rotate_left
    · intro w'
      go_simp
      with_reducible rfl
    rotate_left
    · simp only [Act.put, List.setIfInBounds_toArray, List.set_cons_zero, List.set_cons_succ, i64_w, i32_w]
      rfl
    refine done_ (by kernel_rfl) ?_
    go_wp2
    go_ret
    exact ⟨rfl, HW.out⟩
  | false =>
    obtain rfl : V = false := by rw [hv, hs]; rfl
    clear hv
    go_enter Tryz.func12, Tryz.ntmps12
    go_wp2_with fail
    refine start_ (n := 13) (S := fun w' => w'.cell? ⟨w.heap.size, 0, none⟩ = some (.int .i64 i) ∧ w'.cell? ⟨w.heap.size, 1, none⟩ = some (.int .i64 q) ∧ w'.cell? ⟨w.heap.size, 2, none⟩ = some (.int .i64 m) ∧ w'.cell? ⟨w.heap.size, 3, none⟩ = some (.slice A l.length c) ∧ w'.cell? ⟨w.heap.size + 1, 0, none⟩ = some (.int .i64 i2) ∧ w'.cell? ⟨w.heap.size + 1, 1, none⟩ = some (.int .i64 q2) ∧ w'.cell? ⟨w.heap.size + 1, 2, none⟩ = some (.int .i64 m2) ∧ w'.cell? ⟨w.heap.size + 1, 3, none⟩ = some (.slice B k.length d)) (ds := []) #[false, false, false, false, false, false, false, false, false, false, false, false, false] (by kernel_rfl) rfl rfl ⟨(blk_cell (blk_drew KA.out) 0), (blk_cell (blk_drew KA.out) 1), (blk_cell (blk_drew KA.out) 2), (blk_cell (blk_drew KA.out) 3), (blk_cell (blk_drew KB.out) 0), (blk_cell (blk_drew KB.out) 1), (blk_cell (blk_drew KB.out) 2), (blk_cell (blk_drew KB.out) 3)⟩ (fun hHeld => ?_)
    refine take_ (i := 0) (N := some 5) (v := ?_) (a' := ?_) #[true, false, false, false, false, false, false, false, false, false, false, false, false] rfl rfl (by kernel_rfl) (fun _ _ _ h => h) (Or.inl ⟨by rfl, ?_⟩) hHeld ?_ ?_
    rotate_left
    · rintro w' ⟨s0, s1, s2, s3, s4, s5, s6, s7⟩
      go_simp
      with_reducible rfl
    rotate_left
    · simp only [Act.put, List.setIfInBounds_toArray, List.set_cons_zero, List.set_cons_succ, i64_w, i32_w]
      rfl
    refine take_ (i := 2) (N := some 7) (v := ?_) (a' := ?_) #[true, false, true, false, false, false, false, false, false, false, false, false, false] rfl rfl (by kernel_rfl) (fun _ _ _ h => h) (Or.inl ⟨by rfl, ?_⟩) hHeld ?_ ?_
    rotate_left
    · rintro w' ⟨s0, s1, s2, s3, s4, s5, s6, s7⟩
      go_simp
      with_reducible rfl
    rotate_left
    · simp only [Act.put, List.setIfInBounds_toArray, List.set_cons_zero, List.set_cons_succ, i64_w, i32_w]
      rfl
    refine one_ (i := 1) (N := some 6) #[true, true, true, false, false, false, false, false, false, false, false, false, false] rfl rfl (by kernel_rfl) (by decide) (fun K hK => ?_)
    refine goes_ Tryz.func36 (by kernel_rfl) rfl #[.agg #[.int .i64 i, .int .i64 q, .int .i64 m, .slice A l.length c]] (by rfl) rfl rfl (by first | (simp only [List.map_toArray, List.map_cons, List.map_nil]; done) | (simp only [List.map_toArray, List.map_cons, List.map_nil]; rfl)) ?_
    with_reducible refine (HS1.out _ HW.out).mono ?_
    rintro e_ w1 ⟨rfl, hb⟩
    refine ⟨_, rfl, ?_⟩
    have n_ := Aside0.mk (below_step HW.out hb)
    clear HW
    have HW := n_
    clear n_
    refine hK.out _ _ ⟨(pw_cell_below hb hHeld.1), (pw_cell_below hb hHeld.2.1), (pw_cell_below hb hHeld.2.2.1), (pw_cell_below hb hHeld.2.2.2.1), (pw_cell_below hb hHeld.2.2.2.2.1), (pw_cell_below hb hHeld.2.2.2.2.2.1), (pw_cell_below hb hHeld.2.2.2.2.2.2.1), (pw_cell_below hb hHeld.2.2.2.2.2.2.2)⟩ (fun hHeld => ?_)
    clear hK K
    refine norm_ (a' := ?_) ?_ ?_
    rotate_left
    · show Act.put _ (some 6) _ = _
      simp only [Act.put, List.setIfInBounds_toArray, List.set_cons_zero, List.set_cons_succ, i64_w, i32_w]
      rfl
    refine one_ (i := 3) (N := some 8) #[true, true, true, true, false, false, false, false, false, false, false, false, false] rfl rfl (by kernel_rfl) (by decide) (fun K hK => ?_)
    refine goes_ Tryz.func36 (by kernel_rfl) rfl #[.agg #[.int .i64 i2, .int .i64 q2, .int .i64 m2, .slice B k.length d]] (by rfl) rfl rfl (by first | (simp only [List.map_toArray, List.map_cons, List.map_nil]; done) | (simp only [List.map_toArray, List.map_cons, List.map_nil]; rfl)) ?_
    with_reducible refine (HS2.out _ HW.out).mono ?_
    rintro e_ w1 ⟨rfl, hb⟩
    refine ⟨_, rfl, ?_⟩
    have n_ := Aside0.mk (below_step HW.out hb)
    clear HW
    have HW := n_
    clear n_
    refine hK.out _ _ ⟨(pw_cell_below hb hHeld.1), (pw_cell_below hb hHeld.2.1), (pw_cell_below hb hHeld.2.2.1), (pw_cell_below hb hHeld.2.2.2.1), (pw_cell_below hb hHeld.2.2.2.2.1), (pw_cell_below hb hHeld.2.2.2.2.2.1), (pw_cell_below hb hHeld.2.2.2.2.2.2.1), (pw_cell_below hb hHeld.2.2.2.2.2.2.2)⟩ (fun hHeld => ?_)
    clear hK K
    refine norm_ (a' := ?_) ?_ ?_
    rotate_left
    · show Act.put _ (some 8) _ = _
      simp only [Act.put, List.setIfInBounds_toArray, List.set_cons_zero, List.set_cons_succ, i64_w, i32_w]
      rfl
    refine pure_ (i := 4) (N := some 9) (v := ?_) (a' := ?_) #[true, true, true, true, true, false, false, false, false, false, false, false, false] rfl rfl (by kernel_rfl) (fun _ _ _ h => h) (Or.inl ⟨by rfl, ?_⟩) ?_ ?_
    rotate_left
    · intro w'
      go_simp
      with_reducible rfl
    rotate_left
    · simp only [Act.put, List.setIfInBounds_toArray, List.set_cons_zero, List.set_cons_succ, i64_w, i32_w]
      rfl
    refine pure_ (i := 5) (N := some 10) (v := ?_) (a' := ?_) #[true, true, true, true, true, true, false, false, false, false, false, false, false] rfl rfl (by kernel_rfl) (fun _ _ _ h => h) (Or.inl ⟨by rfl, ?_⟩) ?_ ?_
    rotate_left
    · intro w'
      go_simp
      with_reducible rfl
    rotate_left
    · simp only [Act.put, List.setIfInBounds_toArray, List.set_cons_zero, List.set_cons_succ, i64_w, i32_w]
      rfl
    refine pure_ (i := 6) (N := some 11) (v := undef) (a' := ?_) #[true, true, true, true, true, true, true, false, false, false, false, false, false] rfl rfl (by kernel_rfl) (fun _ _ _ h => h) (Or.inr ⟨by rfl, rfl⟩) ?_ ?_
    rotate_left
    · simp only [Act.put, List.setIfInBounds_toArray, List.set_cons_zero, List.set_cons_succ, i64_w, i32_w]
      rfl
    refine pure_ (i := 7) (N := some 12) (v := undef) (a' := ?_) #[true, true, true, true, true, true, true, true, false, false, false, false, false] rfl rfl (by kernel_rfl) (fun _ _ _ h => h) (Or.inr ⟨by rfl, rfl⟩) ?_ ?_
    rotate_left
    · simp only [Act.put, List.setIfInBounds_toArray, List.set_cons_zero, List.set_cons_succ, i64_w, i32_w]
      rfl
    refine pure_ (i := 8) (N := some 13) (v := undef) (a' := ?_) #[true, true, true, true, true, true, true, true, true, false, false, false, false] rfl rfl (by kernel_rfl) (fun _ _ _ h => h) (Or.inr ⟨by rfl, rfl⟩) ?_ ?_
    rotate_left
    · simp only [Act.put, List.setIfInBounds_toArray, List.set_cons_zero, List.set_cons_succ, i64_w, i32_w]
      rfl
    refine pure_ (i := 9) (N := some 14) (v := undef) (a' := ?_) #[true, true, true, true, true, true, true, true, true, true, false, false, false] rfl rfl (by kernel_rfl) (fun _ _ _ h => h) (Or.inr ⟨by rfl, rfl⟩) ?_ ?_
    rotate_left
    · simp only [Act.put, List.setIfInBounds_toArray, List.set_cons_zero, List.set_cons_succ, i64_w, i32_w]
      rfl
    refine pure_ (i := 10) (N := some 15) (v := undef) (a' := ?_) #[true, true, true, true, true, true, true, true, true, true, true, false, false] rfl rfl (by kernel_rfl) (fun _ _ _ h => h) (Or.inr ⟨by rfl, rfl⟩) ?_ ?_
    rotate_left
    · simp only [Act.put, List.setIfInBounds_toArray, List.set_cons_zero, List.set_cons_succ, i64_w, i32_w]
      rfl
    refine pure_ (i := 11) (N := some 16) (v := ?_) (a' := ?_) #[true, true, true, true, true, true, true, true, true, true, true, true, false] rfl rfl (by kernel_rfl) (fun _ _ _ h => h) (Or.inl ⟨by rfl, ?_⟩) ?_ ?_
    rotate_left
    · intro w'
      go_simp
      with_reducible rfl
    rotate_left
    · simp only [Act.put, List.setIfInBounds_toArray, List.set_cons_zero, List.set_cons_succ, i64_w, i32_w]
      rfl
    refine pure_ (i := 12) (N := some 4) (v := ?_) (a' := ?_) #[true, true, true, true, true, true, true, true, true, true, true, true, true] rfl rfl (by kernel_rfl) (fun _ _ _ h => h) (Or.inl ⟨by rfl, ?_⟩) ?_ ?_
    rotate_left
    · intro w'
      go_simp
      with_reducible rfl
    rotate_left
    · simp only [Act.put, List.setIfInBounds_toArray, List.set_cons_zero, List.set_cons_succ, i64_w, i32_w]
      rfl
    refine done_ (by kernel_rfl) ?_
    go_wp2
    go_ret
    exact ⟨rfl, HW.out⟩
end Go.Proofs.YtolmkdhgnganaaaGreatDoor.H
namespace Go.Proofs.YtolmkdhgnganaaaGreatDoor.H
open Go Go.RowKit Go.Proofs Go.Proofs.YtolmkdhgnganaaaGreatDoorW.PrintWords Go.Proofs.YtolmkdhgnganaaaGreatDoor.Sp
theorem seq_refl (a : ByteArray) : seq a a = true := by rw [seq_dec]; simp
theorem eqL_refl {α : Type} {e : α → α → Bool} (h : ∀ x, e x x = true) (xs : List α) : eqL e xs xs = true := by
  unfold eqL
  rw [Bool.and_eq_true]
  refine ⟨by simp, List.all_eq_true.2 fun p hp => ?_⟩
  obtain ⟨j, hj, rfl⟩ := List.getElem_of_mem hp
  simp [h]
theorem conEq_refl (a : Con) : conEq a a = true := by simp [conEq, seq_refl]
theorem coilEq_refl (a : Coil) : coilEq a a = true := by simp [coilEq]
theorem rungEq_refl (a : Rung) : rungEq a a = true := by simp only [rungEq, seq_refl, eqL_refl conEq_refl, eqL_refl coilEq_refl, Bool.and_self]
theorem ladEq_refl (i q m : Int) (l : List Rung) : ladEq i q m l i q m l = true := by simp only [ladEq, szEq, eqL_refl rungEq_refl, beq_self_eq_true, Bool.and_self]
end Go.Proofs.YtolmkdhgnganaaaGreatDoor.H
namespace Go.Proofs.YtolmkdhgnganaaaGreatDoor.H
open Go Go.RowKit Go.Proofs Go.Proofs.YtolmkdhgnganaaaGreatDoorW.PrintWords Go.Proofs.YtolmkdhgnganaaaGreatDoor.Sp
theorem sizeBld : (Tryz.prog.info? 64).map (·.size) = some 2 := by kernel_rfl
theorem liesBld : liesAt Tryz.prog Tryz.prog.depth 64 (2 / Tryz.prog.cellsOf 64) 0 64 1 = true := by kernel_rfl
theorem infoByte : (Tryz.prog.info? 5).map (fun i => (i.zero, i.size, i.bytes)) = some (some (.int .u8 0), 1, 1) := by kernel_rfl
set_option maxHeartbeats 1000000 in
set_option maxRecDepth 100000 in
theorem cc_used (b : Nat) (w : World) (h0 : w.cell? ⟨b, 0, none⟩ = some (.pointer (some ⟨b, 0, none⟩))) :
    Calls Tryz.prog 82 #[.pointer (some ⟨b, 0, none⟩)] w fun e w' => e = .returned (.tuple #[]) ∧ w' = w := by
  obtain ⟨j, hj, _⟩ := Option.map_eq_some_iff.1 sizeBld
  go_enter Tryz.func82, Tryz.ntmps82
  go_wp2
  rw [Lib.run_neq_ptr_same w _ Tryz.underlying61 hj]
  go_wp2
  go_end0
  exact ⟨rfl, rfl⟩
set_option maxHeartbeats 1000000 in
set_option maxRecDepth 100000 in
theorem cc_fresh (b : Nat) (w : World) (h0 : w.cell? ⟨b, 0, none⟩ = some (.pointer none)) (hsh : w.shape? b = some (64, 2)) (hfz : w.frozen? ⟨b, 0, none⟩ = false) :
    Calls Tryz.prog 82 #[.pointer (some ⟨b, 0, none⟩)] w fun e w' => e = .returned (.tuple #[]) ∧ w' = w.setCell ⟨b, 0, none⟩ (.pointer (some ⟨b, 0, none⟩)) := by
  obtain ⟨j, hj, hjs⟩ := Option.map_eq_some_iff.1 sizeBld
  go_enter Tryz.func82, Tryz.ntmps82
  go_wp2
  rw [Lib.run_to_unsafe w ⟨b, 0, none⟩ Tryz.underlying61 Tryz.underlying168 hj (by rw [hjs]; decide) hsh (Nat.zero_lt_succ 1)]
  simp only [Result.andThen]
  rw [Oper.upon_value]
  go_wp2
  rw [run_callFunc_extern Tryz.func108 (by kernel_rfl) (by kernel_rfl) (by kernel_rfl) (e := Extern.AbiNoEscape.same) (by kernel_rfl)]
  rw [Lib.run_noEscape]
  simp only [Result.andThen]
  rw [Oper.upon_value]
  go_wp2
  rw [Lib.run_from_unsafe w ⟨b, 0, none⟩ Tryz.underlying168 Tryz.underlying61 hj hsh liesBld]
  simp only [Result.andThen]
  rw [Oper.upon_value]
  go_wp2
  go_end0
  exact ⟨rfl, rfl⟩
theorem cc_b (B b : Nat) (bs : List Value) (w : World) (h : Lib.IsBuilderF 64 5 B b bs w) :
    Calls Tryz.prog 82 #[.pointer (some ⟨b, 0, none⟩)] w fun e w' => e = .returned (.tuple #[]) ∧ (Lib.BuilderAtF 64 5 B b (.pointer (some ⟨b, 0, none⟩)) bs w' ∧ Below B w w' ∧ Lib.OthersKept 5 (some b) w w') := by
  rcases h with h | h
  · refine (cc_fresh b w h.cell0 h.shape h.frozen0).mono ?_
    rintro e w' ⟨rfl, rfl⟩
    exact ⟨rfl, h.used _, (Below.refl B w).setCell (p := ⟨b, 0, none⟩) h.1 _, (Lib.OthersKept.refl _ _ w).setCell ⟨b, 0, none⟩ rfl _⟩
  · refine (cc_used b w h.cell0).mono ?_
    rintro e w' ⟨rfl, rfl⟩
    exact ⟨rfl, h, Below.refl B _, Lib.OthersKept.refl _ _ _⟩
set_option maxHeartbeats 2000000 in
set_option maxRecDepth 100000 in
theorem wbyte_b (B b : Nat) (bs : List Value) (c : Int) (w : World) (h : Lib.IsBuilderF 64 5 B b bs w) (hlen : bs.length + 1 ≤ 140737488355328) (hBw : B ≤ w.heap.size) :
    Calls Tryz.prog 57 #[.pointer (some ⟨b, 0, none⟩), .int .u8 c] w fun e w' => e = .returned .nilIface ∧ (Lib.BuilderAtF 64 5 B b (.pointer (some ⟨b, 0, none⟩)) (bs ++ [.int .u8 c]) w' ∧ Below B w w' ∧ Lib.OthersKept 5 (some b) w w') := by
  obtain ⟨i0, hi, hz0, hz1, hz2⟩ := info_parts infoByte
  go_enter Tryz.func57, Tryz.ntmps57
  go_wp2_with (go_at_call 82; refine (cc_b B b bs _ h).mono ?_)
  rintro e w1 ⟨rfl, h1, hb1, hk1⟩
  obtain ⟨hB, v, hbk, hown, hne⟩ := h1
  have c0 : w1.cell? ⟨b, 0, none⟩ = some (.pointer (some ⟨b, 0, none⟩)) := by rw [Lib.cell_of_heap hbk]; rfl
  have c1 : w1.cell? ⟨b, 1, none⟩ = some v := by rw [Lib.cell_of_heap hbk]; rfl
  go_wp2_with (at_builtin; refine wpList_append_ownF _ rfl _ _ 62 rfl B 5 i0 (.int .u8 0) 1 1 Tryz.underlying62 hi hz0 hz1 hz2 rfl (by decide) _ _ _ rfl (hown.alloc _) ⟨w1.heap.size, 0, none⟩ 1 1 [.int .u8 c] rfl rfl ?c1 ?c2 ?c3 ?c4 ?c5 ?_)
  case c1 =>
    intro j u hj
    match j, hj with
    | 0, hj => simp at hj; subst hj; simp [Addr.add]
  case c2 => intro u hu; simp at hu; subst hu; rfl
  case c3 => unfold maxLen; omega
  case c4 => omega
  case c5 => have := hb1.size; simp; omega
  intro v' w2 hown' hgrow _
  have hlt : b < w1.heap.size := by
    rcases Nat.lt_or_ge b w1.heap.size with h' | h'
    · exact h'
    · simp [Array.getElem?_eq_none h'] at hbk
  have hb2 : w2.heap[b]? = some (.cells #[.pointer (some ⟨b, 0, none⟩), v] 64 (0, 0)) := by
    rw [hgrow.block b (by simp; omega) (fun e => hne e.symm), Lib.alloc_old w1 _ b hlt]
    exact hbk
  have d0 : w2.cell? ⟨b, 0, none⟩ = some (.pointer (some ⟨b, 0, none⟩)) := by rw [Lib.cell_of_heap hb2]; rfl
  have d1 : w2.cell? ⟨b, 1, none⟩ = some v := by rw [Lib.cell_of_heap hb2]; rfl
  have f1 : w2.frozen? ⟨b, 1, none⟩ = false := Lib.frozen_of_heap hb2 1
  obtain ⟨g, cap, rfl⟩ : ∃ g cap, v' = .slice (some ⟨g, 0, none⟩) (bs.length + 1) cap := by
    rcases hown'.2 with ⟨_, h0⟩ | ⟨g, cap, cur, fz, hv, _⟩
    · omega
    · exact ⟨g, cap, hv⟩
  go_wp2
  go_ret
  refine ⟨rfl, ?_, ?_, ((hk1.alloc _).grown hgrow (Lib.ownsRowF_kind (hown.alloc _))).setCell ⟨b, 1, none⟩ rfl _⟩
  · exact Lib.BuilderAtF.put (T := 64) (e := 5) hB hb2 (bs' := bs ++ [.int .u8 c]) (by simpa using hown') (by decide)
  · exact ((hb1.alloc (by have := hb1.size; omega) _).grown hgrow (by have := hb1.size; simp; omega) (fun k hk => (hown.lt k hk).1)).setCell (p := ⟨b, 1, none⟩) hB _
set_option maxHeartbeats 2000000 in
set_option maxRecDepth 100000 in
theorem wstr_b (B b : Nat) (bs : List Value) (s : ByteArray) (w : World) (h : Lib.IsBuilderF 64 5 B b bs w) (hlen : bs.length + s.size ≤ 140737488355328) (hBw : B ≤ w.heap.size) :
    Calls Tryz.prog 53 #[.pointer (some ⟨b, 0, none⟩), .string s] w fun e w' => e = .returned (.tuple #[.int .i64 s.size, .nilIface]) ∧ (Lib.BuilderAtF 64 5 B b (.pointer (some ⟨b, 0, none⟩)) (bs ++ Lib.strCells s) w' ∧ Below B w w' ∧ Lib.OthersKept 5 (some b) w w') := by
  obtain ⟨i0, hi, hz0, hz1, hz2⟩ := info_parts infoByte
  go_enter Tryz.func53, Tryz.ntmps53
  go_wp2_with (go_at_call 82; refine (cc_b B b bs _ h).mono ?_)
  rintro e w1 ⟨rfl, h1, hb1, hk1⟩
  obtain ⟨hB, v, hbk, hown, hne⟩ := h1
  have c0 : w1.cell? ⟨b, 0, none⟩ = some (.pointer (some ⟨b, 0, none⟩)) := by rw [Lib.cell_of_heap hbk]; rfl
  have c1 : w1.cell? ⟨b, 1, none⟩ = some v := by rw [Lib.cell_of_heap hbk]; rfl
  go_wp2_with (at_builtin; refine Lib.wpList_append_own_stringF _ rfl _ _ 62 9 rfl B 5 i0 Tryz.underlying62 Tryz.underlying9 hi hz0 hz1 hz2 _ _ _ rfl hown s rfl ?c3 ?c4 ?c5 ?_)
  case c3 => unfold maxLen; omega
  case c4 => omega
  case c5 => have := hb1.size; omega
  intro v' w2 hown' hgrow _
  have hlt : b < w1.heap.size := by
    rcases Nat.lt_or_ge b w1.heap.size with h' | h'
    · exact h'
    · simp [Array.getElem?_eq_none h'] at hbk
  have hb2 : w2.heap[b]? = some (.cells #[.pointer (some ⟨b, 0, none⟩), v] 64 (0, 0)) := by
    rw [hgrow.block b hlt (fun e => hne e.symm)]
    exact hbk
  have d0 : w2.cell? ⟨b, 0, none⟩ = some (.pointer (some ⟨b, 0, none⟩)) := by rw [Lib.cell_of_heap hb2]; rfl
  have d1 : w2.cell? ⟨b, 1, none⟩ = some v := by rw [Lib.cell_of_heap hb2]; rfl
  have f1 : w2.frozen? ⟨b, 1, none⟩ = false := Lib.frozen_of_heap hb2 1
  obtain ⟨ao, n', cap, rfl⟩ : ∃ ao n' cap, v' = .slice ao n' cap := by
    rcases hown'.2 with ⟨hv, _⟩ | ⟨g, cap, cur, fz, hv, _⟩
    · exact ⟨_, _, _, hv⟩
    · exact ⟨_, _, _, hv⟩
  go_wp2
  go_ret2
  refine ⟨rfl, ?_, ?_, (hk1.grown hgrow (Lib.ownsRowF_kind hown)).setCell ⟨b, 1, none⟩ rfl _⟩
  · exact Lib.BuilderAtF.put (T := 64) (e := 5) hB hb2 (bs' := bs ++ Lib.strCells s) (by simpa [Lib.strCells_length] using hown') (by decide)
  · exact (hb1.grown hgrow (by have := hb1.size; omega) (fun k hk => (hown.lt k hk).1)).setCell (p := ⟨b, 1, none⟩) hB _
end Go.Proofs.YtolmkdhgnganaaaGreatDoor.H
