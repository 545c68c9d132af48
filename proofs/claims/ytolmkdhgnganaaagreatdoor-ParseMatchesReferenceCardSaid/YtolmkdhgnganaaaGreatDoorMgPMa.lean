/-
  What the claim's row leans on, part 1: The library's contracts that are used. What the address layer computes, as plain functions on lists of bytes and whole numbers. No program in sight. What the functions of package addr do when they are called: each answers what its plain function answers, and nothing that was there is changed. Condition: the package's letters, strconv's table of powers and its two errors are laid as their initialisers lay them. lex.IsName: it answers what its plain function answers; nothing that was there is changed. Ladders in memory: names for the printed kinds, and the contracts of printer.part and of the two closures that look a label up. printer.part and printer.rung: they answer what their plain functions answer; nothing that was there is changed. printer.rung's walk. printer.Check: it answers what its plain function answers; nothing that was there is changed. PrinterIsInjective in memory: the ladder that is built by appends (each rung's rows made anew), while its loop runs, and one part of it stored anew. lex.plain: it answers whether all bytes are permitted; nothing that was there is changed. lex.counts: the closure hands over the lines of a text, one by one, without their comments; nothing that was there is changed. lex.Lines: it answers the lines of a text that hold words, or the number of the first line that holds a byte that is not permitted; nothing that was there is changed. lex.Number at the limit 256: it answers what its plain function answers; nothing that was there is changed. strings.Builder: copyCheck, WriteByte, WriteString of a builder that the call has made. The walks follow the kit's own of another numbering (Builder1). The keywords of contacts and coils: copies of the package's two tables. Condition: the tables are laid as their initialisers lay them. The parser in memory: what its block and its rows hold, and what its methods keep. The parser's sizes, address and rung. The parser's rung pointer and its size line. What is stored into the parser's rows: the jump of a rung, its contacts, its coils.
-/
import Derived.Shelf.Strings.Builder1
import Derived.Shelf.Strings.Builder2
import Derived.Shelf.Strings.OnBuilder
import Derived.Shelf.Strings.Trim
import Derived.Shelf.Small.Utf8
import Derived.Shelf.Small.Strs
import Derived.Shelf.Strings.BuilderF
import Derived.Shelf.Strings.BuilderK
import Derived.Shelf.Utf8.RuneCount
import Derived.Shelf.Strings.Builder2Cap
import Derived.Shelf.Strconv.Atoi
import Derived.Shelf.Strconv.Itoa0
import Derived.Shelf.Strconv.Itoa1
import Derived.Shelf.LaysM
import Derived.Shelf.Strconv.Itoa2
import Derived.Shelf.Strconv.Itoa3
import Derived.Shelf.Strconv.AtoiErrFast
import Derived.Shelf.Strconv.ParseIntEmpty
import Derived.Shelf.Strconv.AtoiFail
import Derived.Shelf.Strconv.Clone
import Derived.Shelf.Strconv.SyntaxError
import Derived.Shelf.LaysC
import Derived.Shelf.Strconv.ToError
import Derived.Shelf.Strconv.AtoiErr
import Derived.Shelf.Strconv.ErrVar
import Derived.Shelf.Strconv.Lower
import Derived.Shelf.Strconv.ParseUint10
import Derived.Shelf.Strconv.ParseUint10Empty
import Derived.Shelf.Strconv.ParseUint10Any
import Derived.Shelf.Strconv.ParseInt10
import Derived.Shelf.Strconv.AtoiLong
import Derived.Shelf.Strconv.AtoiInnerAll
import Derived.Shelf.Strconv.RangeError
import Derived.Shelf.Strconv.ToErrorRange
import Derived.Shelf.Strconv.AtoiAll
import Derived.Shelf.Strconv.ErrVarAll
import Derived.Shelf.Strconv.ParseUintEmpty
import Derived.Shelf.Strconv.ParseUint10b64
import Derived.Shelf.Strconv.ParseUint10b32
import Derived.Shelf.Strconv.ParseUint10b16
import Derived.Shelf.Strconv.ParseUint10b8
import Derived.Shelf.Strconv.ParseUint10At
import Derived.Shelf.Strconv.ParseInt10At64
import Derived.Shelf.Strconv.ParseInt10At32
import Derived.Shelf.Strconv.ParseInt10At16
import Derived.Shelf.Strconv.ParseInt10At8
import Derived.Shelf.Strconv.ParseInt10All
import Derived.Shelf.Strings.Search1
import Derived.Shelf.Strings.Search2
import Derived.Shelf.Strings.Search3
import Derived.Shelf.Strings.Cut
import Derived.Shelf.Strings.Count
import Derived.Shelf.Strings.Shaped
import Derived.Shelf.Strings.Prefix
import Derived.Shelf.Strings.Split
import Derived.Shelf.Strings.Fields
import Derived.Shelf.Strings.Replace
import Derived.Shelf.Strings.SplitShaped
import Derived.Shelf.Unicode.Latin
import Derived.Shelf.Unicode.Decode
import Derived.Shelf.Strings.Runes
import Derived.Shelf.Strings.RuneCount
import Derived.Shelf.Strings.AsciiSet
import Derived.Shelf.Strings.Explode
import Derived.Shelf.Bits.Mul64
import Derived.Shelf.Strings.Repeat
import Derived.Shelf.Unicode.DecodeSlow
import Derived.Shelf.Unicode.DecodeAny
import Derived.Shelf.Unicode.Is16White
import Derived.Shelf.Unicode.IsSpaceAny
import Derived.Shelf.Unicode.DecodeLast
import Derived.Shelf.Unicode.Is16WhiteD
import Derived.Shelf.Unicode.IsSpaceAnyD
import Derived.Shelf.Strings.FieldsAny
import Derived.Shelf.Strings.FieldsFuncAny
import Derived.Shelf.Unicode.Is16Any
import Derived.Shelf.Unicode.Is32Any
import Derived.Shelf.Unicode.ExclAny
import Derived.Shelf.Strings.FieldsFuncGrows
import Derived.Shelf.Strings.BuilderCap
import Derived.Shelf.Slices.Turned
import Derived.Ground.Names2Prog
import Derived.Shelf.Slices.Clone
import Derived.Test.YtolmkdhgnganaaaGreatDoorProg
import Derived.Test.YtolmkdhgnganaaaGreatDoorWWords
import Derived.Lib.SlTrimSet
import Derived.Lib.ItoaNum
import Derived.Lib.SlicesS
import Derived.Lib.AtoiAllCases
import Derived.Tactics
import Derived.Tactics2
import Derived.WalkKit
import Derived.WalkSpells
import Derived.WalkLawsBesides
import Derived.OwnWalk
import Derived.Outline
import Derived.Deep.QuietTactic
import Derived.BigQuiet
import Derived.Deep.RegionHeld3
import Derived.Deep.RegionWith
import Derived.KernelRfl
import Derived.Lib.AppendIntMem
import Derived.Shelf.Strings.SlTrimAscii
import Derived.Laws.RangeAny
import Derived.LoopTactic
import Derived.Test.YtolmkdhgnganaaaGreatDoorPPrinterRoundTripx0
import Derived.Test.YtolmkdhgnganaaaGreatDoorWApart
import Derived.RangeFuncNested
import Derived.RangeFuncBound
import Derived.RangeFuncBox
import Derived.RangeFuncCalls
import Derived.RangeFuncLeaves
import Derived.Shelf.Abstract
import Derived.Shelf.RegionOpen
import Derived.OwnWalkIn
import Derived.TacticsInMore
import Derived.LoopNIn
import Derived.LoopIn
import Derived.Lib.SplitLaws
import Derived.Test.YtolmkdhgnganaaaGreatDoorWRepsOne
import Derived.Maps.OwnIn
import Derived.Lib.Strings
import Derived.Lib.Slices
import Derived.Lib.Walk
import Derived.Lib.Builder
import Derived.Lib.AppendStr
import Derived.Lib.UnsafeStr
import Derived.Laws.Externs
import Derived.Laws.IdiomCopy
import Derived.Laws.BitsLemmas
import Derived.Maps.Own
import Derived.Maps.OwnOps
import Derived.Laws.EntriesVeiled
import Derived.Test.YtolmkdhgnganaaaGreatDoorWMore
import Derived.Lib.Replace
import Derived.Test.YtolmkdhgnganaaaGreatDoorWEqStruct
import Derived.Test.YtolmkdhgnganaaaGreatDoorWLast
import Derived.ProofKit
import Derived.OpenShut
import Derived.ShutString
import Derived.Lib.LaidU8
import Derived.Lib.SmallJoins
import Derived.Lay
import Derived.SizedLaws
import Derived.SevenTiedAt
import Derived.Shelf.Vars
import Derived.HandedShaped
import Derived.Test.YtolmkdhgnganaaaGreatDoorCards
import Derived.Test.YtolmkdhgnganaaaGreatDoorTie
import Derived.LaidOnce
set_option linter.unusedVariables false
set_option linter.unusedSimpArgs false
namespace Go.Proofs
open Go.Shelf
def Tryz.lays156_ren : Go.Shelf.Ren := ⟨fun | 156 => 19 | 165 => 52 | 166 => 53 | 169 => 30 | 240 => 82 | 241 => 83 | 276 => 108 | 277 => 109 | n => n, fun | 31 => 38 | 9 => 9 | 3 => 3 | 4 => 4 | 0 => 0 | 20 => 20 | 72 => 64 | 76 => 109 | 70 => 61 | 37 => 62 | 75 => 108 | 127 => 120 | 164 => 168 | 5 => 5 | 80 => 71 | n => n, fun | n => n⟩
theorem Tryz.lays156 : Go.Proofs.Lays.n156 Tryz.prog Tryz.lays156_ren := {
  mixed := by kernel_rfl
  f156 := Tryz.func19.trans (congrArg some (by kernel_rfl))
  f165 := Tryz.func52.trans (congrArg some (by kernel_rfl))
  f166 := Tryz.func53.trans (congrArg some (by kernel_rfl))
  f169 := Tryz.func30.trans (congrArg some (by kernel_rfl))
  f240 := Tryz.func82.trans (congrArg some (by kernel_rfl))
  f241 := Tryz.func83.trans (congrArg some (by kernel_rfl))
  f276 := Tryz.func108.trans (congrArg some (by kernel_rfl))
  f277 := Tryz.func109.trans (congrArg some (by kernel_rfl))
  t0 := Tryz.underlying0
  a0 := Tryz.isAgg0
  z0 := Tryz.sizeOf0
  v0 := Tryz.zeroValue0
  t3 := Tryz.underlying3
  a3 := Tryz.isAgg3
  z3 := Tryz.sizeOf3
  v3 := Tryz.zeroValue3
  t4 := Tryz.underlying4
  a4 := Tryz.isAgg4
  z4 := Tryz.sizeOf4
  v4 := Tryz.zeroValue4
  t9 := Tryz.underlying9
  a9 := Tryz.isAgg9
  z9 := Tryz.sizeOf9
  v9 := Tryz.zeroValue9
  t20 := Tryz.underlying20
  a20 := Tryz.isAgg20
  z20 := Tryz.sizeOf20
  v20 := Tryz.zeroValue20
  t31 := Tryz.underlying38
  a31 := Tryz.isAgg38
  z31 := Tryz.sizeOf38
  v31 := Tryz.zeroValue38
  t37 := Tryz.underlying62
  a37 := Tryz.isAgg62
  z37 := Tryz.sizeOf62
  v37 := Tryz.zeroValue62
  t70 := Tryz.underlying61
  a70 := Tryz.isAgg61
  z70 := Tryz.sizeOf61
  v70 := Tryz.zeroValue61
  t72 := Tryz.underlying64
  a72 := Tryz.isAgg64
  z72 := Tryz.sizeOf64
  v72 := Tryz.zeroValue64
  t75 := Tryz.underlying108
  a75 := Tryz.isAgg108
  z75 := Tryz.sizeOf108
  v75 := Tryz.zeroValue108
  t76 := Tryz.underlying109
  a76 := Tryz.isAgg109
  z76 := Tryz.sizeOf109
  v76 := Tryz.zeroValue109
  t127 := Tryz.underlying120
  a127 := Tryz.isAgg120
  z127 := Tryz.sizeOf120
  v127 := Tryz.zeroValue120
  t164 := Tryz.underlying168
  a164 := Tryz.isAgg168
  z164 := Tryz.sizeOf168
  v164 := Tryz.zeroValue168 }
theorem Tryz.Builder_Extra_156 : Builder.Extra Tryz.prog Tryz.lays156_ren := {
  sizeBuilder := by kernel_rfl
  liesBuilder := by kernel_rfl
  t5 := Tryz.underlying5
  a5 := Tryz.isAgg5
  z5 := Tryz.sizeOf5
  v5 := Tryz.zeroValue5
  infoByte := by kernel_rfl
  cellsByte := by kernel_rfl
  sizeByte := by kernel_rfl
  neB5 := by decide }
open Go.RowKit in
/-- strings.Join: "Join concatenates the elements of its first argument to create a single string. The separator string sep is placed between elements in the resulting string.": HOWEVER MANY ELEMENTS. Below the heap's end the world is as it was. (LAID: no walk: one application.) -/
theorem Tryz.strings_Join (bk o c : Nat) (xs : List ByteArray) (sep : ByteArray) (w : World) (hcells : ∀ (j : Nat) x, xs[j]? = some x → w.cell? ⟨bk, o + j, none⟩ = some (.string x)) (hbk : bk < w.heap.size) (hN : xs.length ≤ 140737488355328) (hcap : xs.length ≤ c) (hlen : (Lib.join (xs.map (·.data.toList)) sep.data.toList).length ≤ 140737488355328) :
    Calls Tryz.prog 19 #[.slice (some ⟨bk, o, none⟩) xs.length c, .string sep] w fun e w' => e = .returned (.string ⟨(Lib.join (xs.map (·.data.toList)) sep.data.toList).toArray⟩) ∧ Below w.heap.size w w' := Any.strings_Join Tryz.lays156 Tryz.Builder_Extra_156 bk o c xs sep w hcells hbk hN hcap hlen
def Tryz.lays160_ren : Go.Shelf.Ren := ⟨fun | 160 => 117 | 232 => 136 | 231 => 135 | 227 => 137 | 234 => 139 | 233 => 138 | 236 => 141 | 235 => 140 | 228 => 147 | 271 => 149 | 151 => 148 | 197 => 73 | 120 => 156 | 152 => 155 | 260 => 104 | 137 => 160 | 119 => 161 | 224 => 102 | 225 => 101 | 217 => 100 | 266 => 122 | n => n, fun | 9 => 9 | 4 => 4 | 3 => 3 | 5 => 5 | 117 => 209 | 116 => 208 | 0 => 0 | 124 => 212 | 21 => 21 | 105 => 130 | 46 => 113 | 119 => 151 | 139 => 188 | 138 => 187 | n => n, fun | 3 => 6 | 4 => 7 | n => n⟩
theorem Tryz.lays160 : Go.Proofs.Lays.n160 Tryz.prog Tryz.lays160_ren := {
  mixed := by kernel_rfl
  f119 := Tryz.func161.trans (congrArg some (by kernel_rfl))
  f120 := Tryz.func156.trans (congrArg some (by kernel_rfl))
  f137 := Tryz.func160.trans (congrArg some (by kernel_rfl))
  f151 := Tryz.func148.trans (congrArg some (by kernel_rfl))
  f152 := Tryz.func155.trans (congrArg some (by kernel_rfl))
  f160 := Tryz.func117.trans (congrArg some (by kernel_rfl))
  f197 := Tryz.func73.trans (congrArg some (by kernel_rfl))
  f217 := Tryz.func100.trans (congrArg some (by kernel_rfl))
  f224 := Tryz.func102.trans (congrArg some (by kernel_rfl))
  f225 := Tryz.func101.trans (congrArg some (by kernel_rfl))
  f227 := Tryz.func137.trans (congrArg some (by kernel_rfl))
  f228 := Tryz.func147.trans (congrArg some (by kernel_rfl))
  f231 := Tryz.func135.trans (congrArg some (by kernel_rfl))
  f232 := Tryz.func136.trans (congrArg some (by kernel_rfl))
  f233 := Tryz.func138.trans (congrArg some (by kernel_rfl))
  f234 := Tryz.func139.trans (congrArg some (by kernel_rfl))
  f235 := Tryz.func140.trans (congrArg some (by kernel_rfl))
  f236 := Tryz.func141.trans (congrArg some (by kernel_rfl))
  f260 := Tryz.func104.trans (congrArg some (by kernel_rfl))
  f266 := Tryz.func122.trans (congrArg some (by kernel_rfl))
  f271 := Tryz.func149.trans (congrArg some (by kernel_rfl))
  t0 := Tryz.underlying0
  a0 := Tryz.isAgg0
  z0 := Tryz.sizeOf0
  v0 := Tryz.zeroValue0
  t3 := Tryz.underlying3
  a3 := Tryz.isAgg3
  z3 := Tryz.sizeOf3
  v3 := Tryz.zeroValue3
  t4 := Tryz.underlying4
  a4 := Tryz.isAgg4
  z4 := Tryz.sizeOf4
  v4 := Tryz.zeroValue4
  t5 := Tryz.underlying5
  a5 := Tryz.isAgg5
  z5 := Tryz.sizeOf5
  v5 := Tryz.zeroValue5
  t9 := Tryz.underlying9
  a9 := Tryz.isAgg9
  z9 := Tryz.sizeOf9
  v9 := Tryz.zeroValue9
  t21 := Tryz.underlying21
  a21 := Tryz.isAgg21
  z21 := Tryz.sizeOf21
  v21 := Tryz.zeroValue21
  t46 := Tryz.underlying113
  a46 := Tryz.isAgg113
  z46 := Tryz.sizeOf113
  v46 := Tryz.zeroValue113
  t105 := Tryz.underlying130
  a105 := Tryz.isAgg130
  z105 := Tryz.sizeOf130
  v105 := Tryz.zeroValue130
  t116 := Tryz.underlying208
  a116 := Tryz.isAgg208
  z116 := Tryz.sizeOf208
  t117 := Tryz.underlying209
  a117 := Tryz.isAgg209
  z117 := Tryz.sizeOf209
  v117 := Tryz.zeroValue209
  t119 := Tryz.underlying151
  a119 := Tryz.isAgg151
  z119 := Tryz.sizeOf151
  t124 := Tryz.underlying212
  a124 := Tryz.isAgg212
  z124 := Tryz.sizeOf212
  v124 := Tryz.zeroValue212
  t138 := Tryz.underlying187
  a138 := Tryz.isAgg187
  z138 := Tryz.sizeOf187
  v138 := Tryz.zeroValue187
  t139 := Tryz.underlying188
  a139 := Tryz.isAgg188
  z139 := Tryz.sizeOf188
  v139 := Tryz.zeroValue188
  g3 := by kernel_rfl
  g4 := by kernel_rfl }
def Tryz.laysC172_ren : Go.Shelf.Ren := ⟨fun | 172 => 118 | 244 => 142 | 245 => 143 | 247 => 150 | 279 => 151 | 280 => 152 | 281 => 153 | 282 => 154 | 287 => 157 | 316 => 158 | 171 => 27 | 205 => 159 | 321 => 162 | 322 => 163 | 243 => 58 | 246 => 87 | 283 => 110 | 284 => 111 | 285 => 112 | 286 => 113 | 129 => 128 | 317 => 127 | 318 => 129 | 319 => 130 | 320 => 131 | 337 => 145 | 338 => 146 | n => n, fun | 9 => 9 | 3 => 3 | 75 => 108 | 76 => 109 | 4 => 4 | 5 => 5 | 167 => 218 | 37 => 62 | 0 => 0 | 85 => 219 | 2 => 2 | 168 => 221 | 53 => 143 | 175 => 227 | 46 => 113 | 210 => 231 | 127 => 120 | 145 => 236 | 143 => 234 | 21 => 21 | 171 => 171 | 173 => 174 | 212 => 191 | 51 => 140 | 20 => 20 | 213 => 192 | 232 => 224 | 233 => 225 | 80 => 71 | n => n, fun | 15 => 11 | 16 => 12 | 17 => 8 | 18 => 9 | 19 => 10 | n => n⟩
theorem Tryz.laysC172 : Go.Proofs.LaysC.n172 Tryz.prog Tryz.laysC172_ren := {
  mixed := by kernel_rfl
  f129 := Tryz.func128.trans (congrArg some (by kernel_rfl))
  f171 := Tryz.func27.trans (congrArg some (by kernel_rfl))
  f172 := Tryz.func118.trans (congrArg some (by kernel_rfl))
  f205 := Tryz.func159.trans (congrArg some (by kernel_rfl))
  f243 := Tryz.func58.trans (congrArg some (by kernel_rfl))
  f244 := Tryz.func142.trans (congrArg some (by kernel_rfl))
  f245 := Tryz.func143.trans (congrArg some (by kernel_rfl))
  f246 := Tryz.func87.trans (congrArg some (by kernel_rfl))
  f247 := Tryz.func150.trans (congrArg some (by kernel_rfl))
  f279 := Tryz.func151.trans (congrArg some (by kernel_rfl))
  f280 := Tryz.func152.trans (congrArg some (by kernel_rfl))
  f281 := Tryz.func153.trans (congrArg some (by kernel_rfl))
  f282 := Tryz.func154.trans (congrArg some (by kernel_rfl))
  f283 := Tryz.func110.trans (congrArg some (by kernel_rfl))
  f284 := Tryz.func111.trans (congrArg some (by kernel_rfl))
  f285 := Tryz.func112.trans (congrArg some (by kernel_rfl))
  f286 := Tryz.func113.trans (congrArg some (by kernel_rfl))
  f287 := Tryz.func157.trans (congrArg some (by kernel_rfl))
  f316 := Tryz.func158.trans (congrArg some (by kernel_rfl))
  f317 := Tryz.func127.trans (congrArg some (by kernel_rfl))
  f318 := Tryz.func129.trans (congrArg some (by kernel_rfl))
  f319 := Tryz.func130.trans (congrArg some (by kernel_rfl))
  f320 := Tryz.func131.trans (congrArg some (by kernel_rfl))
  f321 := Tryz.func162.trans (congrArg some (by kernel_rfl))
  f322 := Tryz.func163.trans (congrArg some (by kernel_rfl))
  f337 := Tryz.func145.trans (congrArg some (by kernel_rfl))
  f338 := Tryz.func146.trans (congrArg some (by kernel_rfl))
  t0 := Tryz.underlying0
  a0 := Tryz.isAgg0
  z0 := Tryz.sizeOf0
  v0 := Tryz.zeroValue0
  t2 := Tryz.underlying2
  a2 := Tryz.isAgg2
  z2 := Tryz.sizeOf2
  v2 := Tryz.zeroValue2
  t3 := Tryz.underlying3
  a3 := Tryz.isAgg3
  z3 := Tryz.sizeOf3
  v3 := Tryz.zeroValue3
  t4 := Tryz.underlying4
  a4 := Tryz.isAgg4
  z4 := Tryz.sizeOf4
  v4 := Tryz.zeroValue4
  t5 := Tryz.underlying5
  a5 := Tryz.isAgg5
  z5 := Tryz.sizeOf5
  v5 := Tryz.zeroValue5
  t9 := Tryz.underlying9
  a9 := Tryz.isAgg9
  z9 := Tryz.sizeOf9
  v9 := Tryz.zeroValue9
  t20 := Tryz.underlying20
  a20 := Tryz.isAgg20
  z20 := Tryz.sizeOf20
  v20 := Tryz.zeroValue20
  t21 := Tryz.underlying21
  a21 := Tryz.isAgg21
  z21 := Tryz.sizeOf21
  v21 := Tryz.zeroValue21
  t37 := Tryz.underlying62
  a37 := Tryz.isAgg62
  z37 := Tryz.sizeOf62
  v37 := Tryz.zeroValue62
  t46 := Tryz.underlying113
  a46 := Tryz.isAgg113
  z46 := Tryz.sizeOf113
  v46 := Tryz.zeroValue113
  t51 := Tryz.underlying140
  a51 := Tryz.isAgg140
  z51 := Tryz.sizeOf140
  v51 := Tryz.zeroValue140
  t53 := Tryz.underlying143
  a53 := Tryz.isAgg143
  z53 := Tryz.sizeOf143
  v53 := Tryz.zeroValue143
  t75 := Tryz.underlying108
  a75 := Tryz.isAgg108
  z75 := Tryz.sizeOf108
  v75 := Tryz.zeroValue108
  t76 := Tryz.underlying109
  a76 := Tryz.isAgg109
  z76 := Tryz.sizeOf109
  v76 := Tryz.zeroValue109
  t85 := Tryz.underlying219
  a85 := Tryz.isAgg219
  z85 := Tryz.sizeOf219
  v85 := Tryz.zeroValue219
  t127 := Tryz.underlying120
  a127 := Tryz.isAgg120
  z127 := Tryz.sizeOf120
  v127 := Tryz.zeroValue120
  t143 := Tryz.underlying234
  a143 := Tryz.isAgg234
  z143 := Tryz.sizeOf234
  v143 := Tryz.zeroValue234
  t145 := Tryz.underlying236
  a145 := Tryz.isAgg236
  z145 := Tryz.sizeOf236
  v145 := Tryz.zeroValue236
  t167 := Tryz.underlying218
  a167 := Tryz.isAgg218
  z167 := Tryz.sizeOf218
  v167 := Tryz.zeroValue218
  t168 := Tryz.underlying221
  a168 := Tryz.isAgg221
  z168 := Tryz.sizeOf221
  v168 := Tryz.zeroValue221
  t171 := Tryz.underlying171
  a171 := Tryz.isAgg171
  z171 := Tryz.sizeOf171
  v171 := Tryz.zeroValue171
  t173 := Tryz.underlying174
  a173 := Tryz.isAgg174
  z173 := Tryz.sizeOf174
  v173 := Tryz.zeroValue174
  t175 := Tryz.underlying227
  a175 := Tryz.isAgg227
  z175 := Tryz.sizeOf227
  v175 := Tryz.zeroValue227
  t210 := Tryz.underlying231
  a210 := Tryz.isAgg231
  z210 := Tryz.sizeOf231
  v210 := Tryz.zeroValue231
  t212 := Tryz.underlying191
  a212 := Tryz.isAgg191
  z212 := Tryz.sizeOf191
  v212 := Tryz.zeroValue191
  t213 := Tryz.underlying192
  a213 := Tryz.isAgg192
  z213 := Tryz.sizeOf192
  t232 := Tryz.underlying224
  a232 := Tryz.isAgg224
  z232 := Tryz.sizeOf224
  v232 := Tryz.zeroValue224
  t233 := Tryz.underlying225
  a233 := Tryz.isAgg225
  z233 := Tryz.sizeOf225
  v233 := Tryz.zeroValue225
  g15 := by kernel_rfl
  g16 := by kernel_rfl
  g17 := by kernel_rfl
  g18 := by kernel_rfl
  g19 := by kernel_rfl
  t80 := Tryz.underlying71
  a80 := Tryz.isAgg71
  z80 := Tryz.sizeOf71
  v80 := Tryz.zeroValue71
  i0 := by kernel_rfl
  i2 := by kernel_rfl
  i3 := by kernel_rfl
  i4 := by kernel_rfl
  i5 := by kernel_rfl
  i9 := by kernel_rfl
  i20 := by kernel_rfl
  i21 := by kernel_rfl
  i37 := by kernel_rfl
  i46 := by kernel_rfl
  i51 := by kernel_rfl
  i53 := by kernel_rfl
  i75 := by kernel_rfl
  i76 := by kernel_rfl
  i80 := by kernel_rfl
  i85 := by kernel_rfl
  i127 := by kernel_rfl
  i143 := by kernel_rfl
  i145 := by kernel_rfl
  i167 := by kernel_rfl
  i168 := by kernel_rfl
  i171 := by kernel_rfl
  i173 := by kernel_rfl
  i175 := by kernel_rfl
  i210 := by kernel_rfl
  i212 := by kernel_rfl
  i232 := by kernel_rfl
  i233 := by kernel_rfl
  m15 := by kernel_rfl
  m16 := by kernel_rfl
  m17 := by kernel_rfl
  m18 := by kernel_rfl
  m19 := by kernel_rfl
  c0 := by kernel_rfl
  c2 := by kernel_rfl
  c3 := by kernel_rfl
  c4 := by kernel_rfl
  c5 := by kernel_rfl
  c9 := by kernel_rfl
  c20 := by kernel_rfl
  c21 := by kernel_rfl
  c37 := by kernel_rfl
  c46 := by kernel_rfl
  c51 := by kernel_rfl
  c53 := by kernel_rfl
  c75 := by kernel_rfl
  c76 := by kernel_rfl
  c80 := by kernel_rfl
  c85 := by kernel_rfl
  c127 := by kernel_rfl
  c143 := by kernel_rfl
  c145 := by kernel_rfl
  c167 := by kernel_rfl
  c168 := by kernel_rfl
  c171 := by kernel_rfl
  c173 := by kernel_rfl
  c175 := by kernel_rfl
  c210 := by kernel_rfl
  c212 := by kernel_rfl
  c213 := by kernel_rfl
  c232 := by kernel_rfl
  c233 := by kernel_rfl }
open Go.RowKit in
/-- strconv.Atoi, AT EVERY STRING THAT SPELLS AN int ('Lib.atoiAll .. = .ok v'; of whatever length: leading zeros count): v, AND NO ERROR. The world: as it was, or with the one new row that '[]byte(..)' lays. (LAID: no walk: one application.) -/
theorem Tryz.strconv_Atoi_ok (s : ByteArray) (hmax : s.size ≤ 9223372036854775806) (v : Int) (h : Lib.atoiAll s.data.toList = .ok v) (w : World) :
    Calls Tryz.prog 118 #[.string s] w fun e w' => e = .returned (.tuple #[.int .i64 v, .nilIface]) ∧ (w' = w ∨ ∃ t, w' = Lib.bytesWorld w 5 t) := Any.strconv_Atoi_ok Tryz.laysC172 s hmax v h w
open Go.RowKit in
theorem Tryz.strconv_Atoi_range_var (s : ByteArray) (hlim : s.size ≤ 281474976710656) (h : Lib.atoiAll s.data.toList = .range) (tp : TypeId) (p : Value) (w : World) (hvar : w.var? Tryz.prog "strconv.ErrRange" = some #[.iface tp p]) :
    Calls Tryz.prog 118 #[.string s] w fun e w' => ∃ N, e = .returned (.tuple #[.int .i64 (Lib.atoiSat s.data.toList), .iface 221 (.pointer (some ⟨N, 0, none⟩))]) ∧ w.heap.size ≤ N ∧ w'.heap[N]? = some (.cells #[.string ⟨#[65, 116, 111, 105]⟩, .string s, .iface tp p] 231 (0, 0)) ∧ Below w.heap.size w w' := Any.strconv_Atoi_range_var Tryz.laysC172 s hlim h tp p w hvar
def Tryz.lays145_ren : Go.Shelf.Ren := ⟨fun | 145 => 90 | 220 => 115 | 219 => 72 | 217 => 100 | 225 => 101 | 224 => 102 | 267 => 103 | 266 => 122 | 314 => 123 | n => n, fun | 9 => 9 | 4 => 4 | 59 => 149 | 3 => 3 | 5 => 5 | 46 => 113 | 146 => 141 | 51 => 140 | n => n, fun | 1 => 3 | n => n⟩
theorem Tryz.lays145 : Go.Proofs.Lays.n145 Tryz.prog Tryz.lays145_ren := {
  mixed := by kernel_rfl
  f145 := Tryz.func90.trans (congrArg some (by kernel_rfl))
  f217 := Tryz.func100.trans (congrArg some (by kernel_rfl))
  f219 := Tryz.func72.trans (congrArg some (by kernel_rfl))
  f220 := Tryz.func115.trans (congrArg some (by kernel_rfl))
  f224 := Tryz.func102.trans (congrArg some (by kernel_rfl))
  f225 := Tryz.func101.trans (congrArg some (by kernel_rfl))
  f266 := Tryz.func122.trans (congrArg some (by kernel_rfl))
  f267 := Tryz.func103.trans (congrArg some (by kernel_rfl))
  f314 := Tryz.func123.trans (congrArg some (by kernel_rfl))
  t3 := Tryz.underlying3
  a3 := Tryz.isAgg3
  z3 := Tryz.sizeOf3
  v3 := Tryz.zeroValue3
  t4 := Tryz.underlying4
  a4 := Tryz.isAgg4
  z4 := Tryz.sizeOf4
  v4 := Tryz.zeroValue4
  t5 := Tryz.underlying5
  a5 := Tryz.isAgg5
  z5 := Tryz.sizeOf5
  v5 := Tryz.zeroValue5
  t9 := Tryz.underlying9
  a9 := Tryz.isAgg9
  z9 := Tryz.sizeOf9
  v9 := Tryz.zeroValue9
  t46 := Tryz.underlying113
  a46 := Tryz.isAgg113
  z46 := Tryz.sizeOf113
  v46 := Tryz.zeroValue113
  t51 := Tryz.underlying140
  a51 := Tryz.isAgg140
  z51 := Tryz.sizeOf140
  v51 := Tryz.zeroValue140
  t59 := Tryz.underlying149
  a59 := Tryz.isAgg149
  z59 := Tryz.sizeOf149
  v59 := Tryz.zeroValue149
  t146 := Tryz.underlying141
  a146 := Tryz.isAgg141
  z146 := Tryz.sizeOf141
  v146 := Tryz.zeroValue141
  g1 := by kernel_rfl }
open Go.RowKit Go.Lib in
/-- strings.Cut: "Cut slices s around the first instance of sep, returning the text before and after sep. The found result reports whether sep appears in s. If sep does not appear in s, cut returns s, "", false.": IT RETURNS 'Lib.cut s sep'; the world is as it was but for the count of draws. (LAID: no walk: one application.) -/
theorem Tryz.strings_Cut (s sep : ByteArray) (m : Int) (w : World) (hs : s.size < 4294967281) (hm : w.cell? ⟨3, 0, none⟩ = some (.int .i64 m)) :
    Calls Tryz.prog 90 #[.string s, .string sep] w fun e w' => e = .returned (.tuple #[.string ⟨(Lib.cut s.data.toList sep.data.toList).1.toArray⟩, .string ⟨(Lib.cut s.data.toList sep.data.toList).2.1.toArray⟩, .bool (Lib.cut s.data.toList sep.data.toList).2.2]) ∧ ∃ n, w' = w.drewN n := Any.strings_Cut Tryz.lays145 s sep m w hs hm
def Tryz.lays146_ren : Go.Shelf.Ren := ⟨fun | 146 => 89 | 221 => 114 | 268 => 132 | 138 => 15 | 143 => 47 | 195 => 45 | 197 => 73 | 218 => 46 | 219 => 72 | 260 => 104 | 217 => 100 | 225 => 101 | 224 => 102 | 267 => 103 | 266 => 122 | 314 => 123 | n => n, fun | 9 => 9 | 31 => 38 | 3 => 3 | 4 => 4 | 0 => 0 | 105 => 130 | 21 => 21 | 5 => 5 | 46 => 113 | 119 => 151 | 139 => 188 | 138 => 187 | 146 => 141 | 51 => 140 | n => n, fun | 1 => 3 | 3 => 6 | 4 => 7 | n => n⟩
theorem Tryz.lays146 : Go.Proofs.Lays.n146 Tryz.prog Tryz.lays146_ren := {
  mixed := by kernel_rfl
  f138 := Tryz.func15.trans (congrArg some (by kernel_rfl))
  f143 := Tryz.func47.trans (congrArg some (by kernel_rfl))
  f146 := Tryz.func89.trans (congrArg some (by kernel_rfl))
  f195 := Tryz.func45.trans (congrArg some (by kernel_rfl))
  f197 := Tryz.func73.trans (congrArg some (by kernel_rfl))
  f217 := Tryz.func100.trans (congrArg some (by kernel_rfl))
  f218 := Tryz.func46.trans (congrArg some (by kernel_rfl))
  f219 := Tryz.func72.trans (congrArg some (by kernel_rfl))
  f221 := Tryz.func114.trans (congrArg some (by kernel_rfl))
  f224 := Tryz.func102.trans (congrArg some (by kernel_rfl))
  f225 := Tryz.func101.trans (congrArg some (by kernel_rfl))
  f260 := Tryz.func104.trans (congrArg some (by kernel_rfl))
  f266 := Tryz.func122.trans (congrArg some (by kernel_rfl))
  f267 := Tryz.func103.trans (congrArg some (by kernel_rfl))
  f268 := Tryz.func132.trans (congrArg some (by kernel_rfl))
  f314 := Tryz.func123.trans (congrArg some (by kernel_rfl))
  t0 := Tryz.underlying0
  a0 := Tryz.isAgg0
  z0 := Tryz.sizeOf0
  v0 := Tryz.zeroValue0
  t3 := Tryz.underlying3
  a3 := Tryz.isAgg3
  z3 := Tryz.sizeOf3
  v3 := Tryz.zeroValue3
  t4 := Tryz.underlying4
  a4 := Tryz.isAgg4
  z4 := Tryz.sizeOf4
  v4 := Tryz.zeroValue4
  t5 := Tryz.underlying5
  a5 := Tryz.isAgg5
  z5 := Tryz.sizeOf5
  v5 := Tryz.zeroValue5
  t9 := Tryz.underlying9
  a9 := Tryz.isAgg9
  z9 := Tryz.sizeOf9
  v9 := Tryz.zeroValue9
  t21 := Tryz.underlying21
  a21 := Tryz.isAgg21
  z21 := Tryz.sizeOf21
  v21 := Tryz.zeroValue21
  t31 := Tryz.underlying38
  a31 := Tryz.isAgg38
  z31 := Tryz.sizeOf38
  v31 := Tryz.zeroValue38
  t46 := Tryz.underlying113
  a46 := Tryz.isAgg113
  z46 := Tryz.sizeOf113
  v46 := Tryz.zeroValue113
  t51 := Tryz.underlying140
  a51 := Tryz.isAgg140
  z51 := Tryz.sizeOf140
  v51 := Tryz.zeroValue140
  t105 := Tryz.underlying130
  a105 := Tryz.isAgg130
  z105 := Tryz.sizeOf130
  v105 := Tryz.zeroValue130
  t119 := Tryz.underlying151
  a119 := Tryz.isAgg151
  z119 := Tryz.sizeOf151
  t138 := Tryz.underlying187
  a138 := Tryz.isAgg187
  z138 := Tryz.sizeOf187
  v138 := Tryz.zeroValue187
  t139 := Tryz.underlying188
  a139 := Tryz.isAgg188
  z139 := Tryz.sizeOf188
  v139 := Tryz.zeroValue188
  t146 := Tryz.underlying141
  a146 := Tryz.isAgg141
  z146 := Tryz.sizeOf141
  v146 := Tryz.zeroValue141
  g1 := by kernel_rfl
  g3 := by kernel_rfl
  g4 := by kernel_rfl }
open Go.RowKit Go.Lib in
/-- strings.Split. (LAID: no walk: one application.) -/
theorem Tryz.strings_Split (s sep : ByteArray) (m : Int) (w : World) (hs : s.size < 4294967281) (hm : w.cell? ⟨3, 0, none⟩ = some (.int .i64 m)) (h1 : 1 ≤ sep.size) :
    Calls Tryz.prog 89 #[.string s, .string sep] w fun e w' =>
      e = .returned (.slice (some ⟨w.heap.size, 0, none⟩) (Lib.countB s sep + 1) (Lib.countB s sep + 1)) ∧ w' = w.alloc (.cells ((Lib.splitB sep 0 (Lib.countB s sep) s).map Value.string).toArray 9) := Any.strings_Split Tryz.lays146 (by kernel_rfl) s sep m w hs hm h1
def Tryz.lays157_ren : Go.Shelf.Ren := ⟨fun | 157 => 62 | 229 => 91 | 199 => 92 | 261 => 116 | 311 => 133 | 312 => 134 | n => n, fun | 9 => 9 | 31 => 38 | 3 => 3 | 5 => 5 | 4 => 4 | 119 => 151 | 0 => 0 | 40 => 153 | 152 => 177 | 21 => 21 | 154 => 179 | 51 => 140 | 141 => 181 | 196 => 199 | 193 => 196 | 198 => 201 | 49 => 46 | 194 => 197 | 201 => 204 | 226 => 215 | 46 => 113 | 227 => 216 | n => n, fun | 0 => 4 | 6 => 5 | n => n⟩
theorem Tryz.lays157 : Go.Proofs.Lays.n157 Tryz.prog Tryz.lays157_ren := {
  mixed := by kernel_rfl
  f157 := Tryz.func62.trans (congrArg some (by kernel_rfl))
  f199 := Tryz.func92.trans (congrArg some (by kernel_rfl))
  f229 := Tryz.func91.trans (congrArg some (by kernel_rfl))
  f261 := Tryz.func116.trans (congrArg some (by kernel_rfl))
  f311 := Tryz.func133.trans (congrArg some (by kernel_rfl))
  f312 := Tryz.func134.trans (congrArg some (by kernel_rfl))
  t0 := Tryz.underlying0
  a0 := Tryz.isAgg0
  z0 := Tryz.sizeOf0
  v0 := Tryz.zeroValue0
  t3 := Tryz.underlying3
  a3 := Tryz.isAgg3
  z3 := Tryz.sizeOf3
  v3 := Tryz.zeroValue3
  t4 := Tryz.underlying4
  a4 := Tryz.isAgg4
  z4 := Tryz.sizeOf4
  v4 := Tryz.zeroValue4
  t5 := Tryz.underlying5
  a5 := Tryz.isAgg5
  z5 := Tryz.sizeOf5
  v5 := Tryz.zeroValue5
  t9 := Tryz.underlying9
  a9 := Tryz.isAgg9
  z9 := Tryz.sizeOf9
  v9 := Tryz.zeroValue9
  t21 := Tryz.underlying21
  a21 := Tryz.isAgg21
  z21 := Tryz.sizeOf21
  v21 := Tryz.zeroValue21
  t31 := Tryz.underlying38
  a31 := Tryz.isAgg38
  z31 := Tryz.sizeOf38
  v31 := Tryz.zeroValue38
  t40 := Tryz.underlying153
  a40 := Tryz.isAgg153
  z40 := Tryz.sizeOf153
  v40 := Tryz.zeroValue153
  t46 := Tryz.underlying113
  a46 := Tryz.isAgg113
  z46 := Tryz.sizeOf113
  v46 := Tryz.zeroValue113
  t49 := Tryz.underlying46
  a49 := Tryz.isAgg46
  z49 := Tryz.sizeOf46
  v49 := Tryz.zeroValue46
  t51 := Tryz.underlying140
  a51 := Tryz.isAgg140
  z51 := Tryz.sizeOf140
  v51 := Tryz.zeroValue140
  t119 := Tryz.underlying151
  a119 := Tryz.isAgg151
  z119 := Tryz.sizeOf151
  t141 := Tryz.underlying181
  a141 := Tryz.isAgg181
  z141 := Tryz.sizeOf181
  v141 := Tryz.zeroValue181
  t152 := Tryz.underlying177
  a152 := Tryz.isAgg177
  z152 := Tryz.sizeOf177
  v152 := Tryz.zeroValue177
  t154 := Tryz.underlying179
  a154 := Tryz.isAgg179
  z154 := Tryz.sizeOf179
  v154 := Tryz.zeroValue179
  t193 := Tryz.underlying196
  a193 := Tryz.isAgg196
  z193 := Tryz.sizeOf196
  v193 := Tryz.zeroValue196
  t194 := Tryz.underlying197
  a194 := Tryz.isAgg197
  z194 := Tryz.sizeOf197
  v194 := Tryz.zeroValue197
  t196 := Tryz.underlying199
  a196 := Tryz.isAgg199
  z196 := Tryz.sizeOf199
  v196 := Tryz.zeroValue199
  t198 := Tryz.underlying201
  a198 := Tryz.isAgg201
  z198 := Tryz.sizeOf201
  v198 := Tryz.zeroValue201
  t201 := Tryz.underlying204
  a201 := Tryz.isAgg204
  z201 := Tryz.sizeOf204
  v201 := Tryz.zeroValue204
  t226 := Tryz.underlying215
  a226 := Tryz.isAgg215
  z226 := Tryz.sizeOf215
  v226 := Tryz.zeroValue215
  t227 := Tryz.underlying216
  a227 := Tryz.isAgg216
  z227 := Tryz.sizeOf216
  v227 := Tryz.zeroValue216
  g0 := by kernel_rfl
  g6 := by kernel_rfl }
open Go.RowKit Go.Lib in
/-- strings.Fields, the table by 'Lib.TabIs' (as strings.TrimSpace's contract). 'hg': the table's number, by its name: at a dump 'by kernel_rfl'. (LAID: no walk: one application.) -/
theorem Tryz.strings_Fields (s : ByteArray) (w : World) (hs : s.size < 4294967281) (hascii : ∀ (j : Nat) b, s.data.toList[j]? = some b → b.toNat < 128) (htab : Lib.TabIs Tryz.prog w "strings.asciiSpace" .u8 Lib.asciiSpaceTab) :
    Calls Tryz.prog 62 #[.string s] w fun e w' =>
      e = .returned (.slice (some ⟨w.heap.size, 0, none⟩) (Lib.fields s.data.toList).length (Lib.fields s.data.toList).length) ∧ w' = w.alloc (.cells ((Lib.fields s.data.toList).map fun l => Value.string ⟨l.toArray⟩).toArray 9) := Any.strings_Fields Tryz.lays157 (by kernel_rfl) (by kernel_rfl) s w hs hascii htab
def Tryz.lays109_ren : Go.Shelf.Ren := ⟨fun | 109 => 97 | n => n, fun | 31 => 38 | 9 => 9 | 3 => 3 | 0 => 0 | 4 => 4 | n => n, fun | n => n⟩
theorem Tryz.lays109 : Go.Proofs.Lays.n109 Tryz.prog Tryz.lays109_ren := {
  mixed := by kernel_rfl
  f109 := Tryz.func97.trans (congrArg some (by kernel_rfl))
  t0 := Tryz.underlying0
  a0 := Tryz.isAgg0
  z0 := Tryz.sizeOf0
  v0 := Tryz.zeroValue0
  t3 := Tryz.underlying3
  a3 := Tryz.isAgg3
  z3 := Tryz.sizeOf3
  v3 := Tryz.zeroValue3
  t4 := Tryz.underlying4
  a4 := Tryz.isAgg4
  z4 := Tryz.sizeOf4
  v4 := Tryz.zeroValue4
  t9 := Tryz.underlying9
  a9 := Tryz.isAgg9
  z9 := Tryz.sizeOf9
  v9 := Tryz.zeroValue9
  t31 := Tryz.underlying38
  a31 := Tryz.isAgg38
  z31 := Tryz.sizeOf38
  v31 := Tryz.zeroValue38 }
open Go.Lib in
/-- slices.Index at []string: "Index returns the index of the first occurrence of v in s, or -1 if not present.": IT RETURNS 'Lib.idxOfS (the elements) v'; the world is as it was. 'zs': what the cells behind the slice's address hold (its spare capacity too, if you have it); 'zs.take n': its elements. (LAID: no walk: one application.) -/
theorem Tryz.slices_Index_string (b off n c : Nat) (zs : List ByteArray) (x : ByteArray) (w : World) (hz : n ≤ zs.length) (hbig : n ≤ 9223372036854775807) (hc : ∀ j, j < zs.length → w.cell? ⟨b, off + j, none⟩ = some (.string (zs.getD j ByteArray.empty))) :
    Calls Tryz.prog 97 #[.slice (some ⟨b, off, none⟩) n c, .string x] w fun e w' => e = .returned (.int .i64 (Lib.idxOfS (zs.take n) x)) ∧ w' = w := Any.slices_Index_string Tryz.lays109 b off n c zs x w hz hbig hc
def Tryz.laysNm216_ren : Go.Shelf.Ren := ⟨fun | 16 => 54 | n => n, fun | 24 => 38 | 9 => 9 | 4 => 4 | n => n, fun | n => n⟩
theorem Tryz.laysNm216 : Go.Proofs.Lays2.n16 Tryz.prog Tryz.laysNm216_ren := {
  mixed := by kernel_rfl
  f16 := Tryz.func54.trans (congrArg some (by kernel_rfl))
  t4 := Tryz.underlying4
  a4 := Tryz.isAgg4
  z4 := Tryz.sizeOf4
  v4 := Tryz.zeroValue4
  t9 := Tryz.underlying9
  a9 := Tryz.isAgg9
  z9 := Tryz.sizeOf9
  v9 := Tryz.zeroValue9
  t24 := Tryz.underlying38
  a24 := Tryz.isAgg38
  z24 := Tryz.sizeOf38
  v24 := Tryz.zeroValue38
  i9 := by kernel_rfl }
open Go.RowKit Go.Lib in
/-- slices.Clone at []string: "Clone returns a copy of the slice. The elements are copied using assignment, so this is a shallow clone. The result may have additional unused capacity. The result preserves the nilness of s.": OF A SLICE THAT IS NOT nil IT RETURNS A SLICE THAT IS NOT nil, OF THE SAME ELEMENTS, IN MEMORY OF THE CALL's OWN: in the how-to's words (6f): 'w'.ownsRow B e 1 v' n cells': v' begins at the head of a row among the blocks from B on (B: the heap's size at the call), not frozen, whose first cells are the elements · 'Below B w w'': below B all is as it was. The capacity is whatever the run-time gives. 'zs': what the cells behind the slice's address hold; 'zs.take n': its elements. (LAID: no walk: one application.) -/
theorem Tryz.slices_Clone_string (b off n c : Nat) (zs : List ByteArray) (w : World) (hz : n ≤ zs.length) (hbig : n * 16 ≤ 140737488355328) (hc : ∀ j, j < zs.length → w.cell? ⟨b, off + j, none⟩ = some (.string (zs.getD j ByteArray.empty))) :
    Calls Tryz.prog 54 #[.slice (some ⟨b, off, none⟩) n c] w fun e w' => ∃ v', e = .returned v' ∧ w'.ownsRow w.heap.size 9 1 v' n ((zs.take n).map (Value.string)) ∧ v' ≠ .slice none 0 0 ∧ Below w.heap.size w w' := Any.slices_Clone_string Tryz.laysNm216 b off n c zs w hz hbig hc
end Go.Proofs
namespace Go.Proofs.YtolmkdhgnganaaaGreatDoor.Sp
/-- Is it a digit? -/
def isDig (c : UInt8) : Bool := 48 ≤ c && c ≤ 57
/-- The ten digits. -/
def digs : ByteArray := ⟨#[48, 49, 50, 51, 52, 53, 54, 55, 56, 57]⟩
/-- strings.Trim(s, "0123456789"). -/
def trimD (s : ByteArray) : ByteArray := ⟨(Lib.trimS s.data.toList digs.data.toList).toArray⟩
/-- The space that a letter names, or -1. -/
def spaceOf (c : UInt8) : Int := if c = 73 then 0 else if c = 81 then 1 else if c = 77 then 2 else -1
/-- The width of a space. -/
def widthOf (i q m sp : Int) : Int := if sp = 0 then i else if sp = 1 then q else if sp = 2 then m else 0
/-- CheckAddr. -/
def chkAddr (i q m sp n : Int) : Int := if sp < 0 ∨ 2 < sp then 8 else if n < 0 ∨ widthOf i q m sp ≤ n then 3 else 0
/-- A digit's value. -/
def dv (c : UInt8) : Nat := c.toNat - 48
attribute [irreducible] dv
/-- The value of n's digits and those of a list behind them. -/
def digFrom (n : Nat) : List UInt8 → Nat
  | [] => n
  | c :: r => digFrom (10 * n + dv c) r
/-- The value of a list of digits. -/
def digNat (d : List UInt8) : Nat := digFrom 0 d
/-- A decimal numeral: digits, no zero ahead of others. -/
def numSyn (d : List UInt8) : Bool := !d.isEmpty && d.all isDig && !(decide (1 < d.length) && d.head? == some 48)
/-- A numeral of at most 'most': its value and no error; 6: no numeral; 3: too great. -/
def numParse (d : List UInt8) (most : Nat) : Int × Int := if numSyn d = true then (if digNat d ≤ most then ((digNat d : Int), 0) else (0, 3)) else (0, 6)
/-- Parse: space, number, error. -/
def addrParse (l : List UInt8) : Int × Int × Int :=
  match l with
  | [] => (0, 0, 6)
  | c :: d => if spaceOf c < 0 then (0, 0, 6) else if (numParse d 255).2 = 0 then (spaceOf c, (numParse d 255).1, 0) else (0, 0, (numParse d 255).2)
theorem toList_data (s : ByteArray) : s.toList = s.data.toList := ByteArray.toList_eq s
theorem toList_nil_iff (s : ByteArray) : s.toList = [] ↔ s.size = 0 := by
  rw [toList_data, ← List.length_eq_zero_iff, Array.length_toList]; exact Iff.rfl
theorem toList_isEmpty (s : ByteArray) : s.toList.isEmpty = decide (s.size = 0) := by
  rw [Bool.eq_iff_iff, List.isEmpty_iff, toList_nil_iff, decide_eq_true_iff]
theorem size_data (s : ByteArray) : s.data.toList.length = s.size := by rw [Array.length_toList]; rfl
theorem bytes_ext {a b : ByteArray} (h : a.data.toList = b.data.toList) : a = b := ByteArray.ext (Array.toList_inj.mp h)
theorem digs_contains (c : UInt8) : digs.data.toList.contains c = isDig c := by
  have h : ∀ n : Fin 256, digs.data.toList.contains (UInt8.ofNat n.val) = isDig (UInt8.ofNat n.val) := by decide +kernel
  have := h ⟨c.toNat, c.toNat_lt⟩
  simpa using this
theorem dropWhile_nil {p : UInt8 → Bool} (l : List UInt8) : l.dropWhile p = [] ↔ l.all p = true := by
  induction l with
  | nil => simp
  | cons a t ih =>
    rw [List.dropWhile_cons]
    by_cases h : p a = true
    · simp [h, ih]
    · simp [h]
/-- Nothing is left of a string that holds digits alone, and of no other. -/
theorem trimD_nil (s : ByteArray) : (trimD s).toList = [] ↔ s.data.toList.all isDig = true := by
  have e : (fun c => digs.data.toList.contains c) = isDig := funext digs_contains
  have h0 : (trimD s).toList = (s.data.toList.reverse.dropWhile isDig).reverse.dropWhile isDig := by
    rw [toList_data]
    simp only [trimD, Lib.trimS, Lib.trimLeftS, Lib.trimRightS]
    rw [e]
  rw [h0, dropWhile_nil]
  constructor
  · intro h
    have h1 : s.data.toList.reverse.dropWhile isDig = [] := by
      cases hd : s.data.toList.reverse.dropWhile isDig with
      | nil => rfl
      | cons a t =>
        exfalso
        have ha : isDig a = true := by
          rw [hd] at h
          exact List.all_eq_true.1 h a (by simp)
        have hb : ∀ l : List UInt8, l.dropWhile isDig = a :: t → isDig a = false := by
          intro l
          induction l with
          | nil => intro hh; simp at hh
          | cons b r ih =>
            intro hh
            rw [List.dropWhile_cons] at hh
            by_cases hbd : isDig b = true
            · rw [if_pos hbd] at hh; exact ih hh
            · rw [if_neg hbd] at hh
              injection hh with hh _
              subst hh
              simpa using hbd
        rw [hb _ hd] at ha
        cases ha
    have h2 := (dropWhile_nil _).1 h1
    rw [List.all_reverse] at h2
    exact h2
  · intro h
    have h1 : s.data.toList.reverse.dropWhile isDig = [] := (dropWhile_nil _).2 (by rw [List.all_reverse]; exact h)
    rw [h1]
    rfl
theorem isDig_iff (c : UInt8) : isDig c = true ↔ 48 ≤ c.toNat ∧ c.toNat ≤ 57 := by
  simp [isDig, UInt8.le_iff_toNat_le]
theorem dv_eq (c : UInt8) : dv c = c.toNat - 48 := by unfold dv; rfl
theorem digFrom_nil (n : Nat) : digFrom n [] = n := rfl
theorem digFrom_cons (n : Nat) (c : UInt8) (r : List UInt8) : digFrom n (c :: r) = digFrom (10 * n + dv c) r := rfl
theorem digFrom_mono (d : List UInt8) : ∀ n, n ≤ digFrom n d := by
  induction d with
  | nil =>
    intro n
    rw [digFrom_nil]
    exact Nat.le_refl _
  | cons c r ih =>
    intro n
    rw [digFrom_cons]
    have := ih (10 * n + dv c)
    omega
theorem pu_step (acc : Nat) (c : UInt8) (r : List UInt8) (hc : 48 ≤ c.toNat ∧ c.toNat ≤ 57) : Lib.parseUint10 acc (c :: r) = if 1844674407370955162 ≤ acc then .range else if 18446744073709551616 ≤ 10 * acc + dv c then .range else Lib.parseUint10 (10 * acc + dv c) r := by
  have e : acc * 10 + (c.toNat - 48) = 10 * acc + dv c := by rw [dv_eq]; omega
  rw [Lib.parseUint10, if_pos hc, e]
theorem parseUint_dig (U : Nat) (hU : U = 18446744073709551616) (d : List UInt8) : ∀ acc, acc < U → d.all isDig = true →
    (digFrom acc d < U → Lib.parseUint10 acc d = .ok (digFrom acc d)) ∧ (¬ digFrom acc d < U → Lib.parseUint10 acc d = .range) := by
  induction d with
  | nil =>
    intro acc ha _
    rw [digFrom_nil]
    exact ⟨fun _ => rfl, fun h => absurd ha h⟩
  | cons c r ih =>
    intro acc ha h
    simp only [List.all_cons, Bool.and_eq_true] at h
    have hc := (isDig_iff c).1 h.1
    rw [digFrom_cons, pu_step acc c r hc]
    have hm := digFrom_mono r (10 * acc + dv c)
    by_cases h1 : 1844674407370955162 ≤ acc
    · rw [if_pos h1]
      exact ⟨fun hh => by omega, fun _ => rfl⟩
    · rw [if_neg h1]
      by_cases h2 : 18446744073709551616 ≤ 10 * acc + dv c
      · rw [if_pos h2]
        exact ⟨fun hh => by omega, fun _ => rfl⟩
      · rw [if_neg h2]
        exact ih _ (by omega) h.2
/-- strconv.Atoi of digits alone: the value, or out of range. -/
theorem atoi_dig (d : List UInt8) (h0 : d ≠ []) (h : d.all isDig = true) : (digNat d < 9223372036854775808 → Lib.atoiAll d = .ok (digNat d : Int)) ∧ (¬ digNat d < 9223372036854775808 → Lib.atoiAll d = .range) := by
  cases d with
  | nil => exact absurd rfl h0
  | cons c r =>
    have hc : 48 ≤ c.toNat ∧ c.toNat ≤ 57 := by
      simp only [List.all_cons, Bool.and_eq_true] at h
      exact (isDig_iff c).1 h.1
    have hp := parseUint_dig _ rfl (c :: r) 0 (by omega) h
    have hg : digFrom 0 (c :: r) = digNat (c :: r) := rfl
    rw [hg] at hp
    generalize digNat (c :: r) = v at *
    have hs : Lib.parseMag (c :: r) = Lib.parseUint10 0 (c :: r) := by unfold Lib.parseMag; rw [if_neg (by simp)]
    rw [Lib.atoiAll_plain c r (by omega) (by omega), hs]
    by_cases h1 : v < 18446744073709551616
    · rw [hp.1 h1]
      simp only [Lib.signless]
      by_cases h2 : v < 9223372036854775808
      · rw [if_neg (by omega)]
        exact ⟨fun _ => rfl, fun hh => absurd h2 hh⟩
      · rw [if_pos (by omega)]
        exact ⟨fun hh => absurd hh h2, fun _ => rfl⟩
    · rw [hp.2 h1]
      exact ⟨fun hh => by omega, fun _ => rfl⟩
theorem spaceOf_cases (c : UInt8) : (c = 73 ∧ spaceOf c = 0) ∨ (c = 81 ∧ spaceOf c = 1) ∨ (c = 77 ∧ spaceOf c = 2) ∨ (c ≠ 73 ∧ c ≠ 81 ∧ c ≠ 77 ∧ spaceOf c = -1) := by
  unfold spaceOf
  by_cases h1 : c = 73
  · exact .inl ⟨h1, by simp [h1]⟩
  · by_cases h2 : c = 81
    · exact .inr (.inl ⟨h2, by simp [h2]⟩)
    · by_cases h3 : c = 77
      · exact .inr (.inr (.inl ⟨h3, by simp [h3]⟩))
      · exact .inr (.inr (.inr ⟨h1, h2, h3, by simp [h1, h2, h3]⟩))
theorem extract_first (t : ByteArray) (h : 0 < t.size) : t.extract 0 1 = ⟨#[t[0]]⟩ := by
  apply bytes_ext
  have h2 : 0 < t.data.toList.length := by rw [size_data]; exact h
  simp only [ByteArray.data_extract, Array.toList_extract]
  cases hl : t.data.toList with
  | nil => rw [hl] at h2; simp at h2
  | cons a r =>
    have : t[0] = a := by
      have h3 : t[0] = t.data.toList[0] := rfl
      rw [h3]; simp only [hl]; rfl
    simp [this, List.extract]
theorem idx_space (t : ByteArray) (h : 0 < t.size) : Lib.idxOfS (([⟨#[73]⟩, ⟨#[81]⟩, ⟨#[77]⟩] : List ByteArray).take 3) (t.extract 0 1) = spaceOf t[0] := by
  rw [extract_first t h]
  have e : ∀ a b : UInt8, ((⟨#[a]⟩ : ByteArray) = ⟨#[b]⟩) ↔ a = b := fun a b => ⟨fun h => by injection h with h; simpa using h, fun h => by rw [h]⟩
  simp only [Lib.idxOfS, Lib.idxFromS, List.take, e]
  rcases spaceOf_cases t[0] with ⟨h1, h2⟩ | ⟨h1, h2⟩ | ⟨h1, h2⟩ | ⟨h1, h2, h3, h4⟩
  · rw [h2]; simp [h1]
  · rw [h2]; simp [h1]
  · rw [h2]; simp [h1]
  · rw [h4]; simp [Ne.symm h1, Ne.symm h2, Ne.symm h3]
theorem extract_tail (t : ByteArray) : (t.extract 1 t.size).data.toList = t.data.toList.tail := by
  simp [ByteArray.data_extract, Array.toList_extract, List.extract]
  have : t.size - 1 = (t.data.toList.drop 1).length := by rw [List.length_drop, size_data]
  rw [this, ← List.drop_one, List.take_length]
theorem data_cons (t : ByteArray) (h : 0 < t.size) : t.data.toList = t[0] :: (t.extract 1 t.size).data.toList := by
  rw [extract_tail]
  have h2 : 0 < t.data.toList.length := by rw [size_data]; exact h
  cases hl : t.data.toList with
  | nil => rw [hl] at h2; simp at h2
  | cons a r =>
    have : t[0] = a := by
      have h3 : t[0] = t.data.toList[0] := rfl
      rw [h3]; simp only [hl]; rfl
    rw [this]
    rfl
end Go.Proofs.YtolmkdhgnganaaaGreatDoor.Sp
namespace Go.Proofs.YtolmkdhgnganaaaGreatDoor.H
open Go Go.RowKit Go.Proofs Go.Proofs.YtolmkdhgnganaaaGreatDoorW.PrintWords Go.Proofs.YtolmkdhgnganaaaGreatDoor.Sp
/-- It returns v; nothing that was there has changed. -/
def RetB (w : World) (v : Value) (e : Ending) (w' : World) : Prop := e = .returned v ∧ Below w.heap.size w w'
/-- The letters' cells. -/
structure Lets (w : World) : Prop where
  l0 : w.cell? ⟨2, 0, none⟩ = some (.string ⟨#[73]⟩)
  l1 : w.cell? ⟨2, 1, none⟩ = some (.string ⟨#[81]⟩)
  l2 : w.cell? ⟨2, 2, none⟩ = some (.string ⟨#[77]⟩)
theorem Lets.below {w w' : World} (h : Lets w) (hb : Below w.heap.size w w') : Lets w' := ⟨pw_cell_below hb h.l0, pw_cell_below hb h.l1, pw_cell_below hb h.l2⟩
/-- A variable that was there holds what it held. -/
theorem var_below {P : Program} {w w' : World} {name : String} {cs : Array Value} (h : w.var? P name = some cs) (hb : Below w.heap.size w w') : w'.var? P name = some cs := by
  unfold World.var? at *
  cases hg : P.globalNamed name with
  | none => rw [hg] at h; simp at h
  | some g =>
    rw [hg] at h
    simp only [Option.bind_some] at h ⊢
    cases hh : w.heap[g]? with
    | none => rw [hh] at h; simp at h
    | some o => rw [hb.block g (Array.getElem?_eq_some_iff.1 hh).1, hh]; rw [hh] at h; exact h
/-- strconv's table of powers of ten. -/
structure Pows (w : World) : Prop where
  p : Lib.TabIs Tryz.prog w "internal/strconv.uint64pow10" .u64 Lib.pow10Tab
theorem Pows.below {w w' : World} (h : Pows w) (hb : Below w.heap.size w w') : Pows w' := ⟨var_below h.p hb⟩
/-- strconv's two errors are not nil. -/
structure Errs (w : World) : Prop where
  syn : ∃ t p, w.var? Tryz.prog "strconv.ErrSyntax" = some #[.iface t p]
  rng : ∃ t p, w.var? Tryz.prog "strconv.ErrRange" = some #[.iface t p]
theorem Errs.below {w w' : World} (h : Errs w) (hb : Below w.heap.size w w') : Errs w' := by
  obtain ⟨⟨t, p, h1⟩, ⟨t2, p2, h2⟩⟩ := h
  exact ⟨⟨t, p, var_below h1 hb⟩, ⟨t2, p2, var_below h2 hb⟩⟩
theorem trim_b (s : ByteArray) (w : World) (hs : s.size ≤ 9223372036854775807) :
    Calls Tryz.prog 117 #[.string s, .string ⟨#[48, 49, 50, 51, 52, 53, 54, 55, 56, 57]⟩] w (RetB w (.string (trimD s))) :=
  Any.strings_Trim_laid Tryz.lays160 (by kernel_rfl) s digs w hs (by decide) (ascii_of_all (by decide))
/-- Behind '[]byte(s)' too nothing that was there has changed. -/
theorem below_bytes (w : World) (e : TypeId) (t : ByteArray) : Below w.heap.size w (Lib.bytesWorld w e t) := bytes_below (Below.refl _ _) (Nat.le_refl _) _ _
theorem atoi_ok (s : ByteArray) (hs : s.size ≤ 140737488355328) (v : Int) (h : Lib.atoiAll s.data.toList = .ok v) (w : World) :
    Calls Tryz.prog 118 #[.string s] w (RetB w (.tuple #[.int .i64 v, .nilIface])) := by
  refine (Tryz.strconv_Atoi_ok s (by omega) v h w).mono ?_
  rintro e w' ⟨rfl, h | ⟨t, rfl⟩⟩
  · rw [h]
    exact ⟨rfl, Below.refl _ _⟩
  · exact ⟨rfl, below_bytes _ _ _⟩
/-- An error that is not nil, and the number v. -/
def ErrB (w : World) (v : Int) (e : Ending) (w' : World) : Prop := ∃ t p, e = .returned (.tuple #[.int .i64 v, .iface t p]) ∧ Below w.heap.size w w'
theorem atoi_range (s : ByteArray) (hs : s.size ≤ 140737488355328) (h : Lib.atoiAll s.data.toList = .range) (w : World) (he : Errs w) :
    Calls Tryz.prog 118 #[.string s] w (ErrB w (Lib.atoiSat s.data.toList)) := by
  obtain ⟨t, p, hv⟩ := he.rng
  refine (Tryz.strconv_Atoi_range_var s (by omega) h t p w hv).mono ?_
  rintro e w' ⟨N, rfl, _, _, hb⟩
  exact ⟨_, _, rfl, hb⟩
set_option maxHeartbeats 1000000 in
theorem width_b (i q m e sp : Int) (w : World) :
   Calls Tryz.prog 121 #[.agg #[.int .i64 i, .int .i64 q, .int .i64 m, .int .i64 e], .int .i64 sp] w (RetB w (.int .i64 (widthOf i q m sp))) := by
  by_cases h0 : sp = 0
  · subst h0
    go_enter Tryz.func121, Tryz.ntmps121
    go_wp2
    go_ret
    exact ⟨rfl, below_alloc (Below.refl _ _) _⟩
  · by_cases h1 : sp = 1
    · subst h1
      go_enter Tryz.func121, Tryz.ntmps121
      go_wp2
      go_ret
      exact ⟨rfl, below_alloc (Below.refl _ _) _⟩
    · by_cases h2 : sp = 2
      · subst h2
        go_enter Tryz.func121, Tryz.ntmps121
        go_wp2
        go_ret
        exact ⟨rfl, below_alloc (Below.refl _ _) _⟩
      · have e0 : widthOf i q m sp = 0 := by simp [widthOf, h0, h1, h2]
        rw [e0]
        clear e0
        go_enter Tryz.func121, Tryz.ntmps121
        go_wp2
        go_ret
        exact ⟨rfl, below_alloc (Below.refl _ _) _⟩
set_option maxHeartbeats 1000000 in
theorem chk_b (i q m e sp n : Int) (w : World) :
   Calls Tryz.prog 99 #[.agg #[.int .i64 i, .int .i64 q, .int .i64 m, .int .i64 e], .agg #[.int .i64 sp, .int .i64 n]] w (RetB w (.int .i64 (chkAddr i q m sp n))) := by
  by_cases h0 : sp < 0
  · have e0 : chkAddr i q m sp n = 8 := by simp [chkAddr, h0]
    rw [e0]
    clear e0
    have h0' : ¬ (0 ≤ sp) := by omega
    go_enter Tryz.func99, Tryz.ntmps99
    go_wp2
    go_ret
    exact ⟨rfl, below_alloc (below_alloc (Below.refl _ _) _) _⟩
  · by_cases h2 : sp ≤ 2
    · have h0' : 0 ≤ sp := by omega
      by_cases h3 : n < 0
      · have e0 : chkAddr i q m sp n = 3 := by simp [chkAddr, h0, h3]; omega
        rw [e0]
        clear e0
        have d3 : decide (n < 0) = true := by simpa using h3
        go_enter Tryz.func99, Tryz.ntmps99
        go_wp2
        go_quiet (fail)
        go_wp2
        go_ret
        exact ⟨rfl, pw_below_drewN (below_alloc (below_alloc (Below.refl _ _) _) _) _⟩
      · have d3 : decide (n < 0) = false := by simpa using h3
        by_cases h4 : widthOf i q m sp ≤ n
        · have e0 : chkAddr i q m sp n = 3 := by simp [chkAddr, h0, h3, h4]; omega
          rw [e0]
          clear e0
          go_enter Tryz.func99, Tryz.ntmps99
          go_wp2
          go_region_held3 (fun w' => w'.cell? ⟨w.heap.size, 0, none⟩ = some (.int .i64 i) ∧ w'.cell? ⟨w.heap.size, 1, none⟩ = some (.int .i64 q) ∧ w'.cell? ⟨w.heap.size, 2, none⟩ = some (.int .i64 m) ∧ w'.cell? ⟨w.heap.size, 3, none⟩ = some (.int .i64 e) ∧ w'.cell? ⟨w.heap.size + 1, 0, none⟩ = some (.int .i64 sp) ∧ w'.cell? ⟨w.heap.size + 1, 1, none⟩ = some (.int .i64 n))
            (first | go_keep | (refine ⟨pw_cell_below hb ?_, pw_cell_below hb ?_, pw_cell_below hb ?_, pw_cell_below hb ?_, pw_cell_below hb ?_, pw_cell_below hb ?_⟩ <;> go_keep))
            (first | (go_at_call 121; (with_reducible refine (width_b i q m e sp _).mono ?_); rintro e_ w1 ⟨rfl, hb⟩))
          go_wp2
          go_ret
          exact ⟨rfl, below_step (below_drew (below_alloc (below_alloc (Below.refl _ _) _) _)) hb⟩
        · have e0 : chkAddr i q m sp n = 0 := by simp [chkAddr, h0, h3, h4]; omega
          rw [e0]
          clear e0
          go_enter Tryz.func99, Tryz.ntmps99
          go_wp2
          go_region_held3 (fun w' => w'.cell? ⟨w.heap.size, 0, none⟩ = some (.int .i64 i) ∧ w'.cell? ⟨w.heap.size, 1, none⟩ = some (.int .i64 q) ∧ w'.cell? ⟨w.heap.size, 2, none⟩ = some (.int .i64 m) ∧ w'.cell? ⟨w.heap.size, 3, none⟩ = some (.int .i64 e) ∧ w'.cell? ⟨w.heap.size + 1, 0, none⟩ = some (.int .i64 sp) ∧ w'.cell? ⟨w.heap.size + 1, 1, none⟩ = some (.int .i64 n))
            (first | go_keep | (refine ⟨pw_cell_below hb ?_, pw_cell_below hb ?_, pw_cell_below hb ?_, pw_cell_below hb ?_, pw_cell_below hb ?_, pw_cell_below hb ?_⟩ <;> go_keep))
            (first | (go_at_call 121; (with_reducible refine (width_b i q m e sp _).mono ?_); rintro e_ w1 ⟨rfl, hb⟩))
          go_wp2
          go_ret
          exact ⟨rfl, below_step (below_drew (below_alloc (below_alloc (Below.refl _ _) _) _)) hb⟩
    · have e0 : chkAddr i q m sp n = 8 := by simp [chkAddr]; omega
      rw [e0]
      clear e0
      have h0' : 0 ≤ sp := by omega
      go_enter Tryz.func99, Tryz.ntmps99
      go_wp2
      go_ret
      exact ⟨rfl, below_alloc (below_alloc (Below.refl _ _) _) _⟩
theorem idx_c (t : ByteArray) (h : 0 < t.size) (w : World) (hl : Lets w) :
   Calls Tryz.prog 97 #[.slice (some ⟨2, 0, none⟩) 3 3, .string (t.extract 0 1)] w fun e w' => e = .returned (.int .i64 (spaceOf t[0])) ∧ w' = w := by
  rw [← idx_space t h]
  refine Tryz.slices_Index_string 2 0 3 3 [⟨#[73]⟩, ⟨#[81]⟩, ⟨#[77]⟩] _ _ (by decide) (by decide) ?_
  intro j hj
  match j, hj with
  | 0, _ => exact hl.l0
  | 1, _ => exact hl.l1
  | 2, _ => exact hl.l2
/-- What Parse returns. -/
def prsV (s n e : Int) : Value := .tuple #[.agg #[.int .i64 s, .int .i64 n], .int .i64 e]
set_option maxHeartbeats 1000000 in
theorem prs_empty (w : World) : Calls Tryz.prog 119 #[.string ⟨#[]⟩] w (RetB w (prsV 0 0 6)) := by
  go_enter Tryz.func119, Tryz.ntmps119
  go_wp2
  exact bodyPost_ret (v := prsV 0 0 6) (by simp [results, Tryz.results119, go_sem, prsV]) rfl ⟨rfl, (Below.refl _ _).alloc (Nat.le_refl _) _⟩
set_option maxHeartbeats 1000000 in
theorem prs_bad1 (t D : ByteArray) (w : World) (ht : t.size ≤ 140737488355328) (h0 : 0 < t.size) (hD : t.extract 1 t.size = D) (hb : spaceOf t[0] < 0) (a2 : t.toList.isEmpty = false)
   (hl : Lets w) : Calls Tryz.prog 119 #[.string t] w (RetB w (prsV 0 0 6)) := by
  have a1 : (1 : Int) ≤ (t.size : Int) := by omega
  have HD := Aside0.mk hD
  clear hD
  go_enter Tryz.func119, Tryz.ntmps119
  go_wp2
  go_quiet ((go_at_call 97; exact Calls.quiet_of_same (idx_c t h0 _ (hl.below (pw_below_drewN (below_alloc (Below.refl _ _) _) _)))))
  rw [HD.out]
  go_wp2
  exact bodyPost_ret (v := prsV 0 0 6) (by simp [results, Tryz.results119, go_sem, prsV]) rfl ⟨rfl, below_set (below_set (pw_below_drewN (below_alloc (Below.refl _ _) _) _) (Nat.le_refl _)) (Nat.le_refl _)⟩
set_option maxHeartbeats 1000000 in
theorem prs_bad2 (t D : ByteArray) (w : World) (ht : t.size ≤ 140737488355328) (h0 : 0 < t.size) (hD : t.extract 1 t.size = D) (hb : 0 ≤ spaceOf t[0]) (a2 : t.toList.isEmpty = false)
   (hl : Lets w) (d1 : D.toList = []) (d2 : D.toList.isEmpty = true) : Calls Tryz.prog 119 #[.string t] w (RetB w (prsV 0 0 6)) := by
  have a1 : (1 : Int) ≤ (t.size : Int) := by omega
  have HD := Aside0.mk hD
  have H1 := Aside0.mk d1
  have H2 := Aside0.mk d2
  clear hD d1 d2
  go_enter Tryz.func119, Tryz.ntmps119
  go_wp2
  go_quiet ((go_at_call 97; exact Calls.quiet_of_same (idx_c t h0 _ (hl.below (pw_below_drewN (below_alloc (Below.refl _ _) _) _)))))
  rw [HD.out]
  have d1 := H1.out
  have d2 := H2.out
  go_wp2
  exact bodyPost_ret (v := prsV 0 0 6) (by simp [results, Tryz.results119, go_sem, prsV]) rfl ⟨rfl, below_set (below_set (pw_below_drewN (below_alloc (Below.refl _ _) _) _) (Nat.le_refl _)) (Nat.le_refl _)⟩
/-- What is known of the result's cell behind a call. -/
theorem res_cell {w w1 : World} {cs : Array Value} {t nq : Nat} (hb : Below ((w.alloc (.cells cs t)).drewN nq).heap.size ((w.alloc (.cells cs t)).drewN nq) w1) :
    (∀ i, w1.cell? ⟨w.heap.size, i, none⟩ = cs[i]?) ∧ (∀ i, w1.frozen? ⟨w.heap.size, i, none⟩ = false) ∧ Below w.heap.size w w1 :=
  have hk := blk_below (blk_drewN (blk_new w (.cells cs t)) nq) hb
  ⟨blk_cell hk, blk_frozen hk, below_step (pw_below_drewN (below_alloc (Below.refl _ w) _) _) hb⟩
set_option maxHeartbeats 1000000 in
theorem prs_bad3 (t D : ByteArray) (w : World) (ht : t.size ≤ 140737488355328) (h0 : 0 < t.size) (hD : t.extract 1 t.size = D) (hb : 0 ≤ spaceOf t[0]) (a2 : t.toList.isEmpty = false)
   (hl : Lets w) (hDs : D.size ≤ 140737488355328) (d1 : ¬ D.toList = []) (d2 : D.toList.isEmpty = false) (e2 : (trimD D).toList.isEmpty = false) : Calls Tryz.prog 119 #[.string t] w (RetB w (prsV 0 0 6)) := by
  have a1 : (1 : Int) ≤ (t.size : Int) := by omega
  have HD := Aside0.mk hD
  have H1 := Aside0.mk d1
  have H2 := Aside0.mk d2
  clear hD d1 d2
  go_enter Tryz.func119, Tryz.ntmps119
  go_wp2
  go_quiet ((go_at_call 97; exact Calls.quiet_of_same (idx_c t h0 _ (hl.below (pw_below_drewN (below_alloc (Below.refl _ _) _) _)))))
  rw [HD.out]
  have d1 := H1.out
  have d2 := H2.out
  go_wp2_with (first | (go_at_call 117; (with_reducible refine (trim_b D _ (by omega)).mono ?_); rintro e w1 ⟨rfl, hb1⟩; have hr := res_cell hb1; have q0 := hr.1 0; have q1 := hr.1 1; have f0 := hr.2.1 0; have f1 := hr.2.1 1; have hz := hr.2.2; clear hr hb1; simp only [List.getElem?_toArray, List.getElem?_cons_zero, List.getElem?_cons_succ] at q0 q1))
  exact bodyPost_ret (v := prsV 0 0 6) (by simp [results, Tryz.results119, go_sem, prsV, q0, q1]) rfl ⟨rfl, below_set (below_set hz (Nat.le_refl _)) (Nat.le_refl _)⟩
set_option maxHeartbeats 1000000 in
theorem prs_bad4 (t D : ByteArray) (w : World) (ht : t.size ≤ 140737488355328) (h0 : 0 < t.size) (hD : t.extract 1 t.size = D) (hb : 0 ≤ spaceOf t[0]) (a2 : t.toList.isEmpty = false)
   (hl : Lets w) (hDs : D.size ≤ 140737488355328) (d1 : ¬ D.toList = []) (d2 : D.toList.isEmpty = false) (e1 : (trimD D).toList = []) (e2 : (trimD D).toList.isEmpty = true)
   (z0 : 0 < D.size) (z1 : (1 : Int) < (D.size : Int)) (z2 : D[0].toNat = 48) : Calls Tryz.prog 119 #[.string t] w (RetB w (prsV 0 0 6)) := by
  have a1 : (1 : Int) ≤ (t.size : Int) := by omega
  have HD := Aside0.mk hD
  have H1 := Aside0.mk d1
  have H2 := Aside0.mk d2
  have H3 := Aside0.mk z2
  clear hD d1 d2 z2
  go_enter Tryz.func119, Tryz.ntmps119
  go_wp2
  go_quiet ((go_at_call 97; exact Calls.quiet_of_same (idx_c t h0 _ (hl.below (pw_below_drewN (below_alloc (Below.refl _ _) _) _)))))
  rw [HD.out]
  have d1 := H1.out
  have d2 := H2.out
  have z3 : ((D[0].toNat : Int) == 48) = true := by rw [H3.out]; rfl
  go_wp2_with (first | (go_at_call 117; (with_reducible refine (trim_b D _ (by omega)).mono ?_); rintro e w1 ⟨rfl, hb1⟩; have hr := res_cell hb1; have q0 := hr.1 0; have q1 := hr.1 1; have f0 := hr.2.1 0; have f1 := hr.2.1 1; have hz := hr.2.2; clear hr hb1; simp only [List.getElem?_toArray, List.getElem?_cons_zero, List.getElem?_cons_succ] at q0 q1))
  exact bodyPost_ret (v := prsV 0 0 6) (by simp [results, Tryz.results119, go_sem, prsV, q0, q1]) rfl ⟨rfl, below_set (below_set hz (Nat.le_refl _)) (Nat.le_refl _)⟩
set_option maxHeartbeats 2000000 in
theorem prs_range (t D : ByteArray) (w : World) (ht : t.size ≤ 140737488355328) (h0 : 0 < t.size) (hD : t.extract 1 t.size = D) (hb : 0 ≤ spaceOf t[0]) (a2 : t.toList.isEmpty = false)
   (hl : Lets w) (he : Errs w) (hDs : D.size ≤ 140737488355328) (d1 : ¬ D.toList = []) (d2 : D.toList.isEmpty = false) (e1 : (trimD D).toList = []) (e2 : (trimD D).toList.isEmpty = true)
   (z0 : 0 < D.size) (z : ¬ (1 : Int) < (D.size : Int) ∨ ((1 : Int) < (D.size : Int) ∧ ((D[0].toNat : Int) == 48) = false)) (hA : Lib.atoiAll D.data.toList = .range) : Calls Tryz.prog 119 #[.string t] w (RetB w (prsV 0 0 3)) := by
  have a1 : (1 : Int) ≤ (t.size : Int) := by omega
  have HD := Aside0.mk hD
  have H1 := Aside0.mk d1
  have H2 := Aside0.mk d2
  have HA := Aside0.mk hA
  clear hD d1 d2 hA
  rcases z with z1 | ⟨z1, z3⟩
  all_goals
    go_enter Tryz.func119, Tryz.ntmps119
    go_wp2
    go_quiet ((go_at_call 97; exact Calls.quiet_of_same (idx_c t h0 _ (hl.below (pw_below_drewN (below_alloc (Below.refl _ _) _) _)))))
    rw [HD.out]
    have d1 := H1.out
    have d2 := H2.out
    go_wp2_with (first | (go_at_call 117; (with_reducible refine (trim_b D _ (by omega)).mono ?_); rintro e w1 ⟨rfl, hb1⟩; have hr := res_cell hb1; have q0 := hr.1 0; have q1 := hr.1 1; have f0 := hr.2.1 0; have f1 := hr.2.1 1; have hz := hr.2.2; clear hr hb1; simp only [List.getElem?_toArray, List.getElem?_cons_zero, List.getElem?_cons_succ] at q0 q1) | (go_at_call 118; (with_reducible refine (atoi_range D hDs HA.out _ (by exact he.below hz)).mono ?_); rintro e w2 ⟨tt, pp, rfl, hb2⟩; have hz2 := below_step hz hb2; have g0 := pw_cell_below hb2 q0; have g1 := pw_cell_below hb2 q1; have lt1 := World.block_lt_of_cell? _ _ q0; have k0 := (hb2.frozen (p := ⟨w.heap.size, 0, none⟩) lt1).trans f0; have k1 := (hb2.frozen (p := ⟨w.heap.size, 1, none⟩) lt1).trans f1; clear hb2 q0 q1 f0 f1 lt1 hz))
    exact bodyPost_ret (v := prsV 0 0 3) (by simp [results, Tryz.results119, go_sem, prsV, g0, g1]) rfl ⟨rfl, below_set (below_set hz2 (Nat.le_refl _)) (Nat.le_refl _)⟩
set_option maxHeartbeats 2000000 in
theorem prs_num (t D : ByteArray) (w : World) (ht : t.size ≤ 140737488355328) (h0 : 0 < t.size) (hD : t.extract 1 t.size = D) (hb : 0 ≤ spaceOf t[0]) (a2 : t.toList.isEmpty = false)
   (hl : Lets w) (hDs : D.size ≤ 140737488355328) (d1 : ¬ D.toList = []) (d2 : D.toList.isEmpty = false) (e1 : (trimD D).toList = []) (e2 : (trimD D).toList.isEmpty = true)
   (z0 : 0 < D.size) (z : ¬ (1 : Int) < (D.size : Int) ∨ ((1 : Int) < (D.size : Int) ∧ ((D[0].toNat : Int) == 48) = false)) (v : Int) (hA : Lib.atoiAll D.data.toList = .ok v) (r : Value) (hr : (256 ≤ v ∧ r = prsV 0 0 3) ∨ (v < 256 ∧ r = prsV (spaceOf t[0]) v 0)) : Calls Tryz.prog 119 #[.string t] w (RetB w r) := by
  have a1 : (1 : Int) ≤ (t.size : Int) := by omega
  have HD := Aside0.mk hD
  have H1 := Aside0.mk d1
  have H2 := Aside0.mk d2
  have HA := Aside0.mk hA
  clear hD d1 d2 hA
  rcases hr with ⟨hv, rfl⟩ | ⟨hv, rfl⟩
  · rcases z with z1 | ⟨z1, z3⟩
    all_goals
      go_enter Tryz.func119, Tryz.ntmps119
      go_wp2
      go_quiet ((go_at_call 97; exact Calls.quiet_of_same (idx_c t h0 _ (hl.below (pw_below_drewN (below_alloc (Below.refl _ _) _) _)))))
      rw [HD.out]
      have d1 := H1.out
      have d2 := H2.out
      go_wp2_with (first | (go_at_call 117; (with_reducible refine (trim_b D _ (by omega)).mono ?_); rintro e w1 ⟨rfl, hb1⟩; have hr := res_cell hb1; have q0 := hr.1 0; have q1 := hr.1 1; have f0 := hr.2.1 0; have f1 := hr.2.1 1; have hz := hr.2.2; clear hr hb1; simp only [List.getElem?_toArray, List.getElem?_cons_zero, List.getElem?_cons_succ] at q0 q1) | (go_at_call 118; (with_reducible refine (atoi_ok D hDs _ HA.out _).mono ?_); rintro e w2 ⟨rfl, hb2⟩; have hz2 := below_step hz hb2; have g0 := pw_cell_below hb2 q0; have g1 := pw_cell_below hb2 q1; have lt1 := World.block_lt_of_cell? _ _ q0; have k0 := (hb2.frozen (p := ⟨w.heap.size, 0, none⟩) lt1).trans f0; have k1 := (hb2.frozen (p := ⟨w.heap.size, 1, none⟩) lt1).trans f1; clear hb2 q0 q1 f0 f1 lt1 hz))
      exact bodyPost_ret (v := prsV 0 0 3) (by simp [results, Tryz.results119, go_sem, prsV, g0, g1]) rfl ⟨rfl, below_set (below_set hz2 (Nat.le_refl _)) (Nat.le_refl _)⟩
  · rcases z with z1 | ⟨z1, z3⟩
    all_goals
      go_enter Tryz.func119, Tryz.ntmps119
      go_wp2
      go_quiet ((go_at_call 97; exact Calls.quiet_of_same (idx_c t h0 _ (hl.below (pw_below_drewN (below_alloc (Below.refl _ _) _) _)))))
      rw [HD.out]
      have d1 := H1.out
      have d2 := H2.out
      go_wp2_with (first | (go_at_call 117; (with_reducible refine (trim_b D _ (by omega)).mono ?_); rintro e w1 ⟨rfl, hb1⟩; have hr := res_cell hb1; have q0 := hr.1 0; have q1 := hr.1 1; have f0 := hr.2.1 0; have f1 := hr.2.1 1; have hz := hr.2.2; clear hr hb1; simp only [List.getElem?_toArray, List.getElem?_cons_zero, List.getElem?_cons_succ] at q0 q1) | (go_at_call 118; (with_reducible refine (atoi_ok D hDs _ HA.out _).mono ?_); rintro e w2 ⟨rfl, hb2⟩; have hz2 := below_step hz hb2; have g0 := pw_cell_below hb2 q0; have g1 := pw_cell_below hb2 q1; have lt1 := World.block_lt_of_cell? _ _ q0; have k0 := (hb2.frozen (p := ⟨w.heap.size, 0, none⟩) lt1).trans f0; have k1 := (hb2.frozen (p := ⟨w.heap.size, 1, none⟩) lt1).trans f1; clear hb2 q0 q1 f0 f1 lt1 hz))
      exact bodyPost_ret (v := prsV (spaceOf t[0]) v 0) (by simp [results, Tryz.results119, go_sem, prsV, g0, g1]) rfl ⟨rfl, below_set (below_set hz2 (Nat.le_refl _)) (Nat.le_refl _)⟩
/-- Parse, whatever it is given. -/
theorem prs_b (t : ByteArray) (w : World) (ht : t.size ≤ 140737488355328) (hl : Lets w) (he : Errs w) :
    Calls Tryz.prog 119 #[.string t] w (RetB w (prsV (addrParse t.data.toList).1 (addrParse t.data.toList).2.1 (addrParse t.data.toList).2.2)) := by
  by_cases h0 : 0 < t.size
  · have hc := data_cons t h0
    rw [hc]
    generalize hD : t.extract 1 t.size = D
    have a2 : t.toList.isEmpty = false := by rw [toList_isEmpty]; exact decide_eq_false (by omega)
    have hDs : D.size ≤ 140737488355328 := by rw [← hD, ByteArray.size_extract]; omega
    by_cases hb : spaceOf t[0] < 0
    · have e : addrParse (t[0] :: D.data.toList) = (0, 0, 6) := by simp [addrParse, hb]
      rw [e]
      exact prs_bad1 t D w ht h0 hD hb a2 hl
    · have hb' : 0 ≤ spaceOf t[0] := by omega
      by_cases hs : numSyn D.data.toList = true
      · have hne : D.data.toList ≠ [] := by intro hh; rw [hh] at hs; simp [numSyn] at hs
        have hz0 : 0 < D.size := by rw [← size_data]; exact List.length_pos_iff.2 hne
        have hall : D.data.toList.all isDig = true := by simp only [numSyn, Bool.and_eq_true] at hs; exact hs.1.2
        have d1 : ¬ D.toList = [] := by rw [toList_data]; exact hne
        have d2 : D.toList.isEmpty = false := by rw [toList_isEmpty]; exact decide_eq_false (by omega)
        have e1 : (trimD D).toList = [] := (trimD_nil D).2 hall
        have e2 : (trimD D).toList.isEmpty = true := by rw [e1]; rfl
        have hz : ¬ (1 : Int) < (D.size : Int) ∨ ((1 : Int) < (D.size : Int) ∧ ((D[0].toNat : Int) == 48) = false) := by
          by_cases h1 : (1 : Int) < (D.size : Int)
          · refine .inr ⟨h1, ?_⟩
            have hd := data_cons D hz0
            simp only [numSyn, Bool.and_eq_true] at hs
            have h2 := hs.2
            rw [hd] at h2
            have h3 : decide (1 < (D[0] :: (D.extract 1 D.size).data.toList).length) = true := by rw [← hd, size_data]; simp; omega
            rw [h3] at h2
            simp only [List.head?_cons, Bool.true_and, Bool.not_eq_true'] at h2
            have h4 : D[0] ≠ 48 := by intro hh; rw [hh] at h2; simp at h2
            have h5 : ¬ D[0].toNat = 48 := by intro hh; exact h4 (UInt8.toNat_inj.1 (by rw [hh]; rfl))
            simp; omega
          · exact .inl h1
        obtain ⟨hA1, hA2⟩ := atoi_dig D.data.toList hne hall
        by_cases hv : digNat D.data.toList < 9223372036854775808
        · refine prs_num t D w ht h0 hD hb' a2 hl hDs d1 d2 e1 e2 hz0 hz _ (hA1 hv) _ ?_
          by_cases h5 : digNat D.data.toList ≤ 255
          · exact .inr ⟨by omega, by simp [addrParse, hb, numParse, hs, h5]⟩
          · exact .inl ⟨by omega, by simp [addrParse, hb, numParse, hs, h5]⟩
        · have h5 : ¬ digNat D.data.toList ≤ 255 := by omega
          have e : addrParse (t[0] :: D.data.toList) = (0, 0, 3) := by simp [addrParse, hb, numParse, hs, h5]
          rw [e]
          exact prs_range t D w ht h0 hD hb' a2 hl he hDs d1 d2 e1 e2 hz0 hz (hA2 hv)
      · have e : addrParse (t[0] :: D.data.toList) = (0, 0, 6) := by simp [addrParse, hb, numParse, hs]
        rw [e]
        by_cases hz0 : 0 < D.size
        · have d1 : ¬ D.toList = [] := by rw [toList_nil_iff]; omega
          have d2 : D.toList.isEmpty = false := by rw [toList_isEmpty]; exact decide_eq_false (by omega)
          by_cases hall : D.data.toList.all isDig = true
          · have e1 : (trimD D).toList = [] := (trimD_nil D).2 hall
            have e2 : (trimD D).toList.isEmpty = true := by rw [e1]; rfl
            have hd := data_cons D hz0
            have hl2 : D.data.toList.length = D.size := size_data D
            have hne : D.data.toList.isEmpty = false := by rw [hd]; rfl
            have h2 : (decide (1 < D.data.toList.length) && D.data.toList.head? == some 48) = true := by
              simp only [numSyn, hne, hall, Bool.not_false, Bool.true_and] at hs
              simpa using hs
            simp only [Bool.and_eq_true, decide_eq_true_eq] at h2
            have h3 : D[0] = 48 := by
              have := h2.2
              rw [hd] at this
              simpa using this
            exact prs_bad4 t D w ht h0 hD hb' a2 hl hDs d1 d2 e1 e2 hz0 (by have := h2.1; omega) (by rw [h3]; rfl)
          · have e2 : (trimD D).toList.isEmpty = false := by
              cases hh : (trimD D).toList with
              | nil => exact absurd ((trimD_nil D).1 hh) hall
              | cons a r => rfl
            exact prs_bad3 t D w ht h0 hD hb' a2 hl hDs d1 d2 e2
        · have d1 : D.toList = [] := by rw [toList_nil_iff]; omega
          exact prs_bad2 t D w ht h0 hD hb' a2 hl d1 (by rw [d1]; rfl)
  · obtain rfl : t = ⟨#[]⟩ := by
      apply bytes_ext
      have : t.data.toList.length = 0 := by rw [size_data]; omega
      rw [List.length_eq_zero_iff.1 this]
    exact prs_empty w
end Go.Proofs.YtolmkdhgnganaaaGreatDoor.H
namespace Go.Proofs.YtolmkdhgnganaaaGreatDoor.H
open Go Go.RowKit Go.Proofs Go.Proofs.YtolmkdhgnganaaaGreatDoorW.PrintWords Go.Proofs.YtolmkdhgnganaaaGreatDoor.Sp
/-- A letter. -/
def isLet (c : Int) : Bool := decide ((97 ≤ c ∧ c ≤ 122) ∨ (65 ≤ c ∧ c ≤ 90))
/-- Byte j of a name. -/
def nmAt (l : List UInt8) (j : Nat) : Bool := isLet ((l.getD j 0).toNat : Int) || (decide (j ≠ 0) && (decide ((l.getD j 0).toNat = 95) || decide (48 ≤ (l.getD j 0).toNat ∧ (l.getD j 0).toNat ≤ 57)))
/-- A name. -/
def isNm (l : List UInt8) : Bool := decide (0 < l.length) && decide (l.length ≤ 16) && (List.range l.length).all (nmAt l)
theorem letter_b (c : Int) (w : World) : Calls Tryz.prog 98 #[.int .i32 c] w fun e w' => e = .returned (.bool (isLet c)) ∧ w = w' := by
  have hv : isLet c = decide ((97 ≤ c ∧ c ≤ 122) ∨ (65 ≤ c ∧ c ≤ 90)) := rfl
  generalize isLet c = v at hv
  by_cases h1 : 97 ≤ c
  · by_cases h2 : c ≤ 122
    · obtain rfl : v = true := by rw [hv]; exact decide_eq_true (by omega)
      clear hv
      go_enter Tryz.func98, Tryz.ntmps98
      go_wp2
      go_ret
      exact ⟨rfl, rfl⟩
    · by_cases h3 : 65 ≤ c
      · obtain rfl : v = false := by rw [hv]; exact decide_eq_false (by omega)
        have h4 : ¬ c ≤ 90 := by omega
        clear hv
        go_enter Tryz.func98, Tryz.ntmps98
        go_wp2
        go_ret
        exact ⟨rfl, rfl⟩
      · exfalso; omega
  · by_cases h3 : 65 ≤ c
    · obtain rfl : v = decide (c ≤ 90) := by rw [hv]; exact decide_eq_decide.2 (by omega)
      clear hv
      go_enter Tryz.func98, Tryz.ntmps98
      go_wp2
      go_ret
      exact ⟨rfl, rfl⟩
    · obtain rfl : v = false := by rw [hv]; exact decide_eq_false (by omega)
      clear hv
      go_enter Tryz.func98, Tryz.ntmps98
      go_wp2
      go_ret
      exact ⟨rfl, rfl⟩
theorem isNm_true {s : ByteArray} (h0 : 0 < s.size) (h1 : s.size ≤ 16) (h : ∀ j, j < s.size → nmAt s.data.toList j = true) : isNm s.data.toList = true := by
  have e : s.data.toList.length = s.size := by rw [Array.length_toList]; rfl
  simp only [isNm, e, Bool.and_eq_true, decide_eq_true_eq, List.all_eq_true, List.mem_range]
  exact ⟨⟨h0, h1⟩, h⟩
theorem isNm_false {s : ByteArray} {j : Nat} (hj : j < s.size) (h : nmAt s.data.toList j = false) : isNm s.data.toList = false := by
  have e : s.data.toList.length = s.size := by rw [Array.length_toList]; rfl
  cases hb : isNm s.data.toList with
  | false => rfl
  | true =>
    simp only [isNm, e, Bool.and_eq_true, decide_eq_true_eq, List.all_eq_true, List.mem_range] at hb
    rw [hb.2 j hj] at h; cases h
theorem getD_at (s : ByteArray) (j : Nat) (h : j < s.size) : s.data.toList.getD j 0 = s[j]'h := by
  have hj : j < s.data.size := h
  have e : s[j]'h = s.data[j]'hj := rfl
  rw [e]
  simp only [List.getD, Array.getElem?_toList, Array.getElem?_eq_getElem hj, Option.getD_some]
theorem iter_below (w : World) (s : ByteArray) (pos : Nat) : Below w.heap.size w (w.iter s pos) := below_alloc (Below.refl _ _) _
/-- One rune of a name, by the byte where it begins. -/
def okRune (pos : Nat) (r : Int) : Bool := isLet r || (decide (pos ≠ 0) && (decide (r = 95) || decide (48 ≤ r ∧ r ≤ 57)))
theorem okRune_byte (s : ByteArray) (pos : Nat) (h : pos < s.size) :
    1 ≤ (Utf8.decode s pos).2 ∧ okRune pos ((Utf8.decode s pos).1 : Int) = nmAt s.data.toList pos ∧ (okRune pos ((Utf8.decode s pos).1 : Int) = true → (Utf8.decode s pos).2 = 1) := by
  by_cases ha : (s[pos]'h).toNat < 128
  · rw [decode_ascii s pos h ha]
    refine ⟨Nat.le_refl _, ?_, fun _ => rfl⟩
    have e : ∀ n : Nat, (decide ((n : Int) = 95) = decide (n = 95)) ∧ (decide (48 ≤ (n : Int) ∧ (n : Int) ≤ 57) = decide (48 ≤ n ∧ n ≤ 57)) := fun n => ⟨decide_eq_decide.2 (by omega), decide_eq_decide.2 (by omega)⟩
    simp only [okRune, nmAt, getD_at s pos h, (e _).1, (e _).2]
  · have hd := decode_high s pos h (by omega)
    have f1 : okRune pos ((Utf8.decode s pos).1 : Int) = false := by
      simp only [okRune, isLet, Bool.or_eq_false_iff, Bool.and_eq_false_iff, decide_eq_false_iff_not]
      omega
    have f2 : nmAt s.data.toList pos = false := by
      simp only [nmAt, isLet, getD_at s pos h, Bool.or_eq_false_iff, Bool.and_eq_false_iff, decide_eq_false_iff_not]
      omega
    refine ⟨hd.2, by rw [f1, f2], fun hc => ?_⟩
    rw [f1] at hc; cases hc
set_option maxRecDepth 100000 in
theorem isName_loop (s : ByteArray) (w : World) (h0 : 0 < s.size) (h1 : s.size ≤ 16) (z : s.toList.isEmpty = false) :
    Calls Tryz.prog 69 #[.string s] w (RetB w (.bool (isNm s.data.toList))) := by
  have g : ¬ (16 : Int) < (s.size : Int) := by omega
  have gd : decide ((16 : Int) < (s.size : Int)) = false := decide_eq_false g
  have H := Aside0.mk h0
  have HB := Aside0.mk h1
  clear h0 h1
  generalize hV : isNm s.data.toList = V
  have HV := Aside0.mk hV
  clear hV
  go_enter Tryz.func69, Tryz.ntmps69
  go_wp2
  go_loopw [] (fun w' => ∃ pos : Nat, w' = w.iter s pos ∧ pos ≤ s.size ∧ Aside0 (∀ j, j < pos → nmAt s.data.toList j = true)) (fun w' => s.size - w'.iterPos w.heap.size)
  case atStart => exact ⟨0, rfl, Nat.zero_le _, ⟨fun j hj => by omega⟩⟩
  case round =>
    obtain ⟨pos, rfl, hle, HA⟩ := hrel
    by_cases hp : pos < s.size
    · have hnx : ∀ ty, (Instr.next (.pointer (some ⟨w.heap.size, 0, none⟩)) true ty).run Tryz.prog (w.iter s pos) = _ := fun ty => run_next_any w s pos ty hp
      have hok := okRune_byte s pos hp
      generalize (Utf8.decode s pos).1 = r at hnx hok
      generalize (Utf8.decode s pos).2 = wd at hnx hok
      obtain ⟨hw1, hok, hok1⟩ := hok
      have HO := Aside0.mk hok
      have HO1 := Aside0.mk hok1
      clear hok hok1
      have bad : nmAt s.data.toList pos = false → V = false := fun hb => HV.out ▸ isNm_false hp hb
      have HBad := Aside0.mk bad
      clear bad
      have good : okRune pos (r : Int) = true → (∃ pos_1, w.iter s (pos + wd) = w.iter s pos_1 ∧ pos_1 ≤ s.size ∧ Aside0 (∀ j, j < pos_1 → nmAt s.data.toList j = true)) ∧
          s.size - (w.iter s (pos + wd)).iterPos w.heap.size < s.size - (w.iter s pos).iterPos w.heap.size := by
        intro hg
        have e1 := HO1.out hg
        subst e1
        refine ⟨⟨pos + 1, rfl, by omega, ⟨fun j hj => ?_⟩⟩, by simp; omega⟩
        by_cases hj2 : j < pos
        · exact HA.out j hj2
        · obtain rfl : j = pos := by omega
          rw [← HO.out]; exact hg
      have HGood := Aside0.mk good
      clear good
      have hk : ∀ b, nmAt s.data.toList pos = b → okRune pos (r : Int) = b := fun b hb => by rw [HO.out]; exact hb
      cases hl : isLet (r : Int) with
      | true =>
        have hg : okRune pos (r : Int) = true := by simp [okRune, hl]
        have HG := Aside0.mk (HGood.out hg)
        clear hg hk
        go_wp2_with (go_at_call 98; (with_reducible refine (letter_b _ _).mono ?_); rintro e_ w1 ⟨rfl, rfl⟩; rw [hl])
        all_goals exact HG.out
      | false =>
        by_cases hp0 : pos = 0
        · subst hp0
          have hb : nmAt s.data.toList 0 = false := by rw [← HO.out]; simp [okRune, hl]
          obtain rfl := HBad.out hb
          clear hk hb
          go_wp2_with (go_at_call 98; (with_reducible refine (letter_b _ _).mono ?_); rintro e_ w1 ⟨rfl, rfl⟩; rw [hl])
          go_ret
          exact ⟨rfl, iter_below _ _ _⟩
        · have q0 : ((pos : Int) == 0) = false := by simp; omega
          by_cases h95 : (r : Int) = 95
          · have hg : okRune pos (r : Int) = true := by simp [okRune, h95, hp0]
            have HG := Aside0.mk (HGood.out hg)
            have q1 : ((r : Int) != 95) = false := by simp [h95]
            clear hg hk h95
            go_wp2_with (go_at_call 98; (with_reducible refine (letter_b _ _).mono ?_); rintro e_ w1 ⟨rfl, rfl⟩; rw [hl])
            all_goals exact HG.out
          · have q1 : ((r : Int) != 95) = true := by simpa using h95
            by_cases h48 : (r : Int) < 48
            · have hb : nmAt s.data.toList pos = false := by
                rw [← HO.out]; simp only [okRune, hl, Bool.false_or, Bool.and_eq_false_iff, Bool.or_eq_false_iff, decide_eq_false_iff_not]; omega
              obtain rfl := HBad.out hb
              have q2 : decide ((r : Int) < 48) = true := decide_eq_true h48
              clear hk hb h95
              go_wp2_with (go_at_call 98; (with_reducible refine (letter_b _ _).mono ?_); rintro e_ w1 ⟨rfl, rfl⟩; rw [hl])
              go_ret
              exact ⟨rfl, iter_below _ _ _⟩
            · have q2 : decide ((r : Int) < 48) = false := decide_eq_false h48
              by_cases h57 : (57 : Int) < r
              · have hb : nmAt s.data.toList pos = false := by
                  rw [← HO.out]; simp only [okRune, hl, Bool.false_or, Bool.and_eq_false_iff, Bool.or_eq_false_iff, decide_eq_false_iff_not]; omega
                obtain rfl := HBad.out hb
                have q3 : decide ((57 : Int) < (r : Int)) = true := decide_eq_true h57
                clear hk hb h95
                go_wp2_with (go_at_call 98; (with_reducible refine (letter_b _ _).mono ?_); rintro e_ w1 ⟨rfl, rfl⟩; rw [hl])
                go_ret
                exact ⟨rfl, iter_below _ _ _⟩
              · have q3 : decide ((57 : Int) < (r : Int)) = false := decide_eq_false h57
                have hg : okRune pos (r : Int) = true := by
                  simp only [okRune, hl, Bool.false_or, Bool.and_eq_true, Bool.or_eq_true, decide_eq_true_eq]; omega
                have HG := Aside0.mk (HGood.out hg)
                clear hg hk h95
                go_wp2_with (go_at_call 98; (with_reducible refine (letter_b _ _).mono ?_); rintro e_ w1 ⟨rfl, rfl⟩; rw [hl])
                all_goals exact HG.out
    · have hnx : ∀ ty, (Instr.next (.pointer (some ⟨w.heap.size, 0, none⟩)) true ty).run Tryz.prog (w.iter s pos) = _ := fun ty => run_next_end w s pos ty hp
      obtain rfl : pos = s.size := by omega
      have : V = true := by rw [← HV.out]; exact isNm_true H.out HB.out HA.out
      subst this
      go_wp2
      go_ret
      exact ⟨rfl, iter_below _ _ _⟩
set_option maxRecDepth 100000 in
theorem isName_b (s : ByteArray) (w : World) : Calls Tryz.prog 69 #[.string s] w (RetB w (.bool (isNm s.data.toList))) := by
  have e : s.data.toList.length = s.size := by rw [Array.length_toList]; rfl
  by_cases h0 : 0 < s.size
  · have z : s.toList.isEmpty = false := by rw [toList_isEmpty]; exact decide_eq_false (by omega)
    by_cases h1 : s.size ≤ 16
    · exact isName_loop s w h0 h1 z
    · have hf : isNm s.data.toList = false := by simp [isNm, e]; omega
      rw [hf]
      have g : (16 : Int) < (s.size : Int) := by omega
      clear hf e h1 h0
      go_enter Tryz.func69, Tryz.ntmps69
      go_wp2
      go_ret
      exact ⟨rfl, Below.refl _ _⟩
  · have z : s.toList.isEmpty = true := by rw [toList_isEmpty]; exact decide_eq_true (by omega)
    have z2 : s.toList = [] := by simpa using z
    have hf : isNm s.data.toList = false := by simp [isNm, e]; omega
    rw [hf]
    clear hf e h0
    go_enter Tryz.func69, Tryz.ntmps69
    go_wp2
    go_ret
    exact ⟨rfl, Below.refl _ _⟩
end Go.Proofs.YtolmkdhgnganaaaGreatDoor.H
namespace Go.Proofs.YtolmkdhgnganaaaGreatDoor.H
open Go Go.RowKit Go.Proofs Go.Proofs.YtolmkdhgnganaaaGreatDoorW.PrintWords Go.Proofs.YtolmkdhgnganaaaGreatDoor.Sp
abbrev Rung := PPrinterRoundTrip.S53
abbrev Con := PPrinterRoundTrip.S59
abbrev Coil := PPrinterRoundTrip.S69
abbrev kRung := PPrinterRoundTrip.k53
abbrev kCon := PPrinterRoundTrip.k59
abbrev kCoil := PPrinterRoundTrip.k69
/-- Two strings are the same, as the machine tells it. -/
def seq (a b : ByteArray) : Bool := a.toList == b.toList
theorem seq_dec (a b : ByteArray) : seq a b = decide (a = b) := by
  unfold seq
  rw [toList_data, toList_data]
  by_cases h : a = b
  · subst h; simp
  · rw [decide_eq_false h]
    have : ¬ a.data.toList = b.data.toList := fun e => h (bytes_ext e)
    simpa using this
/-- The label L stands on one of them. -/
def hasLab (l : List Rung) (L : ByteArray) : Bool := l.any fun x => seq x.f0 L
theorem hasLab_none {l : List Rung} {L : ByteArray} (h : ∀ k : Int, 0 ≤ k → k < l.length → seq (PPrinterRoundTrip.rd_T53 l k).f0 L = false) : hasLab l L = false := by
  unfold hasLab
  rw [List.any_eq_false]
  intro x hx
  obtain ⟨n, hn, rfl⟩ := List.getElem_of_mem hx
  have := h n (by omega) (by omega)
  simp only [PPrinterRoundTrip.rd_T53, Int.toNat_natCast, List.getD, List.getElem?_eq_getElem hn, Option.getD_some] at this
  rw [this]; simp
theorem hasLab_some {l : List Rung} {L : ByteArray} {k : Int} (h0 : 0 ≤ k) (h1 : k < l.length) (h : seq (PPrinterRoundTrip.rd_T53 l k).f0 L = true) : hasLab l L = true := by
  unfold hasLab
  rw [List.any_eq_true]
  have hn : k.toNat < l.length := by omega
  refine ⟨l[k.toNat], List.getElem_mem hn, ?_⟩
  simpa only [PPrinterRoundTrip.rd_T53, List.getD, List.getElem?_eq_getElem hn, Option.getD_some] using h
theorem w64 {x : Int} (h0 : -9223372036854775808 ≤ x) (h1 : x ≤ 9223372036854775807) : wrap64 x = x := by unfold wrap64; omega
/-- What slices.IndexFunc answers where the closure looks the label L up. -/
def FoundB (w : World) (b : Bool) (e : Ending) (w' : World) : Prop := ∃ v : Int, e = .returned (.int .i64 v) ∧ decide (0 ≤ v) = b ∧ Below w.heap.size w w'
end Go.Proofs.YtolmkdhgnganaaaGreatDoor.H
namespace Go.Proofs.YtolmkdhgnganaaaGreatDoor.H
open Go Go.RowKit Go.Proofs Go.Proofs.YtolmkdhgnganaaaGreatDoorW.PrintWords Go.Proofs.YtolmkdhgnganaaaGreatDoor.Sp
/-- What stands while a rung is looked through: the sizes and the rung in blocks of the call's own. -/
structure RungF (w : World) (i q m e : Int) (r : Rung) (A1 : Option Addr) (c1 : Nat) (A2 : Option Addr) (c2 : Nat) (wr : World) : Prop where
  b : Below w.heap.size w wr
  ks : wr.heap[w.heap.size]? = some (.cells #[.int .i64 i, .int .i64 q, .int .i64 m, .int .i64 e] 86 (0, 0))
  kr : wr.heap[w.heap.size + 1]? = some (.cells #[.string r.f0, .slice A1 r.f1.length c1, .slice A2 r.f2.length c2, .string r.f3] 53 (0, 0))
theorem RungF.step {w : World} {i q m e : Int} {r : Rung} {A1 : Option Addr} {c1 : Nat} {A2 : Option Addr} {c2 : Nat} {wr w1 : World} (h : RungF w i q m e r A1 c1 A2 c2 wr) (hb : Below wr.heap.size wr w1) : RungF w i q m e r A1 c1 A2 c2 w1 :=
  ⟨below_step h.b hb, blk_below h.ks hb, blk_below h.kr hb⟩
/-- The cells. -/
theorem RungF.cells {w : World} {i q m e : Int} {r : Rung} {A1 : Option Addr} {c1 : Nat} {A2 : Option Addr} {c2 : Nat} {wr : World} (h : RungF w i q m e r A1 c1 A2 c2 wr) :
    wr.cell? ⟨w.heap.size, 0, none⟩ = some (.int .i64 i) ∧ wr.cell? ⟨w.heap.size, 1, none⟩ = some (.int .i64 q) ∧ wr.cell? ⟨w.heap.size, 2, none⟩ = some (.int .i64 m) ∧ wr.cell? ⟨w.heap.size, 3, none⟩ = some (.int .i64 e) ∧
    wr.cell? ⟨w.heap.size + 1, 0, none⟩ = some (.string r.f0) ∧ wr.cell? ⟨w.heap.size + 1, 1, none⟩ = some (.slice A1 r.f1.length c1) ∧ wr.cell? ⟨w.heap.size + 1, 2, none⟩ = some (.slice A2 r.f2.length c2) ∧ wr.cell? ⟨w.heap.size + 1, 3, none⟩ = some (.string r.f3) ∧
    w.heap.size + 1 < wr.heap.size ∧ w.heap.size < wr.heap.size :=
  ⟨blk_cell h.ks 0, blk_cell h.ks 1, blk_cell h.ks 2, blk_cell h.ks 3, blk_cell h.kr 0, blk_cell h.kr 1, blk_cell h.kr 2, blk_cell h.kr 3, blk_lt h.kr, blk_lt h.ks⟩
end Go.Proofs.YtolmkdhgnganaaaGreatDoor.H
namespace Go.Proofs.YtolmkdhgnganaaaGreatDoor.H
open Go Go.RowKit Go.Proofs Go.Proofs.YtolmkdhgnganaaaGreatDoorW.PrintWords Go.Proofs.YtolmkdhgnganaaaGreatDoor.Sp
theorem RungF.alloc {w : World} {i q m e : Int} {r : Rung} {A1 : Option Addr} {c1 : Nat} {A2 : Option Addr} {c2 : Nat} {wr : World} (h : RungF w i q m e r A1 c1 A2 c2 wr) (o : Obj) : RungF w i q m e r A1 c1 A2 c2 (wr.alloc o) :=
  ⟨below_alloc h.b _, blk_alloc h.ks _, blk_alloc h.kr _⟩
theorem RungF.new (w : World) (i q m e : Int) (r : Rung) (A1 : Option Addr) (c1 : Nat) (A2 : Option Addr) (c2 : Nat) : RungF w i q m e r A1 c1 A2 c2 ((w.alloc (.cells #[.int .i64 i, .int .i64 q, .int .i64 m, .int .i64 e] 86)).alloc (.cells #[.string r.f0, .slice A1 r.f1.length c1, .slice A2 r.f2.length c2, .string r.f3] 53)) :=
  ⟨below_alloc (below_alloc (Below.refl _ _) _) _, blk_alloc (blk_new _ _) _, by have := blk_new (w.alloc (.cells #[.int .i64 i, .int .i64 q, .int .i64 m, .int .i64 e] 86)) (.cells #[.string r.f0, .slice A1 r.f1.length c1, .slice A2 r.f2.length c2, .string r.f3] 53); simpa using this⟩
end Go.Proofs.YtolmkdhgnganaaaGreatDoor.H
namespace Go.Proofs.YtolmkdhgnganaaaGreatDoor.H
open Go Go.RowKit Go.Proofs Go.Proofs.YtolmkdhgnganaaaGreatDoorW.PrintWords Go.Proofs.YtolmkdhgnganaaaGreatDoor.Sp
abbrev rdR (l : List Rung) (k : Int) : Rung := PPrinterRoundTrip.rd_T53 l k
/-- Rung k jumps to no later rung. -/
def jbAt (l : List Rung) (k : Int) : Bool := !(rdR l k).f3.toList.isEmpty && !hasLab (l.drop (k + 1).toNat) (rdR l k).f3
theorem rungs_from {w : World} {A : Option Addr} {c : Nat} {l : List Rung} (hr : Kd.C kRung w A l.length l) (hc : l.length ≤ c) {k : Int} (h0 : 0 ≤ k) (hk : k ≤ l.length) :
    ∃ A', (∀ W : World, (Instr.slice 22 (.slice A l.length c) (some (.int .i64 k)) none none).run Tryz.prog W = .ok (.slice A' (l.drop k.toNat).length (c - k.toNat)) W) ∧ Kd.C kRung w A' (l.drop k.toNat).length (l.drop k.toNat) ∧ (l.drop k.toNat).length ≤ c - k.toNat := by
  obtain ⟨i0, hi, hz⟩ := Option.map_eq_some_iff.1 PPrinterRoundTrip.info53
  simp only [Prod.mk.injEq] at hz
  have hl : (l.drop k.toNat).length = l.length - k.toNat := List.length_drop
  refine ⟨_, fun W => ?_, Kd.C_drop hr (by omega) hc, by omega⟩
  rw [hl]
  exact cut_from 22 53 .i64 Tryz.underlying22 hi kRung.sz (hz.2.1.trans rfl) A l.length c k h0 hk W
structure LadF (w : World) (g : Nat) (i q m : Int) (A : Option Addr) (n c : Nat) (wr : World) : Prop where
  b : Below w.heap.size w wr
  kl : wr.heap[w.heap.size]? = some (.cells #[.int .i64 i, .int .i64 q, .int .i64 m, .slice A n c] 24 (0, 0))
  ks : wr.heap[g]? = some (.cells #[.int .i64 i, .int .i64 q, .int .i64 m, .int .i64 0] 86 (0, 0))
theorem LadF.step {w : World} {g : Nat} {i q m : Int} {A : Option Addr} {n c : Nat} {wr w1 : World} (h : LadF w g i q m A n c wr) (hb : Below wr.heap.size wr w1) : LadF w g i q m A n c w1 :=
  ⟨below_step h.b hb, blk_below h.kl hb, blk_below h.ks hb⟩
theorem LadF.alloc {w : World} {g : Nat} {i q m : Int} {A : Option Addr} {n c : Nat} {wr : World} (h : LadF w g i q m A n c wr) (o : Obj) : LadF w g i q m A n c (wr.alloc o) :=
  ⟨below_alloc h.b _, blk_alloc h.kl _, blk_alloc h.ks _⟩
theorem LadF.drew {w : World} {g : Nat} {i q m : Int} {A : Option Addr} {n c : Nat} {wr : World} (h : LadF w g i q m A n c wr) : LadF w g i q m A n c wr.drew :=
  ⟨below_drew h.b, blk_drew h.kl, blk_drew h.ks⟩
theorem LadF.cells {w : World} {g : Nat} {i q m : Int} {A : Option Addr} {n c : Nat} {wr : World} (h : LadF w g i q m A n c wr) :
    wr.cell? ⟨w.heap.size, 0, none⟩ = some (.int .i64 i) ∧ wr.cell? ⟨w.heap.size, 1, none⟩ = some (.int .i64 q) ∧ wr.cell? ⟨w.heap.size, 2, none⟩ = some (.int .i64 m) ∧ wr.cell? ⟨w.heap.size, 3, none⟩ = some (.slice A n c) ∧
    wr.cell? ⟨g, 0, none⟩ = some (.int .i64 i) ∧ wr.cell? ⟨g, 1, none⟩ = some (.int .i64 q) ∧ wr.cell? ⟨g, 2, none⟩ = some (.int .i64 m) ∧ wr.cell? ⟨g, 3, none⟩ = some (.int .i64 0) ∧
    g < wr.heap.size ∧ w.heap.size < wr.heap.size :=
  ⟨blk_cell h.kl 0, blk_cell h.kl 1, blk_cell h.kl 2, blk_cell h.kl 3, blk_cell h.ks 0, blk_cell h.ks 1, blk_cell h.ks 2, blk_cell h.ks 3, blk_lt h.ks, blk_lt h.kl⟩
end Go.Proofs.YtolmkdhgnganaaaGreatDoor.H
namespace Go.Proofs.YtolmkdhgnganaaaGreatDoor.H
open Go Go.RowKit Go.Proofs Go.Proofs.YtolmkdhgnganaaaGreatDoorW.PrintWords Go.Proofs.YtolmkdhgnganaaaGreatDoor.Sp
/-- A row made since W. -/
def XR {α : Type} (d : Kd α) (e : Nat) (W w : World) (v : Value) (xs : List α) : Prop := d.R e w W.heap.size (fun k => W.heap.size ≤ k) v xs
section
variable {α β : Type} {d : Kd α} {d2 : Kd β} {e e2 : Nat} {W w w1 : World} {u v : Value} {xs : List α} {ys : List β}
theorem XR.below (h : XR d e W w v xs) (hb : Below w.heap.size w w1) : XR d e W w1 v xs := Kd.R_below h hb
theorem XR.empty (hb : W.heap.size ≤ w.heap.size) : XR d e W (w.alloc (.cells #[] e)) (.slice (some ⟨w.heap.size, 0, none⟩) 0 0) [] :=
  ⟨fun k hk => by
    have : w.heap.size = k := by simpa [Value.ownBlock] using hk
    omega, OwnRow.lit w W.heap.size (Reps.none _ _) hb (by simp)⟩
theorem XR.over (h : XR d e W w u xs) (h2 : XR d2 e2 W w v ys) (ht : ∀ q, q ∈ e :: d.E → q ≠ e2) (hg : w.grownBy w1 v.ownBlock) : XR d e W w1 u xs := Kd.R_over' h (Kd.R_typed h2) ht hg
end
abbrev InjS := Value × Value × Value × Value
/-- Which operations have run: 6, 9 (the contacts' row: empty, filled), 10, 13 (the coils'). -/
structure InjF (W : World) (x : Rung) (d6 d9 d10 d13 : Bool) (s : InjS) (w' : World) : Prop where
  b : Below W.heap.size W w'
  o6 : d6 = true → d9 = false → XR kCon 59 W w' s.1 []
  o9 : d9 = true → XR kCon 59 W w' s.2.1 x.f1
  o10 : d10 = true → d13 = false → XR kCoil 69 W w' s.2.2.1 []
  o13 : d13 = true → XR kCoil 69 W w' s.2.2.2 x.f2
theorem InjF.start (W : World) (x : Rung) (s : InjS) : InjF W x false false false false s W := ⟨Below.refl _ _, nofun, nofun, nofun, nofun⟩
section
variable {W w' w1 : World} {x : Rung} {d6 d9 d10 d13 : Bool} {v6 v9 v10 v13 : Value}
theorem InjF.below {s : InjS} (h : InjF W x d6 d9 d10 d13 s w') (hb : Below w'.heap.size w' w1) : InjF W x d6 d9 d10 d13 s w1 :=
  ⟨below_step h.b hb, fun a b => (h.o6 a b).below hb, fun a => (h.o9 a).below hb, fun a b => (h.o10 a b).below hb, fun a => (h.o13 a).below hb⟩
theorem InjF.s6 (h : InjF W x false false d10 d13 (v6, v9, v10, v13) w') : InjF W x true false d10 d13 (.slice (some ⟨w'.heap.size, 0, none⟩) 0 0, v9, v10, v13) (w'.alloc (.cells #[] 59)) where
  b := below_alloc h.b _
  o6 := fun _ _ => XR.empty h.b.size
  o9 := nofun
  o10 := fun a b => (h.o10 a b).below (below_alloc (Below.refl _ _) _)
  o13 := fun a => (h.o13 a).below (below_alloc (Below.refl _ _) _)
theorem InjF.s10 (h : InjF W x d6 d9 false false (v6, v9, v10, v13) w') : InjF W x d6 d9 true false (v6, v9, .slice (some ⟨w'.heap.size, 0, none⟩) 0 0, v13) (w'.alloc (.cells #[] 69)) where
  b := below_alloc h.b _
  o6 := fun a b => (h.o6 a b).below (below_alloc (Below.refl _ _) _)
  o9 := fun a => (h.o9 a).below (below_alloc (Below.refl _ _) _)
  o10 := fun _ _ => XR.empty h.b.size
  o13 := nofun
theorem InjF.s9 (h : InjF W x true false d10 d13 (v6, v9, v10, v13) w') {v1 : Value} (hr : XR kCon 59 W w1 v1 ([] ++ x.f1)) (hb : Below W.heap.size W w1) (hg : w'.grownBy w1 v6.ownBlock) :
    InjF W x true true d10 d13 (v6, v1, v10, v13) w1 where
  b := hb
  o6 := nofun
  o9 := fun _ => hr
  o10 := fun a b => (h.o10 a b).over (h.o6 rfl rfl) (by decide) hg
  o13 := fun a => (h.o13 a).over (h.o6 rfl rfl) (by decide) hg
/-- The rung that has been made. -/
theorem InjF.made (h : InjF W x d6 true d10 true (v6, v9, v10, v13) w') {B : Nat} (hB : B ≤ W.heap.size) : kRung.M w' B (fun k => W.heap.size ≤ k) x [.string x.f0, v9, v13, .string x.f3] :=
  PPrinterRoundTrip.k53_mkM w' B _ x (Kd.R_lower (h.o9 rfl) hB) (Kd.R_lower (h.o13 rfl) hB)
end
theorem types_lad : ∀ t, t ∈ 53 :: kRung.E → t ≠ 24 := by decide
abbrev cz : Con := PPrinterRoundTrip.z59
/-- A rung's contacts, one of which is stored anew: its kind, or its end. -/
theorem S_con {w : World} {B : Nat} {g n cap : Nat} {l : List Rung} (h : Kd.S kRung 53 w B (fun _ => True) (.slice (some ⟨g, 0, none⟩) n cap) l) (j : Int) (j0 : 0 ≤ j) (j1 : j < n) (k : Int) (k0 : 0 ≤ k) (k1 : k < (rdR l j).f1.length) :
    ∃ a c1, w.cell? ⟨g, j.toNat * 4 + 1, none⟩ = some (.slice (some ⟨a, 0, none⟩) (rdR l j).f1.length c1) ∧ B ≤ a ∧ g ≠ a ∧ (∃ cells, w.heap[a]? = some (.cells cells 59 (0, 0))) ∧
      w.cell? ⟨a, k.toNat * 5, none⟩ = some (.int .i64 ((rdR l j).f1.getD k.toNat cz).f0) ∧ w.cell? ⟨a, k.toNat * 5 + 3, none⟩ = some (.string ((rdR l j).f1.getD k.toNat cz).f2) ∧ w.cell? ⟨a, k.toNat * 5 + 4, none⟩ = some (.string ((rdR l j).f1.getD k.toNat cz).f3) ∧ (∀ o, w.frozen? ⟨a, k.toNat * 5 + o, none⟩ = false) ∧
      (∀ y, Kd.S kRung 53 (w.setCell ⟨a, k.toNat * 5, none⟩ (.int .i64 y)) B (fun _ => True) (.slice (some ⟨g, 0, none⟩) n cap)
        (l.set j.toNat ⟨(rdR l j).f0, (rdR l j).f1.set k.toNat ⟨y, ((rdR l j).f1.getD k.toNat cz).f1, ((rdR l j).f1.getD k.toNat cz).f2, ((rdR l j).f1.getD k.toNat cz).f3⟩, (rdR l j).f2, (rdR l j).f3⟩)) ∧
      (∀ d, Kd.S kRung 53 (w.setCell ⟨a, k.toNat * 5 + 4, none⟩ (.string d)) B (fun _ => True) (.slice (some ⟨g, 0, none⟩) n cap)
        (l.set j.toNat ⟨(rdR l j).f0, (rdR l j).f1.set k.toNat ⟨((rdR l j).f1.getD k.toNat cz).f0, ((rdR l j).f1.getD k.toNat cz).f1, ((rdR l j).f1.getD k.toNat cz).f2, d⟩, (rdR l j).f2, (rdR l j).f3⟩)) := by
  obtain ⟨oki, c, _, hM, hcc0, _, hoki, hH⟩ := Kd.S_elem h PPrinterRoundTrip.z53 j j0 j1
  have hcc : ∀ i u, c[i]? = some u → w.cell? ⟨g, j.toNat * 4 + i, none⟩ = some u := hcc0
  obtain ⟨v1, v2, rfl, g1, g2⟩ := PPrinterRoundTrip.k53_openM hM
  clear hcc0 hM
  change Kd.R kCon _ w B oki v1 (rdR l j).f1 at g1
  change Kd.R kCoil _ w B oki v2 (rdR l j).f2 at g2
  have hcell := hcc 1 _ rfl
  replace hH : Kd.H kRung 53 w B (fun _ => True) (.slice (some ⟨g, 0, none⟩) n cap) l j oki [.string (rdR l j).f0, v1, v2, .string (rdR l j).f3] := hH
  clear hcc
  generalize hx : rdR l j = x at *
  obtain ⟨a, c1, rfl, hb, _, hty⟩ := Kd.R_form g1 (by omega)
  obtain ⟨ec, hel, heM, hec0, hfr⟩ := Kd.R_elem g1 cz k k0 k1
  have hec : ∀ i u, ec[i]? = some u → w.cell? ⟨a, k.toNat * 5 + i, none⟩ = some u := hec0
  obtain rfl := PPrinterRoundTrip.k59_openM heM
  generalize hy : x.f1.getD k.toNat cz = y at *
  have key : ∀ (o : Nat) (u : Value) (c' : Con), o < 5 → kCon.M w B (fun _ => False) c' (([.int .i64 y.f0, .int .i64 y.f1.f0, .int .i64 y.f1.f1, .string y.f2, .string y.f3] : List Value).take o ++ [u] ++ ([.int .i64 y.f0, .int .i64 y.f1.f0, .int .i64 y.f1.f1, .string y.f2, .string y.f3] : List Value).drop (o + 1)) →
      Kd.S kRung 53 (w.setCell ⟨a, k.toNat * 5 + o, none⟩ u) B (fun _ => True) (.slice (some ⟨g, 0, none⟩) n cap) (l.set j.toNat ⟨x.f0, x.f1.set k.toNat c', x.f2, x.f3⟩) := by
    intro o u c' ho hM'
    obtain ⟨hR, hg⟩ := Kd.R_seg g1 k k0 k1 (c := [.int .i64 y.f0, .int .i64 y.f1.f0, .int .i64 y.f1.f1, .string y.f2, .string y.f3]) (seg := [u]) (j := o) (x' := c') (okp := fun _ => False) rfl hec0 (by show o + 1 ≤ 5; omega) hM' (fun _ hk => hk.elim)
    have hR' : Kd.R kCon 59 (w.setCell ⟨a, k.toNat * 5 + o, none⟩ u) B oki (.slice (some ⟨a, 0, none⟩) x.f1.length c1) (x.f1.set k.toNat c') := hR
    have hg' : w.grownBy (w.setCell ⟨a, k.toNat * 5 + o, none⟩ u) (some a) := hg
    have hR2 : Kd.R kCoil 69 (w.setCell ⟨a, k.toNat * 5 + o, none⟩ u) B oki v2 x.f2 := Kd.R_over' g2 (Kd.R_typed g1) (by decide) hg'
    refine Kd.H_back (Kd.H_grown hH hg' (fun k hk => ?_)) (PPrinterRoundTrip.k53_mkM _ B oki ⟨x.f0, x.f1.set k.toNat c', x.f2, x.f3⟩ ?_ hR2) (fun _ hk => hk)
    · cases hk
      exact g1.1 a rfl
    · exact hR'
  refine ⟨a, c1, hcell, hb, fun e => (hoki a (g1.1 a rfl)).2 e.symm, hty, hec 0 _ rfl, hec 3 _ rfl, hec 4 _ rfl, hfr, fun z => ?_, fun d => ?_⟩
  · exact key 0 (.int .i64 z) ⟨z, y.f1, y.f2, y.f3⟩ (by omega) (PPrinterRoundTrip.k59_mkM w B _ ⟨z, y.f1, y.f2, y.f3⟩)
  · exact key 4 (.string d) ⟨y.f0, y.f1, y.f2, d⟩ (by omega) (PPrinterRoundTrip.k59_mkM w B _ ⟨y.f0, y.f1, y.f2, d⟩)
/-- A rung's two slices. -/
theorem S_cells {w : World} {B : Nat} {g n cap : Nat} {l : List Rung} (h : Kd.S kRung 53 w B (fun _ => True) (.slice (some ⟨g, 0, none⟩) n cap) l) (j : Int) (j0 : 0 ≤ j) (j1 : j < n) :
    ∃ A1 c1 A2 c2, w.cell? ⟨g, j.toNat * 4 + 1, none⟩ = some (.slice A1 (rdR l j).f1.length c1) ∧ w.cell? ⟨g, j.toNat * 4 + 2, none⟩ = some (.slice A2 (rdR l j).f2.length c2) ∧ (rdR l j).f1.length ≤ c1 ∧ (rdR l j).f2.length ≤ c2 := by
  obtain ⟨oki, c, _, hM, hcc0, _⟩ := Kd.S_elem h PPrinterRoundTrip.z53 j j0 j1
  have hcc : ∀ i u, c[i]? = some u → w.cell? ⟨g, j.toNat * 4 + i, none⟩ = some u := hcc0
  obtain ⟨A1, c1, A2, c2, rfl, l1, _, l2, _⟩ := PPrinterRoundTrip.k53_open (kRung.K_of_M hM)
  exact ⟨A1, c1, A2, c2, hcc 1 _ rfl, hcc 2 _ rfl, l1, l2⟩
end Go.Proofs.YtolmkdhgnganaaaGreatDoor.H
namespace Go.Proofs.YtolmkdhgnganaaaGreatDoor.H
open Go Go.RowKit Go.Proofs Go.Proofs.YtolmkdhgnganaaaGreatDoorW.PrintWords Go.Proofs.YtolmkdhgnganaaaGreatDoor.Sp
/-- A permitted byte. -/
def plB (b : UInt8) : Bool := decide (b.toNat = 9 ∨ (32 ≤ b.toNat ∧ b.toNat ≤ 126))
/-- All bytes are permitted. -/
def isPl (l : List UInt8) : Bool := l.all plB
def okPl (r : Int) : Bool := decide (r = 9 ∨ (32 ≤ r ∧ r ≤ 126))
theorem okPl_byte (s : ByteArray) (pos : Nat) (h : pos < s.size) :
    1 ≤ (Utf8.decode s pos).2 ∧ okPl ((Utf8.decode s pos).1 : Int) = plB (s.data.toList.getD pos 0) ∧ (okPl ((Utf8.decode s pos).1 : Int) = true → (Utf8.decode s pos).2 = 1) := by
  by_cases ha : (s[pos]'h).toNat < 128
  · rw [decode_ascii s pos h ha]
    refine ⟨Nat.le_refl _, ?_, fun _ => rfl⟩
    rw [getD_at s pos h]
    exact decide_eq_decide.2 (by omega)
  · have hd := decode_high s pos h (by omega)
    have f1 : okPl ((Utf8.decode s pos).1 : Int) = false := by
      simp only [okPl, decide_eq_false_iff_not]
      omega
    have f2 : plB (s.data.toList.getD pos 0) = false := by
      rw [getD_at s pos h]
      simp only [plB, decide_eq_false_iff_not]
      omega
    refine ⟨hd.2, by rw [f1, f2], fun hc => ?_⟩
    rw [f1] at hc; cases hc
theorem isPl_true {s : ByteArray} (h : ∀ j, j < s.size → plB (s.data.toList.getD j 0) = true) : isPl s.data.toList = true := by
  have e : s.data.toList.length = s.size := by rw [Array.length_toList]; rfl
  unfold isPl
  rw [List.all_eq_true]
  intro x hx
  obtain ⟨n, hn, rfl⟩ := List.getElem_of_mem hx
  have := h n (by omega)
  rwa [List.getD, List.getElem?_eq_getElem hn, Option.getD_some] at this
theorem isPl_false {s : ByteArray} {j : Nat} (hj : j < s.size) (h : plB (s.data.toList.getD j 0) = false) : isPl s.data.toList = false := by
  have e : s.data.toList.length = s.size := by rw [Array.length_toList]; rfl
  cases hb : isPl s.data.toList with
  | false => rfl
  | true =>
    unfold isPl at hb
    rw [List.all_eq_true] at hb
    have hn : j < s.data.toList.length := by omega
    have := hb _ (List.getElem_mem hn)
    rw [List.getD, List.getElem?_eq_getElem hn, Option.getD_some, this] at h
    cases h
set_option maxRecDepth 100000 in
theorem plain_b (s : ByteArray) (w : World) : Calls Tryz.prog 61 #[.string s] w (RetB w (.bool (isPl s.data.toList))) := by
  generalize hV : isPl s.data.toList = V
  have HV := Aside0.mk hV
  clear hV
  go_enter Tryz.func61, Tryz.ntmps61
  go_wp2
  go_loopw [] (fun w' => ∃ pos : Nat, w' = w.iter s pos ∧ pos ≤ s.size ∧ Aside0 (∀ j, j < pos → plB (s.data.toList.getD j 0) = true)) (fun w' => s.size - w'.iterPos w.heap.size)
  case atStart => exact ⟨0, rfl, Nat.zero_le _, ⟨fun j hj => by omega⟩⟩
  case round =>
    obtain ⟨pos, rfl, hle, HA⟩ := hrel
    by_cases hp : pos < s.size
    · have hnx : ∀ ty, (Instr.next (.pointer (some ⟨w.heap.size, 0, none⟩)) true ty).run Tryz.prog (w.iter s pos) = _ := fun ty => run_next_any w s pos ty hp
      have hok := okPl_byte s pos hp
      generalize (Utf8.decode s pos).1 = r at hnx hok
      generalize (Utf8.decode s pos).2 = wd at hnx hok
      obtain ⟨hw1, hok, hok1⟩ := hok
      have HO := Aside0.mk hok
      have HO1 := Aside0.mk hok1
      clear hok hok1
      have HBad := Aside0.mk (fun hb : plB (s.data.toList.getD pos 0) = false => (HV.out ▸ isPl_false hp hb : V = false))
      have good : okPl (r : Int) = true → (∃ pos_1, w.iter s (pos + wd) = w.iter s pos_1 ∧ pos_1 ≤ s.size ∧ Aside0 (∀ j, j < pos_1 → plB (s.data.toList.getD j 0) = true)) ∧
          s.size - (w.iter s (pos + wd)).iterPos w.heap.size < s.size - (w.iter s pos).iterPos w.heap.size := by
        intro hg
        have e1 := HO1.out hg
        subst e1
        refine ⟨⟨pos + 1, rfl, by omega, ⟨fun j hj => ?_⟩⟩, by simp; omega⟩
        by_cases hj2 : j < pos
        · exact HA.out j hj2
        · obtain rfl : j = pos := by omega
          rw [← HO.out]; exact hg
      have HGood := Aside0.mk good
      clear good
      by_cases h9 : (r : Int) = 9
      · have HG := Aside0.mk (HGood.out (by simp [okPl, h9]))
        have q1 : ((r : Int) != 9) = false := by simp [h9]
        clear h9
        go_wp2
        all_goals exact HG.out
      · have q1 : ((r : Int) != 9) = true := by simpa using h9
        by_cases h32 : (r : Int) < 32
        · have hb : okPl (r : Int) = false := by simp only [okPl, decide_eq_false_iff_not]; omega
          obtain rfl := HBad.out (HO.out ▸ hb)
          have q2 : decide ((r : Int) < 32) = true := decide_eq_true h32
          clear hb h9
          go_wp2
          go_ret
          exact ⟨rfl, iter_below _ _ _⟩
        · have q2 : decide ((r : Int) < 32) = false := decide_eq_false h32
          by_cases h126 : (126 : Int) < r
          · have hb : okPl (r : Int) = false := by simp only [okPl, decide_eq_false_iff_not]; omega
            obtain rfl := HBad.out (HO.out ▸ hb)
            have q3 : decide ((126 : Int) < (r : Int)) = true := decide_eq_true h126
            clear hb h9
            go_wp2
            go_ret
            exact ⟨rfl, iter_below _ _ _⟩
          · have q3 : decide ((126 : Int) < (r : Int)) = false := decide_eq_false h126
            have HG := Aside0.mk (HGood.out (by simp only [okPl, decide_eq_true_eq]; omega))
            clear h9
            go_wp2
            all_goals exact HG.out
    · have hnx : ∀ ty, (Instr.next (.pointer (some ⟨w.heap.size, 0, none⟩)) true ty).run Tryz.prog (w.iter s pos) = _ := fun ty => run_next_end w s pos ty hp
      obtain rfl : pos = s.size := by omega
      have : V = true := by rw [← HV.out]; exact isPl_true HA.out
      subst this
      go_wp2
      go_ret
      exact ⟨rfl, iter_below _ _ _⟩
end Go.Proofs.YtolmkdhgnganaaaGreatDoor.H
namespace Go.Proofs.YtolmkdhgnganaaaGreatDoor.H
open Go Go.RowKit Go.Shelf Go.Proofs Go.Proofs.YtolmkdhgnganaaaGreatDoorW.PrintWords Go.Proofs.YtolmkdhgnganaaaGreatDoor.Sp
attribute [local go_sem] Oper.semAt_some
/-- What has come when k rounds are over. -/
def upN {α : Type} (f : Nat → α) (k : Nat) : List α := (List.range k).map f
theorem upN_succ {α : Type} (f : Nat → α) (k : Nat) : upN f (k + 1) = upN f k ++ [f k] := by simp [upN, List.range_succ]
theorem upN_length {α : Type} (f : Nat → α) (k : Nat) : (upN f k).length = k := by simp [upN]
/-- The pieces of a text between line ends. -/
def pieces (s : ByteArray) : List ByteArray := Lib.splitB ⟨#[10]⟩ 0 (Lib.countB s ⟨#[10]⟩) s
theorem pieces_len (s : ByteArray) : (pieces s).length = Lib.countB s ⟨#[10]⟩ + 1 := Lib.splitB_all _ (by decide) 0 _ s rfl
theorem split_size (sep : ByteArray) : ∀ (k : Nat) (s x : ByteArray), x ∈ Lib.splitB sep 0 k s → x.size ≤ s.size := by
  intro k
  induction k with
  | zero =>
    intro s x hx
    rw [Lib.splitB_zero] at hx
    obtain rfl : x = s := by simpa using hx
    exact Nat.le_refl _
  | succ k ih =>
    intro s x hx
    unfold Lib.splitB at hx
    split at hx
    · obtain rfl : x = s := by simpa using hx
      exact Nat.le_refl _
    · rcases List.mem_cons.1 hx with rfl | hx
      · rw [ByteArray.size_extract]; omega
      · have := ih _ _ hx
        rw [ByteArray.size_extract] at this
        omega
/-- A piece without its comment. -/
def bare (s : ByteArray) : ByteArray := ⟨(Lib.cut s.data.toList [59]).1.toArray⟩
/-- What is handed over in round j. -/
def cntAt (s : ByteArray) (j : Nat) : Int × ByteArray := ((j : Int) + 1, bare ((pieces s)[j]?.getD ByteArray.empty))
theorem bare_size (x : ByteArray) : (bare x).size ≤ x.size := by
  have h : (Lib.cut x.data.toList [59]).1.length ≤ x.data.toList.length := by
    unfold Lib.cut
    split
    · rw [List.length_take]; exact Nat.min_le_right _ _
    · exact Nat.le_refl _
  rw [Array.length_toList] at h
  show (Lib.cut x.data.toList [59]).1.toArray.size ≤ x.data.size
  rw [List.size_toArray]
  exact h
/-- What is handed over, and that it is not too long. -/
abbrev CX := { p : Int × ByteArray // p.2.size ≤ 65536 }
theorem piece_at_size {s : ByteArray} (hs : s.size ≤ 65536) (j : Nat) : ((pieces s)[j]?.getD ByteArray.empty).size ≤ 65536 := by
  by_cases h : j < (pieces s).length
  · rw [List.getElem?_eq_getElem h, Option.getD_some]
    exact Nat.le_trans (split_size _ _ _ _ (List.getElem_mem h)) hs
  · rw [List.getElem?_eq_none (by omega), Option.getD_none]
    decide
def cntX (s : ByteArray) (hs : s.size ≤ 65536) (j : Nat) : CX := ⟨cntAt s j, Nat.le_trans (bare_size _) (piece_at_size hs j)⟩
theorem grown_of {w w' : World} (h : Below w.heap.size w w') : w.grownBy w' none := ⟨h.os, h.tape, h.output, h.size, fun k hk _ => h.block k hk⟩
theorem split_b (s : ByteArray) (m : Int) (w : World) (hs : s.size ≤ 65536) (hm : w.cell? ⟨3, 0, none⟩ = some (.int .i64 m)) :
    Calls Tryz.prog 89 #[.string s, .string ⟨#[10]⟩] w fun e w' => e = .returned (.slice (some ⟨w.heap.size, 0, none⟩) (pieces s).length (pieces s).length) ∧ w' = w.alloc (.cells ((pieces s).map Value.string).toArray 9) := by
  have := Tryz.strings_Split s ⟨#[10]⟩ m w (by omega) hm (by decide)
  rw [← pieces_len] at this
  exact this
theorem pieces_le (s : ByteArray) (hs : s.size ≤ 65536) : (pieces s).length ≤ 65537 := by
  rw [pieces_len]
  have := Lib.countB_le ⟨#[10]⟩ (by decide) _ s (Nat.le_refl _)
  omega
theorem cut_b (x : ByteArray) (m : Int) (w : World) (hs : x.size ≤ 65536) (hm : w.cell? ⟨3, 0, none⟩ = some (.int .i64 m)) :
    Calls Tryz.prog 90 #[.string x, .string ⟨#[59]⟩] w fun e w' => ∃ y z q, e = .returned (.tuple #[.string (bare x), y, z]) ∧ w' = w.drewN q :=
  (Tryz.strings_Cut x ⟨#[59]⟩ m w (by omega) hm).mono fun e w' ⟨he, q, hq⟩ => ⟨_, _, q, he, hq⟩
theorem piece_size {s x : ByteArray} (hx : x ∈ pieces s) : x.size ≤ s.size := split_size _ _ _ _ hx
/-- The rows of strings are kept. -/
def KeepStr (W W' : World) : Prop := ∀ (k : Nat) (cs : Array Value), W.heap[k]? = some (Obj.cells cs 9 (0, 0)) → W'.heap[k]? = some (Obj.cells cs 9 (0, 0))
theorem KeepStr.refl (W : World) : KeepStr W W := fun _ _ h => h
theorem KeepStr.trans {A B C : World} (h : KeepStr A B) (k : KeepStr B C) : KeepStr A C := fun i cs hi => k i cs (h i cs hi)
theorem KeepStr.of_below {W W' : World} (h : Below W.heap.size W W') : KeepStr W W' := fun i cs hi => blk_below hi h
/-- What a round keeps. -/
def Kr (B : Nat) (W W' : World) : Prop := Below B W W' ∧ KeepStr W W'
theorem Kr.of_below {B : Nat} {W W' : World} (h : Below W.heap.size W W') (hB : B ≤ W.heap.size) : Kr B W W' := ⟨h.mono hB, KeepStr.of_below h⟩
set_option maxRecDepth 100000 in
set_option maxHeartbeats 2000000 in
theorem counts_stops (B Bs n : Nat) (s : ByteArray) (m : Int) (w : World) (hB : B ≤ w.heap.size) (hmB : 3 < B) (hs : s.size ≤ 65536) (hm : w.cell? ⟨3, 0, none⟩ = some (.int .i64 m)) (hc : w.heap[Bs]? = some (.cells #[.string s] 9 (0, 0))) :
    SeqStopsK Fence.wide n Tryz.prog 88 #[.pointer (some ⟨Bs, 0, none⟩)] (fun x : CX => #[Value.int .i64 x.1.1, Value.string x.1.2]) (Kr B) (fun ys => ys = upN (cntX s hs) (pieces s).length)
      (fun pre => ∃ k, k ≤ (pieces s).length ∧ pre = upN (cntX s hs) k) (pieces s).length w := fun l J Jx W hW hJ hJx hY h0 => by
  have hcW := blk_below hc hW
  have c0 := blk_cell hcW 0
  have hm1 := pw_cell_below hW hm
  have hpl := pieces_le s hs
  refine callsIn_of_wp Tryz.func88 rfl trivial ?_ rfl
  simp only [Tryz.ntmps88, List.size_toArray, List.length_cons, List.length_nil, Nat.reduceAdd, Nat.reduceSub, Array.replicate_succ, Array.replicate_zero, List.push_toArray, List.append_toArray, List.nil_append, List.cons_append]
  gi_wp2
  refine ⟨trivial, (fun h => by cases h), ?_⟩
  refine (callsIn_wide.2 (split_b s m _ hs hm1)).mono ?_
  rintro e w' ⟨rfl, rfl⟩
  have hJ1 : J [] (W.alloc (.cells ((pieces s).map Value.string).toArray 9)) := hJ [] _ _ none h0 (grown_of (below_alloc (Below.refl _ _) _)) (fun r e => by cases e)
  have hrow := blk_new W (.cells ((pieces s).map Value.string).toArray 9)
  have hbox := blk_alloc hcW (.cells ((pieces s).map Value.string).toArray 9)
  have hml := pw_cell_below (below_alloc (Below.refl W.heap.size W) (.cells ((pieces s).map Value.string).toArray 9)) hm1
  have hszB : W.heap.size ≤ (W.alloc (.cells ((pieces s).map Value.string).toArray 9)).heap.size := (below_alloc (Below.refl W.heap.size W) _).size
  generalize hW1 : W.alloc (.cells ((pieces s).map Value.string).toArray 9) = W1 at hJ1 hrow hbox hml hszB ⊢
  generalize hg : W.heap.size = g at hrow hszB ⊢
  gi_wp2
  gi_loopw [8] (fun i wr => ∃ k : Nat, k ≤ (pieces s).length ∧ i = .int .i64 k ∧ J (upN (cntX s hs) k) wr ∧ Kr B W1 wr ∧ g ≤ wr.heap.size) (fun i _ => (pieces s).length - (intOf i).toNat)
  case atStart => exact ⟨0, Nat.zero_le _, rfl, hJ1, ⟨Below.refl _ _, KeepStr.refl _⟩, hszB⟩
  case round =>
    obtain ⟨k, hk, rfl, hJs, hK, hsz⟩ := hrel
    have hb := hK.2 _ _ hrow
    by_cases hlt : k < (pieces s).length
    · have hcx : wr.cell? ⟨g, k, none⟩ = some (.string ((pieces s)[k]?.getD ByteArray.empty)) := by
        rw [blk_cell hb k]
        simp [hlt]
      have hpx : ((pieces s)[k]?.getD ByteArray.empty).size ≤ 65536 := by
        rw [List.getElem?_eq_getElem hlt, Option.getD_some]
        exact Nat.le_trans (piece_size (List.getElem_mem hlt)) hs
      have hmk := (hK.1.cell (p := ⟨3, 0, none⟩) hmB).trans hml
      have hwr : wrap64 ((k : Int) + 1) = (k : Int) + 1 := by unfold wrap64; omega
      have hbx : (bare ((pieces s)[k]?.getD ByteArray.empty)).size ≤ 65536 := Nat.le_trans (bare_size _) hpx
      have hat : cntX s hs k = ⟨((k : Int) + 1, bare ((pieces s)[k]?.getD ByteArray.empty)), hbx⟩ := rfl
      have HN := Aside0.mk (upN_succ (cntX s hs) k)
      rw [hat] at HN
      have HLn := Aside0.mk (upN_length (cntX s hs) k)
      have HJ := Aside0.mk hJs
      clear hJs
      generalize (pieces s)[k]?.getD ByteArray.empty = x at hcx hpx hbx hat HN
      gi_wp2
      refine ⟨trivial, (fun h => by cases h), ?_⟩
      refine (callsIn_wide.2 (cut_b x m _ hpx hmk)).mono ?_
      rintro e w' ⟨y, z, q, rfl, rfl⟩
      have hJq : J (upN (cntX s hs) k) (wr.drewN q) := hJ _ _ _ none HJ.out (grown_of (pw_below_drewN (Below.refl _ _) q)) (fun r e => by cases e)
      have hKq : Kr B W1 (wr.drewN q) := ⟨hK.1.trans ((pw_below_drewN (Below.refl _ _) q).mono (Nat.le_trans (Nat.le_trans hB (hg ▸ hW.size)) hsz)), hK.2.trans (KeepStr.of_below (pw_below_drewN (Below.refl _ _) q))⟩
      obtain ⟨fn, tmps, assign, body, hy, hR⟩ := hY _ ⟨((k : Int) + 1, bare x), hbx⟩ _ hJq (by rw [HLn.out]; exact hlt)
      dsimp only at hy
      gi_wp2
      refine ⟨(fun h => by cases h), ?_⟩
      refine hR.mono ?_
      rintro e W3 (⟨rfl, hJ3, hk3⟩ | ⟨rfl, hJx3⟩)
      · gi_wp2
        go_roundw
        case rel => exact ⟨k + 1, by omega, by simp [hwr], by rw [HN.out]; exact hJ3, ⟨hKq.1.trans hk3.1, hKq.2.trans hk3.2⟩, by have := hk3.1.size; have h2 : (wr.drewN q).heap.size = wr.heap.size := rfl; omega⟩
        case measure => simp [intOf, hwr]; omega
      · gi_wp2
        refine bodyPost_ret (results_none rfl _ _ _) rfl ?_
        exact ⟨⟨_, rfl⟩, .inr ⟨_, ⟨k + 1, by omega, HN.out.symm⟩, hJx3⟩⟩
    · obtain rfl : k = (pieces s).length := by omega
      gi_wp2
      go_end0
      exact ⟨⟨_, rfl⟩, .inl ⟨_, rfl, hJs⟩⟩
end Go.Proofs.YtolmkdhgnganaaaGreatDoor.H
namespace Go.Proofs.YtolmkdhgnganaaaGreatDoor.H
open Go Go.RowKit Go.Shelf Go.Proofs Go.Proofs.YtolmkdhgnganaaaGreatDoorW.PrintWords Go.Proofs.YtolmkdhgnganaaaGreatDoor.Sp
attribute [local go_sem] Oper.semAt_some
/-- What strings.Fields and strings.Split read of the library's variables. -/
structure LexG (w : World) : Prop where
  mx : ∃ m, w.cell? ⟨3, 0, none⟩ = some (.int .i64 m)
  tab : Lib.TabIs Tryz.prog w "strings.asciiSpace" .u8 Lib.asciiSpaceTab
theorem LexG.below {w w1 : World} (h : LexG w) (hb : Below w.heap.size w w1) : LexG w1 := by
  obtain ⟨m, hm⟩ := h.mx
  refine ⟨⟨m, pw_cell_below hb hm⟩, ?_⟩
  have ht := h.tab
  have hn : Tryz.prog.globalNamed "strings.asciiSpace" = some 4 := by kernel_rfl
  simp only [Lib.TabIs, World.var?, hn, Option.bind_some] at ht ⊢
  rw [hb.block _ ?_]
  · exact ht
  · exact Nat.lt_of_not_le fun hle => by
      rw [Array.getElem?_eq_none hle] at ht
      cases ht
/-- A line: its number and its words. -/
structure Ln where
  n : Int
  ws : List ByteArray
def zLn : Ln := ⟨0, []⟩
def kLine : Kd Ln := Kd.iso (Kd.pair (Kd.int .i64) (Kd.slice 9 Kd.string)) (fun x : Ln => (x.n, x.ws))
theorem kLine_mkM (w : World) (base : Nat) (ok : Nat → Prop) (x : Ln) {v : Value} (g : Kd.string.R 9 w base ok v x.ws) : kLine.M w base ok x [.int .i64 x.n, v] := ⟨[.int .i64 x.n], [v], rfl, rfl, ⟨v, rfl, g⟩⟩
theorem infoLn : (Tryz.prog.info? 81).map (fun i => (i.zero, i.size, i.bytes)) = some (some (.agg #[.int .i64 0, .slice none 0 0]), 2, 32) := by kernel_rfl
/-- The words of a line. -/
def wordsOf (x : ByteArray) : List ByteArray := (Lib.fields x.data.toList).map fun l => (⟨l.toArray⟩ : ByteArray)
def toLn (p : Int × ByteArray) : Option Ln := if (wordsOf p.2).isEmpty then none else some ⟨p.1, wordsOf p.2⟩
def lnsOf (pre : List (Int × ByteArray)) : List Ln := pre.filterMap toLn
def allPl (pre : List (Int × ByteArray)) : Prop := ∀ p ∈ pre, isPl p.2.data.toList = true
theorem lnsOf_some {pre : List (Int × ByteArray)} {p : Int × ByteArray} (h : ¬ (wordsOf p.2).isEmpty = true) : lnsOf (pre ++ [p]) = lnsOf pre ++ [⟨p.1, wordsOf p.2⟩] := by
  unfold lnsOf
  rw [List.filterMap_append]
  simp [toLn, h]
theorem lnsOf_none {pre : List (Int × ByteArray)} {p : Int × ByteArray} (h : (wordsOf p.2).isEmpty = true) : lnsOf (pre ++ [p]) = lnsOf pre := by
  unfold lnsOf
  rw [List.filterMap_append]
  simp [toLn, h]
theorem lnsOf_le (pre : List (Int × ByteArray)) : (lnsOf pre).length ≤ pre.length := List.length_filterMap_le _ _
theorem fields_b (x : ByteArray) (w : World) (hpl : isPl x.data.toList = true) (hs : x.size ≤ 65536) (htab : Lib.TabIs Tryz.prog w "strings.asciiSpace" .u8 Lib.asciiSpaceTab) :
    Calls Tryz.prog 62 #[.string x] w fun e w' => e = .returned (.slice (some ⟨w.heap.size, 0, none⟩) (wordsOf x).length (wordsOf x).length) ∧ w' = w.alloc (.cells ((wordsOf x).map Value.string).toArray 9) := by
  have h := Tryz.strings_Fields x w (by omega) (fun j b hj => by
    unfold isPl at hpl
    rw [List.all_eq_true] at hpl
    have := hpl b (List.mem_of_getElem? hj)
    simp only [plB, decide_eq_true_eq] at this
    omega) htab
  simpa [wordsOf, Function.comp_def] using h
theorem counts_b (s : ByteArray) (w : World) : Calls Tryz.prog 60 #[.string s] w fun e w' => e = .returned (.func (.func 88) #[] #[.pointer (some ⟨w.heap.size, 0, none⟩)]) ∧ w' = w.alloc (.cells #[.string s] 9) := by
  go_enter Tryz.func60, Tryz.ntmps60
  go_wp2
  go_ret
  exact ⟨rfl, rfl⟩
/-- What holds between two rounds of Lines (w: the world of the call). -/
structure LnI (w : World) (pre : List CX) (W : World) : Prop where
  b : Below w.heap.size w W
  r2 : W.heap[w.heap.size]? = some (.cells #[.slice none 0 0] 72 (0, 0))
  r3 : W.heap[w.heap.size + 1]? = some (.cells #[.int .i64 0] 3 (0, 0))
  r4 : W.heap[w.heap.size + 2]? = some (.cells #[.int .i64 0] 27 (0, 0))
  l : ∃ v, W.heap[w.heap.size + 3]? = some (.cells #[v] 72 (0, 0)) ∧ kLine.R 81 W w.heap.size (fun _ => True) v (lnsOf (pre.map (·.1)))
  ok : allPl (pre.map (·.1))
/-- What holds where a round has left. -/
structure LnX (w : World) (pre : List CX) (W : World) : Prop where
  b : Below w.heap.size w W
  p : ∃ (ini : List CX) (last : CX), pre = ini ++ [last] ∧ allPl (ini.map (·.1)) ∧ isPl last.1.2.data.toList = false ∧ W.heap[w.heap.size + 1]? = some (.cells #[.int .i64 last.1.1] 3 (0, 0))
  r2 : W.heap[w.heap.size]? = some (.cells #[.slice none 0 0] 72 (0, 0))
  r4 : W.heap[w.heap.size + 2]? = some (.cells #[.int .i64 6] 27 (0, 0))
theorem blk_own {W W' : World} {row : Option Nat} {g t : Nat} {cs : Array Value} (h : W.heap[g]? = some (.cells cs t (0, 0))) (hg : W.grownBy W' row) (hr : ∀ r, row = some r → ∃ o : Obj, W.heap[r]? = some o ∧ o.isCells = false) : W'.heap[g]? = some (.cells cs t (0, 0)) :=
  (hg.block g (blk_lt h) (fun e => by
    obtain ⟨o, ho, hc⟩ := hr g e.symm
    rw [h] at ho
    cases ho
    cases hc)).trans h
theorem LnI.own (w : World) : OwnFrom w.heap.size (LnI w) := fun pre W W' row h hg hr => by
  have hr2 : ∀ r, row = some r → ∃ o : Obj, W.heap[r]? = some o ∧ o.isCells = false := fun r e => (hr r e).2
  obtain ⟨v, l1, l2⟩ := h.l
  refine ⟨h.b.grown hg h.b.size (fun k e => (hr k e).1), blk_own h.r2 hg hr2, blk_own h.r3 hg hr2, blk_own h.r4 hg hr2, ⟨v, blk_own l1 hg hr2, ?_⟩, h.ok⟩
  refine Kd.R_mono (Kd.R_move (Kd.R_bound l2) (fun k hk => hg.block k hk.2.2.1 (fun e => ?_))) (fun _ _ => trivial)
  obtain ⟨o, ho, hc⟩ := hr2 k e.symm
  obtain ⟨q, _, cells, hq⟩ := hk.2.2.2
  rw [hq] at ho
  cases ho
  cases hc
theorem LnX.own (w : World) : OwnFrom w.heap.size (LnX w) := fun pre W W' row h hg hr => by
  have hr2 : ∀ r, row = some r → ∃ o : Obj, W.heap[r]? = some o ∧ o.isCells = false := fun r e => (hr r e).2
  obtain ⟨ini, last, e, h1, h2, h3⟩ := h.p
  exact ⟨h.b.grown hg h.b.size (fun k e => (hr k e).1), ⟨ini, last, e, h1, h2, blk_own h3 hg hr2⟩, blk_own h.r2 hg hr2, blk_own h.r4 hg hr2⟩
theorem LnI.below {w W W1 : World} {pre : List CX} (h : LnI w pre W) (hb : Below W.heap.size W W1) : LnI w pre W1 := by
  obtain ⟨v, l1, l2⟩ := h.l
  exact ⟨below_step h.b hb, blk_below h.r2 hb, blk_below h.r3 hb, blk_below h.r4 hb, ⟨v, blk_below l1 hb, Kd.R_below l2 hb⟩, h.ok⟩
theorem Kr.trans {B : Nat} {X Y Z : World} (h : Kr B X Y) (k : Kr B Y Z) : Kr B X Z := ⟨h.1.trans k.1, h.2.trans k.2⟩
theorem Kr.put {B : Nat} {w : World} (hn : B ≤ w.heap.size) (W : World) (l : Nat) (o o' : Obj) (hl : w.heap.size ≤ l) (h : W.heap[l]? = some o) (hc : o.isCells = false) (hw : o.isWalk = false) : Kr B W (W.putObj l o') :=
  ⟨belowK_b hn W l o o' hl h hc hw, fun k cs hk => blk_own hk (grownBy_putObj' W l o') (fun r e => by cases e; exact ⟨o, h, hc⟩)⟩
theorem types_ln : ∀ t, t ∈ 81 :: kLine.E → t ≠ 72 := by decide
/-- A line has been put behind the others, and the row stored. -/
theorem LnI.push {w W4 W5 : World} {pre : List CX} {x : CX} {v v1 : Value} {inner : List Value} {g : Nat} (h : LnI w pre W4) (hl : W4.heap[w.heap.size + 3]? = some (.cells #[v] 72 (0, 0)))
    (ho : W4.ownsRow w.heap.size 81 2 v (lnsOf (pre.map (·.1))).length inner)
    (hr : Reps (kLine.M W4 w.heap.size (fun k => True ∧ some k ≠ v.ownBlock)) 2 (lnsOf (pre.map (·.1))) inner)
    (hw : Kd.string.R 9 W4 w.heap.size (fun k => g ≤ k) (.slice (some ⟨g, 0, none⟩) (wordsOf x.1.2).length (wordsOf x.1.2).length) (wordsOf x.1.2)) (hgv : ∀ k, v.ownBlock = some k → k < g)
    (hne : ¬ (wordsOf x.1.2).isEmpty = true) (hpl : isPl x.1.2.data.toList = true)
    (hown : W5.ownsRow w.heap.size 81 2 v1 ((lnsOf (pre.map (·.1))).length + 1) (inner ++ [.int .i64 x.1.1, .slice (some ⟨g, 0, none⟩) (wordsOf x.1.2).length (wordsOf x.1.2).length]))
    (hg : W4.grownBy W5 v.ownBlock) (hat : v1.ownBlock = v.ownBlock ∨ v1.ownBlock = some W4.heap.size) :
    W5.heap[w.heap.size + 3]? = some (.cells #[v] 72 (0, 0)) ∧ LnI w (pre ++ [x]) (W5.setCell ⟨w.heap.size + 3, 0, none⟩ v1) ∧ KeepsOthers W4 (W5.setCell ⟨w.heap.size + 3, 0, none⟩ v1) ∧ Kr w.heap.size W4 (W5.setCell ⟨w.heap.size + 3, 0, none⟩ v1) := by
  have far : ∀ {k t : Nat} {cs : Array Value}, W4.heap[k]? = some (.cells cs t (0, 0)) → 81 ≠ t → W5.heap[k]? = some (.cells cs t (0, 0)) := fun {k t cs} hh ht => (hg.block k (blk_lt hh) (own_ne ho hh ht)).trans hh
  have hl5 := far hl (by decide)
  have r2 := far h.r2 (by decide)
  have r3 := far h.r3 (by decide)
  have r4 := far h.r4 (by decide)
  have hb5 : Below w.heap.size w W5 := h.b.grown hg h.b.size (fun k e => own_base ho k e)
  have hR : kLine.R 81 W5 w.heap.size (fun _ => True) v1 (lnsOf (pre.map (·.1)) ++ [⟨x.1.1, wordsOf x.1.2⟩]) :=
    Kd.R_appended (d := kLine) (okp := fun k => g ≤ k) (fun _ _ => trivial) hr (kLine_mkM W4 w.heap.size _ ⟨x.1.1, wordsOf x.1.2⟩ hw) (fun k hk => ⟨trivial, fun e => by have := hgv k e.symm; omega⟩) (fun _ _ => trivial) hown hg
      (hat.imp id (fun e => ⟨_, e, Nat.le_refl _⟩))
  refine ⟨hl5, ?_, (KeepsOthers.of_grownBy hg (fun j o e hj => by
    obtain ⟨cells, hc⟩ := own_typed ho j e
    rw [hc] at hj
    cases hj
    rfl)).trans (KeepsOthers.setCell _ _ _), (((Below.refl _ W4).grown hg h.b.size (fun k e => own_base ho k e)).setCell (p := ⟨w.heap.size + 3, 0, none⟩) (by show w.heap.size ≤ w.heap.size + 3; omega) _), fun k cs hk => blk_far (far hk (by decide)) (fun e => by
      have e2 : k = w.heap.size + 3 := e
      subst e2
      rw [hl] at hk
      cases hk) _⟩
  refine ⟨below_set hb5 (by omega), blk_far r2 (by show w.heap.size ≠ w.heap.size + 3; omega) _, blk_far r3 (by show w.heap.size + 1 ≠ w.heap.size + 3; omega) _, blk_far r4 (by show w.heap.size + 2 ≠ w.heap.size + 3; omega) _, ⟨v1, ?_, ?_⟩, ?_⟩
  · have := blk_set hl5 0 v1
    simpa using this
  · rw [List.map_append, List.map_cons, List.map_nil, lnsOf_some hne]
    exact Kd.R_set hR hl5 types_ln 0 v1
  · intro p hp
    rw [List.map_append, List.mem_append] at hp
    rcases hp with hp | hp
    · exact h.ok p hp
    · obtain rfl : p = x.1 := by simpa using hp
      exact hpl
theorem LnI.skip {w W : World} {pre : List CX} {x : CX} (h : LnI w pre W) (he : (wordsOf x.1.2).isEmpty = true) (hpl : isPl x.1.2.data.toList = true) : LnI w (pre ++ [x]) W := by
  refine ⟨h.b, h.r2, h.r3, h.r4, ?_, ?_⟩
  · rw [List.map_append, List.map_cons, List.map_nil, lnsOf_none he]
    exact h.l
  · intro p hp
    rw [List.map_append, List.mem_append] at hp
    rcases hp with hp | hp
    · exact h.ok p hp
    · obtain rfl : p = x.1 := by simpa using hp
      exact hpl
/-- A round that finds a byte that is not permitted. -/
theorem LnI.bad {w W : World} {pre : List CX} {x : CX} (h : LnI w pre W) (hpl : isPl x.1.2.data.toList = false) :
    LnX w (pre ++ [x]) (((W.setCell ⟨w.heap.size, 0, none⟩ (.slice none 0 0)).setCell ⟨w.heap.size + 1, 0, none⟩ (.int .i64 x.1.1)).setCell ⟨w.heap.size + 1 + 1, 0, none⟩ (.int .i64 6)) := by
  refine ⟨below_set (below_set (below_set h.b (by omega)) (by omega)) (by omega), ⟨pre, x, rfl, h.ok, hpl, ?_⟩, ?_, ?_⟩
  · have := blk_set (blk_far h.r3 (p := ⟨w.heap.size, 0, none⟩) (by show w.heap.size + 1 ≠ w.heap.size; omega) (.slice none 0 0)) 0 (.int .i64 x.1.1)
    exact blk_far (by simpa using this) (by show w.heap.size + 1 ≠ w.heap.size + 1 + 1; omega) _
  · have := blk_set h.r2 0 (.slice none 0 0)
    exact blk_far (blk_far (by simpa using this) (by show w.heap.size ≠ w.heap.size + 1; omega) _) (by show w.heap.size ≠ w.heap.size + 1 + 1; omega) _
  · have := blk_set (blk_far (blk_far h.r4 (p := ⟨w.heap.size, 0, none⟩) (by show w.heap.size + 2 ≠ w.heap.size; omega) (.slice none 0 0)) (p := ⟨w.heap.size + 1, 0, none⟩) (by show w.heap.size + 2 ≠ w.heap.size + 1; omega) (.int .i64 x.1.1)) 0 (.int .i64 6)
    simpa using this
theorem reps_str (W : World) (base : Nat) (ok : Nat → Prop) : ∀ l : List ByteArray, Reps (Kd.string.M W base ok) Kd.string.sz l (l.map Value.string)
  | [] => Reps.none _ _
  | x :: l => Reps.one rfl (reps_str W base ok l)
/-- A row of strings that has been laid. -/
theorem str_row (W : World) (base : Nat) (hb : base ≤ W.heap.size) (l : List ByteArray) (hl : l.length ≤ 9223372036854775807) :
    Kd.string.R 9 (W.alloc (.cells (l.map Value.string).toArray 9)) base (fun k => W.heap.size ≤ k) (.slice (some ⟨W.heap.size, 0, none⟩) l.length l.length) l :=
  ⟨fun k hk => by
    have : W.heap.size = k := by simpa [Value.ownBlock] using hk
    omega, OwnRow.lit W base (reps_str _ _ _ l) hb hl⟩
theorem cnt_le : ∀ (l : List UInt8) (ws : Bool), Lib.cntF ws l ≤ l.length
  | [], ws => by cases ws <;> exact Nat.le_refl _
  | b :: l, ws => by
    have := cnt_le l (Lib.isSp b)
    rw [Lib.cntF, List.length_cons]
    split <;> omega
theorem words_le {x : ByteArray} (hx : x.size ≤ 65536) : (wordsOf x).length ≤ 65536 := by
  unfold wordsOf
  rw [List.length_map, Lib.fields_length]
  have := cnt_le x.data.toList true
  rw [Array.length_toList] at this
  exact Nat.le_trans this hx
theorem keeps_of {W W' : World} (h : Below W.heap.size W W') : KeepsOthers W W' := KeepsOthers.of_grownBy (grown_of h) (fun j o e => by cases e)
end Go.Proofs.YtolmkdhgnganaaaGreatDoor.H
namespace Go.Proofs.YtolmkdhgnganaaaGreatDoor.H
open Go Go.RowKit Go.Proofs Go.Proofs.YtolmkdhgnganaaaGreatDoorW.PrintWords Go.Proofs.YtolmkdhgnganaaaGreatDoor.Sp
/-- A number and an error. -/
def numV (v e : Int) : Value := .tuple #[.int .i64 v, .int .i64 e]
set_option maxHeartbeats 1000000 in
theorem num_bad1 (D : ByteArray) (w : World) (d1 : D.toList = []) : Calls Tryz.prog 93 #[.string D, .int .i64 256] w (RetB w (numV 0 6)) := by
  have d2 : D.toList.isEmpty = true := by rw [d1]; rfl
  go_enter Tryz.func93, Tryz.ntmps93
  go_wp2
  go_ret2
  exact ⟨rfl, Below.refl _ _⟩
set_option maxHeartbeats 1000000 in
theorem num_bad3 (D : ByteArray) (w : World) (hDs : D.size ≤ 140737488355328) (d1 : ¬ D.toList = []) (d2 : D.toList.isEmpty = false) (e2 : (trimD D).toList.isEmpty = false) :
    Calls Tryz.prog 93 #[.string D, .int .i64 256] w (RetB w (numV 0 6)) := by
  have e1 : ¬ (trimD D).toList = [] := fun h => by rw [h] at e2; cases e2
  go_enter Tryz.func93, Tryz.ntmps93
  go_wp2_with fail
  refine (trim_b D _ (by omega)).mono ?_
  rintro e w1 ⟨rfl, hb1⟩
  go_wp2
  go_ret2
  exact ⟨rfl, hb1⟩
set_option maxHeartbeats 1000000 in
theorem num_bad4 (D : ByteArray) (w : World) (hDs : D.size ≤ 140737488355328) (d1 : ¬ D.toList = []) (d2 : D.toList.isEmpty = false) (e1 : (trimD D).toList = []) (e2 : (trimD D).toList.isEmpty = true)
    (z0 : 0 < D.size) (z1 : (1 : Int) < (D.size : Int)) (z2 : D[0].toNat = 48) : Calls Tryz.prog 93 #[.string D, .int .i64 256] w (RetB w (numV 0 6)) := by
  have z3 : ((D[0].toNat : Int) == 48) = true := by rw [z2]; rfl
  clear z2
  go_enter Tryz.func93, Tryz.ntmps93
  go_wp2_with fail
  refine (trim_b D _ (by omega)).mono ?_
  rintro e w1 ⟨rfl, hb1⟩
  go_wp2
  go_ret2
  exact ⟨rfl, hb1⟩
set_option maxHeartbeats 1000000 in
theorem num_range (D : ByteArray) (w : World) (hDs : D.size ≤ 140737488355328) (he : Errs w) (d1 : ¬ D.toList = []) (d2 : D.toList.isEmpty = false) (e1 : (trimD D).toList = []) (e2 : (trimD D).toList.isEmpty = true)
    (z0 : 0 < D.size) (z : ¬ (1 : Int) < (D.size : Int) ∨ ((1 : Int) < (D.size : Int) ∧ ((D[0].toNat : Int) == 48) = false)) (hA : Lib.atoiAll D.data.toList = .range) :
    Calls Tryz.prog 93 #[.string D, .int .i64 256] w (RetB w (numV 0 3)) := by
  have HA := Aside0.mk hA
  clear hA
  rcases z with z1 | ⟨z1, z3⟩
  all_goals
    go_enter Tryz.func93, Tryz.ntmps93
    go_wp2_with fail
    refine (trim_b D _ (by omega)).mono ?_
    rintro e w1 ⟨rfl, hb1⟩
    go_wp2_with fail
    refine (atoi_range D hDs HA.out w1 (he.below hb1)).mono ?_
    rintro e w2 ⟨t, p, rfl, hb2⟩
    go_wp2
    go_ret2
    exact ⟨rfl, below_step hb1 hb2⟩
set_option maxHeartbeats 1000000 in
theorem num_num (D : ByteArray) (w : World) (hDs : D.size ≤ 140737488355328) (d1 : ¬ D.toList = []) (d2 : D.toList.isEmpty = false) (e1 : (trimD D).toList = []) (e2 : (trimD D).toList.isEmpty = true)
    (z0 : 0 < D.size) (z : ¬ (1 : Int) < (D.size : Int) ∨ ((1 : Int) < (D.size : Int) ∧ ((D[0].toNat : Int) == 48) = false)) (v : Int) (hA : Lib.atoiAll D.data.toList = .ok v) (r : Value) (hr : (256 < v ∧ r = numV 0 3) ∨ (v ≤ 256 ∧ r = numV v 0)) :
    Calls Tryz.prog 93 #[.string D, .int .i64 256] w (RetB w r) := by
  have HA := Aside0.mk hA
  clear hA
  rcases hr with ⟨hv, rfl⟩ | ⟨hv, rfl⟩
  all_goals
    rcases z with z1 | ⟨z1, z3⟩
    all_goals
      go_enter Tryz.func93, Tryz.ntmps93
      go_wp2_with fail
      refine (trim_b D _ (by omega)).mono ?_
      rintro e w1 ⟨rfl, hb1⟩
      go_wp2_with fail
      refine (atoi_ok D hDs v HA.out w1).mono ?_
      rintro e w2 ⟨rfl, hb2⟩
      go_wp2
      go_ret2
      exact ⟨rfl, below_step hb1 hb2⟩
/-- Number, whatever it is given. -/
theorem num_b (D : ByteArray) (w : World) (hDs : D.size ≤ 140737488355328) (he : Errs w) :
    Calls Tryz.prog 93 #[.string D, .int .i64 256] w (RetB w (numV (numParse D.data.toList 256).1 (numParse D.data.toList 256).2)) := by
  by_cases hs : numSyn D.data.toList = true
  · have hne : D.data.toList ≠ [] := by intro hh; rw [hh] at hs; simp [numSyn] at hs
    have hz0 : 0 < D.size := by rw [← size_data]; exact List.length_pos_iff.2 hne
    have hall : D.data.toList.all isDig = true := by simp only [numSyn, Bool.and_eq_true] at hs; exact hs.1.2
    have d1 : ¬ D.toList = [] := by rw [toList_data]; exact hne
    have d2 : D.toList.isEmpty = false := by rw [toList_isEmpty]; exact decide_eq_false (by omega)
    have e1 : (trimD D).toList = [] := (trimD_nil D).2 hall
    have e2 : (trimD D).toList.isEmpty = true := by rw [e1]; rfl
    have hz : ¬ (1 : Int) < (D.size : Int) ∨ ((1 : Int) < (D.size : Int) ∧ ((D[0].toNat : Int) == 48) = false) := by
      by_cases h1 : (1 : Int) < (D.size : Int)
      · refine .inr ⟨h1, ?_⟩
        have hd := data_cons D hz0
        simp only [numSyn, Bool.and_eq_true] at hs
        have h2 := hs.2
        rw [hd] at h2
        have h3 : decide (1 < (D[0] :: (D.extract 1 D.size).data.toList).length) = true := by rw [← hd, size_data]; simp; omega
        rw [h3] at h2
        simp only [List.head?_cons, Bool.true_and, Bool.not_eq_true'] at h2
        have h4 : D[0] ≠ 48 := by intro hh; rw [hh] at h2; simp at h2
        have h5 : ¬ D[0].toNat = 48 := by intro hh; exact h4 (UInt8.toNat_inj.1 (by rw [hh]; rfl))
        simp; omega
      · exact .inl h1
    obtain ⟨hA1, hA2⟩ := atoi_dig D.data.toList hne hall
    by_cases hv : digNat D.data.toList < 9223372036854775808
    · refine num_num D w hDs d1 d2 e1 e2 hz0 hz _ (hA1 hv) _ ?_
      by_cases h5 : digNat D.data.toList ≤ 256
      · exact .inr ⟨by omega, by simp [numParse, hs, h5]⟩
      · exact .inl ⟨by omega, by simp [numParse, hs, h5]⟩
    · have h5 : ¬ digNat D.data.toList ≤ 256 := by omega
      have e : numParse D.data.toList 256 = (0, 3) := by simp [numParse, hs, h5]
      rw [e]
      exact num_range D w hDs he d1 d2 e1 e2 hz0 hz (hA2 hv)
  · have e : numParse D.data.toList 256 = (0, 6) := by simp [numParse, hs]
    rw [e]
    by_cases hz0 : 0 < D.size
    · have d1 : ¬ D.toList = [] := by rw [toList_nil_iff]; omega
      have d2 : D.toList.isEmpty = false := by rw [toList_isEmpty]; exact decide_eq_false (by omega)
      by_cases hall : D.data.toList.all isDig = true
      · have e1 : (trimD D).toList = [] := (trimD_nil D).2 hall
        have e2 : (trimD D).toList.isEmpty = true := by rw [e1]; rfl
        have hd := data_cons D hz0
        have hl2 : D.data.toList.length = D.size := size_data D
        have hne : D.data.toList.isEmpty = false := by rw [hd]; rfl
        have h2 : (decide (1 < D.data.toList.length) && D.data.toList.head? == some 48) = true := by
          simp only [numSyn, hne, hall, Bool.not_false, Bool.true_and] at hs
          simpa using hs
        simp only [Bool.and_eq_true, decide_eq_true_eq] at h2
        have h3 : D[0] = 48 := by
          have := h2.2
          rw [hd] at this
          simpa using this
        exact num_bad4 D w hDs d1 d2 e1 e2 hz0 (by have := h2.1; omega) (by rw [h3]; rfl)
      · have e2 : (trimD D).toList.isEmpty = false := by
          cases hh : (trimD D).toList with
          | nil => exact absurd ((trimD_nil D).1 hh) hall
          | cons a r => rfl
        exact num_bad3 D w hDs d1 d2 e2
    · exact num_bad1 D w (by rw [toList_nil_iff]; omega)
end Go.Proofs.YtolmkdhgnganaaaGreatDoor.H
namespace Go.Proofs.YtolmkdhgnganaaaGreatDoor.H
open Go Go.RowKit Go.Proofs Go.Proofs.YtolmkdhgnganaaaGreatDoorW.PrintWords Go.Proofs.YtolmkdhgnganaaaGreatDoor.Sp
theorem infoByte : (Tryz.prog.info? 5).map (fun i => (i.zero, i.size, i.bytes)) = some (some (.int .u8 0), 1, 1) := by kernel_rfl
end Go.Proofs.YtolmkdhgnganaaaGreatDoor.H
namespace Go.Proofs.YtolmkdhgnganaaaGreatDoor.H
open Go Go.RowKit Go.Proofs Go.Proofs.YtolmkdhgnganaaaGreatDoorW.PrintWords Go.Proofs.YtolmkdhgnganaaaGreatDoor.Sp
def kwC : List ByteArray := [⟨#[110, 111]⟩, ⟨#[110, 99]⟩, ⟨#[117, 112]⟩, ⟨#[100, 111, 119, 110]⟩]
def kwO : List ByteArray := [⟨#[111, 117, 116]⟩, ⟨#[110, 111, 116]⟩, ⟨#[115, 101, 116]⟩, ⟨#[114, 101, 115, 101, 116]⟩]
/-- The two tables' cells. -/
structure Kws (w : World) : Prop where
  c : ∀ j, j < 4 → w.cell? ⟨0, j, none⟩ = some (.string (kwC.getD j ⟨#[]⟩))
  o : ∀ j, j < 4 → w.cell? ⟨1, j, none⟩ = some (.string (kwO.getD j ⟨#[]⟩))
theorem Kws.below {w w' : World} (h : Kws w) (hb : Below w.heap.size w w') : Kws w' := ⟨fun j hj => pw_cell_below hb (h.c j hj), fun j hj => pw_cell_below hb (h.o j hj)⟩
/-- A row of four strings of the call's own. -/
def KwRow (base : Nat) (kw : List ByteArray) (g : Nat) (cap : Nat) (w : World) : Prop := base ≤ g ∧ 4 ≤ cap ∧ ∃ cur, w.heap[g]? = some (.cells cur 9 (0, 0)) ∧ ∀ j, j < 4 → cur[j]? = some (.string (kw.getD j ⟨#[]⟩))
def KwB (w : World) (kw : List ByteArray) (e : Ending) (w' : World) : Prop := ∃ g cap, e = .returned (.slice (some ⟨g, 0, none⟩) 4 cap) ∧ KwRow w.heap.size kw g cap w' ∧ Below w.heap.size w w'
theorem kwRow_of {w : World} {B : Nat} {kw : List ByteArray} {v : Value} (hk : kw.length = 4) (h : w.ownsRow B 9 1 v 4 ((kw.take 4).map Value.string)) : ∃ g cap, v = .slice (some ⟨g, 0, none⟩) 4 cap ∧ KwRow B kw g cap w := by
  rcases h.2 with ⟨_, h0⟩ | ⟨g, cap, cur, rfl, hg, hh, hn, hm, hs, ht⟩
  · omega
  · refine ⟨g, cap, rfl, hg, hn, cur, hh, fun j hj => ?_⟩
    have := congrArg (·[j]?) ht
    simp only [List.getElem?_take, Nat.mul_one, hj, if_true, Array.getElem?_toList, List.getElem?_map] at this
    rw [this]
    simp [List.getD, show j < kw.length by omega]
theorem conKw_b (w : World) (hk : Kws w) : Calls Tryz.prog 20 #[] w (KwB w kwC) := by
  have C := Tryz.slices_Clone_string 0 0 4 4 kwC w (by decide) (by decide) (fun j hj => by rw [Nat.zero_add]; exact hk.c j hj)
  go_enter Tryz.func20, Tryz.ntmps20
  go_wp2_with fail
  refine C.mono ?_
  rintro e w1 ⟨v', rfl, hown, _, hb⟩
  obtain ⟨g, cap, rfl, hr⟩ := kwRow_of rfl hown
  go_wp2
  go_ret
  exact ⟨g, cap, rfl, hr, hb⟩
theorem coilKw_b (w : World) (hk : Kws w) : Calls Tryz.prog 22 #[] w (KwB w kwO) := by
  have C := Tryz.slices_Clone_string 1 0 4 4 kwO w (by decide) (by decide) (fun j hj => by rw [Nat.zero_add]; exact hk.o j hj)
  go_enter Tryz.func22, Tryz.ntmps22
  go_wp2_with fail
  refine C.mono ?_
  rintro e w1 ⟨v', rfl, hown, _, hb⟩
  obtain ⟨g, cap, rfl, hr⟩ := kwRow_of rfl hown
  go_wp2
  go_ret
  exact ⟨g, cap, rfl, hr, hb⟩
end Go.Proofs.YtolmkdhgnganaaaGreatDoor.H
namespace Go.Proofs.YtolmkdhgnganaaaGreatDoor.H
open Go Go.RowKit Go.Proofs Go.Proofs.YtolmkdhgnganaaaGreatDoorW.PrintWords Go.Proofs.YtolmkdhgnganaaaGreatDoor.Sp
/-- What the parser holds. -/
structure PSt where
  i : Int
  q : Int
  m : Int
  sized : Bool
  rungs : List Rung
  lines : List Int
  jumps : List Int
/-- The types of the blocks that are the parser's. -/
def parT (t : Nat) : Bool := t == 77 || t == 53 || t == 59 || t == 69 || t == 3
/-- Nothing that lay below B is changed, nor any block that is not of the parser's types. -/
structure KP (B : Nat) (w w' : World) : Prop where
  b : Below B w w'
  k : ∀ (k : Nat) (o : Obj), w.heap[k]? = some o → (∀ cs t fr, o = .cells cs t fr → parT t = false) → w'.heap[k]? = some o
theorem KP.of_below {B : Nat} {w w' : World} (hB : B ≤ w.heap.size) (h : Below w.heap.size w w') : KP B w w' := ⟨h.mono hB, fun k o hk _ => blk_below hk h⟩
theorem KP.trans {B : Nat} {a b c : World} (h : KP B a b) (k : KP B b c) : KP B a c := ⟨h.b.trans k.b, fun i o hi ho => k.k i o (h.k i o hi ho) ho⟩
theorem KP.grown {B : Nat} {w w' : World} {row : Option Nat} {t : Nat} (hB : B ≤ w.heap.size) (hg : w.grownBy w' row) (hr : ∀ k, row = some k → B ≤ k ∧ ∃ cells, w.heap[k]? = some (.cells cells t (0, 0))) (ht : parT t = true) : KP B w w' :=
  ⟨(Below.refl B w).grown hg hB (fun k e => (hr k e).1), fun k o hk ho => (hg.block k (blk_lt hk) (fun e => by
    obtain ⟨_, cells, hc⟩ := hr k e.symm
    rw [hk] at hc
    cases hc
    have := ho _ _ _ rfl
    rw [ht] at this
    cases this)).trans hk⟩
theorem KP.set {B : Nat} {w : World} {g j t : Nat} {cs : Array Value} (hB : B ≤ g) (hg : w.heap[g]? = some (.cells cs t (0, 0))) (ht : parT t = true) (v : Value) : KP B w (w.setCell ⟨g, j, none⟩ v) :=
  ⟨(Below.refl B w).setCell (p := ⟨g, j, none⟩) hB v, fun k o hk ho => (Below.heap_setCell w ⟨g, j, none⟩ v k (fun e => by
    have e2 : k = g := e
    subst e2
    rw [hk] at hg
    cases hg
    have := ho _ _ _ rfl
    rw [ht] at this
    cases this)).trans hk⟩
theorem KP.blk {B : Nat} {w w' : World} (h : KP B w w') {g t : Nat} {cs : Array Value} (hg : w.heap[g]? = some (.cells cs t (0, 0))) (ht : parT t = false) : w'.heap[g]? = some (.cells cs t (0, 0)) :=
  h.k g _ hg (fun cs t fr e => by cases e; exact ht)
/-- The lines are kept. -/
theorem KP.lines {B B' : Nat} {w w' : World} (h : KP B w w') {v : Value} {l : List Ln} (hl : kLine.R 81 w B' (fun _ => True) v l) : kLine.R 81 w' B' (fun _ => True) v l := by
  refine Kd.R_mono (Kd.R_move (Kd.R_bound hl) (fun k hk => ?_)) (fun _ _ => trivial)
  obtain ⟨_, _, _, q, hq, cells, hc⟩ := hk
  rw [hc]
  refine h.blk hc ?_
  have : q = 81 ∨ q = 9 := by simpa [kLine, Kd.iso, Kd.pair, Kd.int, Kd.string, Kd.slice, Kd.scalar] using hq
  rcases this with rfl | rfl <;> rfl
/-- A row of words is kept. -/
theorem KP.words {B B' : Nat} {w w' : World} (h : KP B w w') {v : Value} {l : List ByteArray} (hl : Kd.string.R 9 w B' (fun _ => True) v l) : Kd.string.R 9 w' B' (fun _ => True) v l := by
  refine Kd.R_mono (Kd.R_move (Kd.R_bound hl) (fun k hk => ?_)) (fun _ _ => trivial)
  obtain ⟨_, _, _, q, hq, cells, hc⟩ := hk
  rw [hc]
  refine h.blk hc ?_
  have : q = 9 := by simpa [Kd.string, Kd.scalar] using hq
  subst this
  rfl
/-- What the methods read of the variables, in whatever world keeps what lay below B. -/
structure Env (B : Nat) (w : World) : Prop where
  l : ∀ W, Below B w W → Lets W
  e : ∀ W, Below B w W → Errs W
  k : ∀ W, Below B w W → Kws W
theorem Env.step {B : Nat} {w w1 : World} (h : Env B w) (hb : Below B w w1) : Env B w1 := ⟨fun W hW => h.l W (hb.trans hW), fun W hW => h.e W (hb.trans hW), fun W hW => h.k W (hb.trans hW)⟩
/-- The words' cells. -/
theorem words_cell {w : World} {B : Nat} {b n c : Nat} {ws : List ByteArray} (h : Kd.string.R 9 w B (fun _ => True) (.slice (some ⟨b, 0, none⟩) n c) ws) (j : Nat) (hj : j < n) : w.cell? ⟨b, j, none⟩ = some (.string (ws.getD j ⟨#[]⟩)) := by
  obtain ⟨hn, _, hC⟩ := Kd.R_reads' h
  subst hn
  obtain ⟨ad, c', e, hl, hK, hcc⟩ := Kd.C_get hC ⟨#[]⟩ (j : Int) (by omega) (by omega)
  cases e
  have e1 : c' = [.string (ws.getD j ⟨#[]⟩)] := by simpa [Kd.string, Kd.scalar] using hK
  subst e1
  have h1 := hcc 0 _ rfl
  have e2 : (⟨b, 0, none⟩ : Addr).add j = ⟨b, j, none⟩ := by unfold Addr.add; split <;> simp_all
  have e3 : (⟨b, 0, none⟩ : Addr).add ((j : Int).toNat * Kd.string.sz + 0) = ⟨b, j, none⟩ := by
    have : (j : Int).toNat * Kd.string.sz + 0 = j := by simp [Kd.string, Kd.scalar]
    rw [this]; exact e2
  rw [e3] at h1
  exact h1
/-- The parser at gp, its rows. -/
structure PF (B gp : Nat) (S : PSt) (vr vl vj : Value) (wr : World) : Prop where
  gb : B ≤ gp
  sz : B ≤ wr.heap.size
  p : wr.heap[gp]? = some (.cells #[.int .i64 S.i, .int .i64 S.q, .int .i64 S.m, vr, .bool S.sized, vl, vj] 77 (0, 0))
  r : Kd.S kRung 53 wr B (fun _ => True) vr S.rungs
  l : (Kd.int .i64).R 3 wr B (fun _ => True) vl S.lines
  j : (Kd.int .i64).R 3 wr B (fun _ => True) vj S.jumps
  lj : ∀ k, vl.ownBlock = some k → vj.ownBlock ≠ some k
  nl : S.lines.length = S.rungs.length
  nj : S.jumps.length = S.rungs.length
  n64 : S.rungs.length ≤ 64
theorem PF.below {B gp : Nat} {S : PSt} {vr vl vj : Value} {wr w1 : World} (h : PF B gp S vr vl vj wr) (hb : Below wr.heap.size wr w1) : PF B gp S vr vl vj w1 :=
  ⟨h.gb, Nat.le_trans h.sz hb.size, blk_below h.p hb, Kd.S_below h.r hb, Kd.R_below h.l hb, Kd.R_below h.j hb, h.lj, h.nl, h.nj, h.n64⟩
theorem PF.cells {B gp : Nat} {S : PSt} {vr vl vj : Value} {wr : World} (h : PF B gp S vr vl vj wr) : wr.cell? ⟨gp, 0, none⟩ = some (.int .i64 S.i) ∧ wr.cell? ⟨gp, 1, none⟩ = some (.int .i64 S.q) ∧ wr.cell? ⟨gp, 2, none⟩ = some (.int .i64 S.m) ∧
    wr.cell? ⟨gp, 3, none⟩ = some vr ∧ wr.cell? ⟨gp, 4, none⟩ = some (.bool S.sized) ∧ wr.cell? ⟨gp, 5, none⟩ = some vl ∧ wr.cell? ⟨gp, 6, none⟩ = some vj :=
  ⟨blk_cell h.p 0, blk_cell h.p 1, blk_cell h.p 2, blk_cell h.p 3, blk_cell h.p 4, blk_cell h.p 5, blk_cell h.p 6⟩
theorem types_par : ∀ t, t ∈ 53 :: kRung.E → t ≠ 77 := by decide
/-- The three sizes, one of them stored. -/
def PSt.put (S : PSt) (k : Nat) (v : Int) : PSt := if k = 0 then { S with i := v } else if k = 1 then { S with q := v } else { S with m := v }
theorem PF.size {B gp : Nat} {S : PSt} {vr vl vj : Value} {wr : World} (h : PF B gp S vr vl vj wr) (k : Nat) (hk : k < 3) (v : Int) : PF B gp (S.put k v) vr vl vj (wr.setCell ⟨gp, k, none⟩ (.int .i64 v)) := by
  have hp := blk_set h.p k (.int .i64 v)
  have hr := Kd.S_set h.r h.p types_par k (.int .i64 v)
  have hl := Kd.R_set h.l h.p (by decide) k (.int .i64 v)
  have hj := Kd.R_set h.j h.p (by decide) k (.int .i64 v)
  have hs : B ≤ (wr.setCell ⟨gp, k, none⟩ (.int .i64 v)).heap.size := by have := h.sz; simpa using this
  have : k = 0 ∨ k = 1 ∨ k = 2 := by omega
  rcases this with rfl | rfl | rfl <;> exact ⟨h.gb, hs, by simpa [PSt.put] using hp, hr, hl, hj, h.lj, h.nl, h.nj, h.n64⟩
theorem PF.sized {B gp : Nat} {S : PSt} {vr vl vj : Value} {wr : World} (h : PF B gp S vr vl vj wr) : PF B gp { S with sized := true } vr vl vj (wr.setCell ⟨gp, 4, none⟩ (.bool true)) := by
  have hp := blk_set h.p 4 (.bool true)
  have hs : B ≤ (wr.setCell ⟨gp, 4, none⟩ (.bool true)).heap.size := by have := h.sz; simpa using this
  exact ⟨h.gb, hs, by simpa using hp, Kd.S_set h.r h.p types_par 4 _, Kd.R_set h.l h.p (by decide) 4 _, Kd.R_set h.j h.p (by decide) 4 _, h.lj, h.nl, h.nj, h.n64⟩
end Go.Proofs.YtolmkdhgnganaaaGreatDoor.H
namespace Go.Proofs.YtolmkdhgnganaaaGreatDoor.H
open Go Go.RowKit Go.Proofs Go.Proofs.YtolmkdhgnganaaaGreatDoorW.PrintWords Go.Proofs.YtolmkdhgnganaaaGreatDoorW.PrintLast Go.Proofs.YtolmkdhgnganaaaGreatDoorW.PrintMore Go.Proofs.YtolmkdhgnganaaaGreatDoor.Sp
set_option maxRecDepth 100000 in
theorem sizes_p (gp : Nat) (i q m : Int) (w : World) (h0 : w.cell? ⟨gp, 0, none⟩ = some (.int .i64 i)) (h1 : w.cell? ⟨gp, 1, none⟩ = some (.int .i64 q)) (h2 : w.cell? ⟨gp, 2, none⟩ = some (.int .i64 m)) :
    Calls Tryz.prog 120 #[.pointer (some ⟨gp, 0, none⟩)] w (RetB w (.agg #[.int .i64 i, .int .i64 q, .int .i64 m, .int .i64 0])) := by
  have lt : gp < w.heap.size := World.block_lt_of_cell? w _ h0
  have K0 := Aside0.mk (blk_new w (.cells #[.int .i64 0, .int .i64 0, .int .i64 0, .int .i64 0] 86))
  have B0 := Aside0.mk (below_alloc (Below.refl w.heap.size w) (.cells #[.int .i64 0, .int .i64 0, .int .i64 0, .int .i64 0] 86))
  have u0 := pw_cell_below B0.out h0
  have u1 := pw_cell_below B0.out h1
  have u2 := pw_cell_below B0.out h2
  go_enter Tryz.func120, Tryz.ntmps120
  go_wp2_with fail
  generalize hg : w.heap.size = g at K0 B0 ⊢
  have hB := Aside0.mk hg
  clear hg
  generalize w.alloc (.cells #[.int .i64 0, .int .i64 0, .int .i64 0, .int .i64 0] 86) = w1 at K0 B0 u0 u1 u2 ⊢
  have K1 := Aside0.mk (blk_drew K0.out)
  have B1 := Aside0.mk (below_drew (by have := B0.out; rw [← hB.out] at this; exact this))
  have r0 : w1.cell? ⟨g, 0, none⟩ = some (.int .i64 0) := blk_cell K0.out 0
  have r1 : w1.cell? ⟨g, 1, none⟩ = some (.int .i64 0) := blk_cell K0.out 1
  have r2 : w1.cell? ⟨g, 2, none⟩ = some (.int .i64 0) := blk_cell K0.out 2
  have r3 : w1.cell? ⟨g, 3, none⟩ = some (.int .i64 0) := blk_cell K0.out 3
  have f0 := blk_frozen K0.out 0
  have f1 := blk_frozen K0.out 1
  have f2 := blk_frozen K0.out 2
  have f3 := blk_frozen K0.out 3
  refine start_ (n := 17) (S := fun w' => w'.cell? ⟨gp, 0, none⟩ = some (.int .i64 i) ∧ w'.cell? ⟨gp, 1, none⟩ = some (.int .i64 q) ∧ w'.cell? ⟨gp, 2, none⟩ = some (.int .i64 m)) (ds := [16]) #[false, false, false, false, false, false, false, false, false, false, false, false, false, false, false, false, false] (by kernel_rfl) rfl rfl ⟨u0, u1, u2⟩ (fun hHeld => ?_)
  refine pure_ (i := 0) (N := some 3) (v := ?_) (a' := ?_) #[true, false, false, false, false, false, false, false, false, false, false, false, false, false, false, false, false] rfl rfl (by kernel_rfl) (fun _ _ _ h => h) (Or.inl ⟨by rfl, ?_⟩) ?_ ?_
  rotate_left
  · intro w'
    go_simp
    with_reducible rfl
  rotate_left
  · simp only [Act.put, List.setIfInBounds_toArray, List.set_cons_zero, List.set_cons_succ, i64_w, i32_w]
    rfl
  refine pure_ (i := 1) (N := some 4) (v := ?_) (a' := ?_) #[true, true, false, false, false, false, false, false, false, false, false, false, false, false, false, false, false] rfl rfl (by kernel_rfl) (fun _ _ _ h => h) (Or.inl ⟨by rfl, ?_⟩) ?_ ?_
  rotate_left
  · intro w'
    go_simp
    with_reducible rfl
  rotate_left
  · simp only [Act.put, List.setIfInBounds_toArray, List.set_cons_zero, List.set_cons_succ, i64_w, i32_w]
    rfl
  refine pure_ (i := 2) (N := some 5) (v := ?_) (a' := ?_) #[true, true, true, false, false, false, false, false, false, false, false, false, false, false, false, false, false] rfl rfl (by kernel_rfl) (fun _ _ _ h => h) (Or.inl ⟨by rfl, ?_⟩) ?_ ?_
  rotate_left
  · intro w'
    go_simp
    with_reducible rfl
  rotate_left
  · simp only [Act.put, List.setIfInBounds_toArray, List.set_cons_zero, List.set_cons_succ, i64_w, i32_w]
    rfl
  refine pure_ (i := 3) (N := some 6) (v := ?_) (a' := ?_) #[true, true, true, true, false, false, false, false, false, false, false, false, false, false, false, false, false] rfl rfl (by kernel_rfl) (fun _ _ _ h => h) (Or.inl ⟨by rfl, ?_⟩) ?_ ?_
  rotate_left
  · intro w'
    go_simp
    with_reducible rfl
  rotate_left
  · simp only [Act.put, List.setIfInBounds_toArray, List.set_cons_zero, List.set_cons_succ, i64_w, i32_w]
    rfl
  refine pure_ (i := 5) (N := some 8) (v := ?_) (a' := ?_) #[true, true, true, true, false, true, false, false, false, false, false, false, false, false, false, false, false] rfl rfl (by kernel_rfl) (fun _ _ _ h => h) (Or.inl ⟨by rfl, ?_⟩) ?_ ?_
  rotate_left
  · intro w'
    go_simp
    with_reducible rfl
  rotate_left
  · simp only [Act.put, List.setIfInBounds_toArray, List.set_cons_zero, List.set_cons_succ, i64_w, i32_w]
    rfl
  refine pure_ (i := 6) (N := some 9) (v := ?_) (a' := ?_) #[true, true, true, true, false, true, true, false, false, false, false, false, false, false, false, false, false] rfl rfl (by kernel_rfl) (fun _ _ _ h => h) (Or.inl ⟨by rfl, ?_⟩) ?_ ?_
  rotate_left
  · intro w'
    go_simp
    with_reducible rfl
  rotate_left
  · simp only [Act.put, List.setIfInBounds_toArray, List.set_cons_zero, List.set_cons_succ, i64_w, i32_w]
    rfl
  refine pure_ (i := 7) (N := some 10) (v := ?_) (a' := ?_) #[true, true, true, true, false, true, true, true, false, false, false, false, false, false, false, false, false] rfl rfl (by kernel_rfl) (fun _ _ _ h => h) (Or.inl ⟨by rfl, ?_⟩) ?_ ?_
  rotate_left
  · intro w'
    go_simp
    with_reducible rfl
  rotate_left
  · simp only [Act.put, List.setIfInBounds_toArray, List.set_cons_zero, List.set_cons_succ, i64_w, i32_w]
    rfl
  refine pure_ (i := 8) (N := some 11) (v := ?_) (a' := ?_) #[true, true, true, true, false, true, true, true, true, false, false, false, false, false, false, false, false] rfl rfl (by kernel_rfl) (fun _ _ _ h => h) (Or.inl ⟨by rfl, ?_⟩) ?_ ?_
  rotate_left
  · intro w'
    go_simp
    with_reducible rfl
  rotate_left
  · simp only [Act.put, List.setIfInBounds_toArray, List.set_cons_zero, List.set_cons_succ, i64_w, i32_w]
    rfl
  refine pure_ (i := 10) (N := some 13) (v := ?_) (a' := ?_) #[true, true, true, true, false, true, true, true, true, false, true, false, false, false, false, false, false] rfl rfl (by kernel_rfl) (fun _ _ _ h => h) (Or.inl ⟨by rfl, ?_⟩) ?_ ?_
  rotate_left
  · intro w'
    go_simp
    with_reducible rfl
  rotate_left
  · simp only [Act.put, List.setIfInBounds_toArray, List.set_cons_zero, List.set_cons_succ, i64_w, i32_w]
    rfl
  refine pure_ (i := 11) (N := some 14) (v := ?_) (a' := ?_) #[true, true, true, true, false, true, true, true, true, false, true, true, false, false, false, false, false] rfl rfl (by kernel_rfl) (fun _ _ _ h => h) (Or.inl ⟨by rfl, ?_⟩) ?_ ?_
  rotate_left
  · intro w'
    go_simp
    with_reducible rfl
  rotate_left
  · simp only [Act.put, List.setIfInBounds_toArray, List.set_cons_zero, List.set_cons_succ, i64_w, i32_w]
    rfl
  refine pure_ (i := 12) (N := some 15) (v := ?_) (a' := ?_) #[true, true, true, true, false, true, true, true, true, false, true, true, true, false, false, false, false] rfl rfl (by kernel_rfl) (fun _ _ _ h => h) (Or.inl ⟨by rfl, ?_⟩) ?_ ?_
  rotate_left
  · intro w'
    go_simp
    with_reducible rfl
  rotate_left
  · simp only [Act.put, List.setIfInBounds_toArray, List.set_cons_zero, List.set_cons_succ, i64_w, i32_w]
    rfl
  refine pure_ (i := 13) (N := some 16) (v := ?_) (a' := ?_) #[true, true, true, true, false, true, true, true, true, false, true, true, true, true, false, false, false] rfl rfl (by kernel_rfl) (fun _ _ _ h => h) (Or.inl ⟨by rfl, ?_⟩) ?_ ?_
  rotate_left
  · intro w'
    go_simp
    with_reducible rfl
  rotate_left
  · simp only [Act.put, List.setIfInBounds_toArray, List.set_cons_zero, List.set_cons_succ, i64_w, i32_w]
    rfl
  refine take_ (i := 4) (N := some 7) (v := ?_) (a' := ?_) #[true, true, true, true, true, true, true, true, true, false, true, true, true, true, false, false, false] rfl rfl (by kernel_rfl) (fun _ _ _ h => h) (Or.inl ⟨by rfl, ?_⟩) hHeld ?_ ?_
  rotate_left
  · rintro w' ⟨s0, s1, s2⟩
    go_simp
    with_reducible rfl
  rotate_left
  · simp only [Act.put, List.setIfInBounds_toArray, List.set_cons_zero, List.set_cons_succ, i64_w, i32_w]
    rfl
  refine take_ (i := 9) (N := some 12) (v := ?_) (a' := ?_) #[true, true, true, true, true, true, true, true, true, true, true, true, true, true, false, false, false] rfl rfl (by kernel_rfl) (fun _ _ _ h => h) (Or.inl ⟨by rfl, ?_⟩) hHeld ?_ ?_
  rotate_left
  · rintro w' ⟨s0, s1, s2⟩
    go_simp
    with_reducible rfl
  rotate_left
  · simp only [Act.put, List.setIfInBounds_toArray, List.set_cons_zero, List.set_cons_succ, i64_w, i32_w]
    rfl
  refine take_ (i := 14) (N := some 17) (v := ?_) (a' := ?_) #[true, true, true, true, true, true, true, true, true, true, true, true, true, true, true, false, false] rfl rfl (by kernel_rfl) (fun _ _ _ h => h) (Or.inl ⟨by rfl, ?_⟩) hHeld ?_ ?_
  rotate_left
  · rintro w' ⟨s0, s1, s2⟩
    go_simp
    with_reducible rfl
  rotate_left
  · simp only [Act.put, List.setIfInBounds_toArray, List.set_cons_zero, List.set_cons_succ, i64_w, i32_w]
    rfl
  refine pure_ (i := 15) (N := some 18) (v := ?_) (a' := ?_) #[true, true, true, true, true, true, true, true, true, true, true, true, true, true, true, true, false] rfl rfl (by kernel_rfl) (fun _ _ _ h => h) (Or.inl ⟨by rfl, ?_⟩) ?_ ?_
  rotate_left
  · intro w'
    go_simp
    with_reducible rfl
  rotate_left
  · simp only [Act.put, List.setIfInBounds_toArray, List.set_cons_zero, List.set_cons_succ, i64_w, i32_w]
    rfl
  refine last_ (i := 16) (N := none) #[true, true, true, true, true, true, true, true, true, true, true, true, true, true, true, true, true] rfl rfl (by kernel_rfl) (by decide) (fun K hK => ?_)
  refine skip_ (w1 := ?_) (by rfl) rfl ?_ ?_
  rotate_left
  · go_simp
    rfl
  refine hK.out _ _ ?_
  clear hK K
  refine done_ (by kernel_rfl) ?_
  have KF : (((((w1.setCell ⟨g, 0, none⟩ (.int .i64 i)).setCell ⟨g, 1, none⟩ (.int .i64 q)).setCell ⟨g, 2, none⟩ (.int .i64 m)).setCell ⟨g, 3, none⟩ (.int .i64 0)).drew).heap[g]? = some (.cells #[.int .i64 i, .int .i64 q, .int .i64 m, .int .i64 0] 86 (0, 0)) := by
    have := blk_drew (blk_set (blk_set (blk_set (blk_set K0.out 0 (.int .i64 i)) 1 (.int .i64 q)) 2 (.int .i64 m)) 3 (.int .i64 0))
    simpa using this
  have hgs : w.heap.size ≤ g := by have := hB.out; omega
  have FB : Below w.heap.size w (((((w1.setCell ⟨g, 0, none⟩ (.int .i64 i)).setCell ⟨g, 1, none⟩ (.int .i64 q)).setCell ⟨g, 2, none⟩ (.int .i64 m)).setCell ⟨g, 3, none⟩ (.int .i64 0)).drew) := below_drew (below_set (below_set (below_set (below_set (by have := B0.out; rw [← hB.out] at this; exact this) hgs) hgs) hgs) hgs)
  generalize ((((w1.setCell ⟨g, 0, none⟩ (.int .i64 i)).setCell ⟨g, 1, none⟩ (.int .i64 q)).setCell ⟨g, 2, none⟩ (.int .i64 m)).setCell ⟨g, 3, none⟩ (.int .i64 0)).drew = w2 at KF FB ⊢
  have c0 : w2.cell? ⟨g, 0, none⟩ = some (.int .i64 i) := blk_cell KF 0
  have c1 : w2.cell? ⟨g, 1, none⟩ = some (.int .i64 q) := blk_cell KF 1
  have c2 : w2.cell? ⟨g, 2, none⟩ = some (.int .i64 m) := blk_cell KF 2
  have c3 : w2.cell? ⟨g, 3, none⟩ = some (.int .i64 0) := blk_cell KF 3
  clear r0 r1 r2 r3 f0 f1 f2 f3 u0 u1 u2 hHeld
  go_wp2
  exact bodyPost_ret (v := .agg #[.int .i64 i, .int .i64 q, .int .i64 m, .int .i64 0]) (by simp [results, Tryz.results120, go_sem, c0, c1, c2, c3]) rfl ⟨rfl, FB⟩
/-- What address answers. -/
def adrE (i q m : Int) (t : List UInt8) : Int := if (addrParse t).2.2 = 0 then chkAddr i q m (addrParse t).1 (addrParse t).2.1 else (addrParse t).2.2
set_option maxHeartbeats 2000000 in
set_option maxRecDepth 100000 in
theorem address_p (gp : Nat) (i q m : Int) (t : ByteArray) (w : World) (ht : t.size ≤ 140737488355328) (h0 : w.cell? ⟨gp, 0, none⟩ = some (.int .i64 i)) (h1 : w.cell? ⟨gp, 1, none⟩ = some (.int .i64 q)) (h2 : w.cell? ⟨gp, 2, none⟩ = some (.int .i64 m)) (hl : Lets w) (he : Errs w) :
    Calls Tryz.prog 96 #[.pointer (some ⟨gp, 0, none⟩), .string t] w (RetB w (prsV (addrParse t.data.toList).1 (addrParse t.data.toList).2.1 (adrE i q m t.data.toList))) := by
  have lt : gp < w.heap.size := World.block_lt_of_cell? w _ h0
  have HA := Aside0.mk (fun W (hW : Below w.heap.size w W) => prs_b t W ht (hl.below hW) (he.below hW))
  have HS := Aside0.mk (fun W (hW : Below w.heap.size w W) => sizes_p gp i q m W (pw_cell_below hW h0) (pw_cell_below hW h1) (pw_cell_below hW h2))
  have HC := Aside0.mk (fun W => chk_b i q m 0 (addrParse t.data.toList).1 (addrParse t.data.toList).2.1 W)
  clear hl he h0 h1 h2
  unfold adrE
  generalize (addrParse t.data.toList).1 = sp at *
  generalize (addrParse t.data.toList).2.1 = n at *
  generalize (addrParse t.data.toList).2.2 = e at *
  generalize chkAddr i q m sp n = ce at *
  generalize hae : (if e = 0 then ce else e) = ae
  have HAE := Aside0.mk hae
  clear hae
  have K0 := Aside0.mk (blk_new w (.cells #[.int .i64 0, .int .i64 0] 57))
  have B0 := Aside0.mk (below_alloc (Below.refl w.heap.size w) (.cells #[.int .i64 0, .int .i64 0] 57))
  go_enter Tryz.func96, Tryz.ntmps96
  go_wp2_with fail
  refine (HA.out _ B0.out).mono ?_
  rintro e_ w1 ⟨rfl, hb⟩
  unfold prsV
  have K1 := Aside0.mk (blk_below K0.out hb)
  have B1 := Aside0.mk (below_step B0.out hb)
  clear K0 B0 hb
  generalize hg : w.heap.size = g at K1 B1 ⊢
  have HG := Aside0.mk hg
  clear hg
  have K2 := Aside0.mk (blk_alloc K1.out (.cells #[.int .i64 sp, .int .i64 n] 57))
  have K3 := Aside0.mk (blk_new w1 (.cells #[.int .i64 sp, .int .i64 n] 57))
  have B2 := Aside0.mk (B1.out.alloc (Nat.le_trans (by have := HG.out; omega) B1.out.size) (.cells #[.int .i64 sp, .int .i64 n] 57))
  have B2' : Aside0 (Below w.heap.size w (w1.alloc (.cells #[.int .i64 sp, .int .i64 n] 57))) := ⟨by have := B2.out; rw [← HG.out] at this; exact this⟩
  have hgl : g < w1.heap.size := blk_lt K1.out
  generalize hg2 : w1.heap.size = g2 at K3 hgl
  by_cases he0 : e = 0
  · subst he0
    obtain rfl : ae = ce := by rw [← HAE.out, if_pos rfl]
    have HW := Aside0.mk (below_drew B2'.out)
    have q2 : (w1.alloc (.cells #[.int .i64 sp, .int .i64 n] 57)).drew.cell? ⟨g2, 0, none⟩ = some (.int .i64 sp) := blk_cell K3.out 0
    have q3 : (w1.alloc (.cells #[.int .i64 sp, .int .i64 n] 57)).drew.cell? ⟨g2, 1, none⟩ = some (.int .i64 n) := blk_cell K3.out 1
    go_wp2_with fail
    generalize w1.alloc (.cells #[.int .i64 sp, .int .i64 n] 57) = w2 at *
    have KA := Aside0.mk (blk_drew K2.out)
    refine start_ (n := 5) (S := fun w' => w'.cell? ⟨g2, 0, none⟩ = some (.int .i64 sp) ∧ w'.cell? ⟨g2, 1, none⟩ = some (.int .i64 n)) (ds := []) #[false, false, false, false, false] (by kernel_rfl) rfl rfl ⟨q2, q3⟩ (fun hHeld => ?_)
    refine pure_ (i := 0) (N := some 15) (v := ?_) (a' := ?_) #[true, false, false, false, false] rfl rfl (by kernel_rfl) (fun _ _ _ h => h) (Or.inl ⟨by rfl, ?_⟩) ?_ ?_
    rotate_left
    · intro w'
      go_simp
      with_reducible rfl
    rotate_left
    · simp only [Act.put, List.setIfInBounds_toArray, List.set_cons_zero, List.set_cons_succ, i64_w, i32_w]
      rfl
    refine take_ (i := 2) (N := some 17) (v := ?_) (a' := ?_) #[true, false, true, false, false] rfl rfl (by kernel_rfl) (fun _ _ _ h => h) (Or.inl ⟨by rfl, ?_⟩) hHeld ?_ ?_
    rotate_left
    · rintro w' ⟨s0, s1⟩
      go_simp
      with_reducible rfl
    rotate_left
    · simp only [Act.put, List.setIfInBounds_toArray, List.set_cons_zero, List.set_cons_succ, i64_w, i32_w]
      rfl
    refine one_ (i := 1) (N := some 16) #[true, true, true, false, false] rfl rfl (by kernel_rfl) (by decide) (fun K hK => ?_)
    refine goes_ Tryz.func120 (by kernel_rfl) rfl #[.pointer (some ⟨gp, 0, none⟩)] (by rfl) rfl rfl (by first | (simp only [List.map_toArray, List.map_cons, List.map_nil]; done) | (simp only [List.map_toArray, List.map_cons, List.map_nil]; rfl)) ?_
    with_reducible refine (HS.out _ HW.out).mono ?_
    rintro e_ w3 ⟨rfl, hb⟩
    refine ⟨_, rfl, ?_⟩
    have n_ := Aside0.mk (below_step HW.out hb)
    clear HW
    have HW := n_
    clear n_
    have m_ := Aside0.mk (blk_below KA.out hb)
    clear KA
    have KA := m_
    clear m_
    refine hK.out _ _ ⟨(pw_cell_below hb hHeld.1), (pw_cell_below hb hHeld.2)⟩ (fun hHeld => ?_)
    clear hK K
    refine norm_ (a' := ?_) ?_ ?_
    rotate_left
    · show Act.put _ (some 16) _ = _
      simp only [Act.put, List.setIfInBounds_toArray, List.set_cons_zero, List.set_cons_succ, i64_w, i32_w]
      rfl
    refine one_ (i := 3) (N := some 18) #[true, true, true, true, false] rfl rfl (by kernel_rfl) (by decide) (fun K hK => ?_)
    refine goes_ Tryz.func99 (by kernel_rfl) rfl #[.agg #[.int .i64 i, .int .i64 q, .int .i64 m, .int .i64 0], .agg #[.int .i64 sp, .int .i64 n]] (by rfl) rfl rfl (by first | (simp only [List.map_toArray, List.map_cons, List.map_nil]; done) | (simp only [List.map_toArray, List.map_cons, List.map_nil]; rfl)) ?_
    with_reducible refine (HC.out _).mono ?_
    rintro e_ w4 ⟨rfl, hb⟩
    refine ⟨_, rfl, ?_⟩
    have n_ := Aside0.mk (below_step HW.out hb)
    clear HW
    have HW := n_
    clear n_
    have m_ := Aside0.mk (blk_below KA.out hb)
    clear KA
    have KA := m_
    clear m_
    refine hK.out _ _ ⟨(pw_cell_below hb hHeld.1), (pw_cell_below hb hHeld.2)⟩ (fun hHeld => ?_)
    clear hK K
    refine norm_ (a' := ?_) ?_ ?_
    rotate_left
    · show Act.put _ (some 18) _ = _
      simp only [Act.put, List.setIfInBounds_toArray, List.set_cons_zero, List.set_cons_succ, i64_w, i32_w]
      rfl
    refine pure_ (i := 4) (N := some 7) (v := ?_) (a' := ?_) #[true, true, true, true, true] rfl rfl (by kernel_rfl) (fun _ _ _ h => h) (Or.inl ⟨by rfl, ?_⟩) ?_ ?_
    rotate_left
    · intro w'
      go_simp
      with_reducible rfl
    rotate_left
    · simp only [Act.put, List.setIfInBounds_toArray, List.set_cons_zero, List.set_cons_succ, i64_w, i32_w]
      rfl
    refine done_ (by kernel_rfl) ?_
    obtain ⟨p2, p3⟩ := hHeld
    have q0 : w4.cell? ⟨g, 0, none⟩ = some (.int .i64 0) := blk_cell KA.out 0
    have q1 : w4.cell? ⟨g, 1, none⟩ = some (.int .i64 0) := blk_cell KA.out 1
    have f0 := blk_frozen KA.out 0
    have f1 := blk_frozen KA.out 1
    have hgs : w.heap.size ≤ g := by have := HG.out; omega
    have KF : ((w4.setCell ⟨g, 0, none⟩ (.int .i64 sp)).setCell ⟨g, 1, none⟩ (.int .i64 n)).heap[g]? = some (.cells #[.int .i64 sp, .int .i64 n] 57 (0, 0)) := by
      have := blk_set (blk_set KA.out 0 (.int .i64 sp)) 1 (.int .i64 n)
      simpa using this
    have FB : Below w.heap.size w ((w4.setCell ⟨g, 0, none⟩ (.int .i64 sp)).setCell ⟨g, 1, none⟩ (.int .i64 n)) := below_set (below_set HW.out hgs) hgs
    have KF := Aside0.mk KF
    go_wp2
    have c0 := blk_cell KF.out 0
    have c1 := blk_cell KF.out 1
    generalize (w4.setCell ⟨g, 0, none⟩ (.int .i64 sp)).setCell ⟨g, 1, none⟩ (.int .i64 n) = w5 at c0 c1 FB ⊢
    exact bodyPost_ret (v := .tuple #[.agg #[.int .i64 sp, .int .i64 n], .int .i64 ae]) (by simp [results, Tryz.results96, go_sem, c0, c1]) rfl ⟨rfl, FB⟩
  · obtain rfl : ae = e := by rw [← HAE.out, if_neg he0]
    have q0 : w1.cell? ⟨g, 0, none⟩ = some (.int .i64 0) := blk_cell K1.out 0
    have q1 : w1.cell? ⟨g, 1, none⟩ = some (.int .i64 0) := blk_cell K1.out 1
    have f0 := blk_frozen K1.out 0
    have f1 := blk_frozen K1.out 1
    have hgs : w.heap.size ≤ g := by have := HG.out; omega
    have KF : (((w1.setCell ⟨g, 0, none⟩ (.int .i64 sp)).setCell ⟨g, 1, none⟩ (.int .i64 n)).alloc (.cells #[.int .i64 sp, .int .i64 n] 57)).heap[g]? = some (.cells #[.int .i64 sp, .int .i64 n] 57 (0, 0)) := by
      have := blk_alloc (blk_set (blk_set K1.out 0 (.int .i64 sp)) 1 (.int .i64 n)) (.cells #[.int .i64 sp, .int .i64 n] 57)
      simpa using this
    have FB : Below w.heap.size w (((w1.setCell ⟨g, 0, none⟩ (.int .i64 sp)).setCell ⟨g, 1, none⟩ (.int .i64 n)).alloc (.cells #[.int .i64 sp, .int .i64 n] 57)) := below_alloc (below_set (below_set (by have := B1.out; rw [← HG.out] at this; exact this) hgs) hgs) _
    have KF := Aside0.mk KF
    go_wp2
    have c0 := blk_cell KF.out 0
    have c1 := blk_cell KF.out 1
    generalize ((w1.setCell ⟨g, 0, none⟩ (.int .i64 sp)).setCell ⟨g, 1, none⟩ (.int .i64 n)).alloc (.cells #[.int .i64 sp, .int .i64 n] 57) = w5 at c0 c1 FB ⊢
    exact bodyPost_ret (v := .tuple #[.agg #[.int .i64 sp, .int .i64 n], .int .i64 ae]) (by simp [results, Tryz.results96, go_sem, c0, c1]) rfl ⟨rfl, FB⟩
end Go.Proofs.YtolmkdhgnganaaaGreatDoor.H
namespace Go.Proofs.YtolmkdhgnganaaaGreatDoor.H
open Go Go.RowKit Go.Proofs Go.Proofs.YtolmkdhgnganaaaGreatDoorW.PrintWords Go.Proofs.YtolmkdhgnganaaaGreatDoorW.PrintLast Go.Proofs.YtolmkdhgnganaaaGreatDoorW.PrintMore Go.Proofs.YtolmkdhgnganaaaGreatDoor.Sp
set_option maxRecDepth 100000 in
theorem rungp (gp g n cap : Nat) (w : World) (h3 : w.cell? ⟨gp, 3, none⟩ = some (.slice (some ⟨g, 0, none⟩) n cap)) (hn : 0 < n) (hc : n ≤ 9223372036854775807) :
    Calls Tryz.prog 95 #[.pointer (some ⟨gp, 0, none⟩)] w (RetB w (.pointer (some ⟨g, (n - 1) * 4, none⟩))) := by
  have hw : wrap64 ((n : Int) - 1) = (n : Int) - 1 := w64 (by omega) (by omega)
  have hn1 : (1 : Int) ≤ n := by omega
  go_enter Tryz.func95, Tryz.ntmps95
  go_wp2_with fail
  go_quiet (fail)
  go_wp2
  go_ret
  exact ⟨rfl, pw_below_drewN (Below.refl _ _) _⟩
/-- Word k + 1 as a number of at most 256. -/
def nAt (ws : List ByteArray) (k : Nat) : Int × Int := numParse (ws.getD (k + 1) ⟨#[]⟩).data.toList 256
/-- What a size line does. -/
def sizeS (S : PSt) (ws : List ByteArray) : PSt × Int :=
  if S.sized then (S, 9) else
  if (nAt ws 0).2 ≠ 0 then (S, (nAt ws 0).2) else
  if (nAt ws 1).2 ≠ 0 then (S, (nAt ws 1).2) else
  if (nAt ws 2).2 ≠ 0 then (S, (nAt ws 2).2) else
    (⟨(nAt ws 0).1, (nAt ws 1).1, (nAt ws 2).1, true, S.rungs, S.lines, S.jumps⟩, 0)
/-- What a method of the parser's leaves. -/
def ParR (B gp : Nat) (w : World) (r : PSt × Int) (e : Ending) (w' : World) : Prop :=
  e = .returned (.int .i64 r.2) ∧ KP B w w' ∧ (r.2 = 0 → ∃ vr vl vj, PF B gp r.1 vr vl vj w')
def sizeUp (S : PSt) (ws : List ByteArray) : Nat → PSt
  | 0 => S
  | k + 1 => (sizeUp S ws k).put k (nAt ws k).1
theorem sizeS_err {S : PSt} {ws : List ByteArray} {k : Nat} (hs : S.sized = false) (hk : k < 3) (h : ∀ j, j < k → (nAt ws j).2 = 0) (he : (nAt ws k).2 ≠ 0) : sizeS S ws = (S, (nAt ws k).2) := by
  have : k = 0 ∨ k = 1 ∨ k = 2 := by omega
  rcases this with rfl | rfl | rfl
  · simp [sizeS, hs, he]
  · simp [sizeS, hs, he, h 0 (by omega)]
  · simp [sizeS, hs, he, h 0 (by omega), h 1 (by omega)]
theorem sizeS_ok {S : PSt} {ws : List ByteArray} (hs : S.sized = false) (h : ∀ j, j < 3 → (nAt ws j).2 = 0) : sizeS S ws = ({ sizeUp S ws 3 with sized := true }, 0) := by
  simp [sizeS, hs, h 0 (by omega), h 1 (by omega), h 2 (by omega), sizeUp, PSt.put]
/-- While the three numbers are read. -/
structure SzF (B gp : Nat) (w : World) (n : Int) (b wc gl gr : Nat) (ws : List ByteArray) (S : PSt) (vr vl vj : Value) (wr : World) : Prop where
  p : PF B gp S vr vl vj wr
  kl : wr.heap[gl]? = some (.cells #[.int .i64 n, .slice (some ⟨b, 0, none⟩) 4 wc] 81 (0, 0))
  kr : wr.heap[gr]? = some (.cells #[.pointer (some ⟨gp, 0, none⟩), .pointer (some ⟨gp, 1, none⟩), .pointer (some ⟨gp, 2, none⟩)] 154 (0, 0))
  k : KP B w wr
  w : Kd.string.R 9 wr B (fun _ => True) (.slice (some ⟨b, 0, none⟩) 4 wc) ws
theorem SzF.below {B gp : Nat} {w : World} {n : Int} {b wc gl gr : Nat} {ws : List ByteArray} {S : PSt} {vr vl vj : Value} {wr w1 : World} (h : SzF B gp w n b wc gl gr ws S vr vl vj wr) (hb : Below wr.heap.size wr w1) : SzF B gp w n b wc gl gr ws S vr vl vj w1 :=
  ⟨h.p.below hb, blk_below h.kl hb, blk_below h.kr hb, h.k.trans (KP.of_below h.p.sz hb), Kd.R_below h.w hb⟩
theorem SzF.put {B gp : Nat} {w : World} {n : Int} {b wc gl gr : Nat} {ws : List ByteArray} {S : PSt} {vr vl vj : Value} {wr : World} (h : SzF B gp w n b wc gl gr ws S vr vl vj wr) (k : Nat) (hk : k < 3) (v : Int) : SzF B gp w n b wc gl gr ws (S.put k v) vr vl vj (wr.setCell ⟨gp, k, none⟩ (.int .i64 v)) :=
  ⟨h.p.size k hk v, (KP.set (B := B) h.p.gb h.p.p (by rfl) _).blk h.kl (by rfl), (KP.set (B := B) h.p.gb h.p.p (by rfl) _).blk h.kr (by rfl), h.k.trans (KP.set h.p.gb h.p.p (by rfl) _), (KP.set (B := B) h.p.gb h.p.p (by rfl) _).words h.w⟩
set_option maxHeartbeats 4000000 in
set_option maxRecDepth 100000 in
theorem size_p {B gp : Nat} {S : PSt} {vr vl vj : Value} {w : World} (h : PF B gp S vr vl vj w) (n : Int) (b wc : Nat) (ws : List ByteArray) (hw : Kd.string.R 9 w B (fun _ => True) (.slice (some ⟨b, 0, none⟩) 4 wc) ws)
    (hsz : ∀ j, (ws.getD j ⟨#[]⟩).size ≤ 65536) (hE : Env B w) :
    Calls Tryz.prog 63 #[.pointer (some ⟨gp, 0, none⟩), .agg #[.int .i64 n, .slice (some ⟨b, 0, none⟩) 4 wc]] w (ParR B gp w (sizeS S ws)) := by
  have H := Aside0.mk h
  have HE := Aside0.mk hE
  obtain ⟨p0, p1, p2, p3, p4, p5, p6⟩ := h.cells
  have ltg : gp < w.heap.size := blk_lt h.p
  have HB0 := Aside0.mk (below_alloc (Below.refl w.heap.size w) (.cells #[.int .i64 n, .slice (some ⟨b, 0, none⟩) 4 wc] 81))
  have K0 := Aside0.mk (blk_new w (.cells #[.int .i64 n, .slice (some ⟨b, 0, none⟩) 4 wc] 81))
  have HW := Aside0.mk hw
  clear h hE hw
  cases hs : S.sized with
  | true =>
    have e : sizeS S ws = (S, 9) := by rw [sizeS, if_pos hs]
    rw [hs] at p4
    rw [e]
    go_enter Tryz.func63, Tryz.ntmps63
    go_wp2
    go_ret
    exact ⟨rfl, KP.of_below H.out.sz HB0.out, fun e => by cases e⟩
  | false =>
    rw [hs] at p4
    have HSz := Aside0.mk hs
    clear hs
    go_enter Tryz.func63, Tryz.ntmps63
    go_wp2_with fail
    generalize hg : w.heap.size = g at K0 HB0 ⊢
    have HG := Aside0.mk hg
    generalize w.alloc (.cells #[.int .i64 n, .slice (some ⟨b, 0, none⟩) 4 wc] 81) = w1 at K0 HB0 ⊢
    clear p0 p1 p2 p3 p4 p5 p6 hg
    refine start_ (n := 15) (S := fun w' => True) (ds := []) #[false, false, false, false, false, false, false, false, false, false, false, false, false, false, false] (by kernel_rfl) rfl rfl trivial (fun hHeld => ?_)
    refine pure_ (i := 0) (N := some 13) (v := ?_) (a' := ?_) #[true, false, false, false, false, false, false, false, false, false, false, false, false, false, false] rfl rfl (by kernel_rfl) (fun _ _ _ h => h) (Or.inl ⟨by rfl, ?_⟩) ?_ ?_
    rotate_left
    · intro w'
      go_simp
      with_reducible rfl
    rotate_left
    · simp only [Act.put, List.setIfInBounds_toArray, List.set_cons_zero, List.set_cons_succ, i64_w, i32_w]
      rfl
    refine pure_ (i := 1) (N := some 14) (v := ?_) (a' := ?_) #[true, true, false, false, false, false, false, false, false, false, false, false, false, false, false] rfl rfl (by kernel_rfl) (fun _ _ _ h => h) (Or.inl ⟨by rfl, ?_⟩) ?_ ?_
    rotate_left
    · intro w'
      go_simp
      with_reducible rfl
    rotate_left
    · simp only [Act.put, List.setIfInBounds_toArray, List.set_cons_zero, List.set_cons_succ, i64_w, i32_w]
      rfl
    refine pure_ (i := 2) (N := some 15) (v := ?_) (a' := ?_) #[true, true, true, false, false, false, false, false, false, false, false, false, false, false, false] rfl rfl (by kernel_rfl) (fun _ _ _ h => h) (Or.inl ⟨by rfl, ?_⟩) ?_ ?_
    rotate_left
    · intro w'
      go_simp
      with_reducible rfl
    rotate_left
    · simp only [Act.put, List.setIfInBounds_toArray, List.set_cons_zero, List.set_cons_succ, i64_w, i32_w]
      rfl
    refine pure_ (i := 3) (N := some 16) (v := ?_) (a' := ?_) #[true, true, true, true, false, false, false, false, false, false, false, false, false, false, false] rfl rfl (by kernel_rfl) (fun _ _ _ h => h) (Or.inl ⟨by rfl, ?_⟩) ?_ ?_
    rotate_left
    · intro w'
      go_simp
      with_reducible rfl
    rotate_left
    · simp only [Act.put, List.setIfInBounds_toArray, List.set_cons_zero, List.set_cons_succ, i64_w, i32_w]
      rfl
    refine pure_ (i := 4) (N := some 17) (v := ?_) (a' := ?_) #[true, true, true, true, true, false, false, false, false, false, false, false, false, false, false] rfl rfl (by kernel_rfl) (fun _ _ _ h => h) (Or.inl ⟨by rfl, ?_⟩) ?_ ?_
    rotate_left
    · intro w'
      go_simp
      with_reducible rfl
    rotate_left
    · simp only [Act.put, List.setIfInBounds_toArray, List.set_cons_zero, List.set_cons_succ, i64_w, i32_w]
      rfl
    refine pure_ (i := 5) (N := some 18) (v := ?_) (a' := ?_) #[true, true, true, true, true, true, false, false, false, false, false, false, false, false, false] rfl rfl (by kernel_rfl) (fun _ _ _ h => h) (Or.inl ⟨by rfl, ?_⟩) ?_ ?_
    rotate_left
    · intro w'
      go_simp
      with_reducible rfl
    rotate_left
    · simp only [Act.put, List.setIfInBounds_toArray, List.set_cons_zero, List.set_cons_succ, i64_w, i32_w]
      rfl
    refine pure_ (i := 6) (N := some 19) (v := ?_) (a' := ?_) #[true, true, true, true, true, true, true, false, false, false, false, false, false, false, false] rfl rfl (by kernel_rfl) (fun _ _ _ h => h) (Or.inl ⟨by rfl, ?_⟩) ?_ ?_
    rotate_left
    · intro w'
      go_simp
      with_reducible rfl
    rotate_left
    · simp only [Act.put, List.setIfInBounds_toArray, List.set_cons_zero, List.set_cons_succ, i64_w, i32_w]
      rfl
    refine pure_ (i := 7) (N := some 20) (v := ?_) (a' := ?_) #[true, true, true, true, true, true, true, true, false, false, false, false, false, false, false] rfl rfl (by kernel_rfl) (fun _ _ _ h => h) (Or.inl ⟨by rfl, ?_⟩) ?_ ?_
    rotate_left
    · intro w'
      go_simp
      with_reducible rfl
    rotate_left
    · simp only [Act.put, List.setIfInBounds_toArray, List.set_cons_zero, List.set_cons_succ, i64_w, i32_w]
      rfl
    refine pure_ (i := 8) (N := some 21) (v := ?_) (a' := ?_) #[true, true, true, true, true, true, true, true, true, false, false, false, false, false, false] rfl rfl (by kernel_rfl) (fun _ _ _ h => h) (Or.inl ⟨by rfl, ?_⟩) ?_ ?_
    rotate_left
    · intro w'
      go_simp
      with_reducible rfl
    rotate_left
    · simp only [Act.put, List.setIfInBounds_toArray, List.set_cons_zero, List.set_cons_succ, i64_w, i32_w]
      rfl
    refine pure_ (i := 9) (N := some 22) (v := ?_) (a' := ?_) #[true, true, true, true, true, true, true, true, true, true, false, false, false, false, false] rfl rfl (by kernel_rfl) (fun _ _ _ h => h) (Or.inl ⟨by rfl, ?_⟩) ?_ ?_
    rotate_left
    · intro w'
      go_simp
      with_reducible rfl
    rotate_left
    · simp only [Act.put, List.setIfInBounds_toArray, List.set_cons_zero, List.set_cons_succ, i64_w, i32_w]
      rfl
    refine pure_ (i := 10) (N := some 23) (v := ?_) (a' := ?_) #[true, true, true, true, true, true, true, true, true, true, true, false, false, false, false] rfl rfl (by kernel_rfl) (fun _ _ _ h => h) (Or.inl ⟨by rfl, ?_⟩) ?_ ?_
    rotate_left
    · intro w'
      go_simp
      with_reducible rfl
    rotate_left
    · simp only [Act.put, List.setIfInBounds_toArray, List.set_cons_zero, List.set_cons_succ, i64_w, i32_w]
      rfl
    refine pure_ (i := 11) (N := some 24) (v := ?_) (a' := ?_) #[true, true, true, true, true, true, true, true, true, true, true, true, false, false, false] rfl rfl (by kernel_rfl) (fun _ _ _ h => h) (Or.inl ⟨by rfl, ?_⟩) ?_ ?_
    rotate_left
    · intro w'
      go_simp
      with_reducible rfl
    rotate_left
    · simp only [Act.put, List.setIfInBounds_toArray, List.set_cons_zero, List.set_cons_succ, i64_w, i32_w]
      rfl
    refine pure_ (i := 14) (N := some 27) (v := ?_) (a' := ?_) #[true, true, true, true, true, true, true, true, true, true, true, true, false, false, true] rfl rfl (by kernel_rfl) (fun _ _ _ h => h) (Or.inl ⟨by rfl, ?_⟩) ?_ ?_
    rotate_left
    · intro w'
      go_simp
      with_reducible rfl
    rotate_left
    · simp only [Act.put, List.setIfInBounds_toArray, List.set_cons_zero, List.set_cons_succ, i64_w, i32_w]
      rfl
    refine one_ (i := 12) (N := some 25) #[true, true, true, true, true, true, true, true, true, true, true, true, true, false, true] rfl rfl (by kernel_rfl) (by decide) (fun K hK => ?_)
    refine value_ (w1 := ?_) (v := ?_) (by rfl) rfl ?_ ?_
    rotate_left 2
    · go_simp
      constructor
      · rfl
      · rfl
    refine hK.out _ _ trivial (fun hHeld => ?_)
    clear hK K
    refine norm_ (a' := ?_) ?_ ?_
    rotate_left
    · show Act.put _ (some 25) _ = _
      simp only [Act.put, List.setIfInBounds_toArray, List.set_cons_zero, List.set_cons_succ, i64_w, i32_w]
      rfl
    refine pure_ (i := 13) (N := some 26) (v := ?_) (a' := ?_) #[true, true, true, true, true, true, true, true, true, true, true, true, true, true, true] rfl rfl (by kernel_rfl) (fun _ _ _ h => h) (Or.inl ⟨by rfl, ?_⟩) ?_ ?_
    rotate_left
    · intro w'
      go_simp
      with_reducible rfl
    rotate_left
    · simp only [Act.put, List.setIfInBounds_toArray, List.set_cons_zero, List.set_cons_succ, i64_w, i32_w]
      rfl
    refine done_ (by kernel_rfl) ?_
    have HKr := Aside0.mk (blk_drew (blk_new w1 (.cells #[.pointer (some ⟨gp, 0, none⟩), .pointer (some ⟨gp, 1, none⟩), .pointer (some ⟨gp, 2, none⟩)] 154)))
    have hBw : Below w.heap.size w ((w1.alloc (.cells #[.pointer (some ⟨gp, 0, none⟩), .pointer (some ⟨gp, 1, none⟩), .pointer (some ⟨gp, 2, none⟩)] 154)).drew) := below_drew (below_alloc (by have := HB0.out; rw [← HG.out] at this; exact this) _)
    have HF : Aside0 (SzF B gp w n b wc g w1.heap.size ws S vr vl vj ((w1.alloc (.cells #[.pointer (some ⟨gp, 0, none⟩), .pointer (some ⟨gp, 1, none⟩), .pointer (some ⟨gp, 2, none⟩)] 154)).drew)) :=
      ⟨⟨H.out.below hBw, blk_drew (blk_alloc K0.out _), HKr.out, KP.of_below H.out.sz hBw, Kd.R_below HW.out hBw⟩⟩
    generalize (w1.alloc (.cells #[.pointer (some ⟨gp, 0, none⟩), .pointer (some ⟨gp, 1, none⟩), .pointer (some ⟨gp, 2, none⟩)] 154)).drew = w2 at HF ⊢
    generalize w1.heap.size = gr at HF ⊢
    clear K0 HB0 HKr hBw w1
    go_wp2
    go_loopw [27] (fun cv w' => ∃ k : Nat, cv = .int .i64 k ∧ k ≤ 3 ∧ ∃ wr : World, wr = w' ∧ Aside0 (SzF B gp w n b wc g gr ws (sizeUp S ws k) vr vl vj wr) ∧ Aside0 (∀ j, j < k → (nAt ws j).2 = 0)) (fun cv _ => (3 - intOf cv).toNat)
    case atStart => exact ⟨0, rfl, by omega, _, rfl, HF, ⟨fun j hj => by omega⟩⟩
    case round =>
      obtain ⟨k, rfl, hk, wr, rfl, HF, HN⟩ := hrel
      by_cases hlt : (k : Int) < 3
      · have hk3 : k < 3 := by omega
        have hwr : wrap64 ((k : Int) + 1) = (k : Int) + 1 := w64 (by omega) (by omega)
        have x0 : wr.cell? ⟨g, 0, none⟩ = some (.int .i64 n) := blk_cell HF.out.kl 0
        have x1 : wr.cell? ⟨g, 1, none⟩ = some (.slice (some ⟨b, 0, none⟩) 4 wc) := blk_cell HF.out.kl 1
        have xr : wr.cell? ⟨gr, k, none⟩ = some (.pointer (some ⟨gp, k, none⟩)) := by
          rw [blk_cell HF.out.kr k]
          have : k = 0 ∨ k = 1 ∨ k = 2 := by omega
          rcases this with rfl | rfl | rfl <;> rfl
        have xw : wr.cell? ⟨b, k + 1, none⟩ = some (.string (ws.getD (k + 1) ⟨#[]⟩)) := words_cell HF.out.w (k + 1) (by omega)
        have HNu := Aside0.mk (num_b (ws.getD (k + 1) ⟨#[]⟩) wr (by have := hsz (k + 1); omega) (HE.out.e _ HF.out.k.b))
        have hat : nAt ws k = numParse (ws.getD (k + 1) ⟨#[]⟩).data.toList 256 := rfl
        rw [← hat] at HNu
        clear hat
        generalize hv : nAt ws k = v at HNu
        have HV := Aside0.mk hv
        clear hv
        obtain ⟨v1, v2⟩ := v
        generalize ws.getD (k + 1) ⟨#[]⟩ = x at *
        go_wp2_with fail
        refine HNu.out.mono ?_
        rintro e w3 ⟨rfl, hb⟩
        unfold numV
        have HF3 := Aside0.mk (HF.out.below hb)
        clear hb x0 x1 xr xw HNu
        by_cases hv2 : v2 = 0
        · subst hv2
          have hz : ∃ z, w3.cell? ⟨gp, k, none⟩ = some (.int .i64 z) := by
            obtain ⟨c0, c1, c2, _⟩ := HF3.out.p.cells
            have : k = 0 ∨ k = 1 ∨ k = 2 := by omega
            rcases this with rfl | rfl | rfl
            · exact ⟨_, c0⟩
            · exact ⟨_, c1⟩
            · exact ⟨_, c2⟩
          obtain ⟨z, hz⟩ := hz
          have fz := blk_frozen HF3.out.p.p k
          have HP : Aside0 (SzF B gp w n b wc g gr ws (sizeUp S ws (k + 1)) vr vl vj (w3.setCell ⟨gp, k, none⟩ (.int .i64 v1))) := ⟨by
            have := HF3.out.put k hk3 v1
            rw [sizeUp, HV.out]
            exact this⟩
          have HN2 : Aside0 (∀ j, j < k + 1 → (nAt ws j).2 = 0) := ⟨fun j hj => by
            by_cases h : j < k
            · exact HN.out j h
            · obtain rfl : j = k := by omega
              rw [HV.out]⟩
          clear HF3 HN
          go_wp2
          go_roundw
          case rel => exact ⟨k + 1, by simp [hwr], by omega, _, rfl, HP, HN2⟩
          case measure => simp [intOf, hwr]; omega
        · have HE2 : Aside0 (sizeS S ws = (S, v2)) := ⟨by
            have := sizeS_err HSz.out hk3 HN.out (by rw [HV.out]; exact hv2)
            rw [HV.out] at this
            exact this⟩
          go_wp2
          go_ret
          rw [HE2.out]
          exact ⟨rfl, HF3.out.k, fun e => absurd e hv2⟩
      · obtain rfl : k = 3 := by omega
        have HO := Aside0.mk (sizeS_ok HSz.out HN.out)
        have y4 : wr.cell? ⟨gp, 4, none⟩ = some (.bool (sizeUp S ws 3).sized) := HF.out.p.cells.2.2.2.2.1
        have fz := blk_frozen HF.out.p.p 4
        have HK := Aside0.mk (HF.out.k.trans (KP.set (j := 4) HF.out.p.gb HF.out.p.p (by rfl) (.bool true)))
        have HP := Aside0.mk HF.out.p.sized
        clear HF
        generalize (sizeUp S ws 3).sized = z at y4
        go_wp2
        go_ret
        rw [HO.out]
        exact ⟨rfl, HK.out, fun _ => ⟨_, _, _, HP.out⟩⟩
end Go.Proofs.YtolmkdhgnganaaaGreatDoor.H
namespace Go.Proofs.YtolmkdhgnganaaaGreatDoor.H
open Go Go.RowKit Go.Proofs Go.Proofs.YtolmkdhgnganaaaGreatDoorW.PrintWords Go.Proofs.YtolmkdhgnganaaaGreatDoor.Sp
/-- A rung's jump is stored. -/
theorem S_jump {w : World} {B g n cap : Nat} {l : List Rung} (h : Kd.S kRung 53 w B (fun _ => True) (.slice (some ⟨g, 0, none⟩) n cap) l) (k : Nat) (hk : k < n) (s : ByteArray) :
    Kd.S kRung 53 (w.setCell ⟨g, k * 4 + 3, none⟩ (.string s)) B (fun _ => True) (.slice (some ⟨g, 0, none⟩) n cap) (l.set k ⟨(rdR l k).f0, (rdR l k).f1, (rdR l k).f2, s⟩) ∧ w.grownBy (w.setCell ⟨g, k * 4 + 3, none⟩ (.string s)) (some g) := by
  have h2 : Kd.S kRung 53 w B (fun k => True ∧ ¬ False) (.slice (some ⟨g, 0, none⟩) n cap) l := Kd.S_mono h (fun _ _ => ⟨trivial, fun h => h⟩)
  obtain ⟨oki, c, _, hM, _, _, hoki, hH⟩ := Kd.S_elem h2 PPrinterRoundTrip.z53 (k : Int) (by omega) (by omega)
  obtain ⟨v1, v2, rfl, g1, g2⟩ := PPrinterRoundTrip.k53_openM hM
  have := Kd.S_seg (okg := fun _ => False) (okp := oki) hH (by omega) (by omega) (seg := [.string s]) (j := 3) (by show 3 + 1 ≤ 4; omega) (x' := ⟨(rdR l k).f0, (rdR l k).f1, (rdR l k).f2, s⟩) (PPrinterRoundTrip.k53_mkM w B oki ⟨(rdR l k).f0, (rdR l k).f1, (rdR l k).f2, s⟩ g1 g2) (fun k hk => .inl hk) (fun k hk => hk.elim)
  exact this
/-- A rung's cells. -/
theorem S_cells4 {w : World} {B : Nat} {g n cap : Nat} {l : List Rung} (h : Kd.S kRung 53 w B (fun _ => True) (.slice (some ⟨g, 0, none⟩) n cap) l) (k : Nat) (hk : k < n) :
    ∃ v1 v2, w.cell? ⟨g, k * 4, none⟩ = some (.string (rdR l k).f0) ∧ w.cell? ⟨g, k * 4 + 1, none⟩ = some v1 ∧ w.cell? ⟨g, k * 4 + 2, none⟩ = some v2 ∧ w.cell? ⟨g, k * 4 + 3, none⟩ = some (.string (rdR l k).f3) ∧ (∀ o, w.frozen? ⟨g, k * 4 + o, none⟩ = false) ∧
      (∃ A c, v1 = .slice A (rdR l k).f1.length c) ∧ (∃ A c, v2 = .slice A (rdR l k).f2.length c) := by
  obtain ⟨oki, c, _, hM, hcc0, hfr, _⟩ := Kd.S_elem h PPrinterRoundTrip.z53 (k : Int) (by omega) (by omega)
  have hcc : ∀ i u, c[i]? = some u → w.cell? ⟨g, k * 4 + i, none⟩ = some u := hcc0
  obtain ⟨v1, v2, rfl, g1, g2⟩ := PPrinterRoundTrip.k53_openM hM
  obtain ⟨A1, c1, e1, _, _⟩ := Kd.R_reads g1
  obtain ⟨A2, c2, e2, _, _⟩ := Kd.R_reads g2
  exact ⟨v1, v2, hcc 0 _ rfl, hcc 1 _ rfl, hcc 2 _ rfl, hcc 3 _ rfl, hfr, ⟨A1, c1, e1⟩, ⟨A2, c2, e2⟩⟩
/-- Another row of numbers is kept where one is stored into. -/
theorem R_int_far {w : World} {B : Nat} {v : Value} {l : List Int} (h : (Kd.int .i64).R 3 w B (fun _ => True) v l) {g j : Nat} (hne : ∀ k, v.ownBlock = some k → k ≠ g) (u : Value) : (Kd.int .i64).R 3 (w.setCell ⟨g, j, none⟩ u) B (fun _ => True) v l :=
  Kd.R_mono (Kd.R_far (p := ⟨g, j, none⟩) (Kd.R_tight rfl h) (fun k hk => hne k hk.symm) u) (fun _ _ => trivial)
/-- Behind a jump line. -/
theorem PF.jump {B gp g n cap gj nj cj : Nat} {S : PSt} {vl : Value} {w : World} (h : PF B gp S (.slice (some ⟨g, 0, none⟩) n cap) vl (.slice (some ⟨gj, 0, none⟩) nj cj) w) (k : Nat) (hk : k < n) (s : ByteArray) (x : Int) :
    PF B gp ⟨S.i, S.q, S.m, S.sized, S.rungs.set k ⟨(rdR S.rungs k).f0, (rdR S.rungs k).f1, (rdR S.rungs k).f2, s⟩, S.lines, S.jumps.set k x⟩ (.slice (some ⟨g, 0, none⟩) n cap) vl (.slice (some ⟨gj, 0, none⟩) nj cj) ((w.setCell ⟨g, k * 4 + 3, none⟩ (.string s)).setCell ⟨gj, k, none⟩ (.int .i64 x)) ∧
      KP B w ((w.setCell ⟨g, k * 4 + 3, none⟩ (.string s)).setCell ⟨gj, k, none⟩ (.int .i64 x)) := by
  obtain ⟨hS, hg⟩ := S_jump h.r k hk s
  have hgb : B ≤ g := Kd.S_base h.r g rfl
  have hjb : B ≤ gj := Kd.R_base h.j gj rfl
  obtain ⟨cg, htg⟩ := Kd.S_typed h.r g rfl
  obtain ⟨cj', htj⟩ := Kd.R_typed h.j gj rfl
  have ngp : gp ≠ g := fun e => by have := h.p; rw [e, htg] at this; cases this
  have njg : gj ≠ g := fun e => by rw [e, htg] at htj; cases htj
  have ngj : gp ≠ gj := fun e => by have := h.p; rw [e, htj] at this; cases this
  have hp1 := blk_far h.p (p := ⟨g, k * 4 + 3, none⟩) ngp (.string s)
  have hl1 := Kd.R_set h.l htg (by decide) (k * 4 + 3) (.string s)
  have hj1 := Kd.R_set h.j htg (by decide) (k * 4 + 3) (.string s)
  have htj1 := blk_far htj (p := ⟨g, k * 4 + 3, none⟩) njg (.string s)
  have hk1 : KP B w (w.setCell ⟨g, k * 4 + 3, none⟩ (.string s)) := KP.set hgb htg (by rfl) _
  have hs1 : B ≤ (w.setCell ⟨g, k * 4 + 3, none⟩ (.string s)).heap.size := by have := h.sz; simpa using this
  generalize w.setCell ⟨g, k * 4 + 3, none⟩ (.string s) = w1 at *
  have hnj : nj = S.jumps.length := (Kd.R_reads' h.j).1
  subst hnj
  have hj2 := Kd.R_put hj1 (k : Int) x
  have hs2 : B ≤ (w1.setCell ⟨gj, k, none⟩ (.int .i64 x)).heap.size := by simpa using hs1
  refine ⟨⟨h.gb, hs2, blk_far hp1 (p := ⟨gj, k, none⟩) ngj _, Kd.S_set hS htj1 (by decide) k _, R_int_far hl1 (fun i hi e => h.lj i hi (by rw [e]; rfl)) _, hj2.1, h.lj, by rw [List.length_set]; exact h.nl, by rw [List.length_set, List.length_set]; exact h.nj, by rw [List.length_set]; exact h.n64⟩, hk1.trans (KP.set hjb htj1 (by rfl) _)⟩
/-- A rung's coils, one put behind them. -/
theorem coil_open {w : World} {B g n cap : Nat} {l : List Rung} (h : Kd.S kRung 53 w B (fun _ => True) (.slice (some ⟨g, 0, none⟩) n cap) l) (k : Nat) (hk : k < n) :
    ∃ v2, w.cell? ⟨g, k * 4 + 2, none⟩ = some v2 ∧ (∃ A c, v2 = .slice A (rdR l k).f2.length c) ∧ kCoil.R 69 w B (fun _ => True) v2 (rdR l k).f2 ∧
      ∀ {w1 : World} {v1 : Value} (c : Coil), kCoil.R 69 w1 B (fun _ => True) v1 ((rdR l k).f2 ++ [c]) → w.grownBy w1 v2.ownBlock → (v1.ownBlock = v2.ownBlock ∨ ∃ b, v1.ownBlock = some b ∧ w.heap.size ≤ b) →
        Kd.S kRung 53 (w1.setCell ⟨g, k * 4 + 2, none⟩ v1) B (fun _ => True) (.slice (some ⟨g, 0, none⟩) n cap) (l.set k ⟨(rdR l k).f0, (rdR l k).f1, (rdR l k).f2 ++ [c], (rdR l k).f3⟩) := by
  have h2 : Kd.S kRung 53 w B (fun i => True ∧ ¬ w.heap.size ≤ i) (.slice (some ⟨g, 0, none⟩) n cap) l := Kd.S_mono (Kd.S_old h (Below.refl _ _)) (fun i hi => ⟨trivial, by have := hi.2; omega⟩)
  obtain ⟨oki, c0, _, hM, hcc0, _, hoki, hH⟩ := Kd.S_elem h2 PPrinterRoundTrip.z53 (k : Int) (by omega) (by omega)
  have hcc : ∀ i u, c0[i]? = some u → w.cell? ⟨g, k * 4 + i, none⟩ = some u := hcc0
  obtain ⟨v1', v2, rfl, g1, g2⟩ := PPrinterRoundTrip.k53_openM hM
  change kCon.R 59 w B oki v1' (rdR l k).f1 at g1
  change kCoil.R 69 w B oki v2 (rdR l k).f2 at g2
  obtain ⟨A2, c2, e2, _, _⟩ := Kd.R_reads g2
  refine ⟨v2, hcc 2 _ rfl, ⟨A2, c2, e2⟩, Kd.R_mono g2 (fun _ _ => trivial), fun {w1 v1} c hR hg hat => ?_⟩
  have hR2 : kCoil.R 69 w1 B (fun i => oki i ∨ w.heap.size ≤ i) v1 ((rdR l k).f2 ++ [c]) := Kd.R_mono (Kd.R_tight rfl hR) (fun i hi => by
    rcases hat with e | ⟨b, e, hb⟩
    · exact .inl (g2.1 i (by rw [← e]; exact hi.symm))
    · rw [e] at hi
      cases hi
      exact .inr hb)
  have g1' : kCon.R 59 w1 B (fun i => oki i ∨ w.heap.size ≤ i) v1' (rdR l k).f1 := Kd.R_mono (Kd.R_over' g1 (Kd.R_typed g2) (by decide) hg) (fun i hi => .inl hi)
  have hH1 := Kd.H_grown hH hg (fun i e => g2.1 i e)
  exact (Kd.S_seg (okg := fun i => w.heap.size ≤ i) (okp := fun i => oki i ∨ w.heap.size ≤ i) hH1 (by omega) (by omega) (seg := [v1]) (j := 2) (by show 2 + 1 ≤ 4; omega) (x' := ⟨(rdR l k).f0, (rdR l k).f1, (rdR l k).f2 ++ [c], (rdR l k).f3⟩)
    (PPrinterRoundTrip.k53_mkM w1 B (fun i => oki i ∨ w.heap.size ≤ i) ⟨(rdR l k).f0, (rdR l k).f1, (rdR l k).f2 ++ [c], (rdR l k).f3⟩ g1' hR2) (fun i hi => hi) (fun i hi => ⟨trivial, fun e => by
      have := Kd.S_lt h g rfl
      omega⟩)).1
/-- A rung's contacts, one put behind them. -/
theorem con_open {w : World} {B g n cap : Nat} {l : List Rung} (h : Kd.S kRung 53 w B (fun _ => True) (.slice (some ⟨g, 0, none⟩) n cap) l) (k : Nat) (hk : k < n) :
    ∃ v2, w.cell? ⟨g, k * 4 + 1, none⟩ = some v2 ∧ (∃ A c, v2 = .slice A (rdR l k).f1.length c) ∧ kCon.R 59 w B (fun _ => True) v2 (rdR l k).f1 ∧
      ∀ {w1 : World} {v1 : Value} (c : Con), kCon.R 59 w1 B (fun _ => True) v1 ((rdR l k).f1 ++ [c]) → w.grownBy w1 v2.ownBlock → (v1.ownBlock = v2.ownBlock ∨ ∃ b, v1.ownBlock = some b ∧ w.heap.size ≤ b) →
        Kd.S kRung 53 (w1.setCell ⟨g, k * 4 + 1, none⟩ v1) B (fun _ => True) (.slice (some ⟨g, 0, none⟩) n cap) (l.set k ⟨(rdR l k).f0, (rdR l k).f1 ++ [c], (rdR l k).f2, (rdR l k).f3⟩) := by
  have h2 : Kd.S kRung 53 w B (fun i => True ∧ ¬ w.heap.size ≤ i) (.slice (some ⟨g, 0, none⟩) n cap) l := Kd.S_mono (Kd.S_old h (Below.refl _ _)) (fun i hi => ⟨trivial, by have := hi.2; omega⟩)
  obtain ⟨oki, c0, _, hM, hcc0, _, hoki, hH⟩ := Kd.S_elem h2 PPrinterRoundTrip.z53 (k : Int) (by omega) (by omega)
  have hcc : ∀ i u, c0[i]? = some u → w.cell? ⟨g, k * 4 + i, none⟩ = some u := hcc0
  obtain ⟨v2, v1', rfl, g2, g1⟩ := PPrinterRoundTrip.k53_openM hM
  change kCon.R 59 w B oki v2 (rdR l k).f1 at g2
  change kCoil.R 69 w B oki v1' (rdR l k).f2 at g1
  obtain ⟨A2, c2, e2, _, _⟩ := Kd.R_reads g2
  refine ⟨v2, hcc 1 _ rfl, ⟨A2, c2, e2⟩, Kd.R_mono g2 (fun _ _ => trivial), fun {w1 v1} c hR hg hat => ?_⟩
  have hR2 : kCon.R 59 w1 B (fun i => oki i ∨ w.heap.size ≤ i) v1 ((rdR l k).f1 ++ [c]) := Kd.R_mono (Kd.R_tight rfl hR) (fun i hi => by
    rcases hat with e | ⟨b, e, hb⟩
    · exact .inl (g2.1 i (by rw [← e]; exact hi.symm))
    · rw [e] at hi
      cases hi
      exact .inr hb)
  have g1' : kCoil.R 69 w1 B (fun i => oki i ∨ w.heap.size ≤ i) v1' (rdR l k).f2 := Kd.R_mono (Kd.R_over' g1 (Kd.R_typed g2) (by decide) hg) (fun i hi => .inl hi)
  have hH1 := Kd.H_grown hH hg (fun i e => g2.1 i e)
  exact (Kd.S_seg (okg := fun i => w.heap.size ≤ i) (okp := fun i => oki i ∨ w.heap.size ≤ i) hH1 (by omega) (by omega) (seg := [v1]) (j := 1) (by show 1 + 1 ≤ 4; omega) (x' := ⟨(rdR l k).f0, (rdR l k).f1 ++ [c], (rdR l k).f2, (rdR l k).f3⟩)
    (PPrinterRoundTrip.k53_mkM w1 B (fun i => oki i ∨ w.heap.size ≤ i) ⟨(rdR l k).f0, (rdR l k).f1 ++ [c], (rdR l k).f2, (rdR l k).f3⟩ hR2 g1') (fun i hi => hi) (fun i hi => ⟨trivial, fun e => by
      have := Kd.S_lt h g rfl
      omega⟩)).1
/-- Behind a line of a contact or a coil: a row (type t) has grown, and is stored into its rung. -/
theorem PF.row {B gp g n cap : Nat} {S : PSt} {vl vj : Value} {w w1 : World} (h : PF B gp S (.slice (some ⟨g, 0, none⟩) n cap) vl vj w) {v2 v1 : Value} {t : Nat} (htv : ∀ i, v2.ownBlock = some i → B ≤ i ∧ ∃ cells, w.heap[i]? = some (.cells cells t (0, 0)))
    (ht : parT t = true) (h93 : t ≠ 77) (h3 : t ≠ 3) (h40 : t ≠ 53) (hg : w.grownBy w1 v2.ownBlock) {o : Nat} {rs : List Rung} (hS : Kd.S kRung 53 (w1.setCell ⟨g, o, none⟩ v1) B (fun _ => True) (.slice (some ⟨g, 0, none⟩) n cap) rs) (hlen : rs.length = S.rungs.length) :
    PF B gp ⟨S.i, S.q, S.m, S.sized, rs, S.lines, S.jumps⟩ (.slice (some ⟨g, 0, none⟩) n cap) vl vj (w1.setCell ⟨g, o, none⟩ v1) ∧ KP B w (w1.setCell ⟨g, o, none⟩ v1) := by
  have hgb : B ≤ g := Kd.S_base h.r g rfl
  obtain ⟨cg, htg⟩ := Kd.S_typed h.r g rfl
  have far : ∀ {i t' : Nat} {cs : Array Value}, w.heap[i]? = some (.cells cs t' (0, 0)) → t ≠ t' → w1.heap[i]? = some (.cells cs t' (0, 0)) := fun {i t' cs} hh hne => (hg.block i (blk_lt hh) (fun e => by
    obtain ⟨_, cells, hc⟩ := htv i e.symm
    rw [hh] at hc
    cases hc
    exact hne rfl)).trans hh
  have ngp : gp ≠ g := fun e => by have := h.p; rw [e, htg] at this; cases this
  have hk1 : KP B w w1 := KP.grown h.sz hg htv ht
  have htg1 := far htg h40
  have hs1 : B ≤ (w1.setCell ⟨g, o, none⟩ v1).heap.size := by have := Nat.le_trans h.sz hg.size; simpa using this
  have tys : ∀ q, q ∈ 3 :: (Kd.int .i64).E → q ≠ t := fun q hq => by
    have : q = 3 := by simpa [Kd.int, Kd.scalar] using hq
    subst this
    exact h3.symm
  exact ⟨⟨h.gb, hs1, blk_far (far h.p h93) (p := ⟨g, o, none⟩) ngp _, hS, Kd.R_set (Kd.R_over' h.l (fun i e => (htv i e).2) tys hg) htg1 (by decide) o _, Kd.R_set (Kd.R_over' h.j (fun i e => (htv i e).2) tys hg) htg1 (by decide) o _,
    h.lj, by rw [hlen]; exact h.nl, by rw [hlen]; exact h.nj, by rw [hlen]; exact h.n64⟩, hk1.trans (KP.set hgb htg1 (by rfl) _)⟩
end Go.Proofs.YtolmkdhgnganaaaGreatDoor.H
